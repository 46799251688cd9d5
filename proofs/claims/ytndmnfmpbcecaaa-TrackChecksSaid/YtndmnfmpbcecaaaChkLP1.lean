/- The program's functions compute what the plain Lean programs compute, part 1; printed by a program. -/
import Derived.Test.YtndmnfmpbcecaaaChkLD
import Derived.Test.YtndmnfmpbcecaaaL0hegfhhij
import Derived.Test.YtndmnfmpbcecaaaKn26ifobjfci
import Derived.Test.YtndmnfmpbcecaaaDelLgjcenedo
import Derived.Test.YtndmnfmpbcecaaaSortLildbofhm
import Derived.Test.YtndmnfmpbcecaaaSortMjokciapd
import Derived.Test.YtndmnfmpbcecaaaSortTclclbppn
import Derived.Test.YtndmnfmpbcecaaaChecked
import Derived.KernelRfl
set_option linter.all false
set_option maxRecDepth 100000
set_option maxHeartbeats 4000000
namespace Go.L
open Go Go.Eng Go.Proofs
theorem fiduciallaw26_known_ok (n : Nat) (r : Bool) (hr : fiduciallaw26_known n = some r) : FnOk Try.prog 11 [] (aB r) := by
 cases hr
 exact fiduciallaw26_known_run

theorem fiduciallaw26_few_ok (n : Nat) (l : List api_Tie) (r : Bool) (hr : fiduciallaw26_few n l = some r) : FnOk Try.prog 38 [slT api_Tie.c l] (aB r) := by
 unfold fiduciallaw26_few at hr
 refine FnOk.bd G Try.func38 [.tmp 2] ?_
 unfold Try.f38
 simp only [Option.getD_some]
 refine .seq (.r4 G [0] [] (.seq ?_))
 rcases Bool.eq_false_or_eq_true (decide ((l.length : Int) ≤ 30)) with hb1 | hb1
 ·replace hr := cd_t hb1 hr
  refine .r0 G (.mu 2 (.p0 (v := aB true) (eB hb1) (.mu 11 (.done (.ret ?_)))))
  obtain rfl := oi hr
  exact FinQ.r1 [aB true]
 ·replace hr := cd_f hb1 hr
  rcases Bool.eq_false_or_eq_true (decide ((l.length : Int) > 256)) with hb2 | hb2
  ·replace hr := cd_t hb2 hr
   refine .r0 G (.mu 2 (.p0 (v := aB false) (eB hb1) (.mu 3 (.pure (v := aB true) (by kernel_rfl) (eB hb2) (.mu 7 (.done (.ret ?_)))))))
   obtain rfl := oi hr
   exact FinQ.r1 [aB (decide ((l.length : Int) ≤ 300))]
  ·replace hr := cd_f hb2 hr
   refine .r0 G (.mu 2 (.p0 (v := aB false) (eB hb1) (.mu 3 (.pure (v := aB false) (by kernel_rfl) (eB hb2) (.mu 7 (.done (.ret ?_)))))))
   obtain rfl := oi hr
   exact FinQ.r1 [aB false]

theorem fiduciallaw26_short_1_ok (n : Nat) (t : List api_Mark) (r : Bool) (hr : fiduciallaw26_short_1 n t = some r) : FnOk Try.prog 63 [slT api_Mark.c t] (aB r) := by
 unfold fiduciallaw26_short_1 at hr
 refine FnOk.bd G Try.func63 [.tmp 2] ?_
 unfold Try.f63
 simp only [Option.getD_some]
 refine .seq (.r4 G [0] [] (.seq (.ru G (.ret ?_))))
 obtain rfl := oi hr
 exact FinQ.r1 [aB (decide ((t.length : Int) > 20))]

theorem slices_IndexFunc_fiducial_api_Mark_fiducial_api_Mark_of_fiduciallaw26_short_1_ok (n : Nat) (s : List (List api_Mark)) (r : Int) (hr : slices_IndexFunc_fiducial_api_Mark_fiducial_api_Mark_of_fiduciallaw26_short_1 n s = some r) : FnOk Try.prog 95 [slT (slC api_Mark.c) s, .fn 63 [] []] (aI64 r) := by
 unfold slices_IndexFunc_fiducial_api_Mark_fiducial_api_Mark_of_fiduciallaw26_short_1 at hr
 refine FnOk.bd G Try.func95 [.tmp 4] ?_
 unfold Try.f95
 simp only [Option.getD_some]
 refine .seq (.r4 G [0, 1] [] (.seq (.seq (.r4 G [0, 1] [(7, aI64 (s.length : Int)), (8, aI64 0)] (.block ?_)))))
 replace hr := bd hr; obtain ⟨o13, hL14, hr⟩ := hr
 refine .loopO (σ := fun z0 => match z0 with | x_1 => ⟨mkS 19 0 [(0, slT (slC api_Mark.c) s), (1, .fn 63 [] []), (7, aI64 (s.length : Int)), (8, aI64 x_1)], []⟩) (Q := fun x st' => match (generalizing := false) o13 with | .inl _ => x = .exit 0 ∧ Wk 0 st' ⟨mkS 19 0 [], []⟩ | .inr (r0) => x = .ret ∧ FinQ Try.prog [.tmp 4] (aI64 r0) .ret st') hL14 ((Wk.gc [0, 1, 7, 8] [] rfl pK0).to) ?_ ?_
 ·clear hr
  rintro m x_1 hr
  show CQ _ _ _ _ _ ⟨_, _⟩
  refine .seq (.r4 G [0, 1, 7, 8] [(9, aB (decide (x_1 < (s.length : Int))))] (.seq ?_))
  refine .cd hr (fun hb8 hr => ?_) (fun hb8 hr => ?_)
  ·refine .skip (.seq (.block (.seq (.r4 G [0, 1, 7, 8] [(5, aI64 x_1)] (.seq ?_)))))
   obtain ⟨hg9, hr⟩ := gd hr
   obtain ⟨v10, hc11, hr⟩ := bd hr
   refine .g1 G (ok0 (fiduciallaw26_short_1_ok n (gt s x_1) v10 hc11)) (.mu 3 (.p0 (v := .pp (s.flatMap (slC api_Mark.c)) (x_1.toNat * 1)) (tr (ofP_guard hg9)) (.p0 (v := slT api_Mark.c (gt s x_1)) (tr (ofP_some (flat_get (slC_len api_Mark.c) (inR_lt hg9) (by decide : 0 < 1) (by omega : x_1.toNat * 1 = x_1.toNat * 1 + 0) (by kernel_rfl)))) (.ca cf0 (.done (.nh [0, 1, 5, 7, 8, 16] [] ?_))))))
   refine .cd hr (fun hb12 hr => ?_) (fun hb12 hr => ?_)
   ·refine .seq (.ru G (.ret ?_))
    obtain rfl := oi hr
    exact ⟨rfl, FinQ.ret (vs := [aI64 x_1]) (by kernel_rfl) (Sn.pure rfl)⟩
   ·refine .skip (.pop (.ru G ?_))
    exact loopF_back (wrapF .i64 (x_1 + 1)) hr ((Wk.gc [0, 1, 7, 8] [] rfl pK0).to)
  ·refine .leave rfl ?_
   obtain rfl := oi hr
   exact ⟨rfl, ((Wk.gc [] [] rfl pK0).to)⟩
 ·rcases o13 with ⟨⟩ | r0
  ·rintro x st' hq15
   clear hL14
   obtain ⟨rfl, hq15⟩ := hq15
   refine CQ_exit _ rfl (.wk hq15 (.seq (.ru G (.ret ?_))))
   obtain rfl := oi hr
   exact FinQ.r1 [aI64 (-1)]
  ·rintro x st' hq15
   clear hL14
   obtain ⟨rfl, hq15⟩ := hq15
   obtain rfl := oi hr
   exact CQ_ret _ hq15

theorem slices_ContainsFunc_fiducial_api_Mark_fiducial_api_Mark_of_fiduciallaw26_short_1_ok (n : Nat) (s : List (List api_Mark)) (r : Bool) (hr : slices_ContainsFunc_fiducial_api_Mark_fiducial_api_Mark_of_fiduciallaw26_short_1 n s = some r) : FnOk Try.prog 62 [slT (slC api_Mark.c) s, .fn 63 [] []] (aB r) := by
 unfold slices_ContainsFunc_fiducial_api_Mark_fiducial_api_Mark_of_fiduciallaw26_short_1 at hr
 refine FnOk.bd G Try.func62 [.tmp 4] ?_
 unfold Try.f62
 simp only [Option.getD_some]
 refine .seq (.r4 G [0, 1] [] (.seq ?_))
 obtain ⟨v1, hc2, hr⟩ := bd hr
 refine .g1 G (ok0 (slices_IndexFunc_fiducial_api_Mark_fiducial_api_Mark_of_fiduciallaw26_short_1_ok n s v1 hc2)) (.mu 2 (.ca cf0 (.mu 2 (.done (.ret ?_)))))
 obtain rfl := oi hr
 exact FinQ.r1 [aB (decide (v1 ≥ 0))]

theorem fiduciallaw26_short_ok (n : Nat) (l : List (List api_Mark)) (r : Bool) (hr : fiduciallaw26_short n l = some r) : FnOk Try.prog 32 [slT (slC api_Mark.c) l] (aB r) := by
 unfold fiduciallaw26_short at hr
 refine FnOk.bd G Try.func32 [.tmp 2] ?_
 unfold Try.f32
 simp only [Option.getD_some]
 refine .seq (.r4 G [0] [] (.seq ?_))
 rcases Bool.eq_false_or_eq_true (decide ((l.length : Int) ≤ 20)) with hb1 | hb1
 ·replace hr := cd_t hb1 hr
  obtain ⟨v2, hc3, hr⟩ := bd hr
  refine .g1 G (ok0 (slices_ContainsFunc_fiducial_api_Mark_fiducial_api_Mark_of_fiduciallaw26_short_1_ok n l v2 hc3)) (.mu 2 (.p0 (v := aB true) (eB hb1) (.mu 12 (.ca cf0 (.mu 3 (.done (.ret ?_)))))))
  obtain rfl := oi hr
  exact FinQ.r1 [aB (!v2)]
 ·replace hr := cd_f hb1 hr
  rcases Bool.eq_false_or_eq_true (decide ((l.length : Int) > 256)) with hb4 | hb4
  ·replace hr := cd_t hb4 hr
   rcases Bool.eq_false_or_eq_true (decide ((l.length : Int) ≤ 300)) with hb5 | hb5
   ·replace hr := cd_t hb5 hr
    obtain ⟨v6, hc7, hr⟩ := bd hr
    refine .g1 G (ok0 (slices_ContainsFunc_fiducial_api_Mark_fiducial_api_Mark_of_fiduciallaw26_short_1_ok n l v6 hc7)) (.mu 2 (.p0 (v := aB false) (eB hb1) (.mu 3 (.pure (v := aB true) (by kernel_rfl) (eB hb4) (.mu 3 (.pure (v := aB true) (by kernel_rfl) (eB hb5) (.mu 4 (.ca cf0 (.mu 3 (.done (.ret ?_)))))))))))
    obtain rfl := oi hr
    exact FinQ.r1 [aB (!v6)]
   ·replace hr := cd_f hb5 hr
    refine .r0 G (.mu 2 (.p0 (v := aB false) (eB hb1) (.mu 3 (.pure (v := aB true) (by kernel_rfl) (eB hb4) (.mu 3 (.pure (v := aB false) (by kernel_rfl) (eB hb5) (.mu 8 (.done (.ret ?_)))))))))
    obtain rfl := oi hr
    exact FinQ.r1 [aB false]
  ·replace hr := cd_f hb4 hr
   refine .r0 G (.mu 2 (.p0 (v := aB false) (eB hb1) (.mu 3 (.pure (v := aB false) (by kernel_rfl) (eB hb4) (.mu 12 (.done (.ret ?_)))))))
   obtain rfl := oi hr
   exact FinQ.r1 [aB false]

theorem fiduciallaw26_Checked_ok (n : Nat) (l : List api_Tie) (r : Int) (hr : fiduciallaw26_Checked n l = some r) : FnOk Try.prog 39 [slT api_Tie.c l] (aI64 r) := by
 unfold fiduciallaw26_Checked at hr
 refine FnOk.bd G Try.func39 [.tmp 2] ?_
 unfold Try.f39
 simp only [Option.getD_some]
 refine .seq (.r4 G [0] [] (.seq (.seq (.r4 G [0] [(9, aB (decide ((l.length : Int) > 256)))] ?_))))
 refine .cd hr (fun hb2 hr => ?_) (fun hb2 hr => ?_)
 ·refine .seq (.ru G (.ret ?_))
  obtain rfl := oi hr
  exact FinQ.r1 [aI64 3]
 ·refine .skip (.seq (.seq (.r3 G 61 [(10, slT api_Tie.c l), (11, aI64 (l.length : Int)), (12, aI64 0)] (.block ?_))))
  replace hr := bd hr; obtain ⟨o93, hL94, hr⟩ := hr
  refine .loopO (σ := fun z0 => match z0 with | x_3 => ⟨mkS 61 0 [(10, slT api_Tie.c l), (11, aI64 (l.length : Int)), (12, aI64 x_3)], []⟩) (Q := fun x st' => match (generalizing := false) o93 with | .inl _ => x = .exit 0 ∧ Wk 0 st' ⟨mkS 61 0 [], []⟩ | .inr (r0) => x = .ret ∧ FinQ Try.prog [.tmp 2] (aI64 r0) .ret st') hL94 ((Wk.gc [10, 11, 12] [] rfl pK0).to) ?_ ?_
  ·clear hr
   rintro m x_3 hr
   show CQ _ _ _ _ _ ⟨_, _⟩
   refine .seq (.r4 G [10, 11, 12] [(13, aB (decide (x_3 < (l.length : Int))))] (.seq ?_))
   refine .cd hr (fun hb50 hr => ?_) (fun hb50 hr => ?_)
   ·refine .skip (.seq (.block (.seq ?_)))
    obtain ⟨hg51, hr⟩ := gd hr
    refine .r0 G (.p0 (v := .pp (l.flatMap api_Tie.c) (x_3.toNat * 5)) (tr (ofP_guard hg51)) (.p0 (v := .agg (api_Tie.c (gt l x_3))) (Eq.trans (b := ORes.ofP (guardV (decide (5 ≤ ((l.flatMap api_Tie.c).drop (x_3.toNat * 5)).length)) (.agg (((l.flatMap api_Tie.c).drop (x_3.toNat * 5)).take 5)))) (by kernel_rfl) (flat_load api_Tie.len (inR_lt hg51) (by decide) (by omega : x_3.toNat * 5 = x_3.toNat * 5 + 0) (by kernel_rfl))) (.mu 2 (.done (.nh [4, 10, 11, 12] [.own (api_Tie.c (gt l x_3))] (.seq (.seq (.r5 G [4, 10, 11, 12] [(20, .hs 1 0 2 2), (21, aI64 2), (22, aI64 0)] [.own (api_Tie.c (gt l x_3)), .own [aI64 (gt l x_3).A.Image, aI64 (gt l x_3).A.Feature, aI64 (gt l x_3).B.Image, aI64 (gt l x_3).B.Feature]] (.block ?_)))))))))
    replace hr := bd hr; obtain ⟨o87, hL88, hr⟩ := hr
    refine .loopO (σ := fun z0 => match z0 with | x_71 => ⟨mkS 61 0 [(4, .hp 0 0), (10, slT api_Tie.c l), (11, aI64 (l.length : Int)), (12, aI64 x_3), (20, .hs 1 0 ([(gt l x_3).A, (gt l x_3).B].length) 2), (21, aI64 2), (22, aI64 x_71)], [.own (api_Tie.c (gt l x_3)), .own ([(gt l x_3).A, (gt l x_3).B].flatMap api_Mark.c)]⟩) (Q := fun x st' => match (generalizing := false) o87 with | .inl _ => x = .exit 2 ∧ Wk 0 st' ⟨mkS 61 0 [(4, .hp 0 0), (10, slT api_Tie.c l), (11, aI64 (l.length : Int)), (12, aI64 x_3)], [.own (api_Tie.c (gt l x_3))]⟩ | .inr (r0) => x = .ret ∧ FinQ Try.prog [.tmp 2] (aI64 r0) .ret st') hL88 ((Wk.gc [4, 10, 11, 12, 20, 21, 22] [(0, true), (1, false)] rfl (pKt (pKc trivial))).to) ?_ ?_
    ·clear hr
     rintro m x_71 hr
     show CQ _ _ _ _ _ ⟨_, _⟩
     refine .seq (.r4 G [4, 10, 11, 12, 20, 21, 22] [(23, aB (decide (x_71 < 2)))] (.seq ?_))
     refine .cd hr (fun hb81 hr => ?_) (fun hb81 hr => ?_)
     ·refine .skip (.seq (.block (.seq ?_)))
      obtain ⟨hg82, hr⟩ := gd hr
      refine .r0 G (.p0 (v := .hp 1 (0 + x_71.toNat * 2)) (tr (ofP_guard hg82)) (.p0 (v := .agg (api_Mark.c (gt [(gt l x_3).A, (gt l x_3).B] x_71))) (Eq.trans (b := ORes.ofP (guardV (decide (2 ≤ (([(gt l x_3).A, (gt l x_3).B].flatMap api_Mark.c).drop (0 + x_71.toNat * 2)).length)) (.agg ((([(gt l x_3).A, (gt l x_3).B].flatMap api_Mark.c).drop (0 + x_71.toNat * 2)).take 2)))) (by kernel_rfl) (flat_load api_Mark.len (inR_lt hg82) (by decide) (by omega : 0 + x_71.toNat * 2 = x_71.toNat * 2 + 0) (by kernel_rfl))) (.mu 2 (.done (.nh [4, 6, 10, 11, 12, 20, 21, 22] [.own (api_Tie.c (gt l x_3)), .own ([(gt l x_3).A, (gt l x_3).B].flatMap api_Mark.c), .own (api_Mark.c (gt [(gt l x_3).A, (gt l x_3).B] x_71))] (.seq ?_))))))
      rcases Bool.eq_false_or_eq_true (decide ((gt [(gt l x_3).A, (gt l x_3).B] x_71).Image < 0)) with hb83 | hb83
      ·replace hr := cd_t hb83 hr
       refine .r0 G (.mu 2 (.p0 (v := aB true) (eB hb83) (.mu 15 (.done (.nh [4, 10, 11, 12, 20, 21, 22, 43] [.own (api_Tie.c (gt l x_3)), .own ([(gt l x_3).A, (gt l x_3).B].flatMap api_Mark.c), .own (api_Mark.c (gt [(gt l x_3).A, (gt l x_3).B] x_71))] (.cT (by kernel_rfl) (.seq (.ru G (.ret ?_)))))))))
       obtain rfl := oi hr
       exact ⟨rfl, FinQ.ret (vs := [aI64 2]) (by kernel_rfl) (Sn.pure rfl)⟩
      ·replace hr := cd_f hb83 hr
       rcases Bool.eq_false_or_eq_true (decide ((gt [(gt l x_3).A, (gt l x_3).B] x_71).Image ≥ 64)) with hb84 | hb84
       ·replace hr := cd_t hb84 hr
        refine .r0 G (.mu 2 (.p0 (v := aB false) (eB hb83) (.mu 3 (.pure (v := aB true) (by kernel_rfl) (eB hb84) (.mu 11 (.done (.nh [4, 10, 11, 12, 20, 21, 22, 43] [.own (api_Tie.c (gt l x_3)), .own ([(gt l x_3).A, (gt l x_3).B].flatMap api_Mark.c), .own (api_Mark.c (gt [(gt l x_3).A, (gt l x_3).B] x_71))] (.cT (by kernel_rfl) (.seq (.ru G (.ret ?_)))))))))))
        obtain rfl := oi hr
        exact ⟨rfl, FinQ.ret (vs := [aI64 2]) (by kernel_rfl) (Sn.pure rfl)⟩
       ·replace hr := cd_f hb84 hr
        rcases Bool.eq_false_or_eq_true (decide ((gt [(gt l x_3).A, (gt l x_3).B] x_71).Feature < 0)) with hb85 | hb85
        ·replace hr := cd_t hb85 hr
         refine .r0 G (.mu 2 (.p0 (v := aB false) (eB hb83) (.mu 3 (.pure (v := aB false) (by kernel_rfl) (eB hb84) (.mu 4 (.pure (v := aB true) (by kernel_rfl) (eB hb85) (.mu 6 (.done (.nh [4, 10, 11, 12, 20, 21, 22, 43] [.own (api_Tie.c (gt l x_3)), .own ([(gt l x_3).A, (gt l x_3).B].flatMap api_Mark.c), .own (api_Mark.c (gt [(gt l x_3).A, (gt l x_3).B] x_71))] (.cT (by kernel_rfl) (.seq (.ru G (.ret ?_)))))))))))))
         obtain rfl := oi hr
         exact ⟨rfl, FinQ.ret (vs := [aI64 2]) (by kernel_rfl) (Sn.pure rfl)⟩
        ·replace hr := cd_f hb85 hr
         refine .r0 G (.mu 2 (.p0 (v := aB false) (eB hb83) (.mu 3 (.pure (v := aB false) (by kernel_rfl) (eB hb84) (.mu 4 (.pure (v := aB false) (by kernel_rfl) (eB hb85) (.mu 6 (.done (.nh [4, 10, 11, 12, 20, 21, 22, 43] [.own (api_Tie.c (gt l x_3)), .own ([(gt l x_3).A, (gt l x_3).B].flatMap api_Mark.c), .own (api_Mark.c (gt [(gt l x_3).A, (gt l x_3).B] x_71))] ?_)))))))))
         refine .cd hr (fun hb86 hr => ?_) (fun hb86 hr => ?_)
         ·refine .seq (.ru G (.ret ?_))
          obtain rfl := oi hr
          exact ⟨rfl, FinQ.ret (vs := [aI64 2]) (by kernel_rfl) (Sn.pure rfl)⟩
         ·refine .skip (.pop (.ru G ?_))
          exact loopF_back (wrapF .i64 (x_71 + 1)) hr ((Wk.gc [4, 10, 11, 12, 20, 21, 22] [(0, true), (1, false)] rfl (pKt (pKo api_Mark.c api_Mark.pure [(gt l x_3).A, (gt l x_3).B] trivial))).to)
     ·refine .leave rfl ?_
      obtain rfl := oi hr
      exact ⟨rfl, ((Wk.gc [4, 10, 11, 12] [(0, true)] rfl trivial).to)⟩
    ·rcases o87 with ⟨⟩ | r0
     ·rintro x st' hq89
      clear hL88
      obtain ⟨rfl, hq89⟩ := hq89
      refine CQ_exit _ rfl (.wk hq89 (.seq (.seq ?_)))
      rcases Bool.eq_false_or_eq_true (decide ((gt l x_3).Cost < 0)) with hb90 | hb90
      ·replace hr := cd_t hb90 hr
       refine .r0 G (.mu 2 (.p0 (v := aB true) (eB hb90) (.mu 5 (.done (.nh [4, 10, 11, 12, 52] [.own (api_Tie.c (gt l x_3))] (.cT (by kernel_rfl) (.seq (.ru G (.ret ?_)))))))))
       obtain rfl := oi hr
       exact ⟨rfl, FinQ.ret (vs := [aI64 2]) (by kernel_rfl) (Sn.pure rfl)⟩
      ·replace hr := cd_f hb90 hr
       refine .r0 G (.mu 2 (.p0 (v := aB false) (eB hb90) (.mu 5 (.done (.nh [4, 10, 11, 12, 52] [.own (api_Tie.c (gt l x_3))] ?_)))))
       refine .cd hr (fun hb91 hr => ?_) (fun hb91 hr => ?_)
       ·refine .seq (.ru G (.ret ?_))
        obtain rfl := oi hr
        exact ⟨rfl, FinQ.ret (vs := [aI64 2]) (by kernel_rfl) (Sn.pure rfl)⟩
       ·refine .skip (.seq (.r4 G [10, 11, 12] [(59, aB (decide ((gt l x_3).A.Image ≥ (gt l x_3).B.Image)))] ?_))
        refine .cd hr (fun hb92 hr => ?_) (fun hb92 hr => ?_)
        ·refine .seq (.ru G (.ret ?_))
         obtain rfl := oi hr
         exact ⟨rfl, FinQ.ret (vs := [aI64 5]) (by kernel_rfl) (Sn.pure rfl)⟩
        ·refine .skip (.pop (.ru G ?_))
         exact loopF_back (wrapF .i64 (x_3 + 1)) hr ((Wk.gc [10, 11, 12] [] rfl pK0).to)
     ·rintro x st' hq89
      clear hL88
      obtain ⟨rfl, hq89⟩ := hq89
      obtain rfl := oi hr
      exact CQ_ret _ ⟨rfl, hq89⟩
   ·refine .leave rfl ?_
    obtain rfl := oi hr
    exact ⟨rfl, ((Wk.gc [] [] rfl pK0).to)⟩
  ·rcases o93 with ⟨⟩ | r0
   ·rintro x st' hq95
    clear hL94
    obtain ⟨rfl, hq95⟩ := hq95
    refine CQ_exit _ rfl (.wk hq95 (.seq (.ru G (.ret ?_))))
    obtain rfl := oi hr
    exact FinQ.r1 [aI64 0]
   ·rintro x st' hq95
    clear hL94
    obtain ⟨rfl, hq95⟩ := hq95
    obtain rfl := oi hr
    exact CQ_ret _ hq95

theorem slices_Index_fiducial_api_Mark_fiducial_api_Mark_ok (n : Nat) (s : List api_Mark) (v : api_Mark) (r : Int) (hr : slices_Index_fiducial_api_Mark_fiducial_api_Mark n s v = some r) : FnOk Try.prog 54 [slT api_Mark.c s, .agg (api_Mark.c v)] (aI64 r) := by
 unfold slices_Index_fiducial_api_Mark_fiducial_api_Mark at hr
 refine FnOk.bd G Try.func54 [.tmp 4] ?_
 unfold Try.f54
 simp only [Option.getD_some]
 refine .seq (.r5 G [0] [(3, .hp 0 0)] [.own (api_Mark.c v)] (.seq (.seq (.r4 G [0, 3] [(7, aI64 (s.length : Int)), (8, aI64 0)] (.block ?_)))))
 replace hr := bd hr; obtain ⟨o9, hL10, hr⟩ := hr
 refine .loopO (σ := fun z0 => match z0 with | x_1 => ⟨mkS 19 0 [(0, slT api_Mark.c s), (3, .hp 0 0), (7, aI64 (s.length : Int)), (8, aI64 x_1)], [.own (api_Mark.c v)]⟩) (Q := fun x st' => match (generalizing := false) o9 with | .inl _ => x = .exit 0 ∧ Wk 0 st' ⟨mkS 19 0 [], []⟩ | .inr (r0) => x = .ret ∧ FinQ Try.prog [.tmp 4] (aI64 r0) .ret st') hL10 ((Wk.gc [0, 3, 7, 8] [(0, true)] rfl trivial).to) ?_ ?_
 ·clear hr
  rintro m x_1 hr
  show CQ _ _ _ _ _ ⟨_, _⟩
  refine .seq (.r4 G [0, 3, 7, 8] [(9, aB (decide (x_1 < (s.length : Int))))] (.seq ?_))
  refine .cd hr (fun hb6 hr => ?_) (fun hb6 hr => ?_)
  ·refine .skip (.seq (.block (.seq (.r4 G [0, 3, 7, 8] [(5, aI64 x_1)] (.seq ?_)))))
   obtain ⟨hg7, hr⟩ := gd hr
   refine .regionT G callOf_nil (.mu 3 (.pure (v := .pp (s.flatMap api_Mark.c) (x_1.toNat * 2)) (by kernel_rfl) (tr (ofP_guard hg7)) (by kernel_rfl) (.pure (v := .agg (api_Mark.c (gt s x_1))) (by kernel_rfl) (Eq.trans (b := ORes.ofP (guardV (decide (2 ≤ ((s.flatMap api_Mark.c).drop (x_1.toNat * 2)).length)) (.agg (((s.flatMap api_Mark.c).drop (x_1.toNat * 2)).take 2)))) (by kernel_rfl) (flat_load api_Mark.len (inR_lt hg7) (by decide) (by omega : x_1.toNat * 2 = x_1.toNat * 2 + 0) (by kernel_rfl))) (by kernel_rfl) (.mu 1 ?_))))
   refine .done ⟨by kernel_rfl, ?_⟩
   refine .nh [0, 3, 5, 7, 8, 16] [.own (api_Mark.c v)] ?_
   refine .cd hr (fun hb8 hr => ?_) (fun hb8 hr => ?_)
   ·refine .seq (.ru G (.ret ?_))
    obtain rfl := oi hr
    exact ⟨rfl, FinQ.ret (vs := [aI64 x_1]) (by kernel_rfl) (Sn.pure rfl)⟩
   ·refine .skip (.pop (.ru G ?_))
    exact loopF_back (wrapF .i64 (x_1 + 1)) hr ((Wk.gc [0, 3, 7, 8] [(0, true)] rfl trivial).to)
  ·refine .leave rfl ?_
   obtain rfl := oi hr
   exact ⟨rfl, ((Wk.gc [] [] rfl pK0).to)⟩
 ·rcases o9 with ⟨⟩ | r0
  ·rintro x st' hq11
   clear hL10
   obtain ⟨rfl, hq11⟩ := hq11
   refine CQ_exit _ rfl (.wk hq11 (.seq (.ru G (.ret ?_))))
   obtain rfl := oi hr
   exact FinQ.r1 [aI64 (-1)]
  ·rintro x st' hq11
   clear hL10
   obtain ⟨rfl, hq11⟩ := hq11
   obtain rfl := oi hr
   exact CQ_ret _ hq11

theorem slices_Contains_fiducial_api_Mark_fiducial_api_Mark_ok (n : Nat) (s : List api_Mark) (v : api_Mark) (r : Bool) (hr : slices_Contains_fiducial_api_Mark_fiducial_api_Mark n s v = some r) : FnOk Try.prog 23 [slT api_Mark.c s, .agg (api_Mark.c v)] (aB r) := by
 unfold slices_Contains_fiducial_api_Mark_fiducial_api_Mark at hr
 refine FnOk.bd G Try.func23 [.tmp 4] ?_
 unfold Try.f23
 simp only [Option.getD_some]
 refine .seq (.r5 G [0] [(3, .hp 0 0)] [.own (api_Mark.c v)] (.seq ?_))
 obtain ⟨v1, hc2, hr⟩ := bd hr
 refine .g1 G (ok0 (slices_Index_fiducial_api_Mark_fiducial_api_Mark_ok n s v v1 hc2)) (.mu 2 (.ca cf0 (.mu 2 (.done (.ret ?_)))))
 obtain rfl := oi hr
 exact FinQ.r1 [aB (decide (v1 ≥ 0))]

theorem fiduciallaw26_where_1_ok (n : Nat) (l : List api_Mark) (p : Int) (p' : Int) (r : Bool) (hr : fiduciallaw26_where_1 n l p p' = some r) : FnOk Try.prog 100 [slT api_Mark.c l, .pp [aI64 p, aI64 p'] 0] (aB r) := by
 unfold fiduciallaw26_where_1 at hr
 refine FnOk.bd G Try.func100 [.tmp 3] ?_
 unfold Try.f100
 simp only [Option.getD_some]
 refine .seq (.r4 G [0, 1] [] (.seq ?_))
 obtain ⟨v1, hc2, hr⟩ := bd hr
 refine .g1 G (ok0 (slices_Contains_fiducial_api_Mark_fiducial_api_Mark_ok n l (api_Mark.mk p p') v1 hc2)) (.mu 2 (.ca cf0 (.mu 1 (.done (.ret ?_)))))
 obtain rfl := oi hr
 exact FinQ.r1 [aB v1]

theorem slices_IndexFunc_fiducial_api_Mark_fiducial_api_Mark_of_fiduciallaw26_where_1_ok (n : Nat) (s : List (List api_Mark)) (c : Int) (c' : Int) (r : Int) (hr : slices_IndexFunc_fiducial_api_Mark_fiducial_api_Mark_of_fiduciallaw26_where_1 n s c c' = some r) : FnOk Try.prog 95 [slT (slC api_Mark.c) s, .fn 100 [] [.pp [aI64 c, aI64 c'] 0]] (aI64 r) := by
 unfold slices_IndexFunc_fiducial_api_Mark_fiducial_api_Mark_of_fiduciallaw26_where_1 at hr
 refine FnOk.bd G Try.func95 [.tmp 4] ?_
 unfold Try.f95
 simp only [Option.getD_some]
 refine .seq (.r4 G [0, 1] [] (.seq (.seq (.r4 G [0, 1] [(7, aI64 (s.length : Int)), (8, aI64 0)] (.block ?_)))))
 replace hr := bd hr; obtain ⟨o13, hL14, hr⟩ := hr
 refine .loopO (σ := fun z0 => match z0 with | x_1 => ⟨mkS 19 0 [(0, slT (slC api_Mark.c) s), (1, .fn 100 [] [.pp [aI64 c, aI64 c'] 0]), (7, aI64 (s.length : Int)), (8, aI64 x_1)], []⟩) (Q := fun x st' => match (generalizing := false) o13 with | .inl _ => x = .exit 0 ∧ Wk 0 st' ⟨mkS 19 0 [], []⟩ | .inr (r0) => x = .ret ∧ FinQ Try.prog [.tmp 4] (aI64 r0) .ret st') hL14 ((Wk.gc [0, 1, 7, 8] [] rfl pK0).to) ?_ ?_
 ·clear hr
  rintro m x_1 hr
  show CQ _ _ _ _ _ ⟨_, _⟩
  refine .seq (.r4 G [0, 1, 7, 8] [(9, aB (decide (x_1 < (s.length : Int))))] (.seq ?_))
  refine .cd hr (fun hb8 hr => ?_) (fun hb8 hr => ?_)
  ·refine .skip (.seq (.block (.seq (.r4 G [0, 1, 7, 8] [(5, aI64 x_1)] (.seq ?_)))))
   obtain ⟨hg9, hr⟩ := gd hr
   obtain ⟨v10, hc11, hr⟩ := bd hr
   refine .g1 G (ok0 (fiduciallaw26_where_1_ok n (gt s x_1) c c' v10 hc11)) (.mu 3 (.p0 (v := .pp (s.flatMap (slC api_Mark.c)) (x_1.toNat * 1)) (tr (ofP_guard hg9)) (.p0 (v := slT api_Mark.c (gt s x_1)) (tr (ofP_some (flat_get (slC_len api_Mark.c) (inR_lt hg9) (by decide : 0 < 1) (by omega : x_1.toNat * 1 = x_1.toNat * 1 + 0) (by kernel_rfl)))) (.ca cf0 (.done (.nh [0, 1, 5, 7, 8, 16] [] ?_))))))
   refine .cd hr (fun hb12 hr => ?_) (fun hb12 hr => ?_)
   ·refine .seq (.ru G (.ret ?_))
    obtain rfl := oi hr
    exact ⟨rfl, FinQ.ret (vs := [aI64 x_1]) (by kernel_rfl) (Sn.pure rfl)⟩
   ·refine .skip (.pop (.ru G ?_))
    exact loopF_back (wrapF .i64 (x_1 + 1)) hr ((Wk.gc [0, 1, 7, 8] [] rfl pK0).to)
  ·refine .leave rfl ?_
   obtain rfl := oi hr
   exact ⟨rfl, ((Wk.gc [] [] rfl pK0).to)⟩
 ·rcases o13 with ⟨⟩ | r0
  ·rintro x st' hq15
   clear hL14
   obtain ⟨rfl, hq15⟩ := hq15
   refine CQ_exit _ rfl (.wk hq15 (.seq (.ru G (.ret ?_))))
   obtain rfl := oi hr
   exact FinQ.r1 [aI64 (-1)]
  ·rintro x st' hq15
   clear hL14
   obtain ⟨rfl, hq15⟩ := hq15
   obtain rfl := oi hr
   exact CQ_ret _ hq15

theorem fiduciallaw26_where_inj {tracks : List (List api_Mark)} {m' : api_Mark} {tracks_ : List (List api_Mark)} {m'_ : api_Mark} (h : ([slT (slC api_Mark.c) tracks, .agg [.at (.int .i64 m'.Image), .at (.int .i64 m'.Feature)]] : List AV) = [slT (slC api_Mark.c) tracks_, .agg [.at (.int .i64 m'_.Image), .at (.int .i64 m'_.Feature)]]) : tracks = tracks_ ∧ m' = m'_ := by
 obtain ⟨_, _⟩ := m'
 obtain ⟨_, _⟩ := m'_
 simp only [List.cons.injEq, AV.agg.injEq, AV.at.injEq, Value.int.injEq, Value.bool.injEq, AV.fn.injEq, AV.pp.injEq, true_and, and_true, (slT_inj (slC_len _) (by decide) (slC_inj api_Mark.len (by decide) api_Mark.inj))] at h
 simp_all
theorem fiduciallaw26_where_cg (n : Nat) {tracks : List (List api_Mark)} {m' : api_Mark} {tracks_ : List (List api_Mark)} {m'_ : api_Mark} (h : ([slT (slC api_Mark.c) tracks, .agg [.at (.int .i64 m'.Image), .at (.int .i64 m'.Feature)]] : List AV) = [slT (slC api_Mark.c) tracks_, .agg [.at (.int .i64 m'_.Image), .at (.int .i64 m'_.Feature)]]) : fiduciallaw26_where n tracks m' = fiduciallaw26_where n tracks_ m'_ := by
 obtain ⟨rfl, rfl⟩ := fiduciallaw26_where_inj h
 rfl
theorem fiduciallaw26_where_ok (n : Nat) (tracks : List (List api_Mark)) (m' : api_Mark) (r : Int) (hr : fiduciallaw26_where n tracks m' = some r) : FnOk Try.prog 68 [slT (slC api_Mark.c) tracks, .agg (api_Mark.c m')] (aI64 r) := by
 unfold fiduciallaw26_where at hr
 refine FnOk.bd G Try.func68 [.tmp 4] ?_
 unfold Try.f68
 simp only [Option.getD_some]
 refine .seq (.r5 G [0] [(3, .hp 0 0)] [.own (api_Mark.c m')] (.seq ?_))
 obtain ⟨v1, hc2, hr⟩ := bd hr
 refine .g1 G (callOk_val (args := [slT (slC api_Mark.c) tracks, .fn 100 [] [.hp 0 0]]) (l := [0]) rfl (SnL.cons (Sn.pure rfl) (SnL.cons (Sn.fn SnL.nil (SnL.cons (Sn.hp rfl (.inl rfl) (SnC.cons (Sn.pure rfl) (SnC.cons (Sn.pure rfl) SnC.nil))) SnL.nil)) SnL.nil)) (slices_IndexFunc_fiducial_api_Mark_fiducial_api_Mark_of_fiduciallaw26_where_1_ok n tracks m'.Image m'.Feature v1 hc2)) (.mu 2 (.ca cf0 (.mu 1 (.done (.ret ?_)))))
 obtain rfl := oi hr
 exact FinQ.r1 [aI64 v1]

theorem cmp_isNaN_int_ok [Dr] (n : Nat) (x' : Int) (r : Bool) (hr : cmp_isNaN_int n x' = some r) : FnOk Try.prog 86 [aI64 x'] (aB r) := by
 unfold cmp_isNaN_int at hr
 refine FnOk.bd G Try.func86 [.tmp 2] ?_
 unfold Try.f86
 simp only [Option.getD_some]
 refine .seq (.r4 G [0] [] (.seq (.ru G (.ret ?_))))
 obtain rfl := oi hr
 exact FinQ.r1 [aB ((x' : Int) != x')]

theorem cmp_Compare_int_inj {x' : Int} {y : Int} {x'_ : Int} {y_ : Int} (h : ([.at (.int .i64 x'), .at (.int .i64 y)] : List AV) = [.at (.int .i64 x'_), .at (.int .i64 y_)]) : x' = x'_ ∧ y = y_ := by
 simp only [List.cons.injEq, AV.agg.injEq, AV.at.injEq, Value.int.injEq, Value.bool.injEq, AV.fn.injEq, AV.pp.injEq, true_and, and_true] at h
 simp_all
theorem cmp_Compare_int_cg (n : Nat) {x' : Int} {y : Int} {x'_ : Int} {y_ : Int} (h : ([.at (.int .i64 x'), .at (.int .i64 y)] : List AV) = [.at (.int .i64 x'_), .at (.int .i64 y_)]) : cmp_Compare_int n x' y = cmp_Compare_int n x'_ y_ := by
 obtain ⟨rfl, rfl⟩ := cmp_Compare_int_inj h
 rfl
theorem cmp_Compare_int_ok [Dr] (n : Nat) (x' : Int) (y : Int) (r : Int) (hr : cmp_Compare_int n x' y = some r) : FnOk Try.prog 60 [aI64 x', aI64 y] (aI64 r) := by
 unfold cmp_Compare_int at hr
 refine FnOk.bd G Try.func60 [.tmp 4] ?_
 unfold Try.f60
 simp only [Option.getD_some]
 refine .seq (.r4 G [0, 1] [] (.seq ?_))
 obtain ⟨v1, hc2, hr⟩ := bd hr
 refine .g1 G (ok0 (cmp_isNaN_int_ok n x' v1 hc2)) (.mu 1 (.ca cf0 (.mu 1 (.done (.nh [0, 1, 5] [] (.seq ?_))))))
 obtain ⟨v3, hc4, hr⟩ := bd hr
 refine .g1 G (ok0 (cmp_isNaN_int_ok n y v3 hc4)) (.mu 1 (.ca cf0 (.mu 1 (.done (.nh [0, 1, 5, 6] [] (.seq (.seq (.r4 G [0, 1, 6] [(11, aB v1)] ?_))))))))
 refine .cd hr (fun hb5 hr => ?_) (fun hb5 hr => ?_)
 ·refine .seq (.seq (.r3 G 20 [(12, aB v3)] ?_))
  refine .cd hr (fun hb6 hr => ?_) (fun hb6 hr => ?_)
  ·refine .seq (.ru G (.ret ?_))
   obtain rfl := oi hr
   exact FinQ.r1 [aI64 0]
  ·refine .skip (.seq (.ru G (.ret ?_)))
   obtain rfl := oi hr
   exact FinQ.r1 [aI64 (-1)]
 ·refine .skip (.seq (.seq (.r4 G [0, 1] [(13, aB v3)] ?_)))
  refine .cd hr (fun hb7 hr => ?_) (fun hb7 hr => ?_)
  ·refine .seq (.ru G (.ret ?_))
   obtain rfl := oi hr
   exact FinQ.r1 [aI64 1]
  ·refine .skip (.seq (.seq (.r4 G [0, 1] [(16, aB (decide (x' < y)))] ?_)))
   refine .cd hr (fun hb8 hr => ?_) (fun hb8 hr => ?_)
   ·refine .seq (.ru G (.ret ?_))
    obtain rfl := oi hr
    exact FinQ.r1 [aI64 (-1)]
   ·refine .skip (.seq (.seq (.r3 G 20 [(19, aB (decide (x' > y)))] ?_)))
    refine .cd hr (fun hb9 hr => ?_) (fun hb9 hr => ?_)
    ·refine .seq (.ru G (.ret ?_))
     obtain rfl := oi hr
     exact FinQ.r1 [aI64 1]
    ·refine .skip (.seq (.ru G (.ret ?_)))
     obtain rfl := oi hr
     exact FinQ.r1 [aI64 0]

theorem cmp_Or_int_ok [Dr] (n : Nat) (vals : List Int) (r : Int) (hr : cmp_Or_int n vals = some r) : FnOk Try.prog 59 [sI64 vals] (aI64 r) := by
 unfold cmp_Or_int at hr
 refine FnOk.bd G Try.func59 [.tmp 2] ?_
 unfold Try.f59
 simp only [Option.getD_some]
 refine .seq (.r4 G [0] [] (.seq (.r4 G [0] [(3, aI64 0)] (.seq (.seq (.r4 G [3] [(6, sI64 vals), (7, aI64 (vals.length : Int)), (8, aI64 0)] (.block ?_)))))))
 replace hr := bd hr; obtain ⟨o9, hL10, hr⟩ := hr
 refine .loopO (σ := fun z0 => match z0 with | x_1 => ⟨mkS 18 0 [(3, aI64 0), (6, sI64 vals), (7, aI64 (vals.length : Int)), (8, aI64 x_1)], []⟩) (Q := fun x st' => match (generalizing := false) o9 with | .inl _ => x = .exit 0 ∧ Wk 0 st' ⟨mkS 18 0 [(3, aI64 0)], []⟩ | .inr (r0) => x = .ret ∧ FinQ Try.prog [.tmp 2] (aI64 r0) .ret st') hL10 ((Wk.gc [3, 6, 7, 8] [] rfl pK0).to) ?_ ?_
 ·clear hr
  rintro m x_1 hr
  show CQ _ _ _ _ _ ⟨_, _⟩
  refine .seq (.r4 G [3, 6, 7, 8] [(9, aB (decide (x_1 < (vals.length : Int))))] (.seq ?_))
  refine .cd hr (fun hb6 hr => ?_) (fun hb6 hr => ?_)
  ·refine .skip (.seq (.block (.seq ?_)))
   obtain ⟨hg7, hr⟩ := gd hr
   refine .r0 G (.p0 (v := .pp (vals.flatMap (iC .i64)) (x_1.toNat * 1)) (tr (ofP_guard hg7)) (.p0 (v := aI64 (gt vals x_1)) (tr (ofP_some (flat_get (iC_len .i64) (inR_lt hg7) (by decide : 0 < 1) (by omega : x_1.toNat * 1 = x_1.toNat * 1 + 0) (by kernel_rfl)))) (.mu 1 (.done (.nh [3, 5, 6, 7, 8] [] (.seq (.r4 G [3, 5, 6, 7, 8] [(14, aB (((gt vals x_1) : Int) != 0))] ?_)))))))
   refine .cd hr (fun hb8 hr => ?_) (fun hb8 hr => ?_)
   ·refine .seq (.ru G (.ret ?_))
    obtain rfl := oi hr
    exact ⟨rfl, FinQ.ret (vs := [aI64 (gt vals x_1)]) (by kernel_rfl) (Sn.pure rfl)⟩
   ·refine .skip (.pop (.ru G ?_))
    exact loopF_back (wrapF .i64 (x_1 + 1)) hr ((Wk.gc [3, 6, 7, 8] [] rfl pK0).to)
  ·refine .leave rfl ?_
   obtain rfl := oi hr
   exact ⟨rfl, ((Wk.gc [3] [] rfl pK0).to)⟩
 ·rcases o9 with ⟨⟩ | r0
  ·rintro x st' hq11
   clear hL10
   obtain ⟨rfl, hq11⟩ := hq11
   refine CQ_exit _ rfl (.wk hq11 (.seq (.ru G (.ret ?_))))
   obtain rfl := oi hr
   exact FinQ.r1 [aI64 0]
  ·rintro x st' hq11
   clear hL10
   obtain ⟨rfl, hq11⟩ := hq11
   obtain rfl := oi hr
   exact CQ_ret _ hq11

theorem fiduciallaw26_mark_inj {a : api_Mark} {b : api_Mark} {a_ : api_Mark} {b_ : api_Mark} (h : ([.agg [.at (.int .i64 a.Image), .at (.int .i64 a.Feature)], .agg [.at (.int .i64 b.Image), .at (.int .i64 b.Feature)]] : List AV) = [.agg [.at (.int .i64 a_.Image), .at (.int .i64 a_.Feature)], .agg [.at (.int .i64 b_.Image), .at (.int .i64 b_.Feature)]]) : a = a_ ∧ b = b_ := by
 obtain ⟨_, _⟩ := a
 obtain ⟨_, _⟩ := a_
 obtain ⟨_, _⟩ := b
 obtain ⟨_, _⟩ := b_
 simp only [List.cons.injEq, AV.agg.injEq, AV.at.injEq, Value.int.injEq, Value.bool.injEq, AV.fn.injEq, AV.pp.injEq, true_and, and_true] at h
 simp_all
theorem fiduciallaw26_mark_cg (n : Nat) {a : api_Mark} {b : api_Mark} {a_ : api_Mark} {b_ : api_Mark} (h : ([.agg [.at (.int .i64 a.Image), .at (.int .i64 a.Feature)], .agg [.at (.int .i64 b.Image), .at (.int .i64 b.Feature)]] : List AV) = [.agg [.at (.int .i64 a_.Image), .at (.int .i64 a_.Feature)], .agg [.at (.int .i64 b_.Image), .at (.int .i64 b_.Feature)]]) : fiduciallaw26_mark n a b = fiduciallaw26_mark n a_ b_ := by
 obtain ⟨rfl, rfl⟩ := fiduciallaw26_mark_inj h
 rfl
theorem fiduciallaw26_mark_ok [Dr] (n : Nat) (a : api_Mark) (b : api_Mark) (r : Int) (hr : fiduciallaw26_mark n a b = some r) : FnOk Try.prog 29 [.agg (api_Mark.c a), .agg (api_Mark.c b)] (aI64 r) := by
 unfold fiduciallaw26_mark at hr
 refine FnOk.bd G Try.func29 [.tmp 4] ?_
 unfold Try.f29
 simp only [Option.getD_some]
 refine .seq (.r2 G 17 [(2, .hp 0 0), (3, .hp 1 0)] [.own (api_Mark.c a), .own (api_Mark.c b)] (.seq ?_))
 obtain ⟨v1, hc2, v3, hc4, v5, hc6, hr⟩ := bd3 hr
 refine .tn G (ca1 (ok0 (cmp_Compare_int_ok n a.Image b.Image v1 hc2)) (ca1 (ok0 (cmp_Compare_int_ok n a.Feature b.Feature v3 hc4)) (ca4 [.own (api_Mark.c a), .own (api_Mark.c b), .own [aI64 v1, aI64 v3]] (callOk_val (args := [.hs 2 0 2 1]) (l := [2]) rfl (SnL.cons (Sn.hs rfl (.inl rfl) (SnC.cons (Sn.pure rfl) (SnC.cons (Sn.pure rfl) SnC.nil)) (fun h => nomatch h)) SnL.nil) (cmp_Or_int_ok n [v1, v3] v5 hc6))))) (.mu 4 (.ca cf0 (.mu 4 (.ca (cfA (fun h => by rw [sv hc4 hc2 (cmp_Compare_int_cg n h)]) cf0) (.mu 1 (.ca (cfF (cfF cf0)) (.mu 1 ?_)))))))
 refine .done ⟨by kernel_rfl, ?_⟩
 refine .ret ?_
 obtain rfl := oi hr
 exact FinQ.r1 [aI64 v5]

theorem fiduciallaw26_order_ok [Dr] (n : Nat) (a : api_Tie) (b : api_Tie) (r : Int) (hr : fiduciallaw26_order n a b = some r) : FnOk Try.prog 70 [.agg (api_Tie.c a), .agg (api_Tie.c b)] (aI64 r) := by
 unfold fiduciallaw26_order at hr
 refine FnOk.bd G Try.func70 [.tmp 4] ?_
 unfold Try.f70
 simp only [Option.getD_some]
 refine .seq (.r2 G 22 [(2, .hp 0 0), (3, .hp 1 0)] [.own (api_Tie.c a), .own (api_Tie.c b)] (.seq ?_))
 obtain ⟨v1, hc2, v3, hc4, v5, hc6, hr⟩ := bd3 hr
 obtain ⟨v7, hc8, hr⟩ := bd hr
 refine .tn G (ca1 (ok0 (cmp_Compare_int_ok n a.Cost b.Cost v1 hc2)) (ca1 (ok0 (fiduciallaw26_mark_ok n a.A b.A v3 hc4)) (ca1 (ok0 (fiduciallaw26_mark_ok n a.B b.B v5 hc6)) (ca4 [.own (api_Tie.c a), .own (api_Tie.c b), .own [aI64 v1, aI64 v3, aI64 v5]] (callOk_val (args := [.hs 2 0 3 1]) (l := [2]) rfl (SnL.cons (Sn.hs rfl (.inl rfl) (SnC.cons (Sn.pure rfl) (SnC.cons (Sn.pure rfl) (SnC.cons (Sn.pure rfl) SnC.nil))) (fun h => nomatch h)) SnL.nil) (cmp_Or_int_ok n [v1, v3, v5] v7 hc8)))))) (.mu 4 (.ca cf0 (.mu 4 (.ca (cfF cf0) (.mu 4 (.ca (cfF (cfA (fun h => by rw [sv hc6 hc4 (fiduciallaw26_mark_cg n h)]) cf0)) (.mu 1 (.ca (cfF (cfF (cfF cf0))) (.mu 1 ?_)))))))))
 refine .done ⟨by kernel_rfl, ?_⟩
 refine .ret ?_
 obtain rfl := oi hr
 exact FinQ.r1 [aI64 v7]

theorem slices_Clone_fiducial_api_Tie_fiducial_api_Tie_w_ok (n : Nat) (s : List api_Tie) (r : List api_Tie) (hr : slices_Clone_fiducial_api_Tie_fiducial_api_Tie_w n s = some r) : FnMut 0 Try.prog 19 [slT api_Tie.c s] [] (.hs 0 0 r.length 5) [.own (r.flatMap api_Tie.c)] := by
 unfold slices_Clone_fiducial_api_Tie_fiducial_api_Tie_w at hr
 refine FnMut.bodyW G Try.func19 (c := (Try.f19.body).getD .skip) rfl (us := [.hs 0 0 r.length 5]) (s := mkS 8 0 [(0, slT api_Tie.c s)]) (by kernel_rfl) (rs := [.tmp 2]) rfl ?_
 unfold Try.f19
 simp only [Option.getD_some]
 refine .seq (.r4 G [0] [] (.seq (.seq ?_)))
 refine .nilcase (t := 0) (cs := s.flatMap api_Tie.c) (len := s.length) (by kernel_rfl) (fun hn7 => ?_) ?_
 ·obtain rfl : s = [] := List.length_eq_zero_iff.1 hn7
  have hx := gd hr; clear hr; obtain ⟨_, hr⟩ := hx
  have hx := gd hr; clear hr; obtain ⟨_, hr⟩ := hx
  refine .r4 G [0] [(4, aB true)] (.cT (by kernel_rfl) (.seq (.r3 G 8 [(2, nS)] (.ret ?_))))
  obtain rfl := oi hr
  exact FinMW.ret [nS] ((Wk.nil 0 5 (by kernel_rfl)).trans ((Wk.gc [0] [(0, false)] rfl (pKc trivial)).to))
 ·refine .r4 G [0] [(4, aB false)] (.cF (by kernel_rfl) (.skip (.seq ?_)))
  obtain ⟨hg5, hg6, hr⟩ := gd2 hr
  refine .r0 G (.mu 2 (.e0 (v := .hs 1 0 s.length 5) (ws := [(0, .dead), (1, .own (s.flatMap api_Tie.c))]) (Eq.trans (b := appS (decide (((s.flatMap api_Tie.c)).length = s.length * 5)) (s.flatMap api_Tie.c) s.length (fun z1 z2 => guardO (decide (0 + 0 * 5 ≤ (([] : List api_Tie).flatMap api_Tie.c).length) && decide ((0 + z2) * 40 ≤ 140737488355328) && decide (0 + z2 ≤ 4611686018427387904)) (some (.eff (.hs 1 0 (0 + z2) 5) [(0, .dead), (1, .own (((([] : List api_Tie).flatMap api_Tie.c).drop 0).take (0 * 5) ++ z1))])))) (by kernel_rfl) (appS_t (flat_lenB api_Tie.len) rfl (app_own (l := ([] : List api_Tie)) (xs := s) api_Tie.len rfl rfl rfl hg5 hg6))) (.mu 1 (.done (.nh [2] [.dead, .own (s.flatMap api_Tie.c)] (.ret ?_))))))
  obtain rfl := oi hr
  exact FinMW.ret [.hs 1 0 s.length 5] ((Wk.gc [0] [(1, false)] rfl (pKo api_Tie.c api_Tie.pure s trivial)).to)

theorem slices_SortFunc_fiducial_api_Tie_fiducial_api_Tie_w_of_fiduciallaw26_order_ok (n : Nat) (x' : List api_Tie) (r : List api_Tie) (hr : slices_SortFunc_fiducial_api_Tie_fiducial_api_Tie_w_of_fiduciallaw26_order n x' = some r) : FnMut 1 Try.prog 69 [.hs 0 0 x'.length 5, .fn 70 [] []] [.own (x'.flatMap api_Tie.c)] (.tup []) [.own (r.flatMap api_Tie.c)] := by
 unfold slices_SortFunc_fiducial_api_Tie_fiducial_api_Tie_w_of_fiduciallaw26_order at hr
 obtain ⟨h1, hr⟩ := gd hr
 exact FnMut.sortS (c := api_Tie.c) (caps' := []) (Go.Proofs.Ytndmnfmpbcecaaa.contractSortT (enters_of Try.func70 (by kernel_rfl) rfl)) Go.Proofs.Ytndmnfmpbcecaaa.noneSortT api_Tie.len api_Tie.pure hr (of_decide_eq_true h1) SnL.nil (fun x y r hc => @fiduciallaw26_order_ok ⟨true⟩ n x y r hc)

theorem fiduciallaw26_images_w_ok (n : Nat) (l : List api_Mark) (r : List Int) (hr : fiduciallaw26_images_w n l = some r) : FnMut 1 Try.prog 34 [.hs 0 0 l.length 2] [.own (l.flatMap api_Mark.c)] (.hs 1 0 r.length 1) [.own (l.flatMap api_Mark.c), .own (r.flatMap (iC .i64))] := by
 unfold fiduciallaw26_images_w at hr
 refine FnMut.bodyW G Try.func34 (c := (Try.f34.body).getD .skip) rfl (us := [.hs 1 0 r.length 1]) (s := mkS 19 0 [(0, .hs 0 0 l.length 2)]) (by kernel_rfl) (rs := [.tmp 2]) rfl ?_
 unfold Try.f34
 simp only [Option.getD_some]
 refine .seq (.r4 G [0] [] (.seq (.r4 G [0] [(3, nS)] (.seq (.seq (.r4 G [3] [(6, .hs 0 0 l.length 2), (7, aI64 (l.length : Int)), (8, aI64 0)] (.block ?_)))))))
 replace hr := bd hr; obtain ⟨out_26, hL34, hr⟩ := hr
 refine .loopO (σ := fun z0 => match z0 with | (out_19, x_20) => ⟨mkS 19 0 [(3, .hs 1 0 out_19.length 1), (6, .hs 0 0 l.length 2), (7, aI64 (l.length : Int)), (8, aI64 x_20)], [.own (l.flatMap api_Mark.c), .own (out_19.flatMap (iC .i64))]⟩) (Q := fun x st' => x = .exit 0 ∧ Wk 1 st' ⟨mkS 19 0 [(3, .hs 1 0 out_26.length 1)], [.own (l.flatMap api_Mark.c), .own (out_26.flatMap (iC .i64))]⟩) hL34 ((Wk.nil 3 1 (by kernel_rfl)).trans ((Wk.gc [3, 6, 7, 8] [(0, false), (1, false)] rfl (pKo api_Mark.c api_Mark.pure l (pKc trivial))).to)) ?_ ?_
 ·clear hr
  rintro m ⟨out_19, x_20⟩ hr
  show CQ _ _ _ _ _ ⟨_, _⟩
  refine .seq (.r4 G [3, 6, 7, 8] [(9, aB (decide (x_20 < (l.length : Int))))] (.seq ?_))
  refine .cd hr (fun hb29 hr => ?_) (fun hb29 hr => ?_)
  ·refine .skip (.seq (.block (.seq ?_)))
   obtain ⟨hg30, hr⟩ := gd hr
   refine .r0 G (.p0 (v := .hp 0 (0 + x_20.toNat * 2)) (tr (ofP_guard hg30)) (.p0 (v := .agg (api_Mark.c (gt l x_20))) (Eq.trans (b := ORes.ofP (guardV (decide (2 ≤ ((l.flatMap api_Mark.c).drop (0 + x_20.toNat * 2)).length)) (.agg (((l.flatMap api_Mark.c).drop (0 + x_20.toNat * 2)).take 2)))) (by kernel_rfl) (flat_load api_Mark.len (inR_lt hg30) (by decide) (by omega : 0 + x_20.toNat * 2 = x_20.toNat * 2 + 0) (by kernel_rfl))) (.mu 2 (.done (.nh [3, 5, 6, 7, 8] [.own (l.flatMap api_Mark.c), .own (out_19.flatMap (iC .i64)), .own (api_Mark.c (gt l x_20))] ?_)))))
   obtain ⟨hg31, hg32, hr⟩ := gd2 hr
   refine .r0 G (.mu 4 (.e0 (v := .hs 4 0 (out_19 ++ [(gt l x_20).Image]).length 1) (ws := [(1, .dead), (4, .own ((out_19 ++ [(gt l x_20).Image]).flatMap (iC .i64)))]) (tr (app_own (new := [aI64 (gt l x_20).Image]) (l := out_19) (xs := [(gt l x_20).Image]) (iC_len .i64) rfl rfl (by kernel_rfl) hg31 hg32)) (.mu 1 (.done (.pop (.ru G ?_))))))
   exact loopF_back (out_19 ++ [(gt l x_20).Image], wrapF .i64 (x_20 + 1)) hr ((Wk.gc [3, 6, 7, 8] [(0, false), (4, false)] rfl (pKo api_Mark.c api_Mark.pure l (pKo (iC .i64) (iC_pure _) (out_19 ++ [(gt l x_20).Image]) trivial))).to)
  ·refine .leave rfl ?_
   obtain rfl := oi hr
   exact ⟨rfl, ((Wk.gc [3] [(0, false), (1, false)] rfl (pKo api_Mark.c api_Mark.pure l (pKo (iC .i64) (iC_pure _) out_19 trivial))).to)⟩
 ·rintro x st' hq35
  clear hL34
  obtain ⟨rfl, hq35⟩ := hq35
  refine CQ_exit _ rfl (.wk hq35 (.seq (.r3 G 19 [(2, .hs 1 0 out_26.length 1)] (.ret ?_))))
  obtain rfl := oi hr
  exact FinMW.ret [.hs 1 0 out_26.length 1] ((Wk.gc [0] [(0, false), (1, false)] rfl (pKo api_Mark.c api_Mark.pure l (pKo (iC .i64) (iC_pure _) out_26 trivial))).to)

theorem fiduciallaw26_images_ok (n : Nat) (l : List api_Mark) (r : List Int) (hr : fiduciallaw26_images n l = some r) : FnOk Try.prog 34 [slT api_Mark.c l] (sI64 r) := by
 unfold fiduciallaw26_images at hr
 refine FnOk.bd G Try.func34 [.tmp 2] ?_
 unfold Try.f34
 simp only [Option.getD_some]
 refine .seq (.r4 G [0] [] (.seq (.r4 G [0] [(3, nS)] (.seq (.seq (.r4 G [3] [(6, slT api_Mark.c l), (7, aI64 (l.length : Int)), (8, aI64 0)] (.block ?_)))))))
 replace hr := bd hr; obtain ⟨out_8, hL16, hr⟩ := hr
 refine .loopO (σ := fun z0 => match z0 with | (out_1, x_2) => ⟨mkS 19 0 [(3, .hs 0 0 out_1.length 1), (6, slT api_Mark.c l), (7, aI64 (l.length : Int)), (8, aI64 x_2)], [.own (out_1.flatMap (iC .i64))]⟩) (Q := fun x st' => x = .exit 0 ∧ Wk 0 st' ⟨mkS 19 0 [(3, .hs 0 0 out_8.length 1)], [.own (out_8.flatMap (iC .i64))]⟩) hL16 ((Wk.nil 3 1 (by kernel_rfl)).trans ((Wk.gc [3, 6, 7, 8] [(0, false)] rfl (pKc trivial)).to)) ?_ ?_
 ·clear hr
  rintro m ⟨out_1, x_2⟩ hr
  show CQ _ _ _ _ _ ⟨_, _⟩
  refine .seq (.r4 G [3, 6, 7, 8] [(9, aB (decide (x_2 < (l.length : Int))))] (.seq ?_))
  refine .cd hr (fun hb11 hr => ?_) (fun hb11 hr => ?_)
  ·refine .skip (.seq (.block (.seq ?_)))
   obtain ⟨hg12, hr⟩ := gd hr
   refine .r0 G (.p0 (v := .pp (l.flatMap api_Mark.c) (x_2.toNat * 2)) (tr (ofP_guard hg12)) (.p0 (v := .agg (api_Mark.c (gt l x_2))) (Eq.trans (b := ORes.ofP (guardV (decide (2 ≤ ((l.flatMap api_Mark.c).drop (x_2.toNat * 2)).length)) (.agg (((l.flatMap api_Mark.c).drop (x_2.toNat * 2)).take 2)))) (by kernel_rfl) (flat_load api_Mark.len (inR_lt hg12) (by decide) (by omega : x_2.toNat * 2 = x_2.toNat * 2 + 0) (by kernel_rfl))) (.mu 2 (.done (.nh [3, 5, 6, 7, 8] [.own (out_1.flatMap (iC .i64)), .own (api_Mark.c (gt l x_2))] ?_)))))
   obtain ⟨hg13, hg14, hr⟩ := gd2 hr
   refine .r0 G (.mu 4 (.e0 (v := .hs 3 0 (out_1 ++ [(gt l x_2).Image]).length 1) (ws := [(0, .dead), (3, .own ((out_1 ++ [(gt l x_2).Image]).flatMap (iC .i64)))]) (tr (app_own (new := [aI64 (gt l x_2).Image]) (l := out_1) (xs := [(gt l x_2).Image]) (iC_len .i64) rfl rfl (by kernel_rfl) hg13 hg14)) (.mu 1 (.done (.pop (.ru G ?_))))))
   exact loopF_back (out_1 ++ [(gt l x_2).Image], wrapF .i64 (x_2 + 1)) hr ((Wk.gc [3, 6, 7, 8] [(3, false)] rfl (pKo (iC .i64) (iC_pure _) (out_1 ++ [(gt l x_2).Image]) trivial)).to)
  ·refine .leave rfl ?_
   obtain rfl := oi hr
   exact ⟨rfl, ((Wk.gc [3] [(0, false)] rfl (pKo (iC .i64) (iC_pure _) out_1 trivial)).to)⟩
 ·rintro x st' hq17
  clear hL16
  obtain ⟨rfl, hq17⟩ := hq17
  refine CQ_exit _ rfl (.wk hq17 (.seq (.r3 G 19 [(2, .hs 0 0 out_8.length 1)] (.ret ?_))))
  obtain rfl := oi hr
  exact FinQ.ret (vs := [.hs 0 0 out_8.length 1]) (by kernel_rfl) (Sn.hs rfl (.inl rfl) (SnC.pure (ids_flat (iC_pure _) _)) (fun h => flat_nil0 h))

theorem slices_Index_int_int_ok (n : Nat) (s : List Int) (v : Int) (r : Int) (hr : slices_Index_int_int n s v = some r) : FnOk Try.prog 64 [sI64 s, aI64 v] (aI64 r) := by
 unfold slices_Index_int_int at hr
 refine FnOk.bd G Try.func64 [.tmp 4] ?_
 unfold Try.f64
 simp only [Option.getD_some]
 refine .seq (.r4 G [0, 1] [] (.seq (.seq (.r4 G [0, 1] [(7, aI64 (s.length : Int)), (8, aI64 0)] (.block ?_)))))
 replace hr := bd hr; obtain ⟨o9, hL10, hr⟩ := hr
 refine .loopO (σ := fun z0 => match z0 with | x_1 => ⟨mkS 19 0 [(0, sI64 s), (1, aI64 v), (7, aI64 (s.length : Int)), (8, aI64 x_1)], []⟩) (Q := fun x st' => match (generalizing := false) o9 with | .inl _ => x = .exit 0 ∧ Wk 0 st' ⟨mkS 19 0 [], []⟩ | .inr (r0) => x = .ret ∧ FinQ Try.prog [.tmp 4] (aI64 r0) .ret st') hL10 ((Wk.gc [0, 1, 7, 8] [] rfl pK0).to) ?_ ?_
 ·clear hr
  rintro m x_1 hr
  show CQ _ _ _ _ _ ⟨_, _⟩
  refine .seq (.r4 G [0, 1, 7, 8] [(9, aB (decide (x_1 < (s.length : Int))))] (.seq ?_))
  refine .cd hr (fun hb6 hr => ?_) (fun hb6 hr => ?_)
  ·refine .skip (.seq (.block (.seq (.r4 G [0, 1, 7, 8] [(5, aI64 x_1)] (.seq ?_)))))
   obtain ⟨hg7, hr⟩ := gd hr
   refine .r0 G (.mu 3 (.p0 (v := .pp (s.flatMap (iC .i64)) (x_1.toNat * 1)) (tr (ofP_guard hg7)) (.p0 (v := aI64 (gt s x_1)) (tr (ofP_some (flat_get (iC_len .i64) (inR_lt hg7) (by decide : 0 < 1) (by omega : x_1.toNat * 1 = x_1.toNat * 1 + 0) (by kernel_rfl)))) (.mu 1 (.done (.nh [0, 1, 5, 7, 8, 16] [] ?_))))))
   refine .cd hr (fun hb8 hr => ?_) (fun hb8 hr => ?_)
   ·refine .seq (.ru G (.ret ?_))
    obtain rfl := oi hr
    exact ⟨rfl, FinQ.ret (vs := [aI64 x_1]) (by kernel_rfl) (Sn.pure rfl)⟩
   ·refine .skip (.pop (.ru G ?_))
    exact loopF_back (wrapF .i64 (x_1 + 1)) hr ((Wk.gc [0, 1, 7, 8] [] rfl pK0).to)
  ·refine .leave rfl ?_
   obtain rfl := oi hr
   exact ⟨rfl, ((Wk.gc [] [] rfl pK0).to)⟩
 ·rcases o9 with ⟨⟩ | r0
  ·rintro x st' hq11
   clear hL10
   obtain ⟨rfl, hq11⟩ := hq11
   refine CQ_exit _ rfl (.wk hq11 (.seq (.ru G (.ret ?_))))
   obtain rfl := oi hr
   exact FinQ.r1 [aI64 (-1)]
  ·rintro x st' hq11
   clear hL10
   obtain ⟨rfl, hq11⟩ := hq11
   obtain rfl := oi hr
   exact CQ_ret _ hq11

theorem slices_Contains_int_int_ok (n : Nat) (s : List Int) (v : Int) (r : Bool) (hr : slices_Contains_int_int n s v = some r) : FnOk Try.prog 33 [sI64 s, aI64 v] (aB r) := by
 unfold slices_Contains_int_int at hr
 refine FnOk.bd G Try.func33 [.tmp 4] ?_
 unfold Try.f33
 simp only [Option.getD_some]
 refine .seq (.r4 G [0, 1] [] (.seq ?_))
 obtain ⟨v1, hc2, hr⟩ := bd hr
 refine .g1 G (ok0 (slices_Index_int_int_ok n s v v1 hc2)) (.mu 2 (.ca cf0 (.mu 2 (.done (.ret ?_)))))
 obtain rfl := oi hr
 exact FinQ.r1 [aB (decide (v1 ≥ 0))]

theorem fiduciallaw26_all_1_ok (n : Nat) (n' : Int) (p : List (List api_Mark)) (p' : Int) (r : Bool) (hr : fiduciallaw26_all_1 n n' p p' = some r) : FnOk Try.prog 98 [aI64 n', .pp [slT (slC api_Mark.c) p] 0, .pp [aI64 p'] 0] (aB r) := by
 unfold fiduciallaw26_all_1 at hr
 refine FnOk.bd G Try.func98 [.tmp 4] ?_
 unfold Try.f98
 simp only [Option.getD_some]
 refine .seq (.r4 G [0, 1, 2] [] (.seq ?_))
 obtain ⟨hg1, hr⟩ := gd hr
 obtain ⟨v2, hc3, v4, hc5, hr⟩ := bd2 hr
 refine .gn G (ca1 (ok0 (fiduciallaw26_images_ok n (gt p p') v2 hc3)) (ca3 (ok0 (slices_Contains_int_int_ok n v2 n' v4 hc5)))) (.mu 2 (.p0 (v := .pp (p.flatMap (slC api_Mark.c)) (p'.toNat * 1)) (tr (ofP_guard hg1)) (.p0 (v := slT api_Mark.c (gt p p')) (tr (ofP_some (flat_get (slC_len api_Mark.c) (inR_lt hg1) (by decide : 0 < 1) (by omega : p'.toNat * 1 = p'.toNat * 1 + 0) (by kernel_rfl)))) (.ca cf0 (.mu 1 (.ca (cfF cf0) (.mu 1 (.done (.ret ?_)))))))))
 obtain rfl := oi hr
 exact FinQ.r1 [aB v4]

theorem slices_IndexFunc_int_int_of_fiduciallaw26_all_1_ok (n : Nat) (s : List Int) (c : List (List api_Mark)) (c' : Int) (r : Int) (hr : slices_IndexFunc_int_int_of_fiduciallaw26_all_1 n s c c' = some r) : FnOk Try.prog 111 [sI64 s, .fn 98 [] [.pp [slT (slC api_Mark.c) c] 0, .pp [aI64 c'] 0]] (aI64 r) := by
 unfold slices_IndexFunc_int_int_of_fiduciallaw26_all_1 at hr
 refine FnOk.bd G Try.func111 [.tmp 4] ?_
 unfold Try.f111
 simp only [Option.getD_some]
 refine .seq (.r4 G [0, 1] [] (.seq (.seq (.r4 G [0, 1] [(7, aI64 (s.length : Int)), (8, aI64 0)] (.block ?_)))))
 replace hr := bd hr; obtain ⟨o13, hL14, hr⟩ := hr
 refine .loopO (σ := fun z0 => match z0 with | x_1 => ⟨mkS 19 0 [(0, sI64 s), (1, .fn 98 [] [.pp [slT (slC api_Mark.c) c] 0, .pp [aI64 c'] 0]), (7, aI64 (s.length : Int)), (8, aI64 x_1)], []⟩) (Q := fun x st' => match (generalizing := false) o13 with | .inl _ => x = .exit 0 ∧ Wk 0 st' ⟨mkS 19 0 [], []⟩ | .inr (r0) => x = .ret ∧ FinQ Try.prog [.tmp 4] (aI64 r0) .ret st') hL14 ((Wk.gc [0, 1, 7, 8] [] rfl pK0).to) ?_ ?_
 ·clear hr
  rintro m x_1 hr
  show CQ _ _ _ _ _ ⟨_, _⟩
  refine .seq (.r4 G [0, 1, 7, 8] [(9, aB (decide (x_1 < (s.length : Int))))] (.seq ?_))
  refine .cd hr (fun hb8 hr => ?_) (fun hb8 hr => ?_)
  ·refine .skip (.seq (.block (.seq (.r4 G [0, 1, 7, 8] [(5, aI64 x_1)] (.seq ?_)))))
   obtain ⟨hg9, hr⟩ := gd hr
   obtain ⟨v10, hc11, hr⟩ := bd hr
   refine .g1 G (ok0 (fiduciallaw26_all_1_ok n (gt s x_1) c c' v10 hc11)) (.mu 3 (.p0 (v := .pp (s.flatMap (iC .i64)) (x_1.toNat * 1)) (tr (ofP_guard hg9)) (.p0 (v := aI64 (gt s x_1)) (tr (ofP_some (flat_get (iC_len .i64) (inR_lt hg9) (by decide : 0 < 1) (by omega : x_1.toNat * 1 = x_1.toNat * 1 + 0) (by kernel_rfl)))) (.ca cf0 (.done (.nh [0, 1, 5, 7, 8, 16] [] ?_))))))
   refine .cd hr (fun hb12 hr => ?_) (fun hb12 hr => ?_)
   ·refine .seq (.ru G (.ret ?_))
    obtain rfl := oi hr
    exact ⟨rfl, FinQ.ret (vs := [aI64 x_1]) (by kernel_rfl) (Sn.pure rfl)⟩
   ·refine .skip (.pop (.ru G ?_))
    exact loopF_back (wrapF .i64 (x_1 + 1)) hr ((Wk.gc [0, 1, 7, 8] [] rfl pK0).to)
  ·refine .leave rfl ?_
   obtain rfl := oi hr
   exact ⟨rfl, ((Wk.gc [] [] rfl pK0).to)⟩
 ·rcases o13 with ⟨⟩ | r0
  ·rintro x st' hq15
   clear hL14
   obtain ⟨rfl, hq15⟩ := hq15
   refine CQ_exit _ rfl (.wk hq15 (.seq (.ru G (.ret ?_))))
   obtain rfl := oi hr
   exact FinQ.r1 [aI64 (-1)]
  ·rintro x st' hq15
   clear hL14
   obtain ⟨rfl, hq15⟩ := hq15
   obtain rfl := oi hr
   exact CQ_ret _ hq15

theorem slices_ContainsFunc_int_int_of_fiduciallaw26_all_1_ok (n : Nat) (s : List Int) (c : List (List api_Mark)) (c' : Int) (r : Bool) (hr : slices_ContainsFunc_int_int_of_fiduciallaw26_all_1 n s c c' = some r) : FnOk Try.prog 97 [sI64 s, .fn 98 [] [.pp [slT (slC api_Mark.c) c] 0, .pp [aI64 c'] 0]] (aB r) := by
 unfold slices_ContainsFunc_int_int_of_fiduciallaw26_all_1 at hr
 refine FnOk.bd G Try.func97 [.tmp 4] ?_
 unfold Try.f97
 simp only [Option.getD_some]
 refine .seq (.r4 G [0, 1] [] (.seq ?_))
 obtain ⟨v1, hc2, hr⟩ := bd hr
 refine .g1 G (callOk_val (args := [sI64 s, .fn 98 [] [.pp [slT (slC api_Mark.c) c] 0, .pp [aI64 c'] 0]]) (l := []) rfl (SnL.cons (Sn.pure rfl) (SnL.cons (Sn.fn SnL.nil (SnL.cons (Sn.pure rfl) (SnL.cons (Sn.pure rfl) SnL.nil))) SnL.nil)) (slices_IndexFunc_int_int_of_fiduciallaw26_all_1_ok n s c c' v1 hc2)) (.mu 2 (.ca cf0 (.mu 2 (.done (.ret ?_)))))
 obtain rfl := oi hr
 exact FinQ.r1 [aB (decide (v1 ≥ 0))]

theorem slices_Delete_fiducial_api_Mark_fiducial_api_Mark_w_ok (n : Nat) (s : List (List api_Mark)) (y : List api_Mark) (i : Int) (j : Int) (r : List (List api_Mark)) (hr : slices_Delete_fiducial_api_Mark_fiducial_api_Mark_w n s y i j = some r) : FnMut 0 Try.prog 99 [.hs 0 0 s.length 1, aI64 i, aI64 j] [.rows ((rws 2 api_Mark.c s).set i.toNat (.av (slT api_Mark.c y)))] (.hs 0 0 r.length 1) [.rows (rws 2 api_Mark.c r)] := by
 unfold slices_Delete_fiducial_api_Mark_fiducial_api_Mark_w at hr
 obtain ⟨h1, hr⟩ := gd hr
 obtain rfl := oi hr
 exact FnMut.delP Go.Proofs.Ytndmnfmpbcecaaa.contractDelL h1

theorem fiduciallaw26_all_w_ok (n : Nat) (l : List api_Tie) (r : List (List api_Mark)) (hr : fiduciallaw26_all_w n l = some r) : FnMut 0 Try.prog 66 [slT api_Tie.c l] [] (.hs 0 0 r.length 1) [.rows (rws 2 api_Mark.c r)] := by
 unfold fiduciallaw26_all_w at hr
 refine FnMut.bodyW G Try.func66 (c := (Try.f66.body).getD .skip) rfl (us := [.hs 0 0 r.length 1]) (s := mkS 89 0 [(0, slT api_Tie.c l)]) (by kernel_rfl) (rs := [.tmp 2]) rfl ?_
 unfold Try.f66
 simp only [Option.getD_some]
 refine .seq (.r4 G [0] [] (.seq (.r5 G [0] [(3, .hp 0 0)] [.own [nS]] (.seq (.seq (.r4 G [0, 3] [(13, slT api_Tie.c l), (14, aI64 (l.length : Int)), (15, aI64 0)] (.block ?_)))))))
 replace hr := bd hr; obtain ⟨tracks_265, hL294, hr⟩ := hr
 refine .loopO (σ := fun z0 => match z0 with | (tracks_237, x_238) => ⟨mkS 89 0 [(0, slT api_Tie.c l), (3, .hp 0 0), (13, slT api_Tie.c l), (14, aI64 (l.length : Int)), (15, aI64 x_238)], [.own [.hs 1 0 tracks_237.length 1], .rows (rws 2 api_Mark.c tracks_237)]⟩) (Q := fun x st' => x = .exit 0 ∧ Wk 0 st' ⟨mkS 89 0 [(0, slT api_Tie.c l), (3, .hp 0 0)], [.own [.hs 1 0 tracks_265.length 1], .rows (rws 2 api_Mark.c tracks_265)]⟩) hL294 ((Wk.nilcell 0 0 1 (cs := [nS]) (by kernel_rfl) (by kernel_rfl)).trans ((Wk.mkT 1 (n := 0) 2 api_Mark.c).trans ((Wk.gc [0, 3, 13, 14, 15] [(0, true), (1, false)] rfl (pKt (pKc trivial))).to))) ?_ ?_
 ·clear hr
  rintro m ⟨tracks_237, x_238⟩ hr
  show CQ _ _ _ _ _ ⟨_, _⟩
  refine .seq (.r4 G [0, 3, 13, 14, 15] [(16, aB (decide (x_238 < (l.length : Int))))] (.seq ?_))
  refine .cd hr (fun hb268 hr => ?_) (fun hb268 hr => ?_)
  ·refine .skip (.seq (.block (.seq ?_)))
   obtain ⟨hg269, hr⟩ := gd hr
   refine .r0 G (.p0 (v := .pp (l.flatMap api_Tie.c) (x_238.toNat * 5)) (tr (ofP_guard hg269)) (.p0 (v := .agg (api_Tie.c (gt l x_238))) (Eq.trans (b := ORes.ofP (guardV (decide (5 ≤ ((l.flatMap api_Tie.c).drop (x_238.toNat * 5)).length)) (.agg (((l.flatMap api_Tie.c).drop (x_238.toNat * 5)).take 5)))) (by kernel_rfl) (flat_load api_Tie.len (inR_lt hg269) (by decide) (by omega : x_238.toNat * 5 = x_238.toNat * 5 + 0) (by kernel_rfl))) (.mu 2 (.done (.nh [0, 3, 5, 13, 14, 15] [.own [.hs 1 0 tracks_237.length 1], .rows (rws 2 api_Mark.c tracks_237), .own (api_Tie.c (gt l x_238))] (.seq (.r5 G [0, 3, 13, 14, 15] [(23, .hs 3 0 2 2), (24, aI64 2), (25, aI64 0)] [.own [.hs 1 0 tracks_237.length 1], .rows (rws 2 api_Mark.c tracks_237), .own (api_Tie.c (gt l x_238)), .own [aI64 (gt l x_238).A.Image, aI64 (gt l x_238).A.Feature, aI64 (gt l x_238).B.Image, aI64 (gt l x_238).B.Feature]] (.block ?_))))))))
   replace hr := bd hr; obtain ⟨tracks_280, hL291, hr⟩ := hr
   refine .loopO (σ := fun z0 => match z0 with | (tracks_270, x_271) => ⟨mkS 89 0 [(0, slT api_Tie.c l), (3, .hp 0 0), (13, slT api_Tie.c l), (14, aI64 (l.length : Int)), (15, aI64 x_238), (23, .hs 2 0 ([(gt l x_238).A, (gt l x_238).B].length) 2), (24, aI64 2), (25, aI64 x_271)], [.own [.hs 1 0 tracks_270.length 1], .rows (rws 2 api_Mark.c tracks_270), .own ([(gt l x_238).A, (gt l x_238).B].flatMap api_Mark.c)]⟩) (Q := fun x st' => x = .exit 2 ∧ Wk 0 st' ⟨mkS 89 0 [(0, slT api_Tie.c l), (3, .hp 0 0), (13, slT api_Tie.c l), (14, aI64 (l.length : Int)), (15, aI64 x_238)], [.own [.hs 1 0 tracks_280.length 1], .rows (rws 2 api_Mark.c tracks_280)]⟩) hL291 ((Wk.gc [0, 3, 13, 14, 15, 23, 24, 25] [(0, true), (1, false), (3, false)] rfl (pKt (pKr 2 api_Mark.c tracks_237 (pKc trivial)))).to) ?_ ?_
   ·clear hr
    rintro m ⟨tracks_270, x_271⟩ hr
    show CQ _ _ _ _ _ ⟨_, _⟩
    refine .seq (.r4 G [0, 3, 13, 14, 15, 23, 24, 25] [(26, aB (decide (x_271 < 2)))] (.seq ?_))
    refine .cd hr (fun hb283 hr => ?_) (fun hb283 hr => ?_)
    ·refine .skip (.seq (.block (.seq ?_)))
     obtain ⟨hg284, hr⟩ := gd hr
     refine .r0 G (.p0 (v := .hp 2 (0 + x_271.toNat * 2)) (tr (ofP_guard hg284)) (.p0 (v := .agg (api_Mark.c (gt [(gt l x_238).A, (gt l x_238).B] x_271))) (Eq.trans (b := ORes.ofP (guardV (decide (2 ≤ (([(gt l x_238).A, (gt l x_238).B].flatMap api_Mark.c).drop (0 + x_271.toNat * 2)).length)) (.agg ((([(gt l x_238).A, (gt l x_238).B].flatMap api_Mark.c).drop (0 + x_271.toNat * 2)).take 2)))) (by kernel_rfl) (flat_load api_Mark.len (inR_lt hg284) (by decide) (by omega : 0 + x_271.toNat * 2 = x_271.toNat * 2 + 0) (by kernel_rfl))) (.mu 2 (.done (.nh [0, 3, 7, 13, 14, 15, 23, 24, 25] [.own [.hs 1 0 tracks_270.length 1], .rows (rws 2 api_Mark.c tracks_270), .own ([(gt l x_238).A, (gt l x_238).B].flatMap api_Mark.c), .own (api_Mark.c (gt [(gt l x_238).A, (gt l x_238).B] x_271))] (.seq ?_))))))
     obtain ⟨v285, hc286, hr⟩ := bd hr
     refine .g1 G (callOk_val (args := [.hs 1 0 tracks_270.length 1, .agg (api_Mark.c (gt [(gt l x_238).A, (gt l x_238).B] x_271))]) (l := [1]) rfl (SnL.cons (Sn.rw (es := 2) (c := api_Mark.c) (e := tracks_270)) (SnL.cons (Sn.pure rfl) SnL.nil)) (fiduciallaw26_where_ok n tracks_270 (gt [(gt l x_238).A, (gt l x_238).B] x_271) v285 hc286)) (.mu 2 (.ca cf0 (.mu 1 (.done (.nh [0, 3, 7, 13, 14, 15, 23, 24, 25, 32] [.own [.hs 1 0 tracks_270.length 1], .rows (rws 2 api_Mark.c tracks_270), .own ([(gt l x_238).A, (gt l x_238).B].flatMap api_Mark.c), .own (api_Mark.c (gt [(gt l x_238).A, (gt l x_238).B] x_271))] ?_)))))
     refine .cd hr (fun hb287 hr => ?_) (fun hb287 hr => ?_)
     ·obtain ⟨hg288, hg289, hr⟩ := gd2 hr
      refine .r0 G (.mu 4 (.e0 (v := .hs 6 0 (tracks_270.length + 1) 1) (ws := [(1, .dead), (6, .rows (rws 2 api_Mark.c tracks_270 ++ [.av (.hs 4 0 1 2)]))]) (Eq.trans (b := guardO (decide (tracks_270.length ≤ (rws 2 api_Mark.c tracks_270).length) && decide ((tracks_270.length + 1) * 24 ≤ 140737488355328) && decide (tracks_270.length + 1 ≤ 4611686018427387904) && true) (some (.eff (.hs 6 0 (tracks_270.length + 1) 1) [(1, .dead), (6, .rows ((rws 2 api_Mark.c tracks_270).take tracks_270.length ++ [.av (.hs 4 0 1 2)]))]))) (by kernel_rfl) (rap rfl hg288 hg289)) (.mu 1 (.done (.pop (.ru G ?_))))))
      exact loopF_back (tracks_270 ++ [[(gt [(gt l x_238).A, (gt l x_238).B] x_271)]], wrapF .i64 (x_271 + 1)) hr ((Wk.closeA 6 4 (x := [(gt [(gt l x_238).A, (gt l x_238).B] x_271)]) (es := 2) (c := api_Mark.c) (e := tracks_270) (len := 1) api_Mark.pure rfl).trans ((Wk.recell 0 0 (b := 6) (es := 1) (len := (tracks_270.length + 1)) (cs := [.hs 6 0 (tracks_270.length + 1) 1]) (tracks_270 ++ [[(gt [(gt l x_238).A, (gt l x_238).B] x_271)]]).length (by kernel_rfl) (by kernel_rfl) (by simp)).trans ((Wk.gc [0, 3, 13, 14, 15, 23, 24, 25] [(0, true), (6, false), (2, false)] rfl (pKt (pKr 2 api_Mark.c (tracks_270 ++ [[(gt [(gt l x_238).A, (gt l x_238).B] x_271)]]) (pKo api_Mark.c api_Mark.pure [(gt l x_238).A, (gt l x_238).B] trivial)))).to)))
     ·refine .skip (.pop (.ru G ?_))
      exact loopF_back (tracks_270, wrapF .i64 (x_271 + 1)) hr ((Wk.gc [0, 3, 13, 14, 15, 23, 24, 25] [(0, true), (1, false), (2, false)] rfl (pKt (pKr 2 api_Mark.c tracks_270 (pKo api_Mark.c api_Mark.pure [(gt l x_238).A, (gt l x_238).B] trivial)))).to)
    ·refine .leave rfl ?_
     obtain rfl := oi hr
     exact ⟨rfl, ((Wk.gc [0, 3, 13, 14, 15] [(0, true), (1, false)] rfl (pKt (pKr 2 api_Mark.c tracks_270 trivial))).to)⟩
   ·rintro x st' hq292
    clear hL291
    obtain ⟨rfl, hq292⟩ := hq292
    refine CQ_exit _ rfl (.pop (.wk hq292 (.ru G ?_)))
    exact loopF_back (tracks_280, wrapF .i64 (x_238 + 1)) hr ((Wk.gc [0, 3, 13, 14, 15] [(0, true), (1, false)] rfl (pKt (pKr 2 api_Mark.c tracks_280 trivial))).to)
  ·refine .leave rfl ?_
   obtain rfl := oi hr
   exact ⟨rfl, ((Wk.gc [0, 3] [(0, true), (1, false)] rfl (pKt (pKr 2 api_Mark.c tracks_237 trivial))).to)⟩
 ·rintro x st' hq295
  clear hL294
  obtain ⟨rfl, hq295⟩ := hq295
  refine CQ_exit _ rfl (.wk hq295 (.seq ?_))
  obtain ⟨v296, hc297, hr⟩ := bd hr
  refine .g1 G (callOk_mutU (args := [slT api_Tie.c l]) 0 1 [] [false] (slices_Clone_fiducial_api_Tie_fiducial_api_Tie_w_ok n l v296 hc297) trivial (by exact ⟨ids_flat api_Tie.pure _, trivial⟩) rfl rfl (by kernel_rfl) (by kernel_rfl)) (.mu 1 (.ca cf0 (.mu 1 (.done (.nh [3, 8] [.own [.hs 1 0 tracks_265.length 1], .rows (rws 2 api_Mark.c tracks_265), .own (v296.flatMap api_Tie.c)] (.seq ?_))))))
  obtain ⟨v298, hc299, hr⟩ := bd hr
  obtain ⟨hg300, hr⟩ := gd hr
  refine .g1 G (callOk_mutU (args := [.hs 2 0 v296.length 5, .fn 70 [] []]) 1 0 [(2, false)] [false] (slices_SortFunc_fiducial_api_Tie_fiducial_api_Tie_w_of_fiduciallaw26_order_ok n v296 v298 hc299) (by exact ⟨ids_flat api_Tie.pure _, trivial⟩) (by exact ⟨ids_flat api_Tie.pure _, trivial⟩) rfl rfl (by kernel_rfl) (by kernel_rfl)) (.mu 1 (.ca cf0 (.done (.nh [3, 8] [.own [.hs 1 0 tracks_265.length 1], .rows (rws 2 api_Mark.c tracks_265), .own (v298.flatMap api_Tie.c)] (.seq (.seq (.r4 G [3] [(44, .hs 2 0 v296.length 5), (45, aI64 (v296.length : Int)), (46, aI64 0)] (.block ?_))))))))
  replace hr := bd hr; obtain ⟨tracks_326, hL352, hr⟩ := hr
  refine .loopO (σ := fun z0 => match z0 with | (tracks_301, x_302) => ⟨mkS 89 0 [(3, .hp 0 0), (44, .hs 2 0 v298.length 5), (45, aI64 (v296.length : Int)), (46, aI64 x_302)], [.own [.hs 1 0 tracks_301.length 1], .rows (rws 2 api_Mark.c tracks_301), .own (v298.flatMap api_Tie.c)]⟩) (Q := fun x st' => x = .exit 4 ∧ Wk 0 st' ⟨mkS 89 0 [(3, .hp 0 0)], [.own [.hs 1 0 tracks_326.length 1], .rows (rws 2 api_Mark.c tracks_326)]⟩) hL352 ((Wk.relen 44 (b := 2) (es := 5) (len := v296.length) v298.length (by kernel_rfl) (Eq.symm (of_decide_eq_true hg300))).trans ((Wk.gc [3, 44, 45, 46] [(0, true), (1, false), (2, false)] rfl (pKt (pKr 2 api_Mark.c tracks_265 (pKo api_Tie.c api_Tie.pure v298 trivial)))).to)) ?_ ?_
  ·clear hr
   rintro m ⟨tracks_301, x_302⟩ hr
   show CQ _ _ _ _ _ ⟨_, _⟩
   refine .seq (.r4 G [3, 44, 45, 46] [(47, aB (decide (x_302 < (v296.length : Int))))] (.seq ?_))
   refine .cd hr (fun hb329 hr => ?_) (fun hb329 hr => ?_)
   ·refine .skip (.seq (.block (.seq ?_)))
    obtain ⟨hg330, hr⟩ := gd hr
    refine .r0 G (.p0 (v := .hp 2 (0 + x_302.toNat * 5)) (tr (ofP_guard hg330)) (.p0 (v := .agg (api_Tie.c (gt v298 x_302))) (Eq.trans (b := ORes.ofP (guardV (decide (5 ≤ ((v298.flatMap api_Tie.c).drop (0 + x_302.toNat * 5)).length)) (.agg (((v298.flatMap api_Tie.c).drop (0 + x_302.toNat * 5)).take 5)))) (by kernel_rfl) (flat_load api_Tie.len (inR_lt hg330) (by decide) (by omega : 0 + x_302.toNat * 5 = x_302.toNat * 5 + 0) (by kernel_rfl))) (.mu 2 (.done (.nh [3, 10, 44, 45, 46] [.own [.hs 1 0 tracks_301.length 1], .rows (rws 2 api_Mark.c tracks_301), .own (v298.flatMap api_Tie.c), .own (api_Tie.c (gt v298 x_302))] (.seq ?_))))))
    obtain ⟨v331, hc332, v333, hc334, hr⟩ := bd2 hr
    refine .tn G (ca1 (callOk_val (args := [.hs 1 0 tracks_301.length 1, .agg (api_Mark.c (gt v298 x_302).A)]) (l := [1]) rfl (SnL.cons (Sn.rw (es := 2) (c := api_Mark.c) (e := tracks_301)) (SnL.cons (Sn.pure rfl) SnL.nil)) (fiduciallaw26_where_ok n tracks_301 (gt v298 x_302).A v331 hc332)) (ca3 (callOk_val (args := [.hs 1 0 tracks_301.length 1, .agg (api_Mark.c (gt v298 x_302).B)]) (l := [1]) rfl (SnL.cons (Sn.rw (es := 2) (c := api_Mark.c) (e := tracks_301)) (SnL.cons (Sn.pure rfl) SnL.nil)) (fiduciallaw26_where_ok n tracks_301 (gt v298 x_302).B v333 hc334)))) (.mu 3 (.ca cf0 (.mu 3 (.ca (cfA (fun h => by rw [sv hc334 hc332 (fiduciallaw26_where_cg n (show ([slT (slC api_Mark.c) tracks_301, .agg (api_Mark.c (gt v298 x_302).B)] : List AV) = [slT (slC api_Mark.c) tracks_301, .agg (api_Mark.c (gt v298 x_302).A)] from (congr (congrArg List.cons rfl) (congr (congrArg List.cons (List.cons.inj (List.cons.inj h).2).1) rfl))))]) cf0) (.mu 3 ?_)))))
    refine .done ⟨by kernel_rfl, ?_⟩
    refine .nh [3, 11, 12, 44, 45, 46] [.own [.hs 1 0 tracks_301.length 1], .rows (rws 2 api_Mark.c tracks_301), .own (v298.flatMap api_Tie.c), .own (api_Tie.c (gt v298 x_302)), .own [aI64 v333]] (.seq (.seq ?_))
    rcases Bool.eq_false_or_eq_true ((v331 : Int) == v333) with hb335 | hb335
    ·replace hr := cd_t hb335 hr
     refine .r0 G (.mu 2 (.p0 (v := aB true) (eB hb335) (.mu 9 (.done (.nh [3, 11, 12, 44, 45, 46, 69] [.own [.hs 1 0 tracks_301.length 1], .rows (rws 2 api_Mark.c tracks_301), .own (v298.flatMap api_Tie.c), .own (api_Tie.c (gt v298 x_302)), .own [aI64 v333]] (.cT (by kernel_rfl) (.exit rfl (.ru G ?_))))))))
     exact loopF_back (tracks_301, wrapF .i64 (x_302 + 1)) hr ((Wk.gc [3, 44, 45, 46] [(0, true), (1, false), (2, false)] rfl (pKt (pKr 2 api_Mark.c tracks_301 (pKo api_Tie.c api_Tie.pure v298 trivial)))).to)
    ·replace hr := cd_f hb335 hr
     obtain ⟨hg336, hr⟩ := gd hr
     refine .wk ((Wk.openT 1 (es := 2) (c := api_Mark.c) (e := tracks_301) hg336).to (c := ⟨mkS 89 0 [(3, .hp 0 0), (11, aI64 v331), (12, .hp 4 0), (44, .hs 2 0 v298.length 5), (45, aI64 (v296.length : Int)), (46, aI64 x_302)], [.own [.hs 1 0 tracks_301.length 1], .rows ((rws 2 api_Mark.c tracks_301).set v331.toNat (.av (.hs 5 0 (gt tracks_301 v331).length 2))), .own (v298.flatMap api_Tie.c), .own (api_Tie.c (gt v298 x_302)), .own [aI64 v333], .own ((gt tracks_301 v331).flatMap api_Mark.c)]⟩) (by kernel_rfl)) ?_
     obtain ⟨v337, hc338, v339, hc340, hr⟩ := bd2 hr
     refine .gn G (ca1 (callOk_mutU (args := [.hs 5 0 (gt tracks_301 v331).length 2]) 1 1 [(5, false)] [false, false] (fiduciallaw26_images_w_ok n (gt tracks_301 v331) v337 hc338) (by exact ⟨ids_flat api_Mark.pure _, trivial⟩) (by exact ⟨ids_flat api_Mark.pure _, ⟨ids_flat (iC_pure _) _, trivial⟩⟩) rfl rfl (by kernel_rfl) (by kernel_rfl)) (ca4 [.own [.hs 1 0 tracks_301.length 1], .rows ((rws 2 api_Mark.c tracks_301).set v331.toNat (.av (.hs 5 0 (gt tracks_301 v331).length 2))), .own (v298.flatMap api_Tie.c), .own (api_Tie.c (gt v298 x_302)), .own [aI64 v333], .own ((gt tracks_301 v331).flatMap api_Mark.c), .own (v337.flatMap (iC .i64))] (callOk_val (args := [.hs 6 0 v337.length 1, .fn 98 [] [.hp 0 0, .hp 4 0]]) (l := [0, 1, 4, 5, 6]) rfl (SnL.cons (Sn.hs rfl (.inl rfl) (SnC.pure (ids_flat (iC_pure _) _)) (fun h => flat_nil0 h)) (SnL.cons (Sn.fn SnL.nil (SnL.cons (Sn.hp rfl (.inl rfl) (SnC.cons (Sn.rwo (n := 5) (es := 2) (c := api_Mark.c) (e := tracks_301) api_Mark.pure hg336 rfl) SnC.nil)) (SnL.cons (Sn.hp rfl (.inl rfl) (SnC.cons (Sn.pure rfl) SnC.nil)) SnL.nil))) SnL.nil)) (slices_ContainsFunc_int_int_of_fiduciallaw26_all_1_ok n v337 tracks_301 v333 v339 hc340)))) (.mu 2 (.p0 (v := aB false) (eB hb335) (.mu 3 (.pure (v := .hp 1 (0 + v331.toNat * 1)) (by kernel_rfl) (tr (ofP_guard hg336)) (.pure (v := .hs 5 0 (gt tracks_301 v331).length 2) (by kernel_rfl) (Eq.trans (b := ORes.ofP (rcAt ((rws 2 api_Mark.c tracks_301).set v331.toNat (.av (.hs 5 0 (gt tracks_301 v331).length 2)))[0 + v331.toNat * 1]?)) (by kernel_rfl) (rld hg336 (by omega))) (.ca cf0 (.mu 1 (.ca (cfF cf0) (.mu 1 (.done (.nh [3, 11, 12, 44, 45, 46, 69] [.own [.hs 1 0 tracks_301.length 1], .rows ((rws 2 api_Mark.c tracks_301).set v331.toNat (.av (.hs 5 0 (gt tracks_301 v331).length 2))), .own (v298.flatMap api_Tie.c), .own (api_Tie.c (gt v298 x_302)), .own [aI64 v333], .own ((gt tracks_301 v331).flatMap api_Mark.c), .own (v337.flatMap (iC .i64))] (.wk ((Wk.closeT 1 5 (x := (gt tracks_301 v331)) (es := 2) (c := api_Mark.c) (e := tracks_301) (i := v331) (len := (gt tracks_301 v331).length) api_Mark.pure hg336 rfl).to (c := ⟨mkS 89 0 [(3, .hp 0 0), (11, aI64 v331), (12, .hp 4 0), (44, .hs 2 0 v298.length 5), (45, aI64 (v296.length : Int)), (46, aI64 x_302), (69, aB v339)], [.own [.hs 1 0 tracks_301.length 1], .rows (rws 2 api_Mark.c (tracks_301.set v331.toNat (gt tracks_301 v331))), .own (v298.flatMap api_Tie.c), .own (api_Tie.c (gt v298 x_302)), .own [aI64 v333], .dead, .own (v337.flatMap (iC .i64))]⟩) (by kernel_rfl)) ?_))))))))))))
     refine .cd hr (fun hb342 hr => ?_) (fun hb342 hr => ?_)
     ·refine .exit rfl (.ru G ?_)
      exact loopF_back (tracks_301.set v331.toNat (gt tracks_301 v331), wrapF .i64 (x_302 + 1)) hr ((Wk.recell 0 0 (b := 1) (es := 1) (len := tracks_301.length) (cs := [.hs 1 0 tracks_301.length 1]) (tracks_301.set v331.toNat (gt tracks_301 v331)).length (by kernel_rfl) (by kernel_rfl) (by simp)).trans ((Wk.gc [3, 44, 45, 46] [(0, true), (1, false), (2, false)] rfl (pKt (pKr 2 api_Mark.c (tracks_301.set v331.toNat (gt tracks_301 v331)) (pKo api_Tie.c api_Tie.pure v298 trivial)))).to))
     ·refine .skip (.seq ?_)
      obtain ⟨hg343, hr⟩ := gd hr
      refine .wk ((Wk.openT 1 (es := 2) (c := api_Mark.c) (e := tracks_301.set v331.toNat (gt tracks_301 v331)) hg343).to (c := ⟨mkS 89 0 [(3, .hp 0 0), (11, aI64 v331), (12, .hp 4 0), (44, .hs 2 0 v298.length 5), (45, aI64 (v296.length : Int)), (46, aI64 x_302), (69, aB v339)], [.own [.hs 1 0 tracks_301.length 1], .rows ((rws 2 api_Mark.c (tracks_301.set v331.toNat (gt tracks_301 v331))).set v331.toNat (.av (.hs 7 0 (gt (tracks_301.set v331.toNat (gt tracks_301 v331)) v331).length 2))), .own (v298.flatMap api_Tie.c), .own (api_Tie.c (gt v298 x_302)), .own [aI64 v333], .dead, .own (v337.flatMap (iC .i64)), .own ((gt (tracks_301.set v331.toNat (gt tracks_301 v331)) v331).flatMap api_Mark.c)]⟩) (by kernel_rfl)) ?_
      obtain ⟨hg344, hg345, hg346, hr⟩ := gd3 hr
      refine .wk ((Wk.purJ 1 (A := .hs 7 0 (gt (tracks_301.set v331.toNat (gt tracks_301 v331)) v331).length 2) (es := 2) (c := api_Mark.c) (e := tracks_301.set v331.toNat (gt tracks_301 v331)) (i := v331) (j := v333) api_Mark.pure hg343 hg345 hg346).to (c := ⟨mkS 89 0 [(3, .hp 0 0), (11, aI64 v331), (12, .hp 4 0), (44, .hs 2 0 v298.length 5), (45, aI64 (v296.length : Int)), (46, aI64 x_302), (69, aB v339)], [.own [.hs 1 0 tracks_301.length 1], .rows (((rws 2 api_Mark.c (tracks_301.set v331.toNat (gt tracks_301 v331))).set v331.toNat (.av (.hs 7 0 (gt (tracks_301.set v331.toNat (gt tracks_301 v331)) v331).length 2))).set v333.toNat (.av (slT api_Mark.c (gt (tracks_301.set v331.toNat (gt tracks_301 v331)) v333)))), .own (v298.flatMap api_Tie.c), .own (api_Tie.c (gt v298 x_302)), .own [aI64 v333], .dead, .own (v337.flatMap (iC .i64)), .own ((gt (tracks_301.set v331.toNat (gt tracks_301 v331)) v331).flatMap api_Mark.c), .fix ((gt (tracks_301.set v331.toNat (gt tracks_301 v331)) v333).flatMap api_Mark.c)]⟩) (by kernel_rfl)) ?_
      obtain ⟨hg347, hg348, hr⟩ := gd2 hr
      refine .regionT G callOf_nil (.mu 4 (.pure (v := .hp 1 (0 + v331.toNat * 1)) (by kernel_rfl) (tr (ofP_guard hg336)) (by kernel_rfl) (.pure (v := .hs 7 0 (gt (tracks_301.set v331.toNat (gt tracks_301 v331)) v331).length 2) (by kernel_rfl) (Eq.trans (b := ORes.ofP (rcAt (((rws 2 api_Mark.c (tracks_301.set v331.toNat (gt tracks_301 v331))).set v331.toNat (.av (.hs 7 0 (gt (tracks_301.set v331.toNat (gt tracks_301 v331)) v331).length 2))).set v333.toNat (.av (slT api_Mark.c (gt (tracks_301.set v331.toNat (gt tracks_301 v331)) v333))))[0 + v331.toNat * 1]?)) (by kernel_rfl) (rldI hg343 hg345 hg346 (by omega))) (by kernel_rfl) (.mu 2 (.pure (v := .hp 1 (0 + v333.toNat * 1)) (by kernel_rfl) (tr (ofP_guard hg344)) (by kernel_rfl) (.pure (v := slT api_Mark.c (gt (tracks_301.set v331.toNat (gt tracks_301 v331)) v333)) (by kernel_rfl) (Eq.trans (b := ORes.ofP (rcAt (((rws 2 api_Mark.c (tracks_301.set v331.toNat (gt tracks_301 v331))).set v331.toNat (.av (.hs 7 0 (gt (tracks_301.set v331.toNat (gt tracks_301 v331)) v331).length 2))).set v333.toNat (.av (slT api_Mark.c (gt (tracks_301.set v331.toNat (gt tracks_301 v331)) v333))))[0 + v333.toNat * 1]?)) (by kernel_rfl) (rldJ hg345 (by omega))) (by kernel_rfl) (.eff (v := .hs 9 0 ((gt (tracks_301.set v331.toNat (gt tracks_301 v331)) v331) ++ (gt (tracks_301.set v331.toNat (gt tracks_301 v331)) v333)).length 2) (ws := [(7, .dead), (9, .own (((gt (tracks_301.set v331.toNat (gt tracks_301 v331)) v331) ++ (gt (tracks_301.set v331.toNat (gt tracks_301 v331)) v333)).flatMap api_Mark.c))]) (by kernel_rfl) (Eq.trans (b := appS (decide ((((gt (tracks_301.set v331.toNat (gt tracks_301 v331)) v333).flatMap api_Mark.c)).length = (gt (tracks_301.set v331.toNat (gt tracks_301 v331)) v333).length * 2)) ((gt (tracks_301.set v331.toNat (gt tracks_301 v331)) v333).flatMap api_Mark.c) (gt (tracks_301.set v331.toNat (gt tracks_301 v331)) v333).length (fun z1 z2 => guardO (decide (0 + (gt (tracks_301.set v331.toNat (gt tracks_301 v331)) v331).length * 2 ≤ ((gt (tracks_301.set v331.toNat (gt tracks_301 v331)) v331).flatMap api_Mark.c).length) && decide (((gt (tracks_301.set v331.toNat (gt tracks_301 v331)) v331).length + z2) * 16 ≤ 140737488355328) && decide ((gt (tracks_301.set v331.toNat (gt tracks_301 v331)) v331).length + z2 ≤ 4611686018427387904)) (some (.eff (.hs 9 0 ((gt (tracks_301.set v331.toNat (gt tracks_301 v331)) v331).length + z2) 2) [(7, .dead), (9, .own ((((gt (tracks_301.set v331.toNat (gt tracks_301 v331)) v331).flatMap api_Mark.c).drop 0).take ((gt (tracks_301.set v331.toNat (gt tracks_301 v331)) v331).length * 2) ++ z1))])))) (by kernel_rfl) (appS_t (flat_lenB api_Mark.len) rfl (app_own (l := gt (tracks_301.set v331.toNat (gt tracks_301 v331)) v331) (xs := gt (tracks_301.set v331.toNat (gt tracks_301 v331)) v333) api_Mark.len rfl rfl rfl hg347 hg348))) (by kernel_rfl) (.pure (v := .hp 1 (0 + v331.toNat * 1)) (by kernel_rfl) (tr (ofP_guard hg336)) (by kernel_rfl) ?_))))))))
      refine .eff (v := .unk) (ws := [(1, .rows (((rws 2 api_Mark.c (tracks_301.set v331.toNat (gt tracks_301 v331))).set v331.toNat (.av (.hs 9 0 ((gt (tracks_301.set v331.toNat (gt tracks_301 v331)) v331) ++ (gt (tracks_301.set v331.toNat (gt tracks_301 v331)) v333)).length 2))).set v333.toNat (.av (slT api_Mark.c (gt (tracks_301.set v331.toNat (gt tracks_301 v331)) v333)))))]) (by kernel_rfl) (Eq.trans (b := stO (decide (0 + v331.toNat * 1 < (((rws 2 api_Mark.c (tracks_301.set v331.toNat (gt tracks_301 v331))).set v331.toNat (.av (.hs 7 0 (gt (tracks_301.set v331.toNat (gt tracks_301 v331)) v331).length 2))).set v333.toNat (.av (slT api_Mark.c (gt (tracks_301.set v331.toNat (gt tracks_301 v331)) v333)))).length) && true) [(1, .rows ((((rws 2 api_Mark.c (tracks_301.set v331.toNat (gt tracks_301 v331))).set v331.toNat (.av (.hs 7 0 (gt (tracks_301.set v331.toNat (gt tracks_301 v331)) v331).length 2))).set v333.toNat (.av (slT api_Mark.c (gt (tracks_301.set v331.toNat (gt tracks_301 v331)) v333)))).set (0 + v331.toNat * 1) (.av (.hs 9 0 ((gt (tracks_301.set v331.toNat (gt tracks_301 v331)) v331) ++ (gt (tracks_301.set v331.toNat (gt tracks_301 v331)) v333)).length 2))))]) (by kernel_rfl) (rstI (inR_set hg336) hg345 hg346 (by omega))) (by kernel_rfl) ?_
      refine .done ⟨by kernel_rfl, ?_⟩
      refine .nh [3, 12, 44, 45, 46] [.own [.hs 1 0 tracks_301.length 1], .rows (((rws 2 api_Mark.c (tracks_301.set v331.toNat (gt tracks_301 v331))).set v331.toNat (.av (.hs 9 0 ((gt (tracks_301.set v331.toNat (gt tracks_301 v331)) v331) ++ (gt (tracks_301.set v331.toNat (gt tracks_301 v331)) v333)).length 2))).set v333.toNat (.av (slT api_Mark.c (gt (tracks_301.set v331.toNat (gt tracks_301 v331)) v333)))), .own (v298.flatMap api_Tie.c), .own (api_Tie.c (gt v298 x_302)), .own [aI64 v333], .dead, .own (v337.flatMap (iC .i64)), .dead, .fix ((gt (tracks_301.set v331.toNat (gt tracks_301 v331)) v333).flatMap api_Mark.c), .own (((gt (tracks_301.set v331.toNat (gt tracks_301 v331)) v331) ++ (gt (tracks_301.set v331.toNat (gt tracks_301 v331)) v333)).flatMap api_Mark.c)] (.wk ((Wk.closeP 1 9 (x := (gt (tracks_301.set v331.toNat (gt tracks_301 v331)) v331) ++ (gt (tracks_301.set v331.toNat (gt tracks_301 v331)) v333)) (S := slT api_Mark.c (gt (tracks_301.set v331.toNat (gt tracks_301 v331)) v333)) (es := 2) (c := api_Mark.c) (e := tracks_301.set v331.toNat (gt tracks_301 v331)) (i := v331) (j := v333) (len := ((gt (tracks_301.set v331.toNat (gt tracks_301 v331)) v331) ++ (gt (tracks_301.set v331.toNat (gt tracks_301 v331)) v333)).length) api_Mark.pure (inR_set hg336) hg345 hg346 rfl).to (c := ⟨mkS 89 0 [(3, .hp 0 0), (12, .hp 4 0), (44, .hs 2 0 v298.length 5), (45, aI64 (v296.length : Int)), (46, aI64 x_302)], [.own [.hs 1 0 tracks_301.length 1], .rows ((rws 2 api_Mark.c ((tracks_301.set v331.toNat (gt tracks_301 v331)).set v331.toNat ((gt (tracks_301.set v331.toNat (gt tracks_301 v331)) v331) ++ (gt (tracks_301.set v331.toNat (gt tracks_301 v331)) v333)))).set v333.toNat (.av (slT api_Mark.c (gt (tracks_301.set v331.toNat (gt tracks_301 v331)) v333)))), .own (v298.flatMap api_Tie.c), .own (api_Tie.c (gt v298 x_302)), .own [aI64 v333], .dead, .own (v337.flatMap (iC .i64)), .dead, .fix ((gt (tracks_301.set v331.toNat (gt tracks_301 v331)) v333).flatMap api_Mark.c), .dead]⟩) (by kernel_rfl)) ?_)
      obtain ⟨v349, hc350, hr⟩ := bd hr
      refine .g1 G (callOk_mutU (args := [.hs 1 0 tracks_301.length 1, aI64 v333, aI64 (wrapF .i64 (v333 + 1))]) 0 1 [(1, false)] [false] (slices_Delete_fiducial_api_Mark_fiducial_api_Mark_w_ok n ((tracks_301.set v331.toNat (gt tracks_301 v331)).set v331.toNat ((gt (tracks_301.set v331.toNat (gt tracks_301 v331)) v331) ++ (gt (tracks_301.set v331.toNat (gt tracks_301 v331)) v333))) (gt (tracks_301.set v331.toNat (gt tracks_301 v331)) v333) v333 (wrapF .i64 (v333 + 1)) v349 hc350) (by exact ⟨(rwsP_ids api_Mark.pure), trivial⟩) (by exact ⟨rws_ids, trivial⟩) rfl rfl (by rw [(List.length_set.trans (List.length_set.trans rfl))]; kernel_rfl) (by kernel_rfl)) <| .mu 4 <| .ca cf0 <| .mu 1 <| .done <| .pop <| .ru G ?_
      exact loopF_back (v349, wrapF .i64 (x_302 + 1)) hr ((Wk.gc [3, 44, 45, 46] [(0, true), (10, false), (2, false)] rfl (pKt (pKr 2 api_Mark.c v349 (pKo api_Tie.c api_Tie.pure v298 trivial)))).to)
   ·refine .leave rfl ?_
    obtain rfl := oi hr
    exact ⟨rfl, ((Wk.gc [3] [(0, true), (1, false)] rfl (pKt (pKr 2 api_Mark.c tracks_301 trivial))).to)⟩
  ·rintro x st' hq353
   clear hL352
   obtain ⟨rfl, hq353⟩ := hq353
   refine CQ_exit _ rfl (.wk hq353 (.seq (.r3 G 89 [(2, .hs 1 0 tracks_326.length 1)] (.ret ?_))))
   obtain rfl := oi hr
   exact FinMW.ret [.hs 1 0 tracks_326.length 1] ((Wk.gc [0] [(1, false)] rfl (pKr 2 api_Mark.c tracks_326 trivial)).to)

theorem slices_SortFunc_fiducial_api_Mark_fiducial_api_Mark_w_of_fiduciallaw26_mark_ok (n : Nat) (x' : List api_Mark) (r : List api_Mark) (hr : slices_SortFunc_fiducial_api_Mark_fiducial_api_Mark_w_of_fiduciallaw26_mark n x' = some r) : FnMut 1 Try.prog 28 [.hs 0 0 x'.length 2, .fn 29 [] []] [.own (x'.flatMap api_Mark.c)] (.tup []) [.own (r.flatMap api_Mark.c)] := by
 unfold slices_SortFunc_fiducial_api_Mark_fiducial_api_Mark_w_of_fiduciallaw26_mark at hr
 obtain ⟨h1, hr⟩ := gd hr
 exact FnMut.sortS (c := api_Mark.c) (caps' := []) (Go.Proofs.Ytndmnfmpbcecaaa.contractSortM (enters_of Try.func29 (by kernel_rfl) rfl)) Go.Proofs.Ytndmnfmpbcecaaa.noneSortM api_Mark.len api_Mark.pure hr (of_decide_eq_true h1) SnL.nil (fun x y r hc => @fiduciallaw26_mark_ok ⟨true⟩ n x y r hc)

theorem fiduciallaw26_Chained_1_ok [Dr] (n : Nat) (a : List api_Mark) (b : List api_Mark) (r : Int) (hr : fiduciallaw26_Chained_1 n a b = some r) : FnOk Try.prog 67 [slT api_Mark.c a, slT api_Mark.c b] (aI64 r) := by
 unfold fiduciallaw26_Chained_1 at hr
 refine FnOk.bd G Try.func67 [.tmp 4] ?_
 unfold Try.f67
 simp only [Option.getD_some]
 refine .seq (.r4 G [0, 1] [] (.seq ?_))
 obtain ⟨hg1, hg2, hr⟩ := gd2 hr
 obtain ⟨v3, hc4, hr⟩ := bd hr
 refine .t1 G (ok0 (fiduciallaw26_mark_ok n (gt a 0) (gt b 0) v3 hc4)) (.mu 1 (.pure (v := .pp (a.flatMap api_Mark.c) ((0 : Int).toNat * 2)) (by kernel_rfl) (tr (ofP_guard hg1)) (by kernel_rfl) (.pure (v := .agg (api_Mark.c (gt a 0))) (by kernel_rfl) (Eq.trans (b := ORes.ofP (guardV (decide (2 ≤ ((a.flatMap api_Mark.c).drop ((0 : Int).toNat * 2)).length)) (.agg (((a.flatMap api_Mark.c).drop ((0 : Int).toNat * 2)).take 2)))) (by kernel_rfl) (flat_load api_Mark.len (inR_lt hg1) (by decide) (by omega : (0 : Int).toNat * 2 = (0 : Int).toNat * 2 + 0) (by kernel_rfl))) (by kernel_rfl) (.mu 1 (.pure (v := .pp (b.flatMap api_Mark.c) ((0 : Int).toNat * 2)) (by kernel_rfl) (tr (ofP_guard hg2)) (by kernel_rfl) (.pure (v := .agg (api_Mark.c (gt b 0))) (by kernel_rfl) (Eq.trans (b := ORes.ofP (guardV (decide (2 ≤ ((b.flatMap api_Mark.c).drop ((0 : Int).toNat * 2)).length)) (.agg (((b.flatMap api_Mark.c).drop ((0 : Int).toNat * 2)).take 2)))) (by kernel_rfl) (flat_load api_Mark.len (inR_lt hg2) (by decide) (by omega : (0 : Int).toNat * 2 = (0 : Int).toNat * 2 + 0) (by kernel_rfl))) (by kernel_rfl) (.ca cf0 (.mu 1 ?_))))))))
 refine .done ⟨by kernel_rfl, ?_⟩
 refine .ret ?_
 obtain rfl := oi hr
 exact FinQ.r1 [aI64 v3]

theorem slices_SortFunc_fiducial_api_Mark_fiducial_api_Mark_w_of_fiduciallaw26_Chained_1_ok (n : Nat) (x' : List (List api_Mark)) (r : List (List api_Mark)) (hr : slices_SortFunc_fiducial_api_Mark_fiducial_api_Mark_w_of_fiduciallaw26_Chained_1 n x' = some r) : FnMut 1 Try.prog 30 [.hs 0 0 x'.length 1, .fn 67 [] []] [.own (x'.flatMap (slC api_Mark.c))] (.tup []) [.own (r.flatMap (slC api_Mark.c))] := by
 unfold slices_SortFunc_fiducial_api_Mark_fiducial_api_Mark_w_of_fiduciallaw26_Chained_1 at hr
 obtain ⟨h1, hr⟩ := gd hr
 exact FnMut.sortL (c := api_Mark.c) (caps' := []) (Go.Proofs.Ytndmnfmpbcecaaa.contractSortL (enters_of Try.func67 (by kernel_rfl) rfl)) Go.Proofs.Ytndmnfmpbcecaaa.noneSortL hr (of_decide_eq_true h1) SnL.nil (fun x y r hc => @fiduciallaw26_Chained_1_ok ⟨true⟩ n x y r hc)

theorem fiduciallaw26_Chained_ok (n : Nat) (l : List api_Tie) (r : List (List api_Mark)) (hr : fiduciallaw26_Chained n l = some r) : FnOk Try.prog 40 [slT api_Tie.c l] (slT (slC api_Mark.c) r) := by
 unfold fiduciallaw26_Chained at hr
 refine FnOk.bd G Try.func40 [.tmp 2] ?_
 unfold Try.f40
 simp only [Option.getD_some]
 refine .seq (.r4 G [0] [] (.seq (.r4 G [0] [(3, nS)] (.seq (.seq ?_)))))
 obtain ⟨v1, hc2, hr⟩ := bd hr
 refine .g1 G (callOk_mutU (args := [slT api_Tie.c l]) 0 1 [] [false] (fiduciallaw26_all_w_ok n l v1 hc2) trivial (by exact ⟨rws_ids, trivial⟩) rfl rfl (by kernel_rfl) (by kernel_rfl)) (.mu 1 (.ca cf0 (.mu 2 (.done (.nh [3, 7, 8, 9] [.rows (rws 2 api_Mark.c v1)] (.wk ((Wk.mkH 0 (es := 2) (c := api_Mark.c) (e := v1)).to (c := ⟨mkS 26 0 [(3, nS), (7, .hs 0 0 v1.length 1), (8, aI64 (v1.length : Int)), (9, aI64 0)], [.rows (rwh 2 api_Mark.c (v1.map some))]⟩) (by kernel_rfl)) (.wk ((Wk.relen 7 (b := 0) (es := 1) (len := v1.length) (v1.map some).length (by kernel_rfl) (by simp)).to (c := ⟨mkS 26 0 [(3, nS), (7, .hs 0 0 (v1.map some).length 1), (8, aI64 (v1.length : Int)), (9, aI64 0)], [.rows (rwh 2 api_Mark.c (v1.map some))]⟩) (by kernel_rfl)) (.block ?_))))))))
 replace hr := bd hr; obtain ⟨out_16, hL29, hr⟩ := hr
 refine .loopO (σ := fun z0 => match z0 with | (out_3, x_4, x_5) => ⟨mkS 26 0 [(3, .hs 0 0 out_3.length 1), (7, .hs 1 0 x_4.length 1), (8, aI64 (v1.length : Int)), (9, aI64 x_5)], [.rows (rws 2 api_Mark.c out_3), .rows (rwh 2 api_Mark.c x_4)]⟩) (Q := fun x st' => x = .exit 0 ∧ Wk 0 st' ⟨mkS 26 0 [(3, .hs 0 0 out_16.length 1)], [.rows (rws 2 api_Mark.c out_16)]⟩) hL29 ((Wk.nil 3 1 (by kernel_rfl)).trans ((Wk.mkT 1 (n := 0) 2 api_Mark.c).trans ((Wk.gc [3, 7, 8, 9] [(1, false), (0, false)] rfl (pKc (pKh 2 api_Mark.c (v1.map some) trivial))).to))) ?_ ?_
 ·clear hr
  rintro m ⟨out_3, x_4, x_5⟩ hr
  show CQ _ _ _ _ _ ⟨_, _⟩
  refine .seq (.r4 G [3, 7, 8, 9] [(10, aB (decide (x_5 < (v1.length : Int))))] (.seq ?_))
  refine .cd hr (fun hb19 hr => ?_) (fun hb19 hr => ?_)
  ·refine .skip (.seq (.block (.seq ?_)))
   obtain ⟨hg20, hg21, hr⟩ := gd2 hr
   refine .wk ((Wk.openH 1 (es := 2) (c := api_Mark.c) (g := x_4) hg20 hg21).to (c := ⟨mkS 26 0 [(3, .hs 0 0 out_3.length 1), (7, .hs 1 0 x_4.length 1), (8, aI64 (v1.length : Int)), (9, aI64 x_5), (10, aB (decide (x_5 < (v1.length : Int))))], [.rows (rws 2 api_Mark.c out_3), .rows ((rwh 2 api_Mark.c x_4).set x_5.toNat (.av (.hs 2 0 ((gt x_4 x_5).getD []).length 2))), .own (((gt x_4 x_5).getD []).flatMap api_Mark.c)]⟩) (by kernel_rfl)) (.r0 G (.p0 (v := .hp 1 (0 + x_5.toNat * 1)) (tr (ofP_guard hg20)) (.p0 (v := .hs 2 0 ((gt x_4 x_5).getD []).length 2) (Eq.trans (b := ORes.ofP (rcAt ((rwh 2 api_Mark.c x_4).set x_5.toNat (.av (.hs 2 0 ((gt x_4 x_5).getD []).length 2)))[0 + x_5.toNat * 1]?)) (by kernel_rfl) (rldH hg20 (by omega))) (.mu 1 (.done (.nh [3, 5, 7, 8, 9] [.rows (rws 2 api_Mark.c out_3), .rows ((rwh 2 api_Mark.c x_4).set x_5.toNat (.av (.hs 2 0 ((gt x_4 x_5).getD []).length 2))), .own (((gt x_4 x_5).getD []).flatMap api_Mark.c)] (.seq (.r4 G [3, 5, 7, 8, 9] [(15, aB (decide ((((gt x_4 x_5).getD []).length : Int) ≥ 2)))] ?_))))))))
   refine .cd hr (fun hb22 hr => ?_) (fun hb22 hr => ?_)
   ·refine .seq ?_
    obtain ⟨v23, hc24, hr⟩ := bd hr
    obtain ⟨hg25, hr⟩ := gd hr
    refine .g1 G (callOk_mutU (args := [.hs 2 0 ((gt x_4 x_5).getD []).length 2, .fn 29 [] []]) 1 0 [(2, false)] [false] (slices_SortFunc_fiducial_api_Mark_fiducial_api_Mark_w_of_fiduciallaw26_mark_ok n ((gt x_4 x_5).getD []) v23 hc24) (by exact ⟨ids_flat api_Mark.pure _, trivial⟩) (by exact ⟨ids_flat api_Mark.pure _, trivial⟩) rfl rfl (by kernel_rfl) (by kernel_rfl)) (.mu 1 (.ca cf0 (.done (.nh [3, 5, 7, 8, 9] [.rows (rws 2 api_Mark.c out_3), .rows ((rwh 2 api_Mark.c x_4).set x_5.toNat (.av (.hs 2 0 ((gt x_4 x_5).getD []).length 2))), .own (v23.flatMap api_Mark.c)] ?_))))
    obtain ⟨hg26, hg27, hr⟩ := gd2 hr
    refine .r0 G (.mu 3 (.e0 (v := .hs 4 0 (out_3.length + 1) 1) (ws := [(0, .dead), (4, .rows (rws 2 api_Mark.c out_3 ++ [.av (.hs 2 0 ((gt x_4 x_5).getD []).length 2)]))]) (Eq.trans (b := guardO (decide (out_3.length ≤ (rws 2 api_Mark.c out_3).length) && decide ((out_3.length + 1) * 24 ≤ 140737488355328) && decide (out_3.length + 1 ≤ 4611686018427387904) && true) (some (.eff (.hs 4 0 (out_3.length + 1) 1) [(0, .dead), (4, .rows ((rws 2 api_Mark.c out_3).take out_3.length ++ [.av (.hs 2 0 ((gt x_4 x_5).getD []).length 2)]))]))) (by kernel_rfl) (rap rfl hg26 hg27)) (.mu 1 (.done (.pop (.ru G ?_))))))
    exact loopF_back (out_3 ++ [v23], x_4.set x_5.toNat none, wrapF .i64 (x_5 + 1)) hr ((Wk.forgetH 1 (A := .hs 2 0 ((gt x_4 x_5).getD []).length 2) (es := 2) (c := api_Mark.c) (g := x_4) (i := x_5) hg20).trans ((Wk.closeA 4 2 (x := v23) (es := 2) (c := api_Mark.c) (e := out_3) (len := ((gt x_4 x_5).getD []).length) api_Mark.pure (of_decide_eq_true hg25)).trans ((Wk.relen 3 (b := 4) (es := 1) (len := (out_3.length + 1)) (out_3 ++ [v23]).length (by kernel_rfl) (by simp)).trans ((Wk.relen 7 (b := 1) (es := 1) (len := x_4.length) (x_4.set x_5.toNat none).length (by kernel_rfl) (Eq.symm (List.length_set.trans rfl))).trans ((Wk.gc [3, 7, 8, 9] [(4, false), (1, false)] rfl (pKr 2 api_Mark.c (out_3 ++ [v23]) (pKh 2 api_Mark.c (x_4.set x_5.toNat none) trivial))).to)))))
   ·refine .skip (.pop (.ru G ?_))
    exact loopF_back (out_3, x_4.set x_5.toNat (some ((gt x_4 x_5).getD [])), wrapF .i64 (x_5 + 1)) hr ((Wk.closeH 1 2 (x := (gt x_4 x_5).getD []) (es := 2) (c := api_Mark.c) (g := x_4) (i := x_5) (len := ((gt x_4 x_5).getD []).length) api_Mark.pure hg20 rfl).trans ((Wk.relen 7 (b := 1) (es := 1) (len := x_4.length) (x_4.set x_5.toNat (some ((gt x_4 x_5).getD []))).length (by kernel_rfl) (Eq.symm (List.length_set.trans rfl))).trans ((Wk.gc [3, 7, 8, 9] [(0, false), (1, false)] rfl (pKr 2 api_Mark.c out_3 (pKh 2 api_Mark.c (x_4.set x_5.toNat (some ((gt x_4 x_5).getD []))) trivial))).to)))
  ·refine .leave rfl ?_
   obtain rfl := oi hr
   exact ⟨rfl, ((Wk.gc [3] [(0, false)] rfl (pKr 2 api_Mark.c out_3 trivial)).to)⟩
 ·rintro x st' hq30
  clear hL29
  obtain ⟨rfl, hq30⟩ := hq30
  refine CQ_exit _ rfl (.wk hq30 (.seq (.wk ((Wk.ownT 0 (es := 2) (c := api_Mark.c) (e := out_16)).to (c := ⟨mkS 26 0 [(3, .hs 0 0 out_16.length 1)], [.own (out_16.flatMap (slC api_Mark.c))]⟩) (by kernel_rfl)) ?_)))
  obtain ⟨v31, hc32, hr⟩ := bd hr
  obtain ⟨hg33, hr⟩ := gd hr
  refine .g1 G (callOk_mutU (args := [.hs 0 0 out_16.length 1, .fn 67 [] []]) 1 0 [(0, false)] [false] (slices_SortFunc_fiducial_api_Mark_fiducial_api_Mark_w_of_fiduciallaw26_Chained_1_ok n out_16 v31 hc32) (by exact ⟨ids_flat (slC_pure _) _, trivial⟩) (by exact ⟨ids_flat (slC_pure _) _, trivial⟩) rfl rfl (by kernel_rfl) (by kernel_rfl)) (.mu 1 (.ca cf0 (.done (.nh [3] [.own (v31.flatMap (slC api_Mark.c))] (.seq (.r3 G 26 [(2, .hs 0 0 out_16.length 1)] (.ret ?_)))))))
  obtain rfl := oi hr
  exact FinQ.ret (vs := [.hs 0 0 out_16.length 1]) (by kernel_rfl) (Sn.hse (of_decide_eq_true hg33) rfl (.inl rfl) (SnC.pure (ids_flat (slC_pure _) _)) (fun h => flat_nil0 h))

theorem slices_Equal_fiducial_api_Mark_fiducial_api_Mark_ok (n : Nat) (s1 : List api_Mark) (s2 : List api_Mark) (r : Bool) (hr : slices_Equal_fiducial_api_Mark_fiducial_api_Mark n s1 s2 = some r) : FnOk Try.prog 52 [slT api_Mark.c s1, slT api_Mark.c s2] (aB r) := by
 unfold slices_Equal_fiducial_api_Mark_fiducial_api_Mark at hr
 refine FnOk.bd G Try.func52 [.tmp 4] ?_
 unfold Try.f52
 simp only [Option.getD_some]
 refine .seq (.r4 G [0, 1] [] (.seq (.seq (.r4 G [0, 1] [(10, aB (((s1.length : Int) : Int) != (s2.length : Int)))] ?_))))
 refine .cd hr (fun hb1 hr => ?_) (fun hb1 hr => ?_)
 ·refine .seq (.ru G (.ret ?_))
  obtain rfl := oi hr
  exact FinQ.r1 [aB false]
 ·refine .skip (.seq (.seq (.r4 G [0, 1] [(12, aI64 (s1.length : Int)), (13, aI64 0)] (.block ?_))))
  replace hr := bd hr; obtain ⟨o12, hL13, hr⟩ := hr
  refine .loopO (σ := fun z0 => match z0 with | x_2 => ⟨mkS 26 0 [(0, slT api_Mark.c s1), (1, slT api_Mark.c s2), (12, aI64 (s1.length : Int)), (13, aI64 x_2)], []⟩) (Q := fun x st' => match (generalizing := false) o12 with | .inl _ => x = .exit 0 ∧ Wk 0 st' ⟨mkS 26 0 [], []⟩ | .inr (r0) => x = .ret ∧ FinQ Try.prog [.tmp 4] (aB r0) .ret st') hL13 ((Wk.gc [0, 1, 12, 13] [] rfl pK0).to) ?_ ?_
  ·clear hr
   rintro m x_2 hr
   show CQ _ _ _ _ _ ⟨_, _⟩
   refine .seq (.r4 G [0, 1, 12, 13] [(14, aB (decide (x_2 < (s1.length : Int))))] (.seq ?_))
   refine .cd hr (fun hb8 hr => ?_) (fun hb8 hr => ?_)
   ·refine .skip (.seq (.block (.seq (.r4 G [0, 1, 12, 13] [(5, aI64 x_2)] (.seq ?_)))))
    obtain ⟨hg9, hg10, hr⟩ := gd2 hr
    refine .regionT G callOf_nil (.mu 2 (.pure (v := .pp (s1.flatMap api_Mark.c) (x_2.toNat * 2)) (by kernel_rfl) (tr (ofP_guard hg9)) (by kernel_rfl) (.pure (v := .agg (api_Mark.c (gt s1 x_2))) (by kernel_rfl) (Eq.trans (b := ORes.ofP (guardV (decide (2 ≤ ((s1.flatMap api_Mark.c).drop (x_2.toNat * 2)).length)) (.agg (((s1.flatMap api_Mark.c).drop (x_2.toNat * 2)).take 2)))) (by kernel_rfl) (flat_load api_Mark.len (inR_lt hg9) (by decide) (by omega : x_2.toNat * 2 = x_2.toNat * 2 + 0) (by kernel_rfl))) (by kernel_rfl) (.mu 2 (.pure (v := .pp (s2.flatMap api_Mark.c) (x_2.toNat * 2)) (by kernel_rfl) (tr (ofP_guard hg10)) (by kernel_rfl) (.pure (v := .agg (api_Mark.c (gt s2 x_2))) (by kernel_rfl) (Eq.trans (b := ORes.ofP (guardV (decide (2 ≤ ((s2.flatMap api_Mark.c).drop (x_2.toNat * 2)).length)) (.agg (((s2.flatMap api_Mark.c).drop (x_2.toNat * 2)).take 2)))) (by kernel_rfl) (flat_load api_Mark.len (inR_lt hg10) (by decide) (by omega : x_2.toNat * 2 = x_2.toNat * 2 + 0) (by kernel_rfl))) (by kernel_rfl) (.mu 1 ?_)))))))
    refine .done ⟨by kernel_rfl, ?_⟩
    refine .nh [0, 1, 12, 13, 24] [] ?_
    refine .cd hr (fun hb11 hr => ?_) (fun hb11 hr => ?_)
    ·refine .seq (.ru G (.ret ?_))
     obtain rfl := oi hr
     exact ⟨rfl, FinQ.ret (vs := [aB false]) (by kernel_rfl) (Sn.pure rfl)⟩
    ·refine .skip (.pop (.ru G ?_))
     exact loopF_back (wrapF .i64 (x_2 + 1)) hr ((Wk.gc [0, 1, 12, 13] [] rfl pK0).to)
   ·refine .leave rfl ?_
    obtain rfl := oi hr
    exact ⟨rfl, ((Wk.gc [] [] rfl pK0).to)⟩
  ·rcases o12 with ⟨⟩ | r0
   ·rintro x st' hq14
    clear hL13
    obtain ⟨rfl, hq14⟩ := hq14
    refine CQ_exit _ rfl (.wk hq14 (.seq (.ru G (.ret ?_))))
    obtain rfl := oi hr
    exact FinQ.r1 [aB true]
   ·rintro x st' hq14
    clear hL13
    obtain ⟨rfl, hq14⟩ := hq14
    obtain rfl := oi hr
    exact CQ_ret _ hq14

theorem fiduciallaw26_Same_1_ok (n : Nat) (x' : List api_Mark) (y : List api_Mark) (r : Bool) (hr : fiduciallaw26_Same_1 n x' y = some r) : FnOk Try.prog 51 [slT api_Mark.c x', slT api_Mark.c y] (aB r) := by
 unfold fiduciallaw26_Same_1 at hr
 refine FnOk.bd G Try.func51 [.tmp 4] ?_
 unfold Try.f51
 simp only [Option.getD_some]
 refine .seq (.r4 G [0, 1] [] (.seq ?_))
 obtain ⟨v1, hc2, hr⟩ := bd hr
 refine .g1 G (ok0 (slices_Equal_fiducial_api_Mark_fiducial_api_Mark_ok n x' y v1 hc2)) (.mu 2 (.ca cf0 (.mu 1 (.done (.ret ?_)))))
 obtain rfl := oi hr
 exact FinQ.r1 [aB v1]

theorem slices_EqualFunc_fiducial_api_Mark_fiducial_api_Mark_fiducial_api_Mark_fiducial_api_Mark_of_fiduciallaw26_Same_1_ok (n : Nat) (s1 : List (List api_Mark)) (s2 : List (List api_Mark)) (r : Bool) (hr : slices_EqualFunc_fiducial_api_Mark_fiducial_api_Mark_fiducial_api_Mark_fiducial_api_Mark_of_fiduciallaw26_Same_1 n s1 s2 = some r) : FnOk Try.prog 50 [slT (slC api_Mark.c) s1, slT (slC api_Mark.c) s2, .fn 51 [] []] (aB r) := by
 unfold slices_EqualFunc_fiducial_api_Mark_fiducial_api_Mark_fiducial_api_Mark_fiducial_api_Mark_of_fiduciallaw26_Same_1 at hr
 refine FnOk.bd G Try.func50 [.tmp 6] ?_
 unfold Try.f50
 simp only [Option.getD_some]
 refine .seq (.r4 G [0, 1, 2] [] (.seq (.seq (.r4 G [0, 1, 2] [(14, aB (((s1.length : Int) : Int) != (s2.length : Int)))] ?_))))
 refine .cd hr (fun hb1 hr => ?_) (fun hb1 hr => ?_)
 ·refine .seq (.ru G (.ret ?_))
  obtain rfl := oi hr
  exact FinQ.r1 [aB false]
 ·refine .skip (.seq (.seq (.r4 G [1, 2] [(15, slT (slC api_Mark.c) s1), (16, aI64 (s1.length : Int)), (17, aI64 0)] (.block ?_))))
  replace hr := bd hr; obtain ⟨o16, hL17, hr⟩ := hr
  refine .loopO (σ := fun z0 => match z0 with | x_2 => ⟨mkS 32 0 [(1, slT (slC api_Mark.c) s2), (2, .fn 51 [] []), (15, slT (slC api_Mark.c) s1), (16, aI64 (s1.length : Int)), (17, aI64 x_2)], []⟩) (Q := fun x st' => match (generalizing := false) o16 with | .inl _ => x = .exit 0 ∧ Wk 0 st' ⟨mkS 32 0 [], []⟩ | .inr (r0) => x = .ret ∧ FinQ Try.prog [.tmp 6] (aB r0) .ret st') hL17 ((Wk.gc [1, 2, 15, 16, 17] [] rfl pK0).to) ?_ ?_
  ·clear hr
   rintro m x_2 hr
   show CQ _ _ _ _ _ ⟨_, _⟩
   refine .seq (.r4 G [1, 2, 15, 16, 17] [(18, aB (decide (x_2 < (s1.length : Int))))] (.seq ?_))
   refine .cd hr (fun hb10 hr => ?_) (fun hb10 hr => ?_)
   ·refine .skip (.seq (.block (.seq ?_)))
    obtain ⟨hg11, hr⟩ := gd hr
    refine .r0 G (.mu 1 (.p0 (v := .pp (s1.flatMap (slC api_Mark.c)) (x_2.toNat * 1)) (tr (ofP_guard hg11)) (.p0 (v := slT api_Mark.c (gt s1 x_2)) (tr (ofP_some (flat_get (slC_len api_Mark.c) (inR_lt hg11) (by decide : 0 < 1) (by omega : x_2.toNat * 1 = x_2.toNat * 1 + 0) (by kernel_rfl)))) (.mu 2 (.done (.nh [1, 2, 7, 8, 15, 16, 17] [] (.seq ?_)))))))
    obtain ⟨hg12, hr⟩ := gd hr
    refine .r0 G (.mu 2 (.p0 (v := .pp (s2.flatMap (slC api_Mark.c)) (x_2.toNat * 1)) (tr (ofP_guard hg12)) (.p0 (v := slT api_Mark.c (gt s2 x_2)) (tr (ofP_some (flat_get (slC_len api_Mark.c) (inR_lt hg12) (by decide : 0 < 1) (by omega : x_2.toNat * 1 = x_2.toNat * 1 + 0) (by kernel_rfl)))) (.mu 1 (.done (.nh [1, 2, 8, 9, 15, 16, 17] [] (.seq ?_)))))))
    obtain ⟨v13, hc14, hr⟩ := bd hr
    refine .g1 G (ok0 (fiduciallaw26_Same_1_ok n (gt s1 x_2) (gt s2 x_2) v13 hc14)) (.mu 3 (.ca cf0 (.mu 1 (.done (.nh [1, 2, 15, 16, 17, 30] [] ?_)))))
    refine .cd hr (fun hb15 hr => ?_) (fun hb15 hr => ?_)
    ·refine .seq (.ru G (.ret ?_))
     obtain rfl := oi hr
     exact ⟨rfl, FinQ.ret (vs := [aB false]) (by kernel_rfl) (Sn.pure rfl)⟩
    ·refine .skip (.pop (.ru G ?_))
     exact loopF_back (wrapF .i64 (x_2 + 1)) hr ((Wk.gc [1, 2, 15, 16, 17] [] rfl pK0).to)
   ·refine .leave rfl ?_
    obtain rfl := oi hr
    exact ⟨rfl, ((Wk.gc [] [] rfl pK0).to)⟩
  ·rcases o16 with ⟨⟩ | r0
   ·rintro x st' hq18
    clear hL17
    obtain ⟨rfl, hq18⟩ := hq18
    refine CQ_exit _ rfl (.wk hq18 (.seq (.ru G (.ret ?_))))
    obtain rfl := oi hr
    exact FinQ.r1 [aB true]
   ·rintro x st' hq18
    clear hL17
    obtain ⟨rfl, hq18⟩ := hq18
    obtain rfl := oi hr
    exact CQ_ret _ hq18

theorem fiduciallaw26_Same_ok (n : Nat) (a : List (List api_Mark)) (b : List (List api_Mark)) (r : Bool) (hr : fiduciallaw26_Same n a b = some r) : FnOk Try.prog 18 [slT (slC api_Mark.c) a, slT (slC api_Mark.c) b] (aB r) := by
 unfold fiduciallaw26_Same at hr
 refine FnOk.bd G Try.func18 [.tmp 4] ?_
 unfold Try.f18
 simp only [Option.getD_some]
 refine .seq (.r4 G [0, 1] [] (.seq ?_))
 obtain ⟨v1, hc2, hr⟩ := bd hr
 refine .g1 G (ok0 (slices_EqualFunc_fiducial_api_Mark_fiducial_api_Mark_fiducial_api_Mark_fiducial_api_Mark_of_fiduciallaw26_Same_1_ok n a b v1 hc2)) (.mu 2 (.ca cf0 (.mu 1 (.done (.ret ?_)))))
 obtain rfl := oi hr
 exact FinQ.r1 [aB v1]

theorem track_wrong_inj {m' : api_Mark} {m'_ : api_Mark} (h : ([.agg [.at (.int .i64 m'.Image), .at (.int .i64 m'.Feature)]] : List AV) = [.agg [.at (.int .i64 m'_.Image), .at (.int .i64 m'_.Feature)]]) : m' = m'_ := by
 obtain ⟨_, _⟩ := m'
 obtain ⟨_, _⟩ := m'_
 simp only [List.cons.injEq, AV.agg.injEq, AV.at.injEq, Value.int.injEq, Value.bool.injEq, AV.fn.injEq, AV.pp.injEq, true_and, and_true] at h
 simp_all
theorem track_wrong_cg (n : Nat) {m' : api_Mark} {m'_ : api_Mark} (h : ([.agg [.at (.int .i64 m'.Image), .at (.int .i64 m'.Feature)]] : List AV) = [.agg [.at (.int .i64 m'_.Image), .at (.int .i64 m'_.Feature)]]) : track_wrong n m' = track_wrong n m'_ := by
 obtain rfl := track_wrong_inj h
 rfl
theorem track_wrong_ok (n : Nat) (m' : api_Mark) (r : Bool) (hr : track_wrong n m' = some r) : FnOk Try.prog 46 [.agg (api_Mark.c m')] (aB r) := by
 unfold track_wrong at hr
 refine FnOk.bd G Try.func46 [.tmp 2] ?_
 unfold Try.f46
 simp only [Option.getD_some]
 refine .seq (.r2 G 21 [(1, .hp 0 0)] [.own (api_Mark.c m')] (.seq ?_))
 rcases Bool.eq_false_or_eq_true (decide (m'.Image < 0)) with hb1 | hb1
 ·replace hr := cd_t hb1 hr
  refine .r0 G (.mu 2 (.p0 (v := aB true) (eB hb1) (.mu 16 (.done (.ret ?_)))))
  obtain rfl := oi hr
  exact FinQ.r1 [aB true]
 ·replace hr := cd_f hb1 hr
  rcases Bool.eq_false_or_eq_true (decide (m'.Image ≥ 64)) with hb2 | hb2
  ·replace hr := cd_t hb2 hr
   refine .r0 G (.mu 2 (.p0 (v := aB false) (eB hb1) (.mu 3 (.pure (v := aB true) (by kernel_rfl) (eB hb2) (.mu 12 (.done (.ret ?_)))))))
   obtain rfl := oi hr
   exact FinQ.r1 [aB true]
  ·replace hr := cd_f hb2 hr
   rcases Bool.eq_false_or_eq_true (decide (m'.Feature < 0)) with hb3 | hb3
   ·replace hr := cd_t hb3 hr
    refine .r0 G (.mu 2 (.p0 (v := aB false) (eB hb1) (.mu 3 (.pure (v := aB false) (by kernel_rfl) (eB hb2) (.mu 4 (.pure (v := aB true) (by kernel_rfl) (eB hb3) (.mu 7 (.done (.ret ?_)))))))))
    obtain rfl := oi hr
    exact FinQ.r1 [aB true]
   ·replace hr := cd_f hb3 hr
    refine .r0 G (.mu 2 (.p0 (v := aB false) (eB hb1) (.mu 3 (.pure (v := aB false) (by kernel_rfl) (eB hb2) (.mu 4 (.pure (v := aB false) (by kernel_rfl) (eB hb3) (.mu 7 (.done (.ret ?_)))))))))
    obtain rfl := oi hr
    exact FinQ.r1 [aB (decide (m'.Feature > 4095))]

theorem track_Check_ok (n : Nat) (ties : List api_Tie) (r : Int) (hr : track_Check n ties = some r) : FnOk Try.prog 12 [slT api_Tie.c ties] (aI64 r) := by
 unfold track_Check at hr
 refine FnOk.bd G Try.func12 [.tmp 2] ?_
 unfold Try.f12
 simp only [Option.getD_some]
 refine .seq (.r4 G [0] [] (.seq (.seq (.r4 G [0] [(7, aB (decide ((ties.length : Int) > 256)))] ?_))))
 refine .cd hr (fun hb2 hr => ?_) (fun hb2 hr => ?_)
 ·refine .seq (.ru G (.ret ?_))
  obtain rfl := oi hr
  exact FinQ.r1 [aI64 3]
 ·refine .skip (.seq (.seq (.r3 G 40 [(8, slT api_Tie.c ties), (9, aI64 (ties.length : Int)), (10, aI64 0)] (.block ?_))))
  replace hr := bd hr; obtain ⟨o29, hL30, hr⟩ := hr
  refine .loopO (σ := fun z0 => match z0 with | x_3 => ⟨mkS 40 0 [(8, slT api_Tie.c ties), (9, aI64 (ties.length : Int)), (10, aI64 x_3)], []⟩) (Q := fun x st' => match (generalizing := false) o29 with | .inl _ => x = .exit 0 ∧ Wk 0 st' ⟨mkS 40 0 [], []⟩ | .inr (r0) => x = .ret ∧ FinQ Try.prog [.tmp 2] (aI64 r0) .ret st') hL30 ((Wk.gc [8, 9, 10] [] rfl pK0).to) ?_ ?_
  ·clear hr
   rintro m x_3 hr
   show CQ _ _ _ _ _ ⟨_, _⟩
   refine .seq (.r4 G [8, 9, 10] [(11, aB (decide (x_3 < (ties.length : Int))))] (.seq ?_))
   refine .cd hr (fun hb18 hr => ?_) (fun hb18 hr => ?_)
   ·refine .skip (.seq (.block (.seq ?_)))
    obtain ⟨hg19, hr⟩ := gd hr
    refine .r0 G (.p0 (v := .pp (ties.flatMap api_Tie.c) (x_3.toNat * 5)) (tr (ofP_guard hg19)) (.p0 (v := .agg (api_Tie.c (gt ties x_3))) (Eq.trans (b := ORes.ofP (guardV (decide (5 ≤ ((ties.flatMap api_Tie.c).drop (x_3.toNat * 5)).length)) (.agg (((ties.flatMap api_Tie.c).drop (x_3.toNat * 5)).take 5)))) (by kernel_rfl) (flat_load api_Tie.len (inR_lt hg19) (by decide) (by omega : x_3.toNat * 5 = x_3.toNat * 5 + 0) (by kernel_rfl))) (.mu 2 (.done (.nh [4, 8, 9, 10] [.own (api_Tie.c (gt ties x_3))] (.seq (.seq ?_)))))))
    obtain ⟨v20, hc21, hr⟩ := bd hr
    rcases Bool.eq_false_or_eq_true v20 with hb22 | hb22
    ·subst hb22
     replace hr := cd_t rfl hr
     refine .g1 G (ok0 (track_wrong_ok n (gt ties x_3).A true hc21)) (.mu 2 (.ca cf0 (.mu 15 (.done (.nh [4, 8, 9, 10, 31] [.own (api_Tie.c (gt ties x_3))] (.cT (by kernel_rfl) (.seq (.ru G (.ret ?_)))))))))
     obtain rfl := oi hr
     exact ⟨rfl, FinQ.ret (vs := [aI64 2]) (by kernel_rfl) (Sn.pure rfl)⟩
    ·subst hb22
     replace hr := cd_f rfl hr
     obtain ⟨v23, hc24, hr⟩ := bd hr
     rcases Bool.eq_false_or_eq_true v23 with hb25 | hb25
     ·subst hb25
      replace hr := cd_t rfl hr
      refine .gn G (ca1 (ok0 (track_wrong_ok n (gt ties x_3).A false hc21)) (ca3 (ok0 (track_wrong_ok n (gt ties x_3).B true hc24)))) (.mu 2 (.ca cf0 (.mu 3 (.ca (cfA (fun h => by rw [sv hc24 hc21 (track_wrong_cg n h)]) cf0) (.mu 11 (.done (.nh [4, 8, 9, 10, 31] [.own (api_Tie.c (gt ties x_3))] (.cT (by kernel_rfl) (.seq (.ru G (.ret ?_)))))))))))
      obtain rfl := oi hr
      exact ⟨rfl, FinQ.ret (vs := [aI64 2]) (by kernel_rfl) (Sn.pure rfl)⟩
     ·subst hb25
      replace hr := cd_f rfl hr
      rcases Bool.eq_false_or_eq_true (decide ((gt ties x_3).Cost < 0)) with hb26 | hb26
      ·replace hr := cd_t hb26 hr
       refine .gn G (ca1 (ok0 (track_wrong_ok n (gt ties x_3).A false hc21)) (ca3 (ok0 (track_wrong_ok n (gt ties x_3).B false hc24)))) (.mu 2 (.ca cf0 (.mu 3 (.ca (cfA (fun h => by rw [sv hc24 hc21 (track_wrong_cg n h)]) cf0) (.mu 4 (.pure (v := aB true) (by kernel_rfl) (eB hb26) (.mu 6 (.done (.nh [4, 8, 9, 10, 31] [.own (api_Tie.c (gt ties x_3))] (.cT (by kernel_rfl) (.seq (.ru G (.ret ?_)))))))))))))
       obtain rfl := oi hr
       exact ⟨rfl, FinQ.ret (vs := [aI64 2]) (by kernel_rfl) (Sn.pure rfl)⟩
      ·replace hr := cd_f hb26 hr
       refine .gn G (ca1 (ok0 (track_wrong_ok n (gt ties x_3).A false hc21)) (ca3 (ok0 (track_wrong_ok n (gt ties x_3).B false hc24)))) (.mu 2 (.ca cf0 (.mu 3 (.ca (cfA (fun h => by rw [sv hc24 hc21 (track_wrong_cg n h)]) cf0) (.mu 4 (.pure (v := aB false) (by kernel_rfl) (eB hb26) (.mu 6 (.done (.nh [4, 8, 9, 10, 31] [.own (api_Tie.c (gt ties x_3))] ?_)))))))))
       refine .cd hr (fun hb27 hr => ?_) (fun hb27 hr => ?_)
       ·refine .seq (.ru G (.ret ?_))
        obtain rfl := oi hr
        exact ⟨rfl, FinQ.ret (vs := [aI64 2]) (by kernel_rfl) (Sn.pure rfl)⟩
       ·refine .skip (.seq (.r4 G [8, 9, 10] [(38, aB (decide ((gt ties x_3).A.Image ≥ (gt ties x_3).B.Image)))] ?_))
        refine .cd hr (fun hb28 hr => ?_) (fun hb28 hr => ?_)
        ·refine .seq (.ru G (.ret ?_))
         obtain rfl := oi hr
         exact ⟨rfl, FinQ.ret (vs := [aI64 5]) (by kernel_rfl) (Sn.pure rfl)⟩
        ·refine .skip (.pop (.ru G ?_))
         exact loopF_back (wrapF .i64 (x_3 + 1)) hr ((Wk.gc [8, 9, 10] [] rfl pK0).to)
   ·refine .leave rfl ?_
    obtain rfl := oi hr
    exact ⟨rfl, ((Wk.gc [] [] rfl pK0).to)⟩
  ·rcases o29 with ⟨⟩ | r0
   ·rintro x st' hq31
    clear hL30
    obtain ⟨rfl, hq31⟩ := hq31
    refine CQ_exit _ rfl (.wk hq31 (.seq (.ru G (.ret ?_))))
    obtain rfl := oi hr
    exact FinQ.r1 [aI64 0]
   ·rintro x st' hq31
    clear hL30
    obtain ⟨rfl, hq31⟩ := hq31
    obtain rfl := oi hr
    exact CQ_ret _ hq31

theorem slices_Compare_int_int_ok [Dr] (n : Nat) (s1 : List Int) (s2 : List Int) (r : Int) (hr : slices_Compare_int_int n s1 s2 = some r) : FnOk Try.prog 102 [sI64 s1, sI64 s2] (aI64 r) := by
 unfold slices_Compare_int_int at hr
 refine FnOk.bd G Try.func102 [.tmp 4] ?_
 unfold Try.f102
 simp only [Option.getD_some]
 refine .seq (.r4 G [0, 1] [] (.seq (.seq (.r4 G [0, 1] [(9, sI64 s1), (10, aI64 (s1.length : Int)), (11, aI64 0)] (.block ?_)))))
 replace hr := bd hr; obtain ⟨o17, hL18, hr⟩ := hr
 refine .loopO (σ := fun z0 => match z0 with | x_1 => ⟨mkS 36 0 [(0, sI64 s1), (1, sI64 s2), (9, sI64 s1), (10, aI64 (s1.length : Int)), (11, aI64 x_1)], []⟩) (Q := fun x st' => match (generalizing := false) o17 with | .inl _ => x = .exit 0 ∧ Wk 0 st' ⟨mkS 36 0 [(0, sI64 s1), (1, sI64 s2)], []⟩ | .inr (r0) => x = .ret ∧ FinQ Try.prog [.tmp 4] (aI64 r0) .ret st') hL18 ((Wk.gc [0, 1, 9, 10, 11] [] rfl pK0).to) ?_ ?_
 ·clear hr
  rintro m x_1 hr
  show CQ _ _ _ _ _ ⟨_, _⟩
  refine .seq (.r4 G [0, 1, 9, 10, 11] [(12, aB (decide (x_1 < (s1.length : Int))))] (.seq ?_))
  refine .cd hr (fun hb10 hr => ?_) (fun hb10 hr => ?_)
  ·refine .skip (.seq (.block (.seq ?_)))
   obtain ⟨hg11, hr⟩ := gd hr
   refine .r0 G (.mu 1 (.p0 (v := .pp (s1.flatMap (iC .i64)) (x_1.toNat * 1)) (tr (ofP_guard hg11)) (.p0 (v := aI64 (gt s1 x_1)) (tr (ofP_some (flat_get (iC_len .i64) (inR_lt hg11) (by decide : 0 < 1) (by omega : x_1.toNat * 1 = x_1.toNat * 1 + 0) (by kernel_rfl)))) (.mu 2 (.done (.nh [0, 1, 5, 6, 9, 10, 11] [] (.seq (.seq (.r4 G [0, 1, 5, 6, 9, 10, 11] [(19, aB (decide (x_1 ≥ (s2.length : Int))))] ?_)))))))))
   refine .cd hr (fun hb12 hr => ?_) (fun hb12 hr => ?_)
   ·refine .seq (.ru G (.ret ?_))
    obtain rfl := oi hr
    exact ⟨rfl, FinQ.ret (vs := [aI64 1]) (by kernel_rfl) (Sn.pure rfl)⟩
   ·refine .skip (.seq ?_)
    obtain ⟨hg13, hr⟩ := gd hr
    refine .r0 G (.mu 2 (.p0 (v := .pp (s2.flatMap (iC .i64)) (x_1.toNat * 1)) (tr (ofP_guard hg13)) (.p0 (v := aI64 (gt s2 x_1)) (tr (ofP_some (flat_get (iC_len .i64) (inR_lt hg13) (by decide : 0 < 1) (by omega : x_1.toNat * 1 = x_1.toNat * 1 + 0) (by kernel_rfl)))) (.mu 1 (.done (.nh [0, 1, 6, 7, 9, 10, 11] [] (.seq ?_)))))))
    obtain ⟨v14, hc15, hr⟩ := bd hr
    refine .g1 G (ok0 (cmp_Compare_int_ok n (gt s1 x_1) (gt s2 x_1) v14 hc15)) (.mu 2 (.ca cf0 (.mu 1 (.done (.nh [0, 1, 8, 9, 10, 11] [] (.seq (.r4 G [0, 1, 8, 9, 10, 11] [(28, aB ((v14 : Int) != 0))] ?_)))))))
    refine .cd hr (fun hb16 hr => ?_) (fun hb16 hr => ?_)
    ·refine .seq (.ru G (.ret ?_))
     obtain rfl := oi hr
     exact ⟨rfl, FinQ.ret (vs := [aI64 v14]) (by kernel_rfl) (Sn.pure rfl)⟩
    ·refine .skip (.pop (.ru G ?_))
     exact loopF_back (wrapF .i64 (x_1 + 1)) hr ((Wk.gc [0, 1, 9, 10, 11] [] rfl pK0).to)
  ·refine .leave rfl ?_
   obtain rfl := oi hr
   exact ⟨rfl, ((Wk.gc [0, 1] [] rfl pK0).to)⟩
 ·rcases o17 with ⟨⟩ | r0
  ·rintro x st' hq19
   clear hL18
   obtain ⟨rfl, hq19⟩ := hq19
   refine CQ_exit _ rfl (.wk hq19 (.seq (.seq (.r3 G 36 [(35, aB (decide ((s1.length : Int) < (s2.length : Int))))] ?_))))
   refine .cd hr (fun hb20 hr => ?_) (fun hb20 hr => ?_)
   ·refine .seq (.ru G (.ret ?_))
    obtain rfl := oi hr
    exact FinQ.r1 [aI64 (-1)]
   ·refine .skip (.seq (.ru G (.ret ?_)))
    obtain rfl := oi hr
    exact FinQ.r1 [aI64 0]
  ·rintro x st' hq19
   clear hL18
   obtain ⟨rfl, hq19⟩ := hq19
   obtain rfl := oi hr
   exact CQ_ret _ hq19

theorem track_compareMarks_ok [Dr] (n : Nat) (a : api_Mark) (b : api_Mark) (r : Int) (hr : track_compareMarks n a b = some r) : FnOk Try.prog 75 [.agg (api_Mark.c a), .agg (api_Mark.c b)] (aI64 r) := by
 unfold track_compareMarks at hr
 refine FnOk.bd G Try.func75 [.tmp 4] ?_
 unfold Try.f75
 simp only [Option.getD_some]
 refine .seq (.r2 G 16 [(2, .hp 0 0), (3, .hp 1 0)] [.own (api_Mark.c a), .own (api_Mark.c b)] (.seq ?_))
 obtain ⟨v1, hc2, hr⟩ := bd hr
 refine .gn G (ca4 [.own (api_Mark.c a), .own (api_Mark.c b), .own (api_Mark.c a), .own (api_Mark.c b)] (callOk_val (args := [.hs 2 0 2 1, .hs 3 0 2 1]) (l := [2, 3]) rfl (SnL.cons (Sn.hs rfl (.inl rfl) (SnC.cons (Sn.pure rfl) (SnC.cons (Sn.pure rfl) SnC.nil)) (fun h => nomatch h)) (SnL.cons (Sn.hs rfl (.inl rfl) (SnC.cons (Sn.pure rfl) (SnC.cons (Sn.pure rfl) SnC.nil)) (fun h => nomatch h)) SnL.nil)) (slices_Compare_int_int_ok n [a.Image, a.Feature] [b.Image, b.Feature] v1 hc2))) (.mu 10 (.ca cf0 (.mu 1 (.done (.ret ?_)))))
 obtain rfl := oi hr
 exact FinQ.r1 [aI64 v1]

theorem track_compareTies_ok [Dr] (n : Nat) (a : api_Tie) (b : api_Tie) (r : Int) (hr : track_compareTies n a b = some r) : FnOk Try.prog 73 [.agg (api_Tie.c a), .agg (api_Tie.c b)] (aI64 r) := by
 unfold track_compareTies at hr
 refine FnOk.bd G Try.func73 [.tmp 4] ?_
 unfold Try.f73
 simp only [Option.getD_some]
 refine .seq (.r2 G 29 [(2, .hp 0 0), (3, .hp 1 0)] [.own (api_Tie.c a), .own (api_Tie.c b)] (.seq (.seq (.r4 G [2, 3] [(10, aB ((a.Cost : Int) != b.Cost))] ?_))))
 refine .cd hr (fun hb2 hr => ?_) (fun hb2 hr => ?_)
 ·refine .seq (.ru G (.ret ?_))
  obtain rfl := oi hr
  exact FinQ.r1 [aI64 (wrapF .i64 (a.Cost - b.Cost))]
 ·refine .skip (.seq (.seq ?_))
  obtain ⟨v3, hc4, hr⟩ := bd hr
  refine .g1 G (ok0 (track_compareMarks_ok n a.A b.A v3 hc4)) (.mu 4 (.ca cf0 (.mu 1 (.done (.nh [2, 3, 5] [.own (api_Tie.c a), .own (api_Tie.c b)] (.seq (.r4 G [2, 3, 5] [(22, aB ((v3 : Int) != 0))] ?_)))))))
  refine .cd hr (fun hb5 hr => ?_) (fun hb5 hr => ?_)
  ·refine .seq (.ru G (.ret ?_))
   obtain rfl := oi hr
   exact FinQ.r1 [aI64 v3]
  ·refine .skip (.seq ?_)
   obtain ⟨v6, hc7, hr⟩ := bd hr
   refine .g1 G (ok0 (track_compareMarks_ok n a.B b.B v6 hc7)) (.mu 4 (.ca cf0 (.mu 1 (.done (.ret ?_)))))
   obtain rfl := oi hr
   exact FinQ.r1 [aI64 v6]

theorem slices_SortFunc_fiducial_api_Tie_fiducial_api_Tie_w_of_track_compareTies_ok (n : Nat) (x' : List api_Tie) (r : List api_Tie) (hr : slices_SortFunc_fiducial_api_Tie_fiducial_api_Tie_w_of_track_compareTies n x' = some r) : FnMut 1 Try.prog 69 [.hs 0 0 x'.length 5, .fn 73 [] []] [.own (x'.flatMap api_Tie.c)] (.tup []) [.own (r.flatMap api_Tie.c)] := by
 unfold slices_SortFunc_fiducial_api_Tie_fiducial_api_Tie_w_of_track_compareTies at hr
 obtain ⟨h1, hr⟩ := gd hr
 exact FnMut.sortS (c := api_Tie.c) (caps' := []) (Go.Proofs.Ytndmnfmpbcecaaa.contractSortT (enters_of Try.func73 (by kernel_rfl) rfl)) Go.Proofs.Ytndmnfmpbcecaaa.noneSortT api_Tie.len api_Tie.pure hr (of_decide_eq_true h1) SnL.nil (fun x y r hc => @track_compareTies_ok ⟨true⟩ n x y r hc)

theorem slices_Compact_fiducial_api_Tie_fiducial_api_Tie_w_ok (n : Nat) (s : List api_Tie) (r : List api_Tie) (hr : slices_Compact_fiducial_api_Tie_fiducial_api_Tie_w n s = some r) : FnMut 1 Try.prog 71 [.hs 0 0 s.length 5] [.own (s.flatMap api_Tie.c)] (.hs 0 0 r.length 5) [.own (r.flatMap api_Tie.c)] := by
 unfold slices_Compact_fiducial_api_Tie_fiducial_api_Tie_w at hr
 refine FnMut.bodyW G Try.func71 (c := (Try.f71.body).getD .skip) rfl (us := [.hs 0 0 r.length 5]) (s := mkS 61 0 [(0, .hs 0 0 s.length 5)]) (by kernel_rfl) (rs := [.tmp 2]) rfl ?_
 unfold Try.f71
 simp only [Option.getD_some]
 refine .seq (.r4 G [0] [] (.seq (.seq (.r4 G [0] [(8, aB (decide ((s.length : Int) < 2)))] ?_))))
 refine .cd hr (fun hb68 hr => ?_) (fun hb68 hr => ?_)
 ·refine .seq (.r3 G 61 [(2, .hs 0 0 s.length 5)] (.ret ?_))
  obtain rfl := oi hr
  exact FinMW.ret [.hs 0 0 s.length 5] ((Wk.gc [0] [(0, false)] rfl (pKo api_Tie.c api_Tie.pure s trivial)).to)
 ·refine .skip (.seq (.seq (.r4 G [0] [(3, aI64 1)] (.block ?_))))
  replace hr := bd hr; obtain ⟨o131, hL132, hr⟩ := hr
  refine .loopO (σ := fun z0 => match z0 with | k_69 => ⟨mkS 61 0 [(0, .hs 0 0 s.length 5), (3, aI64 k_69)], [.own (s.flatMap api_Tie.c)]⟩) (Q := fun x st' => match (generalizing := false) o131 with | .inl _ => x = .exit 0 ∧ Wk 1 st' ⟨mkS 61 0 [(0, .hs 0 0 s.length 5)], [.own (s.flatMap api_Tie.c)]⟩ | .inr (r0) => x = .ret ∧ FinMW 1 Try.prog [.tmp 2] [.hs 0 0 r0.length 5] [.own (r0.flatMap api_Tie.c)] .ret st') hL132 ((Wk.gc [0, 3] [(0, false)] rfl (pKo api_Tie.c api_Tie.pure s trivial)).to) ?_ ?_
  ·clear hr
   rintro m k_69 hr
   show CQ _ _ _ _ _ ⟨_, _⟩
   refine .seq (.seq (.r4 G [0, 3] [(13, aB (decide (k_69 < (s.length : Int))))] ?_))
   refine .cd hr (fun hb101 hr => ?_) (fun hb101 hr => ?_)
   ·refine .skip (.seq (.block (.seq ?_)))
    obtain ⟨hg102, hg103, hr⟩ := gd2 hr
    refine .regionT G callOf_nil (.mu 2 (.pure (v := .hp 0 (0 + k_69.toNat * 5)) (by kernel_rfl) (tr (ofP_guard hg102)) (by kernel_rfl) (.pure (v := .agg (api_Tie.c (gt s k_69))) (by kernel_rfl) (Eq.trans (b := ORes.ofP (guardV (decide (5 ≤ ((s.flatMap api_Tie.c).drop (0 + k_69.toNat * 5)).length)) (.agg (((s.flatMap api_Tie.c).drop (0 + k_69.toNat * 5)).take 5)))) (by kernel_rfl) (flat_load api_Tie.len (inR_lt hg102) (by decide) (by omega : 0 + k_69.toNat * 5 = k_69.toNat * 5 + 0) (by kernel_rfl))) (by kernel_rfl) (.mu 3 (.pure (v := .hp 0 (0 + (wrapF .i64 (k_69 - 1)).toNat * 5)) (by kernel_rfl) (tr (ofP_guard hg103)) (by kernel_rfl) (.pure (v := .agg (api_Tie.c (gt s (wrapF .i64 (k_69 - 1))))) (by kernel_rfl) (Eq.trans (b := ORes.ofP (guardV (decide (5 ≤ ((s.flatMap api_Tie.c).drop (0 + (wrapF .i64 (k_69 - 1)).toNat * 5)).length)) (.agg (((s.flatMap api_Tie.c).drop (0 + (wrapF .i64 (k_69 - 1)).toNat * 5)).take 5)))) (by kernel_rfl) (flat_load api_Tie.len (inR_lt hg103) (by decide) (by omega : 0 + (wrapF .i64 (k_69 - 1)).toNat * 5 = (wrapF .i64 (k_69 - 1)).toNat * 5 + 0) (by kernel_rfl))) (by kernel_rfl) (.mu 1 ?_)))))))
    refine .done ⟨by kernel_rfl, ?_⟩
    refine .nh [0, 3, 25] [.own (s.flatMap api_Tie.c)] ?_
    refine .cd hr (fun hb104 hr => ?_) (fun hb104 hr => ?_)
    ·refine .seq ?_
     obtain ⟨hg105, hr⟩ := gd hr
     refine .r0 G (.mu 2 (.p0 (v := .hs 0 (0 + k_69.toNat * 5) (s.length - k_69.toNat) 5) (Eq.trans (b := slH (inS k_69 (s.length : Int) s.length) true (k_69.toNat) ((s.length : Int).toNat) (fun z1 z2 => .hs 0 (0 + z1 * 5) (z2 - z1) 5)) (by kernel_rfl) (slH_t hg105 (by kernel_rfl))) (.mu 1 (.done (.nh [0, 3, 4] [.own (s.flatMap api_Tie.c)] (.seq (.seq (.r4 G [0, 3, 4] [(5, aI64 1)] (.block ?_)))))))))
     replace hr := bd hr; obtain ⟨o126, hL127, hr⟩ := hr
     refine .loopO (σ := fun z0 => match z0 with | (s_106, k_107, k2_108) => ⟨mkS 61 0 [(0, .hs 0 0 s_106.length 5), (3, aI64 k_107), (4, .hs 0 (0 + k_69.toNat * 5) (s.length - k_69.toNat) 5), (5, aI64 k2_108)], [.own (s_106.flatMap api_Tie.c)]⟩) (Q := fun x st' => match (generalizing := false) o126 with | (s_116, k_117) => x = .exit 2 ∧ Wk 1 st' ⟨mkS 61 0 [(0, .hs 0 0 s_116.length 5), (3, aI64 k_117)], [.own (s_116.flatMap api_Tie.c)]⟩) hL127 ((Wk.gc [0, 3, 4, 5] [(0, false)] rfl (pKo api_Tie.c api_Tie.pure s trivial)).to) ?_ ?_
     ·clear hr
      rintro m ⟨s_106, k_107, k2_108⟩ hr
      show CQ _ _ _ _ _ ⟨_, _⟩
      refine .seq (.seq (.r4 G [0, 3, 4, 5] [(32, aB (decide (k2_108 < ((s.length - k_69.toNat : Nat) : Int))))] ?_))
      refine .cd hr (fun hb119 hr => ?_) (fun hb119 hr => ?_)
      ·refine .skip (.seq (.block (.seq ?_)))
       obtain ⟨hg120, hg121, hg122, hr⟩ := gd3 hr
       obtain ⟨hg123, hr⟩ := gd hr
       refine .regionT G callOf_nil (.mu 2 (.pure (v := .hp 0 (0 + k_69.toNat * 5 + k2_108.toNat * 5)) (by kernel_rfl) (tr (ofP_guard hg120)) (by kernel_rfl) (.pure (v := .agg (api_Tie.c (gt s_106 ((k_69.toNat + k2_108.toNat : Nat) : Int)))) (by kernel_rfl) (Eq.trans (b := ORes.ofP (guardV (decide (5 ≤ ((s_106.flatMap api_Tie.c).drop (0 + k_69.toNat * 5 + k2_108.toNat * 5)).length)) (.agg (((s_106.flatMap api_Tie.c).drop (0 + k_69.toNat * 5 + k2_108.toNat * 5)).take 5)))) (by kernel_rfl) (flat_load api_Tie.len (inR_lt hg121) (by decide) (by omega : 0 + k_69.toNat * 5 + k2_108.toNat * 5 = ((k_69.toNat + k2_108.toNat : Nat) : Int).toNat * 5 + 0) (by kernel_rfl))) (by kernel_rfl) (.mu 3 (.pure (v := .hp 0 (0 + k_69.toNat * 5 + (wrapF .i64 (k2_108 - 1)).toNat * 5)) (by kernel_rfl) (tr (ofP_guard hg122)) (by kernel_rfl) (.pure (v := .agg [aI64 (gt s_106 ((k_69.toNat + (wrapF .i64 (k2_108 - 1)).toNat : Nat) : Int)).A.Image, aI64 (gt s_106 ((k_69.toNat + (wrapF .i64 (k2_108 - 1)).toNat : Nat) : Int)).A.Feature, aI64 (gt s_106 ((k_69.toNat + (wrapF .i64 (k2_108 - 1)).toNat : Nat) : Int)).B.Image, aI64 (gt s_106 ((k_69.toNat + (wrapF .i64 (k2_108 - 1)).toNat : Nat) : Int)).B.Feature, aI64 (gt s_106 ((k_69.toNat + (wrapF .i64 (k2_108 - 1)).toNat : Nat) : Int)).Cost]) (by kernel_rfl) (Eq.trans (b := ORes.ofP (guardV (decide (5 ≤ ((s_106.flatMap api_Tie.c).drop (0 + k_69.toNat * 5 + (wrapF .i64 (k2_108 - 1)).toNat * 5)).length)) (.agg (((s_106.flatMap api_Tie.c).drop (0 + k_69.toNat * 5 + (wrapF .i64 (k2_108 - 1)).toNat * 5)).take 5)))) (by kernel_rfl) (flat_load api_Tie.len (inR_lt hg123) (by decide) (by omega : 0 + k_69.toNat * 5 + (wrapF .i64 (k2_108 - 1)).toNat * 5 = ((k_69.toNat + (wrapF .i64 (k2_108 - 1)).toNat : Nat) : Int).toNat * 5 + 0) (by kernel_rfl))) (by kernel_rfl) (.mu 1 ?_)))))))
       refine .done ⟨by kernel_rfl, ?_⟩
       refine .nh [0, 3, 4, 5, 44] [.own (s_106.flatMap api_Tie.c)] ?_
       refine .cd hr (fun hb124 hr => ?_) (fun hb124 hr => ?_)
       ·refine .seq ?_
        obtain ⟨hg125, hr⟩ := gd hr
        refine .r0 G (.mu 4 (.p0 (v := .hp 0 (0 + k_69.toNat * 5 + k2_108.toNat * 5)) (tr (ofP_guard hg120)) (.p0 (v := .agg (api_Tie.c (gt s_106 ((k_69.toNat + k2_108.toNat : Nat) : Int)))) (Eq.trans (b := ORes.ofP (guardV (decide (5 ≤ ((s_106.flatMap api_Tie.c).drop (0 + k_69.toNat * 5 + k2_108.toNat * 5)).length)) (.agg (((s_106.flatMap api_Tie.c).drop (0 + k_69.toNat * 5 + k2_108.toNat * 5)).take 5)))) (by kernel_rfl) (flat_load api_Tie.len (inR_lt hg121) (by decide) (by omega : 0 + k_69.toNat * 5 + k2_108.toNat * 5 = ((k_69.toNat + k2_108.toNat : Nat) : Int).toNat * 5 + 0) (by kernel_rfl))) (.p0 (v := .hp 0 (0 + k_107.toNat * 5)) (tr (ofP_guard hg125)) (.e0 (v := .unk) (ws := [(0, .own ((s_106.set k_107.toNat (gt s_106 ((k_69.toNat + k2_108.toNat : Nat) : Int))).flatMap api_Tie.c))]) (tr (stO_t (and_t (flat_fits (n := 5) api_Tie.len (inR_lt hg125) (Nat.le_of_ble_eq_true rfl) (by omega : 0 + k_107.toNat * 5 = k_107.toNat * 5 + 0))) (congrArg Blk.own (flat_set (xs := (api_Tie.c (gt s_106 ((k_69.toNat + k2_108.toNat : Nat) : Int)))) api_Tie.len (inR_lt hg125) (Nat.le_of_ble_eq_true rfl) (by omega : 0 + k_107.toNat * 5 = k_107.toNat * 5 + 0) (by kernel_rfl))))) (.done (.nh [0, 3, 4, 5] [.own ((s_106.set k_107.toNat (gt s_106 ((k_69.toNat + k2_108.toNat : Nat) : Int))).flatMap api_Tie.c)] (.ru G (.pop (.ru G ?_))))))))))
        exact loopF_back (s_106.set k_107.toNat (gt s_106 ((k_69.toNat + k2_108.toNat : Nat) : Int)), wrapF .i64 (k_107 + 1), wrapF .i64 (k2_108 + 1)) hr ((Wk.relen 0 (b := 0) (es := 5) (len := s_106.length) (s_106.set k_107.toNat (gt s_106 ((k_69.toNat + k2_108.toNat : Nat) : Int))).length (by kernel_rfl) (Eq.symm (List.length_set.trans rfl))).trans ((Wk.gc [0, 3, 4, 5] [(0, false)] rfl (pKo api_Tie.c api_Tie.pure (s_106.set k_107.toNat (gt s_106 ((k_69.toNat + k2_108.toNat : Nat) : Int))) trivial)).to))
       ·refine .skip (.pop (.ru G ?_))
        exact loopF_back (s_106, k_107, wrapF .i64 (k2_108 + 1)) hr ((Wk.gc [0, 3, 4, 5] [(0, false)] rfl (pKo api_Tie.c api_Tie.pure s_106 trivial)).to)
      ·refine .leave rfl ?_
       obtain rfl := oi hr
       exact ⟨rfl, ((Wk.gc [0, 3] [(0, false)] rfl (pKo api_Tie.c api_Tie.pure s_106 trivial)).to)⟩
     ·rcases o126 with ⟨s_116, k_117⟩
      rintro x st' hq128
      clear hL127
      obtain ⟨rfl, hq128⟩ := hq128
      refine CQ_exit _ rfl (.wk hq128 (.seq ?_))
      obtain ⟨hg129, hr⟩ := gd hr
      refine .r0 G (.mu 2 (.p0 (v := .hs 0 (0 + k_117.toNat * 5) (s_116.length - k_117.toNat) 5) (Eq.trans (b := slH (inS k_117 (s_116.length : Int) s_116.length) true (k_117.toNat) ((s_116.length : Int).toNat) (fun z1 z2 => .hs 0 (0 + z1 * 5) (z2 - z1) 5)) (by kernel_rfl) (slH_t hg129 (by kernel_rfl))) (.e0 (v := .at (.tuple #[])) (ws := [(0, .own ((overT s_116 k_117.toNat (List.replicate (s_116.length - k_117.toNat) (api_Tie.mk (api_Mark.mk 0 0) (api_Mark.mk 0 0) 0))).flatMap api_Tie.c))]) (tr (cl_t (a := k_117.toNat) (z := (api_Tie.mk (api_Mark.mk 0 0) (api_Mark.mk 0 0) 0)) api_Tie.len rfl (Nat.zero_add _) (inS_lo hg129))) (.done (.nh [0, 3] [.own ((overT s_116 k_117.toNat (List.replicate (s_116.length - k_117.toNat) (api_Tie.mk (api_Mark.mk 0 0) (api_Mark.mk 0 0) 0))).flatMap api_Tie.c)] (.seq ?_))))))
      obtain ⟨hg130, hr⟩ := gd hr
      refine .r0 G (.mu 2 (.p0 (v := .hs 0 0 k_117.toNat 5) (Eq.trans (b := slH (inS 0 k_117 s_116.length) true ((0 : Int).toNat) (k_117.toNat) (fun z1 z2 => .hs 0 (0 + z1 * 5) (z2 - z1) 5)) (by kernel_rfl) (slH_t hg130 (by kernel_rfl))) (.mu 1 (.done (.nh [2] [.own ((overT s_116 k_117.toNat (List.replicate (s_116.length - k_117.toNat) (api_Tie.mk (api_Mark.mk 0 0) (api_Mark.mk 0 0) 0))).flatMap api_Tie.c)] (.wk ((Wk.cutS (c := api_Tie.c) (es := 5) 2 0 api_Tie.len (overT s_116 k_117.toNat (List.replicate (s_116.length - k_117.toNat) (api_Tie.mk (api_Mark.mk 0 0) (api_Mark.mk 0 0) 0))) k_117.toNat (Nat.le_trans (inS_le hg130) (Nat.le_of_eq (Eq.symm ((overT_len _ _ _).trans rfl)))) (by kernel_rfl) (by kernel_rfl)).to (c := ⟨mkS 61 0 [(2, .hs 0 0 ((overT s_116 k_117.toNat (List.replicate (s_116.length - k_117.toNat) (api_Tie.mk (api_Mark.mk 0 0) (api_Mark.mk 0 0) 0))).take k_117.toNat).length 5)], [.own (((overT s_116 k_117.toNat (List.replicate (s_116.length - k_117.toNat) (api_Tie.mk (api_Mark.mk 0 0) (api_Mark.mk 0 0) 0))).take k_117.toNat).flatMap api_Tie.c)]⟩) (by kernel_rfl)) (.ret ?_)))))))
      obtain rfl := oi hr
      exact ⟨rfl, FinMW.ret [.hs 0 0 ((overT s_116 k_117.toNat (List.replicate (s_116.length - k_117.toNat) (api_Tie.mk (api_Mark.mk 0 0) (api_Mark.mk 0 0) 0))).take k_117.toNat).length 5] ((Wk.gc [0] [(0, false)] rfl (pKo api_Tie.c api_Tie.pure ((overT s_116 k_117.toNat (List.replicate (s_116.length - k_117.toNat) (api_Tie.mk (api_Mark.mk 0 0) (api_Mark.mk 0 0) 0))).take k_117.toNat) trivial)).to)⟩
    ·refine .skip (.pop (.ru G ?_))
     exact loopF_back (wrapF .i64 (k_69 + 1)) hr ((Wk.gc [0, 3] [(0, false)] rfl (pKo api_Tie.c api_Tie.pure s trivial)).to)
   ·refine .leave rfl ?_
    obtain rfl := oi hr
    exact ⟨rfl, ((Wk.gc [0] [(0, false)] rfl (pKo api_Tie.c api_Tie.pure s trivial)).to)⟩
  ·rcases o131 with ⟨⟩ | r0
   ·rintro x st' hq133
    clear hL132
    obtain ⟨rfl, hq133⟩ := hq133
    refine CQ_exit _ rfl (.wk hq133 (.seq (.r3 G 61 [(2, .hs 0 0 s.length 5)] (.ret ?_))))
    obtain rfl := oi hr
    exact FinMW.ret [.hs 0 0 s.length 5] ((Wk.gc [0] [(0, false)] rfl (pKo api_Tie.c api_Tie.pure s trivial)).to)
   ·rintro x st' hq133
    clear hL132
    obtain ⟨rfl, hq133⟩ := hq133
    obtain rfl := oi hr
    exact CQ_ret _ hq133

theorem fiducial_track_chains_add_w_ok (n : Nat) (c : List api_Tie) (c' : List (api_Mark × Int)) (c'' : List api_Mark) (c''' : List Int) (c'''' : List Int) (m' : api_Mark) (r : List (api_Mark × Int) × List api_Mark × List Int × List Int) (hr : fiducial_track_chains_add_w n c c' c'' c''' c'''' m' = some r) : FnMut 1 Try.prog 74 [.hp 0 0, .agg (api_Mark.c m')] [.own [slT api_Tie.c c, .mp 1, .hs 2 0 c''.length 2, .hs 3 0 c'''.length 1, .hs 4 0 c''''.length 1], .map (c'.map (mpK api_Mark_i64.K (iA .i64))), .own (c''.flatMap api_Mark.c), .own (c'''.flatMap (iC .i64)), .own (c''''.flatMap (iC .u64))] (.tup []) [.own [slT api_Tie.c c, .mp 1, .hs 2 0 r.2.1.length 2, .hs 3 0 r.2.2.1.length 1, .hs 4 0 r.2.2.2.length 1], .map (r.1.map (mpK api_Mark_i64.K (iA .i64))), .own (r.2.1.flatMap api_Mark.c), .own (r.2.2.1.flatMap (iC .i64)), .own (r.2.2.2.flatMap (iC .u64))] := by
 unfold fiducial_track_chains_add_w at hr
 refine FnMut.bodyW G Try.func74 (c := (Try.f74.body).getD .skip) rfl (us := []) (s := mkS 62 0 [(0, .hp 0 0), (1, .agg (api_Mark.c m'))]) (by kernel_rfl) (rs := []) rfl ?_
 unfold Try.f74
 simp only [Option.getD_some]
 refine .seq (.r5 G [0] [(3, .hp 5 0)] [.own [slT api_Tie.c c, .mp 1, .hs 2 0 c''.length 2, .hs 3 0 c'''.length 1, .hs 4 0 c''''.length 1], .map (c'.map (mpK api_Mark_i64.K (iA .i64))), .own (c''.flatMap api_Mark.c), .own (c'''.flatMap (iC .i64)), .own (c''''.flatMap (iC .u64)), .own (api_Mark.c m')] (.seq (.seq (.regionT G callOf_nil (.mu 5 (.pure (v := .tup [aI64 (getM 0 c' m'), aB (hasM c' m')]) (by kernel_rfl) (Eq.trans (b := ORes.ofP (lookupA Try.prog [.own [slT api_Tie.c c, .mp 1, .hs 2 0 c''.length 2, .hs 3 0 c'''.length 1, .hs 4 0 c''''.length 1], .map (c'.map (mpK api_Mark_i64.K (iA .i64))), .own (c''.flatMap api_Mark.c), .own (c'''.flatMap (iC .i64)), .own (c''''.flatMap (iC .u64)), .own (api_Mark.c m')] 48 (.mp 1) (.agg (api_Mark.c m')) true)) (by kernel_rfl) (look_k2 (kt := 29) (e := 3) (l := c') (f := (iA .i64)) (z := 0) (K := api_Mark_i64.K) (x := m') api_Mark_i64.key (by kernel_rfl) (by kernel_rfl) (by kernel_rfl) (by kernel_rfl) (by kernel_rfl))) (by kernel_rfl) (.mu 5 ?_)))))))
 refine .done ⟨by kernel_rfl, ?_⟩
 refine .nh [0, 3, 5] [.own [slT api_Tie.c c, .mp 1, .hs 2 0 c''.length 2, .hs 3 0 c'''.length 1, .hs 4 0 c''''.length 1], .map (c'.map (mpK api_Mark_i64.K (iA .i64))), .own (c''.flatMap api_Mark.c), .own (c'''.flatMap (iC .i64)), .own (c''''.flatMap (iC .u64)), .own (api_Mark.c m')] (.seq (.r4 G [0, 3] [(15, aB (hasM c' m'))] ?_))
 refine .cd hr (fun hb13 hr => ?_) (fun hb13 hr => ?_)
 ·refine .ret ?_
  obtain rfl := oi hr
  exact FinMW.ret [] ((Wk.gc [] [(0, true), (1, false), (2, false), (3, false), (4, false)] rfl (pKt (pKM api_Mark_i64.K (iA .i64) (fun _ => rfl) c' (pKo api_Mark.c api_Mark.pure c'' (pKo (iC .i64) (iC_pure _) c''' (pKo (iC .u64) (iC_pure _) c'''' trivial)))))).to)
 ·refine .skip (.seq (.regionT G callOf_nil (.mu 10 (.eff (v := .unk) (ws := [(1, .map ((putM c' m' (c''.length : Int)).map (mpK api_Mark_i64.K (iA .i64))))]) (by kernel_rfl) (Eq.trans (b := opUpdate Try.prog [.own [slT api_Tie.c c, .mp 1, .hs 2 0 c''.length 2, .hs 3 0 c'''.length 1, .hs 4 0 c''''.length 1], .map (c'.map (mpK api_Mark_i64.K (iA .i64))), .own (c''.flatMap api_Mark.c), .own (c'''.flatMap (iC .i64)), .own (c''''.flatMap (iC .u64)), .own (api_Mark.c m')] 48 (.mp 1) (.agg (api_Mark.c m')) (aI64 (c''.length : Int))) (by kernel_rfl) (put_k (kt := 29) (e := 3) (l := c') (f := (iA .i64)) (v := (c''.length : Int)) (K := api_Mark_i64.K) (x := m') api_Mark_i64.key (by kernel_rfl) (by kernel_rfl) (by kernel_rfl) (by kernel_rfl))) (by kernel_rfl) ?_))))
  refine .done ⟨by kernel_rfl, ?_⟩
  refine .nh [0, 3] [.own [slT api_Tie.c c, .mp 1, .hs 2 0 c''.length 2, .hs 3 0 c'''.length 1, .hs 4 0 c''''.length 1], .map ((putM c' m' (c''.length : Int)).map (mpK api_Mark_i64.K (iA .i64))), .own (c''.flatMap api_Mark.c), .own (c'''.flatMap (iC .i64)), .own (c''''.flatMap (iC .u64)), .own (api_Mark.c m')] (.seq ?_)
  obtain ⟨hg14, hg15, hr⟩ := gd2 hr
  refine .regionT G callOf_nil (.mu 11 (.eff (v := .hs 7 0 (c''' ++ [(c''.length : Int)]).length 1) (ws := [(3, .dead), (7, .own ((c''' ++ [(c''.length : Int)]).flatMap (iC .i64)))]) (by kernel_rfl) (tr (app_own (new := [aI64 (c''.length : Int)]) (l := c''') (xs := [(c''.length : Int)]) (iC_len .i64) rfl rfl (by kernel_rfl) hg14 hg15)) (by kernel_rfl) (.mu 3 ?_)))
  refine .done ⟨by kernel_rfl, ?_⟩
  refine .nh [0, 3] [.own [slT api_Tie.c c, .mp 1, .hs 2 0 c''.length 2, .hs 7 0 (c''' ++ [(c''.length : Int)]).length 1, .hs 4 0 c''''.length 1], .map ((putM c' m' (c''.length : Int)).map (mpK api_Mark_i64.K (iA .i64))), .own (c''.flatMap api_Mark.c), .dead, .own (c''''.flatMap (iC .u64)), .own (api_Mark.c m'), .own [aI64 (c''.length : Int)], .own ((c''' ++ [(c''.length : Int)]).flatMap (iC .i64))] (.seq ?_)
  obtain ⟨hg16, hg17, hr⟩ := gd2 hr
  refine .regionT G callOf_nil (.mu 7 (.eff (v := .hs 9 0 (c'' ++ [m']).length 2) (ws := [(2, .dead), (9, .own ((c'' ++ [m']).flatMap api_Mark.c))]) (by kernel_rfl) (tr (app_own (new := (api_Mark.c m')) (l := c'') (xs := [m']) api_Mark.len rfl rfl (by kernel_rfl) hg16 hg17)) (by kernel_rfl) (.mu 3 ?_)))
  refine .done ⟨by kernel_rfl, ?_⟩
  refine .nh [0, 3] [.own [slT api_Tie.c c, .mp 1, .hs 9 0 (c'' ++ [m']).length 2, .hs 7 0 (c''' ++ [(c''.length : Int)]).length 1, .hs 4 0 c''''.length 1], .map ((putM c' m' (c''.length : Int)).map (mpK api_Mark_i64.K (iA .i64))), .dead, .dead, .own (c''''.flatMap (iC .u64)), .own (api_Mark.c m'), .own [aI64 (c''.length : Int)], .own ((c''' ++ [(c''.length : Int)]).flatMap (iC .i64)), .own (api_Mark.c m'), .own ((c'' ++ [m']).flatMap api_Mark.c)] ?_
  obtain ⟨hg18, hg19, hg20, hr⟩ := gd3 hr
  refine .regionT G callOf_nil (.mu 7 (.pure (v := aU64 (shlF .u64 (1 : Int) m'.Image)) (by kernel_rfl) (op_shl (k := .u64) (k' := .i64) (x := 1) (y := m'.Image) (by kernel_rfl) (by kernel_rfl) hg18) (by kernel_rfl) (.mu 1 (.eff (v := .hs 11 0 (c'''' ++ [shlF .u64 (1 : Int) m'.Image]).length 1) (ws := [(4, .dead), (11, .own ((c'''' ++ [shlF .u64 (1 : Int) m'.Image]).flatMap (iC .u64)))]) (by kernel_rfl) (tr (app_own (new := [aU64 (shlF .u64 (1 : Int) m'.Image)]) (l := c'''') (xs := [shlF .u64 (1 : Int) m'.Image]) (iC_len .u64) rfl rfl (by kernel_rfl) hg19 hg20)) (by kernel_rfl) (.mu 3 ?_)))))
  refine .done ⟨by kernel_rfl, ?_⟩
  obtain rfl := oi hr
  exact FinMW.normal [] ((Wk.gc [] [(0, true), (1, false), (9, false), (7, false), (11, false)] rfl (pKt (pKM api_Mark_i64.K (iA .i64) (fun _ => rfl) (putM c' m' (c''.length : Int)) (pKo api_Mark.c api_Mark.pure (c'' ++ [m']) (pKo (iC .i64) (iC_pure _) (c''' ++ [(c''.length : Int)]) (pKo (iC .u64) (iC_pure _) (c'''' ++ [shlF .u64 (1 : Int) m'.Image]) trivial)))))).to)

theorem fiducial_track_chains_find_w_ok (n : Nat) (c : List api_Tie) (c' : List (api_Mark × Int)) (c'' : List api_Mark) (c''' : List Int) (c'''' : List Int) (m' : api_Mark) (r : List Int × Int) (hr : fiducial_track_chains_find_w n c c' c'' c''' c'''' m' = some r) : FnMut 1 Try.prog 53 [.hp 0 0, .agg (api_Mark.c m')] [.own [slT api_Tie.c c, .mp 1, .hs 2 0 c''.length 2, .hs 3 0 c'''.length 1, .hs 4 0 c''''.length 1], .map (c'.map (mpK api_Mark_i64.K (iA .i64))), .own (c''.flatMap api_Mark.c), .own (c'''.flatMap (iC .i64)), .own (c''''.flatMap (iC .u64))] (aI64 r.2) [.own [slT api_Tie.c c, .mp 1, .hs 2 0 c''.length 2, .hs 3 0 r.1.length 1, .hs 4 0 c''''.length 1], .map (c'.map (mpK api_Mark_i64.K (iA .i64))), .own (c''.flatMap api_Mark.c), .own (r.1.flatMap (iC .i64)), .own (c''''.flatMap (iC .u64))] := by
 unfold fiducial_track_chains_find_w at hr
 refine FnMut.bodyW G Try.func53 (c := (Try.f53.body).getD .skip) rfl (us := [aI64 r.2]) (s := mkS 48 0 [(0, .hp 0 0), (1, .agg (api_Mark.c m'))]) (by kernel_rfl) (rs := [.tmp 4]) rfl ?_
 unfold Try.f53
 simp only [Option.getD_some]
 refine .seq (.r5 G [0] [(3, .hp 5 0)] [.own [slT api_Tie.c c, .mp 1, .hs 2 0 c''.length 2, .hs 3 0 c'''.length 1, .hs 4 0 c''''.length 1], .map (c'.map (mpK api_Mark_i64.K (iA .i64))), .own (c''.flatMap api_Mark.c), .own (c'''.flatMap (iC .i64)), .own (c''''.flatMap (iC .u64)), .own (api_Mark.c m')] (.seq (.regionT G callOf_nil (.mu 5 (.pure (v := aI64 (getM 0 c' m')) (by kernel_rfl) (Eq.trans (b := ORes.ofP (lookupA Try.prog [.own [slT api_Tie.c c, .mp 1, .hs 2 0 c''.length 2, .hs 3 0 c'''.length 1, .hs 4 0 c''''.length 1], .map (c'.map (mpK api_Mark_i64.K (iA .i64))), .own (c''.flatMap api_Mark.c), .own (c'''.flatMap (iC .i64)), .own (c''''.flatMap (iC .u64)), .own (api_Mark.c m')] 48 (.mp 1) (.agg (api_Mark.c m')) false)) (by kernel_rfl) (look_k (kt := 29) (e := 3) (l := c') (f := (iA .i64)) (z := 0) (K := api_Mark_i64.K) (x := m') api_Mark_i64.key (by kernel_rfl) (by kernel_rfl) (by kernel_rfl) (by kernel_rfl) (by kernel_rfl))) (by kernel_rfl) (.mu 1 ?_))))))
 refine .done ⟨by kernel_rfl, ?_⟩
 refine .nh [0, 5] [.own [slT api_Tie.c c, .mp 1, .hs 2 0 c''.length 2, .hs 3 0 c'''.length 1, .hs 4 0 c''''.length 1], .map (c'.map (mpK api_Mark_i64.K (iA .i64))), .own (c''.flatMap api_Mark.c), .own (c'''.flatMap (iC .i64)), .own (c''''.flatMap (iC .u64)), .own (api_Mark.c m')] (.seq (.block ?_))
 replace hr := bd hr; obtain ⟨o28, hL29, hr⟩ := hr
 refine .loopO (σ := fun z0 => match z0 with | (c_17, k_18) => ⟨mkS 48 0 [(0, .hp 0 0), (5, aI64 k_18)], [.own [slT api_Tie.c c, .mp 1, .hs 2 0 c''.length 2, .hs 3 0 c_17.length 1, .hs 4 0 c''''.length 1], .map (c'.map (mpK api_Mark_i64.K (iA .i64))), .own (c''.flatMap api_Mark.c), .own (c_17.flatMap (iC .i64)), .own (c''''.flatMap (iC .u64))]⟩) (Q := fun x st' => match (generalizing := false) o28 with | (c_22, k_23) => x = .exit 0 ∧ Wk 1 st' ⟨mkS 48 0 [(5, aI64 k_23)], [.own [slT api_Tie.c c, .mp 1, .hs 2 0 c''.length 2, .hs 3 0 c_22.length 1, .hs 4 0 c''''.length 1], .map (c'.map (mpK api_Mark_i64.K (iA .i64))), .own (c''.flatMap api_Mark.c), .own (c_22.flatMap (iC .i64)), .own (c''''.flatMap (iC .u64))]⟩) hL29 ((Wk.gc [0, 5] [(0, true), (1, false), (2, false), (3, false), (4, false)] rfl (pKt (pKM api_Mark_i64.K (iA .i64) (fun _ => rfl) c' (pKo api_Mark.c api_Mark.pure c'' (pKo (iC .i64) (iC_pure _) c''' (pKo (iC .u64) (iC_pure _) c'''' trivial)))))).to) ?_ ?_
 ·clear hr
  rintro m ⟨c_17, k_18⟩ hr
  show CQ _ _ _ _ _ ⟨_, _⟩
  refine .seq (.seq ?_)
  obtain ⟨hg25, hr⟩ := gd hr
  refine .r0 G (.mu 5 (.p0 (v := .hp 3 (0 + k_18.toNat * 1)) (tr (ofP_guard hg25)) (.p0 (v := aI64 (gt c_17 k_18)) (tr (ofP_some (flat_get (iC_len .i64) (inR_lt hg25) (by decide : 0 < 1) (by omega : 0 + k_18.toNat * 1 = k_18.toNat * 1 + 0) (by kernel_rfl)))) (.mu 2 (.done (.nh [0, 5, 20] [.own [slT api_Tie.c c, .mp 1, .hs 2 0 c''.length 2, .hs 3 0 c_17.length 1, .hs 4 0 c''''.length 1], .map (c'.map (mpK api_Mark_i64.K (iA .i64))), .own (c''.flatMap api_Mark.c), .own (c_17.flatMap (iC .i64)), .own (c''''.flatMap (iC .u64))] ?_))))))
  refine .cd hr (fun hb26 hr => ?_) (fun hb26 hr => ?_)
  ·refine .skip (.block (.seq ?_))
   obtain ⟨hg27, hr⟩ := gd hr
   refine .regionT G callOf_nil (.mu 14 (.pure (v := .hp 3 (0 + k_18.toNat * 1)) (by kernel_rfl) (tr (ofP_guard hg25)) (by kernel_rfl) (.pure (v := aI64 (gt c_17 k_18)) (by kernel_rfl) (tr (ofP_some (flat_get (iC_len .i64) (inR_lt hg25) (by decide : 0 < 1) (by omega : 0 + k_18.toNat * 1 = k_18.toNat * 1 + 0) (by kernel_rfl)))) (by kernel_rfl) (.pure (v := .hp 3 (0 + (gt c_17 k_18).toNat * 1)) (by kernel_rfl) (tr (ofP_guard hg27)) (by kernel_rfl) (.pure (v := aI64 (gt c_17 (gt c_17 k_18))) (by kernel_rfl) (tr (ofP_some (flat_get (iC_len .i64) (inR_lt hg27) (by decide : 0 < 1) (by omega : 0 + (gt c_17 k_18).toNat * 1 = (gt c_17 k_18).toNat * 1 + 0) (by kernel_rfl)))) (by kernel_rfl) (.pure (v := .hp 3 (0 + k_18.toNat * 1)) (by kernel_rfl) (tr (ofP_guard hg25)) (by kernel_rfl) (.eff (v := .unk) (ws := [(3, .own ((c_17.set k_18.toNat (gt c_17 (gt c_17 k_18))).flatMap (iC .i64)))]) (by kernel_rfl) (tr (stO_t (and_t (flat_fits (n := 1) (iC_len .i64) (inR_lt hg25) (Nat.le_of_ble_eq_true rfl) (by omega : 0 + k_18.toNat * 1 = k_18.toNat * 1 + 0))) (congrArg Blk.own (flat_set (xs := [aI64 (gt c_17 (gt c_17 k_18))]) (iC_len .i64) (inR_lt hg25) (Nat.le_of_ble_eq_true rfl) (by omega : 0 + k_18.toNat * 1 = k_18.toNat * 1 + 0) (by kernel_rfl))))) (by kernel_rfl) ?_)))))))
   refine .done ⟨by kernel_rfl, ?_⟩
   refine .nh [0, 5] [.own [slT api_Tie.c c, .mp 1, .hs 2 0 c''.length 2, .hs 3 0 c_17.length 1, .hs 4 0 c''''.length 1], .map (c'.map (mpK api_Mark_i64.K (iA .i64))), .own (c''.flatMap api_Mark.c), .own ((c_17.set k_18.toNat (gt c_17 (gt c_17 k_18))).flatMap (iC .i64)), .own (c''''.flatMap (iC .u64))] (.r0 G (.mu 5 (.p0 (v := .hp 3 (0 + k_18.toNat * 1)) (tr (ofP_guard hg25)) (.p0 (v := aI64 (gt (c_17.set k_18.toNat (gt c_17 (gt c_17 k_18))) k_18)) (Eq.trans (b := ORes.ofP (((c_17.set k_18.toNat (gt c_17 (gt c_17 k_18))).flatMap (iC .i64))[0 + k_18.toNat * 1]?)) (by kernel_rfl) (ofP_some (flat_get (iC_len _) (inR_lt (inR_set hg25)) (by decide : 0 < 1) (by omega : 0 + k_18.toNat * 1 = k_18.toNat * 1 + 0) (by kernel_rfl)))) (.mu 1 (.done (.pop ?_)))))))
   exact loopF_back (c_17.set k_18.toNat (gt c_17 (gt c_17 k_18)), (gt (c_17.set k_18.toNat (gt c_17 (gt c_17 k_18))) k_18)) hr ((Wk.recell 0 3 (b := 3) (es := 1) (len := c_17.length) (cs := [slT api_Tie.c c, .mp 1, .hs 2 0 c''.length 2, .hs 3 0 c_17.length 1, .hs 4 0 c''''.length 1]) (c_17.set k_18.toNat (gt c_17 (gt c_17 k_18))).length (by kernel_rfl) (by kernel_rfl) (by simp)).trans ((Wk.gc [0, 5] [(0, true), (1, false), (2, false), (3, false), (4, false)] rfl (pKt (pKM api_Mark_i64.K (iA .i64) (fun _ => rfl) c' (pKo api_Mark.c api_Mark.pure c'' (pKo (iC .i64) (iC_pure _) (c_17.set k_18.toNat (gt c_17 (gt c_17 k_18))) (pKo (iC .u64) (iC_pure _) c'''' trivial)))))).to))
  ·refine .leave rfl ?_
   obtain rfl := oi hr
   exact ⟨rfl, ((Wk.gc [5] [(0, true), (1, false), (2, false), (3, false), (4, false)] rfl (pKt (pKM api_Mark_i64.K (iA .i64) (fun _ => rfl) c' (pKo api_Mark.c api_Mark.pure c'' (pKo (iC .i64) (iC_pure _) c_17 (pKo (iC .u64) (iC_pure _) c'''' trivial)))))).to)⟩
 ·rcases o28 with ⟨c_22, k_23⟩
  rintro x st' hq30
  clear hL29
  obtain ⟨rfl, hq30⟩ := hq30
  refine CQ_exit _ rfl (.wk hq30 (.seq (.r3 G 48 [(4, aI64 k_23)] (.ret ?_))))
  obtain rfl := oi hr
  exact FinMW.ret [aI64 k_23] ((Wk.gc [0] [(0, true), (1, false), (2, false), (3, false), (4, false)] rfl (pKt (pKM api_Mark_i64.K (iA .i64) (fun _ => rfl) c' (pKo api_Mark.c api_Mark.pure c'' (pKo (iC .i64) (iC_pure _) c_22 (pKo (iC .u64) (iC_pure _) c'''' trivial)))))).to)

theorem track_chained_w_ok (n : Nat) (ties : List api_Tie) (r : List api_Tie × List (api_Mark × Int) × List api_Mark × List Int × List Int) (hr : track_chained_w n ties = some r) : FnMut 0 Try.prog 48 [slT api_Tie.c ties] [] (.hp 0 0) [.own [slT api_Tie.c r.1, .mp 1, .hs 2 0 r.2.2.1.length 2, .hs 3 0 r.2.2.2.1.length 1, .hs 4 0 r.2.2.2.2.length 1], .map (r.2.1.map (mpK api_Mark_i64.K (iA .i64))), .own (r.2.2.1.flatMap api_Mark.c), .own (r.2.2.2.1.flatMap (iC .i64)), .own (r.2.2.2.2.flatMap (iC .u64))] := by
 unfold track_chained_w at hr
 refine FnMut.bodyW G Try.func48 (c := (Try.f48.body).getD .skip) rfl (us := [.hp 0 0]) (s := mkS 97 0 [(0, slT api_Tie.c ties)]) (by kernel_rfl) (rs := [.tmp 2]) rfl ?_
 unfold Try.f48
 simp only [Option.getD_some]
 refine .seq (.r4 G [0] [] (.seq ?_))
 obtain ⟨v58, hc59, hr⟩ := bd hr
 refine .g1 G (callOk_mutU (args := [slT api_Tie.c ties]) 0 1 [] [false] (slices_Clone_fiducial_api_Tie_fiducial_api_Tie_w_ok n ties v58 hc59) trivial (by exact ⟨ids_flat api_Tie.pure _, trivial⟩) rfl rfl (by kernel_rfl) (by kernel_rfl)) (.mu 1 (.ca cf0 (.mu 4 (.done (.nh [3] [.own (v58.flatMap api_Tie.c), .map (([] : List (api_Mark × Int)).map (mpK api_Mark_i64.K (iA .i64))), .own [.hs 0 0 v58.length 5, .mp 1, nS, nS, nS]] (.seq ?_))))))
 obtain ⟨v60, hc61, hr⟩ := bd hr
 obtain ⟨hg62, hr⟩ := gd hr
 refine .g1 G (callOk_mutU (args := [.hs 0 0 v58.length 5, .fn 73 [] []]) 1 0 [(0, false)] [false] (slices_SortFunc_fiducial_api_Tie_fiducial_api_Tie_w_of_track_compareTies_ok n v58 v60 hc61) (by exact ⟨ids_flat api_Tie.pure _, trivial⟩) (by exact ⟨ids_flat api_Tie.pure _, trivial⟩) rfl rfl (by kernel_rfl) (by kernel_rfl)) (.mu 4 (.ca cf0 (.done (.nh [3] [.own (v60.flatMap api_Tie.c), .map (([] : List (api_Mark × Int)).map (mpK api_Mark_i64.K (iA .i64))), .own [.hs 0 0 v58.length 5, .mp 1, nS, nS, nS]] (.seq ?_)))))
 obtain ⟨v63, hc64, hr⟩ := bd hr
 refine .g1 G (callOk_mutU (args := [.hs 0 0 v58.length 5]) 1 0 [(0, false)] [false] (slices_Compact_fiducial_api_Tie_fiducial_api_Tie_w_ok n v60 v63 hc64) (by exact ⟨ids_flat api_Tie.pure _, trivial⟩) (by exact ⟨ids_flat api_Tie.pure _, trivial⟩) rfl rfl (by rw [(of_decide_eq_true hg62)]; kernel_rfl) (by kernel_rfl)) <| .mu 5 <| .ca cf0 <| .mu 3 <| .done <| .nh [3] [.own (v63.flatMap api_Tie.c), .map (([] : List (api_Mark × Int)).map (mpK api_Mark_i64.K (iA .i64))), .own [.hs 0 0 v63.length 5, .mp 1, nS, nS, nS]] <| .seq <| .seq <| .r4 G [3] [(29, .hs 0 0 v63.length 5), (30, aI64 (v63.length : Int)), (31, aI64 0)] <| .block <| .wk (((Wk.fix 0 (cs := (v63.flatMap api_Tie.c)) (by kernel_rfl)).trans ((Wk.purify 29 (b := 0) (len := v63.length) (es := 5) (cs := (v63.flatMap api_Tie.c)) (by kernel_rfl) (by kernel_rfl) (ids_flat api_Tie.pure _) (fun h => flat_nil0 h)).trans (Wk.purcell 2 0 (b := 0) (len := v63.length) (es := 5) (cs := (v63.flatMap api_Tie.c)) (cs' := [.hs 0 0 v63.length 5, .mp 1, nS, nS, nS]) (by kernel_rfl) (by kernel_rfl) (by kernel_rfl) (ids_flat api_Tie.pure _) (fun h => flat_nil0 h)))).to (c := ⟨mkS 97 0 [(3, .hp 2 0), (29, slT api_Tie.c v63), (30, aI64 (v63.length : Int)), (31, aI64 0)], [.fix (v63.flatMap api_Tie.c), .map (([] : List (api_Mark × Int)).map (mpK api_Mark_i64.K (iA .i64))), .own [slT api_Tie.c v63, .mp 1, nS, nS, nS]]⟩) (by kernel_rfl)) ?_
 replace hr := bd hr; obtain ⟨o107, hL108, hr⟩ := hr
 refine .loopO (σ := fun z0 => match z0 with | (c_65, c_66, c_67, c_68, x_69) => ⟨mkS 97 0 [(3, .hp 0 0), (29, slT api_Tie.c v63), (30, aI64 (v63.length : Int)), (31, aI64 x_69)], [.own [slT api_Tie.c v63, .mp 1, .hs 2 0 c_66.length 2, .hs 3 0 c_67.length 1, .hs 4 0 c_68.length 1], .map (c_65.map (mpK api_Mark_i64.K (iA .i64))), .own (c_66.flatMap api_Mark.c), .own (c_67.flatMap (iC .i64)), .own (c_68.flatMap (iC .u64))]⟩) (Q := fun x st' => match (generalizing := false) o107 with | (c_86, c_87, c_88, c_89) => x = .exit 0 ∧ Wk 0 st' ⟨mkS 97 0 [(3, .hp 0 0)], [.own [slT api_Tie.c v63, .mp 1, .hs 2 0 c_87.length 2, .hs 3 0 c_88.length 1, .hs 4 0 c_89.length 1], .map (c_86.map (mpK api_Mark_i64.K (iA .i64))), .own (c_87.flatMap api_Mark.c), .own (c_88.flatMap (iC .i64)), .own (c_89.flatMap (iC .u64))]⟩) hL108 ((Wk.nilcell 2 2 2 (cs := [slT api_Tie.c v63, .mp 1, nS, nS, nS]) (by kernel_rfl) (by kernel_rfl)).trans ((Wk.nilcell 2 3 1 (cs := [slT api_Tie.c v63, .mp 1, .hs 3 0 0 2, nS, nS]) (by kernel_rfl) (by kernel_rfl)).trans ((Wk.nilcell 2 4 1 (cs := [slT api_Tie.c v63, .mp 1, .hs 3 0 0 2, .hs 4 0 0 1, nS]) (by kernel_rfl) (by kernel_rfl)).trans ((Wk.gc [3, 29, 30, 31] [(2, true), (1, false), (3, false), (4, false), (5, false)] rfl (pKt (pKM api_Mark_i64.K (iA .i64) (fun _ => rfl) ([] : List (api_Mark × Int)) (pKc (pKc (pKc trivial)))))).to)))) ?_ ?_
 ·clear hr
  rintro m ⟨c_65, c_66, c_67, c_68, x_69⟩ hr
  show CQ _ _ _ _ _ ⟨_, _⟩
  refine .seq (.r4 G [3, 29, 30, 31] [(32, aB (decide (x_69 < (v63.length : Int))))] (.seq ?_))
  refine .cd hr (fun hb92 hr => ?_) (fun hb92 hr => ?_)
  ·refine .skip (.seq (.block (.seq ?_)))
   obtain ⟨hg93, hr⟩ := gd hr
   refine .r0 G (.p0 (v := .pp (v63.flatMap api_Tie.c) (x_69.toNat * 5)) (tr (ofP_guard hg93)) (.p0 (v := .agg (api_Tie.c (gt v63 x_69))) (Eq.trans (b := ORes.ofP (guardV (decide (5 ≤ ((v63.flatMap api_Tie.c).drop (x_69.toNat * 5)).length)) (.agg (((v63.flatMap api_Tie.c).drop (x_69.toNat * 5)).take 5)))) (by kernel_rfl) (flat_load api_Tie.len (inR_lt hg93) (by decide) (by omega : x_69.toNat * 5 = x_69.toNat * 5 + 0) (by kernel_rfl))) (.mu 2 (.done (.nh [3, 5, 29, 30, 31] [.own [slT api_Tie.c v63, .mp 1, .hs 2 0 c_66.length 2, .hs 3 0 c_67.length 1, .hs 4 0 c_68.length 1], .map (c_65.map (mpK api_Mark_i64.K (iA .i64))), .own (c_66.flatMap api_Mark.c), .own (c_67.flatMap (iC .i64)), .own (c_68.flatMap (iC .u64)), .own (api_Tie.c (gt v63 x_69))] (.seq ?_))))))
   obtain ⟨v94, hc95, hr⟩ := bd hr
   refine .g1 G (callOk_mutU (args := [.hp 0 0, .agg (api_Mark.c (gt v63 x_69).A)]) 1 4 [(0, true), (1, false), (2, false), (3, false), (4, false)] [true, false, false, false, false] (fiducial_track_chains_add_w_ok n v63 c_65 c_66 c_67 c_68 (gt v63 x_69).A v94 hc95) (by exact ⟨ids_mpK (fun _ => rfl) _, ⟨ids_flat api_Mark.pure _, ⟨ids_flat (iC_pure _) _, ⟨ids_flat (iC_pure _) _, trivial⟩⟩⟩⟩) (by exact ⟨ids_mpK (fun _ => rfl) _, ⟨ids_flat api_Mark.pure _, ⟨ids_flat (iC_pure _) _, ⟨ids_flat (iC_pure _) _, trivial⟩⟩⟩⟩) rfl rfl (by kernel_rfl) (by kernel_rfl)) (.mu 3 (.ca cf0 (.done (.nh [3, 5, 29, 30, 31] [.own [slT api_Tie.c v63, .mp 6, .hs 7 0 v94.2.1.length 2, .hs 8 0 v94.2.2.1.length 1, .hs 9 0 v94.2.2.2.length 1], .dead, .dead, .dead, .dead, .own (api_Tie.c (gt v63 x_69)), .map (v94.1.map (mpK api_Mark_i64.K (iA .i64))), .own (v94.2.1.flatMap api_Mark.c), .own (v94.2.2.1.flatMap (iC .i64)), .own (v94.2.2.2.flatMap (iC .u64))] (.seq ?_)))))
   obtain ⟨v96, hc97, hr⟩ := bd hr
   refine .g1 G (callOk_mutU (args := [.hp 0 0, .agg (api_Mark.c (gt v63 x_69).B)]) 1 4 [(0, true), (6, false), (7, false), (8, false), (9, false)] [true, false, false, false, false] (fiducial_track_chains_add_w_ok n v63 v94.1 v94.2.1 v94.2.2.1 v94.2.2.2 (gt v63 x_69).B v96 hc97) (by exact ⟨ids_mpK (fun _ => rfl) _, ⟨ids_flat api_Mark.pure _, ⟨ids_flat (iC_pure _) _, ⟨ids_flat (iC_pure _) _, trivial⟩⟩⟩⟩) (by exact ⟨ids_mpK (fun _ => rfl) _, ⟨ids_flat api_Mark.pure _, ⟨ids_flat (iC_pure _) _, ⟨ids_flat (iC_pure _) _, trivial⟩⟩⟩⟩) rfl rfl (by kernel_rfl) (by kernel_rfl)) (.mu 3 (.ca cf0 (.done (.nh [3, 5, 29, 30, 31] [.own [slT api_Tie.c v63, .mp 10, .hs 11 0 v96.2.1.length 2, .hs 12 0 v96.2.2.1.length 1, .hs 13 0 v96.2.2.2.length 1], .dead, .dead, .dead, .dead, .own (api_Tie.c (gt v63 x_69)), .dead, .dead, .dead, .dead, .map (v96.1.map (mpK api_Mark_i64.K (iA .i64))), .own (v96.2.1.flatMap api_Mark.c), .own (v96.2.2.1.flatMap (iC .i64)), .own (v96.2.2.2.flatMap (iC .u64))] (.seq ?_)))))
   obtain ⟨v98, hc99, v100, hc101, hr⟩ := bd2 hr
   refine .tn G (ca1 (callOk_mutU (args := [.hp 0 0, .agg (api_Mark.c (gt v63 x_69).A)]) 1 4 [(0, true), (10, false), (11, false), (12, false), (13, false)] [true, false, false, false, false] (fiducial_track_chains_find_w_ok n v63 v96.1 v96.2.1 v96.2.2.1 v96.2.2.2 (gt v63 x_69).A v98 hc99) (by exact ⟨ids_mpK (fun _ => rfl) _, ⟨ids_flat api_Mark.pure _, ⟨ids_flat (iC_pure _) _, ⟨ids_flat (iC_pure _) _, trivial⟩⟩⟩⟩) (by exact ⟨ids_mpK (fun _ => rfl) _, ⟨ids_flat api_Mark.pure _, ⟨ids_flat (iC_pure _) _, ⟨ids_flat (iC_pure _) _, trivial⟩⟩⟩⟩) rfl rfl (by kernel_rfl) (by kernel_rfl)) (ca4 [.own [slT api_Tie.c v63, .mp 14, .hs 15 0 v96.2.1.length 2, .hs 16 0 v98.1.length 1, .hs 17 0 v96.2.2.2.length 1], .dead, .dead, .dead, .dead, .own (api_Tie.c (gt v63 x_69)), .dead, .dead, .dead, .dead, .dead, .dead, .dead, .dead, .map (v96.1.map (mpK api_Mark_i64.K (iA .i64))), .own (v96.2.1.flatMap api_Mark.c), .own (v98.1.flatMap (iC .i64)), .own (v96.2.2.2.flatMap (iC .u64))] (callOk_mutU (args := [.hp 0 0, .agg (api_Mark.c (gt v63 x_69).B)]) 1 4 [(0, true), (14, false), (15, false), (16, false), (17, false)] [true, false, false, false, false] (fiducial_track_chains_find_w_ok n v63 v96.1 v96.2.1 v98.1 v96.2.2.2 (gt v63 x_69).B v100 hc101) (by exact ⟨ids_mpK (fun _ => rfl) _, ⟨ids_flat api_Mark.pure _, ⟨ids_flat (iC_pure _) _, ⟨ids_flat (iC_pure _) _, trivial⟩⟩⟩⟩) (by exact ⟨ids_mpK (fun _ => rfl) _, ⟨ids_flat api_Mark.pure _, ⟨ids_flat (iC_pure _) _, ⟨ids_flat (iC_pure _) _, trivial⟩⟩⟩⟩) rfl rfl (by kernel_rfl) (by kernel_rfl)))) (.mu 3 (.ca cf0 (.mu 3 (.ca (cfH 10 0 3 cf0) (.mu 2 ?_)))))
   refine .done ⟨by kernel_rfl, ?_⟩
   refine .nh [3, 6, 7, 29, 30, 31] [.own [slT api_Tie.c v63, .mp 18, .hs 19 0 v96.2.1.length 2, .hs 20 0 v100.1.length 1, .hs 21 0 v96.2.2.2.length 1], .dead, .dead, .dead, .dead, .own (api_Tie.c (gt v63 x_69)), .dead, .dead, .dead, .dead, .dead, .dead, .dead, .dead, .dead, .dead, .dead, .dead, .map (v96.1.map (mpK api_Mark_i64.K (iA .i64))), .own (v96.2.1.flatMap api_Mark.c), .own (v100.1.flatMap (iC .i64)), .own (v96.2.2.2.flatMap (iC .u64))] (.seq ?_)
   rcases Bool.eq_false_or_eq_true ((v98.2 : Int) != v100.2) with hb102 | hb102
   ·replace hr := cd_t hb102 hr
    obtain ⟨hg103, hg104, hr⟩ := gd2 hr
    refine .regionT G callOf_nil (.mu 2 (.pure (v := aB true) (by kernel_rfl) (eB hb102) (by kernel_rfl) (.mu 6 (.pure (v := .hp 21 (0 + v98.2.toNat * 1)) (by kernel_rfl) (tr (ofP_guard hg103)) (by kernel_rfl) (.pure (v := aU64 (gt v96.2.2.2 v98.2)) (by kernel_rfl) (tr (ofP_some (flat_get (iC_len .u64) (inR_lt hg103) (by decide : 0 < 1) (by omega : 0 + v98.2.toNat * 1 = v98.2.toNat * 1 + 0) (by kernel_rfl)))) (by kernel_rfl) (.mu 5 (.pure (v := .hp 21 (0 + v100.2.toNat * 1)) (by kernel_rfl) (tr (ofP_guard hg104)) (by kernel_rfl) (.pure (v := aU64 (gt v96.2.2.2 v100.2)) (by kernel_rfl) (tr (ofP_some (flat_get (iC_len .u64) (inR_lt hg104) (by decide : 0 < 1) (by omega : 0 + v100.2.toNat * 1 = v100.2.toNat * 1 + 0) (by kernel_rfl)))) (by kernel_rfl) (.mu 3 ?_)))))))))
    refine .done ⟨by kernel_rfl, ?_⟩
    refine .nh [3, 6, 7, 29, 30, 31, 71] [.own [slT api_Tie.c v63, .mp 18, .hs 19 0 v96.2.1.length 2, .hs 20 0 v100.1.length 1, .hs 21 0 v96.2.2.2.length 1], .dead, .dead, .dead, .dead, .own (api_Tie.c (gt v63 x_69)), .dead, .dead, .dead, .dead, .dead, .dead, .dead, .dead, .dead, .dead, .dead, .dead, .map (v96.1.map (mpK api_Mark_i64.K (iA .i64))), .own (v96.2.1.flatMap api_Mark.c), .own (v100.1.flatMap (iC .i64)), .own (v96.2.2.2.flatMap (iC .u64))] ?_
    refine .cd hr (fun hb105 hr => ?_) (fun hb105 hr => ?_)
    ·refine .seq ?_
     obtain ⟨hg106, hr⟩ := gd hr
     refine .r0 G (.mu 6 (.p0 (v := .hp 20 (0 + v100.2.toNat * 1)) (tr (ofP_guard hg106)) (.e0 (v := .unk) (ws := [(20, .own ((v100.1.set v100.2.toNat v98.2).flatMap (iC .i64)))]) (tr (stO_t (and_t (flat_fits (n := 1) (iC_len .i64) (inR_lt hg106) (Nat.le_of_ble_eq_true rfl) (by omega : 0 + v100.2.toNat * 1 = v100.2.toNat * 1 + 0))) (congrArg Blk.own (flat_set (xs := [aI64 v98.2]) (iC_len .i64) (inR_lt hg106) (Nat.le_of_ble_eq_true rfl) (by omega : 0 + v100.2.toNat * 1 = v100.2.toNat * 1 + 0) (by kernel_rfl))))) (.done (.nh [3, 6, 7, 29, 30, 31] [.own [slT api_Tie.c v63, .mp 18, .hs 19 0 v96.2.1.length 2, .hs 20 0 v100.1.length 1, .hs 21 0 v96.2.2.2.length 1], .dead, .dead, .dead, .dead, .own (api_Tie.c (gt v63 x_69)), .dead, .dead, .dead, .dead, .dead, .dead, .dead, .dead, .dead, .dead, .dead, .dead, .map (v96.1.map (mpK api_Mark_i64.K (iA .i64))), .own (v96.2.1.flatMap api_Mark.c), .own ((v100.1.set v100.2.toNat v98.2).flatMap (iC .i64)), .own (v96.2.2.2.flatMap (iC .u64))] (.regionT G callOf_nil (.mu 5 (.pure (v := .hp 21 (0 + v98.2.toNat * 1)) (by kernel_rfl) (tr (ofP_guard hg103)) (by kernel_rfl) (.pure (v := aU64 (gt v96.2.2.2 v98.2)) (by kernel_rfl) (tr (ofP_some (flat_get (iC_len .u64) (inR_lt hg103) (by decide : 0 < 1) (by omega : 0 + v98.2.toNat * 1 = v98.2.toNat * 1 + 0) (by kernel_rfl)))) (by kernel_rfl) (.mu 5 (.pure (v := .hp 21 (0 + v100.2.toNat * 1)) (by kernel_rfl) (tr (ofP_guard hg104)) (by kernel_rfl) (.pure (v := aU64 (gt v96.2.2.2 v100.2)) (by kernel_rfl) (tr (ofP_some (flat_get (iC_len .u64) (inR_lt hg104) (by decide : 0 < 1) (by omega : 0 + v100.2.toNat * 1 = v100.2.toNat * 1 + 0) (by kernel_rfl)))) (by kernel_rfl) (.mu 1 (.pure (v := .hp 21 (0 + v98.2.toNat * 1)) (by kernel_rfl) (tr (ofP_guard hg103)) (by kernel_rfl) (.eff (v := .unk) (ws := [(21, .own ((v96.2.2.2.set v98.2.toNat (bitO .or .u64 (gt v96.2.2.2 v98.2) (gt v96.2.2.2 v100.2))).flatMap (iC .u64)))]) (by kernel_rfl) (tr (stO_t (and_t (flat_fits (n := 1) (iC_len .u64) (inR_lt hg103) (Nat.le_of_ble_eq_true rfl) (by omega : 0 + v98.2.toNat * 1 = v98.2.toNat * 1 + 0))) (congrArg Blk.own (flat_set (xs := [aU64 (bitO .or .u64 (gt v96.2.2.2 v98.2) (gt v96.2.2.2 v100.2))]) (iC_len .u64) (inR_lt hg103) (Nat.le_of_ble_eq_true rfl) (by omega : 0 + v98.2.toNat * 1 = v98.2.toNat * 1 + 0) (by kernel_rfl))))) (by kernel_rfl) ?_)))))))))))))))
     refine .done ⟨by kernel_rfl, ?_⟩
     refine .pop (.ru G ?_)
     exact loopF_back (v96.1, v96.2.1, v100.1.set v100.2.toNat v98.2, v96.2.2.2.set v98.2.toNat (bitO .or .u64 (gt v96.2.2.2 v98.2) (gt v96.2.2.2 v100.2)), wrapF .i64 (x_69 + 1)) hr ((Wk.recell 0 3 (b := 20) (es := 1) (len := v100.1.length) (cs := [slT api_Tie.c v63, .mp 18, .hs 19 0 v96.2.1.length 2, .hs 20 0 v100.1.length 1, .hs 21 0 v96.2.2.2.length 1]) (v100.1.set v100.2.toNat v98.2).length (by kernel_rfl) (by kernel_rfl) (by simp)).trans ((Wk.recell 0 4 (b := 21) (es := 1) (len := v96.2.2.2.length) (cs := [slT api_Tie.c v63, .mp 18, .hs 19 0 v96.2.1.length 2, .hs 20 0 (v100.1.set v100.2.toNat v98.2).length 1, .hs 21 0 v96.2.2.2.length 1]) (v96.2.2.2.set v98.2.toNat (bitO .or .u64 (gt v96.2.2.2 v98.2) (gt v96.2.2.2 v100.2))).length (by kernel_rfl) (by kernel_rfl) (by simp)).trans ((Wk.gc [3, 29, 30, 31] [(0, true), (18, false), (19, false), (20, false), (21, false)] rfl (pKt (pKM api_Mark_i64.K (iA .i64) (fun _ => rfl) v96.1 (pKo api_Mark.c api_Mark.pure v96.2.1 (pKo (iC .i64) (iC_pure _) (v100.1.set v100.2.toNat v98.2) (pKo (iC .u64) (iC_pure _) (v96.2.2.2.set v98.2.toNat (bitO .or .u64 (gt v96.2.2.2 v98.2) (gt v96.2.2.2 v100.2))) trivial)))))).to)))
    ·refine .skip (.pop (.ru G ?_))
     exact loopF_back (v96.1, v96.2.1, v100.1, v96.2.2.2, wrapF .i64 (x_69 + 1)) hr ((Wk.gc [3, 29, 30, 31] [(0, true), (18, false), (19, false), (20, false), (21, false)] rfl (pKt (pKM api_Mark_i64.K (iA .i64) (fun _ => rfl) v96.1 (pKo api_Mark.c api_Mark.pure v96.2.1 (pKo (iC .i64) (iC_pure _) v100.1 (pKo (iC .u64) (iC_pure _) v96.2.2.2 trivial)))))).to)
   ·replace hr := cd_f hb102 hr
    refine .regionT G callOf_nil (.mu 2 (.pure (v := aB false) (by kernel_rfl) (eB hb102) (by kernel_rfl) (.mu 18 ?_)))
    refine .done ⟨by kernel_rfl, ?_⟩
    refine .nh [3, 6, 7, 29, 30, 31, 71] [.own [slT api_Tie.c v63, .mp 18, .hs 19 0 v96.2.1.length 2, .hs 20 0 v100.1.length 1, .hs 21 0 v96.2.2.2.length 1], .dead, .dead, .dead, .dead, .own (api_Tie.c (gt v63 x_69)), .dead, .dead, .dead, .dead, .dead, .dead, .dead, .dead, .dead, .dead, .dead, .dead, .map (v96.1.map (mpK api_Mark_i64.K (iA .i64))), .own (v96.2.1.flatMap api_Mark.c), .own (v100.1.flatMap (iC .i64)), .own (v96.2.2.2.flatMap (iC .u64))] (.cF (by kernel_rfl) (.skip (.pop (.ru G ?_))))
    exact loopF_back (v96.1, v96.2.1, v100.1, v96.2.2.2, wrapF .i64 (x_69 + 1)) hr ((Wk.gc [3, 29, 30, 31] [(0, true), (18, false), (19, false), (20, false), (21, false)] rfl (pKt (pKM api_Mark_i64.K (iA .i64) (fun _ => rfl) v96.1 (pKo api_Mark.c api_Mark.pure v96.2.1 (pKo (iC .i64) (iC_pure _) v100.1 (pKo (iC .u64) (iC_pure _) v96.2.2.2 trivial)))))).to)
  ·refine .leave rfl ?_
   obtain rfl := oi hr
   exact ⟨rfl, ((Wk.gc [3] [(0, true), (1, false), (2, false), (3, false), (4, false)] rfl (pKt (pKM api_Mark_i64.K (iA .i64) (fun _ => rfl) c_65 (pKo api_Mark.c api_Mark.pure c_66 (pKo (iC .i64) (iC_pure _) c_67 (pKo (iC .u64) (iC_pure _) c_68 trivial)))))).to)⟩
 ·rcases o107 with ⟨c_86, c_87, c_88, c_89⟩
  rintro x st' hq109
  clear hL108
  obtain ⟨rfl, hq109⟩ := hq109
  refine CQ_exit _ rfl (.wk hq109 (.seq (.r3 G 97 [(2, .hp 0 0)] (.ret ?_))))
  obtain rfl := oi hr
  exact FinMW.ret [.hp 0 0] ((Wk.gc [0] [(0, true), (1, false), (2, false), (3, false), (4, false)] rfl (pKt (pKM api_Mark_i64.K (iA .i64) (fun _ => rfl) c_86 (pKo api_Mark.c api_Mark.pure c_87 (pKo (iC .i64) (iC_pure _) c_88 (pKo (iC .u64) (iC_pure _) c_89 trivial)))))).to)

theorem slices_Clone_fiducial_api_Mark_fiducial_api_Mark_ok (n : Nat) (s : List api_Mark) (r : List api_Mark) (hr : slices_Clone_fiducial_api_Mark_fiducial_api_Mark n s = some r) : FnOk Try.prog 17 [slT api_Mark.c s] (slT api_Mark.c r) := by
 unfold slices_Clone_fiducial_api_Mark_fiducial_api_Mark at hr
 refine FnOk.bd G Try.func17 [.tmp 2] ?_
 unfold Try.f17
 simp only [Option.getD_some]
 refine .seq (.r4 G [0] [] (.seq (.seq ?_)))
 refine .nilcase (t := 0) (cs := s.flatMap api_Mark.c) (len := s.length) (by kernel_rfl) (fun hn3 => ?_) ?_
 ·obtain rfl : s = [] := List.length_eq_zero_iff.1 hn3
  have hx := gd hr; clear hr; obtain ⟨_, hr⟩ := hx
  have hx := gd hr; clear hr; obtain ⟨_, hr⟩ := hx
  refine .r4 G [0] [(4, aB true)] (.cT (by kernel_rfl) (.seq (.r3 G 8 [(2, nS)] (.ret ?_))))
  obtain rfl := oi hr
  exact FinQ.ret (vs := [nS]) (by kernel_rfl) Sn.nilsl
 ·refine .r4 G [0] [(4, aB false)] (.cF (by kernel_rfl) (.skip (.seq ?_)))
  obtain ⟨hg1, hg2, hr⟩ := gd2 hr
  refine .r0 G (.mu 2 (.e0 (v := .hs 1 0 s.length 2) (ws := [(0, .dead), (1, .own (s.flatMap api_Mark.c))]) (Eq.trans (b := appS (decide (((s.flatMap api_Mark.c)).length = s.length * 2)) (s.flatMap api_Mark.c) s.length (fun z1 z2 => guardO (decide (0 + 0 * 2 ≤ (([] : List api_Mark).flatMap api_Mark.c).length) && decide ((0 + z2) * 16 ≤ 140737488355328) && decide (0 + z2 ≤ 4611686018427387904)) (some (.eff (.hs 1 0 (0 + z2) 2) [(0, .dead), (1, .own (((([] : List api_Mark).flatMap api_Mark.c).drop 0).take (0 * 2) ++ z1))])))) (by kernel_rfl) (appS_t (flat_lenB api_Mark.len) rfl (app_own (l := ([] : List api_Mark)) (xs := s) api_Mark.len rfl rfl rfl hg1 hg2))) (.mu 1 (.done (.nh [2] [.dead, .own (s.flatMap api_Mark.c)] (.ret ?_))))))
  obtain rfl := oi hr
  exact FinQ.ret (vs := [.hs 1 0 s.length 2]) (by kernel_rfl) (Sn.hs rfl (.inl rfl) (SnC.pure (ids_flat api_Mark.pure _)) (fun h => flat_nil0 h))

theorem slices_Clone_fiducial_api_Mark_fiducial_api_Mark_w_2_ok (n : Nat) (s : List api_Mark) (r : List api_Mark) (hr : slices_Clone_fiducial_api_Mark_fiducial_api_Mark_w_2 n s = some r) : FnMut 0 Try.prog 17 [slT api_Mark.c s] [] (.hs 0 0 r.length 2) [.own (r.flatMap api_Mark.c)] := by
 unfold slices_Clone_fiducial_api_Mark_fiducial_api_Mark_w_2 at hr
 refine FnMut.bodyW G Try.func17 (c := (Try.f17.body).getD .skip) rfl (us := [.hs 0 0 r.length 2]) (s := mkS 8 0 [(0, slT api_Mark.c s)]) (by kernel_rfl) (rs := [.tmp 2]) rfl ?_
 unfold Try.f17
 simp only [Option.getD_some]
 refine .seq (.r4 G [0] [] (.seq (.seq ?_)))
 refine .nilcase (t := 0) (cs := s.flatMap api_Mark.c) (len := s.length) (by kernel_rfl) (fun hn7 => ?_) ?_
 ·obtain rfl : s = [] := List.length_eq_zero_iff.1 hn7
  have hx := gd hr; clear hr; obtain ⟨_, hr⟩ := hx
  have hx := gd hr; clear hr; obtain ⟨_, hr⟩ := hx
  refine .r4 G [0] [(4, aB true)] (.cT (by kernel_rfl) (.seq (.r3 G 8 [(2, nS)] (.ret ?_))))
  obtain rfl := oi hr
  exact FinMW.ret [nS] ((Wk.nil 0 2 (by kernel_rfl)).trans ((Wk.gc [0] [(0, false)] rfl (pKc trivial)).to))
 ·refine .r4 G [0] [(4, aB false)] (.cF (by kernel_rfl) (.skip (.seq ?_)))
  obtain ⟨hg5, hg6, hr⟩ := gd2 hr
  refine .r0 G (.mu 2 (.e0 (v := .hs 1 0 s.length 2) (ws := [(0, .dead), (1, .own (s.flatMap api_Mark.c))]) (Eq.trans (b := appS (decide (((s.flatMap api_Mark.c)).length = s.length * 2)) (s.flatMap api_Mark.c) s.length (fun z1 z2 => guardO (decide (0 + 0 * 2 ≤ (([] : List api_Mark).flatMap api_Mark.c).length) && decide ((0 + z2) * 16 ≤ 140737488355328) && decide (0 + z2 ≤ 4611686018427387904)) (some (.eff (.hs 1 0 (0 + z2) 2) [(0, .dead), (1, .own (((([] : List api_Mark).flatMap api_Mark.c).drop 0).take (0 * 2) ++ z1))])))) (by kernel_rfl) (appS_t (flat_lenB api_Mark.len) rfl (app_own (l := ([] : List api_Mark)) (xs := s) api_Mark.len rfl rfl rfl hg5 hg6))) (.mu 1 (.done (.nh [2] [.dead, .own (s.flatMap api_Mark.c)] (.ret ?_))))))
  obtain rfl := oi hr
  exact FinMW.ret [.hs 1 0 s.length 2] ((Wk.gc [0] [(1, false)] rfl (pKo api_Mark.c api_Mark.pure s trivial)).to)

theorem slices_SortFunc_fiducial_api_Mark_fiducial_api_Mark_w_of_track_compareMarks_ok (n : Nat) (x' : List api_Mark) (r : List api_Mark) (hr : slices_SortFunc_fiducial_api_Mark_fiducial_api_Mark_w_of_track_compareMarks n x' = some r) : FnMut 1 Try.prog 28 [.hs 0 0 x'.length 2, .fn 75 [] []] [.own (x'.flatMap api_Mark.c)] (.tup []) [.own (r.flatMap api_Mark.c)] := by
 unfold slices_SortFunc_fiducial_api_Mark_fiducial_api_Mark_w_of_track_compareMarks at hr
 obtain ⟨h1, hr⟩ := gd hr
 exact FnMut.sortS (c := api_Mark.c) (caps' := []) (Go.Proofs.Ytndmnfmpbcecaaa.contractSortM (enters_of Try.func75 (by kernel_rfl) rfl)) Go.Proofs.Ytndmnfmpbcecaaa.noneSortM api_Mark.len api_Mark.pure hr (of_decide_eq_true h1) SnL.nil (fun x y r hc => @track_compareMarks_ok ⟨true⟩ n x y r hc)

theorem fiducial_track_chains_find_w_2_ok (n : Nat) (c : List api_Tie) (c' : List (api_Mark × Int)) (c'' : List api_Mark) (c''' : List Int) (c'''' : List Int) (m' : api_Mark) (r : List Int × Int) (hr : fiducial_track_chains_find_w_2 n c c' c'' c''' c'''' m' = some r) : FnMut 1 Try.prog 53 [.hp 0 0, .agg (api_Mark.c m')] [.own [slT api_Tie.c c, .mp 1, slT api_Mark.c c'', .hs 2 0 c'''.length 1, .hs 3 0 c''''.length 1], .map (c'.map (mpK api_Mark_i64.K (iA .i64))), .own (c'''.flatMap (iC .i64)), .own (c''''.flatMap (iC .u64))] (aI64 r.2) [.own [slT api_Tie.c c, .mp 1, slT api_Mark.c c'', .hs 2 0 r.1.length 1, .hs 3 0 c''''.length 1], .map (c'.map (mpK api_Mark_i64.K (iA .i64))), .own (r.1.flatMap (iC .i64)), .own (c''''.flatMap (iC .u64))] := by
 unfold fiducial_track_chains_find_w_2 at hr
 refine FnMut.bodyW G Try.func53 (c := (Try.f53.body).getD .skip) rfl (us := [aI64 r.2]) (s := mkS 48 0 [(0, .hp 0 0), (1, .agg (api_Mark.c m'))]) (by kernel_rfl) (rs := [.tmp 4]) rfl ?_
 unfold Try.f53
 simp only [Option.getD_some]
 refine .seq (.r5 G [0] [(3, .hp 4 0)] [.own [slT api_Tie.c c, .mp 1, slT api_Mark.c c'', .hs 2 0 c'''.length 1, .hs 3 0 c''''.length 1], .map (c'.map (mpK api_Mark_i64.K (iA .i64))), .own (c'''.flatMap (iC .i64)), .own (c''''.flatMap (iC .u64)), .own (api_Mark.c m')] (.seq (.regionT G callOf_nil (.mu 5 (.pure (v := aI64 (getM 0 c' m')) (by kernel_rfl) (Eq.trans (b := ORes.ofP (lookupA Try.prog [.own [slT api_Tie.c c, .mp 1, slT api_Mark.c c'', .hs 2 0 c'''.length 1, .hs 3 0 c''''.length 1], .map (c'.map (mpK api_Mark_i64.K (iA .i64))), .own (c'''.flatMap (iC .i64)), .own (c''''.flatMap (iC .u64)), .own (api_Mark.c m')] 48 (.mp 1) (.agg (api_Mark.c m')) false)) (by kernel_rfl) (look_k (kt := 29) (e := 3) (l := c') (f := (iA .i64)) (z := 0) (K := api_Mark_i64.K) (x := m') api_Mark_i64.key (by kernel_rfl) (by kernel_rfl) (by kernel_rfl) (by kernel_rfl) (by kernel_rfl))) (by kernel_rfl) (.mu 1 ?_))))))
 refine .done ⟨by kernel_rfl, ?_⟩
 refine .nh [0, 5] [.own [slT api_Tie.c c, .mp 1, slT api_Mark.c c'', .hs 2 0 c'''.length 1, .hs 3 0 c''''.length 1], .map (c'.map (mpK api_Mark_i64.K (iA .i64))), .own (c'''.flatMap (iC .i64)), .own (c''''.flatMap (iC .u64)), .own (api_Mark.c m')] (.seq (.block ?_))
 replace hr := bd hr; obtain ⟨o28, hL29, hr⟩ := hr
 refine .loopO (σ := fun z0 => match z0 with | (c_17, k_18) => ⟨mkS 48 0 [(0, .hp 0 0), (5, aI64 k_18)], [.own [slT api_Tie.c c, .mp 1, slT api_Mark.c c'', .hs 2 0 c_17.length 1, .hs 3 0 c''''.length 1], .map (c'.map (mpK api_Mark_i64.K (iA .i64))), .own (c_17.flatMap (iC .i64)), .own (c''''.flatMap (iC .u64))]⟩) (Q := fun x st' => match (generalizing := false) o28 with | (c_22, k_23) => x = .exit 0 ∧ Wk 1 st' ⟨mkS 48 0 [(5, aI64 k_23)], [.own [slT api_Tie.c c, .mp 1, slT api_Mark.c c'', .hs 2 0 c_22.length 1, .hs 3 0 c''''.length 1], .map (c'.map (mpK api_Mark_i64.K (iA .i64))), .own (c_22.flatMap (iC .i64)), .own (c''''.flatMap (iC .u64))]⟩) hL29 ((Wk.gc [0, 5] [(0, true), (1, false), (2, false), (3, false)] rfl (pKt (pKM api_Mark_i64.K (iA .i64) (fun _ => rfl) c' (pKo (iC .i64) (iC_pure _) c''' (pKo (iC .u64) (iC_pure _) c'''' trivial))))).to) ?_ ?_
 ·clear hr
  rintro m ⟨c_17, k_18⟩ hr
  show CQ _ _ _ _ _ ⟨_, _⟩
  refine .seq (.seq ?_)
  obtain ⟨hg25, hr⟩ := gd hr
  refine .r0 G (.mu 5 (.p0 (v := .hp 2 (0 + k_18.toNat * 1)) (tr (ofP_guard hg25)) (.p0 (v := aI64 (gt c_17 k_18)) (tr (ofP_some (flat_get (iC_len .i64) (inR_lt hg25) (by decide : 0 < 1) (by omega : 0 + k_18.toNat * 1 = k_18.toNat * 1 + 0) (by kernel_rfl)))) (.mu 2 (.done (.nh [0, 5, 20] [.own [slT api_Tie.c c, .mp 1, slT api_Mark.c c'', .hs 2 0 c_17.length 1, .hs 3 0 c''''.length 1], .map (c'.map (mpK api_Mark_i64.K (iA .i64))), .own (c_17.flatMap (iC .i64)), .own (c''''.flatMap (iC .u64))] ?_))))))
  refine .cd hr (fun hb26 hr => ?_) (fun hb26 hr => ?_)
  ·refine .skip (.block (.seq ?_))
   obtain ⟨hg27, hr⟩ := gd hr
   refine .regionT G callOf_nil (.mu 14 (.pure (v := .hp 2 (0 + k_18.toNat * 1)) (by kernel_rfl) (tr (ofP_guard hg25)) (by kernel_rfl) (.pure (v := aI64 (gt c_17 k_18)) (by kernel_rfl) (tr (ofP_some (flat_get (iC_len .i64) (inR_lt hg25) (by decide : 0 < 1) (by omega : 0 + k_18.toNat * 1 = k_18.toNat * 1 + 0) (by kernel_rfl)))) (by kernel_rfl) (.pure (v := .hp 2 (0 + (gt c_17 k_18).toNat * 1)) (by kernel_rfl) (tr (ofP_guard hg27)) (by kernel_rfl) (.pure (v := aI64 (gt c_17 (gt c_17 k_18))) (by kernel_rfl) (tr (ofP_some (flat_get (iC_len .i64) (inR_lt hg27) (by decide : 0 < 1) (by omega : 0 + (gt c_17 k_18).toNat * 1 = (gt c_17 k_18).toNat * 1 + 0) (by kernel_rfl)))) (by kernel_rfl) (.pure (v := .hp 2 (0 + k_18.toNat * 1)) (by kernel_rfl) (tr (ofP_guard hg25)) (by kernel_rfl) (.eff (v := .unk) (ws := [(2, .own ((c_17.set k_18.toNat (gt c_17 (gt c_17 k_18))).flatMap (iC .i64)))]) (by kernel_rfl) (tr (stO_t (and_t (flat_fits (n := 1) (iC_len .i64) (inR_lt hg25) (Nat.le_of_ble_eq_true rfl) (by omega : 0 + k_18.toNat * 1 = k_18.toNat * 1 + 0))) (congrArg Blk.own (flat_set (xs := [aI64 (gt c_17 (gt c_17 k_18))]) (iC_len .i64) (inR_lt hg25) (Nat.le_of_ble_eq_true rfl) (by omega : 0 + k_18.toNat * 1 = k_18.toNat * 1 + 0) (by kernel_rfl))))) (by kernel_rfl) ?_)))))))
   refine .done ⟨by kernel_rfl, ?_⟩
   refine .nh [0, 5] [.own [slT api_Tie.c c, .mp 1, slT api_Mark.c c'', .hs 2 0 c_17.length 1, .hs 3 0 c''''.length 1], .map (c'.map (mpK api_Mark_i64.K (iA .i64))), .own ((c_17.set k_18.toNat (gt c_17 (gt c_17 k_18))).flatMap (iC .i64)), .own (c''''.flatMap (iC .u64))] (.r0 G (.mu 5 (.p0 (v := .hp 2 (0 + k_18.toNat * 1)) (tr (ofP_guard hg25)) (.p0 (v := aI64 (gt (c_17.set k_18.toNat (gt c_17 (gt c_17 k_18))) k_18)) (Eq.trans (b := ORes.ofP (((c_17.set k_18.toNat (gt c_17 (gt c_17 k_18))).flatMap (iC .i64))[0 + k_18.toNat * 1]?)) (by kernel_rfl) (ofP_some (flat_get (iC_len _) (inR_lt (inR_set hg25)) (by decide : 0 < 1) (by omega : 0 + k_18.toNat * 1 = k_18.toNat * 1 + 0) (by kernel_rfl)))) (.mu 1 (.done (.pop ?_)))))))
   exact loopF_back (c_17.set k_18.toNat (gt c_17 (gt c_17 k_18)), (gt (c_17.set k_18.toNat (gt c_17 (gt c_17 k_18))) k_18)) hr ((Wk.recell 0 3 (b := 2) (es := 1) (len := c_17.length) (cs := [slT api_Tie.c c, .mp 1, slT api_Mark.c c'', .hs 2 0 c_17.length 1, .hs 3 0 c''''.length 1]) (c_17.set k_18.toNat (gt c_17 (gt c_17 k_18))).length (by kernel_rfl) (by kernel_rfl) (by simp)).trans ((Wk.gc [0, 5] [(0, true), (1, false), (2, false), (3, false)] rfl (pKt (pKM api_Mark_i64.K (iA .i64) (fun _ => rfl) c' (pKo (iC .i64) (iC_pure _) (c_17.set k_18.toNat (gt c_17 (gt c_17 k_18))) (pKo (iC .u64) (iC_pure _) c'''' trivial))))).to))
  ·refine .leave rfl ?_
   obtain rfl := oi hr
   exact ⟨rfl, ((Wk.gc [5] [(0, true), (1, false), (2, false), (3, false)] rfl (pKt (pKM api_Mark_i64.K (iA .i64) (fun _ => rfl) c' (pKo (iC .i64) (iC_pure _) c_17 (pKo (iC .u64) (iC_pure _) c'''' trivial))))).to)⟩
 ·rcases o28 with ⟨c_22, k_23⟩
  rintro x st' hq30
  clear hL29
  obtain ⟨rfl, hq30⟩ := hq30
  refine CQ_exit _ rfl (.wk hq30 (.seq (.r3 G 48 [(4, aI64 k_23)] (.ret ?_))))
  obtain rfl := oi hr
  exact FinMW.ret [aI64 k_23] ((Wk.gc [0] [(0, true), (1, false), (2, false), (3, false)] rfl (pKt (pKM api_Mark_i64.K (iA .i64) (fun _ => rfl) c' (pKo (iC .i64) (iC_pure _) c_22 (pKo (iC .u64) (iC_pure _) c'''' trivial))))).to)

theorem track_Prune_ok (n : Nat) (tracks : List (List api_Mark)) (least : Int) (r : List (List api_Mark)) (hr : track_Prune n tracks least = some r) : FnOk Try.prog 37 [slT (slC api_Mark.c) tracks, aI64 least] (slT (slC api_Mark.c) r) := by
 unfold track_Prune at hr
 refine FnOk.bd G Try.func37 [.tmp 4] ?_
 unfold Try.f37
 simp only [Option.getD_some]
 refine .seq (.r4 G [0, 1] [] (.seq (.r4 G [0, 1] [(5, nS)] (.seq (.seq (.r4 G [1, 5] [(8, slT (slC api_Mark.c) tracks), (9, aI64 (tracks.length : Int)), (10, aI64 0)] (.block ?_)))))))
 replace hr := bd hr; obtain ⟨out_11, hL22, hr⟩ := hr
 refine .loopO (σ := fun z0 => match z0 with | (out_1, x_2) => ⟨mkS 25 0 [(1, aI64 least), (5, .hs 0 0 out_1.length 1), (8, slT (slC api_Mark.c) tracks), (9, aI64 (tracks.length : Int)), (10, aI64 x_2)], [.own (out_1.flatMap (slC api_Mark.c))]⟩) (Q := fun x st' => x = .exit 0 ∧ Wk 0 st' ⟨mkS 25 0 [(5, .hs 0 0 out_11.length 1)], [.own (out_11.flatMap (slC api_Mark.c))]⟩) hL22 ((Wk.nil 5 1 (by kernel_rfl)).trans ((Wk.gc [1, 5, 8, 9, 10] [(0, false)] rfl (pKc trivial)).to)) ?_ ?_
 ·clear hr
  rintro m ⟨out_1, x_2⟩ hr
  show CQ _ _ _ _ _ ⟨_, _⟩
  refine .seq (.r4 G [1, 5, 8, 9, 10] [(11, aB (decide (x_2 < (tracks.length : Int))))] (.seq ?_))
  refine .cd hr (fun hb14 hr => ?_) (fun hb14 hr => ?_)
  ·refine .skip (.seq (.block (.seq ?_)))
   obtain ⟨hg15, hr⟩ := gd hr
   refine .r0 G (.p0 (v := .pp (tracks.flatMap (slC api_Mark.c)) (x_2.toNat * 1)) (tr (ofP_guard hg15)) (.p0 (v := slT api_Mark.c (gt tracks x_2)) (tr (ofP_some (flat_get (slC_len api_Mark.c) (inR_lt hg15) (by decide : 0 < 1) (by omega : x_2.toNat * 1 = x_2.toNat * 1 + 0) (by kernel_rfl)))) (.mu 1 (.done (.nh [1, 5, 7, 8, 9, 10] [.own (out_1.flatMap (slC api_Mark.c))] (.seq (.r4 G [1, 5, 7, 8, 9, 10] [(17, aB (decide (((gt tracks x_2).length : Int) ≥ least)))] ?_)))))))
   refine .cd hr (fun hb16 hr => ?_) (fun hb16 hr => ?_)
   ·obtain ⟨v17, hc18, hr⟩ := bd hr
    obtain ⟨hg19, hg20, hr⟩ := gd2 hr
    refine .g1 G (ok0 (slices_Clone_fiducial_api_Mark_fiducial_api_Mark_ok n (gt tracks x_2) v17 hc18)) (.mu 2 (.ca cf0 (.mu 1 (.e0 (v := .hs 2 0 (out_1 ++ [v17]).length 1) (ws := [(0, .dead), (2, .own ((out_1 ++ [v17]).flatMap (slC api_Mark.c)))]) (tr (app_own (new := [slT api_Mark.c v17]) (l := out_1) (xs := [v17]) (slC_len api_Mark.c) rfl rfl (by kernel_rfl) hg19 hg20)) (.mu 1 (.done (.pop (.ru G ?_))))))))
    exact loopF_back (out_1 ++ [v17], wrapF .i64 (x_2 + 1)) hr ((Wk.gc [1, 5, 8, 9, 10] [(2, false)] rfl (pKo (slC api_Mark.c) (slC_pure _) (out_1 ++ [v17]) trivial)).to)
   ·refine .skip (.pop (.ru G ?_))
    exact loopF_back (out_1, wrapF .i64 (x_2 + 1)) hr ((Wk.gc [1, 5, 8, 9, 10] [(0, false)] rfl (pKo (slC api_Mark.c) (slC_pure _) out_1 trivial)).to)
  ·refine .leave rfl ?_
   obtain rfl := oi hr
   exact ⟨rfl, ((Wk.gc [5] [(0, false)] rfl (pKo (slC api_Mark.c) (slC_pure _) out_1 trivial)).to)⟩
 ·rintro x st' hq23
  clear hL22
  obtain ⟨rfl, hq23⟩ := hq23
  refine CQ_exit _ rfl (.wk hq23 (.seq (.r3 G 25 [(4, .hs 0 0 out_11.length 1)] (.ret ?_))))
  obtain rfl := oi hr
  exact FinQ.ret (vs := [.hs 0 0 out_11.length 1]) (by kernel_rfl) (Sn.hs rfl (.inl rfl) (SnC.pure (ids_flat (slC_pure _) _)) (fun h => flat_nil0 h))

theorem fiducial_track_chains_tracks_w_ok (n : Nat) (c : List api_Tie) (c' : List (api_Mark × Int)) (c'' : List api_Mark) (c''' : List Int) (c'''' : List Int) (r : List Int × List (List api_Mark)) (hr : fiducial_track_chains_tracks_w n c c' c'' c''' c'''' = some r) : FnMut 1 Try.prog 49 [.hp 0 0] [.own [slT api_Tie.c c, .mp 1, .hs 2 0 c''.length 2, .hs 3 0 c'''.length 1, .hs 4 0 c''''.length 1], .map (c'.map (mpK api_Mark_i64.K (iA .i64))), .own (c''.flatMap api_Mark.c), .own (c'''.flatMap (iC .i64)), .own (c''''.flatMap (iC .u64))] (slT (slC api_Mark.c) r.2) [.own [slT api_Tie.c c, .mp 1, slT api_Mark.c c'', .hs 2 0 r.1.length 1, .hs 3 0 c''''.length 1], .map (c'.map (mpK api_Mark_i64.K (iA .i64))), .own (r.1.flatMap (iC .i64)), .own (c''''.flatMap (iC .u64))] := by
 unfold fiducial_track_chains_tracks_w at hr
 refine FnMut.bodyW G Try.func49 (c := (Try.f49.body).getD .skip) rfl (us := [slT (slC api_Mark.c) r.2]) (s := mkS 57 0 [(0, .hp 0 0)]) (by kernel_rfl) (rs := [.tmp 2]) rfl ?_
 unfold Try.f49
 simp only [Option.getD_some]
 refine .seq (.r4 G [0] [] (.seq (.wk (((Wk.fix 2 (cs := (c''.flatMap api_Mark.c)) (by kernel_rfl)).trans (Wk.purcell 0 2 (b := 2) (len := c''.length) (es := 2) (cs := (c''.flatMap api_Mark.c)) (cs' := [slT api_Tie.c c, .mp 1, .hs 2 0 c''.length 2, .hs 3 0 c'''.length 1, .hs 4 0 c''''.length 1]) (by kernel_rfl) (by kernel_rfl) (by kernel_rfl) (ids_flat api_Mark.pure _) (fun h => flat_nil0 h))).to (c := ⟨mkS 57 0 [(0, .hp 0 0)], [.own [slT api_Tie.c c, .mp 1, slT api_Mark.c c'', .hs 3 0 c'''.length 1, .hs 4 0 c''''.length 1], .map (c'.map (mpK api_Mark_i64.K (iA .i64))), .fix (c''.flatMap api_Mark.c), .own (c'''.flatMap (iC .i64)), .own (c''''.flatMap (iC .u64))]⟩) (by kernel_rfl)) ?_)))
 obtain ⟨v46, hc47, hr⟩ := bd hr
 refine .g1 G (callOk_mutU (args := [slT api_Mark.c c'']) 0 1 [] [false] (slices_Clone_fiducial_api_Mark_fiducial_api_Mark_w_2_ok n c'' v46 hc47) trivial (by exact ⟨ids_flat api_Mark.pure _, trivial⟩) rfl rfl (by kernel_rfl) (by kernel_rfl)) (.mu 4 (.ca cf0 (.mu 1 (.done (.nh [0, 3] [.own [slT api_Tie.c c, .mp 1, slT api_Mark.c c'', .hs 3 0 c'''.length 1, .hs 4 0 c''''.length 1], .map (c'.map (mpK api_Mark_i64.K (iA .i64))), .fix (c''.flatMap api_Mark.c), .own (c'''.flatMap (iC .i64)), .own (c''''.flatMap (iC .u64)), .own (v46.flatMap api_Mark.c)] (.seq ?_))))))
 obtain ⟨v48, hc49, hr⟩ := bd hr
 obtain ⟨hg50, hr⟩ := gd hr
 refine .g1 G (callOk_mutU (args := [.hs 5 0 v46.length 2, .fn 75 [] []]) 1 0 [(5, false)] [false] (slices_SortFunc_fiducial_api_Mark_fiducial_api_Mark_w_of_track_compareMarks_ok n v46 v48 hc49) (by exact ⟨ids_flat api_Mark.pure _, trivial⟩) (by exact ⟨ids_flat api_Mark.pure _, trivial⟩) rfl rfl (by kernel_rfl) (by kernel_rfl)) (.mu 1 (.ca cf0 (.done (.nh [0, 3] [.own [slT api_Tie.c c, .mp 1, slT api_Mark.c c'', .hs 3 0 c'''.length 1, .hs 4 0 c''''.length 1], .map (c'.map (mpK api_Mark_i64.K (iA .i64))), .fix (c''.flatMap api_Mark.c), .own (c'''.flatMap (iC .i64)), .own (c''''.flatMap (iC .u64)), .own (v48.flatMap api_Mark.c)] (.seq (.r5 G [0, 3] [(4, .mp 6)] [.own [slT api_Tie.c c, .mp 1, slT api_Mark.c c'', .hs 3 0 c'''.length 1, .hs 4 0 c''''.length 1], .map (c'.map (mpK api_Mark_i64.K (iA .i64))), .fix (c''.flatMap api_Mark.c), .own (c'''.flatMap (iC .i64)), .own (c''''.flatMap (iC .u64)), .own (v48.flatMap api_Mark.c), .map (([] : List (Int × Int)).map (mpc .i64 (iA .i64)))] (.seq (.r4 G [0, 3, 4] [(5, nS)] (.seq (.seq (.r4 G [0, 4, 5] [(19, .hs 5 0 v46.length 2), (20, aI64 (v46.length : Int)), (21, aI64 0)] (.block ?_))))))))))))
 replace hr := bd hr; obtain ⟨o84, hL85, hr⟩ := hr
 refine .loopO (σ := fun z0 => match z0 with | (c_51, at_52, all_53, x_54) => ⟨mkS 57 0 [(0, .hp 0 0), (4, .mp 4), (5, .hs 5 0 all_53.length 1), (19, .hs 6 0 v48.length 2), (20, aI64 (v46.length : Int)), (21, aI64 x_54)], [.own [slT api_Tie.c c, .mp 1, slT api_Mark.c c'', .hs 2 0 c_51.length 1, .hs 3 0 c''''.length 1], .map (c'.map (mpK api_Mark_i64.K (iA .i64))), .own (c_51.flatMap (iC .i64)), .own (c''''.flatMap (iC .u64)), .map (at_52.map (mpc .i64 (iA .i64))), .rows (rws 2 api_Mark.c all_53), .own (v48.flatMap api_Mark.c)]⟩) (Q := fun x st' => match (generalizing := false) o84 with | (c_68, all_69) => x = .exit 0 ∧ Wk 1 st' ⟨mkS 57 0 [(5, .hs 4 0 all_69.length 1)], [.own [slT api_Tie.c c, .mp 1, slT api_Mark.c c'', .hs 2 0 c_68.length 1, .hs 3 0 c''''.length 1], .map (c'.map (mpK api_Mark_i64.K (iA .i64))), .own (c_68.flatMap (iC .i64)), .own (c''''.flatMap (iC .u64)), .rows (rws 2 api_Mark.c all_69)]⟩) hL85 ((Wk.nil 5 1 (by kernel_rfl)).trans ((Wk.mkT 7 (n := 0) 2 api_Mark.c).trans ((Wk.relen 19 (b := 5) (es := 2) (len := v46.length) v48.length (by kernel_rfl) (Eq.symm (of_decide_eq_true hg50))).trans ((Wk.gc [0, 4, 5, 19, 20, 21] [(0, true), (1, false), (3, false), (4, false), (6, false), (7, false), (5, false)] rfl (pKt (pKM api_Mark_i64.K (iA .i64) (fun _ => rfl) c' (pKo (iC .i64) (iC_pure _) c''' (pKo (iC .u64) (iC_pure _) c'''' (pKm (k := .i64) (iA .i64) (fun _ => rfl) ([] : List (Int × Int)) (pKc (pKo api_Mark.c api_Mark.pure v48 trivial)))))))).to)))) ?_ ?_
 ·clear hr
  rintro m ⟨c_51, at_52, all_53, x_54⟩ hr
  show CQ _ _ _ _ _ ⟨_, _⟩
  refine .seq (.r4 G [0, 4, 5, 19, 20, 21] [(22, aB (decide (x_54 < (v46.length : Int))))] (.seq ?_))
  refine .cd hr (fun hb71 hr => ?_) (fun hb71 hr => ?_)
  ·refine .skip (.seq (.block (.seq ?_)))
   obtain ⟨hg72, hr⟩ := gd hr
   refine .r0 G (.p0 (v := .hp 6 (0 + x_54.toNat * 2)) (tr (ofP_guard hg72)) (.p0 (v := .agg (api_Mark.c (gt v48 x_54))) (Eq.trans (b := ORes.ofP (guardV (decide (2 ≤ ((v48.flatMap api_Mark.c).drop (0 + x_54.toNat * 2)).length)) (.agg (((v48.flatMap api_Mark.c).drop (0 + x_54.toNat * 2)).take 2)))) (by kernel_rfl) (flat_load api_Mark.len (inR_lt hg72) (by decide) (by omega : 0 + x_54.toNat * 2 = x_54.toNat * 2 + 0) (by kernel_rfl))) (.mu 2 (.done (.nh [0, 4, 5, 7, 19, 20, 21] [.own [slT api_Tie.c c, .mp 1, slT api_Mark.c c'', .hs 2 0 c_51.length 1, .hs 3 0 c''''.length 1], .map (c'.map (mpK api_Mark_i64.K (iA .i64))), .own (c_51.flatMap (iC .i64)), .own (c''''.flatMap (iC .u64)), .map (at_52.map (mpc .i64 (iA .i64))), .rows (rws 2 api_Mark.c all_53), .own (v48.flatMap api_Mark.c), .own (api_Mark.c (gt v48 x_54))] (.seq ?_))))))
   obtain ⟨v73, hc74, hr⟩ := bd hr
   refine .g1 G (callOk_mutU (args := [.hp 0 0, .agg (api_Mark.c (gt v48 x_54))]) 1 3 [(0, true), (1, false), (2, false), (3, false)] [true, false, false, false] (fiducial_track_chains_find_w_2_ok n c c' c'' c_51 c'''' (gt v48 x_54) v73 hc74) (by exact ⟨ids_mpK (fun _ => rfl) _, ⟨ids_flat (iC_pure _) _, ⟨ids_flat (iC_pure _) _, trivial⟩⟩⟩) (by exact ⟨ids_mpK (fun _ => rfl) _, ⟨ids_flat (iC_pure _) _, ⟨ids_flat (iC_pure _) _, trivial⟩⟩⟩) rfl rfl (by kernel_rfl) (by kernel_rfl)) (.mu 2 (.ca cf0 (.mu 1 (.done (.nh [0, 4, 5, 7, 8, 19, 20, 21] [.own [slT api_Tie.c c, .mp 8, slT api_Mark.c c'', .hs 9 0 v73.1.length 1, .hs 10 0 c''''.length 1], .dead, .dead, .dead, .map (at_52.map (mpc .i64 (iA .i64))), .rows (rws 2 api_Mark.c all_53), .own (v48.flatMap api_Mark.c), .own (api_Mark.c (gt v48 x_54)), .map (c'.map (mpK api_Mark_i64.K (iA .i64))), .own (v73.1.flatMap (iC .i64)), .own (c''''.flatMap (iC .u64))] (.seq (.r0 G (.mu 2 (.p0 (v := .tup [aI64 (getM 0 at_52 v73.2), aB (hasM at_52 v73.2)]) (Eq.trans (b := ORes.ofP (lookupA Try.prog [.own [slT api_Tie.c c, .mp 8, slT api_Mark.c c'', .hs 9 0 v73.1.length 1, .hs 10 0 c''''.length 1], .dead, .dead, .dead, .map (at_52.map (mpc .i64 (iA .i64))), .rows (rws 2 api_Mark.c all_53), .own (v48.flatMap api_Mark.c), .own (api_Mark.c (gt v48 x_54)), .map (c'.map (mpK api_Mark_i64.K (iA .i64))), .own (v73.1.flatMap (iC .i64)), .own (c''''.flatMap (iC .u64))] 103 (.mp 4) (aI64 v73.2) true)) (by kernel_rfl) (look_m2 (kt := 3) (e := 3) (l := at_52) (f := (iA .i64)) (z := 0) (by kernel_rfl) (by kernel_rfl) (by kernel_rfl) (by kernel_rfl))) (.mu 5 (.done (.nh [0, 4, 5, 7, 8, 9, 10, 19, 20, 21] [.own [slT api_Tie.c c, .mp 8, slT api_Mark.c c'', .hs 9 0 v73.1.length 1, .hs 10 0 c''''.length 1], .dead, .dead, .dead, .map (at_52.map (mpc .i64 (iA .i64))), .rows (rws 2 api_Mark.c all_53), .own (v48.flatMap api_Mark.c), .own (api_Mark.c (gt v48 x_54)), .map (c'.map (mpK api_Mark_i64.K (iA .i64))), .own (v73.1.flatMap (iC .i64)), .own (c''''.flatMap (iC .u64))] (.seq (.seq (.r4 G [0, 4, 5, 7, 8, 9, 19, 20, 21] [(35, aB (!(hasM at_52 v73.2)))] ?_)))))))))))))))
   refine .cd hr (fun hb75 hr => ?_) (fun hb75 hr => ?_)
   ·refine .seq (.r4 G [0, 4, 5, 7, 8, 19, 20, 21] [(9, aI64 (all_53.length : Int))] (.seq (.r0 G (.mu 3 (.e0 (v := .unk) (ws := [(4, .map ((putM at_52 v73.2 (all_53.length : Int)).map (mpc .i64 (iA .i64))))]) (Eq.trans (b := opUpdate Try.prog [.own [slT api_Tie.c c, .mp 8, slT api_Mark.c c'', .hs 9 0 v73.1.length 1, .hs 10 0 c''''.length 1], .dead, .dead, .dead, .map (at_52.map (mpc .i64 (iA .i64))), .rows (rws 2 api_Mark.c all_53), .own (v48.flatMap api_Mark.c), .own (api_Mark.c (gt v48 x_54)), .map (c'.map (mpK api_Mark_i64.K (iA .i64))), .own (v73.1.flatMap (iC .i64)), .own (c''''.flatMap (iC .u64))] 103 (.mp 4) (aI64 v73.2) (aI64 (all_53.length : Int))) (by kernel_rfl) (put_m (kt := 3) (e := 3) (l := at_52) (f := (iA .i64)) (v := (all_53.length : Int)) (by kernel_rfl) (by kernel_rfl) (by kernel_rfl))) (.done (.nh [0, 4, 5, 7, 9, 19, 20, 21] [.own [slT api_Tie.c c, .mp 8, slT api_Mark.c c'', .hs 9 0 v73.1.length 1, .hs 10 0 c''''.length 1], .dead, .dead, .dead, .map ((putM at_52 v73.2 (all_53.length : Int)).map (mpc .i64 (iA .i64))), .rows (rws 2 api_Mark.c all_53), .own (v48.flatMap api_Mark.c), .own (api_Mark.c (gt v48 x_54)), .map (c'.map (mpK api_Mark_i64.K (iA .i64))), .own (v73.1.flatMap (iC .i64)), .own (c''''.flatMap (iC .u64))] ?_)))))))
    obtain ⟨hg76, hg77, hr⟩ := gd2 hr
    refine .r0 G (.mu 2 (.e0 (v := .hs 12 0 (all_53.length + 1) 1) (ws := [(5, .dead), (12, .rows (rws 2 api_Mark.c all_53 ++ [.av (nS)]))]) (Eq.trans (b := guardO (decide (all_53.length ≤ (rws 2 api_Mark.c all_53).length) && decide ((all_53.length + 1) * 24 ≤ 140737488355328) && decide (all_53.length + 1 ≤ 4611686018427387904) && true) (some (.eff (.hs 12 0 (all_53.length + 1) 1) [(5, .dead), (12, .rows ((rws 2 api_Mark.c all_53).take all_53.length ++ [.av (nS)]))]))) (by kernel_rfl) (rap rfl hg76 hg77)) (.mu 1 (.done (.nh [0, 4, 5, 7, 9, 19, 20, 21] [.own [slT api_Tie.c c, .mp 8, slT api_Mark.c c'', .hs 9 0 v73.1.length 1, .hs 10 0 c''''.length 1], .dead, .dead, .dead, .map ((putM at_52 v73.2 (all_53.length : Int)).map (mpc .i64 (iA .i64))), .dead, .own (v48.flatMap api_Mark.c), .own (api_Mark.c (gt v48 x_54)), .map (c'.map (mpK api_Mark_i64.K (iA .i64))), .own (v73.1.flatMap (iC .i64)), .own (c''''.flatMap (iC .u64)), .own [nS], .rows (rws 2 api_Mark.c all_53 ++ [.av (nS)])] (.wk ((Wk.nilA 12 (es := 2) (c := api_Mark.c) (e := all_53)).to (c := ⟨mkS 57 0 [(0, .hp 0 0), (4, .mp 4), (5, .hs 12 0 (all_53.length + 1) 1), (7, .hp 7 0), (9, aI64 (all_53.length : Int)), (19, .hs 6 0 v48.length 2), (20, aI64 (v46.length : Int)), (21, aI64 x_54)], [.own [slT api_Tie.c c, .mp 8, slT api_Mark.c c'', .hs 9 0 v73.1.length 1, .hs 10 0 c''''.length 1], .dead, .dead, .dead, .map ((putM at_52 v73.2 (all_53.length : Int)).map (mpc .i64 (iA .i64))), .dead, .own (v48.flatMap api_Mark.c), .own (api_Mark.c (gt v48 x_54)), .map (c'.map (mpK api_Mark_i64.K (iA .i64))), .own (v73.1.flatMap (iC .i64)), .own (c''''.flatMap (iC .u64)), .own [nS], .rows (rws 2 api_Mark.c (all_53 ++ [([] : List api_Mark)]))]⟩) (by kernel_rfl)) (.wk ((Wk.relen 5 (b := 12) (es := 1) (len := (all_53.length + 1)) (all_53 ++ [([] : List api_Mark)]).length (by kernel_rfl) (by simp)).to (c := ⟨mkS 57 0 [(0, .hp 0 0), (4, .mp 4), (5, .hs 12 0 (all_53 ++ [([] : List api_Mark)]).length 1), (7, .hp 7 0), (9, aI64 (all_53.length : Int)), (19, .hs 6 0 v48.length 2), (20, aI64 (v46.length : Int)), (21, aI64 x_54)], [.own [slT api_Tie.c c, .mp 8, slT api_Mark.c c'', .hs 9 0 v73.1.length 1, .hs 10 0 c''''.length 1], .dead, .dead, .dead, .map ((putM at_52 v73.2 (all_53.length : Int)).map (mpc .i64 (iA .i64))), .dead, .own (v48.flatMap api_Mark.c), .own (api_Mark.c (gt v48 x_54)), .map (c'.map (mpK api_Mark_i64.K (iA .i64))), .own (v73.1.flatMap (iC .i64)), .own (c''''.flatMap (iC .u64)), .own [nS], .rows (rws 2 api_Mark.c (all_53 ++ [([] : List api_Mark)]))]⟩) (by kernel_rfl)) ?_)))))))
    obtain ⟨hg78, hr⟩ := gd hr
    refine .wk ((Wk.openT 12 (es := 2) (c := api_Mark.c) (e := all_53 ++ [([] : List api_Mark)]) hg78).to (c := ⟨mkS 57 0 [(0, .hp 0 0), (4, .mp 4), (5, .hs 12 0 (all_53 ++ [([] : List api_Mark)]).length 1), (7, .hp 7 0), (9, aI64 (all_53.length : Int)), (19, .hs 6 0 v48.length 2), (20, aI64 (v46.length : Int)), (21, aI64 x_54)], [.own [slT api_Tie.c c, .mp 8, slT api_Mark.c c'', .hs 9 0 v73.1.length 1, .hs 10 0 c''''.length 1], .dead, .dead, .dead, .map ((putM at_52 v73.2 (all_53.length : Int)).map (mpc .i64 (iA .i64))), .dead, .own (v48.flatMap api_Mark.c), .own (api_Mark.c (gt v48 x_54)), .map (c'.map (mpK api_Mark_i64.K (iA .i64))), .own (v73.1.flatMap (iC .i64)), .own (c''''.flatMap (iC .u64)), .own [nS], .rows ((rws 2 api_Mark.c (all_53 ++ [([] : List api_Mark)])).set (all_53.length : Int).toNat (.av (.hs 13 0 (gt (all_53 ++ [([] : List api_Mark)]) (all_53.length : Int)).length 2))), .own ((gt (all_53 ++ [([] : List api_Mark)]) (all_53.length : Int)).flatMap api_Mark.c)]⟩) (by kernel_rfl)) ?_
    obtain ⟨hg79, hg80, hr⟩ := gd2 hr
    refine .regionT G callOf_nil (.mu 4 (.pure (v := .hp 12 (0 + (all_53.length : Int).toNat * 1)) (by kernel_rfl) (tr (ofP_guard hg78)) (by kernel_rfl) (.pure (v := .hs 13 0 (gt (all_53 ++ [([] : List api_Mark)]) (all_53.length : Int)).length 2) (by kernel_rfl) (Eq.trans (b := ORes.ofP (rcAt ((rws 2 api_Mark.c (all_53 ++ [([] : List api_Mark)])).set (all_53.length : Int).toNat (.av (.hs 13 0 (gt (all_53 ++ [([] : List api_Mark)]) (all_53.length : Int)).length 2)))[0 + (all_53.length : Int).toNat * 1]?)) (by kernel_rfl) (rld hg78 (by omega))) (by kernel_rfl) (.mu 2 (.eff (v := .hs 15 0 ((gt (all_53 ++ [([] : List api_Mark)]) (all_53.length : Int)) ++ [(gt v48 x_54)]).length 2) (ws := [(13, .dead), (15, .own (((gt (all_53 ++ [([] : List api_Mark)]) (all_53.length : Int)) ++ [(gt v48 x_54)]).flatMap api_Mark.c))]) (by kernel_rfl) (tr (app_own (new := (api_Mark.c (gt v48 x_54))) (l := gt (all_53 ++ [([] : List api_Mark)]) (all_53.length : Int)) (xs := [(gt v48 x_54)]) api_Mark.len rfl rfl (by kernel_rfl) hg79 hg80)) (by kernel_rfl) (.pure (v := .hp 12 (0 + (all_53.length : Int).toNat * 1)) (by kernel_rfl) (tr (ofP_guard hg78)) (by kernel_rfl) (.eff (v := .unk) (ws := [(12, .rows ((rws 2 api_Mark.c (all_53 ++ [([] : List api_Mark)])).set (all_53.length : Int).toNat (.av (.hs 15 0 ((gt (all_53 ++ [([] : List api_Mark)]) (all_53.length : Int)) ++ [(gt v48 x_54)]).length 2))))]) (by kernel_rfl) (Eq.trans (b := stO (decide (0 + (all_53.length : Int).toNat * 1 < ((rws 2 api_Mark.c (all_53 ++ [([] : List api_Mark)])).set (all_53.length : Int).toNat (.av (.hs 13 0 (gt (all_53 ++ [([] : List api_Mark)]) (all_53.length : Int)).length 2))).length) && true) [(12, .rows (((rws 2 api_Mark.c (all_53 ++ [([] : List api_Mark)])).set (all_53.length : Int).toNat (.av (.hs 13 0 (gt (all_53 ++ [([] : List api_Mark)]) (all_53.length : Int)).length 2))).set (0 + (all_53.length : Int).toNat * 1) (.av (.hs 15 0 ((gt (all_53 ++ [([] : List api_Mark)]) (all_53.length : Int)) ++ [(gt v48 x_54)]).length 2))))]) (by kernel_rfl) (rst hg78 (by omega))) (by kernel_rfl) ?_)))))))
    refine .done ⟨by kernel_rfl, ?_⟩
    refine .pop (.ru G ?_)
    exact loopF_back (v73.1, putM at_52 v73.2 (all_53.length : Int), (all_53 ++ [([] : List api_Mark)]).set (all_53.length : Int).toNat ((gt (all_53 ++ [([] : List api_Mark)]) (all_53.length : Int)) ++ [(gt v48 x_54)]), wrapF .i64 (x_54 + 1)) hr ((Wk.closeT 12 15 (x := (gt (all_53 ++ [([] : List api_Mark)]) (all_53.length : Int)) ++ [(gt v48 x_54)]) (es := 2) (c := api_Mark.c) (e := all_53 ++ [([] : List api_Mark)]) (i := (all_53.length : Int)) (len := ((gt (all_53 ++ [([] : List api_Mark)]) (all_53.length : Int)) ++ [(gt v48 x_54)]).length) api_Mark.pure hg78 rfl).trans ((Wk.relen 5 (b := 12) (es := 1) (len := (all_53 ++ [([] : List api_Mark)]).length) ((all_53 ++ [([] : List api_Mark)]).set (all_53.length : Int).toNat ((gt (all_53 ++ [([] : List api_Mark)]) (all_53.length : Int)) ++ [(gt v48 x_54)])).length (by kernel_rfl) (Eq.symm (List.length_set.trans rfl))).trans ((Wk.gc [0, 4, 5, 19, 20, 21] [(0, true), (8, false), (9, false), (10, false), (4, false), (12, false), (6, false)] rfl (pKt (pKM api_Mark_i64.K (iA .i64) (fun _ => rfl) c' (pKo (iC .i64) (iC_pure _) v73.1 (pKo (iC .u64) (iC_pure _) c'''' (pKm (k := .i64) (iA .i64) (fun _ => rfl) (putM at_52 v73.2 (all_53.length : Int)) (pKr 2 api_Mark.c ((all_53 ++ [([] : List api_Mark)]).set (all_53.length : Int).toNat ((gt (all_53 ++ [([] : List api_Mark)]) (all_53.length : Int)) ++ [(gt v48 x_54)])) (pKo api_Mark.c api_Mark.pure v48 trivial)))))))).to)))
   ·refine .skip ?_
    obtain ⟨hg81, hr⟩ := gd hr
    refine .wk ((Wk.openT 5 (es := 2) (c := api_Mark.c) (e := all_53) hg81).to (c := ⟨mkS 57 0 [(0, .hp 0 0), (4, .mp 4), (5, .hs 5 0 all_53.length 1), (7, .hp 7 0), (8, aI64 v73.2), (9, aI64 (getM 0 at_52 v73.2)), (19, .hs 6 0 v48.length 2), (20, aI64 (v46.length : Int)), (21, aI64 x_54), (35, aB (!(hasM at_52 v73.2)))], [.own [slT api_Tie.c c, .mp 8, slT api_Mark.c c'', .hs 9 0 v73.1.length 1, .hs 10 0 c''''.length 1], .dead, .dead, .dead, .map (at_52.map (mpc .i64 (iA .i64))), .rows ((rws 2 api_Mark.c all_53).set (getM 0 at_52 v73.2).toNat (.av (.hs 11 0 (gt all_53 (getM 0 at_52 v73.2)).length 2))), .own (v48.flatMap api_Mark.c), .own (api_Mark.c (gt v48 x_54)), .map (c'.map (mpK api_Mark_i64.K (iA .i64))), .own (v73.1.flatMap (iC .i64)), .own (c''''.flatMap (iC .u64)), .own ((gt all_53 (getM 0 at_52 v73.2)).flatMap api_Mark.c)]⟩) (by kernel_rfl)) ?_
    obtain ⟨hg82, hg83, hr⟩ := gd2 hr
    refine .regionT G callOf_nil (.mu 4 (.pure (v := .hp 5 (0 + (getM 0 at_52 v73.2).toNat * 1)) (by kernel_rfl) (tr (ofP_guard hg81)) (by kernel_rfl) (.pure (v := .hs 11 0 (gt all_53 (getM 0 at_52 v73.2)).length 2) (by kernel_rfl) (Eq.trans (b := ORes.ofP (rcAt ((rws 2 api_Mark.c all_53).set (getM 0 at_52 v73.2).toNat (.av (.hs 11 0 (gt all_53 (getM 0 at_52 v73.2)).length 2)))[0 + (getM 0 at_52 v73.2).toNat * 1]?)) (by kernel_rfl) (rld hg81 (by omega))) (by kernel_rfl) (.mu 2 (.eff (v := .hs 13 0 ((gt all_53 (getM 0 at_52 v73.2)) ++ [(gt v48 x_54)]).length 2) (ws := [(11, .dead), (13, .own (((gt all_53 (getM 0 at_52 v73.2)) ++ [(gt v48 x_54)]).flatMap api_Mark.c))]) (by kernel_rfl) (tr (app_own (new := (api_Mark.c (gt v48 x_54))) (l := gt all_53 (getM 0 at_52 v73.2)) (xs := [(gt v48 x_54)]) api_Mark.len rfl rfl (by kernel_rfl) hg82 hg83)) (by kernel_rfl) (.pure (v := .hp 5 (0 + (getM 0 at_52 v73.2).toNat * 1)) (by kernel_rfl) (tr (ofP_guard hg81)) (by kernel_rfl) (.eff (v := .unk) (ws := [(5, .rows ((rws 2 api_Mark.c all_53).set (getM 0 at_52 v73.2).toNat (.av (.hs 13 0 ((gt all_53 (getM 0 at_52 v73.2)) ++ [(gt v48 x_54)]).length 2))))]) (by kernel_rfl) (Eq.trans (b := stO (decide (0 + (getM 0 at_52 v73.2).toNat * 1 < ((rws 2 api_Mark.c all_53).set (getM 0 at_52 v73.2).toNat (.av (.hs 11 0 (gt all_53 (getM 0 at_52 v73.2)).length 2))).length) && true) [(5, .rows (((rws 2 api_Mark.c all_53).set (getM 0 at_52 v73.2).toNat (.av (.hs 11 0 (gt all_53 (getM 0 at_52 v73.2)).length 2))).set (0 + (getM 0 at_52 v73.2).toNat * 1) (.av (.hs 13 0 ((gt all_53 (getM 0 at_52 v73.2)) ++ [(gt v48 x_54)]).length 2))))]) (by kernel_rfl) (rst hg81 (by omega))) (by kernel_rfl) ?_)))))))
    refine .done ⟨by kernel_rfl, ?_⟩
    refine .pop (.ru G ?_)
    exact loopF_back (v73.1, at_52, all_53.set (getM 0 at_52 v73.2).toNat ((gt all_53 (getM 0 at_52 v73.2)) ++ [(gt v48 x_54)]), wrapF .i64 (x_54 + 1)) hr ((Wk.closeT 5 13 (x := (gt all_53 (getM 0 at_52 v73.2)) ++ [(gt v48 x_54)]) (es := 2) (c := api_Mark.c) (e := all_53) (i := (getM 0 at_52 v73.2)) (len := ((gt all_53 (getM 0 at_52 v73.2)) ++ [(gt v48 x_54)]).length) api_Mark.pure hg81 rfl).trans ((Wk.relen 5 (b := 5) (es := 1) (len := all_53.length) (all_53.set (getM 0 at_52 v73.2).toNat ((gt all_53 (getM 0 at_52 v73.2)) ++ [(gt v48 x_54)])).length (by kernel_rfl) (Eq.symm (List.length_set.trans rfl))).trans ((Wk.gc [0, 4, 5, 19, 20, 21] [(0, true), (8, false), (9, false), (10, false), (4, false), (5, false), (6, false)] rfl (pKt (pKM api_Mark_i64.K (iA .i64) (fun _ => rfl) c' (pKo (iC .i64) (iC_pure _) v73.1 (pKo (iC .u64) (iC_pure _) c'''' (pKm (k := .i64) (iA .i64) (fun _ => rfl) at_52 (pKr 2 api_Mark.c (all_53.set (getM 0 at_52 v73.2).toNat ((gt all_53 (getM 0 at_52 v73.2)) ++ [(gt v48 x_54)])) (pKo api_Mark.c api_Mark.pure v48 trivial)))))))).to)))
  ·refine .leave rfl ?_
   obtain rfl := oi hr
   exact ⟨rfl, ((Wk.gc [5] [(0, true), (1, false), (2, false), (3, false), (5, false)] rfl (pKt (pKM api_Mark_i64.K (iA .i64) (fun _ => rfl) c' (pKo (iC .i64) (iC_pure _) c_51 (pKo (iC .u64) (iC_pure _) c'''' (pKr 2 api_Mark.c all_53 trivial)))))).to)⟩
 ·rcases o84 with ⟨c_68, all_69⟩
  rintro x st' hq86
  clear hL85
  obtain ⟨rfl, hq86⟩ := hq86
  refine CQ_exit _ rfl (.wk hq86 (.seq (.wk ((Wk.fixT 4 (es := 2) (c := api_Mark.c) (e := all_69)).to (c := ⟨mkS 57 0 [(5, .hs 4 0 all_69.length 1)], [.own [slT api_Tie.c c, .mp 1, slT api_Mark.c c'', .hs 2 0 c_68.length 1, .hs 3 0 c''''.length 1], .map (c'.map (mpK api_Mark_i64.K (iA .i64))), .own (c_68.flatMap (iC .i64)), .own (c''''.flatMap (iC .u64)), .fix (all_69.flatMap (slC api_Mark.c))]⟩) (by kernel_rfl)) ?_)))
  obtain ⟨v87, hc88, hr⟩ := bd hr
  refine .g1 G (callOk_ref (args := [.hs 4 0 all_69.length 1, aI64 2]) (l := [4]) (SnL.cons (Sn.hs rfl (.inr rfl) (SnC.pure (ids_flat (slC_pure _) _)) (fun h => flat_nil0 h)) (SnL.cons (Sn.pure rfl) SnL.nil)) (track_Prune_ok n all_69 2 v87 hc88)) (.mu 1 (.ca cf0 (.mu 1 (.done (.nh [2] [.own [slT api_Tie.c c, .mp 1, slT api_Mark.c c'', .hs 2 0 c_68.length 1, .hs 3 0 c''''.length 1], .map (c'.map (mpK api_Mark_i64.K (iA .i64))), .own (c_68.flatMap (iC .i64)), .own (c''''.flatMap (iC .u64)), .fix (all_69.flatMap (slC api_Mark.c))] (.ret ?_))))))
  obtain rfl := oi hr
  exact FinMW.ret [slT (slC api_Mark.c) v87] ((Wk.gc [0] [(0, true), (1, false), (2, false), (3, false)] rfl (pKt (pKM api_Mark_i64.K (iA .i64) (fun _ => rfl) c' (pKo (iC .i64) (iC_pure _) c_68 (pKo (iC .u64) (iC_pure _) c'''' trivial))))).to)

theorem track_Chain_ok (n : Nat) (ties : List api_Tie) (r : List (List api_Mark) × Int) (hr : track_Chain n ties = some r) : FnOk Try.prog 16 [slT api_Tie.c ties] (.tup [slT (slC api_Mark.c) r.1, aI64 r.2]) := by
 unfold track_Chain at hr
 refine FnOk.bd G Try.func16 [.tmp 2, .tmp 3] ?_
 unfold Try.f16
 simp only [Option.getD_some]
 refine .seq (.r4 G [0] [] (.seq (.seq ?_)))
 obtain ⟨v1, hc2, hr⟩ := bd hr
 refine .g1 G (ok0 (track_Check_ok n ties v1 hc2)) (.mu 1 (.ca cf0 (.mu 1 (.done (.nh [0, 4] [] (.seq (.r4 G [0, 4] [(8, aB ((v1 : Int) != 0))] ?_)))))))
 refine .cd hr (fun hb3 hr => ?_) (fun hb3 hr => ?_)
 ·refine .seq (.r3 G 13 [(2, nS), (3, aI64 v1)] (.ret ?_))
  obtain rfl := oi hr
  exact FinQ.ret (vs := [nS, aI64 v1]) (by kernel_rfl) (Sn.tup (SnL.cons Sn.nilsl (SnL.cons (Sn.pure rfl) SnL.nil)))
 ·refine .skip (.seq ?_)
  obtain ⟨v4, hc5, v6, hc7, hr⟩ := bd2 hr
  refine .gn G (ca1 (callOk_mutU (args := [slT api_Tie.c ties]) 0 5 [] [true, false, false, false, false] (track_chained_w_ok n ties v4 hc5) trivial (by exact ⟨ids_mpK (fun _ => rfl) _, ⟨ids_flat api_Mark.pure _, ⟨ids_flat (iC_pure _) _, ⟨ids_flat (iC_pure _) _, trivial⟩⟩⟩⟩) rfl rfl (by kernel_rfl) (by kernel_rfl)) (ca4 [.own [slT api_Tie.c v4.1, .mp 1, .hs 2 0 v4.2.2.1.length 2, .hs 3 0 v4.2.2.2.1.length 1, .hs 4 0 v4.2.2.2.2.length 1], .map (v4.2.1.map (mpK api_Mark_i64.K (iA .i64))), .own (v4.2.2.1.flatMap api_Mark.c), .own (v4.2.2.2.1.flatMap (iC .i64)), .own (v4.2.2.2.2.flatMap (iC .u64))] (callOk_mutU (args := [.hp 0 0]) 1 3 [(0, true), (1, false), (2, false), (3, false), (4, false)] [true, false, false, false] (fiducial_track_chains_tracks_w_ok n v4.1 v4.2.1 v4.2.2.1 v4.2.2.2.1 v4.2.2.2.2 v6 hc7) (by exact ⟨ids_mpK (fun _ => rfl) _, ⟨ids_flat api_Mark.pure _, ⟨ids_flat (iC_pure _) _, ⟨ids_flat (iC_pure _) _, trivial⟩⟩⟩⟩) (by exact ⟨ids_mpK (fun _ => rfl) _, ⟨ids_flat (iC_pure _) _, ⟨ids_flat (iC_pure _) _, trivial⟩⟩⟩) rfl rfl (by kernel_rfl) (by kernel_rfl)))) (.mu 1 (.ca cf0 (.ca (cfF cf0) (.mu 2 (.done (.ret ?_))))))
  obtain rfl := oi hr
  exact FinQ.ret (vs := [slT (slC api_Mark.c) v6.2, aI64 0]) (by kernel_rfl) (Sn.tup (SnL.cons (Sn.pure rfl) (SnL.cons (Sn.pure rfl) SnL.nil)))

theorem track_CheckTracks_1_ok (n : Nat) (a : List api_Mark) (b : List api_Mark) (r : Bool) (hr : track_CheckTracks_1 n a b = some r) : FnOk Try.prog 72 [slT api_Mark.c a, slT api_Mark.c b] (aB r) := by
 unfold track_CheckTracks_1 at hr
 refine FnOk.bd G Try.func72 [.tmp 4] ?_
 unfold Try.f72
 simp only [Option.getD_some]
 refine .seq (.r4 G [0, 1] [] (.seq ?_))
 obtain ⟨v1, hc2, hr⟩ := bd hr
 refine .g1 G (ok0 (slices_Equal_fiducial_api_Mark_fiducial_api_Mark_ok n a b v1 hc2)) (.mu 2 (.ca cf0 (.mu 1 (.done (.ret ?_)))))
 obtain rfl := oi hr
 exact FinQ.r1 [aB v1]

theorem slices_EqualFunc_fiducial_api_Mark_fiducial_api_Mark_fiducial_api_Mark_fiducial_api_Mark_of_track_CheckTracks_1_ok (n : Nat) (s1 : List (List api_Mark)) (s2 : List (List api_Mark)) (r : Bool) (hr : slices_EqualFunc_fiducial_api_Mark_fiducial_api_Mark_fiducial_api_Mark_fiducial_api_Mark_of_track_CheckTracks_1 n s1 s2 = some r) : FnOk Try.prog 50 [slT (slC api_Mark.c) s1, slT (slC api_Mark.c) s2, .fn 72 [] []] (aB r) := by
 unfold slices_EqualFunc_fiducial_api_Mark_fiducial_api_Mark_fiducial_api_Mark_fiducial_api_Mark_of_track_CheckTracks_1 at hr
 refine FnOk.bd G Try.func50 [.tmp 6] ?_
 unfold Try.f50
 simp only [Option.getD_some]
 refine .seq (.r4 G [0, 1, 2] [] (.seq (.seq (.r4 G [0, 1, 2] [(14, aB (((s1.length : Int) : Int) != (s2.length : Int)))] ?_))))
 refine .cd hr (fun hb1 hr => ?_) (fun hb1 hr => ?_)
 ·refine .seq (.ru G (.ret ?_))
  obtain rfl := oi hr
  exact FinQ.r1 [aB false]
 ·refine .skip (.seq (.seq (.r4 G [1, 2] [(15, slT (slC api_Mark.c) s1), (16, aI64 (s1.length : Int)), (17, aI64 0)] (.block ?_))))
  replace hr := bd hr; obtain ⟨o16, hL17, hr⟩ := hr
  refine .loopO (σ := fun z0 => match z0 with | x_2 => ⟨mkS 32 0 [(1, slT (slC api_Mark.c) s2), (2, .fn 72 [] []), (15, slT (slC api_Mark.c) s1), (16, aI64 (s1.length : Int)), (17, aI64 x_2)], []⟩) (Q := fun x st' => match (generalizing := false) o16 with | .inl _ => x = .exit 0 ∧ Wk 0 st' ⟨mkS 32 0 [], []⟩ | .inr (r0) => x = .ret ∧ FinQ Try.prog [.tmp 6] (aB r0) .ret st') hL17 ((Wk.gc [1, 2, 15, 16, 17] [] rfl pK0).to) ?_ ?_
  ·clear hr
   rintro m x_2 hr
   show CQ _ _ _ _ _ ⟨_, _⟩
   refine .seq (.r4 G [1, 2, 15, 16, 17] [(18, aB (decide (x_2 < (s1.length : Int))))] (.seq ?_))
   refine .cd hr (fun hb10 hr => ?_) (fun hb10 hr => ?_)
   ·refine .skip (.seq (.block (.seq ?_)))
    obtain ⟨hg11, hr⟩ := gd hr
    refine .r0 G (.mu 1 (.p0 (v := .pp (s1.flatMap (slC api_Mark.c)) (x_2.toNat * 1)) (tr (ofP_guard hg11)) (.p0 (v := slT api_Mark.c (gt s1 x_2)) (tr (ofP_some (flat_get (slC_len api_Mark.c) (inR_lt hg11) (by decide : 0 < 1) (by omega : x_2.toNat * 1 = x_2.toNat * 1 + 0) (by kernel_rfl)))) (.mu 2 (.done (.nh [1, 2, 7, 8, 15, 16, 17] [] (.seq ?_)))))))
    obtain ⟨hg12, hr⟩ := gd hr
    refine .r0 G (.mu 2 (.p0 (v := .pp (s2.flatMap (slC api_Mark.c)) (x_2.toNat * 1)) (tr (ofP_guard hg12)) (.p0 (v := slT api_Mark.c (gt s2 x_2)) (tr (ofP_some (flat_get (slC_len api_Mark.c) (inR_lt hg12) (by decide : 0 < 1) (by omega : x_2.toNat * 1 = x_2.toNat * 1 + 0) (by kernel_rfl)))) (.mu 1 (.done (.nh [1, 2, 8, 9, 15, 16, 17] [] (.seq ?_)))))))
    obtain ⟨v13, hc14, hr⟩ := bd hr
    refine .g1 G (ok0 (track_CheckTracks_1_ok n (gt s1 x_2) (gt s2 x_2) v13 hc14)) (.mu 3 (.ca cf0 (.mu 1 (.done (.nh [1, 2, 15, 16, 17, 30] [] ?_)))))
    refine .cd hr (fun hb15 hr => ?_) (fun hb15 hr => ?_)
    ·refine .seq (.ru G (.ret ?_))
     obtain rfl := oi hr
     exact ⟨rfl, FinQ.ret (vs := [aB false]) (by kernel_rfl) (Sn.pure rfl)⟩
    ·refine .skip (.pop (.ru G ?_))
     exact loopF_back (wrapF .i64 (x_2 + 1)) hr ((Wk.gc [1, 2, 15, 16, 17] [] rfl pK0).to)
   ·refine .leave rfl ?_
    obtain rfl := oi hr
    exact ⟨rfl, ((Wk.gc [] [] rfl pK0).to)⟩
  ·rcases o16 with ⟨⟩ | r0
   ·rintro x st' hq18
    clear hL17
    obtain ⟨rfl, hq18⟩ := hq18
    refine CQ_exit _ rfl (.wk hq18 (.seq (.ru G (.ret ?_))))
    obtain rfl := oi hr
    exact FinQ.r1 [aB true]
   ·rintro x st' hq18
    clear hL17
    obtain ⟨rfl, hq18⟩ := hq18
    obtain rfl := oi hr
    exact CQ_ret _ hq18

theorem track_CheckTracks_ok (n : Nat) (ties : List api_Tie) (tracks : List (List api_Mark)) (r : Int) (hr : track_CheckTracks n ties tracks = some r) : FnOk Try.prog 42 [slT api_Tie.c ties, slT (slC api_Mark.c) tracks] (aI64 r) := by
 unfold track_CheckTracks at hr
 refine FnOk.bd G Try.func42 [.tmp 4] ?_
 unfold Try.f42
 simp only [Option.getD_some]
 refine .seq (.r4 G [0, 1] [] (.seq ?_))
 obtain ⟨v1, hc2, hr⟩ := bd hr
 refine .g1 G (ok0 (track_Chain_ok n ties v1 hc2)) (.mu 1 (.ca cf0 (.mu 5 (.done (.nh [1, 5, 6] [] (.seq (.seq (.r4 G [1, 5, 6] [(13, aB ((v1.2 : Int) != 0))] ?_))))))))
 refine .cd hr (fun hb3 hr => ?_) (fun hb3 hr => ?_)
 ·refine .seq (.ru G (.ret ?_))
  obtain rfl := oi hr
  exact FinQ.r1 [aI64 v1.2]
 ·refine .skip (.seq (.seq ?_))
  obtain ⟨v4, hc5, hr⟩ := bd hr
  refine .g1 G (ok0 (slices_EqualFunc_fiducial_api_Mark_fiducial_api_Mark_fiducial_api_Mark_fiducial_api_Mark_of_track_CheckTracks_1_ok n tracks v1.1 v4 hc5)) (.mu 2 (.ca cf0 (.mu 1 (.done (.nh [18] [] ?_)))))
  refine .cd hr (fun hb6 hr => ?_) (fun hb6 hr => ?_)
  ·refine .seq (.ru G (.ret ?_))
   obtain rfl := oi hr
   exact FinQ.r1 [aI64 12]
  ·refine .skip (.seq (.ru G (.ret ?_)))
   obtain rfl := oi hr
   exact FinQ.r1 [aI64 0]
end Go.L
