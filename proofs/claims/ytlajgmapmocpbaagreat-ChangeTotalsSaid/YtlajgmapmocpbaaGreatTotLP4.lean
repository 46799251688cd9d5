/- The program's functions compute what the plain Lean programs compute, part 4; printed by a program. -/
import Derived.Test.YtlajgmapmocpbaaGreatTotLP3
import Derived.Test.YtlajgmapmocpbaaGreatL0ckedgpae
import Derived.Test.YtlajgmapmocpbaaGreatChecked
import Derived.KernelRfl
set_option linter.unusedVariables false
set_option linter.unusedSimpArgs false
set_option maxRecDepth 100000
set_option maxHeartbeats 4000000
namespace Go.L
open Go Go.Eng Go.Proofs
theorem fiduciallaw51_check_ok (n : Nat) (g : api_Grid) (r : Int) (hr : fiduciallaw51_check n g = some r) : FnOk Tryz.prog 126 [.agg (api_Grid.c g)] (aI64 r) := by
 unfold fiduciallaw51_check at hr
 refine FnOk.bd fine Tryz.func126 [.tmp 2] ?_
 unfold Tryz.f126
 simp only [Option.getD_some]
 refine .seq <| .r2 fine 72 [(1, .hp 0 0)] [.own (api_Grid.c g)] <| .seq <| .seq ?_
 rcases Bool.eq_false_or_eq_true (decide (g.Width < 2)) with hb1 | hb1
 ·replace hr := cd_t hb1 hr
  refine .r0 fine <| .mu 2 <| .p0 (v := aB true) (Eq.trans (b := some (.pure (aB (decide (g.Width < 2))))) (by kernel_rfl) (by rw [hb1])) <| .mu 41 <| .done <| .n2 72 [(1, .hp 0 0), (48, aB true)] [.own (api_Grid.c g)] <| .cT (by kernel_rfl) <| .seq <| .ru fine <| .ret ?_
  obtain rfl := Option.some.inj hr
  exact FinQ.r1 [aI64 2]
 ·replace hr := cd_f hb1 hr
  rcases Bool.eq_false_or_eq_true (decide (g.Width > 64)) with hb2 | hb2
  ·replace hr := cd_t hb2 hr
   refine .r0 fine <| .mu 2 <| .p0 (v := aB false) (Eq.trans (b := some (.pure (aB (decide (g.Width < 2))))) (by kernel_rfl) (by rw [hb1])) <| .mu 3 <| .pure (v := aB true) (by kernel_rfl) (Eq.trans (b := some (.pure (aB (decide (g.Width > 64))))) (by kernel_rfl) (by rw [hb2])) <| .mu 37 <| .done <| .n2 72 [(1, .hp 0 0), (48, aB true)] [.own (api_Grid.c g)] <| .cT (by kernel_rfl) <| .seq <| .ru fine <| .ret ?_
   obtain rfl := Option.some.inj hr
   exact FinQ.r1 [aI64 2]
  ·replace hr := cd_f hb2 hr
   rcases Bool.eq_false_or_eq_true (decide (g.Height < 2)) with hb3 | hb3
   ·replace hr := cd_t hb3 hr
    refine .r0 fine <| .mu 2 <| .p0 (v := aB false) (Eq.trans (b := some (.pure (aB (decide (g.Width < 2))))) (by kernel_rfl) (by rw [hb1])) <| .mu 3 <| .pure (v := aB false) (by kernel_rfl) (Eq.trans (b := some (.pure (aB (decide (g.Width > 64))))) (by kernel_rfl) (by rw [hb2])) <| .mu 4 <| .pure (v := aB true) (by kernel_rfl) (Eq.trans (b := some (.pure (aB (decide (g.Height < 2))))) (by kernel_rfl) (by rw [hb3])) <| .mu 32 <| .done <| .n2 72 [(1, .hp 0 0), (48, aB true)] [.own (api_Grid.c g)] <| .cT (by kernel_rfl) <| .seq <| .ru fine <| .ret ?_
    obtain rfl := Option.some.inj hr
    exact FinQ.r1 [aI64 2]
   ·replace hr := cd_f hb3 hr
    rcases Bool.eq_false_or_eq_true (decide (g.Height > 64)) with hb4 | hb4
    ·replace hr := cd_t hb4 hr
     refine .r0 fine <| .mu 2 <| .p0 (v := aB false) (Eq.trans (b := some (.pure (aB (decide (g.Width < 2))))) (by kernel_rfl) (by rw [hb1])) <| .mu 3 <| .pure (v := aB false) (by kernel_rfl) (Eq.trans (b := some (.pure (aB (decide (g.Width > 64))))) (by kernel_rfl) (by rw [hb2])) <| .mu 4 <| .pure (v := aB false) (by kernel_rfl) (Eq.trans (b := some (.pure (aB (decide (g.Height < 2))))) (by kernel_rfl) (by rw [hb3])) <| .mu 4 <| .pure (v := aB true) (by kernel_rfl) (Eq.trans (b := some (.pure (aB (decide (g.Height > 64))))) (by kernel_rfl) (by rw [hb4])) <| .mu 27 <| .done <| .n2 72 [(1, .hp 0 0), (48, aB true)] [.own (api_Grid.c g)] <| .cT (by kernel_rfl) <| .seq <| .ru fine <| .ret ?_
     obtain rfl := Option.some.inj hr
     exact FinQ.r1 [aI64 2]
    ·replace hr := cd_f hb4 hr
     rcases Bool.eq_false_or_eq_true (decide (g.Step < 2)) with hb5 | hb5
     ·replace hr := cd_t hb5 hr
      refine .r0 fine <| .mu 2 <| .p0 (v := aB false) (Eq.trans (b := some (.pure (aB (decide (g.Width < 2))))) (by kernel_rfl) (by rw [hb1])) <| .mu 3 <| .pure (v := aB false) (by kernel_rfl) (Eq.trans (b := some (.pure (aB (decide (g.Width > 64))))) (by kernel_rfl) (by rw [hb2])) <| .mu 4 <| .pure (v := aB false) (by kernel_rfl) (Eq.trans (b := some (.pure (aB (decide (g.Height < 2))))) (by kernel_rfl) (by rw [hb3])) <| .mu 4 <| .pure (v := aB false) (by kernel_rfl) (Eq.trans (b := some (.pure (aB (decide (g.Height > 64))))) (by kernel_rfl) (by rw [hb4])) <| .mu 4 <| .pure (v := aB true) (by kernel_rfl) (Eq.trans (b := some (.pure (aB (decide (g.Step < 2))))) (by kernel_rfl) (by rw [hb5])) <| .mu 22 <| .done <| .n2 72 [(1, .hp 0 0), (48, aB true)] [.own (api_Grid.c g)] <| .cT (by kernel_rfl) <| .seq <| .ru fine <| .ret ?_
      obtain rfl := Option.some.inj hr
      exact FinQ.r1 [aI64 2]
     ·replace hr := cd_f hb5 hr
      rcases Bool.eq_false_or_eq_true (decide (g.Step > 65536)) with hb6 | hb6
      ·replace hr := cd_t hb6 hr
       refine .r0 fine <| .mu 2 <| .p0 (v := aB false) (Eq.trans (b := some (.pure (aB (decide (g.Width < 2))))) (by kernel_rfl) (by rw [hb1])) <| .mu 3 <| .pure (v := aB false) (by kernel_rfl) (Eq.trans (b := some (.pure (aB (decide (g.Width > 64))))) (by kernel_rfl) (by rw [hb2])) <| .mu 4 <| .pure (v := aB false) (by kernel_rfl) (Eq.trans (b := some (.pure (aB (decide (g.Height < 2))))) (by kernel_rfl) (by rw [hb3])) <| .mu 4 <| .pure (v := aB false) (by kernel_rfl) (Eq.trans (b := some (.pure (aB (decide (g.Height > 64))))) (by kernel_rfl) (by rw [hb4])) <| .mu 4 <| .pure (v := aB false) (by kernel_rfl) (Eq.trans (b := some (.pure (aB (decide (g.Step < 2))))) (by kernel_rfl) (by rw [hb5])) <| .mu 4 <| .pure (v := aB true) (by kernel_rfl) (Eq.trans (b := some (.pure (aB (decide (g.Step > 65536))))) (by kernel_rfl) (by rw [hb6])) <| .mu 17 <| .done <| .n2 72 [(1, .hp 0 0), (48, aB true)] [.own (api_Grid.c g)] <| .cT (by kernel_rfl) <| .seq <| .ru fine <| .ret ?_
       obtain rfl := Option.some.inj hr
       exact FinQ.r1 [aI64 2]
      ·replace hr := cd_f hb6 hr
       rcases Bool.eq_false_or_eq_true (((g.Step.tmod 2) : Int) != 0) with hb7 | hb7
       ·replace hr := cd_t hb7 hr
        refine .r0 fine <| .mu 2 <| .p0 (v := aB false) (Eq.trans (b := some (.pure (aB (decide (g.Width < 2))))) (by kernel_rfl) (by rw [hb1])) <| .mu 3 <| .pure (v := aB false) (by kernel_rfl) (Eq.trans (b := some (.pure (aB (decide (g.Width > 64))))) (by kernel_rfl) (by rw [hb2])) <| .mu 4 <| .pure (v := aB false) (by kernel_rfl) (Eq.trans (b := some (.pure (aB (decide (g.Height < 2))))) (by kernel_rfl) (by rw [hb3])) <| .mu 4 <| .pure (v := aB false) (by kernel_rfl) (Eq.trans (b := some (.pure (aB (decide (g.Height > 64))))) (by kernel_rfl) (by rw [hb4])) <| .mu 4 <| .pure (v := aB false) (by kernel_rfl) (Eq.trans (b := some (.pure (aB (decide (g.Step < 2))))) (by kernel_rfl) (by rw [hb5])) <| .mu 4 <| .pure (v := aB false) (by kernel_rfl) (Eq.trans (b := some (.pure (aB (decide (g.Step > 65536))))) (by kernel_rfl) (by rw [hb6])) <| .mu 5 <| .pure (v := aB true) (by kernel_rfl) (Eq.trans (b := some (.pure (aB (((g.Step.tmod 2) : Int) != 0)))) (by kernel_rfl) (by rw [hb7])) <| .mu 11 <| .done <| .n2 72 [(1, .hp 0 0), (48, aB true)] [.own (api_Grid.c g)] <| .cT (by kernel_rfl) <| .seq <| .ru fine <| .ret ?_
        obtain rfl := Option.some.inj hr
        exact FinQ.r1 [aI64 2]
       ·replace hr := cd_f hb7 hr
        obtain ⟨v8, hc9, hr⟩ := bd hr
        rcases Bool.eq_false_or_eq_true v8 with hb10 | hb10
        ·subst hb10
         replace hr := cd_t rfl hr
         refine .g1 fine (ok0 (fiduciallaw51_out_ok n g.X0 true hc9)) <| .mu 2 <| .p0 (v := aB false) (Eq.trans (b := some (.pure (aB (decide (g.Width < 2))))) (by kernel_rfl) (by rw [hb1])) <| .mu 3 <| .pure (v := aB false) (by kernel_rfl) (Eq.trans (b := some (.pure (aB (decide (g.Width > 64))))) (by kernel_rfl) (by rw [hb2])) <| .mu 4 <| .pure (v := aB false) (by kernel_rfl) (Eq.trans (b := some (.pure (aB (decide (g.Height < 2))))) (by kernel_rfl) (by rw [hb3])) <| .mu 4 <| .pure (v := aB false) (by kernel_rfl) (Eq.trans (b := some (.pure (aB (decide (g.Height > 64))))) (by kernel_rfl) (by rw [hb4])) <| .mu 4 <| .pure (v := aB false) (by kernel_rfl) (Eq.trans (b := some (.pure (aB (decide (g.Step < 2))))) (by kernel_rfl) (by rw [hb5])) <| .mu 4 <| .pure (v := aB false) (by kernel_rfl) (Eq.trans (b := some (.pure (aB (decide (g.Step > 65536))))) (by kernel_rfl) (by rw [hb6])) <| .mu 5 <| .pure (v := aB false) (by kernel_rfl) (Eq.trans (b := some (.pure (aB (((g.Step.tmod 2) : Int) != 0)))) (by kernel_rfl) (by rw [hb7])) <| .mu 4 <| .ca cf0 <| .mu 6 <| .done <| .n2 72 [(1, .hp 0 0), (48, aB true)] [.own (api_Grid.c g)] <| .cT (by kernel_rfl) <| .seq <| .ru fine <| .ret ?_
         obtain rfl := Option.some.inj hr
         exact FinQ.r1 [aI64 2]
        ·subst hb10
         replace hr := cd_f rfl hr
         obtain ⟨v11, hc12, hr⟩ := bd hr
         refine .gn fine (ca1 (ok0 (fiduciallaw51_out_ok n g.X0 false hc9)) (ca3 (ok0 (fiduciallaw51_out_ok n g.Y0 v11 hc12)))) <| .mu 2 <| .p0 (v := aB false) (Eq.trans (b := some (.pure (aB (decide (g.Width < 2))))) (by kernel_rfl) (by rw [hb1])) <| .mu 3 <| .pure (v := aB false) (by kernel_rfl) (Eq.trans (b := some (.pure (aB (decide (g.Width > 64))))) (by kernel_rfl) (by rw [hb2])) <| .mu 4 <| .pure (v := aB false) (by kernel_rfl) (Eq.trans (b := some (.pure (aB (decide (g.Height < 2))))) (by kernel_rfl) (by rw [hb3])) <| .mu 4 <| .pure (v := aB false) (by kernel_rfl) (Eq.trans (b := some (.pure (aB (decide (g.Height > 64))))) (by kernel_rfl) (by rw [hb4])) <| .mu 4 <| .pure (v := aB false) (by kernel_rfl) (Eq.trans (b := some (.pure (aB (decide (g.Step < 2))))) (by kernel_rfl) (by rw [hb5])) <| .mu 4 <| .pure (v := aB false) (by kernel_rfl) (Eq.trans (b := some (.pure (aB (decide (g.Step > 65536))))) (by kernel_rfl) (by rw [hb6])) <| .mu 5 <| .pure (v := aB false) (by kernel_rfl) (Eq.trans (b := some (.pure (aB (((g.Step.tmod 2) : Int) != 0)))) (by kernel_rfl) (by rw [hb7])) <| .mu 4 <| .ca cf0 <| .mu 4 <| .ca (cfA (fun h => by rw [sv hc12 hc9 (fiduciallaw51_out_cg n h)]) cf0) <| .mu 1 <| .done <| .n2 72 [(1, .hp 0 0), (48, aB v11)] [.own (api_Grid.c g)] ?_
         refine .cd hr (fun hb13 hr => ?_) (fun hb13 hr => ?_)
         ·refine .seq <| .ru fine <| .ret ?_
          obtain rfl := Option.some.inj hr
          exact FinQ.r1 [aI64 2]
         ·refine .skip <| .seq <| .seq <| .r3 fine 72 [(1, .hp 0 0), (57, aB (((g.Z.length : Int) : Int) != (wrapF .i64 (g.Width * g.Height))))] ?_
          refine .cd hr (fun hb14 hr => ?_) (fun hb14 hr => ?_)
          ·refine .seq <| .ru fine <| .ret ?_
           obtain rfl := Option.some.inj hr
           exact FinQ.r1 [aI64 4]
          ·refine .skip <| .seq <| .seq <| .r3 fine 72 [(59, sI64 g.Z), (60, aI64 (g.Z.length : Int)), (61, aI64 0)] <| .block ?_
           replace hr := bd hr; obtain ⟨o29, hL30, hr⟩ := hr
           refine .loopO (σ := fun z0 => match z0 with | x_15 => ⟨mkS 72 0 [(59, sI64 g.Z), (60, aI64 (g.Z.length : Int)), (61, aI64 x_15)], []⟩) (Q := fun x st' => match (generalizing := false) o29 with | .inl _ => x = .exit 0 ∧ Wk 0 st' ⟨mkS 72 0 [], []⟩ | .inr (r0) => x = .ret ∧ FinQ Tryz.prog [.tmp 2] (aI64 r0) .ret st') hL30 ((Wk.gc [59, 60, 61] [] rfl pK0).to (by kernel_rfl)) ?_ ?_
           ·clear hr
            rintro m x_15 hr
            show CQ _ _ _ _ _ ⟨_, _⟩
            refine .seq <| .r3 fine 72 [(59, sI64 g.Z), (60, aI64 (g.Z.length : Int)), (61, aI64 x_15), (62, aB (decide (x_15 < (g.Z.length : Int))))] <| .seq ?_
            refine .cd hr (fun hb23 hr => ?_) (fun hb23 hr => ?_)
            ·refine .skip <| .seq <| .block <| .seq ?_
             obtain ⟨hg24, hr⟩ := gd hr
             refine .r0 fine <| .p0 (v := .pp (g.Z.flatMap (iC .i64)) (x_15.toNat * 1)) (Eq.trans (b := ORes.ofP (guardV (inR x_15 g.Z.length) (.pp (g.Z.flatMap (iC .i64)) (x_15.toNat * 1)))) (by kernel_rfl) (ofP_guard hg24)) <| .p0 (v := aI64 (gt g.Z x_15)) (Eq.trans (b := ORes.ofP ((g.Z.flatMap (iC .i64))[x_15.toNat * 1]?)) (by kernel_rfl) (ofP_some (flat_get (iC_len _) (inR_lt hg24) (by decide : 0 < 1) (by omega : x_15.toNat * 1 = x_15.toNat * 1 + 0) (by kernel_rfl)))) <| .mu 1 <| .done <| .n2 72 [(4, aI64 (gt g.Z x_15)), (59, sI64 g.Z), (60, aI64 (g.Z.length : Int)), (61, aI64 x_15)] [] <| .seq ?_
             rcases Bool.eq_false_or_eq_true (((gt g.Z x_15) : Int) != (-2147483648)) with hb25 | hb25
             ·replace hr := cd_t hb25 hr
              obtain ⟨v26, hc27, hr⟩ := bd hr
              refine .g1 fine (ok0 (fiduciallaw51_out_ok n (gt g.Z x_15) v26 hc27)) <| .mu 1 <| .p0 (v := aB true) (Eq.trans (b := some (.pure (aB (((gt g.Z x_15) : Int) != (-2147483648))))) (by kernel_rfl) (by rw [hb25])) <| .mu 2 <| .ca cf0 <| .mu 1 <| .done <| .n2 72 [(59, sI64 g.Z), (60, aI64 (g.Z.length : Int)), (61, aI64 x_15), (70, aB v26)] [] ?_
              refine .cd hr (fun hb28 hr => ?_) (fun hb28 hr => ?_)
              ·refine .seq <| .ru fine <| .ret ?_
               obtain rfl := Option.some.inj hr
               exact ⟨rfl, FinQ.ret (vs := [aI64 2]) (by kernel_rfl) (Sn.pure rfl)⟩
              ·refine .skip <| .pop <| .ru fine ?_
               exact loopF_back (wrapF .i64 (x_15 + 1)) hr ((Wk.gc [59, 60, 61] [] rfl pK0).to (by kernel_rfl))
             ·replace hr := cd_f hb25 hr
              refine .r0 fine <| .mu 1 <| .p0 (v := aB false) (Eq.trans (b := some (.pure (aB (((gt g.Z x_15) : Int) != (-2147483648))))) (by kernel_rfl) (by rw [hb25])) <| .mu 4 <| .done <| .n2 72 [(59, sI64 g.Z), (60, aI64 (g.Z.length : Int)), (61, aI64 x_15), (70, aB false)] [] <| .cF (by kernel_rfl) <| .skip <| .pop <| .ru fine ?_
              exact loopF_back (wrapF .i64 (x_15 + 1)) hr ((Wk.gc [59, 60, 61] [] rfl pK0).to (by kernel_rfl))
            ·refine .leave rfl ?_
             obtain rfl := Option.some.inj hr
             exact ⟨rfl, ((Wk.gc [] [] rfl pK0).to (by kernel_rfl))⟩
           ·rcases o29 with ⟨⟩ | r0
            ·rintro x st' hq31
             clear hL30
             obtain ⟨rfl, hq31⟩ := hq31
             refine CQ_exit _ rfl <| .wk hq31 <| .seq <| .ru fine <| .ret ?_
             obtain rfl := Option.some.inj hr
             exact FinQ.r1 [aI64 0]
            ·rintro x st' hq31
             clear hL30
             obtain ⟨rfl, hq31⟩ := hq31
             obtain rfl := Option.some.inj hr
             exact CQ_ret _ hq31

theorem fiduciallaw51_Checked_ok (n : Nat) (g : api_Grid) (r : Int) (hr : fiduciallaw51_Checked n g = some r) : FnOk Tryz.prog 95 [.agg (api_Grid.c g)] (aI64 r) := by
 unfold fiduciallaw51_Checked at hr
 refine FnOk.bd fine Tryz.func95 [.tmp 2] ?_
 unfold Tryz.f95
 simp only [Option.getD_some]
 refine .seq <| .r2 fine 5 [(1, .hp 0 0)] [.own (api_Grid.c g)] <| .seq ?_
 obtain ⟨v1, hc2, hr⟩ := bd hr
 refine .g1 fine (ok0 (fiduciallaw51_check_ok n g v1 hc2)) <| .mu 1 <| .ca cf0 <| .mu 1 <| .done <| .ret ?_
 obtain rfl := Option.some.inj hr
 exact FinQ.r1 [aI64 v1]

theorem fiduciallaw59_check_ok (n : Nat) (b : api_Banded) (r : Int) (hr : fiduciallaw59_check n b = some r) : FnOk Tryz.prog 51 [.agg (api_Banded.c b)] (aI64 r) := by
 unfold fiduciallaw59_check at hr
 refine FnOk.bd fine Tryz.func51 [.tmp 2] ?_
 unfold Tryz.f51
 simp only [Option.getD_some]
 refine .seq <| .r2 fine 34 [(1, .hp 0 0)] [.own (api_Banded.c b)] <| .seq <| .seq ?_
 obtain ⟨v1, hc2, hr⟩ := bd hr
 refine .g1 fine (ok0 (fiduciallaw51_Checked_ok n b.Grid v1 hc2)) <| .mu 2 <| .ca cf0 <| .mu 1 <| .done <| .n2 34 [(1, .hp 0 0), (3, aI64 v1)] [.own (api_Banded.c b)] <| .seq <| .r3 fine 34 [(1, .hp 0 0), (3, aI64 v1), (10, aB ((v1 : Int) != 0))] ?_
 refine .cd hr (fun hb3 hr => ?_) (fun hb3 hr => ?_)
 ·refine .seq <| .ru fine <| .ret ?_
  obtain rfl := Option.some.inj hr
  exact FinQ.r1 [aI64 v1]
 ·refine .skip <| .seq <| .seq <| .r3 fine 34 [(1, .hp 0 0), (19, aB (((b.Err.length : Int) : Int) != (b.Grid.Z.length : Int)))] ?_
  refine .cd hr (fun hb4 hr => ?_) (fun hb4 hr => ?_)
  ·refine .seq <| .ru fine <| .ret ?_
   obtain rfl := Option.some.inj hr
   exact FinQ.r1 [aI64 4]
  ·refine .skip <| .seq <| .seq <| .r3 fine 34 [(21, sI64 b.Err), (22, aI64 (b.Err.length : Int)), (23, aI64 0)] <| .block ?_
   replace hr := bd hr; obtain ⟨o15, hL16, hr⟩ := hr
   refine .loopO (σ := fun z0 => match z0 with | x_5 => ⟨mkS 34 0 [(21, sI64 b.Err), (22, aI64 (b.Err.length : Int)), (23, aI64 x_5)], []⟩) (Q := fun x st' => match (generalizing := false) o15 with | .inl _ => x = .exit 0 ∧ Wk 0 st' ⟨mkS 34 0 [], []⟩ | .inr (r0) => x = .ret ∧ FinQ Tryz.prog [.tmp 2] (aI64 r0) .ret st') hL16 ((Wk.gc [21, 22, 23] [] rfl pK0).to (by kernel_rfl)) ?_ ?_
   ·clear hr
    rintro m x_5 hr
    show CQ _ _ _ _ _ ⟨_, _⟩
    refine .seq <| .r3 fine 34 [(21, sI64 b.Err), (22, aI64 (b.Err.length : Int)), (23, aI64 x_5), (24, aB (decide (x_5 < (b.Err.length : Int))))] <| .seq ?_
    refine .cd hr (fun hb11 hr => ?_) (fun hb11 hr => ?_)
    ·refine .skip <| .seq <| .block <| .seq ?_
     obtain ⟨hg12, hr⟩ := gd hr
     refine .r0 fine <| .p0 (v := .pp (b.Err.flatMap (iC .i64)) (x_5.toNat * 1)) (Eq.trans (b := ORes.ofP (guardV (inR x_5 b.Err.length) (.pp (b.Err.flatMap (iC .i64)) (x_5.toNat * 1)))) (by kernel_rfl) (ofP_guard hg12)) <| .p0 (v := aI64 (gt b.Err x_5)) (Eq.trans (b := ORes.ofP ((b.Err.flatMap (iC .i64))[x_5.toNat * 1]?)) (by kernel_rfl) (ofP_some (flat_get (iC_len _) (inR_lt hg12) (by decide : 0 < 1) (by omega : x_5.toNat * 1 = x_5.toNat * 1 + 0) (by kernel_rfl)))) <| .mu 1 <| .done <| .n2 34 [(5, aI64 (gt b.Err x_5)), (21, sI64 b.Err), (22, aI64 (b.Err.length : Int)), (23, aI64 x_5)] [] <| .seq ?_
     rcases Bool.eq_false_or_eq_true (decide ((gt b.Err x_5) < 0)) with hb13 | hb13
     ·replace hr := cd_t hb13 hr
      refine .r0 fine <| .mu 1 <| .p0 (v := aB true) (Eq.trans (b := some (.pure (aB (decide ((gt b.Err x_5) < 0))))) (by kernel_rfl) (by rw [hb13])) <| .mu 4 <| .done <| .n2 34 [(21, sI64 b.Err), (22, aI64 (b.Err.length : Int)), (23, aI64 x_5), (32, aB true)] [] <| .cT (by kernel_rfl) <| .seq <| .ru fine <| .ret ?_
      obtain rfl := Option.some.inj hr
      exact ⟨rfl, FinQ.ret (vs := [aI64 2]) (by kernel_rfl) (Sn.pure rfl)⟩
     ·replace hr := cd_f hb13 hr
      refine .r0 fine <| .mu 1 <| .p0 (v := aB false) (Eq.trans (b := some (.pure (aB (decide ((gt b.Err x_5) < 0))))) (by kernel_rfl) (by rw [hb13])) <| .mu 4 <| .done <| .n2 34 [(21, sI64 b.Err), (22, aI64 (b.Err.length : Int)), (23, aI64 x_5), (32, aB (decide ((gt b.Err x_5) > 1048576)))] [] ?_
      refine .cd hr (fun hb14 hr => ?_) (fun hb14 hr => ?_)
      ·refine .seq <| .ru fine <| .ret ?_
       obtain rfl := Option.some.inj hr
       exact ⟨rfl, FinQ.ret (vs := [aI64 2]) (by kernel_rfl) (Sn.pure rfl)⟩
      ·refine .skip <| .pop <| .ru fine ?_
       exact loopF_back (wrapF .i64 (x_5 + 1)) hr ((Wk.gc [21, 22, 23] [] rfl pK0).to (by kernel_rfl))
    ·refine .leave rfl ?_
     obtain rfl := Option.some.inj hr
     exact ⟨rfl, ((Wk.gc [] [] rfl pK0).to (by kernel_rfl))⟩
   ·rcases o15 with ⟨⟩ | r0
    ·rintro x st' hq17
     clear hL16
     obtain ⟨rfl, hq17⟩ := hq17
     refine CQ_exit _ rfl <| .wk hq17 <| .seq <| .ru fine <| .ret ?_
     obtain rfl := Option.some.inj hr
     exact FinQ.r1 [aI64 0]
    ·rintro x st' hq17
     clear hL16
     obtain ⟨rfl, hq17⟩ := hq17
     obtain rfl := Option.some.inj hr
     exact CQ_ret _ hq17

theorem fiduciallaw59_fits_ok (n : Nat) (l : List api_Banded) (r : Int) (hr : fiduciallaw59_fits n l = some r) : FnOk Tryz.prog 15 [slT api_Banded.c l] (aI64 r) := by
 unfold fiduciallaw59_fits at hr
 refine FnOk.bd fine Tryz.func15 [.tmp 2] ?_
 unfold Tryz.f15
 simp only [Option.getD_some]
 refine .seq <| .r3 fine 68 [(0, slT api_Banded.c l)] <| .seq <| .seq <| .r3 fine 68 [(0, slT api_Banded.c l), (10, slT api_Banded.c l), (11, aI64 (l.length : Int)), (12, aI64 0)] <| .block ?_
 replace hr := bd hr; obtain ⟨o13, hL14, hr⟩ := hr
 refine .loopO (σ := fun z0 => match z0 with | x_1 => ⟨mkS 68 0 [(0, slT api_Banded.c l), (10, slT api_Banded.c l), (11, aI64 (l.length : Int)), (12, aI64 x_1)], []⟩) (Q := fun x st' => match (generalizing := false) o13 with | .inl _ => x = .exit 0 ∧ Wk 0 st' ⟨mkS 68 0 [(0, slT api_Banded.c l)], []⟩ | .inr (r0) => x = .ret ∧ FinQ Tryz.prog [.tmp 2] (aI64 r0) .ret st') hL14 ((Wk.gc [0, 10, 11, 12] [] rfl pK0).to (by kernel_rfl)) ?_ ?_
 ·clear hr
  rintro m x_1 hr
  show CQ _ _ _ _ _ ⟨_, _⟩
  refine .seq <| .r3 fine 68 [(0, slT api_Banded.c l), (10, slT api_Banded.c l), (11, aI64 (l.length : Int)), (12, aI64 x_1), (13, aB (decide (x_1 < (l.length : Int))))] <| .seq ?_
  refine .cd hr (fun hb8 hr => ?_) (fun hb8 hr => ?_)
  ·refine .skip <| .seq <| .block <| .seq ?_
   obtain ⟨hg9, hr⟩ := gd hr
   refine .r0 fine <| .p0 (v := .pp (l.flatMap api_Banded.c) (x_1.toNat * 7)) (Eq.trans (b := ORes.ofP (guardV (inR x_1 l.length) (.pp (l.flatMap api_Banded.c) (x_1.toNat * 7)))) (by kernel_rfl) (ofP_guard hg9)) <| .p0 (v := .agg (api_Banded.c (gt l x_1))) (Eq.trans (b := ORes.ofP (guardV (decide (7 ≤ ((l.flatMap api_Banded.c).drop (x_1.toNat * 7)).length)) (.agg (((l.flatMap api_Banded.c).drop (x_1.toNat * 7)).take 7)))) (by kernel_rfl) (flat_load api_Banded.len (inR_lt hg9) (by decide) (by omega : x_1.toNat * 7 = x_1.toNat * 7 + 0) (by kernel_rfl))) <| .mu 2 <| .done <| .n2 68 [(0, slT api_Banded.c l), (4, .hp 0 0), (10, slT api_Banded.c l), (11, aI64 (l.length : Int)), (12, aI64 x_1)] [.own (api_Banded.c (gt l x_1))] <| .seq ?_
   obtain ⟨v10, hc11, hr⟩ := bd hr
   refine .g1 fine (ok0 (fiduciallaw59_check_ok n (gt l x_1) v10 hc11)) <| .mu 1 <| .ca cf0 <| .mu 1 <| .done <| .n2 68 [(0, slT api_Banded.c l), (5, aI64 v10), (10, slT api_Banded.c l), (11, aI64 (l.length : Int)), (12, aI64 x_1)] [.own (api_Banded.c (gt l x_1))] <| .seq <| .r3 fine 68 [(0, slT api_Banded.c l), (5, aI64 v10), (10, slT api_Banded.c l), (11, aI64 (l.length : Int)), (12, aI64 x_1), (19, aB ((v10 : Int) != 0))] ?_
   refine .cd hr (fun hb12 hr => ?_) (fun hb12 hr => ?_)
   ·refine .seq <| .ru fine <| .ret ?_
    obtain rfl := Option.some.inj hr
    exact ⟨rfl, FinQ.ret (vs := [aI64 v10]) (by kernel_rfl) (Sn.pure rfl)⟩
   ·refine .skip <| .pop <| .ru fine ?_
    exact loopF_back (wrapF .i64 (x_1 + 1)) hr ((Wk.gc [0, 10, 11, 12] [] rfl pK0).to (by kernel_rfl))
  ·refine .leave rfl ?_
   obtain rfl := Option.some.inj hr
   exact ⟨rfl, ((Wk.gc [0] [] rfl pK0).to (by kernel_rfl))⟩
 ·rcases o13 with ⟨⟩ | r0
  ·rintro x st' hq15
   clear hL14
   obtain ⟨rfl, hq15⟩ := hq15
   refine CQ_exit _ rfl <| .wk hq15 <| .seq <| .seq <| .r3 fine 68 [(0, slT api_Banded.c l), (22, slT api_Banded.c l), (23, aI64 (l.length : Int)), (24, aI64 0)] <| .block ?_
   replace hr := bd hr; obtain ⟨o34, hL35, hr⟩ := hr
   refine .loopO (σ := fun z0 => match z0 with | x_16 => ⟨mkS 68 0 [(0, slT api_Banded.c l), (22, slT api_Banded.c l), (23, aI64 (l.length : Int)), (24, aI64 x_16)], []⟩) (Q := fun x st' => match (generalizing := false) o34 with | .inl _ => x = .exit 2 ∧ Wk 0 st' ⟨mkS 68 0 [], []⟩ | .inr (r0) => x = .ret ∧ FinQ Tryz.prog [.tmp 2] (aI64 r0) .ret st') hL35 ((Wk.gc [0, 22, 23, 24] [] rfl pK0).to (by kernel_rfl)) ?_ ?_
   ·clear hr
    rintro m x_16 hr
    show CQ _ _ _ _ _ ⟨_, _⟩
    refine .seq <| .r3 fine 68 [(0, slT api_Banded.c l), (22, slT api_Banded.c l), (23, aI64 (l.length : Int)), (24, aI64 x_16), (25, aB (decide (x_16 < (l.length : Int))))] <| .seq ?_
    refine .cd hr (fun hb26 hr => ?_) (fun hb26 hr => ?_)
    ·refine .skip <| .seq <| .block <| .seq ?_
     obtain ⟨hg27, hr⟩ := gd hr
     refine .r0 fine <| .p0 (v := .pp (l.flatMap api_Banded.c) (x_16.toNat * 7)) (Eq.trans (b := ORes.ofP (guardV (inR x_16 l.length) (.pp (l.flatMap api_Banded.c) (x_16.toNat * 7)))) (by kernel_rfl) (ofP_guard hg27)) <| .p0 (v := .agg (api_Banded.c (gt l x_16))) (Eq.trans (b := ORes.ofP (guardV (decide (7 ≤ ((l.flatMap api_Banded.c).drop (x_16.toNat * 7)).length)) (.agg (((l.flatMap api_Banded.c).drop (x_16.toNat * 7)).take 7)))) (by kernel_rfl) (flat_load api_Banded.len (inR_lt hg27) (by decide) (by omega : x_16.toNat * 7 = x_16.toNat * 7 + 0) (by kernel_rfl))) <| .mu 2 <| .done <| .n2 68 [(0, slT api_Banded.c l), (7, .hp 0 0), (22, slT api_Banded.c l), (23, aI64 (l.length : Int)), (24, aI64 x_16)] [.own (api_Banded.c (gt l x_16))] <| .seq ?_
     obtain ⟨hg28, hr⟩ := gd hr
     refine .regionT fine callOf_nil <| .mu 1 <| .pure (v := .pp (l.flatMap api_Banded.c) ((0 : Int).toNat * 7)) (by kernel_rfl) (Eq.trans (b := ORes.ofP (guardV (inR 0 l.length) (.pp (l.flatMap api_Banded.c) ((0 : Int).toNat * 7)))) (by kernel_rfl) (ofP_guard hg28)) (by kernel_rfl) <| .mu 1 <| .pure (v := .agg (api_Grid.c (gt l 0).Grid)) (by kernel_rfl) (Eq.trans (b := ORes.ofP (guardV (decide (6 ≤ ((l.flatMap api_Banded.c).drop ((0 : Int).toNat * 7 + 0)).length)) (.agg (((l.flatMap api_Banded.c).drop ((0 : Int).toNat * 7 + 0)).take 6)))) (by kernel_rfl) (flat_load api_Banded.len (inR_lt hg28) (by decide) (by omega : (0 : Int).toNat * 7 + 0 = (0 : Int).toNat * 7 + 0) (by kernel_rfl))) (by kernel_rfl) <| .mu 6 ?_
     refine .done ⟨by kernel_rfl, ?_⟩
     refine .n2 68 [(0, slT api_Banded.c l), (8, .hp 1 0), (9, .hp 2 0), (22, slT api_Banded.c l), (23, aI64 (l.length : Int)), (24, aI64 x_16)] [.own (api_Banded.c (gt l x_16)), .own (api_Grid.c (gt l 0).Grid), .own (api_Grid.c (gt l x_16).Grid)] <| .seq ?_
     rcases Bool.eq_false_or_eq_true (((gt l 0).Grid.X0 : Int) != (gt l x_16).Grid.X0) with hb29 | hb29
     ·replace hr := cd_t hb29 hr
      refine .r0 fine <| .mu 4 <| .p0 (v := aB true) (Eq.trans (b := some (.pure (aB (((gt l 0).Grid.X0 : Int) != (gt l x_16).Grid.X0)))) (by kernel_rfl) (by rw [hb29])) <| .mu 28 <| .done <| .n2 68 [(0, slT api_Banded.c l), (22, slT api_Banded.c l), (23, aI64 (l.length : Int)), (24, aI64 x_16), (66, aB true)] [.own (api_Banded.c (gt l x_16)), .own (api_Grid.c (gt l 0).Grid), .own (api_Grid.c (gt l x_16).Grid)] <| .cT (by kernel_rfl) <| .seq <| .ru fine <| .ret ?_
      obtain rfl := Option.some.inj hr
      exact ⟨rfl, FinQ.ret (vs := [aI64 4]) (by kernel_rfl) (Sn.pure rfl)⟩
     ·replace hr := cd_f hb29 hr
      rcases Bool.eq_false_or_eq_true (((gt l 0).Grid.Y0 : Int) != (gt l x_16).Grid.Y0) with hb30 | hb30
      ·replace hr := cd_t hb30 hr
       refine .r0 fine <| .mu 4 <| .p0 (v := aB false) (Eq.trans (b := some (.pure (aB (((gt l 0).Grid.X0 : Int) != (gt l x_16).Grid.X0)))) (by kernel_rfl) (by rw [hb29])) <| .mu 5 <| .pure (v := aB true) (by kernel_rfl) (Eq.trans (b := some (.pure (aB (((gt l 0).Grid.Y0 : Int) != (gt l x_16).Grid.Y0)))) (by kernel_rfl) (by rw [hb30])) <| .mu 22 <| .done <| .n2 68 [(0, slT api_Banded.c l), (22, slT api_Banded.c l), (23, aI64 (l.length : Int)), (24, aI64 x_16), (66, aB true)] [.own (api_Banded.c (gt l x_16)), .own (api_Grid.c (gt l 0).Grid), .own (api_Grid.c (gt l x_16).Grid)] <| .cT (by kernel_rfl) <| .seq <| .ru fine <| .ret ?_
       obtain rfl := Option.some.inj hr
       exact ⟨rfl, FinQ.ret (vs := [aI64 4]) (by kernel_rfl) (Sn.pure rfl)⟩
      ·replace hr := cd_f hb30 hr
       rcases Bool.eq_false_or_eq_true (((gt l 0).Grid.Step : Int) != (gt l x_16).Grid.Step) with hb31 | hb31
       ·replace hr := cd_t hb31 hr
        refine .r0 fine <| .mu 4 <| .p0 (v := aB false) (Eq.trans (b := some (.pure (aB (((gt l 0).Grid.X0 : Int) != (gt l x_16).Grid.X0)))) (by kernel_rfl) (by rw [hb29])) <| .mu 5 <| .pure (v := aB false) (by kernel_rfl) (Eq.trans (b := some (.pure (aB (((gt l 0).Grid.Y0 : Int) != (gt l x_16).Grid.Y0)))) (by kernel_rfl) (by rw [hb30])) <| .mu 6 <| .pure (v := aB true) (by kernel_rfl) (Eq.trans (b := some (.pure (aB (((gt l 0).Grid.Step : Int) != (gt l x_16).Grid.Step)))) (by kernel_rfl) (by rw [hb31])) <| .mu 15 <| .done <| .n2 68 [(0, slT api_Banded.c l), (22, slT api_Banded.c l), (23, aI64 (l.length : Int)), (24, aI64 x_16), (66, aB true)] [.own (api_Banded.c (gt l x_16)), .own (api_Grid.c (gt l 0).Grid), .own (api_Grid.c (gt l x_16).Grid)] <| .cT (by kernel_rfl) <| .seq <| .ru fine <| .ret ?_
        obtain rfl := Option.some.inj hr
        exact ⟨rfl, FinQ.ret (vs := [aI64 4]) (by kernel_rfl) (Sn.pure rfl)⟩
       ·replace hr := cd_f hb31 hr
        rcases Bool.eq_false_or_eq_true (((gt l 0).Grid.Width : Int) != (gt l x_16).Grid.Width) with hb32 | hb32
        ·replace hr := cd_t hb32 hr
         refine .r0 fine <| .mu 4 <| .p0 (v := aB false) (Eq.trans (b := some (.pure (aB (((gt l 0).Grid.X0 : Int) != (gt l x_16).Grid.X0)))) (by kernel_rfl) (by rw [hb29])) <| .mu 5 <| .pure (v := aB false) (by kernel_rfl) (Eq.trans (b := some (.pure (aB (((gt l 0).Grid.Y0 : Int) != (gt l x_16).Grid.Y0)))) (by kernel_rfl) (by rw [hb30])) <| .mu 6 <| .pure (v := aB false) (by kernel_rfl) (Eq.trans (b := some (.pure (aB (((gt l 0).Grid.Step : Int) != (gt l x_16).Grid.Step)))) (by kernel_rfl) (by rw [hb31])) <| .mu 6 <| .pure (v := aB true) (by kernel_rfl) (Eq.trans (b := some (.pure (aB (((gt l 0).Grid.Width : Int) != (gt l x_16).Grid.Width)))) (by kernel_rfl) (by rw [hb32])) <| .mu 8 <| .done <| .n2 68 [(0, slT api_Banded.c l), (22, slT api_Banded.c l), (23, aI64 (l.length : Int)), (24, aI64 x_16), (66, aB true)] [.own (api_Banded.c (gt l x_16)), .own (api_Grid.c (gt l 0).Grid), .own (api_Grid.c (gt l x_16).Grid)] <| .cT (by kernel_rfl) <| .seq <| .ru fine <| .ret ?_
         obtain rfl := Option.some.inj hr
         exact ⟨rfl, FinQ.ret (vs := [aI64 4]) (by kernel_rfl) (Sn.pure rfl)⟩
        ·replace hr := cd_f hb32 hr
         refine .r0 fine <| .mu 4 <| .p0 (v := aB false) (Eq.trans (b := some (.pure (aB (((gt l 0).Grid.X0 : Int) != (gt l x_16).Grid.X0)))) (by kernel_rfl) (by rw [hb29])) <| .mu 5 <| .pure (v := aB false) (by kernel_rfl) (Eq.trans (b := some (.pure (aB (((gt l 0).Grid.Y0 : Int) != (gt l x_16).Grid.Y0)))) (by kernel_rfl) (by rw [hb30])) <| .mu 6 <| .pure (v := aB false) (by kernel_rfl) (Eq.trans (b := some (.pure (aB (((gt l 0).Grid.Step : Int) != (gt l x_16).Grid.Step)))) (by kernel_rfl) (by rw [hb31])) <| .mu 6 <| .pure (v := aB false) (by kernel_rfl) (Eq.trans (b := some (.pure (aB (((gt l 0).Grid.Width : Int) != (gt l x_16).Grid.Width)))) (by kernel_rfl) (by rw [hb32])) <| .mu 8 <| .done <| .n2 68 [(0, slT api_Banded.c l), (22, slT api_Banded.c l), (23, aI64 (l.length : Int)), (24, aI64 x_16), (66, aB (((gt l 0).Grid.Height : Int) != (gt l x_16).Grid.Height))] [.own (api_Banded.c (gt l x_16)), .own (api_Grid.c (gt l 0).Grid), .own (api_Grid.c (gt l x_16).Grid)] ?_
         refine .cd hr (fun hb33 hr => ?_) (fun hb33 hr => ?_)
         ·refine .seq <| .ru fine <| .ret ?_
          obtain rfl := Option.some.inj hr
          exact ⟨rfl, FinQ.ret (vs := [aI64 4]) (by kernel_rfl) (Sn.pure rfl)⟩
         ·refine .skip <| .pop <| .ru fine ?_
          exact loopF_back (wrapF .i64 (x_16 + 1)) hr ((Wk.gc [0, 22, 23, 24] [] rfl pK0).to (by kernel_rfl))
    ·refine .leave rfl ?_
     obtain rfl := Option.some.inj hr
     exact ⟨rfl, ((Wk.gc [] [] rfl pK0).to (by kernel_rfl))⟩
   ·rcases o34 with ⟨⟩ | r0
    ·rintro x st' hq36
     clear hL35
     obtain ⟨rfl, hq36⟩ := hq36
     refine CQ_exit _ rfl <| .wk hq36 <| .seq <| .ru fine <| .ret ?_
     obtain rfl := Option.some.inj hr
     exact FinQ.r1 [aI64 0]
    ·rintro x st' hq36
     clear hL35
     obtain ⟨rfl, hq36⟩ := hq36
     obtain rfl := Option.some.inj hr
     exact CQ_ret _ hq36
  ·rintro x st' hq15
   clear hL14
   obtain ⟨rfl, hq15⟩ := hq15
   obtain rfl := Option.some.inj hr
   exact CQ_ret _ hq15

theorem fiducialref02_Zero_inj {x' : api_Rat} {x'_ : api_Rat} (h : ([.agg [.at (.bool x'.Num.Negative), slT (iC .u32) x'.Num.Groups, .at (.bool x'.Den.Negative), slT (iC .u32) x'.Den.Groups]] : List AV) = [.agg [.at (.bool x'_.Num.Negative), slT (iC .u32) x'_.Num.Groups, .at (.bool x'_.Den.Negative), slT (iC .u32) x'_.Den.Groups]]) : x' = x'_ := by
 obtain ⟨⟨_, _⟩, ⟨_, _⟩⟩ := x'
 obtain ⟨⟨_, _⟩, ⟨_, _⟩⟩ := x'_
 simp only [List.cons.injEq, AV.agg.injEq, AV.at.injEq, Value.int.injEq, Value.bool.injEq, AV.fn.injEq, AV.pp.injEq, true_and, and_true, slT_inj_int] at h
 simp_all
theorem fiducialref02_Zero_cg (n : Nat) {x' : api_Rat} {x'_ : api_Rat} (h : ([.agg [.at (.bool x'.Num.Negative), slT (iC .u32) x'.Num.Groups, .at (.bool x'.Den.Negative), slT (iC .u32) x'.Den.Groups]] : List AV) = [.agg [.at (.bool x'_.Num.Negative), slT (iC .u32) x'_.Num.Groups, .at (.bool x'_.Den.Negative), slT (iC .u32) x'_.Den.Groups]]) : fiducialref02_Zero n x' = fiducialref02_Zero n x'_ := by
 obtain rfl := fiducialref02_Zero_inj h
 rfl
theorem fiducialref02_Zero_ok (n : Nat) (x' : api_Rat) (r : Bool) (hr : fiducialref02_Zero n x' = some r) : FnOk Tryz.prog 38 [.agg (api_Rat.c x')] (aB r) := by
 unfold fiducialref02_Zero at hr
 refine FnOk.bd fine Tryz.func38 [.tmp 2] ?_
 unfold Tryz.f38
 simp only [Option.getD_some]
 refine .seq <| .r2 fine 27 [(1, .hp 0 0)] [.own (api_Rat.c x')] <| .seq ?_
 rcases Bool.eq_false_or_eq_true (!x'.Num.Negative) with hb1 | hb1
 ·replace hr := cd_t hb1 hr
  rcases Bool.eq_false_or_eq_true (!x'.Den.Negative) with hb2 | hb2
  ·replace hr := cd_t hb2 hr
   rcases Bool.eq_false_or_eq_true (((x'.Num.Groups.length : Int) : Int) == 0) with hb3 | hb3
   ·replace hr := cd_t hb3 hr
    refine .r0 fine <| .mu 3 <| .p0 (v := aB true) (Eq.trans (b := some (.pure (aB (!x'.Num.Negative)))) (by kernel_rfl) (by rw [hb1])) <| .mu 4 <| .pure (v := aB true) (by kernel_rfl) (Eq.trans (b := some (.pure (aB (!x'.Den.Negative)))) (by kernel_rfl) (by rw [hb2])) <| .mu 6 <| .pure (v := aB true) (by kernel_rfl) (Eq.trans (b := some (.pure (aB (((x'.Num.Groups.length : Int) : Int) == 0)))) (by kernel_rfl) (by rw [hb3])) <| .mu 9 <| .done <| .ret ?_
    obtain rfl := Option.some.inj hr
    exact FinQ.r1 [aB (((x'.Den.Groups.length : Int) : Int) == 0)]
   ·replace hr := cd_f hb3 hr
    refine .r0 fine <| .mu 3 <| .p0 (v := aB true) (Eq.trans (b := some (.pure (aB (!x'.Num.Negative)))) (by kernel_rfl) (by rw [hb1])) <| .mu 4 <| .pure (v := aB true) (by kernel_rfl) (Eq.trans (b := some (.pure (aB (!x'.Den.Negative)))) (by kernel_rfl) (by rw [hb2])) <| .mu 6 <| .pure (v := aB false) (by kernel_rfl) (Eq.trans (b := some (.pure (aB (((x'.Num.Groups.length : Int) : Int) == 0)))) (by kernel_rfl) (by rw [hb3])) <| .mu 9 <| .done <| .ret ?_
    obtain rfl := Option.some.inj hr
    exact FinQ.r1 [aB false]
  ·replace hr := cd_f hb2 hr
   refine .r0 fine <| .mu 3 <| .p0 (v := aB true) (Eq.trans (b := some (.pure (aB (!x'.Num.Negative)))) (by kernel_rfl) (by rw [hb1])) <| .mu 4 <| .pure (v := aB false) (by kernel_rfl) (Eq.trans (b := some (.pure (aB (!x'.Den.Negative)))) (by kernel_rfl) (by rw [hb2])) <| .mu 16 <| .done <| .ret ?_
   obtain rfl := Option.some.inj hr
   exact FinQ.r1 [aB false]
 ·replace hr := cd_f hb1 hr
  refine .r0 fine <| .mu 3 <| .p0 (v := aB false) (Eq.trans (b := some (.pure (aB (!x'.Num.Negative)))) (by kernel_rfl) (by rw [hb1])) <| .mu 21 <| .done <| .ret ?_
  obtain rfl := Option.some.inj hr
  exact FinQ.r1 [aB false]

theorem fiducialref03_Zero_inj {a : api_Range} {a_ : api_Range} (h : ([.agg [.at (.bool a.Low.Num.Negative), slT (iC .u32) a.Low.Num.Groups, .at (.bool a.Low.Den.Negative), slT (iC .u32) a.Low.Den.Groups, .at (.bool a.High.Num.Negative), slT (iC .u32) a.High.Num.Groups, .at (.bool a.High.Den.Negative), slT (iC .u32) a.High.Den.Groups]] : List AV) = [.agg [.at (.bool a_.Low.Num.Negative), slT (iC .u32) a_.Low.Num.Groups, .at (.bool a_.Low.Den.Negative), slT (iC .u32) a_.Low.Den.Groups, .at (.bool a_.High.Num.Negative), slT (iC .u32) a_.High.Num.Groups, .at (.bool a_.High.Den.Negative), slT (iC .u32) a_.High.Den.Groups]]) : a = a_ := by
 obtain ⟨⟨⟨_, _⟩, ⟨_, _⟩⟩, ⟨⟨_, _⟩, ⟨_, _⟩⟩⟩ := a
 obtain ⟨⟨⟨_, _⟩, ⟨_, _⟩⟩, ⟨⟨_, _⟩, ⟨_, _⟩⟩⟩ := a_
 simp only [List.cons.injEq, AV.agg.injEq, AV.at.injEq, Value.int.injEq, Value.bool.injEq, AV.fn.injEq, AV.pp.injEq, true_and, and_true, slT_inj_int] at h
 simp_all
theorem fiducialref03_Zero_cg (n : Nat) {a : api_Range} {a_ : api_Range} (h : ([.agg [.at (.bool a.Low.Num.Negative), slT (iC .u32) a.Low.Num.Groups, .at (.bool a.Low.Den.Negative), slT (iC .u32) a.Low.Den.Groups, .at (.bool a.High.Num.Negative), slT (iC .u32) a.High.Num.Groups, .at (.bool a.High.Den.Negative), slT (iC .u32) a.High.Den.Groups]] : List AV) = [.agg [.at (.bool a_.Low.Num.Negative), slT (iC .u32) a_.Low.Num.Groups, .at (.bool a_.Low.Den.Negative), slT (iC .u32) a_.Low.Den.Groups, .at (.bool a_.High.Num.Negative), slT (iC .u32) a_.High.Num.Groups, .at (.bool a_.High.Den.Negative), slT (iC .u32) a_.High.Den.Groups]]) : fiducialref03_Zero n a = fiducialref03_Zero n a_ := by
 obtain rfl := fiducialref03_Zero_inj h
 rfl
theorem fiducialref03_Zero_ok (n : Nat) (a : api_Range) (r : Bool) (hr : fiducialref03_Zero n a = some r) : FnOk Tryz.prog 16 [.agg (api_Range.c a)] (aB r) := by
 unfold fiducialref03_Zero at hr
 refine FnOk.bd fine Tryz.func16 [.tmp 2] ?_
 unfold Tryz.f16
 simp only [Option.getD_some]
 refine .seq <| .r2 fine 11 [(1, .hp 0 0)] [.own (api_Range.c a)] <| .seq ?_
 obtain ⟨v1, hc2, hr⟩ := bd hr
 rcases Bool.eq_false_or_eq_true v1 with hb3 | hb3
 ·subst hb3
  replace hr := cd_t rfl hr
  obtain ⟨v4, hc5, hr⟩ := bd hr
  refine .gn fine (ca1 (ok0 (fiducialref02_Zero_ok n a.Low true hc2)) (ca3 (ok0 (fiducialref02_Zero_ok n a.High v4 hc5)))) <| .mu 2 <| .ca cf0 <| .mu 3 <| .ca (cfA (fun h => by rw [sv hc5 hc2 (fiducialref02_Zero_cg n h)]) cf0) <| .mu 2 <| .done <| .ret ?_
  obtain rfl := Option.some.inj hr
  exact FinQ.r1 [aB v4]
 ·subst hb3
  replace hr := cd_f rfl hr
  refine .g1 fine (ok0 (fiducialref02_Zero_ok n a.Low false hc2)) <| .mu 2 <| .ca cf0 <| .mu 6 <| .done <| .ret ?_
  obtain rfl := Option.some.inj hr
  exact FinQ.r1 [aB false]

theorem fiduciallaw59_both_ok (n : Nat) (a : api_Banded) (b : api_Banded) (k : Int) (r : Int × Int × Bool) (hr : fiduciallaw59_both n a b k = some r) : FnOk Tryz.prog 19 [.agg (api_Banded.c a), .agg (api_Banded.c b), aI64 k] (.tup [aI64 r.1, aI64 r.2.1, aB r.2.2]) := by
 unfold fiduciallaw59_both at hr
 refine FnOk.bd fine Tryz.func19 [.tmp 6, .tmp 7, .tmp 8] ?_
 unfold Tryz.f19
 simp only [Option.getD_some]
 refine .seq <| .r2 fine 43 [(2, aI64 k), (3, .hp 0 0), (4, .hp 1 0)] [.own (api_Banded.c a), .own (api_Banded.c b)] <| .seq ?_
 obtain ⟨hg1, hg2, hr⟩ := gd2 hr
 refine .regionT fine callOf_nil <| .mu 4 <| .pure (v := .pp (a.Grid.Z.flatMap (iC .i64)) (k.toNat * 1)) (by kernel_rfl) (Eq.trans (b := ORes.ofP (guardV (inR k a.Grid.Z.length) (.pp (a.Grid.Z.flatMap (iC .i64)) (k.toNat * 1)))) (by kernel_rfl) (ofP_guard hg1)) (by kernel_rfl) <| .pure (v := aI64 (gt a.Grid.Z k)) (by kernel_rfl) (Eq.trans (b := ORes.ofP ((a.Grid.Z.flatMap (iC .i64))[k.toNat * 1]?)) (by kernel_rfl) (ofP_some (flat_get (iC_len _) (inR_lt hg1) (by decide : 0 < 1) (by omega : k.toNat * 1 = k.toNat * 1 + 0) (by kernel_rfl)))) (by kernel_rfl) <| .mu 4 <| .pure (v := .pp (b.Grid.Z.flatMap (iC .i64)) (k.toNat * 1)) (by kernel_rfl) (Eq.trans (b := ORes.ofP (guardV (inR k b.Grid.Z.length) (.pp (b.Grid.Z.flatMap (iC .i64)) (k.toNat * 1)))) (by kernel_rfl) (ofP_guard hg2)) (by kernel_rfl) <| .pure (v := aI64 (gt b.Grid.Z k)) (by kernel_rfl) (Eq.trans (b := ORes.ofP ((b.Grid.Z.flatMap (iC .i64))[k.toNat * 1]?)) (by kernel_rfl) (ofP_some (flat_get (iC_len _) (inR_lt hg2) (by decide : 0 < 1) (by omega : k.toNat * 1 = k.toNat * 1 + 0) (by kernel_rfl)))) (by kernel_rfl) <| .mu 2 ?_
 refine .done ⟨by kernel_rfl, ?_⟩
 refine .n2 43 [(2, aI64 k), (3, .hp 0 0), (4, .hp 1 0), (9, aI64 (gt a.Grid.Z k)), (10, aI64 (gt b.Grid.Z k))] [.own (api_Banded.c a), .own (api_Banded.c b)] <| .seq ?_
 obtain ⟨hg3, hg4, hr⟩ := gd2 hr
 rcases Bool.eq_false_or_eq_true (((gt a.Grid.Z k) : Int) != (-2147483648)) with hb5 | hb5
 ·replace hr := cd_t hb5 hr
  refine .regionT fine callOf_nil <| .mu 6 <| .pure (v := .pp (a.Err.flatMap (iC .i64)) (k.toNat * 1)) (by kernel_rfl) (Eq.trans (b := ORes.ofP (guardV (inR k a.Err.length) (.pp (a.Err.flatMap (iC .i64)) (k.toNat * 1)))) (by kernel_rfl) (ofP_guard hg3)) (by kernel_rfl) <| .pure (v := aI64 (gt a.Err k)) (by kernel_rfl) (Eq.trans (b := ORes.ofP ((a.Err.flatMap (iC .i64))[k.toNat * 1]?)) (by kernel_rfl) (ofP_some (flat_get (iC_len _) (inR_lt hg3) (by decide : 0 < 1) (by omega : k.toNat * 1 = k.toNat * 1 + 0) (by kernel_rfl)))) (by kernel_rfl) <| .mu 3 <| .pure (v := .pp (b.Err.flatMap (iC .i64)) (k.toNat * 1)) (by kernel_rfl) (Eq.trans (b := ORes.ofP (guardV (inR k b.Err.length) (.pp (b.Err.flatMap (iC .i64)) (k.toNat * 1)))) (by kernel_rfl) (ofP_guard hg4)) (by kernel_rfl) <| .pure (v := aI64 (gt b.Err k)) (by kernel_rfl) (Eq.trans (b := ORes.ofP ((b.Err.flatMap (iC .i64))[k.toNat * 1]?)) (by kernel_rfl) (ofP_some (flat_get (iC_len _) (inR_lt hg4) (by decide : 0 < 1) (by omega : k.toNat * 1 = k.toNat * 1 + 0) (by kernel_rfl)))) (by kernel_rfl) <| .mu 2 <| .pure (v := aB true) (by kernel_rfl) (Eq.trans (b := some (.pure (aB (((gt a.Grid.Z k) : Int) != (-2147483648))))) (by kernel_rfl) (by rw [hb5])) (by kernel_rfl) <| .mu 7 ?_
  refine .done ⟨by kernel_rfl, ?_⟩
  refine .ret ?_
  obtain rfl := Option.some.inj hr
  exact FinQ.ret (vs := [aI64 (wrapF .i64 ((gt b.Grid.Z k) - (gt a.Grid.Z k))), aI64 (wrapF .i64 ((gt a.Err k) + (gt b.Err k))), aB (((gt b.Grid.Z k) : Int) != (-2147483648))]) (by kernel_rfl) (Sn.tup (SnL.cons (Sn.pure rfl) (SnL.cons (Sn.pure rfl) (SnL.cons (Sn.pure rfl) SnL.nil))))
 ·replace hr := cd_f hb5 hr
  refine .regionT fine callOf_nil <| .mu 6 <| .pure (v := .pp (a.Err.flatMap (iC .i64)) (k.toNat * 1)) (by kernel_rfl) (Eq.trans (b := ORes.ofP (guardV (inR k a.Err.length) (.pp (a.Err.flatMap (iC .i64)) (k.toNat * 1)))) (by kernel_rfl) (ofP_guard hg3)) (by kernel_rfl) <| .pure (v := aI64 (gt a.Err k)) (by kernel_rfl) (Eq.trans (b := ORes.ofP ((a.Err.flatMap (iC .i64))[k.toNat * 1]?)) (by kernel_rfl) (ofP_some (flat_get (iC_len _) (inR_lt hg3) (by decide : 0 < 1) (by omega : k.toNat * 1 = k.toNat * 1 + 0) (by kernel_rfl)))) (by kernel_rfl) <| .mu 3 <| .pure (v := .pp (b.Err.flatMap (iC .i64)) (k.toNat * 1)) (by kernel_rfl) (Eq.trans (b := ORes.ofP (guardV (inR k b.Err.length) (.pp (b.Err.flatMap (iC .i64)) (k.toNat * 1)))) (by kernel_rfl) (ofP_guard hg4)) (by kernel_rfl) <| .pure (v := aI64 (gt b.Err k)) (by kernel_rfl) (Eq.trans (b := ORes.ofP ((b.Err.flatMap (iC .i64))[k.toNat * 1]?)) (by kernel_rfl) (ofP_some (flat_get (iC_len _) (inR_lt hg4) (by decide : 0 < 1) (by omega : k.toNat * 1 = k.toNat * 1 + 0) (by kernel_rfl)))) (by kernel_rfl) <| .mu 2 <| .pure (v := aB false) (by kernel_rfl) (Eq.trans (b := some (.pure (aB (((gt a.Grid.Z k) : Int) != (-2147483648))))) (by kernel_rfl) (by rw [hb5])) (by kernel_rfl) <| .mu 7 ?_
  refine .done ⟨by kernel_rfl, ?_⟩
  refine .ret ?_
  obtain rfl := Option.some.inj hr
  exact FinQ.ret (vs := [aI64 (wrapF .i64 ((gt b.Grid.Z k) - (gt a.Grid.Z k))), aI64 (wrapF .i64 ((gt a.Err k) + (gt b.Err k))), aB false]) (by kernel_rfl) (Sn.tup (SnL.cons (Sn.pure rfl) (SnL.cons (Sn.pure rfl) (SnL.cons (Sn.pure rfl) SnL.nil))))

theorem fiduciallaw59_total_ok (n : Nat) (a : api_Banded) (b : api_Banded) (r : api_Range × api_Range) (hr : fiduciallaw59_total n a b = some r) : FnOk Tryz.prog 24 [.agg (api_Banded.c a), .agg (api_Banded.c b)] (.tup [.agg (api_Range.c r.1), .agg (api_Range.c r.2)]) := by
 unfold fiduciallaw59_total at hr
 refine FnOk.bd fine Tryz.func24 [.cell 4 39, .cell 5 39] ?_
 unfold Tryz.f24
 simp only [Option.getD_some]
 refine .seq <| .r2 fine 89 [(2, .hp 0 0), (3, .hp 1 0), (4, .hp 2 0), (5, .hp 3 0)] [.own (api_Banded.c a), .own (api_Banded.c b), .own [aB false, nS, aB false, nS, aB false, nS, aB false, nS], .own [aB false, nS, aB false, nS, aB false, nS, aB false, nS]] <| .seq <| .r2 fine 89 [(2, .hp 0 0), (3, .hp 1 0), (4, .hp 2 0), (5, .hp 3 0), (6, .hp 4 0)] [.own (api_Banded.c a), .own (api_Banded.c b), .own [aB false, nS, aB false, nS, aB false, nS, aB false, nS], .own [aB false, nS, aB false, nS, aB false, nS, aB false, nS], .own [aI64 0, aI64 0, aI64 0, aI64 0]] <| .seq <| .seq <| .r3 fine 89 [(2, .hp 0 0), (3, .hp 1 0), (4, .hp 2 0), (5, .hp 3 0), (6, .hp 4 0), (16, aI64 (a.Grid.Z.length : Int)), (17, aI64 0)] <| .block ?_
 replace hr := bd hr; obtain ⟨o19, hL20, hr⟩ := hr
 refine .loopO (σ := fun z0 => match z0 with | (l_1, l_2, l_3, l_4, x_5) => ⟨mkS 89 0 [(2, .hp 0 0), (3, .hp 1 0), (4, .hp 2 0), (5, .hp 3 0), (6, .hp 4 0), (16, aI64 (a.Grid.Z.length : Int)), (17, aI64 x_5)], [.own (api_Banded.c a), .own (api_Banded.c b), .own [aB false, nS, aB false, nS, aB false, nS, aB false, nS], .own [aB false, nS, aB false, nS, aB false, nS, aB false, nS], .own [aI64 l_1, aI64 l_2, aI64 l_3, aI64 l_4]]⟩) (Q := fun x st' => match (generalizing := false) o19 with | (l_10, l_11, l_12, l_13) => x = .exit 0 ∧ Wk 0 st' ⟨mkS 89 0 [(2, .hp 0 0), (4, .hp 1 0), (5, .hp 2 0), (6, .hp 3 0)], [.own (api_Banded.c a), .own [aB false, nS, aB false, nS, aB false, nS, aB false, nS], .own [aB false, nS, aB false, nS, aB false, nS, aB false, nS], .own [aI64 l_10, aI64 l_11, aI64 l_12, aI64 l_13]]⟩) hL20 ((Wk.gc [2, 3, 4, 5, 6, 16, 17] [(0, true), (1, true), (2, true), (3, true), (4, true)] rfl trivial).to (by kernel_rfl)) ?_ ?_
 ·clear hr
  rintro m ⟨l_1, l_2, l_3, l_4, x_5⟩ hr
  show CQ _ _ _ _ _ ⟨_, _⟩
  refine .seq <| .r3 fine 89 [(2, .hp 0 0), (3, .hp 1 0), (4, .hp 2 0), (5, .hp 3 0), (6, .hp 4 0), (16, aI64 (a.Grid.Z.length : Int)), (17, aI64 x_5), (18, aB (decide (x_5 < (a.Grid.Z.length : Int))))] <| .seq ?_
  refine .cd hr (fun hb15 hr => ?_) (fun hb15 hr => ?_)
  ·refine .skip <| .seq <| .block <| .seq <| .r3 fine 89 [(2, .hp 0 0), (3, .hp 1 0), (4, .hp 2 0), (5, .hp 3 0), (6, .hp 4 0), (7, aI64 x_5), (16, aI64 (a.Grid.Z.length : Int)), (17, aI64 x_5)] <| .seq ?_
   obtain ⟨v16, hc17, hr⟩ := bd hr
   refine .g1 fine (ok0 (fiduciallaw59_both_ok n a b x_5 v16 hc17)) <| .mu 3 <| .ca cf0 <| .mu 7 <| .done <| .n2 89 [(2, .hp 0 0), (3, .hp 1 0), (4, .hp 2 0), (5, .hp 3 0), (6, .hp 4 0), (8, aI64 v16.1), (9, aI64 v16.2.1), (10, aB v16.2.2), (16, aI64 (a.Grid.Z.length : Int)), (17, aI64 x_5)] [.own (api_Banded.c a), .own (api_Banded.c b), .own [aB false, nS, aB false, nS, aB false, nS, aB false, nS], .own [aB false, nS, aB false, nS, aB false, nS, aB false, nS], .own [aI64 l_1, aI64 l_2, aI64 l_3, aI64 l_4]] <| .seq <| .r3 fine 89 [(2, .hp 0 0), (3, .hp 1 0), (4, .hp 2 0), (5, .hp 3 0), (6, .hp 4 0), (8, aI64 v16.1), (9, aI64 v16.2.1), (16, aI64 (a.Grid.Z.length : Int)), (17, aI64 x_5), (28, aB v16.2.2)] ?_
   refine .cd hr (fun hb18 hr => ?_) (fun hb18 hr => ?_)
   ·refine .seq <| .r2 fine 89 [(2, .hp 0 0), (3, .hp 1 0), (4, .hp 2 0), (5, .hp 3 0), (6, .hp 4 0), (8, aI64 v16.1), (9, aI64 v16.2.1), (16, aI64 (a.Grid.Z.length : Int)), (17, aI64 x_5)] [.own (api_Banded.c a), .own (api_Banded.c b), .own [aB false, nS, aB false, nS, aB false, nS, aB false, nS], .own [aB false, nS, aB false, nS, aB false, nS, aB false, nS], .own [aI64 (wrapF .i64 (l_1 + (mx 0 (wrapF .i64 (v16.1 - v16.2.1))))), aI64 l_2, aI64 l_3, aI64 l_4]] <| .seq <| .r2 fine 89 [(2, .hp 0 0), (3, .hp 1 0), (4, .hp 2 0), (5, .hp 3 0), (6, .hp 4 0), (8, aI64 v16.1), (9, aI64 v16.2.1), (16, aI64 (a.Grid.Z.length : Int)), (17, aI64 x_5)] [.own (api_Banded.c a), .own (api_Banded.c b), .own [aB false, nS, aB false, nS, aB false, nS, aB false, nS], .own [aB false, nS, aB false, nS, aB false, nS, aB false, nS], .own [aI64 (wrapF .i64 (l_1 + (mx 0 (wrapF .i64 (v16.1 - v16.2.1))))), aI64 (wrapF .i64 (l_2 + (mx 0 (wrapF .i64 (v16.1 + v16.2.1))))), aI64 l_3, aI64 l_4]] <| .seq <| .r0 fine <| .mu 3 <| .p0 (v := aI64 (wrapF .i64 (0 - v16.1))) (Eq.trans (b := some (.pure (aI64 (IntKind.wrap .i64 (0 - v16.1))))) (by kernel_rfl) wrap_at) <| .mu 6 <| .done <| .n2 89 [(2, .hp 0 0), (3, .hp 1 0), (4, .hp 2 0), (5, .hp 3 0), (6, .hp 4 0), (8, aI64 v16.1), (9, aI64 v16.2.1), (16, aI64 (a.Grid.Z.length : Int)), (17, aI64 x_5)] [.own (api_Banded.c a), .own (api_Banded.c b), .own [aB false, nS, aB false, nS, aB false, nS, aB false, nS], .own [aB false, nS, aB false, nS, aB false, nS, aB false, nS], .own [aI64 (wrapF .i64 (l_1 + (mx 0 (wrapF .i64 (v16.1 - v16.2.1))))), aI64 (wrapF .i64 (l_2 + (mx 0 (wrapF .i64 (v16.1 + v16.2.1))))), aI64 (wrapF .i64 (l_3 + (mx 0 (wrapF .i64 ((wrapF .i64 (0 - v16.1)) - v16.2.1))))), aI64 l_4]] <| .r0 fine <| .mu 3 <| .p0 (v := aI64 (wrapF .i64 (0 - v16.1))) (Eq.trans (b := some (.pure (aI64 (IntKind.wrap .i64 (0 - v16.1))))) (by kernel_rfl) wrap_at) <| .mu 6 <| .done <| .pop <| .ru fine ?_
    exact loopF_back (wrapF .i64 (l_1 + (mx 0 (wrapF .i64 (v16.1 - v16.2.1)))), wrapF .i64 (l_2 + (mx 0 (wrapF .i64 (v16.1 + v16.2.1)))), wrapF .i64 (l_3 + (mx 0 (wrapF .i64 ((wrapF .i64 (0 - v16.1)) - v16.2.1)))), wrapF .i64 (l_4 + (mx 0 (wrapF .i64 ((wrapF .i64 (0 - v16.1)) + v16.2.1)))), wrapF .i64 (x_5 + 1)) hr ((Wk.gc [2, 3, 4, 5, 6, 16, 17] [(0, true), (1, true), (2, true), (3, true), (4, true)] rfl trivial).to (by kernel_rfl))
   ·refine .skip <| .pop <| .ru fine ?_
    exact loopF_back (l_1, l_2, l_3, l_4, wrapF .i64 (x_5 + 1)) hr ((Wk.gc [2, 3, 4, 5, 6, 16, 17] [(0, true), (1, true), (2, true), (3, true), (4, true)] rfl trivial).to (by kernel_rfl))
  ·refine .leave rfl ?_
   obtain rfl := Option.some.inj hr
   exact ⟨rfl, ((Wk.gc [2, 4, 5, 6] [(0, true), (2, true), (3, true), (4, true)] rfl trivial).to (by kernel_rfl))⟩
 ·rcases o19 with ⟨l_10, l_11, l_12, l_13⟩
  rintro x st' hq21
  clear hL20
  obtain ⟨rfl, hq21⟩ := hq21
  refine CQ_exit _ rfl <| .wk hq21 <| .seq <| .r3 fine 89 [(4, .hp 1 0), (5, .hp 2 0), (6, .hp 3 0), (11, aI64 (wrapF .i64 (a.Grid.Step * a.Grid.Step)))] <| .seq ?_
  obtain ⟨v22, hc23, v24, hc25, hr⟩ := bd2 hr
  refine .tn fine (ca1 (ok0 (fiducialref03_Whole_ok n (wrapF .i64 ((wrapF .i64 (a.Grid.Step * a.Grid.Step)) * l_10)) (wrapF .i64 ((wrapF .i64 (a.Grid.Step * a.Grid.Step)) * l_11)) v22 hc23)) (ca3 (ok0 (fiducialref03_Whole_ok n (wrapF .i64 ((wrapF .i64 (a.Grid.Step * a.Grid.Step)) * l_12)) (wrapF .i64 ((wrapF .i64 (a.Grid.Step * a.Grid.Step)) * l_13)) v24 hc25)))) <| .mu 8 <| .ca cf0 <| .mu 8 <| .ca (cfA (fun h => by rw [sv hc25 hc23 (fiducialref03_Whole_cg n h)]) cf0) <| .mu 2 ?_
  refine .done ⟨by kernel_rfl, ?_⟩
  refine .n2 89 [(4, .hp 1 0), (5, .hp 2 0)] [.own (api_Banded.c a), .own (api_Range.c v22), .own (api_Range.c v24), .own [aI64 l_10, aI64 l_11, aI64 l_12, aI64 l_13]] <| .ret ?_
  obtain rfl := Option.some.inj hr
  exact FinQ.ret (vs := [.agg (api_Range.c v22), .agg (api_Range.c v24)]) (by kernel_rfl) (Sn.tup (SnL.cons (Sn.pure rfl) (SnL.cons (Sn.pure rfl) SnL.nil)))

theorem fiduciallaw59_truth_inj {b : api_Banded} {k : Int} {part : Int} {b_ : api_Banded} {k_ : Int} {part_ : Int} (h : ([.agg [.at (.int .i64 b.Grid.X0), .at (.int .i64 b.Grid.Y0), .at (.int .i64 b.Grid.Step), .at (.int .i64 b.Grid.Width), .at (.int .i64 b.Grid.Height), slT (iC .i64) b.Grid.Z, slT (iC .i64) b.Err], .at (.int .i64 k), .at (.int .u8 part)] : List AV) = [.agg [.at (.int .i64 b_.Grid.X0), .at (.int .i64 b_.Grid.Y0), .at (.int .i64 b_.Grid.Step), .at (.int .i64 b_.Grid.Width), .at (.int .i64 b_.Grid.Height), slT (iC .i64) b_.Grid.Z, slT (iC .i64) b_.Err], .at (.int .i64 k_), .at (.int .u8 part_)]) : b = b_ ∧ k = k_ ∧ part = part_ := by
 obtain ⟨⟨_, _, _, _, _, _⟩, _⟩ := b
 obtain ⟨⟨_, _, _, _, _, _⟩, _⟩ := b_
 simp only [List.cons.injEq, AV.agg.injEq, AV.at.injEq, Value.int.injEq, Value.bool.injEq, AV.fn.injEq, AV.pp.injEq, true_and, and_true, slT_inj_int] at h
 simp_all
theorem fiduciallaw59_truth_cg (n : Nat) {b : api_Banded} {k : Int} {part : Int} {b_ : api_Banded} {k_ : Int} {part_ : Int} (h : ([.agg [.at (.int .i64 b.Grid.X0), .at (.int .i64 b.Grid.Y0), .at (.int .i64 b.Grid.Step), .at (.int .i64 b.Grid.Width), .at (.int .i64 b.Grid.Height), slT (iC .i64) b.Grid.Z, slT (iC .i64) b.Err], .at (.int .i64 k), .at (.int .u8 part)] : List AV) = [.agg [.at (.int .i64 b_.Grid.X0), .at (.int .i64 b_.Grid.Y0), .at (.int .i64 b_.Grid.Step), .at (.int .i64 b_.Grid.Width), .at (.int .i64 b_.Grid.Height), slT (iC .i64) b_.Grid.Z, slT (iC .i64) b_.Err], .at (.int .i64 k_), .at (.int .u8 part_)]) : fiduciallaw59_truth n b k part = fiduciallaw59_truth n b_ k_ part_ := by
 obtain ⟨rfl, rfl, rfl⟩ := fiduciallaw59_truth_inj h
 rfl
theorem fiduciallaw59_truth_ok (n : Nat) (b : api_Banded) (k : Int) (part : Int) (r : Int) (hr : fiduciallaw59_truth n b k part = some r) : FnOk Tryz.prog 20 [.agg (api_Banded.c b), aI64 k, aU8 part] (aI64 r) := by
 unfold fiduciallaw59_truth at hr
 refine FnOk.bd fine Tryz.func20 [.tmp 6] ?_
 unfold Tryz.f20
 simp only [Option.getD_some]
 refine .seq <| .r2 fine 30 [(1, aI64 k), (2, aU8 part), (3, .hp 0 0)] [.own (api_Banded.c b)] <| .seq ?_
 obtain ⟨hg1, hg2, hr⟩ := gd2 hr
 refine .regionT fine callOf_nil <| .mu 4 <| .pure (v := .pp (b.Grid.Z.flatMap (iC .i64)) (k.toNat * 1)) (by kernel_rfl) (Eq.trans (b := ORes.ofP (guardV (inR k b.Grid.Z.length) (.pp (b.Grid.Z.flatMap (iC .i64)) (k.toNat * 1)))) (by kernel_rfl) (ofP_guard hg1)) (by kernel_rfl) <| .pure (v := aI64 (gt b.Grid.Z k)) (by kernel_rfl) (Eq.trans (b := ORes.ofP ((b.Grid.Z.flatMap (iC .i64))[k.toNat * 1]?)) (by kernel_rfl) (ofP_some (flat_get (iC_len _) (inR_lt hg1) (by decide : 0 < 1) (by omega : k.toNat * 1 = k.toNat * 1 + 0) (by kernel_rfl)))) (by kernel_rfl) <| .mu 3 <| .pure (v := .pp (b.Err.flatMap (iC .i64)) (k.toNat * 1)) (by kernel_rfl) (Eq.trans (b := ORes.ofP (guardV (inR k b.Err.length) (.pp (b.Err.flatMap (iC .i64)) (k.toNat * 1)))) (by kernel_rfl) (ofP_guard hg2)) (by kernel_rfl) <| .pure (v := aI64 (gt b.Err k)) (by kernel_rfl) (Eq.trans (b := ORes.ofP ((b.Err.flatMap (iC .i64))[k.toNat * 1]?)) (by kernel_rfl) (ofP_some (flat_get (iC_len _) (inR_lt hg2) (by decide : 0 < 1) (by omega : k.toNat * 1 = k.toNat * 1 + 0) (by kernel_rfl)))) (by kernel_rfl) <| .mu 4 <| .pure (v := .pp (b.Err.flatMap (iC .i64)) (k.toNat * 1)) (by kernel_rfl) (Eq.trans (b := ORes.ofP (guardV (inR k b.Err.length) (.pp (b.Err.flatMap (iC .i64)) (k.toNat * 1)))) (by kernel_rfl) (ofP_guard hg2)) (by kernel_rfl) <| .pure (v := aI64 (gt b.Err k)) (by kernel_rfl) (Eq.trans (b := ORes.ofP ((b.Err.flatMap (iC .i64))[k.toNat * 1]?)) (by kernel_rfl) (ofP_some (flat_get (iC_len _) (inR_lt hg2) (by decide : 0 < 1) (by omega : k.toNat * 1 = k.toNat * 1 + 0) (by kernel_rfl)))) (by kernel_rfl) <| .mu 7 ?_
 refine .done ⟨by kernel_rfl, ?_⟩
 refine .ret ?_
 obtain rfl := Option.some.inj hr
 exact FinQ.r1 [aI64 (wrapF .i64 ((wrapF .i64 ((gt b.Grid.Z k) - (gt b.Err k))) + (wrapF .i64 ((wrapF .i64 ((wrapF .i64 (2 * (gt b.Err k))) * (wrapF .i64 part))).tdiv 255))))]

theorem fiducialref03_Has_inj {a : api_Range} {x' : api_Rat} {a_ : api_Range} {x'_ : api_Rat} (h : ([.agg [.at (.bool a.Low.Num.Negative), slT (iC .u32) a.Low.Num.Groups, .at (.bool a.Low.Den.Negative), slT (iC .u32) a.Low.Den.Groups, .at (.bool a.High.Num.Negative), slT (iC .u32) a.High.Num.Groups, .at (.bool a.High.Den.Negative), slT (iC .u32) a.High.Den.Groups], .agg [.at (.bool x'.Num.Negative), slT (iC .u32) x'.Num.Groups, .at (.bool x'.Den.Negative), slT (iC .u32) x'.Den.Groups]] : List AV) = [.agg [.at (.bool a_.Low.Num.Negative), slT (iC .u32) a_.Low.Num.Groups, .at (.bool a_.Low.Den.Negative), slT (iC .u32) a_.Low.Den.Groups, .at (.bool a_.High.Num.Negative), slT (iC .u32) a_.High.Num.Groups, .at (.bool a_.High.Den.Negative), slT (iC .u32) a_.High.Den.Groups], .agg [.at (.bool x'_.Num.Negative), slT (iC .u32) x'_.Num.Groups, .at (.bool x'_.Den.Negative), slT (iC .u32) x'_.Den.Groups]]) : a = a_ ∧ x' = x'_ := by
 obtain ⟨⟨⟨_, _⟩, ⟨_, _⟩⟩, ⟨⟨_, _⟩, ⟨_, _⟩⟩⟩ := a
 obtain ⟨⟨⟨_, _⟩, ⟨_, _⟩⟩, ⟨⟨_, _⟩, ⟨_, _⟩⟩⟩ := a_
 obtain ⟨⟨_, _⟩, ⟨_, _⟩⟩ := x'
 obtain ⟨⟨_, _⟩, ⟨_, _⟩⟩ := x'_
 simp only [List.cons.injEq, AV.agg.injEq, AV.at.injEq, Value.int.injEq, Value.bool.injEq, AV.fn.injEq, AV.pp.injEq, true_and, and_true, slT_inj_int] at h
 simp_all
theorem fiducialref03_Has_cg (n : Nat) {a : api_Range} {x' : api_Rat} {a_ : api_Range} {x'_ : api_Rat} (h : ([.agg [.at (.bool a.Low.Num.Negative), slT (iC .u32) a.Low.Num.Groups, .at (.bool a.Low.Den.Negative), slT (iC .u32) a.Low.Den.Groups, .at (.bool a.High.Num.Negative), slT (iC .u32) a.High.Num.Groups, .at (.bool a.High.Den.Negative), slT (iC .u32) a.High.Den.Groups], .agg [.at (.bool x'.Num.Negative), slT (iC .u32) x'.Num.Groups, .at (.bool x'.Den.Negative), slT (iC .u32) x'.Den.Groups]] : List AV) = [.agg [.at (.bool a_.Low.Num.Negative), slT (iC .u32) a_.Low.Num.Groups, .at (.bool a_.Low.Den.Negative), slT (iC .u32) a_.Low.Den.Groups, .at (.bool a_.High.Num.Negative), slT (iC .u32) a_.High.Num.Groups, .at (.bool a_.High.Den.Negative), slT (iC .u32) a_.High.Den.Groups], .agg [.at (.bool x'_.Num.Negative), slT (iC .u32) x'_.Num.Groups, .at (.bool x'_.Den.Negative), slT (iC .u32) x'_.Den.Groups]]) : fiducialref03_Has n a x' = fiducialref03_Has n a_ x'_ := by
 obtain ⟨rfl, rfl⟩ := fiducialref03_Has_inj h
 rfl
theorem fiducialref03_Has_ok (n : Nat) (a : api_Range) (x' : api_Rat) (r : Bool) (hr : fiducialref03_Has n a x' = some r) : FnOk Tryz.prog 21 [.agg (api_Range.c a), .agg (api_Rat.c x')] (aB r) := by
 unfold fiducialref03_Has at hr
 refine FnOk.bd fine Tryz.func21 [.tmp 4] ?_
 unfold Tryz.f21
 simp only [Option.getD_some]
 refine .seq <| .r2 fine 17 [(2, .hp 0 0), (3, .hp 1 0)] [.own (api_Range.c a), .own (api_Rat.c x')] <| .seq ?_
 obtain ⟨v1, hc2, hr⟩ := bd hr
 rcases Bool.eq_false_or_eq_true (decide (v1 ≤ 0)) with hb3 | hb3
 ·replace hr := cd_t hb3 hr
  obtain ⟨v4, hc5, hr⟩ := bd hr
  refine .gn fine (ca1 (ok0 (fiducialref02_Compare_ok n a.Low x' v1 hc2)) (ca3 (ok0 (fiducialref02_Compare_ok n x' a.High v4 hc5)))) <| .mu 3 <| .ca cf0 <| .p0 (v := aB true) (Eq.trans (b := some (.pure (aB (decide (v1 ≤ 0))))) (by kernel_rfl) (by rw [hb3])) <| .mu 4 <| .ca (cfA (fun h => by rw [sv hc5 hc2 (fiducialref02_Compare_cg n h)]) cf0) <| .mu 3 <| .done <| .ret ?_
  obtain rfl := Option.some.inj hr
  exact FinQ.r1 [aB (decide (v4 ≤ 0))]
 ·replace hr := cd_f hb3 hr
  refine .g1 fine (ok0 (fiducialref02_Compare_ok n a.Low x' v1 hc2)) <| .mu 3 <| .ca cf0 <| .p0 (v := aB false) (Eq.trans (b := some (.pure (aB (decide (v1 ≤ 0))))) (by kernel_rfl) (by rw [hb3])) <| .mu 8 <| .done <| .ret ?_
  obtain rfl := Option.some.inj hr
  exact FinQ.r1 [aB false]

theorem fiduciallaw59_ChangeTotals_ok (n : Nat) (a : api_Banded) (b : api_Banded) (parts : A2 (List Int)) (r : Bool) (hr : fiduciallaw59_ChangeTotals n a b parts = some r) : FnOk Tryz.prog 4 [.agg (api_Banded.c a), .agg (api_Banded.c b), .agg [sU8 parts.e0, sU8 parts.e1]] (aB r) := by
 unfold fiduciallaw59_ChangeTotals at hr
 refine FnOk.bd fine Tryz.func4 [.tmp 6] ?_
 unfold Tryz.f4
 simp only [Option.getD_some]
 refine .seq <| .r2 fine 154 [(3, .hp 0 0), (4, .hp 1 0), (5, .hp 2 0)] [.own (api_Banded.c a), .own (api_Banded.c b), .own [sU8 parts.e0, sU8 parts.e1]] <| .seq <| .seq ?_
 obtain ⟨v1, hc2, hr⟩ := bd hr
 refine .g1 fine (ok0 (fiduciallaw59_known_ok n v1 hc2)) <| .ca cf0 <| .mu 1 <| .done <| .n2 154 [(3, .hp 0 0), (4, .hp 1 0), (5, .hp 2 0), (22, aB (!v1))] [.own (api_Banded.c a), .own (api_Banded.c b), .own [sU8 parts.e0, sU8 parts.e1]] ?_
 refine .cd hr (fun hb4 hr => ?_) (fun hb4 hr => ?_)
 ·refine .seq <| .ru fine <| .ret ?_
  obtain rfl := Option.some.inj hr
  exact FinQ.r1 [aB false]
 ·refine .skip <| .seq <| .seq ?_
  obtain ⟨v5, hc6, hr⟩ := bd hr
  refine .gn fine (ca4 [.own (api_Banded.c a), .own (api_Banded.c b), .own [sU8 parts.e0, sU8 parts.e1], .own [aI64 a.Grid.X0, aI64 a.Grid.Y0, aI64 a.Grid.Step, aI64 a.Grid.Width, aI64 a.Grid.Height, sI64 a.Grid.Z, sI64 a.Err, aI64 b.Grid.X0, aI64 b.Grid.Y0, aI64 b.Grid.Step, aI64 b.Grid.Width, aI64 b.Grid.Height, sI64 b.Grid.Z, sI64 b.Err]] (callOk_val (args := [.hs 3 0 2 7]) (l := [3]) rfl (SnL.cons (Sn.hs rfl (.inl rfl) (SnC.cons (Sn.pure rfl) (SnC.cons (Sn.pure rfl) (SnC.cons (Sn.pure rfl) (SnC.cons (Sn.pure rfl) (SnC.cons (Sn.pure rfl) (SnC.cons (Sn.pure rfl) (SnC.cons (Sn.pure rfl) (SnC.cons (Sn.pure rfl) (SnC.cons (Sn.pure rfl) (SnC.cons (Sn.pure rfl) (SnC.cons (Sn.pure rfl) (SnC.cons (Sn.pure rfl) (SnC.cons (Sn.pure rfl) (SnC.cons (Sn.pure rfl) SnC.nil)))))))))))))) (fun h => nomatch h)) SnL.nil) (fiduciallaw59_few_ok n [a, b] v5 hc6))) <| .mu 3 <| .ca cf0 <| .mu 1 <| .done <| .n2 154 [(3, .hp 0 0), (4, .hp 1 0), (5, .hp 2 0), (27, aB (!v5))] [.own (api_Banded.c a), .own (api_Banded.c b), .own [sU8 parts.e0, sU8 parts.e1], .own [aI64 a.Grid.X0, aI64 a.Grid.Y0, aI64 a.Grid.Step, aI64 a.Grid.Width, aI64 a.Grid.Height, sI64 a.Grid.Z, sI64 a.Err, aI64 b.Grid.X0, aI64 b.Grid.Y0, aI64 b.Grid.Step, aI64 b.Grid.Width, aI64 b.Grid.Height, sI64 b.Grid.Z, sI64 b.Err]] ?_
  refine .cd hr (fun hb8 hr => ?_) (fun hb8 hr => ?_)
  ·refine .seq <| .ru fine <| .ret ?_
   obtain rfl := Option.some.inj hr
   exact FinQ.r1 [aB true]
  ·refine .skip <| .seq ?_
   obtain ⟨v9, hc10, hr⟩ := bd hr
   refine .g1 fine (ok0 (change_Total_ok n a b v9 hc10)) <| .mu 2 <| .ca cf0 <| .mu 9 <| .done <| .n2 154 [(3, .hp 0 0), (4, .hp 1 0), (5, .hp 2 0), (7, .hp 4 0), (8, .hp 5 0), (9, aI64 v9.2.2)] [.own (api_Banded.c a), .own (api_Banded.c b), .own [sU8 parts.e0, sU8 parts.e1], .own [aI64 a.Grid.X0, aI64 a.Grid.Y0, aI64 a.Grid.Step, aI64 a.Grid.Width, aI64 a.Grid.Height, sI64 a.Grid.Z, sI64 a.Err, aI64 b.Grid.X0, aI64 b.Grid.Y0, aI64 b.Grid.Step, aI64 b.Grid.Width, aI64 b.Grid.Height, sI64 b.Grid.Z, sI64 b.Err], .own (api_Range.c v9.1), .own (api_Range.c v9.2.1)] <| .seq <| .seq ?_
   obtain ⟨v11, hc12, hr⟩ := bd hr
   refine .gn fine (ca4 [.own (api_Banded.c a), .own (api_Banded.c b), .own [sU8 parts.e0, sU8 parts.e1], .own [aI64 a.Grid.X0, aI64 a.Grid.Y0, aI64 a.Grid.Step, aI64 a.Grid.Width, aI64 a.Grid.Height, sI64 a.Grid.Z, sI64 a.Err, aI64 b.Grid.X0, aI64 b.Grid.Y0, aI64 b.Grid.Step, aI64 b.Grid.Width, aI64 b.Grid.Height, sI64 b.Grid.Z, sI64 b.Err], .own (api_Range.c v9.1), .own (api_Range.c v9.2.1), .own [aI64 a.Grid.X0, aI64 a.Grid.Y0, aI64 a.Grid.Step, aI64 a.Grid.Width, aI64 a.Grid.Height, sI64 a.Grid.Z, sI64 a.Err, aI64 b.Grid.X0, aI64 b.Grid.Y0, aI64 b.Grid.Step, aI64 b.Grid.Width, aI64 b.Grid.Height, sI64 b.Grid.Z, sI64 b.Err]] (callOk_val (args := [.hs 6 0 2 7]) (l := [6]) rfl (SnL.cons (Sn.hs rfl (.inl rfl) (SnC.cons (Sn.pure rfl) (SnC.cons (Sn.pure rfl) (SnC.cons (Sn.pure rfl) (SnC.cons (Sn.pure rfl) (SnC.cons (Sn.pure rfl) (SnC.cons (Sn.pure rfl) (SnC.cons (Sn.pure rfl) (SnC.cons (Sn.pure rfl) (SnC.cons (Sn.pure rfl) (SnC.cons (Sn.pure rfl) (SnC.cons (Sn.pure rfl) (SnC.cons (Sn.pure rfl) (SnC.cons (Sn.pure rfl) (SnC.cons (Sn.pure rfl) SnC.nil)))))))))))))) (fun h => nomatch h)) SnL.nil) (fiduciallaw59_fits_ok n [a, b] v11 hc12))) <| .mu 3 <| .ca cf0 <| .mu 1 <| .done <| .n2 154 [(3, .hp 0 0), (4, .hp 1 0), (5, .hp 2 0), (7, .hp 4 0), (8, .hp 5 0), (9, aI64 v9.2.2), (10, aI64 v11)] [.own (api_Banded.c a), .own (api_Banded.c b), .own [sU8 parts.e0, sU8 parts.e1], .own [aI64 a.Grid.X0, aI64 a.Grid.Y0, aI64 a.Grid.Step, aI64 a.Grid.Width, aI64 a.Grid.Height, sI64 a.Grid.Z, sI64 a.Err, aI64 b.Grid.X0, aI64 b.Grid.Y0, aI64 b.Grid.Step, aI64 b.Grid.Width, aI64 b.Grid.Height, sI64 b.Grid.Z, sI64 b.Err], .own (api_Range.c v9.1), .own (api_Range.c v9.2.1), .own [aI64 a.Grid.X0, aI64 a.Grid.Y0, aI64 a.Grid.Step, aI64 a.Grid.Width, aI64 a.Grid.Height, sI64 a.Grid.Z, sI64 a.Err, aI64 b.Grid.X0, aI64 b.Grid.Y0, aI64 b.Grid.Step, aI64 b.Grid.Width, aI64 b.Grid.Height, sI64 b.Grid.Z, sI64 b.Err]] <| .seq <| .r3 fine 154 [(3, .hp 0 0), (4, .hp 1 0), (5, .hp 2 0), (7, .hp 4 0), (8, .hp 5 0), (9, aI64 v9.2.2), (10, aI64 v11), (40, aB ((v11 : Int) != 0))] ?_
   refine .cd hr (fun hb20 hr => ?_) (fun hb20 hr => ?_)
   ·refine .seq ?_
    replace hr := bd hr; obtain ⟨x_21, hL29, hr⟩ := hr
    refine .app1 (Q := fun x st' => x = .normal ∧ Wk 0 st' ⟨mkS 154 0 [(6, aB x_21)], []⟩) ?_ ?_
    ·clear hr
     have hr := hL29
     clear hL29
     rcases Bool.eq_false_or_eq_true ((v9.2.2 : Int) == v11) with hb22 | hb22
     ·replace hr := cd_t hb22 hr
      obtain ⟨v23, hc24, hr⟩ := bd hr
      rcases Bool.eq_false_or_eq_true v23 with hb25 | hb25
      ·subst hb25
       replace hr := cd_t rfl hr
       obtain ⟨v26, hc27, hr⟩ := bd hr
       refine .gn fine (ca1 (ok0 (fiducialref03_Zero_ok n v9.1 true hc24)) (ca3 (ok0 (fiducialref03_Zero_ok n v9.2.1 v26 hc27)))) <| .mu 2 <| .p0 (v := aB true) (Eq.trans (b := some (.pure (aB ((v9.2.2 : Int) == v11)))) (by kernel_rfl) (by rw [hb22])) <| .mu 2 <| .ca cf0 <| .mu 3 <| .ca (cfA (fun h => by rw [sv hc27 hc24 (fiducialref03_Zero_cg n h)]) cf0) <| .mu 2 <| .done ?_
       obtain rfl := Option.some.inj hr
       exact ⟨rfl, ((Wk.gc [6] [] rfl pK0).to (by kernel_rfl))⟩
      ·subst hb25
       replace hr := cd_f rfl hr
       refine .g1 fine (ok0 (fiducialref03_Zero_ok n v9.1 false hc24)) <| .mu 2 <| .p0 (v := aB true) (Eq.trans (b := some (.pure (aB ((v9.2.2 : Int) == v11)))) (by kernel_rfl) (by rw [hb22])) <| .mu 2 <| .ca cf0 <| .mu 6 <| .done ?_
       obtain rfl := Option.some.inj hr
       exact ⟨rfl, ((Wk.gc [6] [] rfl pK0).to (by kernel_rfl))⟩
     ·replace hr := cd_f hb22 hr
      refine .r0 fine <| .mu 2 <| .p0 (v := aB false) (Eq.trans (b := some (.pure (aB ((v9.2.2 : Int) == v11)))) (by kernel_rfl) (by rw [hb22])) <| .mu 9 <| .done ?_
      obtain rfl := Option.some.inj hr
      exact ⟨rfl, ((Wk.gc [6] [] rfl pK0).to (by kernel_rfl))⟩
    ·rintro x st' hq30
     clear hL29
     obtain ⟨rfl, hq30⟩ := hq30
     refine .wk hq30 <| .ret ?_
     obtain rfl := Option.some.inj hr
     exact FinQ.r1 [aB x_21]
   ·refine .skip <| .seq ?_
    obtain ⟨v31, hc32, hr⟩ := bd hr
    refine .g1 fine (ok0 (fiduciallaw59_total_ok n a b v31 hc32)) <| .mu 2 <| .ca cf0 <| .mu 7 <| .done <| .n2 154 [(3, .hp 0 0), (4, .hp 1 0), (5, .hp 2 0), (7, .hp 4 0), (8, .hp 5 0), (9, aI64 v9.2.2), (11, .hp 7 0), (12, .hp 8 0)] [.own (api_Banded.c a), .own (api_Banded.c b), .own [sU8 parts.e0, sU8 parts.e1], .own [aI64 a.Grid.X0, aI64 a.Grid.Y0, aI64 a.Grid.Step, aI64 a.Grid.Width, aI64 a.Grid.Height, sI64 a.Grid.Z, sI64 a.Err, aI64 b.Grid.X0, aI64 b.Grid.Y0, aI64 b.Grid.Step, aI64 b.Grid.Width, aI64 b.Grid.Height, sI64 b.Grid.Z, sI64 b.Err], .own (api_Range.c v9.1), .own (api_Range.c v9.2.1), .own [aI64 a.Grid.X0, aI64 a.Grid.Y0, aI64 a.Grid.Step, aI64 a.Grid.Width, aI64 a.Grid.Height, sI64 a.Grid.Z, sI64 a.Err, aI64 b.Grid.X0, aI64 b.Grid.Y0, aI64 b.Grid.Step, aI64 b.Grid.Width, aI64 b.Grid.Height, sI64 b.Grid.Z, sI64 b.Err], .own (api_Range.c v31.1), .own (api_Range.c v31.2)] <| .seq <| .seq ?_
    rcases Bool.eq_false_or_eq_true ((v9.2.2 : Int) != 0) with hb33 | hb33
    ·replace hr := cd_t hb33 hr
     refine .r0 fine <| .mu 1 <| .p0 (v := aB true) (Eq.trans (b := some (.pure (aB ((v9.2.2 : Int) != 0)))) (by kernel_rfl) (by rw [hb33])) <| .mu 12 <| .done <| .n2 154 [(3, .hp 0 0), (4, .hp 1 0), (5, .hp 2 0), (7, .hp 4 0), (8, .hp 5 0), (71, aB true)] [.own (api_Banded.c a), .own (api_Banded.c b), .own [sU8 parts.e0, sU8 parts.e1], .own [aI64 a.Grid.X0, aI64 a.Grid.Y0, aI64 a.Grid.Step, aI64 a.Grid.Width, aI64 a.Grid.Height, sI64 a.Grid.Z, sI64 a.Err, aI64 b.Grid.X0, aI64 b.Grid.Y0, aI64 b.Grid.Step, aI64 b.Grid.Width, aI64 b.Grid.Height, sI64 b.Grid.Z, sI64 b.Err], .own (api_Range.c v9.1), .own (api_Range.c v9.2.1), .own [aI64 a.Grid.X0, aI64 a.Grid.Y0, aI64 a.Grid.Step, aI64 a.Grid.Width, aI64 a.Grid.Height, sI64 a.Grid.Z, sI64 a.Err, aI64 b.Grid.X0, aI64 b.Grid.Y0, aI64 b.Grid.Step, aI64 b.Grid.Width, aI64 b.Grid.Height, sI64 b.Grid.Z, sI64 b.Err], .own (api_Range.c v31.1), .own (api_Range.c v31.2)] <| .cT (by kernel_rfl) <| .seq <| .ru fine <| .ret ?_
     obtain rfl := Option.some.inj hr
     exact FinQ.r1 [aB false]
    ·replace hr := cd_f hb33 hr
     obtain ⟨v34, hc35, hr⟩ := bd hr
     rcases Bool.eq_false_or_eq_true (!v34) with hb36 | hb36
     ·replace hr := cd_t hb36 hr
      refine .g1 fine (ok0 (fiducialref03_Same_ok n v9.1 v31.1 v34 hc35)) <| .mu 1 <| .p0 (v := aB false) (Eq.trans (b := some (.pure (aB ((v9.2.2 : Int) != 0)))) (by kernel_rfl) (by rw [hb33])) <| .mu 3 <| .ca cf0 <| .pure (v := aB true) (by kernel_rfl) (Eq.trans (b := some (.pure (aB (!v34)))) (by kernel_rfl) (by rw [hb36])) <| .mu 7 <| .done <| .n2 154 [(3, .hp 0 0), (4, .hp 1 0), (5, .hp 2 0), (7, .hp 4 0), (8, .hp 5 0), (71, aB true)] [.own (api_Banded.c a), .own (api_Banded.c b), .own [sU8 parts.e0, sU8 parts.e1], .own [aI64 a.Grid.X0, aI64 a.Grid.Y0, aI64 a.Grid.Step, aI64 a.Grid.Width, aI64 a.Grid.Height, sI64 a.Grid.Z, sI64 a.Err, aI64 b.Grid.X0, aI64 b.Grid.Y0, aI64 b.Grid.Step, aI64 b.Grid.Width, aI64 b.Grid.Height, sI64 b.Grid.Z, sI64 b.Err], .own (api_Range.c v9.1), .own (api_Range.c v9.2.1), .own [aI64 a.Grid.X0, aI64 a.Grid.Y0, aI64 a.Grid.Step, aI64 a.Grid.Width, aI64 a.Grid.Height, sI64 a.Grid.Z, sI64 a.Err, aI64 b.Grid.X0, aI64 b.Grid.Y0, aI64 b.Grid.Step, aI64 b.Grid.Width, aI64 b.Grid.Height, sI64 b.Grid.Z, sI64 b.Err], .own (api_Range.c v31.1), .own (api_Range.c v31.2)] <| .cT (by kernel_rfl) <| .seq <| .ru fine <| .ret ?_
      obtain rfl := Option.some.inj hr
      exact FinQ.r1 [aB false]
     ·replace hr := cd_f hb36 hr
      obtain ⟨v37, hc38, hr⟩ := bd hr
      refine .gn fine (ca1 (ok0 (fiducialref03_Same_ok n v9.1 v31.1 v34 hc35)) (ca3 (ok0 (fiducialref03_Same_ok n v9.2.1 v31.2 v37 hc38)))) <| .mu 1 <| .p0 (v := aB false) (Eq.trans (b := some (.pure (aB ((v9.2.2 : Int) != 0)))) (by kernel_rfl) (by rw [hb33])) <| .mu 3 <| .ca cf0 <| .pure (v := aB false) (by kernel_rfl) (Eq.trans (b := some (.pure (aB (!v34)))) (by kernel_rfl) (by rw [hb36])) <| .mu 4 <| .ca (cfA (fun h => by rw [sv hc38 hc35 (fiducialref03_Same_cg n h)]) cf0) <| .mu 2 <| .done <| .n2 154 [(3, .hp 0 0), (4, .hp 1 0), (5, .hp 2 0), (7, .hp 4 0), (8, .hp 5 0), (71, aB (!v37))] [.own (api_Banded.c a), .own (api_Banded.c b), .own [sU8 parts.e0, sU8 parts.e1], .own [aI64 a.Grid.X0, aI64 a.Grid.Y0, aI64 a.Grid.Step, aI64 a.Grid.Width, aI64 a.Grid.Height, sI64 a.Grid.Z, sI64 a.Err, aI64 b.Grid.X0, aI64 b.Grid.Y0, aI64 b.Grid.Step, aI64 b.Grid.Width, aI64 b.Grid.Height, sI64 b.Grid.Z, sI64 b.Err], .own (api_Range.c v9.1), .own (api_Range.c v9.2.1), .own [aI64 a.Grid.X0, aI64 a.Grid.Y0, aI64 a.Grid.Step, aI64 a.Grid.Width, aI64 a.Grid.Height, sI64 a.Grid.Z, sI64 a.Err, aI64 b.Grid.X0, aI64 b.Grid.Y0, aI64 b.Grid.Step, aI64 b.Grid.Width, aI64 b.Grid.Height, sI64 b.Grid.Z, sI64 b.Err], .own (api_Range.c v31.1), .own (api_Range.c v31.2)] ?_
      refine .cd hr (fun hb40 hr => ?_) (fun hb40 hr => ?_)
      ·refine .seq <| .ru fine <| .ret ?_
       obtain rfl := Option.some.inj hr
       exact FinQ.r1 [aB false]
      ·refine .skip <| .seq <| .seq ?_
       rcases Bool.eq_false_or_eq_true (decide ((parts.e0.length : Int) < (a.Grid.Z.length : Int))) with hb41 | hb41
       ·replace hr := cd_t hb41 hr
        refine .r0 fine <| .mu 7 <| .p0 (v := aB true) (Eq.trans (b := some (.pure (aB (decide ((parts.e0.length : Int) < (a.Grid.Z.length : Int)))))) (by kernel_rfl) (by rw [hb41])) <| .mu 10 <| .done <| .n2 154 [(3, .hp 0 0), (4, .hp 1 0), (5, .hp 2 0), (7, .hp 4 0), (8, .hp 5 0), (89, aB true)] [.own (api_Banded.c a), .own (api_Banded.c b), .own [sU8 parts.e0, sU8 parts.e1], .own [aI64 a.Grid.X0, aI64 a.Grid.Y0, aI64 a.Grid.Step, aI64 a.Grid.Width, aI64 a.Grid.Height, sI64 a.Grid.Z, sI64 a.Err, aI64 b.Grid.X0, aI64 b.Grid.Y0, aI64 b.Grid.Step, aI64 b.Grid.Width, aI64 b.Grid.Height, sI64 b.Grid.Z, sI64 b.Err], .own (api_Range.c v9.1), .own (api_Range.c v9.2.1), .own [aI64 a.Grid.X0, aI64 a.Grid.Y0, aI64 a.Grid.Step, aI64 a.Grid.Width, aI64 a.Grid.Height, sI64 a.Grid.Z, sI64 a.Err, aI64 b.Grid.X0, aI64 b.Grid.Y0, aI64 b.Grid.Step, aI64 b.Grid.Width, aI64 b.Grid.Height, sI64 b.Grid.Z, sI64 b.Err], .own (api_Range.c v31.1), .own (api_Range.c v31.2)] <| .cT (by kernel_rfl) <| .seq <| .ru fine <| .ret ?_
        obtain rfl := Option.some.inj hr
        exact FinQ.r1 [aB true]
       ·replace hr := cd_f hb41 hr
        refine .r0 fine <| .mu 7 <| .p0 (v := aB false) (Eq.trans (b := some (.pure (aB (decide ((parts.e0.length : Int) < (a.Grid.Z.length : Int)))))) (by kernel_rfl) (by rw [hb41])) <| .mu 10 <| .done <| .n2 154 [(3, .hp 0 0), (4, .hp 1 0), (5, .hp 2 0), (7, .hp 4 0), (8, .hp 5 0), (89, aB (decide ((parts.e1.length : Int) < (a.Grid.Z.length : Int))))] [.own (api_Banded.c a), .own (api_Banded.c b), .own [sU8 parts.e0, sU8 parts.e1], .own [aI64 a.Grid.X0, aI64 a.Grid.Y0, aI64 a.Grid.Step, aI64 a.Grid.Width, aI64 a.Grid.Height, sI64 a.Grid.Z, sI64 a.Err, aI64 b.Grid.X0, aI64 b.Grid.Y0, aI64 b.Grid.Step, aI64 b.Grid.Width, aI64 b.Grid.Height, sI64 b.Grid.Z, sI64 b.Err], .own (api_Range.c v9.1), .own (api_Range.c v9.2.1), .own [aI64 a.Grid.X0, aI64 a.Grid.Y0, aI64 a.Grid.Step, aI64 a.Grid.Width, aI64 a.Grid.Height, sI64 a.Grid.Z, sI64 a.Err, aI64 b.Grid.X0, aI64 b.Grid.Y0, aI64 b.Grid.Step, aI64 b.Grid.Width, aI64 b.Grid.Height, sI64 b.Grid.Z, sI64 b.Err], .own (api_Range.c v31.1), .own (api_Range.c v31.2)] ?_
        refine .cd hr (fun hb43 hr => ?_) (fun hb43 hr => ?_)
        ·refine .seq <| .ru fine <| .ret ?_
         obtain rfl := Option.some.inj hr
         exact FinQ.r1 [aB true]
        ·refine .skip <| .seq <| .r3 fine 154 [(3, .hp 0 0), (4, .hp 1 0), (5, .hp 2 0), (7, .hp 4 0), (8, .hp 5 0), (13, aI64 0), (14, aI64 0)] <| .seq <| .seq <| .r3 fine 154 [(3, .hp 0 0), (4, .hp 1 0), (5, .hp 2 0), (7, .hp 4 0), (8, .hp 5 0), (13, aI64 0), (14, aI64 0), (93, aI64 (a.Grid.Z.length : Int)), (94, aI64 0)] <| .block ?_
         replace hr := bd hr; obtain ⟨o103, hL104, hr⟩ := hr
         refine .loopO (σ := fun z0 => match z0 with | (added_75, removed_76, x_77) => ⟨mkS 154 0 [(3, .hp 0 0), (4, .hp 1 0), (5, .hp 2 0), (7, .hp 3 0), (8, .hp 4 0), (13, aI64 added_75), (14, aI64 removed_76), (93, aI64 (a.Grid.Z.length : Int)), (94, aI64 x_77)], [.own (api_Banded.c a), .own (api_Banded.c b), .own [sU8 parts.e0, sU8 parts.e1], .own (api_Range.c v9.1), .own (api_Range.c v9.2.1)]⟩) (Q := fun x st' => match (generalizing := false) o103 with | (added_89, removed_90) => x = .exit 0 ∧ Wk 0 st' ⟨mkS 154 0 [(3, .hp 0 0), (7, .hp 1 0), (8, .hp 2 0), (13, aI64 added_89), (14, aI64 removed_90)], [.own (api_Banded.c a), .own (api_Range.c v9.1), .own (api_Range.c v9.2.1)]⟩) hL104 ((Wk.gc [3, 4, 5, 7, 8, 13, 14, 93, 94] [(0, true), (1, true), (2, true), (4, true), (5, true)] rfl trivial).to (by kernel_rfl)) ?_ ?_
         ·clear hr
          rintro m ⟨added_75, removed_76, x_77⟩ hr
          show CQ _ _ _ _ _ ⟨_, _⟩
          refine .seq <| .r3 fine 154 [(3, .hp 0 0), (4, .hp 1 0), (5, .hp 2 0), (7, .hp 3 0), (8, .hp 4 0), (13, aI64 added_75), (14, aI64 removed_76), (93, aI64 (a.Grid.Z.length : Int)), (94, aI64 x_77), (95, aB (decide (x_77 < (a.Grid.Z.length : Int))))] <| .seq ?_
          refine .cd hr (fun hb93 hr => ?_) (fun hb93 hr => ?_)
          ·refine .skip <| .seq <| .block <| .seq <| .r3 fine 154 [(3, .hp 0 0), (4, .hp 1 0), (5, .hp 2 0), (7, .hp 3 0), (8, .hp 4 0), (13, aI64 added_75), (14, aI64 removed_76), (15, aI64 x_77), (93, aI64 (a.Grid.Z.length : Int)), (94, aI64 x_77)] <| .seq ?_
           obtain ⟨v94, hc95, hr⟩ := bd hr
           refine .g1 fine (ok0 (fiduciallaw59_both_ok n a b x_77 v94 hc95)) <| .mu 3 <| .ca cf0 <| .mu 7 <| .done <| .n2 154 [(3, .hp 0 0), (4, .hp 1 0), (5, .hp 2 0), (7, .hp 3 0), (8, .hp 4 0), (13, aI64 added_75), (14, aI64 removed_76), (15, aI64 x_77), (18, aB v94.2.2), (93, aI64 (a.Grid.Z.length : Int)), (94, aI64 x_77)] [.own (api_Banded.c a), .own (api_Banded.c b), .own [sU8 parts.e0, sU8 parts.e1], .own (api_Range.c v9.1), .own (api_Range.c v9.2.1)] <| .seq <| .r3 fine 154 [(3, .hp 0 0), (4, .hp 1 0), (5, .hp 2 0), (7, .hp 3 0), (8, .hp 4 0), (13, aI64 added_75), (14, aI64 removed_76), (15, aI64 x_77), (93, aI64 (a.Grid.Z.length : Int)), (94, aI64 x_77), (105, aB v94.2.2)] ?_
           refine .cd hr (fun hb96 hr => ?_) (fun hb96 hr => ?_)
           ·refine .seq ?_
            obtain ⟨hg97, hr⟩ := gd hr
            obtain ⟨v98, hc99, hr⟩ := bd hr
            obtain ⟨hg100, hr⟩ := gd hr
            obtain ⟨v101, hc102, hr⟩ := bd hr
            refine .tn fine (ca1 (ok0 (fiduciallaw59_truth_ok n b x_77 (gt parts.e1 x_77) v98 hc99)) (ca3 (ok0 (fiduciallaw59_truth_ok n a x_77 (gt parts.e0 x_77) v101 hc102)))) <| .mu 5 <| .pure (v := .pp (parts.e1.flatMap (iC .u8)) (x_77.toNat * 1)) (by kernel_rfl) (Eq.trans (b := ORes.ofP (guardV (inR x_77 parts.e1.length) (.pp (parts.e1.flatMap (iC .u8)) (x_77.toNat * 1)))) (by kernel_rfl) (ofP_guard hg97)) (by kernel_rfl) <| .pure (v := aU8 (gt parts.e1 x_77)) (by kernel_rfl) (Eq.trans (b := ORes.ofP ((parts.e1.flatMap (iC .u8))[x_77.toNat * 1]?)) (by kernel_rfl) (ofP_some (flat_get (iC_len _) (inR_lt hg97) (by decide : 0 < 1) (by omega : x_77.toNat * 1 = x_77.toNat * 1 + 0) (by kernel_rfl)))) (by kernel_rfl) <| .ca cf0 <| .mu 5 <| .pure (v := .pp (parts.e0.flatMap (iC .u8)) (x_77.toNat * 1)) (by kernel_rfl) (Eq.trans (b := ORes.ofP (guardV (inR x_77 parts.e0.length) (.pp (parts.e0.flatMap (iC .u8)) (x_77.toNat * 1)))) (by kernel_rfl) (ofP_guard hg100)) (by kernel_rfl) <| .pure (v := aU8 (gt parts.e0 x_77)) (by kernel_rfl) (Eq.trans (b := ORes.ofP ((parts.e0.flatMap (iC .u8))[x_77.toNat * 1]?)) (by kernel_rfl) (ofP_some (flat_get (iC_len _) (inR_lt hg100) (by decide : 0 < 1) (by omega : x_77.toNat * 1 = x_77.toNat * 1 + 0) (by kernel_rfl)))) (by kernel_rfl) <| .ca (cfA (fun h => by rw [sv hc102 hc99 (fiduciallaw59_truth_cg n h)]) cf0) <| .mu 2 ?_
            refine .done ⟨by kernel_rfl, ?_⟩
            refine .n2 154 [(3, .hp 0 0), (4, .hp 1 0), (5, .hp 2 0), (7, .hp 3 0), (8, .hp 4 0), (13, aI64 added_75), (14, aI64 removed_76), (19, aI64 (wrapF .i64 (v98 - v101))), (93, aI64 (a.Grid.Z.length : Int)), (94, aI64 x_77)] [.own (api_Banded.c a), .own (api_Banded.c b), .own [sU8 parts.e0, sU8 parts.e1], .own (api_Range.c v9.1), .own (api_Range.c v9.2.1)] <| .seq <| .r3 fine 154 [(3, .hp 0 0), (4, .hp 1 0), (5, .hp 2 0), (7, .hp 3 0), (8, .hp 4 0), (13, aI64 (wrapF .i64 (added_75 + (mx 0 (wrapF .i64 (v98 - v101)))))), (14, aI64 removed_76), (19, aI64 (wrapF .i64 (v98 - v101))), (93, aI64 (a.Grid.Z.length : Int)), (94, aI64 x_77)] <| .r0 fine <| .mu 2 <| .p0 (v := aI64 (wrapF .i64 (0 - (wrapF .i64 (v98 - v101))))) (Eq.trans (b := some (.pure (aI64 (IntKind.wrap .i64 (0 - (wrapF .i64 (v98 - v101))))))) (by kernel_rfl) wrap_at) <| .mu 3 <| .done <| .pop <| .ru fine ?_
            exact loopF_back (wrapF .i64 (added_75 + (mx 0 (wrapF .i64 (v98 - v101)))), wrapF .i64 (removed_76 + (mx 0 (wrapF .i64 (0 - (wrapF .i64 (v98 - v101)))))), wrapF .i64 (x_77 + 1)) hr ((Wk.gc [3, 4, 5, 7, 8, 13, 14, 93, 94] [(0, true), (1, true), (2, true), (3, true), (4, true)] rfl trivial).to (by kernel_rfl))
           ·refine .skip <| .pop <| .ru fine ?_
            exact loopF_back (added_75, removed_76, wrapF .i64 (x_77 + 1)) hr ((Wk.gc [3, 4, 5, 7, 8, 13, 14, 93, 94] [(0, true), (1, true), (2, true), (3, true), (4, true)] rfl trivial).to (by kernel_rfl))
          ·refine .leave rfl ?_
           obtain rfl := Option.some.inj hr
           exact ⟨rfl, ((Wk.gc [3, 7, 8, 13, 14] [(0, true), (3, true), (4, true)] rfl trivial).to (by kernel_rfl))⟩
         ·rcases o103 with ⟨added_89, removed_90⟩
          rintro x st' hq105
          clear hL104
          obtain ⟨rfl, hq105⟩ := hq105
          refine CQ_exit _ rfl <| .wk hq105 <| .seq <| .r3 fine 154 [(7, .hp 1 0), (8, .hp 2 0), (13, aI64 added_89), (14, aI64 removed_90), (20, aI64 (wrapF .i64 (a.Grid.Step * a.Grid.Step)))] <| .seq ?_
          obtain ⟨v106, hc107, v108, hc109, hr⟩ := bd2 hr
          rcases Bool.eq_false_or_eq_true v108 with hb110 | hb110
          ·subst hb110
           replace hr := cd_t rfl hr
           obtain ⟨v111, hc112, v113, hc114, hr⟩ := bd2 hr
           refine .tn fine (ca1 (ok0 (fiducialref02_Whole_ok n (wrapF .i64 ((wrapF .i64 (a.Grid.Step * a.Grid.Step)) * added_89)) v106 hc107)) (ca1 (ok0 (fiducialref03_Has_ok n v9.1 v106 true hc109)) (ca1 (ok0 (fiducialref02_Whole_ok n (wrapF .i64 ((wrapF .i64 (a.Grid.Step * a.Grid.Step)) * removed_90)) v111 hc112)) (ca3 (ok0 (fiducialref03_Has_ok n v9.2.1 v111 v113 hc114)))))) <| .mu 4 <| .ca cf0 <| .ca (cfF cf0) <| .mu 5 <| .ca (cfA (fun h => by rw [sv hc112 hc107 (fiducialref02_Whole_cg n h)]) (cfF cf0)) <| .ca (cfF (cfA (fun h => by rw [sv hc114 hc109 (fiducialref03_Has_cg n h)]) (cfF cf0))) <| .mu 2 ?_
           refine .done ⟨by kernel_rfl, ?_⟩
           refine .ret ?_
           obtain rfl := Option.some.inj hr
           exact FinQ.r1 [aB v113]
          ·subst hb110
           replace hr := cd_f rfl hr
           refine .tn fine (ca1 (ok0 (fiducialref02_Whole_ok n (wrapF .i64 ((wrapF .i64 (a.Grid.Step * a.Grid.Step)) * added_89)) v106 hc107)) (ca3 (ok0 (fiducialref03_Has_ok n v9.1 v106 false hc109)))) <| .mu 4 <| .ca cf0 <| .ca (cfF cf0) <| .mu 9 ?_
           refine .done ⟨by kernel_rfl, ?_⟩
           refine .ret ?_
           obtain rfl := Option.some.inj hr
           exact FinQ.r1 [aB false]
end Go.L
