/- The program's functions compute what the plain Lean programs compute, part 4; printed by a program. -/
import Derived.Test.YtlmndpmjbgnmbaaOccLP3
import Derived.Test.YtlmndpmjbgnmbaaL0lbjhopfj
import Derived.Test.YtlmndpmjbgnmbaaSmallgmeocgjp
import Derived.Test.YtlmndpmjbgnmbaaChecked
import Derived.KernelRfl
set_option linter.unusedVariables false
set_option linter.unusedSimpArgs false
set_option maxRecDepth 100000
set_option maxHeartbeats 4000000
namespace Go.L
open Go Go.Eng Go.Proofs
theorem fiduciallaw46_DepthOccludes_ok (n : Nat) (left : api_Field) (r : Bool) (hr : fiduciallaw46_DepthOccludes n left = some r) : FnOk Try.prog 3 [.agg (api_Field.c left)] (aB r) := by
 unfold fiduciallaw46_DepthOccludes at hr
 refine FnOk.bd fine Try.func3 [.tmp 2] ?_
 unfold Try.f3
 simp only [Option.getD_some]
 refine .seq <| .r2 fine 122 [(1, .hp 0 0)] [.own (api_Field.c left)] <| .seq <| .seq ?_
 obtain ⟨v1, hc2, hr⟩ := bd hr
 refine .g1 fine (ok0 (fiduciallaw46_known_ok n v1 hc2)) <| .ca cf0 <| .mu 1 <| .done <| .n2 122 [(1, .hp 0 0), (14, aB (!v1))] [.own (api_Field.c left)] ?_
 refine .cd hr (fun hb4 hr => ?_) (fun hb4 hr => ?_)
 ·refine .seq <| .ru fine <| .ret ?_
  obtain rfl := Option.some.inj hr
  exact FinQ.r1 [aB false]
 ·refine .skip <| .seq <| .seq ?_
  obtain ⟨v5, hc6, hr⟩ := bd hr
  rcases Bool.eq_false_or_eq_true (!v5) with hb7 | hb7
  ·replace hr := cd_t hb7 hr
   refine .g1 fine (ok0 (fiduciallaw46_few_ok n left v5 hc6)) <| .mu 1 <| .ca cf0 <| .p0 (v := aB true) (Eq.trans (b := some (.pure (aB (!v5)))) (by kernel_rfl) (by rw [hb7])) <| .mu 5 <| .done <| .n2 122 [(1, .hp 0 0), (22, aB true)] [.own (api_Field.c left)] <| .cT (by kernel_rfl) <| .seq <| .ru fine <| .ret ?_
   obtain rfl := Option.some.inj hr
   exact FinQ.r1 [aB true]
  ·replace hr := cd_f hb7 hr
   obtain ⟨v8, hc9, hr⟩ := bd hr
   refine .gn fine (ca1 (ok0 (fiduciallaw46_few_ok n left v5 hc6)) (ca3 (ok0 (fiduciallaw46_Valid_ok n left v8 hc9)))) <| .mu 1 <| .ca cf0 <| .p0 (v := aB false) (Eq.trans (b := some (.pure (aB (!v5)))) (by kernel_rfl) (by rw [hb7])) <| .mu 2 <| .ca (cfF cf0) <| .mu 2 <| .done <| .n2 122 [(1, .hp 0 0), (22, aB (!v8))] [.own (api_Field.c left)] ?_
   refine .cd hr (fun hb11 hr => ?_) (fun hb11 hr => ?_)
   ·refine .seq <| .ru fine <| .ret ?_
    obtain rfl := Option.some.inj hr
    exact FinQ.r1 [aB true]
   ·refine .skip <| .seq ?_
    obtain ⟨v12, hc13, hr⟩ := bd hr
    refine .g1 fine (ok0 (depth_Turn_ok n left v12 hc13)) <| .mu 1 <| .ca cf0 <| .mu 6 <| .done <| .n2 122 [(1, .hp 0 0), (3, .hp 1 0), (4, aI64 v12.2)] [.own (api_Field.c left), .own (api_Field.c v12.1)] <| .seq ?_
    obtain ⟨v14, hc15, hr⟩ := bd hr
    refine .g1 fine (ok0 (depth_Consistent_ok n left v12.1 0 v14 hc15)) <| .mu 2 <| .ca cf0 <| .mu 6 <| .done <| .n2 122 [(1, .hp 0 0), (4, aI64 v12.2), (5, .hp 2 0), (6, aI64 v14.2)] [.own (api_Field.c left), .own (api_Field.c v12.1), .own (api_Field.c v14.1)] <| .seq <| .seq ?_
    rcases Bool.eq_false_or_eq_true ((v12.2 : Int) != 0) with hb16 | hb16
    ·replace hr := cd_t hb16 hr
     refine .r0 fine <| .mu 1 <| .p0 (v := aB true) (Eq.trans (b := some (.pure (aB ((v12.2 : Int) != 0)))) (by kernel_rfl) (by rw [hb16])) <| .mu 18 <| .done <| .n2 122 [(1, .hp 0 0), (5, .hp 2 0), (53, aB true)] [.own (api_Field.c left), .own (api_Field.c v12.1), .own (api_Field.c v14.1)] <| .cT (by kernel_rfl) <| .seq <| .ru fine <| .ret ?_
     obtain rfl := Option.some.inj hr
     exact FinQ.r1 [aB false]
    ·replace hr := cd_f hb16 hr
     rcases Bool.eq_false_or_eq_true ((v14.2 : Int) != 0) with hb17 | hb17
     ·replace hr := cd_t hb17 hr
      refine .r0 fine <| .mu 1 <| .p0 (v := aB false) (Eq.trans (b := some (.pure (aB ((v12.2 : Int) != 0)))) (by kernel_rfl) (by rw [hb16])) <| .mu 2 <| .pure (v := aB true) (by kernel_rfl) (Eq.trans (b := some (.pure (aB ((v14.2 : Int) != 0)))) (by kernel_rfl) (by rw [hb17])) <| .mu 15 <| .done <| .n2 122 [(1, .hp 0 0), (5, .hp 2 0), (53, aB true)] [.own (api_Field.c left), .own (api_Field.c v12.1), .own (api_Field.c v14.1)] <| .cT (by kernel_rfl) <| .seq <| .ru fine <| .ret ?_
      obtain rfl := Option.some.inj hr
      exact FinQ.r1 [aB false]
     ·replace hr := cd_f hb17 hr
      obtain ⟨v18, hc19, hr⟩ := bd hr
      rcases Bool.eq_false_or_eq_true (!v18) with hb20 | hb20
      ·replace hr := cd_t hb20 hr
       refine .g1 fine (ok0 (fiduciallaw46_Valid_ok n v14.1 v18 hc19)) <| .mu 1 <| .p0 (v := aB false) (Eq.trans (b := some (.pure (aB ((v12.2 : Int) != 0)))) (by kernel_rfl) (by rw [hb16])) <| .mu 2 <| .pure (v := aB false) (by kernel_rfl) (Eq.trans (b := some (.pure (aB ((v14.2 : Int) != 0)))) (by kernel_rfl) (by rw [hb17])) <| .mu 3 <| .ca cf0 <| .pure (v := aB true) (by kernel_rfl) (Eq.trans (b := some (.pure (aB (!v18)))) (by kernel_rfl) (by rw [hb20])) <| .mu 10 <| .done <| .n2 122 [(1, .hp 0 0), (5, .hp 2 0), (53, aB true)] [.own (api_Field.c left), .own (api_Field.c v12.1), .own (api_Field.c v14.1)] <| .cT (by kernel_rfl) <| .seq <| .ru fine <| .ret ?_
       obtain rfl := Option.some.inj hr
       exact FinQ.r1 [aB false]
      ·replace hr := cd_f hb20 hr
       refine .g1 fine (ok0 (fiduciallaw46_Valid_ok n v14.1 v18 hc19)) <| .mu 1 <| .p0 (v := aB false) (Eq.trans (b := some (.pure (aB ((v12.2 : Int) != 0)))) (by kernel_rfl) (by rw [hb16])) <| .mu 2 <| .pure (v := aB false) (by kernel_rfl) (Eq.trans (b := some (.pure (aB ((v14.2 : Int) != 0)))) (by kernel_rfl) (by rw [hb17])) <| .mu 3 <| .ca cf0 <| .pure (v := aB false) (by kernel_rfl) (Eq.trans (b := some (.pure (aB (!v18)))) (by kernel_rfl) (by rw [hb20])) <| .mu 10 <| .done <| .n2 122 [(1, .hp 0 0), (5, .hp 2 0), (53, aB (((v14.1.V.length : Int) : Int) != (left.V.length : Int)))] [.own (api_Field.c left), .own (api_Field.c v12.1), .own (api_Field.c v14.1)] ?_
       refine .cd hr (fun hb22 hr => ?_) (fun hb22 hr => ?_)
       ·refine .seq <| .ru fine <| .ret ?_
        obtain rfl := Option.some.inj hr
        exact FinQ.r1 [aB false]
       ·refine .skip <| .seq <| .seq <| .r3 fine 122 [(1, .hp 0 0), (5, .hp 2 0), (55, aI64 left.Height), (56, aI64 0)] <| .block ?_
        replace hr := bd hr; obtain ⟨o279, hL280, hr⟩ := hr
        refine .loopO (σ := fun z0 => match z0 with | x_23 => ⟨mkS 122 0 [(1, .hp 0 0), (5, .hp 1 0), (55, aI64 left.Height), (56, aI64 x_23)], [.own (api_Field.c left), .own (api_Field.c v14.1)]⟩) (Q := fun x st' => match (generalizing := false) o279 with | .inl _ => x = .exit 0 ∧ Wk 0 st' ⟨mkS 122 0 [], []⟩ | .inr (r0) => x = .ret ∧ FinQ Try.prog [.tmp 2] (aB r0) .ret st') hL280 ((Wk.gc [1, 5, 55, 56] [(0, true), (2, true)] rfl trivial).to (by kernel_rfl)) ?_ ?_
        ·clear hr
         rintro m x_23 hr
         show CQ _ _ _ _ _ ⟨_, _⟩
         refine .seq <| .r3 fine 122 [(1, .hp 0 0), (5, .hp 1 0), (55, aI64 left.Height), (56, aI64 x_23), (57, aB (decide (x_23 < left.Height)))] <| .seq ?_
         refine .cd hr (fun hb153 hr => ?_) (fun hb153 hr => ?_)
         ·refine .skip <| .seq <| .block <| .seq <| .r3 fine 122 [(1, .hp 0 0), (5, .hp 1 0), (7, aI64 x_23), (55, aI64 left.Height), (56, aI64 x_23)] <| .seq <| .r3 fine 122 [(1, .hp 0 0), (5, .hp 1 0), (7, aI64 x_23), (55, aI64 left.Height), (56, aI64 x_23), (60, aI64 left.Width), (61, aI64 0)] <| .block ?_
          replace hr := bd hr; obtain ⟨o276, hL277, hr⟩ := hr
          refine .loopO (σ := fun z0 => match z0 with | x_154 => ⟨mkS 122 0 [(1, .hp 0 0), (5, .hp 1 0), (7, aI64 x_23), (55, aI64 left.Height), (56, aI64 x_23), (60, aI64 left.Width), (61, aI64 x_154)], [.own (api_Field.c left), .own (api_Field.c v14.1)]⟩) (Q := fun x st' => match (generalizing := false) o276 with | .inl _ => x = .exit 2 ∧ Wk 0 st' ⟨mkS 122 0 [(1, .hp 0 0), (5, .hp 1 0), (55, aI64 left.Height), (56, aI64 x_23)], [.own (api_Field.c left), .own (api_Field.c v14.1)]⟩ | .inr (r0) => x = .ret ∧ FinQ Try.prog [.tmp 2] (aB r0) .ret st') hL277 ((Wk.gc [1, 5, 7, 55, 56, 60, 61] [(0, true), (1, true)] rfl trivial).to (by kernel_rfl)) ?_ ?_
          ·clear hr
           rintro m x_154 hr
           show CQ _ _ _ _ _ ⟨_, _⟩
           refine .seq <| .r3 fine 122 [(1, .hp 0 0), (5, .hp 1 0), (7, aI64 x_23), (55, aI64 left.Height), (56, aI64 x_23), (60, aI64 left.Width), (61, aI64 x_154), (62, aB (decide (x_154 < left.Width)))] <| .seq ?_
           refine .cd hr (fun hb217 hr => ?_) (fun hb217 hr => ?_)
           ·refine .skip <| .seq <| .block <| .seq <| .r3 fine 122 [(1, .hp 0 0), (5, .hp 1 0), (7, aI64 x_23), (8, aI64 x_154), (55, aI64 left.Height), (56, aI64 x_23), (60, aI64 left.Width), (61, aI64 x_154)] <| .seq ?_
            obtain ⟨v218, hc219, hr⟩ := bd hr
            refine .g1 fine (ok0 (fiduciallaw46_At_ok n left x_154 x_23 v218 hc219)) <| .mu 3 <| .ca cf0 <| .mu 1 <| .done <| .n2 122 [(1, .hp 0 0), (5, .hp 1 0), (7, aI64 x_23), (8, aI64 x_154), (9, aI64 v218), (55, aI64 left.Height), (56, aI64 x_23), (60, aI64 left.Width), (61, aI64 x_154)] [.own (api_Field.c left), .own (api_Field.c v14.1)] <| .seq ?_
            replace hr := bd hr; obtain ⟨nearest_220, hL223, hr⟩ := hr
            refine .app1 (Q := fun x st' => x = .normal ∧ Wk 0 st' ⟨mkS 122 0 [(1, .hp 0 0), (5, .hp 1 0), (7, aI64 x_23), (8, aI64 x_154), (9, aI64 v218), (10, aB nearest_220), (55, aI64 left.Height), (56, aI64 x_23), (60, aI64 left.Width), (61, aI64 x_154)], [.own (api_Field.c left), .own (api_Field.c v14.1)]⟩) ?_ ?_
            ·clear hr
             have hr := hL223
             clear hL223
             rcases Bool.eq_false_or_eq_true (decide (v218 ≥ 0)) with hb221 | hb221
             ·replace hr := cd_t hb221 hr
              refine .r0 fine <| .mu 1 <| .p0 (v := aB true) (Eq.trans (b := some (.pure (aB (decide (v218 ≥ 0))))) (by kernel_rfl) (by rw [hb221])) <| .mu 7 <| .done ?_
              obtain rfl := Option.some.inj hr
              exact ⟨rfl, ((Wk.gc [1, 5, 7, 8, 9, 10, 55, 56, 60, 61] [(0, true), (1, true)] rfl trivial).to (by kernel_rfl))⟩
             ·replace hr := cd_f hb221 hr
              refine .r0 fine <| .mu 1 <| .p0 (v := aB false) (Eq.trans (b := some (.pure (aB (decide (v218 ≥ 0))))) (by kernel_rfl) (by rw [hb221])) <| .mu 7 <| .done ?_
              obtain rfl := Option.some.inj hr
              exact ⟨rfl, ((Wk.gc [1, 5, 7, 8, 9, 10, 55, 56, 60, 61] [(0, true), (1, true)] rfl trivial).to (by kernel_rfl))⟩
            ·rintro x st' hq224
             clear hL223
             obtain ⟨rfl, hq224⟩ := hq224
             refine .wk hq224 <| .seq <| .seq <| .r3 fine 122 [(1, .hp 0 0), (5, .hp 1 0), (7, aI64 x_23), (8, aI64 x_154), (9, aI64 v218), (10, aB nearest_220), (55, aI64 left.Height), (56, aI64 x_23), (60, aI64 left.Width), (61, aI64 x_154), (77, aI64 left.Width), (78, aI64 0)] <| .block ?_
             replace hr := bd hr; obtain ⟨nearest_255, hL265, hr⟩ := hr
             refine .loopO (σ := fun z0 => match z0 with | (nearest_246, x_247) => ⟨mkS 122 0 [(1, .hp 0 0), (5, .hp 1 0), (7, aI64 x_23), (8, aI64 x_154), (9, aI64 v218), (10, aB nearest_246), (55, aI64 left.Height), (56, aI64 x_23), (60, aI64 left.Width), (61, aI64 x_154), (77, aI64 left.Width), (78, aI64 x_247)], [.own (api_Field.c left), .own (api_Field.c v14.1)]⟩) (Q := fun x st' => x = .exit 4 ∧ Wk 0 st' ⟨mkS 122 0 [(1, .hp 0 0), (5, .hp 1 0), (7, aI64 x_23), (8, aI64 x_154), (9, aI64 v218), (10, aB nearest_255), (55, aI64 left.Height), (56, aI64 x_23), (60, aI64 left.Width), (61, aI64 x_154)], [.own (api_Field.c left), .own (api_Field.c v14.1)]⟩) hL265 ((Wk.gc [1, 5, 7, 8, 9, 10, 55, 56, 60, 61, 77, 78] [(0, true), (1, true)] rfl trivial).to (by kernel_rfl)) ?_ ?_
             ·clear hr
              rintro m ⟨nearest_246, x_247⟩ hr
              show CQ _ _ _ _ _ ⟨_, _⟩
              refine .seq <| .r3 fine 122 [(1, .hp 0 0), (5, .hp 1 0), (7, aI64 x_23), (8, aI64 x_154), (9, aI64 v218), (10, aB nearest_246), (55, aI64 left.Height), (56, aI64 x_23), (60, aI64 left.Width), (61, aI64 x_154), (77, aI64 left.Width), (78, aI64 x_247), (79, aB (decide (x_247 < left.Width)))] <| .seq ?_
              refine .cd hr (fun hb258 hr => ?_) (fun hb258 hr => ?_)
              ·refine .skip <| .seq <| .block <| .seq <| .r3 fine 122 [(1, .hp 0 0), (5, .hp 1 0), (7, aI64 x_23), (8, aI64 x_154), (9, aI64 v218), (10, aB nearest_246), (11, aI64 x_247), (55, aI64 left.Height), (56, aI64 x_23), (60, aI64 left.Width), (61, aI64 x_154), (77, aI64 left.Width), (78, aI64 x_247)] <| .seq ?_
               obtain ⟨v259, hc260, hr⟩ := bd hr
               refine .g1 fine (ok0 (fiduciallaw46_At_ok n left x_247 x_23 v259 hc260)) <| .mu 3 <| .ca cf0 <| .mu 1 <| .done <| .n2 122 [(1, .hp 0 0), (5, .hp 1 0), (7, aI64 x_23), (8, aI64 x_154), (9, aI64 v218), (10, aB nearest_246), (11, aI64 x_247), (12, aI64 v259), (55, aI64 left.Height), (56, aI64 x_23), (60, aI64 left.Width), (61, aI64 x_154), (77, aI64 left.Width), (78, aI64 x_247)] [.own (api_Field.c left), .own (api_Field.c v14.1)] <| .seq ?_
               rcases Bool.eq_false_or_eq_true (decide (v259 ≥ 0)) with hb261 | hb261
               ·replace hr := cd_t hb261 hr
                rcases Bool.eq_false_or_eq_true (((wrapF .i64 (x_247 - v259)) : Int) == (wrapF .i64 (x_154 - v218))) with hb262 | hb262
                ·replace hr := cd_t hb262 hr
                 refine .r0 fine <| .mu 1 <| .p0 (v := aB true) (Eq.trans (b := some (.pure (aB (decide (v259 ≥ 0))))) (by kernel_rfl) (by rw [hb261])) <| .mu 7 <| .pure (v := aB true) (by kernel_rfl) (Eq.trans (b := some (.pure (aB (((wrapF .i64 (x_247 - v259)) : Int) == (wrapF .i64 (x_154 - v218)))))) (by kernel_rfl) (by rw [hb262])) <| .mu 6 <| .done <| .n2 122 [(1, .hp 0 0), (5, .hp 1 0), (7, aI64 x_23), (8, aI64 x_154), (9, aI64 v218), (10, aB nearest_246), (55, aI64 left.Height), (56, aI64 x_23), (60, aI64 left.Width), (61, aI64 x_154), (77, aI64 left.Width), (78, aI64 x_247), (100, aB (decide (v259 > v218)))] [.own (api_Field.c left), .own (api_Field.c v14.1)] ?_
                 refine .cd hr (fun hb263 hr => ?_) (fun hb263 hr => ?_)
                 ·refine .ru fine <| .pop <| .ru fine ?_
                  exact loopF_back (false, wrapF .i64 (x_247 + 1)) hr ((Wk.gc [1, 5, 7, 8, 9, 10, 55, 56, 60, 61, 77, 78] [(0, true), (1, true)] rfl trivial).to (by kernel_rfl))
                 ·refine .skip <| .pop <| .ru fine ?_
                  exact loopF_back (nearest_246, wrapF .i64 (x_247 + 1)) hr ((Wk.gc [1, 5, 7, 8, 9, 10, 55, 56, 60, 61, 77, 78] [(0, true), (1, true)] rfl trivial).to (by kernel_rfl))
                ·replace hr := cd_f hb262 hr
                 refine .r0 fine <| .mu 1 <| .p0 (v := aB true) (Eq.trans (b := some (.pure (aB (decide (v259 ≥ 0))))) (by kernel_rfl) (by rw [hb261])) <| .mu 7 <| .pure (v := aB false) (by kernel_rfl) (Eq.trans (b := some (.pure (aB (((wrapF .i64 (x_247 - v259)) : Int) == (wrapF .i64 (x_154 - v218)))))) (by kernel_rfl) (by rw [hb262])) <| .mu 6 <| .done <| .n2 122 [(1, .hp 0 0), (5, .hp 1 0), (7, aI64 x_23), (8, aI64 x_154), (9, aI64 v218), (10, aB nearest_246), (55, aI64 left.Height), (56, aI64 x_23), (60, aI64 left.Width), (61, aI64 x_154), (77, aI64 left.Width), (78, aI64 x_247), (100, aB false)] [.own (api_Field.c left), .own (api_Field.c v14.1)] <| .cF (by kernel_rfl) <| .skip <| .pop <| .ru fine ?_
                 exact loopF_back (nearest_246, wrapF .i64 (x_247 + 1)) hr ((Wk.gc [1, 5, 7, 8, 9, 10, 55, 56, 60, 61, 77, 78] [(0, true), (1, true)] rfl trivial).to (by kernel_rfl))
               ·replace hr := cd_f hb261 hr
                refine .r0 fine <| .mu 1 <| .p0 (v := aB false) (Eq.trans (b := some (.pure (aB (decide (v259 ≥ 0))))) (by kernel_rfl) (by rw [hb261])) <| .mu 14 <| .done <| .n2 122 [(1, .hp 0 0), (5, .hp 1 0), (7, aI64 x_23), (8, aI64 x_154), (9, aI64 v218), (10, aB nearest_246), (55, aI64 left.Height), (56, aI64 x_23), (60, aI64 left.Width), (61, aI64 x_154), (77, aI64 left.Width), (78, aI64 x_247), (100, aB false)] [.own (api_Field.c left), .own (api_Field.c v14.1)] <| .cF (by kernel_rfl) <| .skip <| .pop <| .ru fine ?_
                exact loopF_back (nearest_246, wrapF .i64 (x_247 + 1)) hr ((Wk.gc [1, 5, 7, 8, 9, 10, 55, 56, 60, 61, 77, 78] [(0, true), (1, true)] rfl trivial).to (by kernel_rfl))
              ·refine .leave rfl ?_
               obtain rfl := Option.some.inj hr
               exact ⟨rfl, ((Wk.gc [1, 5, 7, 8, 9, 10, 55, 56, 60, 61] [(0, true), (1, true)] rfl trivial).to (by kernel_rfl))⟩
             ·rintro x st' hq266
              clear hL265
              obtain ⟨rfl, hq266⟩ := hq266
              refine CQ_exit _ rfl <| .wk hq266 <| .seq ?_
              obtain ⟨v267, hc268, hr⟩ := bd hr
              rcases Bool.eq_false_or_eq_true (nearest_255 != (decide (v267 ≥ 0))) with hb269 | hb269
              ·replace hr := cd_t hb269 hr
               refine .g1 fine (ok0 (fiduciallaw46_At_ok n v14.1 x_154 x_23 v267 hc268)) <| .mu 4 <| .ca cf0 <| .mu 1 <| .p0 (v := aB true) (Eq.trans (b := some (.pure (aB (nearest_255 != (decide (v267 ≥ 0)))))) (by kernel_rfl) (by rw [hb269])) <| .mu 11 <| .done <| .n2 122 [(1, .hp 0 0), (5, .hp 1 0), (7, aI64 x_23), (55, aI64 left.Height), (56, aI64 x_23), (60, aI64 left.Width), (61, aI64 x_154), (119, aB true)] [.own (api_Field.c left), .own (api_Field.c v14.1)] <| .cT (by kernel_rfl) <| .seq <| .ru fine <| .ret ?_
               obtain rfl := Option.some.inj hr
               exact ⟨rfl, FinQ.ret (vs := [aB false]) (by kernel_rfl) (Sn.pure rfl)⟩
              ·replace hr := cd_f hb269 hr
               rcases Bool.eq_false_or_eq_true nearest_255 with hb270 | hb270
               ·replace hr := cd_t hb270 hr
                rcases Bool.eq_false_or_eq_true (true != (decide (v267 ≥ 0))) with hb271 | hb271
                ·replace hr := cd_t hb271 hr
                 refine .g1 fine (ok0 (fiduciallaw46_At_ok n v14.1 x_154 x_23 v267 hc268)) <| .p0 (v := aB true) (Eq.trans (b := some (.pure (aB nearest_255))) (by kernel_rfl) (by rw [hb270])) <| .mu 3 <| .ca cf0 <| .mu 1 <| .p0 (v := aB true) (Eq.trans (b := some (.pure (aB (true != (decide (v267 ≥ 0)))))) (by kernel_rfl) (by rw [hb271])) <| .mu 11 <| .done <| .n2 122 [(1, .hp 0 0), (5, .hp 1 0), (7, aI64 x_23), (55, aI64 left.Height), (56, aI64 x_23), (60, aI64 left.Width), (61, aI64 x_154), (119, aB true)] [.own (api_Field.c left), .own (api_Field.c v14.1)] <| .cT (by kernel_rfl) <| .seq <| .ru fine <| .ret ?_
                 obtain rfl := Option.some.inj hr
                 exact ⟨rfl, FinQ.ret (vs := [aB false]) (by kernel_rfl) (Sn.pure rfl)⟩
                ·replace hr := cd_f hb271 hr
                 obtain ⟨v272, hc273, hr⟩ := bd hr
                 refine .gn fine (ca1 (ok0 (fiduciallaw46_At_ok n v14.1 x_154 x_23 v267 hc268)) (ca3 (ok0 (fiduciallaw46_At_ok n v14.1 x_154 x_23 v272 hc273)))) <| .p0 (v := aB true) (Eq.trans (b := some (.pure (aB nearest_255))) (by kernel_rfl) (by rw [hb270])) <| .mu 3 <| .ca cf0 <| .mu 1 <| .p0 (v := aB false) (Eq.trans (b := some (.pure (aB (true != (decide (v267 ≥ 0)))))) (by kernel_rfl) (by rw [hb271])) <| .mu 1 <| .pure (v := aB true) (by kernel_rfl) (Eq.trans (b := some (.pure (aB nearest_255))) (by kernel_rfl) (by rw [hb270])) <| .mu 4 <| .ca (cfA (fun h => by rw [sv hc273 hc268 (fiduciallaw46_At_cg n h)]) cf0) <| .mu 4 <| .done <| .n2 122 [(1, .hp 0 0), (5, .hp 1 0), (7, aI64 x_23), (55, aI64 left.Height), (56, aI64 x_23), (60, aI64 left.Width), (61, aI64 x_154), (119, aB ((v272 : Int) != v218))] [.own (api_Field.c left), .own (api_Field.c v14.1)] ?_
                 refine .cd hr (fun hb274 hr => ?_) (fun hb274 hr => ?_)
                 ·refine .seq <| .ru fine <| .ret ?_
                  obtain rfl := Option.some.inj hr
                  exact ⟨rfl, FinQ.ret (vs := [aB false]) (by kernel_rfl) (Sn.pure rfl)⟩
                 ·refine .skip <| .pop <| .ru fine ?_
                  exact loopF_back (wrapF .i64 (x_154 + 1)) hr ((Wk.gc [1, 5, 7, 55, 56, 60, 61] [(0, true), (1, true)] rfl trivial).to (by kernel_rfl))
               ·replace hr := cd_f hb270 hr
                rcases Bool.eq_false_or_eq_true (false != (decide (v267 ≥ 0))) with hb275 | hb275
                ·replace hr := cd_t hb275 hr
                 refine .g1 fine (ok0 (fiduciallaw46_At_ok n v14.1 x_154 x_23 v267 hc268)) <| .p0 (v := aB false) (Eq.trans (b := some (.pure (aB nearest_255))) (by kernel_rfl) (by rw [hb270])) <| .mu 3 <| .ca cf0 <| .mu 1 <| .p0 (v := aB true) (Eq.trans (b := some (.pure (aB (false != (decide (v267 ≥ 0)))))) (by kernel_rfl) (by rw [hb275])) <| .mu 11 <| .done <| .n2 122 [(1, .hp 0 0), (5, .hp 1 0), (7, aI64 x_23), (55, aI64 left.Height), (56, aI64 x_23), (60, aI64 left.Width), (61, aI64 x_154), (119, aB true)] [.own (api_Field.c left), .own (api_Field.c v14.1)] <| .cT (by kernel_rfl) <| .seq <| .ru fine <| .ret ?_
                 obtain rfl := Option.some.inj hr
                 exact ⟨rfl, FinQ.ret (vs := [aB false]) (by kernel_rfl) (Sn.pure rfl)⟩
                ·replace hr := cd_f hb275 hr
                 refine .g1 fine (ok0 (fiduciallaw46_At_ok n v14.1 x_154 x_23 v267 hc268)) <| .p0 (v := aB false) (Eq.trans (b := some (.pure (aB nearest_255))) (by kernel_rfl) (by rw [hb270])) <| .mu 3 <| .ca cf0 <| .mu 1 <| .p0 (v := aB false) (Eq.trans (b := some (.pure (aB (false != (decide (v267 ≥ 0)))))) (by kernel_rfl) (by rw [hb275])) <| .mu 1 <| .pure (v := aB false) (by kernel_rfl) (Eq.trans (b := some (.pure (aB nearest_255))) (by kernel_rfl) (by rw [hb270])) <| .mu 9 <| .done <| .n2 122 [(1, .hp 0 0), (5, .hp 1 0), (7, aI64 x_23), (55, aI64 left.Height), (56, aI64 x_23), (60, aI64 left.Width), (61, aI64 x_154), (119, aB false)] [.own (api_Field.c left), .own (api_Field.c v14.1)] <| .cF (by kernel_rfl) <| .skip <| .pop <| .ru fine ?_
                 exact loopF_back (wrapF .i64 (x_154 + 1)) hr ((Wk.gc [1, 5, 7, 55, 56, 60, 61] [(0, true), (1, true)] rfl trivial).to (by kernel_rfl))
           ·refine .leave rfl ?_
            obtain rfl := Option.some.inj hr
            exact ⟨rfl, ((Wk.gc [1, 5, 55, 56] [(0, true), (1, true)] rfl trivial).to (by kernel_rfl))⟩
          ·rcases o276 with ⟨⟩ | r0
           ·rintro x st' hq278
            clear hL277
            obtain ⟨rfl, hq278⟩ := hq278
            refine CQ_exit _ rfl <| .pop <| .wk hq278 <| .ru fine ?_
            exact loopF_back (wrapF .i64 (x_23 + 1)) hr ((Wk.gc [1, 5, 55, 56] [(0, true), (1, true)] rfl trivial).to (by kernel_rfl))
           ·rintro x st' hq278
            clear hL277
            obtain ⟨rfl, hq278⟩ := hq278
            obtain rfl := Option.some.inj hr
            exact CQ_ret _ ⟨rfl, hq278⟩
         ·refine .leave rfl ?_
          obtain rfl := Option.some.inj hr
          exact ⟨rfl, ((Wk.gc [] [] rfl pK0).to (by kernel_rfl))⟩
        ·rcases o279 with ⟨⟩ | r0
         ·rintro x st' hq281
          clear hL280
          obtain ⟨rfl, hq281⟩ := hq281
          refine CQ_exit _ rfl <| .wk hq281 <| .seq <| .ru fine <| .ret ?_
          obtain rfl := Option.some.inj hr
          exact FinQ.r1 [aB true]
         ·rintro x st' hq281
          clear hL280
          obtain ⟨rfl, hq281⟩ := hq281
          obtain rfl := Option.some.inj hr
          exact CQ_ret _ hq281
end Go.L
