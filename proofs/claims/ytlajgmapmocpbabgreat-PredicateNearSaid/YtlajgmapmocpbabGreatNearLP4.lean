/- The program's functions compute what the plain Lean programs compute, part 4; printed by a program. -/
import Derived.Test.YtlajgmapmocpbabGreatNearLP3
import Derived.Test.YtlajgmapmocpbabGreatL0i
import Derived.Test.YtlajgmapmocpbabGreatChecked
import Derived.KernelRfl
set_option linter.unusedVariables false
set_option linter.unusedSimpArgs false
set_option maxRecDepth 100000
set_option maxHeartbeats 4000000
namespace Go.L
open Go Go.Eng Go.Proofs
theorem fiduciallaw09_PredicateNear_ok (n : Nat) (l : A3 api_Pix) (k : Int) (r : Bool) (hr : fiduciallaw09_PredicateNear n l k = some r) : FnOk Tryz.prog 4 [.agg [aI64 l.e0.X, aI64 l.e0.Y, aI64 l.e1.X, aI64 l.e1.Y, aI64 l.e2.X, aI64 l.e2.Y], aU8 k] (aB r) := by
 unfold fiduciallaw09_PredicateNear at hr
 refine FnOk.bd fine Tryz.func4 [.tmp 4] ?_
 unfold Tryz.f4
 simp only [Option.getD_some]
 refine .seq <| .r2 fine 64 [(1, aU8 k), (2, .hp 0 0)] [.own [aI64 l.e0.X, aI64 l.e0.Y, aI64 l.e1.X, aI64 l.e1.Y, aI64 l.e2.X, aI64 l.e2.Y]] <| .seq <| .seq ?_
 obtain ⟨v1, hc2, hr⟩ := bd hr
 refine .g1 fine (ok0 (fiduciallaw09_known_ok n v1 hc2)) <| .ca cf0 <| .mu 1 <| .done <| .n2 64 [(1, aU8 k), (2, .hp 0 0), (10, aB (!v1))] [.own [aI64 l.e0.X, aI64 l.e0.Y, aI64 l.e1.X, aI64 l.e1.Y, aI64 l.e2.X, aI64 l.e2.Y]] ?_
 refine .cd hr (fun hb3 hr => ?_) (fun hb3 hr => ?_)
 ·refine .seq <| .ru fine <| .ret ?_
  obtain rfl := Option.some.inj hr
  exact FinQ.r1 [aB false]
 ·refine .skip <| .seq ?_
  obtain ⟨v4, hc5, hr⟩ := bd hr
  refine .g1 fine (ok0 (predicate_Near_ok n l.e0 l.e1 l.e2 v4 hc5)) <| .mu 6 <| .ca cf0 <| .mu 6 <| .done <| .n2 64 [(1, aU8 k), (2, .hp 0 0), (5, .hp 1 0), (6, aI64 v4.2)] [.own [aI64 l.e0.X, aI64 l.e0.Y, aI64 l.e1.X, aI64 l.e1.Y, aI64 l.e2.X, aI64 l.e2.Y], .own (api_Rat.c v4.1)] <| .seq <| .seq ?_
  obtain ⟨v6, hc7, hr⟩ := bd hr
  refine .g1 fine (callOk_val (args := [.hs 0 0 3 2]) (l := [0]) rfl (SnL.cons (Sn.hs rfl (.inl rfl) (SnC.cons (Sn.pure rfl) (SnC.cons (Sn.pure rfl) (SnC.cons (Sn.pure rfl) (SnC.cons (Sn.pure rfl) (SnC.cons (Sn.pure rfl) (SnC.cons (Sn.pure rfl) SnC.nil)))))) (fun h => nomatch h)) SnL.nil) (fiducialref09_All_ok n [l.e0, l.e1, l.e2] v6 hc7)) <| .mu 1 <| .ca cf0 <| .mu 1 <| .done <| .n2 64 [(1, aU8 k), (2, .hp 0 0), (5, .hp 1 0), (6, aI64 v4.2), (23, aB (!v6))] [.own [aI64 l.e0.X, aI64 l.e0.Y, aI64 l.e1.X, aI64 l.e1.Y, aI64 l.e2.X, aI64 l.e2.Y], .own (api_Rat.c v4.1)] ?_
  refine .cd hr (fun hb8 hr => ?_) (fun hb8 hr => ?_)
  ·refine .seq ?_
   rcases Bool.eq_false_or_eq_true ((v4.2 : Int) == 2) with hb9 | hb9
   ·replace hr := cd_t hb9 hr
    obtain ⟨v10, hc11, hr⟩ := bd hr
    refine .g1 fine (ok0 (fiducialref02_Zero_ok n v4.1 v10 hc11)) <| .mu 1 <| .p0 (v := aB true) (Eq.trans (b := some (.pure (aB ((v4.2 : Int) == 2)))) (by kernel_rfl) (by rw [hb9])) <| .mu 2 <| .ca cf0 <| .mu 2 <| .done <| .ret ?_
    obtain rfl := Option.some.inj hr
    exact FinQ.r1 [aB v10]
   ·replace hr := cd_f hb9 hr
    refine .r0 fine <| .mu 1 <| .p0 (v := aB false) (Eq.trans (b := some (.pure (aB ((v4.2 : Int) == 2)))) (by kernel_rfl) (by rw [hb9])) <| .mu 5 <| .done <| .ret ?_
    obtain rfl := Option.some.inj hr
    exact FinQ.r1 [aB false]
  ·refine .skip <| .seq ?_
   obtain ⟨v12, hc13, hr⟩ := bd hr
   refine .g1 fine (ok0 (fiducialref02_Of_ok n ((wrapF .i64 k).tmod 17) 16 v12 hc13)) <| .mu 3 <| .ca cf0 <| .mu 6 <| .done <| .n2 64 [(2, .hp 0 0), (5, .hp 1 0), (6, aI64 v4.2), (7, .hp 2 0)] [.own [aI64 l.e0.X, aI64 l.e0.Y, aI64 l.e1.X, aI64 l.e1.Y, aI64 l.e2.X, aI64 l.e2.Y], .own (api_Rat.c v4.1), .own (api_Rat.c v12.1)] <| .seq ?_
   rcases Bool.eq_false_or_eq_true ((v4.2 : Int) == 0) with hb14 | hb14
   ·replace hr := cd_t hb14 hr
    obtain ⟨v15, hc16, v17, hc18, hr⟩ := bd2 hr
    rcases Bool.eq_false_or_eq_true v17 with hb19 | hb19
    ·subst hb19
     replace hr := cd_t rfl hr
     obtain ⟨v20, hc21, v22, hc23, v24, hc25, hr⟩ := bd3 hr
     refine .tn fine (ca1 (ok0 (fiducialref09_Near_ok n l.e0 l.e1 l.e2 v15 hc16)) (ca1 (ok0 (fiducialref02_Same_ok n v4.1 v15 true hc18)) (ca1 (ok0 (fiducialref09_At_ok n l.e0 l.e1 v12.1 v20 hc21)) (ca1 (ok0 (fiducialref09_Distance_ok n l.e2 v20 v22 hc23)) (ca3 (ok0 (fiducialref02_Compare_ok n v4.1 v22 v24 hc25))))))) <| .mu 1 <| .pure (v := aB true) (by kernel_rfl) (Eq.trans (b := some (.pure (aB ((v4.2 : Int) == 0)))) (by kernel_rfl) (by rw [hb14])) (by kernel_rfl) <| .mu 8 <| .ca cf0 <| .ca (cfF cf0) <| .mu 10 <| .ca (cfF (cfF cf0)) <| .ca (cfF (cfF (cfF cf0))) <| .ca (cfF (cfF (cfF (cfF cf0)))) <| .mu 3 ?_
     refine .done ⟨by kernel_rfl, ?_⟩
     refine .ret ?_
     obtain rfl := Option.some.inj hr
     exact FinQ.r1 [aB (decide (v24 ≤ 0))]
    ·subst hb19
     replace hr := cd_f rfl hr
     refine .tn fine (ca1 (ok0 (fiducialref09_Near_ok n l.e0 l.e1 l.e2 v15 hc16)) (ca3 (ok0 (fiducialref02_Same_ok n v4.1 v15 false hc18)))) <| .mu 1 <| .pure (v := aB true) (by kernel_rfl) (Eq.trans (b := some (.pure (aB ((v4.2 : Int) == 0)))) (by kernel_rfl) (by rw [hb14])) (by kernel_rfl) <| .mu 8 <| .ca cf0 <| .ca (cfF cf0) <| .mu 16 ?_
     refine .done ⟨by kernel_rfl, ?_⟩
     refine .ret ?_
     obtain rfl := Option.some.inj hr
     exact FinQ.r1 [aB false]
   ·replace hr := cd_f hb14 hr
    refine .regionT fine callOf_nil <| .mu 1 <| .pure (v := aB false) (by kernel_rfl) (Eq.trans (b := some (.pure (aB ((v4.2 : Int) == 0)))) (by kernel_rfl) (by rw [hb14])) (by kernel_rfl) <| .mu 26 ?_
    refine .done ⟨by kernel_rfl, ?_⟩
    refine .ret ?_
    obtain rfl := Option.some.inj hr
    exact FinQ.r1 [aB false]
end Go.L
