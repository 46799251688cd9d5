/- The program's functions compute what the plain Lean programs compute, part 4; printed by a program. -/
import Derived.Test.YtlmndpmjbgnmbaaGreatFilLP3
import Derived.Test.YtlmndpmjbgnmbaaGreatL0jkpilpbd
import Derived.Test.YtlmndpmjbgnmbaaGreatSmallcpcjjbdc
import Derived.Test.YtlmndpmjbgnmbaaGreatChecked
import Derived.KernelRfl
set_option linter.unusedVariables false
set_option linter.unusedSimpArgs false
set_option maxRecDepth 100000
set_option maxHeartbeats 4000000
namespace Go.L
open Go Go.Eng Go.Proofs
theorem depth_Fill_ok (n : Nat) (f : api_Field) (longest : Int) (r : api_Field × Int) (hr : depth_Fill n f longest = some r) : FnOk Tryz.prog 31 [.agg (api_Field.c f), aI64 longest] (.tup [.agg (api_Field.c r.1), aI64 r.2]) := by
 unfold depth_Fill at hr
 refine FnOk.bd fine Tryz.func31 [.cell 4 24, .tmp 5] ?_
 unfold Tryz.f31
 simp only [Option.getD_some]
 refine .seq <| .r2 fine 81 [(1, aI64 longest), (2, .hp 0 0), (4, .hp 1 0)] [.own (api_Field.c f), .own [aI64 0, aI64 0, nS]] <| .seq <| .seq ?_
 obtain ⟨v1, hc2, hr⟩ := bd hr
 refine .g1 fine (ok0 (depth_Check_ok n f v1 hc2)) <| .mu 1 <| .ca cf0 <| .mu 1 <| .done <| .n2 81 [(1, aI64 longest), (2, .hp 0 0), (4, .hp 1 0), (15, aB ((v1 : Int) != 0))] [.own (api_Field.c f), .own [aI64 0, aI64 0, nS]] ?_
 refine .cd hr (fun hb4 hr => ?_) (fun hb4 hr => ?_)
 ·refine .seq <| .r3 fine 81 [(4, .hp 1 0), (5, aI64 1)] <| .ret ?_
  obtain rfl := Option.some.inj hr
  exact FinQ.ret (vs := [.agg [aI64 0, aI64 0, nS], aI64 1]) (by kernel_rfl) (Sn.tup (SnL.cons (Sn.agg (SnL.cons (Sn.pure rfl) (SnL.cons (Sn.pure rfl) (SnL.cons Sn.nilsl SnL.nil)))) (SnL.cons (Sn.pure rfl) SnL.nil)))
 ·refine .skip <| .seq <| .seq <| .r3 fine 81 [(1, aI64 longest), (2, .hp 0 0), (4, .hp 1 0), (18, aB (decide (longest < 0)))] ?_
  refine .cd hr (fun hb6 hr => ?_) (fun hb6 hr => ?_)
  ·refine .seq <| .r3 fine 81 [(4, .hp 1 0), (5, aI64 2)] <| .ret ?_
   obtain rfl := Option.some.inj hr
   exact FinQ.ret (vs := [.agg [aI64 0, aI64 0, nS], aI64 2]) (by kernel_rfl) (Sn.tup (SnL.cons (Sn.agg (SnL.cons (Sn.pure rfl) (SnL.cons (Sn.pure rfl) (SnL.cons Sn.nilsl SnL.nil)))) (SnL.cons (Sn.pure rfl) SnL.nil)))
  ·refine .skip <| .seq ?_
   obtain ⟨v7, hc8, hr⟩ := bd hr
   refine .g1 fine (callOk_mutU (args := [sI64 f.V]) 0 1 [] [false] (slices_Clone_int_int_w_ok n f.V v7 hc8) trivial (by exact ⟨ids_flat (iC_pure _) _, trivial⟩) rfl rfl (by kernel_rfl) (by kernel_rfl)) <| .mu 2 <| .ca cf0 <| .mu 2 <| .done <| .n2 81 [(1, aI64 longest), (2, .hp 0 0), (4, .hp 1 0)] [.own [aI64 f.Width, aI64 f.Height, .hs 2 0 v7.length 1], .own [aI64 0, aI64 0, nS], .own (v7.flatMap (iC .i64))] <| .seq <| .seq <| .r3 fine 81 [(1, aI64 longest), (2, .hp 0 0), (4, .hp 1 0), (25, aI64 f.Height), (26, aI64 0)] <| .block ?_
   replace hr := bd hr; obtain ⟨f_76, hL144, hr⟩ := hr
   refine .loopO (σ := fun z0 => match z0 with | (f_9, x_10) => ⟨mkS 81 0 [(1, aI64 longest), (2, .hp 0 0), (4, .hp 2 0), (25, aI64 f.Height), (26, aI64 x_10)], [.own [aI64 f.Width, aI64 f.Height, .hs 1 0 f_9.length 1], .own (f_9.flatMap (iC .i64)), .own [aI64 0, aI64 0, nS]]⟩) (Q := fun x st' => x = .exit 0 ∧ Wk 0 st' ⟨mkS 81 0 [(2, .hp 0 0), (4, .hp 2 0)], [.own [aI64 f.Width, aI64 f.Height, .hs 1 0 f_76.length 1], .own (f_76.flatMap (iC .i64)), .own [aI64 0, aI64 0, nS]]⟩) hL144 ((Wk.gc [1, 2, 4, 25, 26] [(0, true), (2, false), (1, true)] rfl (pKt (pKo (iC .i64) (iC_pure _) v7 trivial))).to (by kernel_rfl)) ?_ ?_
   ·clear hr
    rintro m ⟨f_9, x_10⟩ hr
    show CQ _ _ _ _ _ ⟨_, _⟩
    refine .seq <| .r3 fine 81 [(1, aI64 longest), (2, .hp 0 0), (4, .hp 2 0), (25, aI64 f.Height), (26, aI64 x_10), (27, aB (decide (x_10 < f.Height)))] <| .seq ?_
    refine .cd hr (fun hb79 hr => ?_) (fun hb79 hr => ?_)
    ·refine .skip <| .seq <| .block <| .seq <| .r3 fine 81 [(1, aI64 longest), (2, .hp 0 0), (4, .hp 2 0), (6, aI64 x_10), (25, aI64 f.Height), (26, aI64 x_10)] <| .scope <| .seq ?_
     obtain ⟨hg80, hr⟩ := gd hr
     refine .r0 fine <| .mu 11 <| .p0 (v := .hs 1 (0 + (wrapF .i64 (x_10 * f.Width)).toNat * 1) ((wrapF .i64 ((wrapF .i64 (x_10 + 1)) * f.Width)).toNat - (wrapF .i64 (x_10 * f.Width)).toNat) 1) (Eq.trans (b := slH (inS (wrapF .i64 (x_10 * f.Width)) (wrapF .i64 ((wrapF .i64 (x_10 + 1)) * f.Width)) f_9.length) true ((wrapF .i64 (x_10 * f.Width)).toNat) ((wrapF .i64 ((wrapF .i64 (x_10 + 1)) * f.Width)).toNat) (fun z1 z2 => .hs 1 (0 + z1 * 1) (z2 - z1) 1)) (by kernel_rfl) (slH_t hg80 (by kernel_rfl))) <| .mu 1 <| .done <| .n2 81 [(1, aI64 longest), (2, .hp 0 0), (4, .hp 2 0), (7, .hs 1 (0 + (wrapF .i64 (x_10 * f.Width)).toNat * 1) ((wrapF .i64 ((wrapF .i64 (x_10 + 1)) * f.Width)).toNat - (wrapF .i64 (x_10 * f.Width)).toNat) 1), (25, aI64 f.Height), (26, aI64 x_10)] [.own [aI64 f.Width, aI64 f.Height, .hs 1 0 f_9.length 1], .own (f_9.flatMap (iC .i64)), .own [aI64 0, aI64 0, nS]] <| .seq <| .r3 fine 81 [(1, aI64 longest), (2, .hp 0 0), (4, .hp 2 0), (7, .hs 1 (0 + (wrapF .i64 (x_10 * f.Width)).toNat * 1) ((wrapF .i64 ((wrapF .i64 (x_10 + 1)) * f.Width)).toNat - (wrapF .i64 (x_10 * f.Width)).toNat) 1), (8, aI64 (-1)), (25, aI64 f.Height), (26, aI64 x_10)] <| .seq <| .label <| .seq <| .r3 fine 81 [(1, aI64 longest), (2, .hp 0 0), (4, .hp 2 0), (7, .hs 1 (0 + (wrapF .i64 (x_10 * f.Width)).toNat * 1) ((wrapF .i64 ((wrapF .i64 (x_10 + 1)) * f.Width)).toNat - (wrapF .i64 (x_10 * f.Width)).toNat) 1), (8, aI64 (-1)), (25, aI64 f.Height), (26, aI64 x_10), (41, .hs 1 (0 + (wrapF .i64 (x_10 * f.Width)).toNat * 1) ((wrapF .i64 ((wrapF .i64 (x_10 + 1)) * f.Width)).toNat - (wrapF .i64 (x_10 * f.Width)).toNat) 1), (42, aI64 (((wrapF .i64 ((wrapF .i64 (x_10 + 1)) * f.Width)).toNat - (wrapF .i64 (x_10 * f.Width)).toNat : Nat) : Int)), (43, aI64 0)] <| .block ?_
     replace hr := bd hr; obtain ⟨f_111, hL141, hr⟩ := hr
     refine .loopO (σ := fun z0 => match z0 with | (f_81, last_82, x_83) => ⟨mkS 81 0 [(1, aI64 longest), (2, .hp 0 0), (4, .hp 2 0), (7, .hs 1 (0 + (wrapF .i64 (x_10 * f.Width)).toNat * 1) ((wrapF .i64 ((wrapF .i64 (x_10 + 1)) * f.Width)).toNat - (wrapF .i64 (x_10 * f.Width)).toNat) 1), (8, aI64 last_82), (25, aI64 f.Height), (26, aI64 x_10), (41, .hs 1 (0 + (wrapF .i64 (x_10 * f.Width)).toNat * 1) ((wrapF .i64 ((wrapF .i64 (x_10 + 1)) * f.Width)).toNat - (wrapF .i64 (x_10 * f.Width)).toNat) 1), (42, aI64 (((wrapF .i64 ((wrapF .i64 (x_10 + 1)) * f.Width)).toNat - (wrapF .i64 (x_10 * f.Width)).toNat : Nat) : Int)), (43, aI64 x_83)], [.own [aI64 f.Width, aI64 f.Height, .hs 1 0 f_81.length 1], .own (f_81.flatMap (iC .i64)), .own [aI64 0, aI64 0, nS]]⟩) (Q := fun x st' => x = .exit 2 ∧ Wk 0 st' ⟨mkS 81 0 [(1, aI64 longest), (2, .hp 0 0), (4, .hp 2 0), (25, aI64 f.Height), (26, aI64 x_10)], [.own [aI64 f.Width, aI64 f.Height, .hs 1 0 f_111.length 1], .own (f_111.flatMap (iC .i64)), .own [aI64 0, aI64 0, nS]]⟩) hL141 ((Wk.gc [1, 2, 4, 7, 8, 25, 26, 41, 42, 43] [(0, true), (1, false), (2, true)] rfl (pKt (pKo (iC .i64) (iC_pure _) f_9 trivial))).to (by kernel_rfl)) ?_ ?_
     ·clear hr
      rintro m ⟨f_81, last_82, x_83⟩ hr
      show CQ _ _ _ _ _ ⟨_, _⟩
      refine .seq <| .r3 fine 81 [(1, aI64 longest), (2, .hp 0 0), (4, .hp 2 0), (7, .hs 1 (0 + (wrapF .i64 (x_10 * f.Width)).toNat * 1) ((wrapF .i64 ((wrapF .i64 (x_10 + 1)) * f.Width)).toNat - (wrapF .i64 (x_10 * f.Width)).toNat) 1), (8, aI64 last_82), (25, aI64 f.Height), (26, aI64 x_10), (41, .hs 1 (0 + (wrapF .i64 (x_10 * f.Width)).toNat * 1) ((wrapF .i64 ((wrapF .i64 (x_10 + 1)) * f.Width)).toNat - (wrapF .i64 (x_10 * f.Width)).toNat) 1), (42, aI64 (((wrapF .i64 ((wrapF .i64 (x_10 + 1)) * f.Width)).toNat - (wrapF .i64 (x_10 * f.Width)).toNat : Nat) : Int)), (43, aI64 x_83), (44, aB (decide (x_83 < (((wrapF .i64 ((wrapF .i64 (x_10 + 1)) * f.Width)).toNat - (wrapF .i64 (x_10 * f.Width)).toNat : Nat) : Int))))] <| .seq ?_
      refine .cd hr (fun hb114 hr => ?_) (fun hb114 hr => ?_)
      ·refine .skip <| .seq <| .block <| .seq ?_
       obtain ⟨hg115, hg116, hr⟩ := gd2 hr
       refine .r0 fine <| .mu 1 <| .p0 (v := .hp 1 (0 + (wrapF .i64 (x_10 * f.Width)).toNat * 1 + x_83.toNat * 1)) (Eq.trans (b := ORes.ofP (guardV (inR x_83 ((wrapF .i64 ((wrapF .i64 (x_10 + 1)) * f.Width)).toNat - (wrapF .i64 (x_10 * f.Width)).toNat)) (.hp 1 (0 + (wrapF .i64 (x_10 * f.Width)).toNat * 1 + x_83.toNat * 1)))) (by kernel_rfl) (ofP_guard hg115)) <| .p0 (v := aI64 (gt f_81 (((wrapF .i64 (x_10 * f.Width)).toNat + x_83.toNat : Nat) : Int))) (Eq.trans (b := ORes.ofP ((f_81.flatMap (iC .i64))[0 + (wrapF .i64 (x_10 * f.Width)).toNat * 1 + x_83.toNat * 1]?)) (by kernel_rfl) (ofP_some (flat_get (iC_len _) (inR_lt hg116) (by decide : 0 < 1) (by omega : 0 + (wrapF .i64 (x_10 * f.Width)).toNat * 1 + x_83.toNat * 1 = (((wrapF .i64 (x_10 * f.Width)).toNat + x_83.toNat : Nat) : Int).toNat * 1 + 0) (by kernel_rfl)))) <| .mu 2 <| .done <| .n2 81 [(1, aI64 longest), (2, .hp 0 0), (4, .hp 2 0), (7, .hs 1 (0 + (wrapF .i64 (x_10 * f.Width)).toNat * 1) ((wrapF .i64 ((wrapF .i64 (x_10 + 1)) * f.Width)).toNat - (wrapF .i64 (x_10 * f.Width)).toNat) 1), (8, aI64 last_82), (9, aI64 x_83), (10, aI64 (gt f_81 (((wrapF .i64 (x_10 * f.Width)).toNat + x_83.toNat : Nat) : Int))), (25, aI64 f.Height), (26, aI64 x_10), (41, .hs 1 (0 + (wrapF .i64 (x_10 * f.Width)).toNat * 1) ((wrapF .i64 ((wrapF .i64 (x_10 + 1)) * f.Width)).toNat - (wrapF .i64 (x_10 * f.Width)).toNat) 1), (42, aI64 (((wrapF .i64 ((wrapF .i64 (x_10 + 1)) * f.Width)).toNat - (wrapF .i64 (x_10 * f.Width)).toNat : Nat) : Int)), (43, aI64 x_83)] [.own [aI64 f.Width, aI64 f.Height, .hs 1 0 f_81.length 1], .own (f_81.flatMap (iC .i64)), .own [aI64 0, aI64 0, nS]] <| .seq <| .seq <| .r3 fine 81 [(1, aI64 longest), (2, .hp 0 0), (4, .hp 2 0), (7, .hs 1 (0 + (wrapF .i64 (x_10 * f.Width)).toNat * 1) ((wrapF .i64 ((wrapF .i64 (x_10 + 1)) * f.Width)).toNat - (wrapF .i64 (x_10 * f.Width)).toNat) 1), (8, aI64 last_82), (9, aI64 x_83), (10, aI64 (gt f_81 (((wrapF .i64 (x_10 * f.Width)).toNat + x_83.toNat : Nat) : Int))), (25, aI64 f.Height), (26, aI64 x_10), (41, .hs 1 (0 + (wrapF .i64 (x_10 * f.Width)).toNat * 1) ((wrapF .i64 ((wrapF .i64 (x_10 + 1)) * f.Width)).toNat - (wrapF .i64 (x_10 * f.Width)).toNat) 1), (42, aI64 (((wrapF .i64 ((wrapF .i64 (x_10 + 1)) * f.Width)).toNat - (wrapF .i64 (x_10 * f.Width)).toNat : Nat) : Int)), (43, aI64 x_83), (49, aB (decide ((gt f_81 (((wrapF .i64 (x_10 * f.Width)).toNat + x_83.toNat : Nat) : Int)) < 0)))] ?_
       refine .cd hr (fun hb118 hr => ?_) (fun hb118 hr => ?_)
       ·refine .exit rfl <| .ru fine ?_
        exact loopF_back (f_81, last_82, wrapF .i64 (x_83 + 1)) hr ((Wk.gc [1, 2, 4, 7, 8, 25, 26, 41, 42, 43] [(0, true), (1, false), (2, true)] rfl (pKt (pKo (iC .i64) (iC_pure _) f_81 trivial))).to (by kernel_rfl))
       ·refine .skip <| .seq <| .seq <| .r3 fine 81 [(1, aI64 longest), (2, .hp 0 0), (4, .hp 2 0), (7, .hs 1 (0 + (wrapF .i64 (x_10 * f.Width)).toNat * 1) ((wrapF .i64 ((wrapF .i64 (x_10 + 1)) * f.Width)).toNat - (wrapF .i64 (x_10 * f.Width)).toNat) 1), (8, aI64 last_82), (9, aI64 x_83), (10, aI64 (gt f_81 (((wrapF .i64 (x_10 * f.Width)).toNat + x_83.toNat : Nat) : Int))), (11, aI64 (wrapF .i64 ((wrapF .i64 (x_83 - last_82)) - 1))), (25, aI64 f.Height), (26, aI64 x_10), (41, .hs 1 (0 + (wrapF .i64 (x_10 * f.Width)).toNat * 1) ((wrapF .i64 ((wrapF .i64 (x_10 + 1)) * f.Width)).toNat - (wrapF .i64 (x_10 * f.Width)).toNat) 1), (42, aI64 (((wrapF .i64 ((wrapF .i64 (x_10 + 1)) * f.Width)).toNat - (wrapF .i64 (x_10 * f.Width)).toNat : Nat) : Int)), (43, aI64 x_83)] <| .seq ?_
        rcases Bool.eq_false_or_eq_true (decide (last_82 ≥ 0)) with hb119 | hb119
        ·replace hr := cd_t hb119 hr
         refine .r0 fine <| .mu 1 <| .p0 (v := aB true) (Eq.trans (b := some (.pure (aB (decide (last_82 ≥ 0))))) (by kernel_rfl) (by rw [hb119])) <| .mu 5 <| .done <| .n2 81 [(1, aI64 longest), (2, .hp 0 0), (4, .hp 2 0), (7, .hs 1 (0 + (wrapF .i64 (x_10 * f.Width)).toNat * 1) ((wrapF .i64 ((wrapF .i64 (x_10 + 1)) * f.Width)).toNat - (wrapF .i64 (x_10 * f.Width)).toNat) 1), (8, aI64 last_82), (9, aI64 x_83), (10, aI64 (gt f_81 (((wrapF .i64 (x_10 * f.Width)).toNat + x_83.toNat : Nat) : Int))), (25, aI64 f.Height), (26, aI64 x_10), (41, .hs 1 (0 + (wrapF .i64 (x_10 * f.Width)).toNat * 1) ((wrapF .i64 ((wrapF .i64 (x_10 + 1)) * f.Width)).toNat - (wrapF .i64 (x_10 * f.Width)).toNat) 1), (42, aI64 (((wrapF .i64 ((wrapF .i64 (x_10 + 1)) * f.Width)).toNat - (wrapF .i64 (x_10 * f.Width)).toNat : Nat) : Int)), (43, aI64 x_83), (60, aB (decide ((wrapF .i64 ((wrapF .i64 (x_83 - last_82)) - 1)) ≤ longest)))] [.own [aI64 f.Width, aI64 f.Height, .hs 1 0 f_81.length 1], .own (f_81.flatMap (iC .i64)), .own [aI64 0, aI64 0, nS]] ?_
         refine .cd hr (fun hb120 hr => ?_) (fun hb120 hr => ?_)
         ·refine .seq <| .r3 fine 81 [(1, aI64 longest), (2, .hp 0 0), (4, .hp 2 0), (7, .hs 1 (0 + (wrapF .i64 (x_10 * f.Width)).toNat * 1) ((wrapF .i64 ((wrapF .i64 (x_10 + 1)) * f.Width)).toNat - (wrapF .i64 (x_10 * f.Width)).toNat) 1), (8, aI64 last_82), (9, aI64 x_83), (10, aI64 (gt f_81 (((wrapF .i64 (x_10 * f.Width)).toNat + x_83.toNat : Nat) : Int))), (12, aI64 (wrapF .i64 (last_82 + 1))), (25, aI64 f.Height), (26, aI64 x_10), (41, .hs 1 (0 + (wrapF .i64 (x_10 * f.Width)).toNat * 1) ((wrapF .i64 ((wrapF .i64 (x_10 + 1)) * f.Width)).toNat - (wrapF .i64 (x_10 * f.Width)).toNat) 1), (42, aI64 (((wrapF .i64 ((wrapF .i64 (x_10 + 1)) * f.Width)).toNat - (wrapF .i64 (x_10 * f.Width)).toNat : Nat) : Int)), (43, aI64 x_83)] <| .block ?_
          replace hr := bd hr; obtain ⟨f_129, hL138, hr⟩ := hr
          refine .loopO (σ := fun z0 => match z0 with | (f_121, k_122) => ⟨mkS 81 0 [(1, aI64 longest), (2, .hp 0 0), (4, .hp 2 0), (7, .hs 1 (0 + (wrapF .i64 (x_10 * f.Width)).toNat * 1) ((wrapF .i64 ((wrapF .i64 (x_10 + 1)) * f.Width)).toNat - (wrapF .i64 (x_10 * f.Width)).toNat) 1), (8, aI64 last_82), (9, aI64 x_83), (10, aI64 (gt f_81 (((wrapF .i64 (x_10 * f.Width)).toNat + x_83.toNat : Nat) : Int))), (12, aI64 k_122), (25, aI64 f.Height), (26, aI64 x_10), (41, .hs 1 (0 + (wrapF .i64 (x_10 * f.Width)).toNat * 1) ((wrapF .i64 ((wrapF .i64 (x_10 + 1)) * f.Width)).toNat - (wrapF .i64 (x_10 * f.Width)).toNat) 1), (42, aI64 (((wrapF .i64 ((wrapF .i64 (x_10 + 1)) * f.Width)).toNat - (wrapF .i64 (x_10 * f.Width)).toNat : Nat) : Int)), (43, aI64 x_83)], [.own [aI64 f.Width, aI64 f.Height, .hs 1 0 f_121.length 1], .own (f_121.flatMap (iC .i64)), .own [aI64 0, aI64 0, nS]]⟩) (Q := fun x st' => x = .exit 4 ∧ Wk 0 st' ⟨mkS 81 0 [(1, aI64 longest), (2, .hp 0 0), (4, .hp 2 0), (7, .hs 1 (0 + (wrapF .i64 (x_10 * f.Width)).toNat * 1) ((wrapF .i64 ((wrapF .i64 (x_10 + 1)) * f.Width)).toNat - (wrapF .i64 (x_10 * f.Width)).toNat) 1), (9, aI64 x_83), (25, aI64 f.Height), (26, aI64 x_10), (41, .hs 1 (0 + (wrapF .i64 (x_10 * f.Width)).toNat * 1) ((wrapF .i64 ((wrapF .i64 (x_10 + 1)) * f.Width)).toNat - (wrapF .i64 (x_10 * f.Width)).toNat) 1), (42, aI64 (((wrapF .i64 ((wrapF .i64 (x_10 + 1)) * f.Width)).toNat - (wrapF .i64 (x_10 * f.Width)).toNat : Nat) : Int)), (43, aI64 x_83)], [.own [aI64 f.Width, aI64 f.Height, .hs 1 0 f_129.length 1], .own (f_129.flatMap (iC .i64)), .own [aI64 0, aI64 0, nS]]⟩) hL138 ((Wk.gc [1, 2, 4, 7, 8, 9, 10, 12, 25, 26, 41, 42, 43] [(0, true), (1, false), (2, true)] rfl (pKt (pKo (iC .i64) (iC_pure _) f_81 trivial))).to (by kernel_rfl)) ?_ ?_
          ·clear hr
           rintro m ⟨f_121, k_122⟩ hr
           show CQ _ _ _ _ _ ⟨_, _⟩
           refine .seq <| .seq <| .r3 fine 81 [(1, aI64 longest), (2, .hp 0 0), (4, .hp 2 0), (7, .hs 1 (0 + (wrapF .i64 (x_10 * f.Width)).toNat * 1) ((wrapF .i64 ((wrapF .i64 (x_10 + 1)) * f.Width)).toNat - (wrapF .i64 (x_10 * f.Width)).toNat) 1), (8, aI64 last_82), (9, aI64 x_83), (10, aI64 (gt f_81 (((wrapF .i64 (x_10 * f.Width)).toNat + x_83.toNat : Nat) : Int))), (12, aI64 k_122), (25, aI64 f.Height), (26, aI64 x_10), (41, .hs 1 (0 + (wrapF .i64 (x_10 * f.Width)).toNat * 1) ((wrapF .i64 ((wrapF .i64 (x_10 + 1)) * f.Width)).toNat - (wrapF .i64 (x_10 * f.Width)).toNat) 1), (42, aI64 (((wrapF .i64 ((wrapF .i64 (x_10 + 1)) * f.Width)).toNat - (wrapF .i64 (x_10 * f.Width)).toNat : Nat) : Int)), (43, aI64 x_83), (65, aB (decide (k_122 < x_83)))] ?_
           refine .cd hr (fun hb132 hr => ?_) (fun hb132 hr => ?_)
           ·refine .skip <| .seq <| .block ?_
            obtain ⟨hg133, hg134, hg135, hr⟩ := gd3 hr
            obtain ⟨hg136, hr⟩ := gd hr
            refine .r0 fine <| .mu 5 <| .p0 (v := .hp 1 (0 + (wrapF .i64 (x_10 * f.Width)).toNat * 1 + last_82.toNat * 1)) (Eq.trans (b := ORes.ofP (guardV (inR last_82 ((wrapF .i64 ((wrapF .i64 (x_10 + 1)) * f.Width)).toNat - (wrapF .i64 (x_10 * f.Width)).toNat)) (.hp 1 (0 + (wrapF .i64 (x_10 * f.Width)).toNat * 1 + last_82.toNat * 1)))) (by kernel_rfl) (ofP_guard hg133)) <| .p0 (v := aI64 (gt f_121 (((wrapF .i64 (x_10 * f.Width)).toNat + last_82.toNat : Nat) : Int))) (Eq.trans (b := ORes.ofP ((f_121.flatMap (iC .i64))[0 + (wrapF .i64 (x_10 * f.Width)).toNat * 1 + last_82.toNat * 1]?)) (by kernel_rfl) (ofP_some (flat_get (iC_len _) (inR_lt hg134) (by decide : 0 < 1) (by omega : 0 + (wrapF .i64 (x_10 * f.Width)).toNat * 1 + last_82.toNat * 1 = (((wrapF .i64 (x_10 * f.Width)).toNat + last_82.toNat : Nat) : Int).toNat * 1 + 0) (by kernel_rfl)))) <| .mu 1 <| .p0 (v := .hp 1 (0 + (wrapF .i64 (x_10 * f.Width)).toNat * 1 + k_122.toNat * 1)) (Eq.trans (b := ORes.ofP (guardV (inR k_122 ((wrapF .i64 ((wrapF .i64 (x_10 + 1)) * f.Width)).toNat - (wrapF .i64 (x_10 * f.Width)).toNat)) (.hp 1 (0 + (wrapF .i64 (x_10 * f.Width)).toNat * 1 + k_122.toNat * 1)))) (by kernel_rfl) (ofP_guard hg135)) <| .e0 (v := .unk) (ws := [(1, .own ((f_121.set (((wrapF .i64 (x_10 * f.Width)).toNat + k_122.toNat : Nat) : Int).toNat (mn (gt f_81 (((wrapF .i64 (x_10 * f.Width)).toNat + x_83.toNat : Nat) : Int)) (gt f_121 (((wrapF .i64 (x_10 * f.Width)).toNat + last_82.toNat : Nat) : Int)))).flatMap (iC .i64)))]) (Eq.trans (b := stO (decide ((0 + (wrapF .i64 (x_10 * f.Width)).toNat * 1 + k_122.toNat * 1) + 1 ≤ (f_121.flatMap (iC .i64)).length) && true) [(1, .own (setCells (f_121.flatMap (iC .i64)) (0 + (wrapF .i64 (x_10 * f.Width)).toNat * 1 + k_122.toNat * 1) [aI64 (mn (gt f_81 (((wrapF .i64 (x_10 * f.Width)).toNat + x_83.toNat : Nat) : Int)) (gt f_121 (((wrapF .i64 (x_10 * f.Width)).toNat + last_82.toNat : Nat) : Int)))]))]) (by kernel_rfl) (stO_t (and_t (flat_fits (iC_len _) (inR_lt hg136) (Nat.le_of_ble_eq_true rfl) (by omega : 0 + (wrapF .i64 (x_10 * f.Width)).toNat * 1 + k_122.toNat * 1 = (((wrapF .i64 (x_10 * f.Width)).toNat + k_122.toNat : Nat) : Int).toNat * 1 + 0))) (congrArg Blk.own (flat_set (iC_len _) (inR_lt hg136) (Nat.le_of_ble_eq_true rfl) (by omega : 0 + (wrapF .i64 (x_10 * f.Width)).toNat * 1 + k_122.toNat * 1 = (((wrapF .i64 (x_10 * f.Width)).toNat + k_122.toNat : Nat) : Int).toNat * 1 + 0) (by kernel_rfl))))) <| .done <| .pop <| .ru fine ?_
            exact loopF_back (f_121.set (((wrapF .i64 (x_10 * f.Width)).toNat + k_122.toNat : Nat) : Int).toNat (mn (gt f_81 (((wrapF .i64 (x_10 * f.Width)).toNat + x_83.toNat : Nat) : Int)) (gt f_121 (((wrapF .i64 (x_10 * f.Width)).toNat + last_82.toNat : Nat) : Int))), wrapF .i64 (k_122 + 1)) hr ((Wk.recell 0 2 (b := 1) (es := 1) (len := f_121.length) (cs := [aI64 f.Width, aI64 f.Height, .hs 1 0 f_121.length 1]) (f_121.set (((wrapF .i64 (x_10 * f.Width)).toNat + k_122.toNat : Nat) : Int).toNat (mn (gt f_81 (((wrapF .i64 (x_10 * f.Width)).toNat + x_83.toNat : Nat) : Int)) (gt f_121 (((wrapF .i64 (x_10 * f.Width)).toNat + last_82.toNat : Nat) : Int)))).length (by kernel_rfl) (by kernel_rfl) (by simp)).trans ((Wk.gc [1, 2, 4, 7, 8, 9, 10, 12, 25, 26, 41, 42, 43] [(0, true), (1, false), (2, true)] rfl (pKt (pKo (iC .i64) (iC_pure _) (f_121.set (((wrapF .i64 (x_10 * f.Width)).toNat + k_122.toNat : Nat) : Int).toNat (mn (gt f_81 (((wrapF .i64 (x_10 * f.Width)).toNat + x_83.toNat : Nat) : Int)) (gt f_121 (((wrapF .i64 (x_10 * f.Width)).toNat + last_82.toNat : Nat) : Int)))) trivial))).to (by kernel_rfl)))
           ·refine .leave rfl ?_
            obtain rfl := Option.some.inj hr
            exact ⟨rfl, ((Wk.gc [1, 2, 4, 7, 9, 25, 26, 41, 42, 43] [(0, true), (1, false), (2, true)] rfl (pKt (pKo (iC .i64) (iC_pure _) f_121 trivial))).to (by kernel_rfl))⟩
          ·rintro x st' hq139
           clear hL138
           obtain ⟨rfl, hq139⟩ := hq139
           refine CQ_exit _ rfl <| .wk hq139 <| .ru fine <| .pop <| .ru fine ?_
           exact loopF_back (f_129, x_83, wrapF .i64 (x_83 + 1)) hr ((Wk.gc [1, 2, 4, 7, 8, 25, 26, 41, 42, 43] [(0, true), (1, false), (2, true)] rfl (pKt (pKo (iC .i64) (iC_pure _) f_129 trivial))).to (by kernel_rfl))
         ·refine .skip <| .ru fine <| .pop <| .ru fine ?_
          exact loopF_back (f_81, x_83, wrapF .i64 (x_83 + 1)) hr ((Wk.gc [1, 2, 4, 7, 8, 25, 26, 41, 42, 43] [(0, true), (1, false), (2, true)] rfl (pKt (pKo (iC .i64) (iC_pure _) f_81 trivial))).to (by kernel_rfl))
        ·replace hr := cd_f hb119 hr
         refine .r0 fine <| .mu 1 <| .p0 (v := aB false) (Eq.trans (b := some (.pure (aB (decide (last_82 ≥ 0))))) (by kernel_rfl) (by rw [hb119])) <| .mu 5 <| .done <| .n2 81 [(1, aI64 longest), (2, .hp 0 0), (4, .hp 2 0), (7, .hs 1 (0 + (wrapF .i64 (x_10 * f.Width)).toNat * 1) ((wrapF .i64 ((wrapF .i64 (x_10 + 1)) * f.Width)).toNat - (wrapF .i64 (x_10 * f.Width)).toNat) 1), (8, aI64 last_82), (9, aI64 x_83), (10, aI64 (gt f_81 (((wrapF .i64 (x_10 * f.Width)).toNat + x_83.toNat : Nat) : Int))), (25, aI64 f.Height), (26, aI64 x_10), (41, .hs 1 (0 + (wrapF .i64 (x_10 * f.Width)).toNat * 1) ((wrapF .i64 ((wrapF .i64 (x_10 + 1)) * f.Width)).toNat - (wrapF .i64 (x_10 * f.Width)).toNat) 1), (42, aI64 (((wrapF .i64 ((wrapF .i64 (x_10 + 1)) * f.Width)).toNat - (wrapF .i64 (x_10 * f.Width)).toNat : Nat) : Int)), (43, aI64 x_83), (60, aB false)] [.own [aI64 f.Width, aI64 f.Height, .hs 1 0 f_81.length 1], .own (f_81.flatMap (iC .i64)), .own [aI64 0, aI64 0, nS]] <| .cF (by kernel_rfl) <| .skip <| .ru fine <| .pop <| .ru fine ?_
         exact loopF_back (f_81, x_83, wrapF .i64 (x_83 + 1)) hr ((Wk.gc [1, 2, 4, 7, 8, 25, 26, 41, 42, 43] [(0, true), (1, false), (2, true)] rfl (pKt (pKo (iC .i64) (iC_pure _) f_81 trivial))).to (by kernel_rfl))
      ·refine .leave rfl ?_
       obtain rfl := Option.some.inj hr
       exact ⟨rfl, ((Wk.gc [1, 2, 4, 25, 26] [(0, true), (1, false), (2, true)] rfl (pKt (pKo (iC .i64) (iC_pure _) f_81 trivial))).to (by kernel_rfl))⟩
     ·rintro x st' hq142
      clear hL141
      obtain ⟨rfl, hq142⟩ := hq142
      refine CQ_exit _ rfl <| .pop <| .wk hq142 <| .ru fine ?_
      exact loopF_back (f_111, wrapF .i64 (x_10 + 1)) hr ((Wk.gc [1, 2, 4, 25, 26] [(0, true), (1, false), (2, true)] rfl (pKt (pKo (iC .i64) (iC_pure _) f_111 trivial))).to (by kernel_rfl))
    ·refine .leave rfl ?_
     obtain rfl := Option.some.inj hr
     exact ⟨rfl, ((Wk.gc [2, 4] [(0, true), (1, false), (2, true)] rfl (pKt (pKo (iC .i64) (iC_pure _) f_9 trivial))).to (by kernel_rfl))⟩
   ·rintro x st' hq145
    clear hL144
    obtain ⟨rfl, hq145⟩ := hq145
    refine CQ_exit _ rfl <| .wk hq145 <| .seq <| .r2 fine 81 [(4, .hp 2 0), (5, aI64 0)] [.own [aI64 f.Width, aI64 f.Height, .hs 1 0 f_76.length 1], .own (f_76.flatMap (iC .i64)), .own [aI64 f.Width, aI64 f.Height, .hs 1 0 f_76.length 1]] <| .ret ?_
    obtain rfl := Option.some.inj hr
    exact FinQ.ret (vs := [.agg [aI64 f.Width, aI64 f.Height, .hs 1 0 f_76.length 1], aI64 0]) (by kernel_rfl) (Sn.tup (SnL.cons (Sn.agg (SnL.cons (Sn.pure rfl) (SnL.cons (Sn.pure rfl) (SnL.cons (Sn.hs rfl (.inl rfl) (SnC.pure (ids_flat (iC_pure _) _)) (fun h => flat_nil0 h)) SnL.nil)))) (SnL.cons (Sn.pure rfl) SnL.nil)))

theorem fiduciallaw46_empty_ok (n : Nat) (f : api_Field) (r : Bool) (hr : fiduciallaw46_empty n f = some r) : FnOk Tryz.prog 44 [.agg (api_Field.c f)] (aB r) := by
 unfold fiduciallaw46_empty at hr
 refine FnOk.bd fine Tryz.func44 [.tmp 2] ?_
 unfold Tryz.f44
 simp only [Option.getD_some]
 refine .seq <| .r2 fine 17 [(1, .hp 0 0)] [.own (api_Field.c f)] <| .seq ?_
 rcases Bool.eq_false_or_eq_true ((f.Width : Int) == 0) with hb1 | hb1
 ·replace hr := cd_t hb1 hr
  rcases Bool.eq_false_or_eq_true ((f.Height : Int) == 0) with hb2 | hb2
  ·replace hr := cd_t hb2 hr
   refine .r0 fine <| .mu 2 <| .p0 (v := aB true) (Eq.trans (b := some (.pure (aB ((f.Width : Int) == 0)))) (by kernel_rfl) (by rw [hb1])) <| .mu 3 <| .pure (v := aB true) (by kernel_rfl) (Eq.trans (b := some (.pure (aB ((f.Height : Int) == 0)))) (by kernel_rfl) (by rw [hb2])) <| .mu 8 <| .done <| .ret ?_
   obtain rfl := Option.some.inj hr
   exact FinQ.r1 [aB (((f.V.length : Int) : Int) == 0)]
  ·replace hr := cd_f hb2 hr
   refine .r0 fine <| .mu 2 <| .p0 (v := aB true) (Eq.trans (b := some (.pure (aB ((f.Width : Int) == 0)))) (by kernel_rfl) (by rw [hb1])) <| .mu 3 <| .pure (v := aB false) (by kernel_rfl) (Eq.trans (b := some (.pure (aB ((f.Height : Int) == 0)))) (by kernel_rfl) (by rw [hb2])) <| .mu 8 <| .done <| .ret ?_
   obtain rfl := Option.some.inj hr
   exact FinQ.r1 [aB false]
 ·replace hr := cd_f hb1 hr
  refine .r0 fine <| .mu 2 <| .p0 (v := aB false) (Eq.trans (b := some (.pure (aB ((f.Width : Int) == 0)))) (by kernel_rfl) (by rw [hb1])) <| .mu 12 <| .done <| .ret ?_
  obtain rfl := Option.some.inj hr
  exact FinQ.r1 [aB false]

theorem fiduciallaw46_At_inj {f : api_Field} {x' : Int} {y : Int} {f_ : api_Field} {x'_ : Int} {y_ : Int} (h : ([.agg [.at (.int .i64 f.Width), .at (.int .i64 f.Height), slT (iC .i64) f.V], .at (.int .i64 x'), .at (.int .i64 y)] : List AV) = [.agg [.at (.int .i64 f_.Width), .at (.int .i64 f_.Height), slT (iC .i64) f_.V], .at (.int .i64 x'_), .at (.int .i64 y_)]) : f = f_ ∧ x' = x'_ ∧ y = y_ := by
 obtain ⟨_, _, _⟩ := f
 obtain ⟨_, _, _⟩ := f_
 simp only [List.cons.injEq, AV.agg.injEq, AV.at.injEq, Value.int.injEq, Value.bool.injEq, AV.fn.injEq, AV.pp.injEq, true_and, and_true, slT_inj_int] at h
 simp_all
theorem fiduciallaw46_At_cg (n : Nat) {f : api_Field} {x' : Int} {y : Int} {f_ : api_Field} {x'_ : Int} {y_ : Int} (h : ([.agg [.at (.int .i64 f.Width), .at (.int .i64 f.Height), slT (iC .i64) f.V], .at (.int .i64 x'), .at (.int .i64 y)] : List AV) = [.agg [.at (.int .i64 f_.Width), .at (.int .i64 f_.Height), slT (iC .i64) f_.V], .at (.int .i64 x'_), .at (.int .i64 y_)]) : fiduciallaw46_At n f x' y = fiduciallaw46_At n f_ x'_ y_ := by
 obtain ⟨rfl, rfl, rfl⟩ := fiduciallaw46_At_inj h
 rfl
theorem fiduciallaw46_At_ok (n : Nat) (f : api_Field) (x' : Int) (y : Int) (r : Int) (hr : fiduciallaw46_At n f x' y = some r) : FnOk Tryz.prog 63 [.agg (api_Field.c f), aI64 x', aI64 y] (aI64 r) := by
 unfold fiduciallaw46_At at hr
 refine FnOk.bd fine Tryz.func63 [.tmp 6] ?_
 unfold Tryz.f63
 simp only [Option.getD_some]
 refine .seq <| .r2 fine 17 [(1, aI64 x'), (2, aI64 y), (3, .hp 0 0)] [.own (api_Field.c f)] <| .seq ?_
 obtain ⟨hg1, hr⟩ := gd hr
 refine .r0 fine <| .mu 8 <| .p0 (v := .pp (f.V.flatMap (iC .i64)) ((wrapF .i64 ((wrapF .i64 (y * f.Width)) + x')).toNat * 1)) (Eq.trans (b := ORes.ofP (guardV (inR (wrapF .i64 ((wrapF .i64 (y * f.Width)) + x')) f.V.length) (.pp (f.V.flatMap (iC .i64)) ((wrapF .i64 ((wrapF .i64 (y * f.Width)) + x')).toNat * 1)))) (by kernel_rfl) (ofP_guard hg1)) <| .p0 (v := aI64 (gt f.V (wrapF .i64 ((wrapF .i64 (y * f.Width)) + x')))) (Eq.trans (b := ORes.ofP ((f.V.flatMap (iC .i64))[(wrapF .i64 ((wrapF .i64 (y * f.Width)) + x')).toNat * 1]?)) (by kernel_rfl) (ofP_some (flat_get (iC_len _) (inR_lt hg1) (by decide : 0 < 1) (by omega : (wrapF .i64 ((wrapF .i64 (y * f.Width)) + x')).toNat * 1 = (wrapF .i64 ((wrapF .i64 (y * f.Width)) + x')).toNat * 1 + 0) (by kernel_rfl)))) <| .mu 1 <| .done <| .ret ?_
 obtain rfl := Option.some.inj hr
 exact FinQ.r1 [aI64 (gt f.V (wrapF .i64 ((wrapF .i64 (y * f.Width)) + x')))]

theorem fiduciallaw46_filled_1_ok (n : Nat) (x' : Int) (y : Int) (p : Int) (p' : Int) (p'' : List Int) (p''' : Int) (r : Int) (hr : fiduciallaw46_filled_1 n x' y p p' p'' p''' = some r) : FnOk Tryz.prog 75 [aI64 x', aI64 y, .pp [aI64 p, aI64 p', sI64 p''] 0, .pp [aI64 p'''] 0] (aI64 r) := by
 unfold fiduciallaw46_filled_1 at hr
 refine FnOk.bd fine Tryz.func75 [.tmp 6] ?_
 unfold Tryz.f75
 simp only [Option.getD_some]
 refine .seq <| .r3 fine 69 [(0, aI64 x'), (1, aI64 y), (2, .pp [aI64 p, aI64 p', sI64 p''] 0), (3, .pp [aI64 p'''] 0)] <| .seq <| .seq ?_
 obtain ⟨v1, hc2, hr⟩ := bd hr
 refine .g1 fine (ok0 (fiduciallaw46_At_ok n (api_Field.mk p p' p'') x' y v1 hc2)) <| .mu 3 <| .ca cf0 <| .mu 1 <| .done <| .n2 69 [(0, aI64 x'), (1, aI64 y), (2, .pp [aI64 p, aI64 p', sI64 p''] 0), (3, .pp [aI64 p'''] 0), (13, aB (decide (v1 ≥ 0)))] [] ?_
 refine .cd hr (fun hb6 hr => ?_) (fun hb6 hr => ?_)
 ·refine .seq ?_
  obtain ⟨v7, hc8, hr⟩ := bd hr
  refine .g1 fine (ok0 (fiduciallaw46_At_ok n (api_Field.mk p p' p'') x' y v7 hc8)) <| .mu 3 <| .ca cf0 <| .mu 1 <| .done <| .ret ?_
  obtain rfl := Option.some.inj hr
  exact FinQ.r1 [aI64 v7]
 ·refine .skip <| .seq <| .r3 fine 69 [(1, aI64 y), (2, .pp [aI64 p, aI64 p', sI64 p''] 0), (3, .pp [aI64 p'''] 0), (7, aI64 x'), (8, aI64 x')] <| .seq <| .block ?_
  replace hr := bd hr; obtain ⟨a_28, hL35, hr⟩ := hr
  refine .loopO (σ := fun z0 => match z0 with | a_23 => ⟨mkS 69 0 [(1, aI64 y), (2, .pp [aI64 p, aI64 p', sI64 p''] 0), (3, .pp [aI64 p'''] 0), (7, aI64 a_23), (8, aI64 x')], []⟩) (Q := fun x st' => x = .exit 0 ∧ Wk 0 st' ⟨mkS 69 0 [(1, aI64 y), (2, .pp [aI64 p, aI64 p', sI64 p''] 0), (3, .pp [aI64 p'''] 0), (7, aI64 a_28), (8, aI64 x')], []⟩) hL35 ((Wk.gc [1, 2, 3, 7, 8] [] rfl pK0).to (by kernel_rfl)) ?_ ?_
  ·clear hr
   rintro m a_23 hr
   show CQ _ _ _ _ _ ⟨_, _⟩
   refine .seq <| .seq ?_
   rcases Bool.eq_false_or_eq_true (decide (a_23 ≥ 0)) with hb30 | hb30
   ·replace hr := cd_t hb30 hr
    obtain ⟨v31, hc32, hr⟩ := bd hr
    refine .g1 fine (ok0 (fiduciallaw46_At_ok n (api_Field.mk p p' p'') a_23 y v31 hc32)) <| .mu 1 <| .p0 (v := aB true) (Eq.trans (b := some (.pure (aB (decide (a_23 ≥ 0))))) (by kernel_rfl) (by rw [hb30])) <| .mu 4 <| .ca cf0 <| .mu 2 <| .done <| .n2 69 [(1, aI64 y), (2, .pp [aI64 p, aI64 p', sI64 p''] 0), (3, .pp [aI64 p'''] 0), (7, aI64 a_23), (8, aI64 x'), (28, aB (decide (v31 < 0)))] [] ?_
    refine .cd hr (fun hb33 hr => ?_) (fun hb33 hr => ?_)
    ·refine .skip <| .block <| .ru fine <| .pop ?_
     exact loopF_back (wrapF .i64 (a_23 - 1)) hr ((Wk.gc [1, 2, 3, 7, 8] [] rfl pK0).to (by kernel_rfl))
    ·refine .leave rfl ?_
     obtain rfl := Option.some.inj hr
     exact ⟨rfl, ((Wk.gc [1, 2, 3, 7, 8] [] rfl pK0).to (by kernel_rfl))⟩
   ·replace hr := cd_f hb30 hr
    refine .r0 fine <| .mu 1 <| .p0 (v := aB false) (Eq.trans (b := some (.pure (aB (decide (a_23 ≥ 0))))) (by kernel_rfl) (by rw [hb30])) <| .mu 7 <| .done <| .n2 69 [(1, aI64 y), (2, .pp [aI64 p, aI64 p', sI64 p''] 0), (3, .pp [aI64 p'''] 0), (7, aI64 a_23), (8, aI64 x'), (28, aB false)] [] <| .cF (by kernel_rfl) <| .leave rfl ?_
    obtain rfl := Option.some.inj hr
    exact ⟨rfl, ((Wk.gc [1, 2, 3, 7, 8] [] rfl pK0).to (by kernel_rfl))⟩
  ·rintro x st' hq36
   clear hL35
   obtain ⟨rfl, hq36⟩ := hq36
   refine CQ_exit _ rfl <| .wk hq36 <| .seq <| .block ?_
   replace hr := bd hr; obtain ⟨b_56, hL63, hr⟩ := hr
   refine .loopO (σ := fun z0 => match z0 with | b_51 => ⟨mkS 69 0 [(1, aI64 y), (2, .pp [aI64 p, aI64 p', sI64 p''] 0), (3, .pp [aI64 p'''] 0), (7, aI64 a_28), (8, aI64 b_51)], []⟩) (Q := fun x st' => x = .exit 2 ∧ Wk 0 st' ⟨mkS 69 0 [(1, aI64 y), (2, .pp [aI64 p, aI64 p', sI64 p''] 0), (3, .pp [aI64 p'''] 0), (7, aI64 a_28), (8, aI64 b_56)], []⟩) hL63 ((Wk.gc [1, 2, 3, 7, 8] [] rfl pK0).to (by kernel_rfl)) ?_ ?_
   ·clear hr
    rintro m b_51 hr
    show CQ _ _ _ _ _ ⟨_, _⟩
    refine .seq <| .seq ?_
    rcases Bool.eq_false_or_eq_true (decide (b_51 < p)) with hb58 | hb58
    ·replace hr := cd_t hb58 hr
     obtain ⟨v59, hc60, hr⟩ := bd hr
     refine .g1 fine (ok0 (fiduciallaw46_At_ok n (api_Field.mk p p' p'') b_51 y v59 hc60)) <| .mu 3 <| .p0 (v := aB true) (Eq.trans (b := some (.pure (aB (decide (b_51 < p))))) (by kernel_rfl) (by rw [hb58])) <| .mu 4 <| .ca cf0 <| .mu 2 <| .done <| .n2 69 [(1, aI64 y), (2, .pp [aI64 p, aI64 p', sI64 p''] 0), (3, .pp [aI64 p'''] 0), (7, aI64 a_28), (8, aI64 b_51), (41, aB (decide (v59 < 0)))] [] ?_
     refine .cd hr (fun hb61 hr => ?_) (fun hb61 hr => ?_)
     ·refine .skip <| .block <| .ru fine <| .pop ?_
      exact loopF_back (wrapF .i64 (b_51 + 1)) hr ((Wk.gc [1, 2, 3, 7, 8] [] rfl pK0).to (by kernel_rfl))
     ·refine .leave rfl ?_
      obtain rfl := Option.some.inj hr
      exact ⟨rfl, ((Wk.gc [1, 2, 3, 7, 8] [] rfl pK0).to (by kernel_rfl))⟩
    ·replace hr := cd_f hb58 hr
     refine .r0 fine <| .mu 3 <| .p0 (v := aB false) (Eq.trans (b := some (.pure (aB (decide (b_51 < p))))) (by kernel_rfl) (by rw [hb58])) <| .mu 7 <| .done <| .n2 69 [(1, aI64 y), (2, .pp [aI64 p, aI64 p', sI64 p''] 0), (3, .pp [aI64 p'''] 0), (7, aI64 a_28), (8, aI64 b_51), (41, aB false)] [] <| .cF (by kernel_rfl) <| .leave rfl ?_
     obtain rfl := Option.some.inj hr
     exact ⟨rfl, ((Wk.gc [1, 2, 3, 7, 8] [] rfl pK0).to (by kernel_rfl))⟩
   ·rintro x st' hq64
    clear hL63
    obtain ⟨rfl, hq64⟩ := hq64
    refine CQ_exit _ rfl <| .wk hq64 <| .seq <| .seq ?_
    rcases Bool.eq_false_or_eq_true (decide (a_28 < 0)) with hb65 | hb65
    ·replace hr := cd_t hb65 hr
     refine .r0 fine <| .mu 1 <| .p0 (v := aB true) (Eq.trans (b := some (.pure (aB (decide (a_28 < 0))))) (by kernel_rfl) (by rw [hb65])) <| .mu 14 <| .done <| .n2 69 [(1, aI64 y), (2, .pp [aI64 p, aI64 p', sI64 p''] 0), (7, aI64 a_28), (8, aI64 b_56), (59, aB true)] [] <| .cT (by kernel_rfl) <| .seq <| .ru fine <| .ret ?_
     obtain rfl := Option.some.inj hr
     exact FinQ.r1 [aI64 (-1)]
    ·replace hr := cd_f hb65 hr
     rcases Bool.eq_false_or_eq_true (decide (b_56 ≥ p)) with hb66 | hb66
     ·replace hr := cd_t hb66 hr
      refine .r0 fine <| .mu 1 <| .p0 (v := aB false) (Eq.trans (b := some (.pure (aB (decide (a_28 < 0))))) (by kernel_rfl) (by rw [hb65])) <| .mu 4 <| .pure (v := aB true) (by kernel_rfl) (Eq.trans (b := some (.pure (aB (decide (b_56 ≥ p))))) (by kernel_rfl) (by rw [hb66])) <| .mu 9 <| .done <| .n2 69 [(1, aI64 y), (2, .pp [aI64 p, aI64 p', sI64 p''] 0), (7, aI64 a_28), (8, aI64 b_56), (59, aB true)] [] <| .cT (by kernel_rfl) <| .seq <| .ru fine <| .ret ?_
      obtain rfl := Option.some.inj hr
      exact FinQ.r1 [aI64 (-1)]
     ·replace hr := cd_f hb66 hr
      refine .r0 fine <| .mu 1 <| .p0 (v := aB false) (Eq.trans (b := some (.pure (aB (decide (a_28 < 0))))) (by kernel_rfl) (by rw [hb65])) <| .mu 4 <| .pure (v := aB false) (by kernel_rfl) (Eq.trans (b := some (.pure (aB (decide (b_56 ≥ p))))) (by kernel_rfl) (by rw [hb66])) <| .mu 9 <| .done <| .n2 69 [(1, aI64 y), (2, .pp [aI64 p, aI64 p', sI64 p''] 0), (7, aI64 a_28), (8, aI64 b_56), (59, aB (decide ((wrapF .i64 ((wrapF .i64 (b_56 - a_28)) - 1)) > p''')))] [] ?_
      refine .cd hr (fun hb67 hr => ?_) (fun hb67 hr => ?_)
      ·refine .seq <| .ru fine <| .ret ?_
       obtain rfl := Option.some.inj hr
       exact FinQ.r1 [aI64 (-1)]
      ·refine .skip <| .seq ?_
       obtain ⟨v68, hc69, v70, hc71, hr⟩ := bd2 hr
       refine .tn fine (ca1 (ok0 (fiduciallaw46_At_ok n (api_Field.mk p p' p'') a_28 y v68 hc69)) (ca3 (ok0 (fiduciallaw46_At_ok n (api_Field.mk p p' p'') b_56 y v70 hc71)))) <| .mu 3 <| .ca cf0 <| .mu 3 <| .ca (cfA (fun h => by rw [sv hc71 hc69 (fiduciallaw46_At_cg n h)]) cf0) <| .mu 2 ?_
       refine .done ⟨by kernel_rfl, ?_⟩
       refine .ret ?_
       obtain rfl := Option.some.inj hr
       exact FinQ.r1 [aI64 (mn v68 v70)]

theorem fiduciallaw46_Made_of_fiduciallaw46_filled_1_ok (n : Nat) (f : api_Field) (c : Int) (c' : Int) (c'' : List Int) (c''' : Int) (r : api_Field) (hr : fiduciallaw46_Made_of_fiduciallaw46_filled_1 n f c c' c'' c''' = some r) : FnOk Tryz.prog 61 [.agg (api_Field.c f), .fn 75 [] [.pp [aI64 c, aI64 c', sI64 c''] 0, .pp [aI64 c'''] 0]] (.agg (api_Field.c r)) := by
 unfold fiduciallaw46_Made_of_fiduciallaw46_filled_1 at hr
 refine FnOk.bd fine Tryz.func61 [.cell 4 24] ?_
 unfold Tryz.f61
 simp only [Option.getD_some]
 refine .seq <| .r2 fine 35 [(1, .fn 75 [] [.pp [aI64 c, aI64 c', sI64 c''] 0, .pp [aI64 c'''] 0]), (2, .hp 0 0), (4, .hp 1 0)] [.own (api_Field.c f), .own [aI64 0, aI64 0, nS]] <| .seq <| .r2 fine 35 [(1, .fn 75 [] [.pp [aI64 c, aI64 c', sI64 c''] 0, .pp [aI64 c'''] 0]), (2, .hp 0 0), (4, .hp 1 0), (5, .hp 2 0)] [.own (api_Field.c f), .own [aI64 0, aI64 0, nS], .own [aI64 f.Width, aI64 f.Height, nS]] <| .seq <| .seq <| .r3 fine 35 [(1, .fn 75 [] [.pp [aI64 c, aI64 c', sI64 c''] 0, .pp [aI64 c'''] 0]), (2, .hp 0 0), (4, .hp 1 0), (5, .hp 2 0), (14, aI64 f.Height), (15, aI64 0)] <| .block ?_
 replace hr := bd hr; obtain ⟨out_24, hL48, hr⟩ := hr
 refine .loopO (σ := fun z0 => match z0 with | (out_1, x_2) => ⟨mkS 35 0 [(1, .fn 75 [] [.pp [aI64 c, aI64 c', sI64 c''] 0, .pp [aI64 c'''] 0]), (2, .hp 0 0), (4, .hp 1 0), (5, .hp 2 0), (14, aI64 f.Height), (15, aI64 x_2)], [.own (api_Field.c f), .own [aI64 0, aI64 0, nS], .own [aI64 f.Width, aI64 f.Height, .hs 3 0 out_1.length 1], .own (out_1.flatMap (iC .i64))]⟩) (Q := fun x st' => x = .exit 0 ∧ Wk 0 st' ⟨mkS 35 0 [(4, .hp 0 0), (5, .hp 1 0)], [.own [aI64 0, aI64 0, nS], .own [aI64 f.Width, aI64 f.Height, .hs 2 0 out_24.length 1], .own (out_24.flatMap (iC .i64))]⟩) hL48 ((Wk.nilcell 2 2 1 (cs := [aI64 f.Width, aI64 f.Height, nS]) (by kernel_rfl) (by kernel_rfl)).trans ((Wk.gc [1, 2, 4, 5, 14, 15] [(0, true), (1, true), (2, true), (3, false)] rfl (pKt (pKt (pKt (pKc trivial))))).to (by kernel_rfl))) ?_ ?_
 ·clear hr
  rintro m ⟨out_1, x_2⟩ hr
  show CQ _ _ _ _ _ ⟨_, _⟩
  refine .seq <| .r3 fine 35 [(1, .fn 75 [] [.pp [aI64 c, aI64 c', sI64 c''] 0, .pp [aI64 c'''] 0]), (2, .hp 0 0), (4, .hp 1 0), (5, .hp 2 0), (14, aI64 f.Height), (15, aI64 x_2), (16, aB (decide (x_2 < f.Height)))] <| .seq ?_
  refine .cd hr (fun hb27 hr => ?_) (fun hb27 hr => ?_)
  ·refine .skip <| .seq <| .block <| .seq <| .r3 fine 35 [(1, .fn 75 [] [.pp [aI64 c, aI64 c', sI64 c''] 0, .pp [aI64 c'''] 0]), (2, .hp 0 0), (4, .hp 1 0), (5, .hp 2 0), (6, aI64 x_2), (14, aI64 f.Height), (15, aI64 x_2)] <| .seq <| .r3 fine 35 [(1, .fn 75 [] [.pp [aI64 c, aI64 c', sI64 c''] 0, .pp [aI64 c'''] 0]), (2, .hp 0 0), (4, .hp 1 0), (5, .hp 2 0), (6, aI64 x_2), (14, aI64 f.Height), (15, aI64 x_2), (19, aI64 f.Width), (20, aI64 0)] <| .block ?_
   replace hr := bd hr; obtain ⟨out_36, hL45, hr⟩ := hr
   refine .loopO (σ := fun z0 => match z0 with | (out_28, x_29) => ⟨mkS 35 0 [(1, .fn 75 [] [.pp [aI64 c, aI64 c', sI64 c''] 0, .pp [aI64 c'''] 0]), (2, .hp 0 0), (4, .hp 1 0), (5, .hp 2 0), (6, aI64 x_2), (14, aI64 f.Height), (15, aI64 x_2), (19, aI64 f.Width), (20, aI64 x_29)], [.own (api_Field.c f), .own [aI64 0, aI64 0, nS], .own [aI64 f.Width, aI64 f.Height, .hs 3 0 out_28.length 1], .own (out_28.flatMap (iC .i64))]⟩) (Q := fun x st' => x = .exit 2 ∧ Wk 0 st' ⟨mkS 35 0 [(1, .fn 75 [] [.pp [aI64 c, aI64 c', sI64 c''] 0, .pp [aI64 c'''] 0]), (2, .hp 0 0), (4, .hp 1 0), (5, .hp 2 0), (14, aI64 f.Height), (15, aI64 x_2)], [.own (api_Field.c f), .own [aI64 0, aI64 0, nS], .own [aI64 f.Width, aI64 f.Height, .hs 3 0 out_36.length 1], .own (out_36.flatMap (iC .i64))]⟩) hL45 ((Wk.gc [1, 2, 4, 5, 6, 14, 15, 19, 20] [(0, true), (1, true), (2, true), (3, false)] rfl (pKt (pKt (pKt (pKo (iC .i64) (iC_pure _) out_1 trivial))))).to (by kernel_rfl)) ?_ ?_
   ·clear hr
    rintro m ⟨out_28, x_29⟩ hr
    show CQ _ _ _ _ _ ⟨_, _⟩
    refine .seq <| .r3 fine 35 [(1, .fn 75 [] [.pp [aI64 c, aI64 c', sI64 c''] 0, .pp [aI64 c'''] 0]), (2, .hp 0 0), (4, .hp 1 0), (5, .hp 2 0), (6, aI64 x_2), (14, aI64 f.Height), (15, aI64 x_2), (19, aI64 f.Width), (20, aI64 x_29), (21, aB (decide (x_29 < f.Width)))] <| .seq ?_
    refine .cd hr (fun hb39 hr => ?_) (fun hb39 hr => ?_)
    ·refine .skip <| .seq <| .block <| .seq <| .r3 fine 35 [(1, .fn 75 [] [.pp [aI64 c, aI64 c', sI64 c''] 0, .pp [aI64 c'''] 0]), (2, .hp 0 0), (4, .hp 1 0), (5, .hp 2 0), (6, aI64 x_2), (7, aI64 x_29), (14, aI64 f.Height), (15, aI64 x_2), (19, aI64 f.Width), (20, aI64 x_29)] ?_
     obtain ⟨v40, hc41, hr⟩ := bd hr
     obtain ⟨hg42, hg43, hr⟩ := gd2 hr
     refine .t1 fine (ok0 (fiduciallaw46_filled_1_ok n x_29 x_2 c c' c'' c''' v40 hc41)) <| .mu 5 <| .ca cf0 <| .mu 1 <| .eff (v := .hs 5 0 (out_28 ++ [v40]).length 1) (ws := [(3, .dead), (5, .own ((out_28 ++ [v40]).flatMap (iC .i64)))]) (by kernel_rfl) (Eq.trans (b := guardO (decide (0 + out_28.length * 1 ≤ (out_28.flatMap (iC .i64)).length) && decide ((out_28.length + 1) * 8 ≤ 140737488355328) && decide (out_28.length + 1 ≤ 4611686018427387904)) (some (.eff (.hs 5 0 (out_28.length + 1) 1) [(3, .dead), (5, .own (((out_28.flatMap (iC .i64)).drop 0).take (out_28.length * 1) ++ [aI64 v40]))]))) (by kernel_rfl) (app_own (l := out_28) (xs := [v40]) (iC_len _) rfl rfl (by kernel_rfl) hg42 hg43)) (by kernel_rfl) <| .mu 2 ?_
     refine .done ⟨by kernel_rfl, ?_⟩
     refine .pop <| .ru fine ?_
     exact loopF_back (out_28 ++ [v40], wrapF .i64 (x_29 + 1)) hr ((Wk.gc [1, 2, 4, 5, 6, 14, 15, 19, 20] [(0, true), (1, true), (2, true), (5, false)] rfl (pKt (pKt (pKt (pKo (iC .i64) (iC_pure _) (out_28 ++ [v40]) trivial))))).to (by kernel_rfl))
    ·refine .leave rfl ?_
     obtain rfl := Option.some.inj hr
     exact ⟨rfl, ((Wk.gc [1, 2, 4, 5, 14, 15] [(0, true), (1, true), (2, true), (3, false)] rfl (pKt (pKt (pKt (pKo (iC .i64) (iC_pure _) out_28 trivial))))).to (by kernel_rfl))⟩
   ·rintro x st' hq46
    clear hL45
    obtain ⟨rfl, hq46⟩ := hq46
    refine CQ_exit _ rfl <| .pop <| .wk hq46 <| .ru fine ?_
    exact loopF_back (out_36, wrapF .i64 (x_2 + 1)) hr ((Wk.gc [1, 2, 4, 5, 14, 15] [(0, true), (1, true), (2, true), (3, false)] rfl (pKt (pKt (pKt (pKo (iC .i64) (iC_pure _) out_36 trivial))))).to (by kernel_rfl))
  ·refine .leave rfl ?_
   obtain rfl := Option.some.inj hr
   exact ⟨rfl, ((Wk.gc [4, 5] [(1, true), (2, true), (3, false)] rfl (pKt (pKt (pKo (iC .i64) (iC_pure _) out_1 trivial)))).to (by kernel_rfl))⟩
 ·rintro x st' hq49
  clear hL48
  obtain ⟨rfl, hq49⟩ := hq49
  refine CQ_exit _ rfl <| .wk hq49 <| .seq <| .r2 fine 35 [(4, .hp 0 0)] [.own [aI64 f.Width, aI64 f.Height, .hs 2 0 out_24.length 1], .own [aI64 f.Width, aI64 f.Height, .hs 2 0 out_24.length 1], .own (out_24.flatMap (iC .i64))] <| .ret ?_
  obtain rfl := Option.some.inj hr
  exact FinQ.ret (vs := [.agg [aI64 f.Width, aI64 f.Height, .hs 2 0 out_24.length 1]]) (by kernel_rfl) (Sn.agg (SnL.cons (Sn.pure rfl) (SnL.cons (Sn.pure rfl) (SnL.cons (Sn.hs rfl (.inl rfl) (SnC.pure (ids_flat (iC_pure _) _)) (fun h => flat_nil0 h)) SnL.nil))))

theorem fiduciallaw46_filled_ok (n : Nat) (f : api_Field) (longest : Int) (r : api_Field) (hr : fiduciallaw46_filled n f longest = some r) : FnOk Tryz.prog 33 [.agg (api_Field.c f), aI64 longest] (.agg (api_Field.c r)) := by
 unfold fiduciallaw46_filled at hr
 refine FnOk.bd fine Tryz.func33 [.cell 4 24] ?_
 unfold Tryz.f33
 simp only [Option.getD_some]
 refine .seq <| .r2 fine 8 [(2, .hp 0 0), (3, .hp 1 0), (4, .hp 2 0)] [.own (api_Field.c f), .own [aI64 longest], .own [aI64 0, aI64 0, nS]] <| .seq ?_
 obtain ⟨v1, hc2, hr⟩ := bd hr
 refine .g1 fine (callOk_ref (args := [.agg (api_Field.c f), .fn 75 [] [.hp 0 0, .hp 1 0]]) (l := [0, 1]) (SnL.cons (Sn.pure rfl) (SnL.cons (Sn.fn SnL.nil (SnL.cons (Sn.hp rfl (.inl rfl) (SnC.cons (Sn.pure rfl) (SnC.cons (Sn.pure rfl) (SnC.cons (Sn.pure rfl) SnC.nil)))) (SnL.cons (Sn.hp rfl (.inl rfl) (SnC.cons (Sn.pure rfl) SnC.nil)) SnL.nil))) SnL.nil)) (fiduciallaw46_Made_of_fiduciallaw46_filled_1_ok n f f.Width f.Height f.V longest v1 hc2)) <| .mu 2 <| .ca cf0 <| .mu 1 <| .done <| .n2 8 [(4, .hp 2 0)] [.fix (api_Field.c f), .fix [aI64 longest], .own (api_Field.c v1)] <| .ret ?_
 obtain rfl := Option.some.inj hr
 exact FinQ.r1 [.agg (api_Field.c v1)]

theorem fiduciallaw46_DepthFills_1_ok (n : Nat) (p : Int) (p' : Int) (p'' : List Int) (p''' : Int) (r : api_Field) (hr : fiduciallaw46_DepthFills_1 n p p' p'' p''' = some r) : FnOk Tryz.prog 32 [.pp [aI64 p, aI64 p', sI64 p''] 0, .pp [aI64 p'''] 0] (.agg (api_Field.c r)) := by
 unfold fiduciallaw46_DepthFills_1 at hr
 refine FnOk.bd fine Tryz.func32 [.cell 2 24] ?_
 unfold Tryz.f32
 simp only [Option.getD_some]
 refine .seq <| .r2 fine 6 [(0, .pp [aI64 p, aI64 p', sI64 p''] 0), (1, .pp [aI64 p'''] 0), (2, .hp 0 0)] [.own [aI64 0, aI64 0, nS]] <| .seq ?_
 obtain ⟨v1, hc2, hr⟩ := bd hr
 refine .g1 fine (ok0 (fiduciallaw46_filled_ok n (api_Field.mk p p' p'') p''' v1 hc2)) <| .mu 2 <| .ca cf0 <| .mu 1 <| .done <| .n2 6 [(2, .hp 0 0)] [.own (api_Field.c v1)] <| .ret ?_
 obtain rfl := Option.some.inj hr
 exact FinQ.r1 [.agg (api_Field.c v1)]

theorem fiduciallaw46_is_of_fiduciallaw46_DepthFills_1_ok (n : Nat) (f : api_Field) (c : Int) (want : Int) (c' : Int) (c'' : Int) (c''' : List Int) (c'''' : Int) (r : Bool) (hr : fiduciallaw46_is_of_fiduciallaw46_DepthFills_1 n f c want c' c'' c''' c'''' = some r) : FnOk Tryz.prog 16 [.agg (api_Field.c f), aI64 c, aI64 want, .fn 32 [] [.pp [aI64 c', aI64 c'', sI64 c'''] 0, .pp [aI64 c''''] 0]] (aB r) := by
 unfold fiduciallaw46_is_of_fiduciallaw46_DepthFills_1 at hr
 refine FnOk.bd fine Tryz.func16 [.tmp 8] ?_
 unfold Tryz.f16
 simp only [Option.getD_some]
 refine .seq <| .r2 fine 26 [(1, aI64 c), (2, aI64 want), (3, .fn 32 [] [.pp [aI64 c', aI64 c'', sI64 c'''] 0, .pp [aI64 c''''] 0]), (4, .hp 0 0)] [.own (api_Field.c f)] <| .seq <| .seq <| .r3 fine 26 [(1, aI64 c), (2, aI64 want), (3, .fn 32 [] [.pp [aI64 c', aI64 c'', sI64 c'''] 0, .pp [aI64 c''''] 0]), (4, .hp 0 0), (10, aB ((want : Int) != 0))] ?_
 refine .cd hr (fun hb1 hr => ?_) (fun hb1 hr => ?_)
 ·refine .seq ?_
  rcases Bool.eq_false_or_eq_true ((c : Int) == want) with hb2 | hb2
  ·replace hr := cd_t hb2 hr
   obtain ⟨v3, hc4, hr⟩ := bd hr
   refine .g1 fine (ok0 (fiduciallaw46_empty_ok n f v3 hc4)) <| .mu 2 <| .p0 (v := aB true) (Eq.trans (b := some (.pure (aB ((c : Int) == want)))) (by kernel_rfl) (by rw [hb2])) <| .mu 2 <| .ca cf0 <| .mu 2 <| .done <| .ret ?_
   obtain rfl := Option.some.inj hr
   exact FinQ.r1 [aB v3]
  ·replace hr := cd_f hb2 hr
   refine .r0 fine <| .mu 2 <| .p0 (v := aB false) (Eq.trans (b := some (.pure (aB ((c : Int) == want)))) (by kernel_rfl) (by rw [hb2])) <| .mu 5 <| .done <| .ret ?_
   obtain rfl := Option.some.inj hr
   exact FinQ.r1 [aB false]
 ·refine .skip <| .seq ?_
  rcases Bool.eq_false_or_eq_true ((c : Int) == 0) with hb5 | hb5
  ·replace hr := cd_t hb5 hr
   obtain ⟨v6, hc7, v8, hc9, hr⟩ := bd2 hr
   refine .tn fine (ca1 (ok0 (fiduciallaw46_DepthFills_1_ok n c' c'' c''' c'''' v6 hc7)) (ca3 (ok0 (fiduciallaw46_Same_ok n f v6 v8 hc9)))) <| .mu 1 <| .pure (v := aB true) (by kernel_rfl) (Eq.trans (b := some (.pure (aB ((c : Int) == 0)))) (by kernel_rfl) (by rw [hb5])) (by kernel_rfl) <| .mu 3 <| .ca cf0 <| .ca (cfF cf0) <| .mu 2 ?_
   refine .done ⟨by kernel_rfl, ?_⟩
   refine .ret ?_
   obtain rfl := Option.some.inj hr
   exact FinQ.r1 [aB v8]
  ·replace hr := cd_f hb5 hr
   refine .regionT fine callOf_nil <| .mu 1 <| .pure (v := aB false) (by kernel_rfl) (Eq.trans (b := some (.pure (aB ((c : Int) == 0)))) (by kernel_rfl) (by rw [hb5])) (by kernel_rfl) <| .mu 7 ?_
   refine .done ⟨by kernel_rfl, ?_⟩
   refine .ret ?_
   obtain rfl := Option.some.inj hr
   exact FinQ.r1 [aB false]

theorem fiduciallaw46_DepthFills_ok (n : Nat) (f : api_Field) (longest : Int) (r : Bool) (hr : fiduciallaw46_DepthFills n f longest = some r) : FnOk Tryz.prog 6 [.agg (api_Field.c f), aI64 longest] (aB r) := by
 unfold fiduciallaw46_DepthFills at hr
 refine FnOk.bd fine Tryz.func6 [.tmp 4] ?_
 unfold Tryz.f6
 simp only [Option.getD_some]
 refine .seq <| .r2 fine 46 [(2, .hp 0 0), (3, .hp 1 0)] [.own (api_Field.c f), .own [aI64 longest]] <| .seq <| .seq ?_
 obtain ⟨v1, hc2, hr⟩ := bd hr
 refine .g1 fine (ok0 (fiduciallaw46_known_ok n v1 hc2)) <| .ca cf0 <| .mu 1 <| .done <| .n2 46 [(2, .hp 0 0), (3, .hp 1 0), (10, aB (!v1))] [.own (api_Field.c f), .own [aI64 longest]] ?_
 refine .cd hr (fun hb4 hr => ?_) (fun hb4 hr => ?_)
 ·refine .seq <| .ru fine <| .ret ?_
  obtain rfl := Option.some.inj hr
  exact FinQ.r1 [aB false]
 ·refine .skip <| .seq <| .seq ?_
  obtain ⟨v5, hc6, hr⟩ := bd hr
  refine .g1 fine (ok0 (fiduciallaw46_few_ok n f v5 hc6)) <| .mu 1 <| .ca cf0 <| .mu 1 <| .done <| .n2 46 [(2, .hp 0 0), (3, .hp 1 0), (13, aB (!v5))] [.own (api_Field.c f), .own [aI64 longest]] ?_
  refine .cd hr (fun hb8 hr => ?_) (fun hb8 hr => ?_)
  ·refine .seq <| .ru fine <| .ret ?_
   obtain rfl := Option.some.inj hr
   exact FinQ.r1 [aB true]
  ·refine .skip <| .seq ?_
   obtain ⟨v9, hc10, hr⟩ := bd hr
   refine .g1 fine (ok0 (depth_Fill_ok n f longest v9 hc10)) <| .mu 2 <| .ca cf0 <| .mu 6 <| .done <| .n2 46 [(2, .hp 0 0), (3, .hp 1 0), (5, .hp 2 0), (6, aI64 v9.2)] [.own (api_Field.c f), .own [aI64 longest], .own (api_Field.c v9.1)] <| .seq <| .r3 fine 46 [(2, .hp 0 0), (3, .hp 1 0), (5, .hp 2 0), (6, aI64 v9.2), (7, aI64 0)] <| .seq <| .seq ?_
   obtain ⟨v11, hc12, hr⟩ := bd hr
   refine .g1 fine (ok0 (fiduciallaw46_Valid_ok n f v11 hc12)) <| .mu 1 <| .ca cf0 <| .mu 1 <| .done <| .n2 46 [(2, .hp 0 0), (3, .hp 1 0), (5, .hp 2 0), (6, aI64 v9.2), (7, aI64 0), (22, aB (!v11))] [.own (api_Field.c f), .own [aI64 longest], .own (api_Field.c v9.1)] ?_
   replace hr := bd hr; obtain ⟨want_13, hL17, hr⟩ := hr
   refine .app1 (Q := fun x st' => x = .normal ∧ Wk 0 st' ⟨mkS 46 0 [(2, .hp 0 0), (3, .hp 1 0), (5, .hp 2 0), (6, aI64 v9.2), (7, aI64 want_13)], [.own (api_Field.c f), .own [aI64 longest], .own (api_Field.c v9.1)]⟩) ?_ ?_
   ·clear hr
    have hr := hL17
    clear hL17
    refine .cd hr (fun hb14 hr => ?_) (fun hb14 hr => ?_)
    ·refine .ru fine ?_
     obtain rfl := Option.some.inj hr
     exact ⟨rfl, ((Wk.gc [2, 3, 5, 6, 7] [(0, true), (1, true), (2, true)] rfl trivial).to (by kernel_rfl))⟩
    ·refine .seq <| .r3 fine 46 [(2, .hp 0 0), (3, .hp 1 0), (5, .hp 2 0), (6, aI64 v9.2), (7, aI64 0), (24, aB (decide (longest < 0)))] ?_
     refine .cd hr (fun hb15 hr => ?_) (fun hb15 hr => ?_)
     ·refine .ru fine ?_
      obtain rfl := Option.some.inj hr
      exact ⟨rfl, ((Wk.gc [2, 3, 5, 6, 7] [(0, true), (1, true), (2, true)] rfl trivial).to (by kernel_rfl))⟩
     ·refine .skip ?_
      obtain rfl := Option.some.inj hr
      exact ⟨rfl, ((Wk.gc [2, 3, 5, 6, 7] [(0, true), (1, true), (2, true)] rfl trivial).to (by kernel_rfl))⟩
   ·rintro x st' hq18
    clear hL17
    obtain ⟨rfl, hq18⟩ := hq18
    refine .wk hq18 <| .seq <| .seq ?_
    obtain ⟨v19, hc20, hr⟩ := bd hr
    refine .g1 fine (callOk_val (args := [.agg (api_Field.c v9.1), aI64 v9.2, aI64 want_13, .fn 32 [] [.hp 0 0, .hp 1 0]]) (l := [0, 1]) rfl (SnL.cons (Sn.pure rfl) (SnL.cons (Sn.pure rfl) (SnL.cons (Sn.pure rfl) (SnL.cons (Sn.fn SnL.nil (SnL.cons (Sn.hp rfl (.inl rfl) (SnC.cons (Sn.pure rfl) (SnC.cons (Sn.pure rfl) (SnC.cons (Sn.pure rfl) SnC.nil)))) (SnL.cons (Sn.hp rfl (.inl rfl) (SnC.cons (Sn.pure rfl) SnC.nil)) SnL.nil))) SnL.nil)))) (fiduciallaw46_is_of_fiduciallaw46_DepthFills_1_ok n v9.1 v9.2 want_13 f.Width f.Height f.V longest v19 hc20)) <| .mu 4 <| .ca cf0 <| .mu 1 <| .done <| .n2 46 [(3, .hp 1 0), (5, .hp 2 0), (7, aI64 want_13), (30, aB (!v19))] [.own (api_Field.c f), .own [aI64 longest], .own (api_Field.c v9.1)] ?_
    refine .cd hr (fun hb22 hr => ?_) (fun hb22 hr => ?_)
    ·refine .seq <| .ru fine <| .ret ?_
     obtain rfl := Option.some.inj hr
     exact FinQ.r1 [aB false]
    ·refine .skip <| .seq <| .seq <| .r3 fine 46 [(3, .hp 1 0), (5, .hp 2 0), (32, aB ((want_13 : Int) != 0))] ?_
     refine .cd hr (fun hb24 hr => ?_) (fun hb24 hr => ?_)
     ·refine .seq <| .ru fine <| .ret ?_
      obtain rfl := Option.some.inj hr
      exact FinQ.r1 [aB true]
     ·refine .skip <| .seq ?_
      obtain ⟨v25, hc26, hr⟩ := bd hr
      refine .g1 fine (ok0 (depth_Fill_ok n v9.1 longest v25 hc26)) <| .mu 2 <| .ca cf0 <| .mu 6 <| .done <| .n2 46 [(5, .hp 2 0), (6, aI64 v25.2), (8, .hp 3 0)] [.own (api_Field.c f), .own [aI64 longest], .own (api_Field.c v9.1), .own (api_Field.c v25.1)] <| .seq ?_
      rcases Bool.eq_false_or_eq_true ((v25.2 : Int) == 0) with hb27 | hb27
      ·replace hr := cd_t hb27 hr
       obtain ⟨v28, hc29, hr⟩ := bd hr
       refine .g1 fine (ok0 (fiduciallaw46_Same_ok n v9.1 v25.1 v28 hc29)) <| .mu 1 <| .p0 (v := aB true) (Eq.trans (b := some (.pure (aB ((v25.2 : Int) == 0)))) (by kernel_rfl) (by rw [hb27])) <| .mu 3 <| .ca cf0 <| .mu 2 <| .done <| .ret ?_
       obtain rfl := Option.some.inj hr
       exact FinQ.r1 [aB v28]
      ·replace hr := cd_f hb27 hr
       refine .r0 fine <| .mu 1 <| .p0 (v := aB false) (Eq.trans (b := some (.pure (aB ((v25.2 : Int) == 0)))) (by kernel_rfl) (by rw [hb27])) <| .mu 6 <| .done <| .ret ?_
       obtain rfl := Option.some.inj hr
       exact FinQ.r1 [aB false]
end Go.L
