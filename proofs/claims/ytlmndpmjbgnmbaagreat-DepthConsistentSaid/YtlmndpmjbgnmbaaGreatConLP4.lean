/- The program's functions compute what the plain Lean programs compute, part 4; printed by a program. -/
import Derived.Test.YtlmndpmjbgnmbaaGreatConLP3
import Derived.Test.YtlmndpmjbgnmbaaGreatL0jkpilpbd
import Derived.Test.YtlmndpmjbgnmbaaGreatSmalliomipigo
import Derived.Test.YtlmndpmjbgnmbaaGreatChecked
import Derived.KernelRfl
set_option linter.unusedVariables false
set_option linter.unusedSimpArgs false
set_option maxRecDepth 100000
set_option maxHeartbeats 4000000
namespace Go.L
open Go Go.Eng Go.Proofs
theorem fiduciallaw46_DepthConsistent_1_ok (n : Nat) (p : Int) (p' : Int) (p'' : List Int) (p''' : Int) (p'''' : Int) (p''''' : List Int) (p'''''' : Int) (r : api_Field) (hr : fiduciallaw46_DepthConsistent_1 n p p' p'' p''' p'''' p''''' p'''''' = some r) : FnOk Tryz.prog 17 [.pp [aI64 p, aI64 p', sI64 p''] 0, .pp [aI64 p''', aI64 p'''', sI64 p'''''] 0, .pp [aI64 p''''''] 0] (.agg (api_Field.c r)) := by
 unfold fiduciallaw46_DepthConsistent_1 at hr
 refine FnOk.bd fine Tryz.func17 [.cell 3 24] ?_
 unfold Tryz.f17
 simp only [Option.getD_some]
 refine .seq <| .r2 fine 8 [(0, .pp [aI64 p, aI64 p', sI64 p''] 0), (1, .pp [aI64 p''', aI64 p'''', sI64 p'''''] 0), (2, .pp [aI64 p''''''] 0), (3, .hp 0 0)] [.own [aI64 0, aI64 0, nS]] <| .seq ?_
 obtain ⟨v1, hc2, hr⟩ := bd hr
 refine .g1 fine (ok0 (fiduciallaw46_Consistent_ok n (api_Field.mk p p' p'') (api_Field.mk p''' p'''' p''''') p'''''' v1 hc2)) <| .mu 3 <| .ca cf0 <| .mu 1 <| .done <| .n2 8 [(3, .hp 0 0)] [.own (api_Field.c v1)] <| .ret ?_
 obtain rfl := Option.some.inj hr
 exact FinQ.r1 [.agg (api_Field.c v1)]

theorem fiduciallaw46_is_of_fiduciallaw46_DepthConsistent_1_ok (n : Nat) (f : api_Field) (c : Int) (want : Int) (c' : Int) (c'' : Int) (c''' : List Int) (c'''' : Int) (c''''' : Int) (c'''''' : List Int) (c''''''' : Int) (r : Bool) (hr : fiduciallaw46_is_of_fiduciallaw46_DepthConsistent_1 n f c want c' c'' c''' c'''' c''''' c'''''' c''''''' = some r) : FnOk Tryz.prog 16 [.agg (api_Field.c f), aI64 c, aI64 want, .fn 17 [] [.pp [aI64 c', aI64 c'', sI64 c'''] 0, .pp [aI64 c'''', aI64 c''''', sI64 c''''''] 0, .pp [aI64 c'''''''] 0]] (aB r) := by
 unfold fiduciallaw46_is_of_fiduciallaw46_DepthConsistent_1 at hr
 refine FnOk.bd fine Tryz.func16 [.tmp 8] ?_
 unfold Tryz.f16
 simp only [Option.getD_some]
 refine .seq <| .r2 fine 26 [(1, aI64 c), (2, aI64 want), (3, .fn 17 [] [.pp [aI64 c', aI64 c'', sI64 c'''] 0, .pp [aI64 c'''', aI64 c''''', sI64 c''''''] 0, .pp [aI64 c'''''''] 0]), (4, .hp 0 0)] [.own (api_Field.c f)] <| .seq <| .seq <| .r3 fine 26 [(1, aI64 c), (2, aI64 want), (3, .fn 17 [] [.pp [aI64 c', aI64 c'', sI64 c'''] 0, .pp [aI64 c'''', aI64 c''''', sI64 c''''''] 0, .pp [aI64 c'''''''] 0]), (4, .hp 0 0), (10, aB ((want : Int) != 0))] ?_
 refine .cd hr (fun hb1 hr => ?_) (fun hb1 hr => ?_)
 ·refine .seq ?_
  rcases Bool.eq_false_or_eq_true ((c : Int) == want) with hb2 | hb2
  ·replace hr := cd_t hb2 hr
   obtain ⟨v3, hc4, hr⟩ := bd hr
   refine .g1 fine (ok0 (fiduciallaw46_empty_ok n f v3 hc4)) <| .mu 2 <| .p0 (v := aB true) (Eq.trans (b := some (.pure (aB ((c : Int) == want)))) (by kernel_rfl) (by rw [hb2])) <| .mu 2 <| .ca cf0 <| .mu 2 <| .done <| .ret ?_
   obtain rfl := Option.some.inj hr
   exact FinQ.r1 [aB v3]
  ·replace hr := cd_f hb2 hr
   refine .r0 fine <| .mu 2 <| .p0 (v := aB false) (Eq.trans (b := some (.pure (aB ((c : Int) == want)))) (by kernel_rfl) (by rw [hb2])) <| .mu 5 <| .done <| .ret ?_
   obtain rfl := Option.some.inj hr
   exact FinQ.r1 [aB false]
 ·refine .skip <| .seq ?_
  rcases Bool.eq_false_or_eq_true ((c : Int) == 0) with hb5 | hb5
  ·replace hr := cd_t hb5 hr
   obtain ⟨v6, hc7, v8, hc9, hr⟩ := bd2 hr
   refine .tn fine (ca1 (ok0 (fiduciallaw46_DepthConsistent_1_ok n c' c'' c''' c'''' c''''' c'''''' c''''''' v6 hc7)) (ca3 (ok0 (fiduciallaw46_Same_ok n f v6 v8 hc9)))) <| .mu 1 <| .pure (v := aB true) (by kernel_rfl) (Eq.trans (b := some (.pure (aB ((c : Int) == 0)))) (by kernel_rfl) (by rw [hb5])) (by kernel_rfl) <| .mu 3 <| .ca cf0 <| .ca (cfF cf0) <| .mu 2 ?_
   refine .done ⟨by kernel_rfl, ?_⟩
   refine .ret ?_
   obtain rfl := Option.some.inj hr
   exact FinQ.r1 [aB v8]
  ·replace hr := cd_f hb5 hr
   refine .regionT fine callOf_nil <| .mu 1 <| .pure (v := aB false) (by kernel_rfl) (Eq.trans (b := some (.pure (aB ((c : Int) == 0)))) (by kernel_rfl) (by rw [hb5])) (by kernel_rfl) <| .mu 7 ?_
   refine .done ⟨by kernel_rfl, ?_⟩
   refine .ret ?_
   obtain rfl := Option.some.inj hr
   exact FinQ.r1 [aB false]

theorem fiduciallaw46_DepthConsistent_ok (n : Nat) (left : api_Field) (right : api_Field) (most : Int) (r : Bool) (hr : fiduciallaw46_DepthConsistent n left right most = some r) : FnOk Tryz.prog 3 [.agg (api_Field.c left), .agg (api_Field.c right), aI64 most] (aB r) := by
 unfold fiduciallaw46_DepthConsistent at hr
 refine FnOk.bd fine Tryz.func3 [.tmp 6] ?_
 unfold Tryz.f3
 simp only [Option.getD_some]
 refine .seq <| .r2 fine 103 [(3, .hp 0 0), (4, .hp 1 0), (5, .hp 2 0)] [.own (api_Field.c left), .own (api_Field.c right), .own [aI64 most]] <| .seq <| .seq ?_
 obtain ⟨v1, hc2, hr⟩ := bd hr
 refine .g1 fine (ok0 (fiduciallaw46_known_ok n v1 hc2)) <| .ca cf0 <| .mu 1 <| .done <| .n2 103 [(3, .hp 0 0), (4, .hp 1 0), (5, .hp 2 0), (13, aB (!v1))] [.own (api_Field.c left), .own (api_Field.c right), .own [aI64 most]] ?_
 refine .cd hr (fun hb4 hr => ?_) (fun hb4 hr => ?_)
 ·refine .seq <| .ru fine <| .ret ?_
  obtain rfl := Option.some.inj hr
  exact FinQ.r1 [aB false]
 ·refine .skip <| .seq <| .seq ?_
  obtain ⟨v5, hc6, hr⟩ := bd hr
  rcases Bool.eq_false_or_eq_true (!v5) with hb7 | hb7
  ·replace hr := cd_t hb7 hr
   refine .g1 fine (ok0 (fiduciallaw46_few_ok n left v5 hc6)) <| .mu 1 <| .ca cf0 <| .p0 (v := aB true) (Eq.trans (b := some (.pure (aB (!v5)))) (by kernel_rfl) (by rw [hb7])) <| .mu 5 <| .done <| .n2 103 [(3, .hp 0 0), (4, .hp 1 0), (5, .hp 2 0), (21, aB true)] [.own (api_Field.c left), .own (api_Field.c right), .own [aI64 most]] <| .cT (by kernel_rfl) <| .seq <| .ru fine <| .ret ?_
   obtain rfl := Option.some.inj hr
   exact FinQ.r1 [aB true]
  ·replace hr := cd_f hb7 hr
   obtain ⟨v8, hc9, hr⟩ := bd hr
   refine .gn fine (ca1 (ok0 (fiduciallaw46_few_ok n left v5 hc6)) (ca3 (ok0 (fiduciallaw46_few_ok n right v8 hc9)))) <| .mu 1 <| .ca cf0 <| .p0 (v := aB false) (Eq.trans (b := some (.pure (aB (!v5)))) (by kernel_rfl) (by rw [hb7])) <| .mu 2 <| .ca (cfA (fun h => by rw [sv hc9 hc6 (fiduciallaw46_few_cg n h)]) cf0) <| .mu 2 <| .done <| .n2 103 [(3, .hp 0 0), (4, .hp 1 0), (5, .hp 2 0), (21, aB (!v8))] [.own (api_Field.c left), .own (api_Field.c right), .own [aI64 most]] ?_
   refine .cd hr (fun hb11 hr => ?_) (fun hb11 hr => ?_)
   ·refine .seq <| .ru fine <| .ret ?_
    obtain rfl := Option.some.inj hr
    exact FinQ.r1 [aB true]
   ·refine .skip <| .seq ?_
    obtain ⟨v12, hc13, hr⟩ := bd hr
    refine .g1 fine (ok0 (depth_Consistent_ok n left right most v12 hc13)) <| .mu 3 <| .ca cf0 <| .mu 6 <| .done <| .n2 103 [(3, .hp 0 0), (4, .hp 1 0), (5, .hp 2 0), (7, .hp 3 0), (8, aI64 v12.2)] [.own (api_Field.c left), .own (api_Field.c right), .own [aI64 most], .own (api_Field.c v12.1)] <| .seq ?_
    obtain ⟨v14, hc15, hr⟩ := bd hr
    refine .g1 fine (ok0 (fiduciallaw46_two_ok n left right v14 hc15)) <| .mu 2 <| .ca cf0 <| .mu 1 <| .done <| .n2 103 [(3, .hp 0 0), (4, .hp 1 0), (5, .hp 2 0), (7, .hp 3 0), (8, aI64 v12.2), (9, aI64 v14)] [.own (api_Field.c left), .own (api_Field.c right), .own [aI64 most], .own (api_Field.c v12.1)] <| .seq <| .seq ?_
    replace hr := bd hr; obtain ⟨want_16, hL20, hr⟩ := hr
    refine .app2 (Q := fun x st' => x = .normal ∧ Wk 0 st' ⟨mkS 103 0 [(3, .hp 0 0), (4, .hp 1 0), (5, .hp 2 0), (7, .hp 3 0), (8, aI64 v12.2), (9, aI64 want_16)], [.own (api_Field.c left), .own (api_Field.c right), .own [aI64 most], .own (api_Field.c v12.1)]⟩) ?_ ?_
    ·clear hr
     have hr := hL20
     clear hL20
     rcases Bool.eq_false_or_eq_true ((v14 : Int) == 0) with hb17 | hb17
     ·replace hr := cd_t hb17 hr
      refine .r0 fine <| .mu 1 <| .p0 (v := aB true) (Eq.trans (b := some (.pure (aB ((v14 : Int) == 0)))) (by kernel_rfl) (by rw [hb17])) <| .mu 4 <| .done <| .n2 103 [(3, .hp 0 0), (4, .hp 1 0), (5, .hp 2 0), (7, .hp 3 0), (8, aI64 v12.2), (9, aI64 v14), (37, aB (decide (most < 0)))] [.own (api_Field.c left), .own (api_Field.c right), .own [aI64 most], .own (api_Field.c v12.1)] ?_
      refine .cd hr (fun hb18 hr => ?_) (fun hb18 hr => ?_)
      ·refine .ru fine ?_
       obtain rfl := Option.some.inj hr
       exact ⟨rfl, ((Wk.gc [3, 4, 5, 7, 8, 9] [(0, true), (1, true), (2, true), (3, true)] rfl trivial).to (by kernel_rfl))⟩
      ·refine .skip ?_
       obtain rfl := Option.some.inj hr
       exact ⟨rfl, ((Wk.gc [3, 4, 5, 7, 8, 9] [(0, true), (1, true), (2, true), (3, true)] rfl trivial).to (by kernel_rfl))⟩
     ·replace hr := cd_f hb17 hr
      refine .r0 fine <| .mu 1 <| .p0 (v := aB false) (Eq.trans (b := some (.pure (aB ((v14 : Int) == 0)))) (by kernel_rfl) (by rw [hb17])) <| .mu 4 <| .done <| .n2 103 [(3, .hp 0 0), (4, .hp 1 0), (5, .hp 2 0), (7, .hp 3 0), (8, aI64 v12.2), (9, aI64 v14), (37, aB false)] [.own (api_Field.c left), .own (api_Field.c right), .own [aI64 most], .own (api_Field.c v12.1)] <| .cF (by kernel_rfl) <| .skip ?_
      obtain rfl := Option.some.inj hr
      exact ⟨rfl, ((Wk.gc [3, 4, 5, 7, 8, 9] [(0, true), (1, true), (2, true), (3, true)] rfl trivial).to (by kernel_rfl))⟩
    ·rintro x st' hq21
     clear hL20
     obtain ⟨rfl, hq21⟩ := hq21
     refine .wk hq21 <| .seq <| .seq ?_
     obtain ⟨v22, hc23, v24, hc25, hr⟩ := bd2 hr
     rcases Bool.eq_false_or_eq_true (((v22 : Int) == 0) != v24) with hb26 | hb26
     ·replace hr := cd_t hb26 hr
      refine .tn fine (ca1 (ok0 (depth_Check_ok n left v22 hc23)) (ca3 (ok0 (fiduciallaw46_Valid_ok n left v24 hc25)))) <| .mu 1 <| .ca cf0 <| .mu 2 <| .ca (cfF cf0) <| .pure (v := aB true) (by kernel_rfl) (Eq.trans (b := some (.pure (aB (((v22 : Int) == 0) != v24)))) (by kernel_rfl) (by rw [hb26])) (by kernel_rfl) <| .mu 8 ?_
      refine .done ⟨by kernel_rfl, ?_⟩
      refine .n2 103 [(3, .hp 0 0), (4, .hp 1 0), (5, .hp 2 0), (7, .hp 3 0), (9, aI64 want_16), (51, aB true)] [.own (api_Field.c left), .own (api_Field.c right), .own [aI64 most], .own (api_Field.c v12.1)] <| .cT (by kernel_rfl) <| .seq <| .ru fine <| .ret ?_
      obtain rfl := Option.some.inj hr
      exact FinQ.r1 [aB false]
     ·replace hr := cd_f hb26 hr
      obtain ⟨v27, hc28, hr⟩ := bd hr
      refine .tn fine (ca1 (ok0 (depth_Check_ok n left v22 hc23)) (ca1 (ok0 (fiduciallaw46_Valid_ok n left v24 hc25)) (ca3 (callOk_val (args := [.agg (api_Field.c v12.1), aI64 v12.2, aI64 want_16, .fn 17 [] [.hp 0 0, .hp 1 0, .hp 2 0]]) (l := [0, 1, 2]) rfl (SnL.cons (Sn.pure rfl) (SnL.cons (Sn.pure rfl) (SnL.cons (Sn.pure rfl) (SnL.cons (Sn.fn SnL.nil (SnL.cons (Sn.hp rfl (.inl rfl) (SnC.cons (Sn.pure rfl) (SnC.cons (Sn.pure rfl) (SnC.cons (Sn.pure rfl) SnC.nil)))) (SnL.cons (Sn.hp rfl (.inl rfl) (SnC.cons (Sn.pure rfl) (SnC.cons (Sn.pure rfl) (SnC.cons (Sn.pure rfl) SnC.nil)))) (SnL.cons (Sn.hp rfl (.inl rfl) (SnC.cons (Sn.pure rfl) SnC.nil)) SnL.nil)))) SnL.nil)))) (fiduciallaw46_is_of_fiduciallaw46_DepthConsistent_1_ok n v12.1 v12.2 want_16 left.Width left.Height left.V right.Width right.Height right.V most v27 hc28))))) <| .mu 1 <| .ca cf0 <| .mu 2 <| .ca (cfF cf0) <| .pure (v := aB false) (by kernel_rfl) (Eq.trans (b := some (.pure (aB (((v22 : Int) == 0) != v24)))) (by kernel_rfl) (by rw [hb26])) (by kernel_rfl) <| .mu 5 <| .ca (cfF (cfF cf0)) <| .mu 2 ?_
      refine .done ⟨by kernel_rfl, ?_⟩
      refine .n2 103 [(3, .hp 0 0), (4, .hp 1 0), (5, .hp 2 0), (7, .hp 3 0), (9, aI64 want_16), (51, aB (!v27))] [.own (api_Field.c left), .own (api_Field.c right), .own [aI64 most], .own (api_Field.c v12.1)] ?_
      refine .cd hr (fun hb30 hr => ?_) (fun hb30 hr => ?_)
      ·refine .seq <| .ru fine <| .ret ?_
       obtain rfl := Option.some.inj hr
       exact FinQ.r1 [aB false]
      ·refine .skip <| .seq <| .seq ?_
       rcases Bool.eq_false_or_eq_true ((want_16 : Int) != 0) with hb31 | hb31
       ·replace hr := cd_t hb31 hr
        refine .r0 fine <| .mu 1 <| .p0 (v := aB true) (Eq.trans (b := some (.pure (aB ((want_16 : Int) != 0)))) (by kernel_rfl) (by rw [hb31])) <| .mu 4 <| .done <| .n2 103 [(3, .hp 0 0), (4, .hp 1 0), (5, .hp 2 0), (7, .hp 3 0), (57, aB true)] [.own (api_Field.c left), .own (api_Field.c right), .own [aI64 most], .own (api_Field.c v12.1)] <| .cT (by kernel_rfl) <| .seq <| .ru fine <| .ret ?_
        obtain rfl := Option.some.inj hr
        exact FinQ.r1 [aB true]
       ·replace hr := cd_f hb31 hr
        refine .r0 fine <| .mu 1 <| .p0 (v := aB false) (Eq.trans (b := some (.pure (aB ((want_16 : Int) != 0)))) (by kernel_rfl) (by rw [hb31])) <| .mu 4 <| .done <| .n2 103 [(3, .hp 0 0), (4, .hp 1 0), (5, .hp 2 0), (7, .hp 3 0), (57, aB (decide (most > 1000)))] [.own (api_Field.c left), .own (api_Field.c right), .own [aI64 most], .own (api_Field.c v12.1)] ?_
        refine .cd hr (fun hb33 hr => ?_) (fun hb33 hr => ?_)
        ·refine .seq <| .ru fine <| .ret ?_
         obtain rfl := Option.some.inj hr
         exact FinQ.r1 [aB true]
        ·refine .skip <| .seq ?_
         obtain ⟨v34, hc35, hr⟩ := bd hr
         refine .g1 fine (ok0 (depth_Consistent_ok n left right (wrapF .i64 (most + 1)) v34 hc35)) <| .mu 4 <| .ca cf0 <| .mu 6 <| .done <| .n2 103 [(7, .hp 3 0), (8, aI64 v34.2), (10, .hp 4 0)] [.own (api_Field.c left), .own (api_Field.c right), .own [aI64 most], .own (api_Field.c v12.1), .own (api_Field.c v34.1)] <| .seq <| .seq ?_
         rcases Bool.eq_false_or_eq_true ((v34.2 : Int) != 0) with hb36 | hb36
         ·replace hr := cd_t hb36 hr
          refine .r0 fine <| .mu 1 <| .p0 (v := aB true) (Eq.trans (b := some (.pure (aB ((v34.2 : Int) != 0)))) (by kernel_rfl) (by rw [hb36])) <| .mu 9 <| .done <| .n2 103 [(7, .hp 3 0), (10, .hp 4 0), (76, aB true)] [.own (api_Field.c left), .own (api_Field.c right), .own [aI64 most], .own (api_Field.c v12.1), .own (api_Field.c v34.1)] <| .cT (by kernel_rfl) <| .seq <| .ru fine <| .ret ?_
          obtain rfl := Option.some.inj hr
          exact FinQ.r1 [aB false]
         ·replace hr := cd_f hb36 hr
          refine .r0 fine <| .mu 1 <| .p0 (v := aB false) (Eq.trans (b := some (.pure (aB ((v34.2 : Int) != 0)))) (by kernel_rfl) (by rw [hb36])) <| .mu 9 <| .done <| .n2 103 [(7, .hp 3 0), (10, .hp 4 0), (76, aB (((v34.1.V.length : Int) : Int) != (v12.1.V.length : Int)))] [.own (api_Field.c left), .own (api_Field.c right), .own [aI64 most], .own (api_Field.c v12.1), .own (api_Field.c v34.1)] ?_
          refine .cd hr (fun hb38 hr => ?_) (fun hb38 hr => ?_)
          ·refine .seq <| .ru fine <| .ret ?_
           obtain rfl := Option.some.inj hr
           exact FinQ.r1 [aB false]
          ·refine .skip <| .seq <| .seq <| .r3 fine 103 [(7, .hp 3 0), (10, .hp 4 0), (79, aI64 (v12.1.V.length : Int)), (80, aI64 0)] <| .block ?_
           replace hr := bd hr; obtain ⟨o53, hL54, hr⟩ := hr
           refine .loopO (σ := fun z0 => match z0 with | x_39 => ⟨mkS 103 0 [(7, .hp 0 0), (10, .hp 1 0), (79, aI64 (v12.1.V.length : Int)), (80, aI64 x_39)], [.own (api_Field.c v12.1), .own (api_Field.c v34.1)]⟩) (Q := fun x st' => match (generalizing := false) o53 with | .inl _ => x = .exit 0 ∧ Wk 0 st' ⟨mkS 103 0 [], []⟩ | .inr (r0) => x = .ret ∧ FinQ Tryz.prog [.tmp 6] (aB r0) .ret st') hL54 ((Wk.gc [7, 10, 79, 80] [(3, true), (4, true)] rfl trivial).to (by kernel_rfl)) ?_ ?_
           ·clear hr
            rintro m x_39 hr
            show CQ _ _ _ _ _ ⟨_, _⟩
            refine .seq <| .r3 fine 103 [(7, .hp 0 0), (10, .hp 1 0), (79, aI64 (v12.1.V.length : Int)), (80, aI64 x_39), (81, aB (decide (x_39 < (v12.1.V.length : Int))))] <| .seq ?_
            refine .cd hr (fun hb48 hr => ?_) (fun hb48 hr => ?_)
            ·refine .skip <| .seq <| .block <| .seq <| .r3 fine 103 [(7, .hp 0 0), (10, .hp 1 0), (11, aI64 x_39), (79, aI64 (v12.1.V.length : Int)), (80, aI64 x_39)] <| .seq ?_
             obtain ⟨hg49, hr⟩ := gd hr
             rcases Bool.eq_false_or_eq_true (decide ((gt v12.1.V x_39) ≥ 0)) with hb50 | hb50
             ·replace hr := cd_t hb50 hr
              obtain ⟨hg51, hr⟩ := gd hr
              refine .regionT fine callOf_nil <| .mu 3 <| .pure (v := .pp (v12.1.V.flatMap (iC .i64)) (x_39.toNat * 1)) (by kernel_rfl) (Eq.trans (b := ORes.ofP (guardV (inR x_39 v12.1.V.length) (.pp (v12.1.V.flatMap (iC .i64)) (x_39.toNat * 1)))) (by kernel_rfl) (ofP_guard hg49)) (by kernel_rfl) <| .pure (v := aI64 (gt v12.1.V x_39)) (by kernel_rfl) (Eq.trans (b := ORes.ofP ((v12.1.V.flatMap (iC .i64))[x_39.toNat * 1]?)) (by kernel_rfl) (ofP_some (flat_get (iC_len _) (inR_lt hg49) (by decide : 0 < 1) (by omega : x_39.toNat * 1 = x_39.toNat * 1 + 0) (by kernel_rfl)))) (by kernel_rfl) <| .pure (v := aB true) (by kernel_rfl) (Eq.trans (b := some (.pure (aB (decide ((gt v12.1.V x_39) ≥ 0))))) (by kernel_rfl) (by rw [hb50])) (by kernel_rfl) <| .mu 4 <| .pure (v := .pp (v34.1.V.flatMap (iC .i64)) (x_39.toNat * 1)) (by kernel_rfl) (Eq.trans (b := ORes.ofP (guardV (inR x_39 v34.1.V.length) (.pp (v34.1.V.flatMap (iC .i64)) (x_39.toNat * 1)))) (by kernel_rfl) (ofP_guard hg51)) (by kernel_rfl) <| .pure (v := aI64 (gt v34.1.V x_39)) (by kernel_rfl) (Eq.trans (b := ORes.ofP ((v34.1.V.flatMap (iC .i64))[x_39.toNat * 1]?)) (by kernel_rfl) (ofP_some (flat_get (iC_len _) (inR_lt hg51) (by decide : 0 < 1) (by omega : x_39.toNat * 1 = x_39.toNat * 1 + 0) (by kernel_rfl)))) (by kernel_rfl) <| .mu 3 <| .pure (v := .pp (v12.1.V.flatMap (iC .i64)) (x_39.toNat * 1)) (by kernel_rfl) (Eq.trans (b := ORes.ofP (guardV (inR x_39 v12.1.V.length) (.pp (v12.1.V.flatMap (iC .i64)) (x_39.toNat * 1)))) (by kernel_rfl) (ofP_guard hg49)) (by kernel_rfl) <| .pure (v := aI64 (gt v12.1.V x_39)) (by kernel_rfl) (Eq.trans (b := ORes.ofP ((v12.1.V.flatMap (iC .i64))[x_39.toNat * 1]?)) (by kernel_rfl) (ofP_some (flat_get (iC_len _) (inR_lt hg49) (by decide : 0 < 1) (by omega : x_39.toNat * 1 = x_39.toNat * 1 + 0) (by kernel_rfl)))) (by kernel_rfl) <| .mu 2 ?_
              refine .done ⟨by kernel_rfl, ?_⟩
              refine .n2 103 [(7, .hp 0 0), (10, .hp 1 0), (79, aI64 (v12.1.V.length : Int)), (80, aI64 x_39), (101, aB (((gt v34.1.V x_39) : Int) != (gt v12.1.V x_39)))] [.own (api_Field.c v12.1), .own (api_Field.c v34.1)] ?_
              refine .cd hr (fun hb52 hr => ?_) (fun hb52 hr => ?_)
              ·refine .seq <| .ru fine <| .ret ?_
               obtain rfl := Option.some.inj hr
               exact ⟨rfl, FinQ.ret (vs := [aB false]) (by kernel_rfl) (Sn.pure rfl)⟩
              ·refine .skip <| .pop <| .ru fine ?_
               exact loopF_back (wrapF .i64 (x_39 + 1)) hr ((Wk.gc [7, 10, 79, 80] [(0, true), (1, true)] rfl trivial).to (by kernel_rfl))
             ·replace hr := cd_f hb50 hr
              refine .regionT fine callOf_nil <| .mu 3 <| .pure (v := .pp (v12.1.V.flatMap (iC .i64)) (x_39.toNat * 1)) (by kernel_rfl) (Eq.trans (b := ORes.ofP (guardV (inR x_39 v12.1.V.length) (.pp (v12.1.V.flatMap (iC .i64)) (x_39.toNat * 1)))) (by kernel_rfl) (ofP_guard hg49)) (by kernel_rfl) <| .pure (v := aI64 (gt v12.1.V x_39)) (by kernel_rfl) (Eq.trans (b := ORes.ofP ((v12.1.V.flatMap (iC .i64))[x_39.toNat * 1]?)) (by kernel_rfl) (ofP_some (flat_get (iC_len _) (inR_lt hg49) (by decide : 0 < 1) (by omega : x_39.toNat * 1 = x_39.toNat * 1 + 0) (by kernel_rfl)))) (by kernel_rfl) <| .pure (v := aB false) (by kernel_rfl) (Eq.trans (b := some (.pure (aB (decide ((gt v12.1.V x_39) ≥ 0))))) (by kernel_rfl) (by rw [hb50])) (by kernel_rfl) <| .mu 13 ?_
              refine .done ⟨by kernel_rfl, ?_⟩
              refine .n2 103 [(7, .hp 0 0), (10, .hp 1 0), (79, aI64 (v12.1.V.length : Int)), (80, aI64 x_39), (101, aB false)] [.own (api_Field.c v12.1), .own (api_Field.c v34.1)] <| .cF (by kernel_rfl) <| .skip <| .pop <| .ru fine ?_
              exact loopF_back (wrapF .i64 (x_39 + 1)) hr ((Wk.gc [7, 10, 79, 80] [(0, true), (1, true)] rfl trivial).to (by kernel_rfl))
            ·refine .leave rfl ?_
             obtain rfl := Option.some.inj hr
             exact ⟨rfl, ((Wk.gc [] [] rfl pK0).to (by kernel_rfl))⟩
           ·rcases o53 with ⟨⟩ | r0
            ·rintro x st' hq55
             clear hL54
             obtain ⟨rfl, hq55⟩ := hq55
             refine CQ_exit _ rfl <| .wk hq55 <| .seq <| .ru fine <| .ret ?_
             obtain rfl := Option.some.inj hr
             exact FinQ.r1 [aB true]
            ·rintro x st' hq55
             clear hL54
             obtain ⟨rfl, hq55⟩ := hq55
             obtain rfl := Option.some.inj hr
             exact CQ_ret _ hq55
end Go.L
