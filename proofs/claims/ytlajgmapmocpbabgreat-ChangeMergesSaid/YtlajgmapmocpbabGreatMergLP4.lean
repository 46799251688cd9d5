/- The program's functions compute what the plain Lean programs compute, part 4; printed by a program. -/
import Derived.Test.YtlajgmapmocpbabGreatMergLP3
import Derived.Test.YtlajgmapmocpbabGreatL0d
import Derived.Test.YtlajgmapmocpbabGreatChecked
import Derived.KernelRfl
set_option linter.unusedVariables false
set_option linter.unusedSimpArgs false
set_option maxRecDepth 100000
set_option maxHeartbeats 4000000
namespace Go.L
open Go Go.Eng Go.Proofs
theorem fiduciallaw59_truth_ok (n : Nat) (b : api_Banded) (k : Int) (part : Int) (r : Int) (hr : fiduciallaw59_truth n b k part = some r) : FnOk Tryz.prog 28 [.agg [.at (.int .i64 b.Grid.X0), .at (.int .i64 b.Grid.Y0), .at (.int .i64 b.Grid.Step), .at (.int .i64 b.Grid.Width), .at (.int .i64 b.Grid.Height), slT (iC .i64) b.Grid.Z, slT (iC .i64) b.Err], .at (.int .i64 k), .at (.int .u8 part)] (.at (.int .i64 r)) := by
 unfold fiduciallaw59_truth at hr
 refine FnOk.body fine Tryz.func28 (c := (Tryz.f28.body).getD .skip) rfl (s := mkS 30 0 [(0, .agg (api_Banded.c b)), (1, aI64 k), (2, aU8 part)]) (by kernel_rfl) (rs := [.tmp 6]) rfl ?_
 unfold Tryz.f28
 simp only [Option.getD_some]
 refine .seq <| .rn fine [1, 2, 3] (mkS 30 0 [(1, aI64 k), (2, aU8 part), (3, .hp 0 0)]) [.own (api_Banded.c b)] <| .seq ?_
 obtain ⟨hg1, hr⟩ := gd hr
 obtain ⟨hg2, hr⟩ := gd hr
 refine .regionT fine callOf_nil <| .mu 4 <| .pure (v := .pp (b.Grid.Z.flatMap (iC .i64)) (k.toNat * 1)) (by kernel_rfl) (Eq.trans (b := ORes.ofP (guardV (inR k b.Grid.Z.length) (.pp (b.Grid.Z.flatMap (iC .i64)) (k.toNat * 1)))) (by kernel_rfl) (ofP_guard hg1)) (by kernel_rfl) <| .pure (v := aI64 (gt b.Grid.Z k)) (by kernel_rfl) (Eq.trans (b := ORes.ofP ((b.Grid.Z.flatMap (iC .i64))[k.toNat * 1]?)) (by kernel_rfl) (ofP_some (flat_get (iC_len _) (inR_lt hg1) (by decide : 0 < 1) (by omega : k.toNat * 1 = k.toNat * 1 + 0) (by kernel_rfl)))) (by kernel_rfl) <| .mu 3 <| .pure (v := .pp (b.Err.flatMap (iC .i64)) (k.toNat * 1)) (by kernel_rfl) (Eq.trans (b := ORes.ofP (guardV (inR k b.Err.length) (.pp (b.Err.flatMap (iC .i64)) (k.toNat * 1)))) (by kernel_rfl) (ofP_guard hg2)) (by kernel_rfl) <| .pure (v := aI64 (gt b.Err k)) (by kernel_rfl) (Eq.trans (b := ORes.ofP ((b.Err.flatMap (iC .i64))[k.toNat * 1]?)) (by kernel_rfl) (ofP_some (flat_get (iC_len _) (inR_lt hg2) (by decide : 0 < 1) (by omega : k.toNat * 1 = k.toNat * 1 + 0) (by kernel_rfl)))) (by kernel_rfl) <| .mu 4 <| .pure (v := .pp (b.Err.flatMap (iC .i64)) (k.toNat * 1)) (by kernel_rfl) (Eq.trans (b := ORes.ofP (guardV (inR k b.Err.length) (.pp (b.Err.flatMap (iC .i64)) (k.toNat * 1)))) (by kernel_rfl) (ofP_guard hg2)) (by kernel_rfl) <| .pure (v := aI64 (gt b.Err k)) (by kernel_rfl) (Eq.trans (b := ORes.ofP ((b.Err.flatMap (iC .i64))[k.toNat * 1]?)) (by kernel_rfl) (ofP_some (flat_get (iC_len _) (inR_lt hg2) (by decide : 0 < 1) (by omega : k.toNat * 1 = k.toNat * 1 + 0) (by kernel_rfl)))) (by kernel_rfl) <| .mu 7 ?_
 refine .done ⟨by kernel_rfl, ?_⟩
 refine .ret ?_
 obtain rfl := Option.some.inj hr
 exact FinQ.r1 [aI64 (wrapF .i64 ((wrapF .i64 ((gt b.Grid.Z k) - (gt b.Err k))) + (wrapF .i64 ((wrapF .i64 ((wrapF .i64 (2 * (gt b.Err k))) * (wrapF .i64 part))).tdiv 255))))]

theorem slices_Index_int_int_ok (n : Nat) (s : List Int) (v : Int) (r : Int) (hr : slices_Index_int_int n s v = some r) : FnOk Tryz.prog 68 [slT (iC .i64) s, .at (.int .i64 v)] (.at (.int .i64 r)) := by
 unfold slices_Index_int_int at hr
 refine FnOk.body fine Tryz.func68 (c := (Tryz.f68.body).getD .skip) rfl (s := mkS 19 0 [(0, sI64 s), (1, aI64 v)]) (by kernel_rfl) (rs := [.tmp 4]) rfl ?_
 unfold Tryz.f68
 simp only [Option.getD_some]
 refine .seq <| .rn fine [0, 1] (mkS 19 0 [(0, sI64 s), (1, aI64 v)]) [] <| .seq <| .seq <| .rn fine [0, 1, 7, 8] (mkS 19 0 [(0, sI64 s), (1, aI64 v), (7, aI64 (s.length : Int)), (8, aI64 0)]) [] <| .block ?_
 replace hr := bd hr; obtain ⟨o9, hL10, hr⟩ := hr
 refine .loopO (σ := fun z0 => match z0 with | x_1 => ⟨mkS 19 0 [(0, sI64 s), (1, aI64 v), (7, aI64 (s.length : Int)), (8, aI64 x_1)], []⟩) (Q := fun x st' => match (generalizing := false) o9 with | .inl _ => x = .exit 0 ∧ Wk 0 st' ⟨mkS 19 0 [], []⟩ | .inr (r0) => x = .ret ∧ FinQ Tryz.prog [.tmp 4] (aI64 r0) .ret st') hL10 ((Wk.gc [0, 1, 7, 8] [] rfl pK0).to (by kernel_rfl)) ?_ ?_
 ·clear hr
  rintro m x_1 hr
  show CQ _ _ _ _ _ ⟨_, _⟩
  refine .seq <| .rn fine [0, 1, 7, 8, 9] (mkS 19 0 [(0, sI64 s), (1, aI64 v), (7, aI64 (s.length : Int)), (8, aI64 x_1), (9, aB (decide (x_1 < (s.length : Int))))]) [] <| .seq ?_
  refine .cond (t := decide (x_1 < (s.length : Int))) (by kernel_rfl) (fun hb6 => ?_) (fun hb6 => ?_)
  ·replace hr := cd_t hb6 hr
   refine .skip <| .seq <| .block <| .seq <| .rn fine [0, 1, 5, 7, 8] (mkS 19 0 [(0, sI64 s), (1, aI64 v), (5, aI64 x_1), (7, aI64 (s.length : Int)), (8, aI64 x_1)]) [] <| .seq ?_
   obtain ⟨hg7, hr⟩ := gd hr
   refine .r0 fine <| .mu 3 <| .p0 (v := .pp (s.flatMap (iC .i64)) (x_1.toNat * 1)) (Eq.trans (b := ORes.ofP (guardV (inR x_1 s.length) (.pp (s.flatMap (iC .i64)) (x_1.toNat * 1)))) (by kernel_rfl) (ofP_guard hg7)) <| .p0 (v := aI64 (gt s x_1)) (Eq.trans (b := ORes.ofP ((s.flatMap (iC .i64))[x_1.toNat * 1]?)) (by kernel_rfl) (ofP_some (flat_get (iC_len _) (inR_lt hg7) (by decide : 0 < 1) (by omega : x_1.toNat * 1 = x_1.toNat * 1 + 0) (by kernel_rfl)))) <| .mu 1 <| .done <| .n1 [0, 1, 5, 7, 8, 16] (mkS 19 0 [(0, sI64 s), (1, aI64 v), (5, aI64 x_1), (7, aI64 (s.length : Int)), (8, aI64 x_1), (16, aB ((v : Int) == (gt s x_1)))]) [] ?_
   refine .cond (t := (v : Int) == (gt s x_1)) (by kernel_rfl) (fun hb8 => ?_) (fun hb8 => ?_)
   ·replace hr := cd_t hb8 hr
    refine .seq <| .ru fine <| .ret ?_
    obtain rfl := Option.some.inj hr
    exact ⟨rfl, FinQ.ret (vs := [aI64 x_1]) (by kernel_rfl) (Sn.pure rfl)⟩
   ·replace hr := cd_f hb8 hr
    refine .skip <| .pop <| .ru fine ?_
    exact loopF_back (wrapF .i64 (x_1 + 1)) hr ((Wk.gc [0, 1, 7, 8] [] rfl pK0).to (by kernel_rfl))
  ·replace hr := cd_f hb6 hr
   refine .leave rfl ?_
   obtain rfl := Option.some.inj hr
   exact ⟨rfl, ((Wk.gc [] [] rfl pK0).to (by kernel_rfl))⟩
 ·rcases o9 with ⟨⟩ | r0
  ·rintro x st' hq11
   clear hL10
   obtain ⟨rfl, hq11⟩ := hq11
   refine CQ_exit _ rfl <| .wk hq11 <| .seq <| .ru fine <| .ret ?_
   obtain rfl := Option.some.inj hr
   exact FinQ.r1 [aI64 (-1)]
  ·rintro x st' hq11
   clear hL10
   obtain ⟨rfl, hq11⟩ := hq11
   obtain rfl := Option.some.inj hr
   exact CQ_ret _ hq11

theorem slices_Contains_int_int_ok (n : Nat) (s : List Int) (v : Int) (r : Bool) (hr : slices_Contains_int_int n s v = some r) : FnOk Tryz.prog 29 [slT (iC .i64) s, .at (.int .i64 v)] (.at (.bool r)) := by
 unfold slices_Contains_int_int at hr
 refine FnOk.body fine Tryz.func29 (c := (Tryz.f29.body).getD .skip) rfl (s := mkS 9 0 [(0, sI64 s), (1, aI64 v)]) (by kernel_rfl) (rs := [.tmp 4]) rfl ?_
 unfold Tryz.f29
 simp only [Option.getD_some]
 refine .seq <| .rn fine [0, 1] (mkS 9 0 [(0, sI64 s), (1, aI64 v)]) [] <| .seq ?_
 obtain ⟨v1, hc2, hr⟩ := bd hr
 refine .g1 fine (callOk_val (l := []) rfl (SnL.cons (Sn.pure rfl) (SnL.cons (Sn.pure rfl) SnL.nil)) (slices_Index_int_int_ok n s v v1 hc2)) <| .mu 2 <| .c0 (by kernel_rfl) (callOf_at (by kernel_rfl)) <| .mu 2 <| .done <| .ret ?_
 obtain rfl := Option.some.inj hr
 exact FinQ.r1 [aB (decide (v1 ≥ 0))]

theorem fiduciallaw59_ChangeMerges_ok (n : Nat) (a : api_Banded) (b : api_Banded) (parts : List Int) (r : Bool) (hr : fiduciallaw59_ChangeMerges n a b parts = some r) : FnOk Tryz.prog 5 [.agg [.at (.int .i64 a.Grid.X0), .at (.int .i64 a.Grid.Y0), .at (.int .i64 a.Grid.Step), .at (.int .i64 a.Grid.Width), .at (.int .i64 a.Grid.Height), slT (iC .i64) a.Grid.Z, slT (iC .i64) a.Err], .agg [.at (.int .i64 b.Grid.X0), .at (.int .i64 b.Grid.Y0), .at (.int .i64 b.Grid.Step), .at (.int .i64 b.Grid.Width), .at (.int .i64 b.Grid.Height), slT (iC .i64) b.Grid.Z, slT (iC .i64) b.Err], slT (iC .u8) parts] (.at (.bool r)) := by
 unfold fiduciallaw59_ChangeMerges at hr
 refine FnOk.body fine Tryz.func5 (c := (Tryz.f5.body).getD .skip) rfl (s := mkS 167 0 [(0, .agg (api_Banded.c a)), (1, .agg (api_Banded.c b)), (2, sU8 parts)]) (by kernel_rfl) (rs := [.tmp 6]) rfl ?_
 unfold Tryz.f5
 simp only [Option.getD_some]
 refine .seq <| .rn fine [2, 3, 4] (mkS 167 0 [(2, sU8 parts), (3, .hp 0 0), (4, .hp 1 0)]) [.own (api_Banded.c a), .own (api_Banded.c b)] <| .seq <| .seq ?_
 obtain ⟨v1, hc2, hr⟩ := bd hr
 refine .g1 fine (callOk_val (l := []) rfl SnL.nil (fiduciallaw59_known_ok n v1 hc2)) <| .c0 (by kernel_rfl) (callOf_at (by kernel_rfl)) <| .mu 1 <| .done <| .n1 [2, 3, 4, 16] (mkS 167 0 [(2, sU8 parts), (3, .hp 0 0), (4, .hp 1 0), (16, aB (!v1))]) [.own (api_Banded.c a), .own (api_Banded.c b)] ?_
 refine .cond (t := !v1) (by kernel_rfl) (fun hb3 => ?_) (fun hb3 => ?_)
 ·replace hr := cd_t hb3 hr
  refine .seq <| .ru fine <| .ret ?_
  obtain rfl := Option.some.inj hr
  exact FinQ.r1 [aB false]
 ·replace hr := cd_f hb3 hr
  refine .skip <| .seq <| .seq ?_
  obtain ⟨v4, hc5, hr⟩ := bd hr
  refine .region fine (callOf_cons (callOk_val (H := [.own (api_Banded.c a), .own (api_Banded.c b), .own [aI64 a.Grid.X0, aI64 a.Grid.Y0, aI64 a.Grid.Step, aI64 a.Grid.Width, aI64 a.Grid.Height, sI64 a.Grid.Z, sI64 a.Err, aI64 b.Grid.X0, aI64 b.Grid.Y0, aI64 b.Grid.Step, aI64 b.Grid.Width, aI64 b.Grid.Height, sI64 b.Grid.Z, sI64 b.Err]]) (args := [.hs 2 0 2 7]) (l := [2]) rfl (SnL.cons (Sn.hs rfl (.inl rfl) (SnC.cons (Sn.pure rfl) (SnC.cons (Sn.pure rfl) (SnC.cons (Sn.pure rfl) (SnC.cons (Sn.pure rfl) (SnC.cons (Sn.pure rfl) (SnC.cons (Sn.pure rfl) (SnC.cons (Sn.pure rfl) (SnC.cons (Sn.pure rfl) (SnC.cons (Sn.pure rfl) (SnC.cons (Sn.pure rfl) (SnC.cons (Sn.pure rfl) (SnC.cons (Sn.pure rfl) (SnC.cons (Sn.pure rfl) (SnC.cons (Sn.pure rfl) SnC.nil)))))))))))))) (fun h => nomatch h)) SnL.nil) (fiduciallaw59_few_ok n [a, b] v4 hc5)) callOf_nil) <| .mu 3 <| .c0 (by kernel_rfl) (callOf_at (by kernel_rfl)) <| .mu 1 <| .done <| .n1 [2, 3, 4, 21] (mkS 167 0 [(2, sU8 parts), (3, .hp 0 0), (4, .hp 1 0), (21, aB (!v4))]) [.own (api_Banded.c a), .own (api_Banded.c b), .own [aI64 a.Grid.X0, aI64 a.Grid.Y0, aI64 a.Grid.Step, aI64 a.Grid.Width, aI64 a.Grid.Height, sI64 a.Grid.Z, sI64 a.Err, aI64 b.Grid.X0, aI64 b.Grid.Y0, aI64 b.Grid.Step, aI64 b.Grid.Width, aI64 b.Grid.Height, sI64 b.Grid.Z, sI64 b.Err]] ?_
  refine .cond (t := !v4) (by kernel_rfl) (fun hb6 => ?_) (fun hb6 => ?_)
  ·replace hr := cd_t hb6 hr
   refine .seq <| .ru fine <| .ret ?_
   obtain rfl := Option.some.inj hr
   exact FinQ.r1 [aB true]
  ·replace hr := cd_f hb6 hr
   refine .skip <| .seq ?_
   obtain ⟨v7, hc8, hr⟩ := bd hr
   refine .g1 fine (callOk_ref (l := []) (SnL.cons (Sn.pure rfl) (SnL.cons (Sn.pure rfl) SnL.nil)) (change_Merge_ok n a b v7 hc8)) <| .mu 2 <| .c0 (by kernel_rfl) (callOf_at (by kernel_rfl)) <| .mu 8 <| .done <| .n1 [2, 3, 4, 7, 8, 9] (mkS 167 0 [(2, sU8 parts), (3, .hp 0 0), (4, .hp 1 0), (7, .hp 3 0), (8, sI64 v7.2.1), (9, aI64 v7.2.2)]) [.own (api_Banded.c a), .own (api_Banded.c b), .own [aI64 a.Grid.X0, aI64 a.Grid.Y0, aI64 a.Grid.Step, aI64 a.Grid.Width, aI64 a.Grid.Height, sI64 a.Grid.Z, sI64 a.Err, aI64 b.Grid.X0, aI64 b.Grid.Y0, aI64 b.Grid.Step, aI64 b.Grid.Width, aI64 b.Grid.Height, sI64 b.Grid.Z, sI64 b.Err], .own (api_Banded.c v7.1)] <| .seq <| .seq ?_
   obtain ⟨v9, hc10, hr⟩ := bd hr
   refine .region fine (callOf_cons (callOk_val (H := [.own (api_Banded.c a), .own (api_Banded.c b), .own [aI64 a.Grid.X0, aI64 a.Grid.Y0, aI64 a.Grid.Step, aI64 a.Grid.Width, aI64 a.Grid.Height, sI64 a.Grid.Z, sI64 a.Err, aI64 b.Grid.X0, aI64 b.Grid.Y0, aI64 b.Grid.Step, aI64 b.Grid.Width, aI64 b.Grid.Height, sI64 b.Grid.Z, sI64 b.Err], .own (api_Banded.c v7.1), .own [aI64 a.Grid.X0, aI64 a.Grid.Y0, aI64 a.Grid.Step, aI64 a.Grid.Width, aI64 a.Grid.Height, sI64 a.Grid.Z, sI64 a.Err, aI64 b.Grid.X0, aI64 b.Grid.Y0, aI64 b.Grid.Step, aI64 b.Grid.Width, aI64 b.Grid.Height, sI64 b.Grid.Z, sI64 b.Err]]) (args := [.hs 4 0 2 7]) (l := [4]) rfl (SnL.cons (Sn.hs rfl (.inl rfl) (SnC.cons (Sn.pure rfl) (SnC.cons (Sn.pure rfl) (SnC.cons (Sn.pure rfl) (SnC.cons (Sn.pure rfl) (SnC.cons (Sn.pure rfl) (SnC.cons (Sn.pure rfl) (SnC.cons (Sn.pure rfl) (SnC.cons (Sn.pure rfl) (SnC.cons (Sn.pure rfl) (SnC.cons (Sn.pure rfl) (SnC.cons (Sn.pure rfl) (SnC.cons (Sn.pure rfl) (SnC.cons (Sn.pure rfl) (SnC.cons (Sn.pure rfl) SnC.nil)))))))))))))) (fun h => nomatch h)) SnL.nil) (fiduciallaw59_fits_ok n [a, b] v9 hc10)) callOf_nil) <| .mu 3 <| .c0 (by kernel_rfl) (callOf_at (by kernel_rfl)) <| .mu 1 <| .done <| .n1 [2, 3, 4, 7, 8, 9, 10] (mkS 167 0 [(2, sU8 parts), (3, .hp 0 0), (4, .hp 1 0), (7, .hp 3 0), (8, sI64 v7.2.1), (9, aI64 v7.2.2), (10, aI64 v9)]) [.own (api_Banded.c a), .own (api_Banded.c b), .own [aI64 a.Grid.X0, aI64 a.Grid.Y0, aI64 a.Grid.Step, aI64 a.Grid.Width, aI64 a.Grid.Height, sI64 a.Grid.Z, sI64 a.Err, aI64 b.Grid.X0, aI64 b.Grid.Y0, aI64 b.Grid.Step, aI64 b.Grid.Width, aI64 b.Grid.Height, sI64 b.Grid.Z, sI64 b.Err], .own (api_Banded.c v7.1), .own [aI64 a.Grid.X0, aI64 a.Grid.Y0, aI64 a.Grid.Step, aI64 a.Grid.Width, aI64 a.Grid.Height, sI64 a.Grid.Z, sI64 a.Err, aI64 b.Grid.X0, aI64 b.Grid.Y0, aI64 b.Grid.Step, aI64 b.Grid.Width, aI64 b.Grid.Height, sI64 b.Grid.Z, sI64 b.Err]] <| .seq <| .rn fine [2, 3, 4, 7, 8, 9, 10, 34] (mkS 167 0 [(2, sU8 parts), (3, .hp 0 0), (4, .hp 1 0), (7, .hp 3 0), (8, sI64 v7.2.1), (9, aI64 v7.2.2), (10, aI64 v9), (34, aB ((v9 : Int) != 0))]) [.own (api_Banded.c a), .own (api_Banded.c b), .own [aI64 a.Grid.X0, aI64 a.Grid.Y0, aI64 a.Grid.Step, aI64 a.Grid.Width, aI64 a.Grid.Height, sI64 a.Grid.Z, sI64 a.Err, aI64 b.Grid.X0, aI64 b.Grid.Y0, aI64 b.Grid.Step, aI64 b.Grid.Width, aI64 b.Grid.Height, sI64 b.Grid.Z, sI64 b.Err], .own (api_Banded.c v7.1), .own [aI64 a.Grid.X0, aI64 a.Grid.Y0, aI64 a.Grid.Step, aI64 a.Grid.Width, aI64 a.Grid.Height, sI64 a.Grid.Z, sI64 a.Err, aI64 b.Grid.X0, aI64 b.Grid.Y0, aI64 b.Grid.Step, aI64 b.Grid.Width, aI64 b.Grid.Height, sI64 b.Grid.Z, sI64 b.Err]] ?_
   refine .cond (t := (v9 : Int) != 0) (by kernel_rfl) (fun hb11 => ?_) (fun hb11 => ?_)
   ·replace hr := cd_t hb11 hr
    refine .seq ?_
    rcases Bool.eq_false_or_eq_true ((v7.2.2 : Int) == v9) with hb12 | hb12
    ·replace hr := cd_t hb12 hr
     obtain ⟨v13, hc14, hr⟩ := bd hr
     rcases Bool.eq_false_or_eq_true v13 with hb15 | hb15
     ·subst hb15
      replace hr := cd_t rfl hr
      refine .g1 fine (callOk_val (args := [.agg (api_Banded.c v7.1), .agg [aI64 0, aI64 0, aI64 0, aI64 0, aI64 0, .at (.slice none 0 0), .at (.slice none 0 0)]]) (l := []) rfl (SnL.cons (Sn.pure rfl) (SnL.cons (Sn.agg (SnL.cons (Sn.pure rfl) (SnL.cons (Sn.pure rfl) (SnL.cons (Sn.pure rfl) (SnL.cons (Sn.pure rfl) (SnL.cons (Sn.pure rfl) (SnL.cons Sn.nilsl (SnL.cons Sn.nilsl SnL.nil)))))))) SnL.nil)) (fiduciallaw59_same_ok n v7.1 (api_Banded.mk (api_Grid.mk 0 0 0 0 0 []) []) true hc14)) <| .mu 2 <| .p0 (v := aB true) (Eq.trans (b := some (.pure (aB ((v7.2.2 : Int) == v9)))) (by kernel_rfl) (by rw [hb12])) <| .mu 3 <| .cal (by kernel_rfl) (by kernel_rfl) (callOf_at (by kernel_rfl)) <| .mu 7 <| .done <| .ret ?_
      obtain rfl := Option.some.inj hr
      exact FinQ.r1 [aB (((v7.2.1.length : Int) : Int) == 0)]
     ·subst hb15
      replace hr := cd_f rfl hr
      refine .g1 fine (callOk_val (args := [.agg (api_Banded.c v7.1), .agg [aI64 0, aI64 0, aI64 0, aI64 0, aI64 0, .at (.slice none 0 0), .at (.slice none 0 0)]]) (l := []) rfl (SnL.cons (Sn.pure rfl) (SnL.cons (Sn.agg (SnL.cons (Sn.pure rfl) (SnL.cons (Sn.pure rfl) (SnL.cons (Sn.pure rfl) (SnL.cons (Sn.pure rfl) (SnL.cons (Sn.pure rfl) (SnL.cons Sn.nilsl (SnL.cons Sn.nilsl SnL.nil)))))))) SnL.nil)) (fiduciallaw59_same_ok n v7.1 (api_Banded.mk (api_Grid.mk 0 0 0 0 0 []) []) false hc14)) <| .mu 2 <| .p0 (v := aB true) (Eq.trans (b := some (.pure (aB ((v7.2.2 : Int) == v9)))) (by kernel_rfl) (by rw [hb12])) <| .mu 3 <| .cal (by kernel_rfl) (by kernel_rfl) (callOf_at (by kernel_rfl)) <| .mu 7 <| .done <| .ret ?_
      obtain rfl := Option.some.inj hr
      exact FinQ.r1 [aB false]
    ·replace hr := cd_f hb12 hr
     refine .r0 fine <| .mu 2 <| .p0 (v := aB false) (Eq.trans (b := some (.pure (aB ((v7.2.2 : Int) == v9)))) (by kernel_rfl) (by rw [hb12])) <| .mu 11 <| .done <| .ret ?_
     obtain rfl := Option.some.inj hr
     exact FinQ.r1 [aB false]
   ·replace hr := cd_f hb11 hr
    refine .skip <| .seq ?_
    obtain ⟨v16, hc17, hr⟩ := bd hr
    refine .g1 fine (callOk_ref (l := []) (SnL.cons (Sn.pure rfl) (SnL.cons (Sn.pure rfl) SnL.nil)) (fiduciallaw59_merged_ok n a b v16 hc17)) <| .mu 2 <| .c0 (by kernel_rfl) (callOf_at (by kernel_rfl)) <| .mu 6 <| .done <| .n1 [2, 3, 4, 7, 8, 9, 11, 12] (mkS 167 0 [(2, sU8 parts), (3, .hp 0 0), (4, .hp 1 0), (7, .hp 3 0), (8, sI64 v7.2.1), (9, aI64 v7.2.2), (11, .hp 5 0), (12, sI64 v16.2)]) [.own (api_Banded.c a), .own (api_Banded.c b), .own [aI64 a.Grid.X0, aI64 a.Grid.Y0, aI64 a.Grid.Step, aI64 a.Grid.Width, aI64 a.Grid.Height, sI64 a.Grid.Z, sI64 a.Err, aI64 b.Grid.X0, aI64 b.Grid.Y0, aI64 b.Grid.Step, aI64 b.Grid.Width, aI64 b.Grid.Height, sI64 b.Grid.Z, sI64 b.Err], .own (api_Banded.c v7.1), .own [aI64 a.Grid.X0, aI64 a.Grid.Y0, aI64 a.Grid.Step, aI64 a.Grid.Width, aI64 a.Grid.Height, sI64 a.Grid.Z, sI64 a.Err, aI64 b.Grid.X0, aI64 b.Grid.Y0, aI64 b.Grid.Step, aI64 b.Grid.Width, aI64 b.Grid.Height, sI64 b.Grid.Z, sI64 b.Err], .own (api_Banded.c v16.1)] <| .seq <| .seq ?_
    rcases Bool.eq_false_or_eq_true ((v7.2.2 : Int) != 0) with hb18 | hb18
    ·replace hr := cd_t hb18 hr
     refine .r0 fine <| .mu 1 <| .p0 (v := aB true) (Eq.trans (b := some (.pure (aB ((v7.2.2 : Int) != 0)))) (by kernel_rfl) (by rw [hb18])) <| .mu 12 <| .done <| .n1 [2, 3, 4, 7, 8, 67] (mkS 167 0 [(2, sU8 parts), (3, .hp 0 0), (4, .hp 1 0), (7, .hp 3 0), (8, sI64 v7.2.1), (67, aB true)]) [.own (api_Banded.c a), .own (api_Banded.c b), .own [aI64 a.Grid.X0, aI64 a.Grid.Y0, aI64 a.Grid.Step, aI64 a.Grid.Width, aI64 a.Grid.Height, sI64 a.Grid.Z, sI64 a.Err, aI64 b.Grid.X0, aI64 b.Grid.Y0, aI64 b.Grid.Step, aI64 b.Grid.Width, aI64 b.Grid.Height, sI64 b.Grid.Z, sI64 b.Err], .own (api_Banded.c v7.1), .own [aI64 a.Grid.X0, aI64 a.Grid.Y0, aI64 a.Grid.Step, aI64 a.Grid.Width, aI64 a.Grid.Height, sI64 a.Grid.Z, sI64 a.Err, aI64 b.Grid.X0, aI64 b.Grid.Y0, aI64 b.Grid.Step, aI64 b.Grid.Width, aI64 b.Grid.Height, sI64 b.Grid.Z, sI64 b.Err], .own (api_Banded.c v16.1)] <| .cT (by kernel_rfl) <| .seq <| .ru fine <| .ret ?_
     obtain rfl := Option.some.inj hr
     exact FinQ.r1 [aB false]
    ·replace hr := cd_f hb18 hr
     obtain ⟨v19, hc20, hr⟩ := bd hr
     rcases Bool.eq_false_or_eq_true (!v19) with hb21 | hb21
     ·replace hr := cd_t hb21 hr
      refine .g1 fine (callOk_val (l := []) rfl (SnL.cons (Sn.pure rfl) (SnL.cons (Sn.pure rfl) SnL.nil)) (fiduciallaw59_same_ok n v7.1 v16.1 v19 hc20)) <| .mu 1 <| .p0 (v := aB false) (Eq.trans (b := some (.pure (aB ((v7.2.2 : Int) != 0)))) (by kernel_rfl) (by rw [hb18])) <| .mu 3 <| .cal (by kernel_rfl) (by kernel_rfl) (callOf_at (by kernel_rfl)) <| .pure (v := aB true) (by kernel_rfl) (Eq.trans (b := some (.pure (aB (!v19)))) (by kernel_rfl) (by rw [hb21])) <| .mu 7 <| .done <| .n1 [2, 3, 4, 7, 8, 67] (mkS 167 0 [(2, sU8 parts), (3, .hp 0 0), (4, .hp 1 0), (7, .hp 3 0), (8, sI64 v7.2.1), (67, aB true)]) [.own (api_Banded.c a), .own (api_Banded.c b), .own [aI64 a.Grid.X0, aI64 a.Grid.Y0, aI64 a.Grid.Step, aI64 a.Grid.Width, aI64 a.Grid.Height, sI64 a.Grid.Z, sI64 a.Err, aI64 b.Grid.X0, aI64 b.Grid.Y0, aI64 b.Grid.Step, aI64 b.Grid.Width, aI64 b.Grid.Height, sI64 b.Grid.Z, sI64 b.Err], .own (api_Banded.c v7.1), .own [aI64 a.Grid.X0, aI64 a.Grid.Y0, aI64 a.Grid.Step, aI64 a.Grid.Width, aI64 a.Grid.Height, sI64 a.Grid.Z, sI64 a.Err, aI64 b.Grid.X0, aI64 b.Grid.Y0, aI64 b.Grid.Step, aI64 b.Grid.Width, aI64 b.Grid.Height, sI64 b.Grid.Z, sI64 b.Err], .own (api_Banded.c v16.1)] <| .cT (by kernel_rfl) <| .seq <| .ru fine <| .ret ?_
      obtain rfl := Option.some.inj hr
      exact FinQ.r1 [aB false]
     ·replace hr := cd_f hb21 hr
      obtain ⟨v22, hc23, hr⟩ := bd hr
      refine .region fine (callOf_cons (callOk_val (H := [.own (api_Banded.c a), .own (api_Banded.c b), .own [aI64 a.Grid.X0, aI64 a.Grid.Y0, aI64 a.Grid.Step, aI64 a.Grid.Width, aI64 a.Grid.Height, sI64 a.Grid.Z, sI64 a.Err, aI64 b.Grid.X0, aI64 b.Grid.Y0, aI64 b.Grid.Step, aI64 b.Grid.Width, aI64 b.Grid.Height, sI64 b.Grid.Z, sI64 b.Err], .own (api_Banded.c v7.1), .own [aI64 a.Grid.X0, aI64 a.Grid.Y0, aI64 a.Grid.Step, aI64 a.Grid.Width, aI64 a.Grid.Height, sI64 a.Grid.Z, sI64 a.Err, aI64 b.Grid.X0, aI64 b.Grid.Y0, aI64 b.Grid.Step, aI64 b.Grid.Width, aI64 b.Grid.Height, sI64 b.Grid.Z, sI64 b.Err], .own (api_Banded.c v16.1)]) (l := []) rfl (SnL.cons (Sn.pure rfl) (SnL.cons (Sn.pure rfl) SnL.nil)) (fiduciallaw59_same_ok n v7.1 v16.1 v19 hc20)) (callOf_cons (callOk_val (H := [.own (api_Banded.c a), .own (api_Banded.c b), .own [aI64 a.Grid.X0, aI64 a.Grid.Y0, aI64 a.Grid.Step, aI64 a.Grid.Width, aI64 a.Grid.Height, sI64 a.Grid.Z, sI64 a.Err, aI64 b.Grid.X0, aI64 b.Grid.Y0, aI64 b.Grid.Step, aI64 b.Grid.Width, aI64 b.Grid.Height, sI64 b.Grid.Z, sI64 b.Err], .own (api_Banded.c v7.1), .own [aI64 a.Grid.X0, aI64 a.Grid.Y0, aI64 a.Grid.Step, aI64 a.Grid.Width, aI64 a.Grid.Height, sI64 a.Grid.Z, sI64 a.Err, aI64 b.Grid.X0, aI64 b.Grid.Y0, aI64 b.Grid.Step, aI64 b.Grid.Width, aI64 b.Grid.Height, sI64 b.Grid.Z, sI64 b.Err], .own (api_Banded.c v16.1)]) (l := []) rfl (SnL.cons (Sn.pure rfl) (SnL.cons (Sn.pure rfl) SnL.nil)) (slices_Equal_int_int_ok n v7.2.1 v16.2 v22 hc23)) callOf_nil)) <| .mu 1 <| .p0 (v := aB false) (Eq.trans (b := some (.pure (aB ((v7.2.2 : Int) != 0)))) (by kernel_rfl) (by rw [hb18])) <| .mu 3 <| .cal (by kernel_rfl) (by kernel_rfl) (callOf_at (by kernel_rfl)) <| .pure (v := aB false) (by kernel_rfl) (Eq.trans (b := some (.pure (aB (!v19)))) (by kernel_rfl) (by rw [hb21])) <| .mu 4 <| .cal (by kernel_rfl) (by kernel_rfl) (callOf_skip (fun h _ => absurd (show (27 : Nat) = 25 from h) (by decide)) (callOf_at (by kernel_rfl))) <| .mu 2 <| .done <| .n1 [2, 3, 4, 7, 8, 67] (mkS 167 0 [(2, sU8 parts), (3, .hp 0 0), (4, .hp 1 0), (7, .hp 3 0), (8, sI64 v7.2.1), (67, aB (!v22))]) [.own (api_Banded.c a), .own (api_Banded.c b), .own [aI64 a.Grid.X0, aI64 a.Grid.Y0, aI64 a.Grid.Step, aI64 a.Grid.Width, aI64 a.Grid.Height, sI64 a.Grid.Z, sI64 a.Err, aI64 b.Grid.X0, aI64 b.Grid.Y0, aI64 b.Grid.Step, aI64 b.Grid.Width, aI64 b.Grid.Height, sI64 b.Grid.Z, sI64 b.Err], .own (api_Banded.c v7.1), .own [aI64 a.Grid.X0, aI64 a.Grid.Y0, aI64 a.Grid.Step, aI64 a.Grid.Width, aI64 a.Grid.Height, sI64 a.Grid.Z, sI64 a.Err, aI64 b.Grid.X0, aI64 b.Grid.Y0, aI64 b.Grid.Step, aI64 b.Grid.Width, aI64 b.Grid.Height, sI64 b.Grid.Z, sI64 b.Err], .own (api_Banded.c v16.1)] ?_
      refine .cond (t := !v22) (by kernel_rfl) (fun hb24 => ?_) (fun hb24 => ?_)
      ·replace hr := cd_t hb24 hr
       refine .seq <| .ru fine <| .ret ?_
       obtain rfl := Option.some.inj hr
       exact FinQ.r1 [aB false]
      ·replace hr := cd_f hb24 hr
       refine .skip <| .seq <| .seq <| .rn fine [2, 3, 4, 7, 8, 74, 75] (mkS 167 0 [(2, sU8 parts), (3, .hp 0 0), (4, .hp 1 0), (7, .hp 3 0), (8, sI64 v7.2.1), (74, aI64 (mn (parts.length : Int) (a.Grid.Z.length : Int))), (75, aI64 0)]) [.own (api_Banded.c a), .own (api_Banded.c b), .own [aI64 a.Grid.X0, aI64 a.Grid.Y0, aI64 a.Grid.Step, aI64 a.Grid.Width, aI64 a.Grid.Height, sI64 a.Grid.Z, sI64 a.Err, aI64 b.Grid.X0, aI64 b.Grid.Y0, aI64 b.Grid.Step, aI64 b.Grid.Width, aI64 b.Grid.Height, sI64 b.Grid.Z, sI64 b.Err], .own (api_Banded.c v7.1), .own [aI64 a.Grid.X0, aI64 a.Grid.Y0, aI64 a.Grid.Step, aI64 a.Grid.Width, aI64 a.Grid.Height, sI64 a.Grid.Z, sI64 a.Err, aI64 b.Grid.X0, aI64 b.Grid.Y0, aI64 b.Grid.Step, aI64 b.Grid.Width, aI64 b.Grid.Height, sI64 b.Grid.Z, sI64 b.Err], .own (api_Banded.c v16.1)] <| .block ?_
       replace hr := bd hr; obtain ⟨o63, hL64, hr⟩ := hr
       refine .loopO (σ := fun z0 => match z0 with | x_25 => ⟨mkS 167 0 [(2, sU8 parts), (3, .hp 0 0), (4, .hp 1 0), (7, .hp 2 0), (8, sI64 v7.2.1), (74, aI64 (mn (parts.length : Int) (a.Grid.Z.length : Int))), (75, aI64 x_25)], [.own (api_Banded.c a), .own (api_Banded.c b), .own (api_Banded.c v7.1)]⟩) (Q := fun x st' => match (generalizing := false) o63 with | .inl _ => x = .exit 0 ∧ Wk 0 st' ⟨mkS 167 0 [], []⟩ | .inr (r0) => x = .ret ∧ FinQ Tryz.prog [.tmp 6] (aB r0) .ret st') hL64 ((Wk.gc [2, 3, 4, 7, 8, 74, 75] [(0, true), (1, true), (3, true)] rfl trivial).to (by kernel_rfl)) ?_ ?_
       ·clear hr
        rintro m x_25 hr
        show CQ _ _ _ _ _ ⟨_, _⟩
        refine .seq <| .rn fine [2, 3, 4, 7, 8, 74, 75, 76] (mkS 167 0 [(2, sU8 parts), (3, .hp 0 0), (4, .hp 1 0), (7, .hp 2 0), (8, sI64 v7.2.1), (74, aI64 (mn (parts.length : Int) (a.Grid.Z.length : Int))), (75, aI64 x_25), (76, aB (decide (x_25 < (mn (parts.length : Int) (a.Grid.Z.length : Int)))))]) [.own (api_Banded.c a), .own (api_Banded.c b), .own (api_Banded.c v7.1)] <| .seq ?_
        refine .cond (t := decide (x_25 < (mn (parts.length : Int) (a.Grid.Z.length : Int)))) (by kernel_rfl) (fun hb45 => ?_) (fun hb45 => ?_)
        ·replace hr := cd_t hb45 hr
         refine .skip <| .seq <| .block <| .seq <| .rn fine [2, 3, 4, 7, 8, 13, 74, 75] (mkS 167 0 [(2, sU8 parts), (3, .hp 0 0), (4, .hp 1 0), (7, .hp 2 0), (8, sI64 v7.2.1), (13, aI64 x_25), (74, aI64 (mn (parts.length : Int) (a.Grid.Z.length : Int))), (75, aI64 x_25)]) [.own (api_Banded.c a), .own (api_Banded.c b), .own (api_Banded.c v7.1)] <| .seq <| .seq ?_
         obtain ⟨hg46, hr⟩ := gd hr
         rcases Bool.eq_false_or_eq_true (((gt a.Grid.Z x_25) : Int) == (-2147483648)) with hb47 | hb47
         ·replace hr := cd_t hb47 hr
          refine .r0 fine <| .mu 4 <| .p0 (v := .pp (a.Grid.Z.flatMap (iC .i64)) (x_25.toNat * 1)) (Eq.trans (b := ORes.ofP (guardV (inR x_25 a.Grid.Z.length) (.pp (a.Grid.Z.flatMap (iC .i64)) (x_25.toNat * 1)))) (by kernel_rfl) (ofP_guard hg46)) <| .p0 (v := aI64 (gt a.Grid.Z x_25)) (Eq.trans (b := ORes.ofP ((a.Grid.Z.flatMap (iC .i64))[x_25.toNat * 1]?)) (by kernel_rfl) (ofP_some (flat_get (iC_len _) (inR_lt hg46) (by decide : 0 < 1) (by omega : x_25.toNat * 1 = x_25.toNat * 1 + 0) (by kernel_rfl)))) <| .p0 (v := aB true) (Eq.trans (b := some (.pure (aB (((gt a.Grid.Z x_25) : Int) == (-2147483648))))) (by kernel_rfl) (by rw [hb47])) <| .mu 9 <| .done <| .n1 [2, 3, 4, 7, 8, 13, 74, 75, 93] (mkS 167 0 [(2, sU8 parts), (3, .hp 0 0), (4, .hp 1 0), (7, .hp 2 0), (8, sI64 v7.2.1), (13, aI64 x_25), (74, aI64 (mn (parts.length : Int) (a.Grid.Z.length : Int))), (75, aI64 x_25), (93, aB true)]) [.own (api_Banded.c a), .own (api_Banded.c b), .own (api_Banded.c v7.1)] <| .cT (by kernel_rfl) <| .exit rfl <| .ru fine ?_
          exact loopF_back (wrapF .i64 (x_25 + 1)) hr ((Wk.gc [2, 3, 4, 7, 8, 74, 75] [(0, true), (1, true), (2, true)] rfl trivial).to (by kernel_rfl))
         ·replace hr := cd_f hb47 hr
          obtain ⟨hg48, hr⟩ := gd hr
          refine .r0 fine <| .mu 4 <| .p0 (v := .pp (a.Grid.Z.flatMap (iC .i64)) (x_25.toNat * 1)) (Eq.trans (b := ORes.ofP (guardV (inR x_25 a.Grid.Z.length) (.pp (a.Grid.Z.flatMap (iC .i64)) (x_25.toNat * 1)))) (by kernel_rfl) (ofP_guard hg46)) <| .p0 (v := aI64 (gt a.Grid.Z x_25)) (Eq.trans (b := ORes.ofP ((a.Grid.Z.flatMap (iC .i64))[x_25.toNat * 1]?)) (by kernel_rfl) (ofP_some (flat_get (iC_len _) (inR_lt hg46) (by decide : 0 < 1) (by omega : x_25.toNat * 1 = x_25.toNat * 1 + 0) (by kernel_rfl)))) <| .p0 (v := aB false) (Eq.trans (b := some (.pure (aB (((gt a.Grid.Z x_25) : Int) == (-2147483648))))) (by kernel_rfl) (by rw [hb47])) <| .mu 5 <| .pure (v := .pp (b.Grid.Z.flatMap (iC .i64)) (x_25.toNat * 1)) (by kernel_rfl) (Eq.trans (b := ORes.ofP (guardV (inR x_25 b.Grid.Z.length) (.pp (b.Grid.Z.flatMap (iC .i64)) (x_25.toNat * 1)))) (by kernel_rfl) (ofP_guard hg48)) <| .pure (v := aI64 (gt b.Grid.Z x_25)) (by kernel_rfl) (Eq.trans (b := ORes.ofP ((b.Grid.Z.flatMap (iC .i64))[x_25.toNat * 1]?)) (by kernel_rfl) (ofP_some (flat_get (iC_len _) (inR_lt hg48) (by decide : 0 < 1) (by omega : x_25.toNat * 1 = x_25.toNat * 1 + 0) (by kernel_rfl)))) <| .mu 2 <| .done <| .n1 [2, 3, 4, 7, 8, 13, 74, 75, 93] (mkS 167 0 [(2, sU8 parts), (3, .hp 0 0), (4, .hp 1 0), (7, .hp 2 0), (8, sI64 v7.2.1), (13, aI64 x_25), (74, aI64 (mn (parts.length : Int) (a.Grid.Z.length : Int))), (75, aI64 x_25), (93, aB (((gt b.Grid.Z x_25) : Int) == (-2147483648)))]) [.own (api_Banded.c a), .own (api_Banded.c b), .own (api_Banded.c v7.1)] ?_
          refine .cond (t := ((gt b.Grid.Z x_25) : Int) == (-2147483648)) (by kernel_rfl) (fun hb49 => ?_) (fun hb49 => ?_)
          ·replace hr := cd_t hb49 hr
           refine .exit rfl <| .ru fine ?_
           exact loopF_back (wrapF .i64 (x_25 + 1)) hr ((Wk.gc [2, 3, 4, 7, 8, 74, 75] [(0, true), (1, true), (2, true)] rfl trivial).to (by kernel_rfl))
          ·replace hr := cd_f hb49 hr
           refine .skip <| .seq ?_
           obtain ⟨hg50, hr⟩ := gd hr
           obtain ⟨v51, hc52, hr⟩ := bd hr
           refine .t1 fine (callOk_val (l := []) rfl (SnL.cons (Sn.pure rfl) (SnL.cons (Sn.pure rfl) (SnL.cons (Sn.pure rfl) SnL.nil))) (fiduciallaw59_truth_ok n a x_25 (gt parts x_25) v51 hc52)) <| .mu 4 <| .pure (v := .pp (parts.flatMap (iC .u8)) (x_25.toNat * 1)) (by kernel_rfl) (Eq.trans (b := ORes.ofP (guardV (inR x_25 parts.length) (.pp (parts.flatMap (iC .u8)) (x_25.toNat * 1)))) (by kernel_rfl) (ofP_guard hg50)) (by kernel_rfl) <| .pure (v := aU8 (gt parts x_25)) (by kernel_rfl) (Eq.trans (b := ORes.ofP ((parts.flatMap (iC .u8))[x_25.toNat * 1]?)) (by kernel_rfl) (ofP_some (flat_get (iC_len _) (inR_lt hg50) (by decide : 0 < 1) (by omega : x_25.toNat * 1 = x_25.toNat * 1 + 0) (by kernel_rfl)))) (by kernel_rfl) <| .cal (by kernel_rfl) (by kernel_rfl) (callOf_at (by kernel_rfl)) (by kernel_rfl) <| .mu 1 ?_
           refine .done ⟨by kernel_rfl, ?_⟩
           refine .n1 [2, 3, 4, 7, 8, 13, 14, 74, 75] (mkS 167 0 [(2, sU8 parts), (3, .hp 0 0), (4, .hp 1 0), (7, .hp 2 0), (8, sI64 v7.2.1), (13, aI64 x_25), (14, aI64 v51), (74, aI64 (mn (parts.length : Int) (a.Grid.Z.length : Int))), (75, aI64 x_25)]) [.own (api_Banded.c a), .own (api_Banded.c b), .own (api_Banded.c v7.1)] <| .seq <| .seq ?_
           obtain ⟨hg53, hr⟩ := gd hr
           rcases Bool.eq_false_or_eq_true (decide (v51 < (wrapF .i64 ((gt b.Grid.Z x_25) - (gt b.Err x_25))))) with hb54 | hb54
           ·replace hr := cd_t hb54 hr
            refine .regionT fine callOf_nil <| .mu 5 <| .pure (v := .pp (b.Grid.Z.flatMap (iC .i64)) (x_25.toNat * 1)) (by kernel_rfl) (Eq.trans (b := ORes.ofP (guardV (inR x_25 b.Grid.Z.length) (.pp (b.Grid.Z.flatMap (iC .i64)) (x_25.toNat * 1)))) (by kernel_rfl) (ofP_guard hg48)) (by kernel_rfl) <| .pure (v := aI64 (gt b.Grid.Z x_25)) (by kernel_rfl) (Eq.trans (b := ORes.ofP ((b.Grid.Z.flatMap (iC .i64))[x_25.toNat * 1]?)) (by kernel_rfl) (ofP_some (flat_get (iC_len _) (inR_lt hg48) (by decide : 0 < 1) (by omega : x_25.toNat * 1 = x_25.toNat * 1 + 0) (by kernel_rfl)))) (by kernel_rfl) <| .mu 3 <| .pure (v := .pp (b.Err.flatMap (iC .i64)) (x_25.toNat * 1)) (by kernel_rfl) (Eq.trans (b := ORes.ofP (guardV (inR x_25 b.Err.length) (.pp (b.Err.flatMap (iC .i64)) (x_25.toNat * 1)))) (by kernel_rfl) (ofP_guard hg53)) (by kernel_rfl) <| .pure (v := aI64 (gt b.Err x_25)) (by kernel_rfl) (Eq.trans (b := ORes.ofP ((b.Err.flatMap (iC .i64))[x_25.toNat * 1]?)) (by kernel_rfl) (ofP_some (flat_get (iC_len _) (inR_lt hg53) (by decide : 0 < 1) (by omega : x_25.toNat * 1 = x_25.toNat * 1 + 0) (by kernel_rfl)))) (by kernel_rfl) <| .mu 1 <| .pure (v := aB true) (by kernel_rfl) (Eq.trans (b := some (.pure (aB (decide (v51 < (wrapF .i64 ((gt b.Grid.Z x_25) - (gt b.Err x_25)))))))) (by kernel_rfl) (by rw [hb54])) (by kernel_rfl) <| .mu 16 ?_
            refine .done ⟨by kernel_rfl, ?_⟩
            refine .n1 [2, 3, 4, 7, 8, 13, 14, 74, 75, 130] (mkS 167 0 [(2, sU8 parts), (3, .hp 0 0), (4, .hp 1 0), (7, .hp 2 0), (8, sI64 v7.2.1), (13, aI64 x_25), (14, aI64 v51), (74, aI64 (mn (parts.length : Int) (a.Grid.Z.length : Int))), (75, aI64 x_25), (130, aB true)]) [.own (api_Banded.c a), .own (api_Banded.c b), .own (api_Banded.c v7.1)] <| .cT (by kernel_rfl) <| .exit rfl <| .ru fine ?_
            exact loopF_back (wrapF .i64 (x_25 + 1)) hr ((Wk.gc [2, 3, 4, 7, 8, 74, 75] [(0, true), (1, true), (2, true)] rfl trivial).to (by kernel_rfl))
           ·replace hr := cd_f hb54 hr
            refine .regionT fine callOf_nil <| .mu 5 <| .pure (v := .pp (b.Grid.Z.flatMap (iC .i64)) (x_25.toNat * 1)) (by kernel_rfl) (Eq.trans (b := ORes.ofP (guardV (inR x_25 b.Grid.Z.length) (.pp (b.Grid.Z.flatMap (iC .i64)) (x_25.toNat * 1)))) (by kernel_rfl) (ofP_guard hg48)) (by kernel_rfl) <| .pure (v := aI64 (gt b.Grid.Z x_25)) (by kernel_rfl) (Eq.trans (b := ORes.ofP ((b.Grid.Z.flatMap (iC .i64))[x_25.toNat * 1]?)) (by kernel_rfl) (ofP_some (flat_get (iC_len _) (inR_lt hg48) (by decide : 0 < 1) (by omega : x_25.toNat * 1 = x_25.toNat * 1 + 0) (by kernel_rfl)))) (by kernel_rfl) <| .mu 3 <| .pure (v := .pp (b.Err.flatMap (iC .i64)) (x_25.toNat * 1)) (by kernel_rfl) (Eq.trans (b := ORes.ofP (guardV (inR x_25 b.Err.length) (.pp (b.Err.flatMap (iC .i64)) (x_25.toNat * 1)))) (by kernel_rfl) (ofP_guard hg53)) (by kernel_rfl) <| .pure (v := aI64 (gt b.Err x_25)) (by kernel_rfl) (Eq.trans (b := ORes.ofP ((b.Err.flatMap (iC .i64))[x_25.toNat * 1]?)) (by kernel_rfl) (ofP_some (flat_get (iC_len _) (inR_lt hg53) (by decide : 0 < 1) (by omega : x_25.toNat * 1 = x_25.toNat * 1 + 0) (by kernel_rfl)))) (by kernel_rfl) <| .mu 1 <| .pure (v := aB false) (by kernel_rfl) (Eq.trans (b := some (.pure (aB (decide (v51 < (wrapF .i64 ((gt b.Grid.Z x_25) - (gt b.Err x_25)))))))) (by kernel_rfl) (by rw [hb54])) (by kernel_rfl) <| .mu 6 <| .pure (v := .pp (b.Grid.Z.flatMap (iC .i64)) (x_25.toNat * 1)) (by kernel_rfl) (Eq.trans (b := ORes.ofP (guardV (inR x_25 b.Grid.Z.length) (.pp (b.Grid.Z.flatMap (iC .i64)) (x_25.toNat * 1)))) (by kernel_rfl) (ofP_guard hg48)) (by kernel_rfl) <| .pure (v := aI64 (gt b.Grid.Z x_25)) (by kernel_rfl) (Eq.trans (b := ORes.ofP ((b.Grid.Z.flatMap (iC .i64))[x_25.toNat * 1]?)) (by kernel_rfl) (ofP_some (flat_get (iC_len _) (inR_lt hg48) (by decide : 0 < 1) (by omega : x_25.toNat * 1 = x_25.toNat * 1 + 0) (by kernel_rfl)))) (by kernel_rfl) <| .mu 3 <| .pure (v := .pp (b.Err.flatMap (iC .i64)) (x_25.toNat * 1)) (by kernel_rfl) (Eq.trans (b := ORes.ofP (guardV (inR x_25 b.Err.length) (.pp (b.Err.flatMap (iC .i64)) (x_25.toNat * 1)))) (by kernel_rfl) (ofP_guard hg53)) (by kernel_rfl) <| .pure (v := aI64 (gt b.Err x_25)) (by kernel_rfl) (Eq.trans (b := ORes.ofP ((b.Err.flatMap (iC .i64))[x_25.toNat * 1]?)) (by kernel_rfl) (ofP_some (flat_get (iC_len _) (inR_lt hg53) (by decide : 0 < 1) (by omega : x_25.toNat * 1 = x_25.toNat * 1 + 0) (by kernel_rfl)))) (by kernel_rfl) <| .mu 3 ?_
            refine .done ⟨by kernel_rfl, ?_⟩
            refine .n1 [2, 3, 4, 7, 8, 13, 14, 74, 75, 130] (mkS 167 0 [(2, sU8 parts), (3, .hp 0 0), (4, .hp 1 0), (7, .hp 2 0), (8, sI64 v7.2.1), (13, aI64 x_25), (14, aI64 v51), (74, aI64 (mn (parts.length : Int) (a.Grid.Z.length : Int))), (75, aI64 x_25), (130, aB (decide (v51 > (wrapF .i64 ((gt b.Grid.Z x_25) + (gt b.Err x_25))))))]) [.own (api_Banded.c a), .own (api_Banded.c b), .own (api_Banded.c v7.1)] ?_
            refine .cond (t := decide (v51 > (wrapF .i64 ((gt b.Grid.Z x_25) + (gt b.Err x_25))))) (by kernel_rfl) (fun hb55 => ?_) (fun hb55 => ?_)
            ·replace hr := cd_t hb55 hr
             refine .exit rfl <| .ru fine ?_
             exact loopF_back (wrapF .i64 (x_25 + 1)) hr ((Wk.gc [2, 3, 4, 7, 8, 74, 75] [(0, true), (1, true), (2, true)] rfl trivial).to (by kernel_rfl))
            ·replace hr := cd_f hb55 hr
             refine .skip <| .seq ?_
             obtain ⟨v56, hc57, hr⟩ := bd hr
             rcases Bool.eq_false_or_eq_true v56 with hb58 | hb58
             ·subst hb58
              replace hr := cd_t rfl hr
              refine .t1 fine (callOk_val (l := []) rfl (SnL.cons (Sn.pure rfl) (SnL.cons (Sn.pure rfl) SnL.nil)) (slices_Contains_int_int_ok n v7.2.1 x_25 true hc57)) <| .mu 2 <| .cal (by kernel_rfl) (by kernel_rfl) (callOf_at (by kernel_rfl)) (by kernel_rfl) <| .mu 32 ?_
              refine .done ⟨by kernel_rfl, ?_⟩
              refine .n1 [2, 3, 4, 7, 8, 74, 75, 165] (mkS 167 0 [(2, sU8 parts), (3, .hp 0 0), (4, .hp 1 0), (7, .hp 2 0), (8, sI64 v7.2.1), (74, aI64 (mn (parts.length : Int) (a.Grid.Z.length : Int))), (75, aI64 x_25), (165, aB true)]) [.own (api_Banded.c a), .own (api_Banded.c b), .own (api_Banded.c v7.1)] <| .cT (by kernel_rfl) <| .seq <| .ru fine <| .ret ?_
              obtain rfl := Option.some.inj hr
              exact ⟨rfl, FinQ.ret (vs := [aB false]) (by kernel_rfl) (Sn.pure rfl)⟩
             ·subst hb58
              replace hr := cd_f rfl hr
              obtain ⟨hg59, hr⟩ := gd hr
              obtain ⟨hg60, hr⟩ := gd hr
              rcases Bool.eq_false_or_eq_true (decide (v51 < (wrapF .i64 ((gt v7.1.Grid.Z x_25) - (gt v7.1.Err x_25))))) with hb61 | hb61
              ·replace hr := cd_t hb61 hr
               refine .t1 fine (callOk_val (l := []) rfl (SnL.cons (Sn.pure rfl) (SnL.cons (Sn.pure rfl) SnL.nil)) (slices_Contains_int_int_ok n v7.2.1 x_25 false hc57)) <| .mu 2 <| .cal (by kernel_rfl) (by kernel_rfl) (callOf_at (by kernel_rfl)) (by kernel_rfl) <| .mu 6 <| .pure (v := .pp (v7.1.Grid.Z.flatMap (iC .i64)) (x_25.toNat * 1)) (by kernel_rfl) (Eq.trans (b := ORes.ofP (guardV (inR x_25 v7.1.Grid.Z.length) (.pp (v7.1.Grid.Z.flatMap (iC .i64)) (x_25.toNat * 1)))) (by kernel_rfl) (ofP_guard hg59)) (by kernel_rfl) <| .pure (v := aI64 (gt v7.1.Grid.Z x_25)) (by kernel_rfl) (Eq.trans (b := ORes.ofP ((v7.1.Grid.Z.flatMap (iC .i64))[x_25.toNat * 1]?)) (by kernel_rfl) (ofP_some (flat_get (iC_len _) (inR_lt hg59) (by decide : 0 < 1) (by omega : x_25.toNat * 1 = x_25.toNat * 1 + 0) (by kernel_rfl)))) (by kernel_rfl) <| .mu 3 <| .pure (v := .pp (v7.1.Err.flatMap (iC .i64)) (x_25.toNat * 1)) (by kernel_rfl) (Eq.trans (b := ORes.ofP (guardV (inR x_25 v7.1.Err.length) (.pp (v7.1.Err.flatMap (iC .i64)) (x_25.toNat * 1)))) (by kernel_rfl) (ofP_guard hg60)) (by kernel_rfl) <| .pure (v := aI64 (gt v7.1.Err x_25)) (by kernel_rfl) (Eq.trans (b := ORes.ofP ((v7.1.Err.flatMap (iC .i64))[x_25.toNat * 1]?)) (by kernel_rfl) (ofP_some (flat_get (iC_len _) (inR_lt hg60) (by decide : 0 < 1) (by omega : x_25.toNat * 1 = x_25.toNat * 1 + 0) (by kernel_rfl)))) (by kernel_rfl) <| .mu 1 <| .pure (v := aB true) (by kernel_rfl) (Eq.trans (b := some (.pure (aB (decide (v51 < (wrapF .i64 ((gt v7.1.Grid.Z x_25) - (gt v7.1.Err x_25)))))))) (by kernel_rfl) (by rw [hb61])) (by kernel_rfl) <| .mu 17 ?_
               refine .done ⟨by kernel_rfl, ?_⟩
               refine .n1 [2, 3, 4, 7, 8, 74, 75, 165] (mkS 167 0 [(2, sU8 parts), (3, .hp 0 0), (4, .hp 1 0), (7, .hp 2 0), (8, sI64 v7.2.1), (74, aI64 (mn (parts.length : Int) (a.Grid.Z.length : Int))), (75, aI64 x_25), (165, aB true)]) [.own (api_Banded.c a), .own (api_Banded.c b), .own (api_Banded.c v7.1)] <| .cT (by kernel_rfl) <| .seq <| .ru fine <| .ret ?_
               obtain rfl := Option.some.inj hr
               exact ⟨rfl, FinQ.ret (vs := [aB false]) (by kernel_rfl) (Sn.pure rfl)⟩
              ·replace hr := cd_f hb61 hr
               refine .t1 fine (callOk_val (l := []) rfl (SnL.cons (Sn.pure rfl) (SnL.cons (Sn.pure rfl) SnL.nil)) (slices_Contains_int_int_ok n v7.2.1 x_25 false hc57)) <| .mu 2 <| .cal (by kernel_rfl) (by kernel_rfl) (callOf_at (by kernel_rfl)) (by kernel_rfl) <| .mu 6 <| .pure (v := .pp (v7.1.Grid.Z.flatMap (iC .i64)) (x_25.toNat * 1)) (by kernel_rfl) (Eq.trans (b := ORes.ofP (guardV (inR x_25 v7.1.Grid.Z.length) (.pp (v7.1.Grid.Z.flatMap (iC .i64)) (x_25.toNat * 1)))) (by kernel_rfl) (ofP_guard hg59)) (by kernel_rfl) <| .pure (v := aI64 (gt v7.1.Grid.Z x_25)) (by kernel_rfl) (Eq.trans (b := ORes.ofP ((v7.1.Grid.Z.flatMap (iC .i64))[x_25.toNat * 1]?)) (by kernel_rfl) (ofP_some (flat_get (iC_len _) (inR_lt hg59) (by decide : 0 < 1) (by omega : x_25.toNat * 1 = x_25.toNat * 1 + 0) (by kernel_rfl)))) (by kernel_rfl) <| .mu 3 <| .pure (v := .pp (v7.1.Err.flatMap (iC .i64)) (x_25.toNat * 1)) (by kernel_rfl) (Eq.trans (b := ORes.ofP (guardV (inR x_25 v7.1.Err.length) (.pp (v7.1.Err.flatMap (iC .i64)) (x_25.toNat * 1)))) (by kernel_rfl) (ofP_guard hg60)) (by kernel_rfl) <| .pure (v := aI64 (gt v7.1.Err x_25)) (by kernel_rfl) (Eq.trans (b := ORes.ofP ((v7.1.Err.flatMap (iC .i64))[x_25.toNat * 1]?)) (by kernel_rfl) (ofP_some (flat_get (iC_len _) (inR_lt hg60) (by decide : 0 < 1) (by omega : x_25.toNat * 1 = x_25.toNat * 1 + 0) (by kernel_rfl)))) (by kernel_rfl) <| .mu 1 <| .pure (v := aB false) (by kernel_rfl) (Eq.trans (b := some (.pure (aB (decide (v51 < (wrapF .i64 ((gt v7.1.Grid.Z x_25) - (gt v7.1.Err x_25)))))))) (by kernel_rfl) (by rw [hb61])) (by kernel_rfl) <| .mu 7 <| .pure (v := .pp (v7.1.Grid.Z.flatMap (iC .i64)) (x_25.toNat * 1)) (by kernel_rfl) (Eq.trans (b := ORes.ofP (guardV (inR x_25 v7.1.Grid.Z.length) (.pp (v7.1.Grid.Z.flatMap (iC .i64)) (x_25.toNat * 1)))) (by kernel_rfl) (ofP_guard hg59)) (by kernel_rfl) <| .pure (v := aI64 (gt v7.1.Grid.Z x_25)) (by kernel_rfl) (Eq.trans (b := ORes.ofP ((v7.1.Grid.Z.flatMap (iC .i64))[x_25.toNat * 1]?)) (by kernel_rfl) (ofP_some (flat_get (iC_len _) (inR_lt hg59) (by decide : 0 < 1) (by omega : x_25.toNat * 1 = x_25.toNat * 1 + 0) (by kernel_rfl)))) (by kernel_rfl) <| .mu 3 <| .pure (v := .pp (v7.1.Err.flatMap (iC .i64)) (x_25.toNat * 1)) (by kernel_rfl) (Eq.trans (b := ORes.ofP (guardV (inR x_25 v7.1.Err.length) (.pp (v7.1.Err.flatMap (iC .i64)) (x_25.toNat * 1)))) (by kernel_rfl) (ofP_guard hg60)) (by kernel_rfl) <| .pure (v := aI64 (gt v7.1.Err x_25)) (by kernel_rfl) (Eq.trans (b := ORes.ofP ((v7.1.Err.flatMap (iC .i64))[x_25.toNat * 1]?)) (by kernel_rfl) (ofP_some (flat_get (iC_len _) (inR_lt hg60) (by decide : 0 < 1) (by omega : x_25.toNat * 1 = x_25.toNat * 1 + 0) (by kernel_rfl)))) (by kernel_rfl) <| .mu 3 ?_
               refine .done ⟨by kernel_rfl, ?_⟩
               refine .n1 [2, 3, 4, 7, 8, 74, 75, 165] (mkS 167 0 [(2, sU8 parts), (3, .hp 0 0), (4, .hp 1 0), (7, .hp 2 0), (8, sI64 v7.2.1), (74, aI64 (mn (parts.length : Int) (a.Grid.Z.length : Int))), (75, aI64 x_25), (165, aB (decide (v51 > (wrapF .i64 ((gt v7.1.Grid.Z x_25) + (gt v7.1.Err x_25))))))]) [.own (api_Banded.c a), .own (api_Banded.c b), .own (api_Banded.c v7.1)] ?_
               refine .cond (t := decide (v51 > (wrapF .i64 ((gt v7.1.Grid.Z x_25) + (gt v7.1.Err x_25))))) (by kernel_rfl) (fun hb62 => ?_) (fun hb62 => ?_)
               ·replace hr := cd_t hb62 hr
                refine .seq <| .ru fine <| .ret ?_
                obtain rfl := Option.some.inj hr
                exact ⟨rfl, FinQ.ret (vs := [aB false]) (by kernel_rfl) (Sn.pure rfl)⟩
               ·replace hr := cd_f hb62 hr
                refine .skip <| .pop <| .ru fine ?_
                exact loopF_back (wrapF .i64 (x_25 + 1)) hr ((Wk.gc [2, 3, 4, 7, 8, 74, 75] [(0, true), (1, true), (2, true)] rfl trivial).to (by kernel_rfl))
        ·replace hr := cd_f hb45 hr
         refine .leave rfl ?_
         obtain rfl := Option.some.inj hr
         exact ⟨rfl, ((Wk.gc [] [] rfl pK0).to (by kernel_rfl))⟩
       ·rcases o63 with ⟨⟩ | r0
        ·rintro x st' hq65
         clear hL64
         obtain ⟨rfl, hq65⟩ := hq65
         refine CQ_exit _ rfl <| .wk hq65 <| .seq <| .ru fine <| .ret ?_
         obtain rfl := Option.some.inj hr
         exact FinQ.r1 [aB true]
        ·rintro x st' hq65
         clear hL64
         obtain ⟨rfl, hq65⟩ := hq65
         obtain rfl := Option.some.inj hr
         exact CQ_ret _ hq65
end Go.L
