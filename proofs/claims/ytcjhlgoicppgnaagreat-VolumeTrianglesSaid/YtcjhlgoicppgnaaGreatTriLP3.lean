/- The program's functions compute what the plain Lean programs compute, part 3; printed by a program. -/
import Derived.Test.YtcjhlgoicppgnaaGreatTriLP2
import Derived.Test.YtcjhlgoicppgnaaGreatL0bhclkkop
import Derived.Test.YtcjhlgoicppgnaaGreatChecked
import Derived.KernelRfl
set_option linter.all false
set_option maxRecDepth 100000
set_option maxHeartbeats 4000000
namespace Go.L
open Go Go.Eng Go.Proofs
theorem volume_Solid_ok (n : Nat) (g : api_Grid) (base : Int) (r : api_Mesh × Int) (hr : volume_Solid n g base = some r) : FnOk Tryz.prog 8 [.agg (api_Grid.c g), aI64 base] (.tup [.agg (api_Mesh.c r.1), aI64 r.2]) := by
 unfold volume_Solid at hr
 refine FnOk.bd fine Tryz.func8 [.cell 4 30, .tmp 5] ?_
 unfold Tryz.f8
 simp only [Option.getD_some]
 refine .seq <| .r5 fine [1] [(2, .hp 0 0), (4, .hp 1 0)] [.own (api_Grid.c g), .own [nS, nS]] <| .seq <| .seq ?_
 obtain ⟨v1, hc2, hr⟩ := bd hr
 refine .g1 fine (ok0 (terrain_Check_ok n g v1 hc2)) <| .mu 1 <| .ca cf0 <| .mu 1 <| .done <| .nh [1, 2, 4, 6] [.own (api_Grid.c g), .own [nS, nS]] <| .seq <| .r4 fine [1, 2, 4, 6] [(20, aB ((v1 : Int) != 0))] ?_
 refine .cd hr (fun hb4 hr => ?_) (fun hb4 hr => ?_)
 ·refine .seq <| .r4 fine [4] [(5, aI64 v1)] <| .ret ?_
  obtain rfl := oi hr
  exact FinQ.ret (vs := [.agg [nS, nS], aI64 v1]) (by kernel_rfl) (Sn.tup (SnL.cons (Sn.agg (SnL.cons Sn.nilsl (SnL.cons Sn.nilsl SnL.nil))) (SnL.cons (Sn.pure rfl) SnL.nil)))
 ·refine .skip <| .seq <| .regionT fine callOf_nil <| .mu 8 ?_
  refine .done ⟨by kernel_rfl, ?_⟩
  refine .nh [1, 2, 4, 7, 8] [.own (api_Grid.c g), .own [nS, nS], .own [aI64 (g.Z.length : Int)]] <| .seq <| .seq <| .r4 fine [1, 2, 4, 7, 8] [(29, aB (decide ((g.Z.length : Int) > 256)))] ?_
  refine .cd hr (fun hb6 hr => ?_) (fun hb6 hr => ?_)
  ·refine .seq <| .r4 fine [4] [(5, aI64 3)] <| .ret ?_
   obtain rfl := oi hr
   exact FinQ.ret (vs := [.agg [nS, nS], aI64 3]) (by kernel_rfl) (Sn.tup (SnL.cons (Sn.agg (SnL.cons Sn.nilsl (SnL.cons Sn.nilsl SnL.nil))) (SnL.cons (Sn.pure rfl) SnL.nil)))
  ·refine .skip <| .seq <| .seq ?_
   obtain ⟨v7, hc8, hr⟩ := bd hr
   refine .g1 fine (ok0 (slices_Contains_int_int_ok n g.Z (-2147483648) v7 hc8)) <| .mu 2 <| .ca cf0 <| .done <| .nh [1, 2, 4, 7, 8, 33] [.own (api_Grid.c g), .own [nS, nS], .own [aI64 (g.Z.length : Int)]] ?_
   refine .cd hr (fun hb10 hr => ?_) (fun hb10 hr => ?_)
   ·refine .seq <| .r4 fine [4] [(5, aI64 6)] <| .ret ?_
    obtain rfl := oi hr
    exact FinQ.ret (vs := [.agg [nS, nS], aI64 6]) (by kernel_rfl) (Sn.tup (SnL.cons (Sn.agg (SnL.cons Sn.nilsl (SnL.cons Sn.nilsl SnL.nil))) (SnL.cons (Sn.pure rfl) SnL.nil)))
   ·refine .skip <| .seq <| .seq ?_
    obtain ⟨v11, hc12, hr⟩ := bd hr
    rcases Bool.eq_false_or_eq_true v11 with hb13 | hb13
    ·subst hb13
     replace hr := cd_t rfl hr
     refine .g1 fine (ok0 (volume_far_ok n base true hc12)) <| .mu 1 <| .ca cf0 <| .mu 7 <| .done <| .nh [1, 2, 4, 7, 8, 43] [.own (api_Grid.c g), .own [nS, nS], .own [aI64 (g.Z.length : Int)]] <| .cT (by kernel_rfl) <| .seq <| .r4 fine [4] [(5, aI64 2)] <| .ret ?_
     obtain rfl := oi hr
     exact FinQ.ret (vs := [.agg [nS, nS], aI64 2]) (by kernel_rfl) (Sn.tup (SnL.cons (Sn.agg (SnL.cons Sn.nilsl (SnL.cons Sn.nilsl SnL.nil))) (SnL.cons (Sn.pure rfl) SnL.nil)))
    ·subst hb13
     replace hr := cd_f rfl hr
     obtain ⟨v14, hc15, hr⟩ := bd hr
     refine .gn fine (ca1 (ok0 (volume_far_ok n base false hc12)) (ca3 (ok0 (slices_Min_int_int_ok n g.Z v14 hc15)))) <| .mu 1 <| .ca cf0 <| .mu 3 <| .ca (cfF cf0) <| .mu 3 <| .done <| .nh [1, 2, 4, 7, 8, 43] [.own (api_Grid.c g), .own [nS, nS], .own [aI64 (g.Z.length : Int)]] ?_
     refine .cd hr (fun hb17 hr => ?_) (fun hb17 hr => ?_)
     ·refine .seq <| .r4 fine [4] [(5, aI64 2)] <| .ret ?_
      obtain rfl := oi hr
      exact FinQ.ret (vs := [.agg [nS, nS], aI64 2]) (by kernel_rfl) (Sn.tup (SnL.cons (Sn.agg (SnL.cons Sn.nilsl (SnL.cons Sn.nilsl SnL.nil))) (SnL.cons (Sn.pure rfl) SnL.nil)))
     ·refine .skip <| .seq <| .r5 fine [1, 2, 4, 7, 8] [(9, .hp 3 0)] [.own (api_Grid.c g), .own [nS, nS], .own [aI64 (g.Z.length : Int)], .own [nS, nS]] <| .seq <| .seq <| .r4 fine [1, 2, 4, 7, 8, 9] [(46, aI64 (wrapF .i64 (2 * (g.Z.length : Int)))), (47, aI64 0)] <| .block ?_
      replace hr := bd hr; obtain ⟨out_57, hL70, hr⟩ := hr
      refine .loopO (σ := fun z0 => match z0 with | (out_45, x_46) => ⟨mkS 171 0 [(1, aI64 base), (2, .hp 0 0), (4, .hp 1 0), (7, aI64 g.Width), (8, .hp 2 0), (9, .hp 3 0), (46, aI64 (wrapF .i64 (2 * (g.Z.length : Int)))), (47, aI64 x_46)], [.own (api_Grid.c g), .own [nS, nS], .own [aI64 (g.Z.length : Int)], .own [.hs 4 0 out_45.length 3, nS], .own (out_45.flatMap api_Spot.c)]⟩) (Q := fun x st' => x = .exit 0 ∧ Wk 0 st' ⟨mkS 171 0 [(2, .hp 0 0), (4, .hp 1 0), (7, aI64 g.Width), (8, .hp 2 0), (9, .hp 3 0)], [.own (api_Grid.c g), .own [nS, nS], .own [aI64 (g.Z.length : Int)], .own [.hs 4 0 out_57.length 3, nS], .own (out_57.flatMap api_Spot.c)]⟩) hL70 ((Wk.nilcell 3 0 3 (cs := [nS, nS]) (by kernel_rfl) (by kernel_rfl)).trans ((Wk.gc [1, 2, 4, 7, 8, 9, 46, 47] [(0, true), (1, true), (2, true), (3, true), (4, false)] rfl (pKt (pKt (pKt (pKt (pKc trivial)))))).to (by kernel_rfl))) ?_ ?_
      ·clear hr
       rintro m ⟨out_45, x_46⟩ hr
       show CQ _ _ _ _ _ ⟨_, _⟩
       refine .seq <| .r4 fine [1, 2, 4, 7, 8, 9, 46, 47] [(48, aB (decide (x_46 < (wrapF .i64 (2 * (g.Z.length : Int))))))] <| .seq ?_
       refine .cd hr (fun hb60 hr => ?_) (fun hb60 hr => ?_)
       ·refine .skip <| .seq <| .block <| .seq <| .r4 fine [1, 2, 4, 7, 8, 9, 46, 47] [(10, aI64 x_46)] <| .seq ?_
        obtain ⟨hg61, hg62, hr⟩ := gd2 hr
        refine .regionT fine callOf_nil <| .mu 4 <| .pure (v := aI64 (x_46.tmod (g.Z.length : Int))) (by kernel_rfl) (op_rem (x := x_46) (y := (g.Z.length : Int)) (by kernel_rfl) (by kernel_rfl) hg61) (by kernel_rfl) <| .mu 1 <| .pure (v := aI64 ((x_46.tmod (g.Z.length : Int)).tmod g.Width)) (by kernel_rfl) (op_rem (x := x_46.tmod (g.Z.length : Int)) (y := g.Width) (by kernel_rfl) (by kernel_rfl) hg62) (by kernel_rfl) <| .mu 8 <| .pure (v := aI64 (x_46.tmod (g.Z.length : Int))) (by kernel_rfl) (op_rem (x := x_46) (y := (g.Z.length : Int)) (by kernel_rfl) (by kernel_rfl) hg61) (by kernel_rfl) <| .mu 1 <| .pure (v := aI64 (wrapF .i64 ((x_46.tmod (g.Z.length : Int)).tdiv g.Width))) (by kernel_rfl) (op_quo (x := x_46.tmod (g.Z.length : Int)) (y := g.Width) (by kernel_rfl) (by kernel_rfl) hg62) (by kernel_rfl) <| .mu 8 ?_
        refine .done ⟨by kernel_rfl, ?_⟩
        refine .nh [1, 2, 4, 7, 8, 9, 10, 11, 46, 47] [.own (api_Grid.c g), .own [nS, nS], .own [aI64 (g.Z.length : Int)], .own [.hs 4 0 out_45.length 3, nS], .own (out_45.flatMap api_Spot.c), .own [aI64 (wrapF .i64 (g.X0 + (wrapF .i64 (((x_46.tmod (g.Z.length : Int)).tmod g.Width) * g.Step)))), aI64 (wrapF .i64 (g.Y0 + (wrapF .i64 ((wrapF .i64 ((x_46.tmod (g.Z.length : Int)).tdiv g.Width)) * g.Step)))), aI64 base]] <| .seq <| .seq <| .r4 fine [1, 2, 4, 7, 8, 9, 10, 11, 46, 47] [(76, aB (decide (x_46 < (g.Z.length : Int))))] ?_
        refine .cd hr (fun hb63 hr => ?_) (fun hb63 hr => ?_)
        ·obtain ⟨hg64, hr⟩ := gd hr
         refine .r0 fine <| .mu 3 <| .p0 (v := .pp (g.Z.flatMap (iC .i64)) (x_46.toNat * 1)) (tr (ofP_guard hg64)) <| .p0 (v := aI64 (gt g.Z x_46)) (tr (ofP_some (flat_get (iC_len .i64) (inR_lt hg64) (by decide : 0 < 1) (by omega : x_46.toNat * 1 = x_46.toNat * 1 + 0) (by kernel_rfl)))) <| .mu 2 <| .done <| .nh [1, 2, 4, 7, 8, 9, 11, 46, 47] [.own (api_Grid.c g), .own [nS, nS], .own [aI64 (g.Z.length : Int)], .own [.hs 4 0 out_45.length 3, nS], .own (out_45.flatMap api_Spot.c), .own [aI64 (wrapF .i64 (g.X0 + (wrapF .i64 (((x_46.tmod (g.Z.length : Int)).tmod g.Width) * g.Step)))), aI64 (wrapF .i64 (g.Y0 + (wrapF .i64 ((wrapF .i64 ((x_46.tmod (g.Z.length : Int)).tdiv g.Width)) * g.Step)))), aI64 (gt g.Z x_46)]] ?_
         obtain ⟨hg65, hg66, hr⟩ := gd2 hr
         refine .r0 fine <| .mu 4 <| .e0 (v := .hs 7 0 (out_45 ++ [api_Spot.mk (wrapF .i64 (g.X0 + (wrapF .i64 (((x_46.tmod (g.Z.length : Int)).tmod g.Width) * g.Step)))) (wrapF .i64 (g.Y0 + (wrapF .i64 ((wrapF .i64 ((x_46.tmod (g.Z.length : Int)).tdiv g.Width)) * g.Step)))) (gt g.Z x_46)]).length 3) (ws := [(4, .dead), (7, .own ((out_45 ++ [api_Spot.mk (wrapF .i64 (g.X0 + (wrapF .i64 (((x_46.tmod (g.Z.length : Int)).tmod g.Width) * g.Step)))) (wrapF .i64 (g.Y0 + (wrapF .i64 ((wrapF .i64 ((x_46.tmod (g.Z.length : Int)).tdiv g.Width)) * g.Step)))) (gt g.Z x_46)]).flatMap api_Spot.c))]) (tr (app_own (new := [aI64 (wrapF .i64 (g.X0 + (wrapF .i64 (((x_46.tmod (g.Z.length : Int)).tmod g.Width) * g.Step)))), aI64 (wrapF .i64 (g.Y0 + (wrapF .i64 ((wrapF .i64 ((x_46.tmod (g.Z.length : Int)).tdiv g.Width)) * g.Step)))), aI64 (gt g.Z x_46)]) (l := out_45) (xs := [api_Spot.mk (wrapF .i64 (g.X0 + (wrapF .i64 (((x_46.tmod (g.Z.length : Int)).tmod g.Width) * g.Step)))) (wrapF .i64 (g.Y0 + (wrapF .i64 ((wrapF .i64 ((x_46.tmod (g.Z.length : Int)).tdiv g.Width)) * g.Step)))) (gt g.Z x_46)]) api_Spot.len rfl rfl (by kernel_rfl) hg65 hg66)) <| .mu 2 <| .done <| .pop <| .ru fine ?_
         exact loopF_back (out_45 ++ [api_Spot.mk (wrapF .i64 (g.X0 + (wrapF .i64 (((x_46.tmod (g.Z.length : Int)).tmod g.Width) * g.Step)))) (wrapF .i64 (g.Y0 + (wrapF .i64 ((wrapF .i64 ((x_46.tmod (g.Z.length : Int)).tdiv g.Width)) * g.Step)))) (gt g.Z x_46)], wrapF .i64 (x_46 + 1)) hr ((Wk.gc [1, 2, 4, 7, 8, 9, 46, 47] [(0, true), (1, true), (2, true), (3, true), (7, false)] rfl (pKt (pKt (pKt (pKt (pKo api_Spot.c api_Spot.pure (out_45 ++ [api_Spot.mk (wrapF .i64 (g.X0 + (wrapF .i64 (((x_46.tmod (g.Z.length : Int)).tmod g.Width) * g.Step)))) (wrapF .i64 (g.Y0 + (wrapF .i64 ((wrapF .i64 ((x_46.tmod (g.Z.length : Int)).tdiv g.Width)) * g.Step)))) (gt g.Z x_46)]) trivial)))))).to (by kernel_rfl))
        ·refine .skip ?_
         obtain ⟨hg67, hg68, hr⟩ := gd2 hr
         refine .r0 fine <| .mu 4 <| .e0 (v := .hs 7 0 (out_45 ++ [api_Spot.mk (wrapF .i64 (g.X0 + (wrapF .i64 (((x_46.tmod (g.Z.length : Int)).tmod g.Width) * g.Step)))) (wrapF .i64 (g.Y0 + (wrapF .i64 ((wrapF .i64 ((x_46.tmod (g.Z.length : Int)).tdiv g.Width)) * g.Step)))) base]).length 3) (ws := [(4, .dead), (7, .own ((out_45 ++ [api_Spot.mk (wrapF .i64 (g.X0 + (wrapF .i64 (((x_46.tmod (g.Z.length : Int)).tmod g.Width) * g.Step)))) (wrapF .i64 (g.Y0 + (wrapF .i64 ((wrapF .i64 ((x_46.tmod (g.Z.length : Int)).tdiv g.Width)) * g.Step)))) base]).flatMap api_Spot.c))]) (tr (app_own (new := [aI64 (wrapF .i64 (g.X0 + (wrapF .i64 (((x_46.tmod (g.Z.length : Int)).tmod g.Width) * g.Step)))), aI64 (wrapF .i64 (g.Y0 + (wrapF .i64 ((wrapF .i64 ((x_46.tmod (g.Z.length : Int)).tdiv g.Width)) * g.Step)))), aI64 base]) (l := out_45) (xs := [api_Spot.mk (wrapF .i64 (g.X0 + (wrapF .i64 (((x_46.tmod (g.Z.length : Int)).tmod g.Width) * g.Step)))) (wrapF .i64 (g.Y0 + (wrapF .i64 ((wrapF .i64 ((x_46.tmod (g.Z.length : Int)).tdiv g.Width)) * g.Step)))) base]) api_Spot.len rfl rfl (by kernel_rfl) hg67 hg68)) <| .mu 2 <| .done <| .pop <| .ru fine ?_
         exact loopF_back (out_45 ++ [api_Spot.mk (wrapF .i64 (g.X0 + (wrapF .i64 (((x_46.tmod (g.Z.length : Int)).tmod g.Width) * g.Step)))) (wrapF .i64 (g.Y0 + (wrapF .i64 ((wrapF .i64 ((x_46.tmod (g.Z.length : Int)).tdiv g.Width)) * g.Step)))) base], wrapF .i64 (x_46 + 1)) hr ((Wk.gc [1, 2, 4, 7, 8, 9, 46, 47] [(0, true), (1, true), (2, true), (3, true), (7, false)] rfl (pKt (pKt (pKt (pKt (pKo api_Spot.c api_Spot.pure (out_45 ++ [api_Spot.mk (wrapF .i64 (g.X0 + (wrapF .i64 (((x_46.tmod (g.Z.length : Int)).tmod g.Width) * g.Step)))) (wrapF .i64 (g.Y0 + (wrapF .i64 ((wrapF .i64 ((x_46.tmod (g.Z.length : Int)).tdiv g.Width)) * g.Step)))) base]) trivial)))))).to (by kernel_rfl))
       ·refine .leave rfl ?_
        obtain rfl := oi hr
        exact ⟨rfl, ((Wk.gc [2, 4, 7, 8, 9] [(0, true), (1, true), (2, true), (3, true), (4, false)] rfl (pKt (pKt (pKt (pKt (pKo api_Spot.c api_Spot.pure out_45 trivial)))))).to (by kernel_rfl))⟩
      ·rintro x st' hq71
       clear hL70
       obtain ⟨rfl, hq71⟩ := hq71
       refine CQ_exit _ rfl <| .wk hq71 <| .seq <| .seq ?_
       obtain ⟨v72, hc73, hr⟩ := bd hr
       refine .g1 fine (ok0 (volume_triangles_ok n g v72 hc73)) <| .mu 1 <| .ca cf0 <| .mu 2 <| .done <| .nh [2, 4, 7, 8, 9, 91, 92, 93] [.own (api_Grid.c g), .own [nS, nS], .own [aI64 (g.Z.length : Int)], .own [.hs 4 0 out_57.length 3, nS], .own (out_57.flatMap api_Spot.c)] <| .block ?_
       replace hr := bd hr; obtain ⟨out_98, hL106, hr⟩ := hr
       refine .loopO (σ := fun z0 => match z0 with | (out_91, x_92) => ⟨mkS 171 0 [(2, .hp 0 0), (4, .hp 1 0), (7, aI64 g.Width), (8, .hp 2 0), (9, .hp 3 0), (91, slT A3_3_int.c v72), (92, aI64 (v72.length : Int)), (93, aI64 x_92)], [.own (api_Grid.c g), .own [nS, nS], .own [aI64 (g.Z.length : Int)], .own [.hs 4 0 out_57.length 3, .hs 5 0 out_91.length 3], .own (out_57.flatMap api_Spot.c), .own (out_91.flatMap A3_3_int.c)]⟩) (Q := fun x st' => x = .exit 2 ∧ Wk 0 st' ⟨mkS 171 0 [(2, .hp 0 0), (4, .hp 1 0), (7, aI64 g.Width), (8, .hp 2 0), (9, .hp 3 0)], [.own (api_Grid.c g), .own [nS, nS], .own [aI64 (g.Z.length : Int)], .own [.hs 4 0 out_57.length 3, .hs 5 0 out_98.length 3], .own (out_57.flatMap api_Spot.c), .own (out_98.flatMap A3_3_int.c)]⟩) hL106 ((Wk.nilcell 3 1 3 (cs := [.hs 4 0 out_57.length 3, nS]) (by kernel_rfl) (by kernel_rfl)).trans ((Wk.gc [2, 4, 7, 8, 9, 91, 92, 93] [(0, true), (1, true), (2, true), (3, true), (4, false), (5, false)] rfl (pKt (pKt (pKt (pKt (pKo api_Spot.c api_Spot.pure out_57 (pKc trivial))))))).to (by kernel_rfl))) ?_ ?_
       ·clear hr
        rintro m ⟨out_91, x_92⟩ hr
        show CQ _ _ _ _ _ ⟨_, _⟩
        refine .seq <| .r4 fine [2, 4, 7, 8, 9, 91, 92, 93] [(94, aB (decide (x_92 < (v72.length : Int))))] <| .seq ?_
        refine .cd hr (fun hb101 hr => ?_) (fun hb101 hr => ?_)
        ·refine .skip <| .seq <| .block <| .seq ?_
         obtain ⟨hg102, hr⟩ := gd hr
         refine .r0 fine <| .p0 (v := .pp (v72.flatMap A3_3_int.c) (x_92.toNat * 3)) (tr (ofP_guard hg102)) <| .p0 (v := .agg [aI64 (gt v72 x_92).e0, aI64 (gt v72 x_92).e1, aI64 (gt v72 x_92).e2]) (Eq.trans (b := ORes.ofP (guardV (decide (3 ≤ ((v72.flatMap A3_3_int.c).drop (x_92.toNat * 3)).length)) (.agg (((v72.flatMap A3_3_int.c).drop (x_92.toNat * 3)).take 3)))) (by kernel_rfl) (flat_load A3_3_int.len (inR_lt hg102) (by decide) (by omega : x_92.toNat * 3 = x_92.toNat * 3 + 0) (by kernel_rfl))) <| .mu 2 <| .done <| .nh [2, 4, 7, 8, 9, 13, 91, 92, 93] [.own (api_Grid.c g), .own [nS, nS], .own [aI64 (g.Z.length : Int)], .own [.hs 4 0 out_57.length 3, .hs 5 0 out_91.length 3], .own (out_57.flatMap api_Spot.c), .own (out_91.flatMap A3_3_int.c), .own [aI64 (gt v72 x_92).e0, aI64 (gt v72 x_92).e1, aI64 (gt v72 x_92).e2]] ?_
         obtain ⟨hg103, hg104, hr⟩ := gd2 hr
         refine .r0 fine <| .mu 17 <| .e0 (v := .hs 8 0 (out_91 ++ [(gt v72 x_92), A3.mk (wrapF .i64 ((gt v72 x_92).e0 + (g.Z.length : Int))) (wrapF .i64 ((gt v72 x_92).e2 + (g.Z.length : Int))) (wrapF .i64 ((gt v72 x_92).e1 + (g.Z.length : Int)))]).length 3) (ws := [(5, .dead), (8, .own ((out_91 ++ [(gt v72 x_92), A3.mk (wrapF .i64 ((gt v72 x_92).e0 + (g.Z.length : Int))) (wrapF .i64 ((gt v72 x_92).e2 + (g.Z.length : Int))) (wrapF .i64 ((gt v72 x_92).e1 + (g.Z.length : Int)))]).flatMap A3_3_int.c))]) (tr (app_own (new := [aI64 (gt v72 x_92).e0, aI64 (gt v72 x_92).e1, aI64 (gt v72 x_92).e2, aI64 (wrapF .i64 ((gt v72 x_92).e0 + (g.Z.length : Int))), aI64 (wrapF .i64 ((gt v72 x_92).e2 + (g.Z.length : Int))), aI64 (wrapF .i64 ((gt v72 x_92).e1 + (g.Z.length : Int)))]) (l := out_91) (xs := [(gt v72 x_92), A3.mk (wrapF .i64 ((gt v72 x_92).e0 + (g.Z.length : Int))) (wrapF .i64 ((gt v72 x_92).e2 + (g.Z.length : Int))) (wrapF .i64 ((gt v72 x_92).e1 + (g.Z.length : Int)))]) A3_3_int.len rfl rfl (by kernel_rfl) hg103 hg104)) <| .mu 2 <| .done <| .pop <| .ru fine ?_
         exact loopF_back (out_91 ++ [(gt v72 x_92), A3.mk (wrapF .i64 ((gt v72 x_92).e0 + (g.Z.length : Int))) (wrapF .i64 ((gt v72 x_92).e2 + (g.Z.length : Int))) (wrapF .i64 ((gt v72 x_92).e1 + (g.Z.length : Int)))], wrapF .i64 (x_92 + 1)) hr ((Wk.gc [2, 4, 7, 8, 9, 91, 92, 93] [(0, true), (1, true), (2, true), (3, true), (4, false), (8, false)] rfl (pKt (pKt (pKt (pKt (pKo api_Spot.c api_Spot.pure out_57 (pKo A3_3_int.c A3_3_int.pure (out_91 ++ [(gt v72 x_92), A3.mk (wrapF .i64 ((gt v72 x_92).e0 + (g.Z.length : Int))) (wrapF .i64 ((gt v72 x_92).e2 + (g.Z.length : Int))) (wrapF .i64 ((gt v72 x_92).e1 + (g.Z.length : Int)))]) trivial))))))).to (by kernel_rfl))
        ·refine .leave rfl ?_
         obtain rfl := oi hr
         exact ⟨rfl, ((Wk.gc [2, 4, 7, 8, 9] [(0, true), (1, true), (2, true), (3, true), (4, false), (5, false)] rfl (pKt (pKt (pKt (pKt (pKo api_Spot.c api_Spot.pure out_57 (pKo A3_3_int.c A3_3_int.pure out_91 trivial))))))).to (by kernel_rfl))⟩
       ·rintro x st' hq107
        clear hL106
        obtain ⟨rfl, hq107⟩ := hq107
        refine CQ_exit _ rfl <| .wk hq107 <| .seq <| .r4 fine [2, 4, 7, 8, 9] [(14, .fn 32 [] [.hp 3 0, .hp 2 0])] <| .seq <| .seq <| .r4 fine [2, 4, 7, 8, 9, 14] [(119, aI64 (wrapF .i64 (g.Width - 1))), (120, aI64 0)] <| .block ?_
        replace hr := bd hr; obtain ⟨out_135, hL144, hr⟩ := hr
        refine .loopO (σ := fun z0 => match z0 with | (out_127, x_128) => ⟨mkS 171 0 [(2, .hp 0 0), (4, .hp 1 0), (7, aI64 g.Width), (8, .hp 2 0), (9, .hp 3 0), (14, .fn 32 [] [.hp 3 0, .hp 2 0]), (119, aI64 (wrapF .i64 (g.Width - 1))), (120, aI64 x_128)], [.own (api_Grid.c g), .own [nS, nS], .own [aI64 (g.Z.length : Int)], .own [.hs 4 0 out_57.length 3, .hs 5 0 out_127.length 3], .own (out_57.flatMap api_Spot.c), .own (out_127.flatMap A3_3_int.c)]⟩) (Q := fun x st' => x = .exit 4 ∧ Wk 0 st' ⟨mkS 171 0 [(2, .hp 0 0), (4, .hp 1 0), (7, aI64 g.Width), (9, .hp 2 0), (14, .fn 32 [] [.hp 2 0, .hp 5 0])], [.own (api_Grid.c g), .own [nS, nS], .own [.hs 3 0 out_57.length 3, .hs 4 0 out_135.length 3], .own (out_57.flatMap api_Spot.c), .own (out_135.flatMap A3_3_int.c), .own [aI64 (g.Z.length : Int)]]⟩) hL144 ((Wk.gc [2, 4, 7, 8, 9, 14, 119, 120] [(0, true), (1, true), (2, true), (3, true), (4, false), (5, false)] rfl (pKt (pKt (pKt (pKt (pKo api_Spot.c api_Spot.pure out_57 (pKo A3_3_int.c A3_3_int.pure out_98 trivial))))))).to (by kernel_rfl)) ?_ ?_
        ·clear hr
         rintro m ⟨out_127, x_128⟩ hr
         show CQ _ _ _ _ _ ⟨_, _⟩
         refine .seq <| .r4 fine [2, 4, 7, 8, 9, 14, 119, 120] [(121, aB (decide (x_128 < (wrapF .i64 (g.Width - 1)))))] <| .seq ?_
         refine .cd hr (fun hb138 hr => ?_) (fun hb138 hr => ?_)
         ·refine .skip <| .seq <| .block <| .seq <| .r4 fine [2, 4, 7, 8, 9, 14, 119, 120] [(15, aI64 x_128)] <| .seq ?_
          obtain ⟨v139, hc140, hr⟩ := bd hr
          refine .g1 fine (callOk_mutU (args := [aI64 x_128, aI64 (wrapF .i64 (x_128 + 1)), .hp 3 0, .hp 2 0]) 2 2 [(3, true), (2, true), (4, false), (5, false)] [true, true, false, false] (volume_Solid_1_w_ok n x_128 (wrapF .i64 (x_128 + 1)) out_57 out_127 (g.Z.length : Int) v139 hc140) (by exact ⟨ids_flat api_Spot.pure _, ⟨ids_flat A3_3_int.pure _, trivial⟩⟩) (by exact ⟨ids_flat api_Spot.pure _, ⟨ids_flat A3_3_int.pure _, trivial⟩⟩) rfl rfl (by kernel_rfl) (by kernel_rfl)) <| .mu 4 <| .ca cf0 <| .done <| .nh [2, 4, 7, 8, 9, 14, 15, 119, 120] [.own (api_Grid.c g), .own [nS, nS], .own [aI64 (g.Z.length : Int)], .own [.hs 6 0 out_57.length 3, .hs 7 0 v139.length 3], .dead, .dead, .own (out_57.flatMap api_Spot.c), .own (v139.flatMap A3_3_int.c)] ?_
          obtain ⟨v141, hc142, hr⟩ := bd hr
          refine .g1 fine (callOk_mutU (args := [aI64 (wrapF .i64 ((wrapF .i64 ((g.Z.length : Int) - 1)) - x_128)), aI64 (wrapF .i64 ((wrapF .i64 ((g.Z.length : Int) - 2)) - x_128)), .hp 3 0, .hp 2 0]) 2 2 [(3, true), (2, true), (6, false), (7, false)] [true, true, false, false] (volume_Solid_1_w_ok n (wrapF .i64 ((wrapF .i64 ((g.Z.length : Int) - 1)) - x_128)) (wrapF .i64 ((wrapF .i64 ((g.Z.length : Int) - 2)) - x_128)) out_57 v139 (g.Z.length : Int) v141 hc142) (by exact ⟨ids_flat api_Spot.pure _, ⟨ids_flat A3_3_int.pure _, trivial⟩⟩) (by exact ⟨ids_flat api_Spot.pure _, ⟨ids_flat A3_3_int.pure _, trivial⟩⟩) rfl rfl (by kernel_rfl) (by kernel_rfl)) <| .mu 9 <| .ca cf0 <| .done <| .pop <| .ru fine ?_
          exact loopF_back (v141, wrapF .i64 (x_128 + 1)) hr ((Wk.gc [2, 4, 7, 8, 9, 14, 119, 120] [(0, true), (1, true), (2, true), (3, true), (8, false), (9, false)] rfl (pKt (pKt (pKt (pKt (pKo api_Spot.c api_Spot.pure out_57 (pKo A3_3_int.c A3_3_int.pure v141 trivial))))))).to (by kernel_rfl))
         ·refine .leave rfl ?_
          obtain rfl := oi hr
          exact ⟨rfl, ((Wk.gc [2, 4, 7, 9, 14] [(0, true), (1, true), (3, true), (4, false), (5, false), (2, true)] rfl (pKt (pKt (pKt (pKo api_Spot.c api_Spot.pure out_57 (pKo A3_3_int.c A3_3_int.pure out_127 trivial)))))).to (by kernel_rfl))⟩
        ·rintro x st' hq145
         clear hL144
         obtain ⟨rfl, hq145⟩ := hq145
         refine CQ_exit _ rfl <| .wk hq145 <| .seq <| .seq <| .r4 fine [4, 7, 9, 14] [(141, aI64 (wrapF .i64 (g.Height - 1))), (142, aI64 0)] <| .block ?_
         replace hr := bd hr; obtain ⟨out_154, hL163, hr⟩ := hr
         refine .loopO (σ := fun z0 => match z0 with | (out_146, x_147) => ⟨mkS 171 0 [(4, .hp 0 0), (7, aI64 g.Width), (9, .hp 1 0), (14, .fn 32 [] [.hp 1 0, .hp 4 0]), (141, aI64 (wrapF .i64 (g.Height - 1))), (142, aI64 x_147)], [.own [nS, nS], .own [.hs 2 0 out_57.length 3, .hs 3 0 out_146.length 3], .own (out_57.flatMap api_Spot.c), .own (out_146.flatMap A3_3_int.c), .own [aI64 (g.Z.length : Int)]]⟩) (Q := fun x st' => x = .exit 6 ∧ Wk 0 st' ⟨mkS 171 0 [(4, .hp 0 0), (9, .hp 1 0)], [.own [nS, nS], .own [.hs 2 0 out_57.length 3, .hs 3 0 out_154.length 3], .own (out_57.flatMap api_Spot.c), .own (out_154.flatMap A3_3_int.c)]⟩) hL163 ((Wk.gc [4, 7, 9, 14, 141, 142] [(1, true), (2, true), (3, false), (4, false), (5, true)] rfl (pKt (pKt (pKo api_Spot.c api_Spot.pure out_57 (pKo A3_3_int.c A3_3_int.pure out_135 trivial))))).to (by kernel_rfl)) ?_ ?_
         ·clear hr
          rintro m ⟨out_146, x_147⟩ hr
          show CQ _ _ _ _ _ ⟨_, _⟩
          refine .seq <| .r4 fine [4, 7, 9, 14, 141, 142] [(143, aB (decide (x_147 < (wrapF .i64 (g.Height - 1)))))] <| .seq ?_
          refine .cd hr (fun hb157 hr => ?_) (fun hb157 hr => ?_)
          ·refine .skip <| .seq <| .block <| .seq <| .r4 fine [4, 7, 9, 14, 141, 142] [(16, aI64 x_147)] <| .seq ?_
           obtain ⟨v158, hc159, hr⟩ := bd hr
           refine .g1 fine (callOk_mutU (args := [aI64 (wrapF .i64 ((wrapF .i64 ((wrapF .i64 (x_147 * g.Width)) + g.Width)) - 1)), aI64 (wrapF .i64 ((wrapF .i64 ((wrapF .i64 ((wrapF .i64 (x_147 + 1)) * g.Width)) + g.Width)) - 1)), .hp 1 0, .hp 4 0]) 2 2 [(1, true), (4, true), (2, false), (3, false)] [true, true, false, false] (volume_Solid_1_w_ok n (wrapF .i64 ((wrapF .i64 ((wrapF .i64 (x_147 * g.Width)) + g.Width)) - 1)) (wrapF .i64 ((wrapF .i64 ((wrapF .i64 ((wrapF .i64 (x_147 + 1)) * g.Width)) + g.Width)) - 1)) out_57 out_146 (g.Z.length : Int) v158 hc159) (by exact ⟨ids_flat api_Spot.pure _, ⟨ids_flat A3_3_int.pure _, trivial⟩⟩) (by exact ⟨ids_flat api_Spot.pure _, ⟨ids_flat A3_3_int.pure _, trivial⟩⟩) rfl rfl (by kernel_rfl) (by kernel_rfl)) <| .mu 14 <| .ca cf0 <| .done <| .nh [4, 7, 9, 14, 16, 141, 142] [.own [nS, nS], .own [.hs 5 0 out_57.length 3, .hs 6 0 v158.length 3], .dead, .dead, .own [aI64 (g.Z.length : Int)], .own (out_57.flatMap api_Spot.c), .own (v158.flatMap A3_3_int.c)] ?_
           obtain ⟨v160, hc161, hr⟩ := bd hr
           refine .g1 fine (callOk_mutU (args := [aI64 (wrapF .i64 ((wrapF .i64 (x_147 + 1)) * g.Width)), aI64 (wrapF .i64 (x_147 * g.Width)), .hp 1 0, .hp 4 0]) 2 2 [(1, true), (4, true), (5, false), (6, false)] [true, true, false, false] (volume_Solid_1_w_ok n (wrapF .i64 ((wrapF .i64 (x_147 + 1)) * g.Width)) (wrapF .i64 (x_147 * g.Width)) out_57 v158 (g.Z.length : Int) v160 hc161) (by exact ⟨ids_flat api_Spot.pure _, ⟨ids_flat A3_3_int.pure _, trivial⟩⟩) (by exact ⟨ids_flat api_Spot.pure _, ⟨ids_flat A3_3_int.pure _, trivial⟩⟩) rfl rfl (by kernel_rfl) (by kernel_rfl)) <| .mu 8 <| .ca cf0 <| .done <| .pop <| .ru fine ?_
           exact loopF_back (v160, wrapF .i64 (x_147 + 1)) hr ((Wk.gc [4, 7, 9, 14, 141, 142] [(0, true), (1, true), (7, false), (8, false), (4, true)] rfl (pKt (pKt (pKo api_Spot.c api_Spot.pure out_57 (pKo A3_3_int.c A3_3_int.pure v160 trivial))))).to (by kernel_rfl))
          ·refine .leave rfl ?_
           obtain rfl := oi hr
           exact ⟨rfl, ((Wk.gc [4, 9] [(0, true), (1, true), (2, false), (3, false)] rfl (pKt (pKt (pKo api_Spot.c api_Spot.pure out_57 (pKo A3_3_int.c A3_3_int.pure out_146 trivial))))).to (by kernel_rfl))⟩
         ·rintro x st' hq164
          clear hL163
          obtain ⟨rfl, hq164⟩ := hq164
          refine CQ_exit _ rfl <| .wk hq164 <| .seq <| .r5 fine [4] [(5, aI64 0)] [.own [.hs 2 0 out_57.length 3, .hs 3 0 out_154.length 3], .own [.hs 2 0 out_57.length 3, .hs 3 0 out_154.length 3], .own (out_57.flatMap api_Spot.c), .own (out_154.flatMap A3_3_int.c)] <| .ret ?_
          obtain rfl := oi hr
          exact FinQ.ret (vs := [.agg [.hs 2 0 out_57.length 3, .hs 3 0 out_154.length 3], aI64 0]) (by kernel_rfl) (Sn.tup (SnL.cons (Sn.agg (SnL.cons (Sn.hs rfl (.inl rfl) (SnC.pure (ids_flat api_Spot.pure _)) (fun h => flat_nil0 h)) (SnL.cons (Sn.hs rfl (.inl rfl) (SnC.pure (ids_flat A3_3_int.pure _)) (fun h => flat_nil0 h)) SnL.nil))) (SnL.cons (Sn.pure rfl) SnL.nil)))

theorem fiducialref01_Compare_ok (n : Nat) (x' : api_Int) (y : api_Int) (r : Int) (hr : fiducialref01_Compare n x' y = some r) : FnOk Tryz.prog 124 [.agg (api_Int.c x'), .agg (api_Int.c y)] (aI64 r) := by
 unfold fiducialref01_Compare at hr
 refine FnOk.bd fine Tryz.func124 [.tmp 4] ?_
 unfold Tryz.f124
 simp only [Option.getD_some]
 refine .seq <| .r2 fine 9 [(2, .hp 0 0), (3, .hp 1 0)] [.own (api_Int.c x'), .own (api_Int.c y)] <| .seq ?_
 obtain ⟨v1, hc2, v3, hc4, hr⟩ := bd2 hr
 refine .gn fine (ca1 (ok0 (fiducialref01_Sub_ok n x' y v1 hc2)) (ca3 (ok0 (fiducialref01_Sign_ok n v1 v3 hc4)))) <| .mu 2 <| .ca cf0 <| .ca (cfF cf0) <| .mu 1 <| .done <| .ret ?_
 obtain rfl := oi hr
 exact FinQ.r1 [aI64 v3]

theorem fiducialref02_Valid_inj {x' : api_Rat} {x'_ : api_Rat} (h : ([.agg [.at (.bool x'.Num.Negative), slT (iC .u32) x'.Num.Groups, .at (.bool x'.Den.Negative), slT (iC .u32) x'.Den.Groups]] : List AV) = [.agg [.at (.bool x'_.Num.Negative), slT (iC .u32) x'_.Num.Groups, .at (.bool x'_.Den.Negative), slT (iC .u32) x'_.Den.Groups]]) : x' = x'_ := by
 obtain ⟨⟨_, _⟩, ⟨_, _⟩⟩ := x'
 obtain ⟨⟨_, _⟩, ⟨_, _⟩⟩ := x'_
 simp only [List.cons.injEq, AV.agg.injEq, AV.at.injEq, Value.int.injEq, Value.bool.injEq, AV.fn.injEq, AV.pp.injEq, true_and, and_true, slT_inj_int] at h
 simp_all
theorem fiducialref02_Valid_cg (n : Nat) {x' : api_Rat} {x'_ : api_Rat} (h : ([.agg [.at (.bool x'.Num.Negative), slT (iC .u32) x'.Num.Groups, .at (.bool x'.Den.Negative), slT (iC .u32) x'.Den.Groups]] : List AV) = [.agg [.at (.bool x'_.Num.Negative), slT (iC .u32) x'_.Num.Groups, .at (.bool x'_.Den.Negative), slT (iC .u32) x'_.Den.Groups]]) : fiducialref02_Valid n x' = fiducialref02_Valid n x'_ := by
 obtain rfl := fiducialref02_Valid_inj h
 rfl
theorem fiducialref02_Valid_ok (n : Nat) (x' : api_Rat) (r : Bool) (hr : fiducialref02_Valid n x' = some r) : FnOk Tryz.prog 86 [.agg (api_Rat.c x')] (aB r) := by
 unfold fiducialref02_Valid at hr
 refine FnOk.bd fine Tryz.func86 [.tmp 2] ?_
 unfold Tryz.f86
 simp only [Option.getD_some]
 refine .seq <| .r2 fine 27 [(1, .hp 0 0)] [.own (api_Rat.c x')] <| .seq <| .seq ?_
 obtain ⟨v1, hc2, hr⟩ := bd hr
 rcases Bool.eq_false_or_eq_true (!v1) with hb3 | hb3
 ·replace hr := cd_t hb3 hr
  refine .g1 fine (ok0 (fiducialref01_Valid_ok n x'.Num v1 hc2)) <| .mu 2 <| .ca cf0 <| .p0 (v := aB true) (eB hb3) <| .mu 12 <| .done <| .nh [1, 18] [.own (api_Rat.c x')] <| .cT (by kernel_rfl) <| .seq <| .ru fine <| .ret ?_
  obtain rfl := oi hr
  exact FinQ.r1 [aB false]
 ·replace hr := cd_f hb3 hr
  obtain ⟨v4, hc5, hr⟩ := bd hr
  rcases Bool.eq_false_or_eq_true (!v4) with hb6 | hb6
  ·replace hr := cd_t hb6 hr
   refine .gn fine (ca1 (ok0 (fiducialref01_Valid_ok n x'.Num v1 hc2)) (ca3 (ok0 (fiducialref01_Valid_ok n x'.Den v4 hc5)))) <| .mu 2 <| .ca cf0 <| .p0 (v := aB false) (eB hb3) <| .mu 3 <| .ca (cfA (fun h => by rw [sv hc5 hc2 (fiducialref01_Valid_cg n h)]) cf0) <| .pure (v := aB true) (by kernel_rfl) (eB hb6) <| .mu 7 <| .done <| .nh [1, 18] [.own (api_Rat.c x')] <| .cT (by kernel_rfl) <| .seq <| .ru fine <| .ret ?_
   obtain rfl := oi hr
   exact FinQ.r1 [aB false]
  ·replace hr := cd_f hb6 hr
   obtain ⟨v7, hc8, hr⟩ := bd hr
   refine .gn fine (ca1 (ok0 (fiducialref01_Valid_ok n x'.Num v1 hc2)) (ca1 (ok0 (fiducialref01_Valid_ok n x'.Den v4 hc5)) (ca3 (ok0 (fiducialref01_Sign_ok n x'.Den v7 hc8))))) <| .mu 2 <| .ca cf0 <| .p0 (v := aB false) (eB hb3) <| .mu 3 <| .ca (cfA (fun h => by rw [sv hc5 hc2 (fiducialref01_Valid_cg n h)]) cf0) <| .pure (v := aB false) (by kernel_rfl) (eB hb6) <| .mu 4 <| .ca (cfF (cfF cf0)) <| .mu 2 <| .done <| .nh [1, 18] [.own (api_Rat.c x')] ?_
   refine .cd hr (fun hb9 hr => ?_) (fun hb9 hr => ?_)
   ·refine .seq <| .ru fine <| .ret ?_
    obtain rfl := oi hr
    exact FinQ.r1 [aB false]
   ·refine .skip <| .seq ?_
    obtain ⟨v10, hc11, v12, hc13, v14, hc15, hr⟩ := bd3 hr
    refine .gn fine (ca1 (ok0 (fiducialref01_Gcd_ok n x'.Num x'.Den v10 hc11)) (ca1 (ok0 (fiducialref02_whole_ok n 1 v12 hc13)) (ca3 (ok0 (fiducialref01_Compare_ok n v10 v12 v14 hc15))))) <| .mu 4 <| .ca cf0 <| .ca (cfF cf0) <| .ca (cfF (cfF cf0)) <| .mu 2 <| .done <| .ret ?_
    obtain rfl := oi hr
    exact FinQ.r1 [aB ((v14 : Int) == 0)]

theorem fiducialref02_Value_inj {x' : api_Rat} {x'_ : api_Rat} (h : ([.agg [.at (.bool x'.Num.Negative), slT (iC .u32) x'.Num.Groups, .at (.bool x'.Den.Negative), slT (iC .u32) x'.Den.Groups]] : List AV) = [.agg [.at (.bool x'_.Num.Negative), slT (iC .u32) x'_.Num.Groups, .at (.bool x'_.Den.Negative), slT (iC .u32) x'_.Den.Groups]]) : x' = x'_ := by
 obtain ⟨⟨_, _⟩, ⟨_, _⟩⟩ := x'
 obtain ⟨⟨_, _⟩, ⟨_, _⟩⟩ := x'_
 simp only [List.cons.injEq, AV.agg.injEq, AV.at.injEq, Value.int.injEq, Value.bool.injEq, AV.fn.injEq, AV.pp.injEq, true_and, and_true, slT_inj_int] at h
 simp_all
theorem fiducialref02_Value_cg (n : Nat) {x' : api_Rat} {x'_ : api_Rat} (h : ([.agg [.at (.bool x'.Num.Negative), slT (iC .u32) x'.Num.Groups, .at (.bool x'.Den.Negative), slT (iC .u32) x'.Den.Groups]] : List AV) = [.agg [.at (.bool x'_.Num.Negative), slT (iC .u32) x'_.Num.Groups, .at (.bool x'_.Den.Negative), slT (iC .u32) x'_.Den.Groups]]) : fiducialref02_Value n x' = fiducialref02_Value n x'_ := by
 obtain rfl := fiducialref02_Value_inj h
 rfl
theorem fiducialref02_Value_ok (n : Nat) (x' : api_Rat) (r : api_Rat) (hr : fiducialref02_Value n x' = some r) : FnOk Tryz.prog 49 [.agg (api_Rat.c x')] (.agg (api_Rat.c r)) := by
 unfold fiducialref02_Value at hr
 refine FnOk.bd fine Tryz.func49 [.cell 2 44] ?_
 unfold Tryz.f49
 simp only [Option.getD_some]
 refine .seq <| .r2 fine 7 [(1, .hp 0 0), (2, .hp 1 0)] [.own (api_Rat.c x'), .own [aB false, nS, aB false, nS]] <| .seq <| .seq ?_
 obtain ⟨v1, hc2, hr⟩ := bd hr
 refine .g1 fine (ok0 (fiducialref02_Valid_ok n x' v1 hc2)) <| .mu 1 <| .ca cf0 <| .done <| .nh [1, 2, 4] [.own (api_Rat.c x'), .own [aB false, nS, aB false, nS]] ?_
 refine .cd hr (fun hb3 hr => ?_) (fun hb3 hr => ?_)
 ·refine .seq <| .r5 fine [2] [] [.own (api_Rat.c x'), .own (api_Rat.c x')] <| .ret ?_
  obtain rfl := oi hr
  exact FinQ.r1 [.agg (api_Rat.c x')]
 ·refine .skip <| .seq ?_
  obtain ⟨v4, hc5, hr⟩ := bd hr
  refine .g1 fine (ok0 (fiducialref02_Whole_ok n 0 v4 hc5)) <| .ca cf0 <| .mu 1 <| .done <| .nh [2] [.own (api_Rat.c x'), .own (api_Rat.c v4)] <| .ret ?_
  obtain rfl := oi hr
  exact FinQ.r1 [.agg (api_Rat.c v4)]

theorem fiducialref02_Neg_inj {x' : api_Rat} {x'_ : api_Rat} (h : ([.agg [.at (.bool x'.Num.Negative), slT (iC .u32) x'.Num.Groups, .at (.bool x'.Den.Negative), slT (iC .u32) x'.Den.Groups]] : List AV) = [.agg [.at (.bool x'_.Num.Negative), slT (iC .u32) x'_.Num.Groups, .at (.bool x'_.Den.Negative), slT (iC .u32) x'_.Den.Groups]]) : x' = x'_ := by
 obtain ⟨⟨_, _⟩, ⟨_, _⟩⟩ := x'
 obtain ⟨⟨_, _⟩, ⟨_, _⟩⟩ := x'_
 simp only [List.cons.injEq, AV.agg.injEq, AV.at.injEq, Value.int.injEq, Value.bool.injEq, AV.fn.injEq, AV.pp.injEq, true_and, and_true, slT_inj_int] at h
 simp_all
theorem fiducialref02_Neg_cg (n : Nat) {x' : api_Rat} {x'_ : api_Rat} (h : ([.agg [.at (.bool x'.Num.Negative), slT (iC .u32) x'.Num.Groups, .at (.bool x'.Den.Negative), slT (iC .u32) x'.Den.Groups]] : List AV) = [.agg [.at (.bool x'_.Num.Negative), slT (iC .u32) x'_.Num.Groups, .at (.bool x'_.Den.Negative), slT (iC .u32) x'_.Den.Groups]]) : fiducialref02_Neg n x' = fiducialref02_Neg n x'_ := by
 obtain rfl := fiducialref02_Neg_inj h
 rfl
theorem fiducialref02_Neg_ok (n : Nat) (x' : api_Rat) (r : api_Rat) (hr : fiducialref02_Neg n x' = some r) : FnOk Tryz.prog 15 [.agg (api_Rat.c x')] (.agg (api_Rat.c r)) := by
 unfold fiducialref02_Neg at hr
 refine FnOk.bd fine Tryz.func15 [.cell 2 44] ?_
 unfold Tryz.f15
 simp only [Option.getD_some]
 refine .seq <| .r2 fine 12 [(1, .hp 0 0), (2, .hp 1 0)] [.own (api_Rat.c x'), .own [aB false, nS, aB false, nS]] <| .seq ?_
 obtain ⟨v1, hc2, hr⟩ := bd hr
 refine .g1 fine (ok0 (fiducialref02_Value_ok n x' v1 hc2)) <| .mu 1 <| .ca cf0 <| .mu 2 <| .done <| .nh [2, 3] [.own (api_Rat.c x'), .own [aB false, nS, aB false, nS], .own (api_Rat.c v1)] <| .seq ?_
 obtain ⟨v3, hc4, hr⟩ := bd hr
 refine .t1 fine (ok0 (fiducialref01_Neg_ok n v1.Num v3 hc4)) <| .mu 2 <| .ca cf0 <| .mu 4 ?_
 refine .done ⟨by kernel_rfl, ?_⟩
 refine .nh [2] [.own (api_Rat.c x'), .own [aB v3.Negative, sU32 v3.Groups, aB v1.Den.Negative, sU32 v1.Den.Groups], .own (api_Rat.c v1)] <| .ret ?_
 obtain rfl := oi hr
 exact FinQ.r1 [.agg [aB v3.Negative, sU32 v3.Groups, aB v1.Den.Negative, sU32 v1.Den.Groups]]

theorem fiducialref02_Add_inj {x' : api_Rat} {y : api_Rat} {x'_ : api_Rat} {y_ : api_Rat} (h : ([.agg [.at (.bool x'.Num.Negative), slT (iC .u32) x'.Num.Groups, .at (.bool x'.Den.Negative), slT (iC .u32) x'.Den.Groups], .agg [.at (.bool y.Num.Negative), slT (iC .u32) y.Num.Groups, .at (.bool y.Den.Negative), slT (iC .u32) y.Den.Groups]] : List AV) = [.agg [.at (.bool x'_.Num.Negative), slT (iC .u32) x'_.Num.Groups, .at (.bool x'_.Den.Negative), slT (iC .u32) x'_.Den.Groups], .agg [.at (.bool y_.Num.Negative), slT (iC .u32) y_.Num.Groups, .at (.bool y_.Den.Negative), slT (iC .u32) y_.Den.Groups]]) : x' = x'_ ∧ y = y_ := by
 obtain ⟨⟨_, _⟩, ⟨_, _⟩⟩ := x'
 obtain ⟨⟨_, _⟩, ⟨_, _⟩⟩ := x'_
 obtain ⟨⟨_, _⟩, ⟨_, _⟩⟩ := y
 obtain ⟨⟨_, _⟩, ⟨_, _⟩⟩ := y_
 simp only [List.cons.injEq, AV.agg.injEq, AV.at.injEq, Value.int.injEq, Value.bool.injEq, AV.fn.injEq, AV.pp.injEq, true_and, and_true, slT_inj_int] at h
 simp_all
theorem fiducialref02_Add_cg (n : Nat) {x' : api_Rat} {y : api_Rat} {x'_ : api_Rat} {y_ : api_Rat} (h : ([.agg [.at (.bool x'.Num.Negative), slT (iC .u32) x'.Num.Groups, .at (.bool x'.Den.Negative), slT (iC .u32) x'.Den.Groups], .agg [.at (.bool y.Num.Negative), slT (iC .u32) y.Num.Groups, .at (.bool y.Den.Negative), slT (iC .u32) y.Den.Groups]] : List AV) = [.agg [.at (.bool x'_.Num.Negative), slT (iC .u32) x'_.Num.Groups, .at (.bool x'_.Den.Negative), slT (iC .u32) x'_.Den.Groups], .agg [.at (.bool y_.Num.Negative), slT (iC .u32) y_.Num.Groups, .at (.bool y_.Den.Negative), slT (iC .u32) y_.Den.Groups]]) : fiducialref02_Add n x' y = fiducialref02_Add n x'_ y_ := by
 obtain ⟨rfl, rfl⟩ := fiducialref02_Add_inj h
 rfl
theorem fiducialref02_Add_ok (n : Nat) (x' : api_Rat) (y : api_Rat) (r : api_Rat) (hr : fiducialref02_Add n x' y = some r) : FnOk Tryz.prog 51 [.agg (api_Rat.c x'), .agg (api_Rat.c y)] (.agg (api_Rat.c r)) := by
 unfold fiducialref02_Add at hr
 refine FnOk.bd fine Tryz.func51 [.cell 4 44] ?_
 unfold Tryz.f51
 simp only [Option.getD_some]
 refine .seq <| .r2 fine 28 [(2, .hp 0 0), (3, .hp 1 0), (4, .hp 2 0)] [.own (api_Rat.c x'), .own (api_Rat.c y), .own [aB false, nS, aB false, nS]] <| .seq ?_
 obtain ⟨v1, hc2, hr⟩ := bd hr
 refine .g1 fine (ok0 (fiducialref02_Value_ok n x' v1 hc2)) <| .mu 1 <| .ca cf0 <| .mu 2 <| .done <| .nh [3, 4, 5] [.own (api_Rat.c x'), .own (api_Rat.c y), .own [aB false, nS, aB false, nS], .own (api_Rat.c v1)] <| .seq ?_
 obtain ⟨v3, hc4, hr⟩ := bd hr
 refine .g1 fine (ok0 (fiducialref02_Value_ok n y v3 hc4)) <| .mu 1 <| .ca cf0 <| .mu 2 <| .done <| .nh [4, 5, 6] [.own (api_Rat.c x'), .own (api_Rat.c y), .own [aB false, nS, aB false, nS], .own (api_Rat.c v1), .own (api_Rat.c v3)] <| .seq ?_
 obtain ⟨v5, hc6, v7, hc8, v9, hc10, hr⟩ := bd3 hr
 obtain ⟨v11, hc12, v13, hc14, hr⟩ := bd2 hr
 refine .tn fine (ca1 (ok0 (fiducialref01_Mul_ok n v1.Num v3.Den v5 hc6)) (ca1 (ok0 (fiducialref01_Mul_ok n v3.Num v1.Den v7 hc8)) (ca1 (ok0 (fiducialref01_Add_ok n v5 v7 v9 hc10)) (ca1 (ok0 (fiducialref01_Mul_ok n v1.Den v3.Den v11 hc12)) (ca3 (ok0 (fiducialref02_reduced_ok n v9 v11 v13 hc14))))))) <| .mu 4 <| .ca cf0 <| .mu 4 <| .ca (cfA (fun h => by rw [sv hc8 hc6 (fiducialref01_Mul_cg n h)]) cf0) <| .ca (cfF (cfF cf0)) <| .mu 4 <| .ca (cfA (fun h => by rw [sv hc12 hc6 (fiducialref01_Mul_cg n h)]) (cfA (fun h => by rw [sv hc12 hc8 (fiducialref01_Mul_cg n h)]) (cfF cf0))) <| .ca (cfF (cfF (cfF (cfF cf0)))) <| .mu 1 ?_
 refine .done ⟨by kernel_rfl, ?_⟩
 refine .nh [4] [.own (api_Rat.c x'), .own (api_Rat.c y), .own (api_Rat.c v13), .own (api_Rat.c v1), .own (api_Rat.c v3)] <| .ret ?_
 obtain rfl := oi hr
 exact FinQ.r1 [.agg (api_Rat.c v13)]

theorem fiducialref02_Sub_ok (n : Nat) (x' : api_Rat) (y : api_Rat) (r : api_Rat) (hr : fiducialref02_Sub n x' y = some r) : FnOk Tryz.prog 130 [.agg (api_Rat.c x'), .agg (api_Rat.c y)] (.agg (api_Rat.c r)) := by
 unfold fiducialref02_Sub at hr
 refine FnOk.bd fine Tryz.func130 [.cell 4 44] ?_
 unfold Tryz.f130
 simp only [Option.getD_some]
 refine .seq <| .r2 fine 9 [(2, .hp 0 0), (3, .hp 1 0), (4, .hp 2 0)] [.own (api_Rat.c x'), .own (api_Rat.c y), .own [aB false, nS, aB false, nS]] <| .seq ?_
 obtain ⟨v1, hc2, v3, hc4, hr⟩ := bd2 hr
 refine .tn fine (ca1 (ok0 (fiducialref02_Neg_ok n y v1 hc2)) (ca3 (ok0 (fiducialref02_Add_ok n x' v1 v3 hc4)))) <| .mu 2 <| .ca cf0 <| .ca (cfF cf0) <| .mu 1 ?_
 refine .done ⟨by kernel_rfl, ?_⟩
 refine .nh [4] [.own (api_Rat.c x'), .own (api_Rat.c y), .own (api_Rat.c v3)] <| .ret ?_
 obtain rfl := oi hr
 exact FinQ.r1 [.agg (api_Rat.c v3)]

theorem fiducialref02_Sign_inj {x' : api_Rat} {x'_ : api_Rat} (h : ([.agg [.at (.bool x'.Num.Negative), slT (iC .u32) x'.Num.Groups, .at (.bool x'.Den.Negative), slT (iC .u32) x'.Den.Groups]] : List AV) = [.agg [.at (.bool x'_.Num.Negative), slT (iC .u32) x'_.Num.Groups, .at (.bool x'_.Den.Negative), slT (iC .u32) x'_.Den.Groups]]) : x' = x'_ := by
 obtain ⟨⟨_, _⟩, ⟨_, _⟩⟩ := x'
 obtain ⟨⟨_, _⟩, ⟨_, _⟩⟩ := x'_
 simp only [List.cons.injEq, AV.agg.injEq, AV.at.injEq, Value.int.injEq, Value.bool.injEq, AV.fn.injEq, AV.pp.injEq, true_and, and_true, slT_inj_int] at h
 simp_all
theorem fiducialref02_Sign_cg (n : Nat) {x' : api_Rat} {x'_ : api_Rat} (h : ([.agg [.at (.bool x'.Num.Negative), slT (iC .u32) x'.Num.Groups, .at (.bool x'.Den.Negative), slT (iC .u32) x'.Den.Groups]] : List AV) = [.agg [.at (.bool x'_.Num.Negative), slT (iC .u32) x'_.Num.Groups, .at (.bool x'_.Den.Negative), slT (iC .u32) x'_.Den.Groups]]) : fiducialref02_Sign n x' = fiducialref02_Sign n x'_ := by
 obtain rfl := fiducialref02_Sign_inj h
 rfl
theorem fiducialref02_Sign_ok (n : Nat) (x' : api_Rat) (r : Int) (hr : fiducialref02_Sign n x' = some r) : FnOk Tryz.prog 17 [.agg (api_Rat.c x')] (aI64 r) := by
 unfold fiducialref02_Sign at hr
 refine FnOk.bd fine Tryz.func17 [.tmp 2] ?_
 unfold Tryz.f17
 simp only [Option.getD_some]
 refine .seq <| .r2 fine 7 [(1, .hp 0 0)] [.own (api_Rat.c x')] <| .seq ?_
 obtain ⟨v1, hc2, v3, hc4, hr⟩ := bd2 hr
 refine .gn fine (ca1 (ok0 (fiducialref02_Value_ok n x' v1 hc2)) (ca3 (ok0 (fiducialref01_Sign_ok n v1.Num v3 hc4)))) <| .mu 1 <| .ca cf0 <| .mu 1 <| .ca (cfF cf0) <| .mu 1 <| .done <| .ret ?_
 obtain rfl := oi hr
 exact FinQ.r1 [aI64 v3]

theorem fiducialref02_Compare_ok (n : Nat) (x' : api_Rat) (y : api_Rat) (r : Int) (hr : fiducialref02_Compare n x' y = some r) : FnOk Tryz.prog 93 [.agg (api_Rat.c x'), .agg (api_Rat.c y)] (aI64 r) := by
 unfold fiducialref02_Compare at hr
 refine FnOk.bd fine Tryz.func93 [.tmp 4] ?_
 unfold Tryz.f93
 simp only [Option.getD_some]
 refine .seq <| .r2 fine 9 [(2, .hp 0 0), (3, .hp 1 0)] [.own (api_Rat.c x'), .own (api_Rat.c y)] <| .seq ?_
 obtain ⟨v1, hc2, v3, hc4, hr⟩ := bd2 hr
 refine .gn fine (ca1 (ok0 (fiducialref02_Sub_ok n x' y v1 hc2)) (ca3 (ok0 (fiducialref02_Sign_ok n v1 v3 hc4)))) <| .mu 2 <| .ca cf0 <| .ca (cfF cf0) <| .mu 1 <| .done <| .ret ?_
 obtain rfl := oi hr
 exact FinQ.r1 [aI64 v3]

theorem fiducialref02_Same_ok (n : Nat) (x' : api_Rat) (y : api_Rat) (r : Bool) (hr : fiducialref02_Same n x' y = some r) : FnOk Tryz.prog 55 [.agg (api_Rat.c x'), .agg (api_Rat.c y)] (aB r) := by
 unfold fiducialref02_Same at hr
 refine FnOk.bd fine Tryz.func55 [.tmp 4] ?_
 unfold Tryz.f55
 simp only [Option.getD_some]
 refine .seq <| .r2 fine 17 [(2, .hp 0 0), (3, .hp 1 0)] [.own (api_Rat.c x'), .own (api_Rat.c y)] <| .seq ?_
 obtain ⟨v1, hc2, hr⟩ := bd hr
 rcases Bool.eq_false_or_eq_true v1 with hb3 | hb3
 ·subst hb3
  replace hr := cd_t rfl hr
  obtain ⟨v4, hc5, hr⟩ := bd hr
  rcases Bool.eq_false_or_eq_true v4 with hb6 | hb6
  ·subst hb6
   replace hr := cd_t rfl hr
   obtain ⟨v7, hc8, hr⟩ := bd hr
   refine .gn fine (ca1 (ok0 (fiducialref02_Valid_ok n x' true hc2)) (ca1 (ok0 (fiducialref02_Valid_ok n y true hc5)) (ca3 (ok0 (fiducialref02_Compare_ok n x' y v7 hc8))))) <| .mu 1 <| .ca cf0 <| .mu 2 <| .ca (cfA (fun h => by rw [sv hc5 hc2 (fiducialref02_Valid_cg n h)]) cf0) <| .mu 4 <| .ca (cfF (cfF cf0)) <| .mu 3 <| .done <| .ret ?_
   obtain rfl := oi hr
   exact FinQ.r1 [aB ((v7 : Int) == 0)]
  ·subst hb6
   replace hr := cd_f rfl hr
   refine .gn fine (ca1 (ok0 (fiducialref02_Valid_ok n x' true hc2)) (ca3 (ok0 (fiducialref02_Valid_ok n y false hc5)))) <| .mu 1 <| .ca cf0 <| .mu 2 <| .ca (cfA (fun h => by rw [sv hc5 hc2 (fiducialref02_Valid_cg n h)]) cf0) <| .mu 8 <| .done <| .ret ?_
   obtain rfl := oi hr
   exact FinQ.r1 [aB false]
 ·subst hb3
  replace hr := cd_f rfl hr
  refine .g1 fine (ok0 (fiducialref02_Valid_ok n x' false hc2)) <| .mu 1 <| .ca cf0 <| .mu 11 <| .done <| .ret ?_
  obtain rfl := oi hr
  exact FinQ.r1 [aB false]

theorem fiducialref02_SameRat_inj {x' : api_Rat} {y : api_Rat} {x'_ : api_Rat} {y_ : api_Rat} (h : ([.agg [.at (.bool x'.Num.Negative), slT (iC .u32) x'.Num.Groups, .at (.bool x'.Den.Negative), slT (iC .u32) x'.Den.Groups], .agg [.at (.bool y.Num.Negative), slT (iC .u32) y.Num.Groups, .at (.bool y.Den.Negative), slT (iC .u32) y.Den.Groups]] : List AV) = [.agg [.at (.bool x'_.Num.Negative), slT (iC .u32) x'_.Num.Groups, .at (.bool x'_.Den.Negative), slT (iC .u32) x'_.Den.Groups], .agg [.at (.bool y_.Num.Negative), slT (iC .u32) y_.Num.Groups, .at (.bool y_.Den.Negative), slT (iC .u32) y_.Den.Groups]]) : x' = x'_ ∧ y = y_ := by
 obtain ⟨⟨_, _⟩, ⟨_, _⟩⟩ := x'
 obtain ⟨⟨_, _⟩, ⟨_, _⟩⟩ := x'_
 obtain ⟨⟨_, _⟩, ⟨_, _⟩⟩ := y
 obtain ⟨⟨_, _⟩, ⟨_, _⟩⟩ := y_
 simp only [List.cons.injEq, AV.agg.injEq, AV.at.injEq, Value.int.injEq, Value.bool.injEq, AV.fn.injEq, AV.pp.injEq, true_and, and_true, slT_inj_int] at h
 simp_all
theorem fiducialref02_SameRat_cg (n : Nat) {x' : api_Rat} {y : api_Rat} {x'_ : api_Rat} {y_ : api_Rat} (h : ([.agg [.at (.bool x'.Num.Negative), slT (iC .u32) x'.Num.Groups, .at (.bool x'.Den.Negative), slT (iC .u32) x'.Den.Groups], .agg [.at (.bool y.Num.Negative), slT (iC .u32) y.Num.Groups, .at (.bool y.Den.Negative), slT (iC .u32) y.Den.Groups]] : List AV) = [.agg [.at (.bool x'_.Num.Negative), slT (iC .u32) x'_.Num.Groups, .at (.bool x'_.Den.Negative), slT (iC .u32) x'_.Den.Groups], .agg [.at (.bool y_.Num.Negative), slT (iC .u32) y_.Num.Groups, .at (.bool y_.Den.Negative), slT (iC .u32) y_.Den.Groups]]) : fiducialref02_SameRat n x' y = fiducialref02_SameRat n x'_ y_ := by
 obtain ⟨rfl, rfl⟩ := fiducialref02_SameRat_inj h
 rfl
theorem fiducialref02_SameRat_ok (n : Nat) (x' : api_Rat) (y : api_Rat) (r : Bool) (hr : fiducialref02_SameRat n x' y = some r) : FnOk Tryz.prog 16 [.agg (api_Rat.c x'), .agg (api_Rat.c y)] (aB r) := by
 unfold fiducialref02_SameRat at hr
 refine FnOk.bd fine Tryz.func16 [.tmp 4] ?_
 unfold Tryz.f16
 simp only [Option.getD_some]
 refine .seq <| .r2 fine 8 [(2, .hp 0 0), (3, .hp 1 0)] [.own (api_Rat.c x'), .own (api_Rat.c y)] <| .seq ?_
 obtain ⟨v1, hc2, hr⟩ := bd hr
 refine .g1 fine (ok0 (fiducialref02_Same_ok n x' y v1 hc2)) <| .mu 2 <| .ca cf0 <| .mu 1 <| .done <| .ret ?_
 obtain rfl := oi hr
 exact FinQ.r1 [aB v1]

theorem fiduciallaw52_known_ok (n : Nat) (r : Bool) (hr : fiduciallaw52_known n = some r) : FnOk Tryz.prog 6 [] (aB r) := by
 unfold fiduciallaw52_known at hr
 refine FnOk.bd fine Tryz.func6 [.tmp 0] ?_
 unfold Tryz.f6
 simp only [Option.getD_some]
 refine .seq <| .r3 fine 84 [] <| .seq ?_
 obtain ⟨v1, hc2, v3, hc4, v5, hc6, hr⟩ := bd3 hr
 obtain ⟨v7, hc8, hr⟩ := bd hr
 refine .gn fine (ca1 (ok0 (fiducialref02_Int_ok n 2 v1 hc2)) (ca1 (ok0 (fiducialref02_Int_ok n (-1) v3 hc4)) (ca1 (ok0 (fiducialref02_Int_ok n (-1) v5 hc6)) (ca3 (ok0 (volume_Triangle_ok n v1 v3 v5 v7 hc8)))))) <| .ca cf0 <| .ca (cfA (fun h => by rw [sv hc4 hc2 (fiducialref02_Int_cg n h)]) cf0) <| .ca (cfA (fun h => by rw [sv hc6 hc2 (fiducialref02_Int_cg n h)]) (cfA (fun h => by rw [sv hc6 hc4 (fiducialref02_Int_cg n h)]) cf0)) <| .ca (cfF (cfF (cfF cf0))) <| .mu 7 <| .done <| .nh [1, 2] [.own (api_Rat.c v7.1), .own (api_Rat.c v7.2)] <| .seq <| .r5 fine [1, 2] [(3, .hp 3 0)] [.own (api_Rat.c v7.1), .own (api_Rat.c v7.2), .own [aI64 3, aI64 0, aI64 0, aI64 0], .own [aI64 0, aI64 0, aI64 10, aI64 2, aI64 2, .hs 2 0 4 1]] <| .seq ?_
 obtain ⟨v9, hc10, hr⟩ := bd hr
 refine .g1 fine (callOk_ref (args := [.agg [aI64 0, aI64 0, aI64 10, aI64 2, aI64 2, .hs 2 0 4 1], aI64 0]) (l := [2]) (SnL.cons (Sn.agg (SnL.cons (Sn.pure rfl) (SnL.cons (Sn.pure rfl) (SnL.cons (Sn.pure rfl) (SnL.cons (Sn.pure rfl) (SnL.cons (Sn.pure rfl) (SnL.cons (Sn.hs rfl (.inl rfl) (SnC.cons (Sn.pure rfl) (SnC.cons (Sn.pure rfl) (SnC.cons (Sn.pure rfl) (SnC.cons (Sn.pure rfl) SnC.nil)))) (fun h => nomatch h)) SnL.nil))))))) (SnL.cons (Sn.pure rfl) SnL.nil)) (volume_Level_ok n (api_Grid.mk 0 0 10 2 2 [(3 : Int), (0 : Int), (0 : Int), (0 : Int)]) 0 v9 hc10)) <| .mu 1 <| .ca cf0 <| .mu 9 <| .done <| .nh [1, 2, 3, 4, 5, 6] [.own (api_Rat.c v7.1), .own (api_Rat.c v7.2), .fix [aI64 3, aI64 0, aI64 0, aI64 0], .own [aI64 0, aI64 0, aI64 10, aI64 2, aI64 2, .hs 2 0 4 1], .own (api_Rat.c v9.1), .own (api_Rat.c v9.2.1)] <| .seq ?_
 obtain ⟨v11, hc12, hr⟩ := bd hr
 refine .g1 fine (callOk_val (args := [.agg [aI64 0, aI64 0, aI64 10, aI64 2, aI64 2, .hs 2 0 4 1]]) (l := [2]) rfl (SnL.cons (Sn.agg (SnL.cons (Sn.pure rfl) (SnL.cons (Sn.pure rfl) (SnL.cons (Sn.pure rfl) (SnL.cons (Sn.pure rfl) (SnL.cons (Sn.pure rfl) (SnL.cons (Sn.hs rfl (.inr rfl) (SnC.cons (Sn.pure rfl) (SnC.cons (Sn.pure rfl) (SnC.cons (Sn.pure rfl) (SnC.cons (Sn.pure rfl) SnC.nil)))) (fun h => nomatch h)) SnL.nil))))))) SnL.nil) (volume_Area_ok n (api_Grid.mk 0 0 10 2 2 [(3 : Int), (0 : Int), (0 : Int), (0 : Int)]) v11 hc12)) <| .mu 1 <| .ca cf0 <| .mu 5 <| .done <| .nh [1, 2, 3, 4, 5, 6, 7, 8] [.own (api_Rat.c v7.1), .own (api_Rat.c v7.2), .fix [aI64 3, aI64 0, aI64 0, aI64 0], .own [aI64 0, aI64 0, aI64 10, aI64 2, aI64 2, .hs 2 0 4 1], .own (api_Rat.c v9.1), .own (api_Rat.c v9.2.1)] <| .seq ?_
 obtain ⟨v13, hc14, hr⟩ := bd hr
 refine .g1 fine (ok0 (fiducialref02_Of_ok n 8 27 v13 hc14)) <| .ca cf0 <| .mu 6 <| .done <| .nh [1, 2, 3, 4, 5, 6, 7, 8, 9] [.own (api_Rat.c v7.1), .own (api_Rat.c v7.2), .fix [aI64 3, aI64 0, aI64 0, aI64 0], .own [aI64 0, aI64 0, aI64 10, aI64 2, aI64 2, .hs 2 0 4 1], .own (api_Rat.c v9.1), .own (api_Rat.c v9.2.1), .own (api_Rat.c v13.1)] <| .seq ?_
 obtain ⟨v15, hc16, hr⟩ := bd hr
 refine .g1 fine (callOk_ref (args := [.agg [aI64 0, aI64 0, aI64 10, aI64 2, aI64 2, .hs 2 0 4 1], aI64 0]) (l := [2]) (SnL.cons (Sn.agg (SnL.cons (Sn.pure rfl) (SnL.cons (Sn.pure rfl) (SnL.cons (Sn.pure rfl) (SnL.cons (Sn.pure rfl) (SnL.cons (Sn.pure rfl) (SnL.cons (Sn.hs rfl (.inr rfl) (SnC.cons (Sn.pure rfl) (SnC.cons (Sn.pure rfl) (SnC.cons (Sn.pure rfl) (SnC.cons (Sn.pure rfl) SnC.nil)))) (fun h => nomatch h)) SnL.nil))))))) (SnL.cons (Sn.pure rfl) SnL.nil)) (volume_Solid_ok n (api_Grid.mk 0 0 10 2 2 [(3 : Int), (0 : Int), (0 : Int), (0 : Int)]) 0 v15 hc16)) <| .mu 1 <| .ca cf0 <| .mu 6 <| .done <| .nh [1, 2, 4, 5, 6, 7, 8, 9, 11, 12] [.own (api_Rat.c v7.1), .own (api_Rat.c v7.2), .fix [aI64 3, aI64 0, aI64 0, aI64 0], .own [aI64 0, aI64 0, aI64 10, aI64 2, aI64 2, .hs 2 0 4 1], .own (api_Rat.c v9.1), .own (api_Rat.c v9.2.1), .own (api_Rat.c v13.1), .own (api_Mesh.c v15.1)] <| .seq ?_
 rcases Bool.eq_false_or_eq_true (((wrapF .i64 ((wrapF .i64 (v9.2.2 + v11.2)) + v15.2)) : Int) == 0) with hb17 | hb17
 ·replace hr := cd_t hb17 hr
  obtain ⟨v18, hc19, hr⟩ := bd hr
  rcases Bool.eq_false_or_eq_true v18 with hb20 | hb20
  ·subst hb20
   replace hr := cd_t rfl hr
   obtain ⟨v21, hc22, hr⟩ := bd hr
   rcases Bool.eq_false_or_eq_true v21 with hb23 | hb23
   ·subst hb23
    replace hr := cd_t rfl hr
    obtain ⟨v24, hc25, v26, hc27, hr⟩ := bd2 hr
    rcases Bool.eq_false_or_eq_true v26 with hb28 | hb28
    ·subst hb28
     replace hr := cd_t rfl hr
     obtain ⟨v29, hc30, v31, hc32, hr⟩ := bd2 hr
     rcases Bool.eq_false_or_eq_true v31 with hb33 | hb33
     ·subst hb33
      replace hr := cd_t rfl hr
      rcases Bool.eq_false_or_eq_true ((v11.1 : Int) == 200) with hb34 | hb34
      ·replace hr := cd_t hb34 hr
       rcases Bool.eq_false_or_eq_true (((v15.1.Vertices.length : Int) : Int) == 8) with hb35 | hb35
       ·replace hr := cd_t hb35 hr
        refine .tn fine (ca1 (ok0 (fiducialref02_SameRat_ok n v7.1 v13.1 true hc19)) (ca1 (ok0 (fiducialref02_SameRat_ok n v7.2 v13.1 true hc22)) (ca1 (ok0 (fiducialref02_Int_ok n 100 v24 hc25)) (ca1 (ok0 (fiducialref02_SameRat_ok n v9.1 v24 true hc27)) (ca1 (ok0 (fiducialref02_Int_ok n 0 v29 hc30)) (ca3 (ok0 (fiducialref02_SameRat_ok n v9.2.1 v29 true hc32)))))))) <| .mu 5 <| .pure (v := aB true) (by kernel_rfl) (eB hb17) (by kernel_rfl) <| .mu 3 <| .ca cf0 <| .mu 4 <| .ca (cfA (fun h => by rw [sv hc22 hc19 (fiducialref02_SameRat_cg n h)]) cf0) <| .mu 3 <| .ca (cfF (cfF cf0)) <| .ca (cfA (fun h => by rw [sv hc27 hc19 (fiducialref02_SameRat_cg n h)]) (cfA (fun h => by rw [sv hc27 hc22 (fiducialref02_SameRat_cg n h)]) (cfF cf0))) <| .mu 3 <| .ca (cfF (cfF (cfA (fun h => by rw [sv hc30 hc25 (fiducialref02_Int_cg n h)]) (cfF cf0)))) <| .ca (cfA (fun h => by rw [sv hc32 hc19 (fiducialref02_SameRat_cg n h)]) (cfA (fun h => by rw [sv hc32 hc22 (fiducialref02_SameRat_cg n h)]) (cfF (cfA (fun h => by rw [sv hc32 hc27 (fiducialref02_SameRat_cg n h)]) (cfF cf0))))) <| .mu 3 <| .pure (v := aB true) (by kernel_rfl) (eB hb34) (by kernel_rfl) <| .mu 5 <| .pure (v := aB true) (by kernel_rfl) (eB hb35) (by kernel_rfl) <| .mu 8 ?_
        refine .done ⟨by kernel_rfl, ?_⟩
        refine .ret ?_
        obtain rfl := oi hr
        exact FinQ.r1 [aB (((v15.1.Faces.length : Int) : Int) == 12)]
       ·replace hr := cd_f hb35 hr
        refine .tn fine (ca1 (ok0 (fiducialref02_SameRat_ok n v7.1 v13.1 true hc19)) (ca1 (ok0 (fiducialref02_SameRat_ok n v7.2 v13.1 true hc22)) (ca1 (ok0 (fiducialref02_Int_ok n 100 v24 hc25)) (ca1 (ok0 (fiducialref02_SameRat_ok n v9.1 v24 true hc27)) (ca1 (ok0 (fiducialref02_Int_ok n 0 v29 hc30)) (ca3 (ok0 (fiducialref02_SameRat_ok n v9.2.1 v29 true hc32)))))))) <| .mu 5 <| .pure (v := aB true) (by kernel_rfl) (eB hb17) (by kernel_rfl) <| .mu 3 <| .ca cf0 <| .mu 4 <| .ca (cfA (fun h => by rw [sv hc22 hc19 (fiducialref02_SameRat_cg n h)]) cf0) <| .mu 3 <| .ca (cfF (cfF cf0)) <| .ca (cfA (fun h => by rw [sv hc27 hc19 (fiducialref02_SameRat_cg n h)]) (cfA (fun h => by rw [sv hc27 hc22 (fiducialref02_SameRat_cg n h)]) (cfF cf0))) <| .mu 3 <| .ca (cfF (cfF (cfA (fun h => by rw [sv hc30 hc25 (fiducialref02_Int_cg n h)]) (cfF cf0)))) <| .ca (cfA (fun h => by rw [sv hc32 hc19 (fiducialref02_SameRat_cg n h)]) (cfA (fun h => by rw [sv hc32 hc22 (fiducialref02_SameRat_cg n h)]) (cfF (cfA (fun h => by rw [sv hc32 hc27 (fiducialref02_SameRat_cg n h)]) (cfF cf0))))) <| .mu 3 <| .pure (v := aB true) (by kernel_rfl) (eB hb34) (by kernel_rfl) <| .mu 5 <| .pure (v := aB false) (by kernel_rfl) (eB hb35) (by kernel_rfl) <| .mu 8 ?_
        refine .done ⟨by kernel_rfl, ?_⟩
        refine .ret ?_
        obtain rfl := oi hr
        exact FinQ.r1 [aB false]
      ·replace hr := cd_f hb34 hr
       refine .tn fine (ca1 (ok0 (fiducialref02_SameRat_ok n v7.1 v13.1 true hc19)) (ca1 (ok0 (fiducialref02_SameRat_ok n v7.2 v13.1 true hc22)) (ca1 (ok0 (fiducialref02_Int_ok n 100 v24 hc25)) (ca1 (ok0 (fiducialref02_SameRat_ok n v9.1 v24 true hc27)) (ca1 (ok0 (fiducialref02_Int_ok n 0 v29 hc30)) (ca3 (ok0 (fiducialref02_SameRat_ok n v9.2.1 v29 true hc32)))))))) <| .mu 5 <| .pure (v := aB true) (by kernel_rfl) (eB hb17) (by kernel_rfl) <| .mu 3 <| .ca cf0 <| .mu 4 <| .ca (cfA (fun h => by rw [sv hc22 hc19 (fiducialref02_SameRat_cg n h)]) cf0) <| .mu 3 <| .ca (cfF (cfF cf0)) <| .ca (cfA (fun h => by rw [sv hc27 hc19 (fiducialref02_SameRat_cg n h)]) (cfA (fun h => by rw [sv hc27 hc22 (fiducialref02_SameRat_cg n h)]) (cfF cf0))) <| .mu 3 <| .ca (cfF (cfF (cfA (fun h => by rw [sv hc30 hc25 (fiducialref02_Int_cg n h)]) (cfF cf0)))) <| .ca (cfA (fun h => by rw [sv hc32 hc19 (fiducialref02_SameRat_cg n h)]) (cfA (fun h => by rw [sv hc32 hc22 (fiducialref02_SameRat_cg n h)]) (cfF (cfA (fun h => by rw [sv hc32 hc27 (fiducialref02_SameRat_cg n h)]) (cfF cf0))))) <| .mu 3 <| .pure (v := aB false) (by kernel_rfl) (eB hb34) (by kernel_rfl) <| .mu 14 ?_
       refine .done ⟨by kernel_rfl, ?_⟩
       refine .ret ?_
       obtain rfl := oi hr
       exact FinQ.r1 [aB false]
     ·subst hb33
      replace hr := cd_f rfl hr
      refine .tn fine (ca1 (ok0 (fiducialref02_SameRat_ok n v7.1 v13.1 true hc19)) (ca1 (ok0 (fiducialref02_SameRat_ok n v7.2 v13.1 true hc22)) (ca1 (ok0 (fiducialref02_Int_ok n 100 v24 hc25)) (ca1 (ok0 (fiducialref02_SameRat_ok n v9.1 v24 true hc27)) (ca1 (ok0 (fiducialref02_Int_ok n 0 v29 hc30)) (ca3 (ok0 (fiducialref02_SameRat_ok n v9.2.1 v29 false hc32)))))))) <| .mu 5 <| .pure (v := aB true) (by kernel_rfl) (eB hb17) (by kernel_rfl) <| .mu 3 <| .ca cf0 <| .mu 4 <| .ca (cfA (fun h => by rw [sv hc22 hc19 (fiducialref02_SameRat_cg n h)]) cf0) <| .mu 3 <| .ca (cfF (cfF cf0)) <| .ca (cfA (fun h => by rw [sv hc27 hc19 (fiducialref02_SameRat_cg n h)]) (cfA (fun h => by rw [sv hc27 hc22 (fiducialref02_SameRat_cg n h)]) (cfF cf0))) <| .mu 3 <| .ca (cfF (cfF (cfA (fun h => by rw [sv hc30 hc25 (fiducialref02_Int_cg n h)]) (cfF cf0)))) <| .ca (cfA (fun h => by rw [sv hc32 hc19 (fiducialref02_SameRat_cg n h)]) (cfA (fun h => by rw [sv hc32 hc22 (fiducialref02_SameRat_cg n h)]) (cfF (cfA (fun h => by rw [sv hc32 hc27 (fiducialref02_SameRat_cg n h)]) (cfF cf0))))) <| .mu 18 ?_
      refine .done ⟨by kernel_rfl, ?_⟩
      refine .ret ?_
      obtain rfl := oi hr
      exact FinQ.r1 [aB false]
    ·subst hb28
     replace hr := cd_f rfl hr
     refine .tn fine (ca1 (ok0 (fiducialref02_SameRat_ok n v7.1 v13.1 true hc19)) (ca1 (ok0 (fiducialref02_SameRat_ok n v7.2 v13.1 true hc22)) (ca1 (ok0 (fiducialref02_Int_ok n 100 v24 hc25)) (ca3 (ok0 (fiducialref02_SameRat_ok n v9.1 v24 false hc27)))))) <| .mu 5 <| .pure (v := aB true) (by kernel_rfl) (eB hb17) (by kernel_rfl) <| .mu 3 <| .ca cf0 <| .mu 4 <| .ca (cfA (fun h => by rw [sv hc22 hc19 (fiducialref02_SameRat_cg n h)]) cf0) <| .mu 3 <| .ca (cfF (cfF cf0)) <| .ca (cfA (fun h => by rw [sv hc27 hc19 (fiducialref02_SameRat_cg n h)]) (cfA (fun h => by rw [sv hc27 hc22 (fiducialref02_SameRat_cg n h)]) (cfF cf0))) <| .mu 23 ?_
     refine .done ⟨by kernel_rfl, ?_⟩
     refine .ret ?_
     obtain rfl := oi hr
     exact FinQ.r1 [aB false]
   ·subst hb23
    replace hr := cd_f rfl hr
    refine .tn fine (ca1 (ok0 (fiducialref02_SameRat_ok n v7.1 v13.1 true hc19)) (ca3 (ok0 (fiducialref02_SameRat_ok n v7.2 v13.1 false hc22)))) <| .mu 5 <| .pure (v := aB true) (by kernel_rfl) (eB hb17) (by kernel_rfl) <| .mu 3 <| .ca cf0 <| .mu 4 <| .ca (cfA (fun h => by rw [sv hc22 hc19 (fiducialref02_SameRat_cg n h)]) cf0) <| .mu 28 ?_
    refine .done ⟨by kernel_rfl, ?_⟩
    refine .ret ?_
    obtain rfl := oi hr
    exact FinQ.r1 [aB false]
  ·subst hb20
   replace hr := cd_f rfl hr
   refine .t1 fine (ok0 (fiducialref02_SameRat_ok n v7.1 v13.1 false hc19)) <| .mu 5 <| .pure (v := aB true) (by kernel_rfl) (eB hb17) (by kernel_rfl) <| .mu 3 <| .ca cf0 <| .mu 33 ?_
   refine .done ⟨by kernel_rfl, ?_⟩
   refine .ret ?_
   obtain rfl := oi hr
   exact FinQ.r1 [aB false]
 ·replace hr := cd_f hb17 hr
  refine .regionT fine callOf_nil <| .mu 5 <| .pure (v := aB false) (by kernel_rfl) (eB hb17) (by kernel_rfl) <| .mu 37 ?_
  refine .done ⟨by kernel_rfl, ?_⟩
  refine .ret ?_
  obtain rfl := oi hr
  exact FinQ.r1 [aB false]

theorem fiducialref02_Brief_ok (n : Nat) (x' : api_Rat) (r : Bool) (hr : fiducialref02_Brief n x' = some r) : FnOk Tryz.prog 36 [.agg (api_Rat.c x')] (aB r) := by
 unfold fiducialref02_Brief at hr
 refine FnOk.bd fine Tryz.func36 [.tmp 2] ?_
 unfold Tryz.f36
 simp only [Option.getD_some]
 refine .seq <| .r2 fine 39 [(1, .hp 0 0)] [.own (api_Rat.c x')] <| .seq <| .regionT fine callOf_nil <| .mu 8 ?_
 refine .done ⟨by kernel_rfl, ?_⟩
 refine .nh [3, 4] [.own (api_Rat.c x')] <| .seq <| .seq ?_
 rcases Bool.eq_false_or_eq_true (decide ((x'.Num.Groups.length : Int) > 1)) with hb1 | hb1
 ·replace hr := cd_t hb1 hr
  refine .r0 fine <| .mu 2 <| .p0 (v := aB true) (eB hb1) <| .mu 5 <| .done <| .nh [3, 4, 18] [.own (api_Rat.c x')] <| .cT (by kernel_rfl) <| .seq <| .ru fine <| .ret ?_
  obtain rfl := oi hr
  exact FinQ.r1 [aB false]
 ·replace hr := cd_f hb1 hr
  refine .r0 fine <| .mu 2 <| .p0 (v := aB false) (eB hb1) <| .mu 5 <| .done <| .nh [3, 4, 18] [.own (api_Rat.c x')] ?_
  refine .cd hr (fun hb2 hr => ?_) (fun hb2 hr => ?_)
  ·refine .seq <| .ru fine <| .ret ?_
   obtain rfl := oi hr
   exact FinQ.r1 [aB false]
  ·refine .skip <| .seq ?_
   rcases Bool.eq_false_or_eq_true (((x'.Num.Groups.length : Int) : Int) == 0) with hb3 | hb3
   ·replace hr := cd_t hb3 hr
    rcases Bool.eq_false_or_eq_true (((x'.Den.Groups.length : Int) : Int) == 0) with hb4 | hb4
    ·replace hr := cd_t hb4 hr
     refine .r0 fine <| .mu 2 <| .p0 (v := aB true) (eB hb3) <| .mu 9 <| .pure (v := aB true) (by kernel_rfl) (eB hb4) <| .mu 8 <| .done <| .ret ?_
     obtain rfl := oi hr
     exact FinQ.r1 [aB true]
    ·replace hr := cd_f hb4 hr
     obtain ⟨hg5, hr⟩ := gd hr
     refine .r0 fine <| .mu 2 <| .p0 (v := aB true) (eB hb3) <| .mu 9 <| .pure (v := aB false) (by kernel_rfl) (eB hb4) <| .mu 2 <| .pure (v := .pp (x'.Den.Groups.flatMap (iC .u32)) ((0 : Int).toNat * 1)) (by kernel_rfl) (tr (ofP_guard hg5)) <| .pure (v := aU32 (gt x'.Den.Groups 0)) (by kernel_rfl) (tr (ofP_some (flat_get (iC_len .u32) (inR_lt hg5) (by decide : 0 < 1) (by omega : (0 : Int).toNat * 1 = (0 : Int).toNat * 1 + 0) (by kernel_rfl)))) <| .mu 4 <| .done <| .ret ?_
     obtain rfl := oi hr
     exact FinQ.r1 [aB (decide ((gt x'.Den.Groups 0) ≤ 100))]
   ·replace hr := cd_f hb3 hr
    obtain ⟨hg6, hr⟩ := gd hr
    rcases Bool.eq_false_or_eq_true (decide ((gt x'.Num.Groups 0) < 100000)) with hb7 | hb7
    ·replace hr := cd_t hb7 hr
     rcases Bool.eq_false_or_eq_true (((x'.Den.Groups.length : Int) : Int) == 0) with hb8 | hb8
     ·replace hr := cd_t hb8 hr
      refine .r0 fine <| .mu 2 <| .p0 (v := aB false) (eB hb3) <| .mu 2 <| .pure (v := .pp (x'.Num.Groups.flatMap (iC .u32)) ((0 : Int).toNat * 1)) (by kernel_rfl) (tr (ofP_guard hg6)) <| .pure (v := aU32 (gt x'.Num.Groups 0)) (by kernel_rfl) (tr (ofP_some (flat_get (iC_len .u32) (inR_lt hg6) (by decide : 0 < 1) (by omega : (0 : Int).toNat * 1 = (0 : Int).toNat * 1 + 0) (by kernel_rfl)))) <| .pure (v := aB true) (by kernel_rfl) (eB hb7) <| .mu 4 <| .pure (v := aB true) (by kernel_rfl) (eB hb8) <| .mu 8 <| .done <| .ret ?_
      obtain rfl := oi hr
      exact FinQ.r1 [aB true]
     ·replace hr := cd_f hb8 hr
      obtain ⟨hg9, hr⟩ := gd hr
      refine .r0 fine <| .mu 2 <| .p0 (v := aB false) (eB hb3) <| .mu 2 <| .pure (v := .pp (x'.Num.Groups.flatMap (iC .u32)) ((0 : Int).toNat * 1)) (by kernel_rfl) (tr (ofP_guard hg6)) <| .pure (v := aU32 (gt x'.Num.Groups 0)) (by kernel_rfl) (tr (ofP_some (flat_get (iC_len .u32) (inR_lt hg6) (by decide : 0 < 1) (by omega : (0 : Int).toNat * 1 = (0 : Int).toNat * 1 + 0) (by kernel_rfl)))) <| .pure (v := aB true) (by kernel_rfl) (eB hb7) <| .mu 4 <| .pure (v := aB false) (by kernel_rfl) (eB hb8) <| .mu 2 <| .pure (v := .pp (x'.Den.Groups.flatMap (iC .u32)) ((0 : Int).toNat * 1)) (by kernel_rfl) (tr (ofP_guard hg9)) <| .pure (v := aU32 (gt x'.Den.Groups 0)) (by kernel_rfl) (tr (ofP_some (flat_get (iC_len .u32) (inR_lt hg9) (by decide : 0 < 1) (by omega : (0 : Int).toNat * 1 = (0 : Int).toNat * 1 + 0) (by kernel_rfl)))) <| .mu 4 <| .done <| .ret ?_
      obtain rfl := oi hr
      exact FinQ.r1 [aB (decide ((gt x'.Den.Groups 0) ≤ 100))]
    ·replace hr := cd_f hb7 hr
     refine .r0 fine <| .mu 2 <| .p0 (v := aB false) (eB hb3) <| .mu 2 <| .pure (v := .pp (x'.Num.Groups.flatMap (iC .u32)) ((0 : Int).toNat * 1)) (by kernel_rfl) (tr (ofP_guard hg6)) <| .pure (v := aU32 (gt x'.Num.Groups 0)) (by kernel_rfl) (tr (ofP_some (flat_get (iC_len .u32) (inR_lt hg6) (by decide : 0 < 1) (by omega : (0 : Int).toNat * 1 = (0 : Int).toNat * 1 + 0) (by kernel_rfl)))) <| .pure (v := aB false) (by kernel_rfl) (eB hb7) <| .mu 13 <| .done <| .ret ?_
     obtain rfl := oi hr
     exact FinQ.r1 [aB false]

theorem fiduciallaw52_small_inj {x' : api_Rat} {x'_ : api_Rat} (h : ([.agg [.at (.bool x'.Num.Negative), slT (iC .u32) x'.Num.Groups, .at (.bool x'.Den.Negative), slT (iC .u32) x'.Den.Groups]] : List AV) = [.agg [.at (.bool x'_.Num.Negative), slT (iC .u32) x'_.Num.Groups, .at (.bool x'_.Den.Negative), slT (iC .u32) x'_.Den.Groups]]) : x' = x'_ := by
 obtain ⟨⟨_, _⟩, ⟨_, _⟩⟩ := x'
 obtain ⟨⟨_, _⟩, ⟨_, _⟩⟩ := x'_
 simp only [List.cons.injEq, AV.agg.injEq, AV.at.injEq, Value.int.injEq, Value.bool.injEq, AV.fn.injEq, AV.pp.injEq, true_and, and_true, slT_inj_int] at h
 simp_all
theorem fiduciallaw52_small_cg (n : Nat) {x' : api_Rat} {x'_ : api_Rat} (h : ([.agg [.at (.bool x'.Num.Negative), slT (iC .u32) x'.Num.Groups, .at (.bool x'.Den.Negative), slT (iC .u32) x'.Den.Groups]] : List AV) = [.agg [.at (.bool x'_.Num.Negative), slT (iC .u32) x'_.Num.Groups, .at (.bool x'_.Den.Negative), slT (iC .u32) x'_.Den.Groups]]) : fiduciallaw52_small n x' = fiduciallaw52_small n x'_ := by
 obtain rfl := fiduciallaw52_small_inj h
 rfl
theorem fiduciallaw52_small_ok (n : Nat) (x' : api_Rat) (r : Bool) (hr : fiduciallaw52_small n x' = some r) : FnOk Tryz.prog 12 [.agg (api_Rat.c x')] (aB r) := by
 unfold fiduciallaw52_small at hr
 refine FnOk.bd fine Tryz.func12 [.tmp 2] ?_
 unfold Tryz.f12
 simp only [Option.getD_some]
 refine .seq <| .r2 fine 5 [(1, .hp 0 0)] [.own (api_Rat.c x')] <| .seq ?_
 obtain ⟨v1, hc2, hr⟩ := bd hr
 refine .g1 fine (ok0 (fiducialref02_Brief_ok n x' v1 hc2)) <| .mu 1 <| .ca cf0 <| .mu 1 <| .done <| .ret ?_
 obtain rfl := oi hr
 exact FinQ.r1 [aB v1]

theorem fiducialref02_Divide_ok (n : Nat) (x' : api_Rat) (y : api_Rat) (r : api_Rat × Int) (hr : fiducialref02_Divide n x' y = some r) : FnOk Tryz.prog 50 [.agg (api_Rat.c x'), .agg (api_Rat.c y)] (.tup [.agg (api_Rat.c r.1), aI64 r.2]) := by
 unfold fiducialref02_Divide at hr
 refine FnOk.bd fine Tryz.func50 [.cell 4 44, .tmp 5] ?_
 unfold Tryz.f50
 simp only [Option.getD_some]
 refine .seq <| .r2 fine 25 [(2, .hp 0 0), (3, .hp 1 0), (4, .hp 2 0)] [.own (api_Rat.c x'), .own (api_Rat.c y), .own [aB false, nS, aB false, nS]] <| .seq ?_
 obtain ⟨v1, hc2, hr⟩ := bd hr
 refine .g1 fine (ok0 (fiducialref02_Value_ok n x' v1 hc2)) <| .mu 1 <| .ca cf0 <| .mu 2 <| .done <| .nh [3, 4, 6] [.own (api_Rat.c x'), .own (api_Rat.c y), .own [aB false, nS, aB false, nS], .own (api_Rat.c v1)] <| .seq ?_
 obtain ⟨v3, hc4, hr⟩ := bd hr
 refine .g1 fine (ok0 (fiducialref02_Value_ok n y v3 hc4)) <| .mu 1 <| .ca cf0 <| .mu 2 <| .done <| .nh [4, 6, 7] [.own (api_Rat.c x'), .own (api_Rat.c y), .own [aB false, nS, aB false, nS], .own (api_Rat.c v1), .own (api_Rat.c v3)] <| .seq ?_
 obtain ⟨v5, hc6, v7, hc8, v9, hc10, hr⟩ := bd3 hr
 refine .tn fine (ca1 (ok0 (fiducialref01_Mul_ok n v1.Num v3.Den v5 hc6)) (ca1 (ok0 (fiducialref01_Mul_ok n v1.Den v3.Num v7 hc8)) (ca3 (ok0 (fiducialref02_New_ok n v5 v7 v9 hc10))))) <| .mu 4 <| .ca cf0 <| .mu 4 <| .ca (cfA (fun h => by rw [sv hc8 hc6 (fiducialref01_Mul_cg n h)]) cf0) <| .ca (cfF (cfF cf0)) <| .mu 4 ?_
 refine .done ⟨by kernel_rfl, ?_⟩
 refine .nh [4, 5] [.own (api_Rat.c x'), .own (api_Rat.c y), .own (api_Rat.c v9.1), .own (api_Rat.c v1), .own (api_Rat.c v3)] <| .ret ?_
 obtain rfl := oi hr
 exact FinQ.ret (vs := [.agg (api_Rat.c v9.1), aI64 v9.2]) (by kernel_rfl) (Sn.tup (SnL.cons (Sn.pure rfl) (SnL.cons (Sn.pure rfl) SnL.nil)))

theorem fiduciallaw52_minus_inj {a : api_Rat} {b : api_Rat} {a_ : api_Rat} {b_ : api_Rat} (h : ([.agg [.at (.bool a.Num.Negative), slT (iC .u32) a.Num.Groups, .at (.bool a.Den.Negative), slT (iC .u32) a.Den.Groups], .agg [.at (.bool b.Num.Negative), slT (iC .u32) b.Num.Groups, .at (.bool b.Den.Negative), slT (iC .u32) b.Den.Groups]] : List AV) = [.agg [.at (.bool a_.Num.Negative), slT (iC .u32) a_.Num.Groups, .at (.bool a_.Den.Negative), slT (iC .u32) a_.Den.Groups], .agg [.at (.bool b_.Num.Negative), slT (iC .u32) b_.Num.Groups, .at (.bool b_.Den.Negative), slT (iC .u32) b_.Den.Groups]]) : a = a_ ∧ b = b_ := by
 obtain ⟨⟨_, _⟩, ⟨_, _⟩⟩ := a
 obtain ⟨⟨_, _⟩, ⟨_, _⟩⟩ := a_
 obtain ⟨⟨_, _⟩, ⟨_, _⟩⟩ := b
 obtain ⟨⟨_, _⟩, ⟨_, _⟩⟩ := b_
 simp only [List.cons.injEq, AV.agg.injEq, AV.at.injEq, Value.int.injEq, Value.bool.injEq, AV.fn.injEq, AV.pp.injEq, true_and, and_true, slT_inj_int] at h
 simp_all
theorem fiduciallaw52_minus_cg (n : Nat) {a : api_Rat} {b : api_Rat} {a_ : api_Rat} {b_ : api_Rat} (h : ([.agg [.at (.bool a.Num.Negative), slT (iC .u32) a.Num.Groups, .at (.bool a.Den.Negative), slT (iC .u32) a.Den.Groups], .agg [.at (.bool b.Num.Negative), slT (iC .u32) b.Num.Groups, .at (.bool b.Den.Negative), slT (iC .u32) b.Den.Groups]] : List AV) = [.agg [.at (.bool a_.Num.Negative), slT (iC .u32) a_.Num.Groups, .at (.bool a_.Den.Negative), slT (iC .u32) a_.Den.Groups], .agg [.at (.bool b_.Num.Negative), slT (iC .u32) b_.Num.Groups, .at (.bool b_.Den.Negative), slT (iC .u32) b_.Den.Groups]]) : fiduciallaw52_minus n a b = fiduciallaw52_minus n a_ b_ := by
 obtain ⟨rfl, rfl⟩ := fiduciallaw52_minus_inj h
 rfl
theorem fiduciallaw52_minus_ok (n : Nat) (a : api_Rat) (b : api_Rat) (r : api_Rat) (hr : fiduciallaw52_minus n a b = some r) : FnOk Tryz.prog 53 [.agg (api_Rat.c a), .agg (api_Rat.c b)] (.agg (api_Rat.c r)) := by
 unfold fiduciallaw52_minus at hr
 refine FnOk.bd fine Tryz.func53 [.cell 4 44] ?_
 unfold Tryz.f53
 simp only [Option.getD_some]
 refine .seq <| .r2 fine 9 [(2, .hp 0 0), (3, .hp 1 0), (4, .hp 2 0)] [.own (api_Rat.c a), .own (api_Rat.c b), .own [aB false, nS, aB false, nS]] <| .seq ?_
 obtain ⟨v1, hc2, v3, hc4, hr⟩ := bd2 hr
 refine .tn fine (ca1 (ok0 (fiducialref02_Neg_ok n b v1 hc2)) (ca3 (ok0 (fiducialref02_Add_ok n a v1 v3 hc4)))) <| .mu 2 <| .ca cf0 <| .ca (cfF cf0) <| .mu 1 ?_
 refine .done ⟨by kernel_rfl, ?_⟩
 refine .nh [4] [.own (api_Rat.c a), .own (api_Rat.c b), .own (api_Rat.c v3)] <| .ret ?_
 obtain rfl := oi hr
 exact FinQ.r1 [.agg (api_Rat.c v3)]

theorem fiducialref02_Mul_inj {x' : api_Rat} {y : api_Rat} {x'_ : api_Rat} {y_ : api_Rat} (h : ([.agg [.at (.bool x'.Num.Negative), slT (iC .u32) x'.Num.Groups, .at (.bool x'.Den.Negative), slT (iC .u32) x'.Den.Groups], .agg [.at (.bool y.Num.Negative), slT (iC .u32) y.Num.Groups, .at (.bool y.Den.Negative), slT (iC .u32) y.Den.Groups]] : List AV) = [.agg [.at (.bool x'_.Num.Negative), slT (iC .u32) x'_.Num.Groups, .at (.bool x'_.Den.Negative), slT (iC .u32) x'_.Den.Groups], .agg [.at (.bool y_.Num.Negative), slT (iC .u32) y_.Num.Groups, .at (.bool y_.Den.Negative), slT (iC .u32) y_.Den.Groups]]) : x' = x'_ ∧ y = y_ := by
 obtain ⟨⟨_, _⟩, ⟨_, _⟩⟩ := x'
 obtain ⟨⟨_, _⟩, ⟨_, _⟩⟩ := x'_
 obtain ⟨⟨_, _⟩, ⟨_, _⟩⟩ := y
 obtain ⟨⟨_, _⟩, ⟨_, _⟩⟩ := y_
 simp only [List.cons.injEq, AV.agg.injEq, AV.at.injEq, Value.int.injEq, Value.bool.injEq, AV.fn.injEq, AV.pp.injEq, true_and, and_true, slT_inj_int] at h
 simp_all
theorem fiducialref02_Mul_cg (n : Nat) {x' : api_Rat} {y : api_Rat} {x'_ : api_Rat} {y_ : api_Rat} (h : ([.agg [.at (.bool x'.Num.Negative), slT (iC .u32) x'.Num.Groups, .at (.bool x'.Den.Negative), slT (iC .u32) x'.Den.Groups], .agg [.at (.bool y.Num.Negative), slT (iC .u32) y.Num.Groups, .at (.bool y.Den.Negative), slT (iC .u32) y.Den.Groups]] : List AV) = [.agg [.at (.bool x'_.Num.Negative), slT (iC .u32) x'_.Num.Groups, .at (.bool x'_.Den.Negative), slT (iC .u32) x'_.Den.Groups], .agg [.at (.bool y_.Num.Negative), slT (iC .u32) y_.Num.Groups, .at (.bool y_.Den.Negative), slT (iC .u32) y_.Den.Groups]]) : fiducialref02_Mul n x' y = fiducialref02_Mul n x'_ y_ := by
 obtain ⟨rfl, rfl⟩ := fiducialref02_Mul_inj h
 rfl
theorem fiducialref02_Mul_ok (n : Nat) (x' : api_Rat) (y : api_Rat) (r : api_Rat) (hr : fiducialref02_Mul n x' y = some r) : FnOk Tryz.prog 90 [.agg (api_Rat.c x'), .agg (api_Rat.c y)] (.agg (api_Rat.c r)) := by
 unfold fiducialref02_Mul at hr
 refine FnOk.bd fine Tryz.func90 [.cell 4 44] ?_
 unfold Tryz.f90
 simp only [Option.getD_some]
 refine .seq <| .r2 fine 22 [(2, .hp 0 0), (3, .hp 1 0), (4, .hp 2 0)] [.own (api_Rat.c x'), .own (api_Rat.c y), .own [aB false, nS, aB false, nS]] <| .seq ?_
 obtain ⟨v1, hc2, hr⟩ := bd hr
 refine .g1 fine (ok0 (fiducialref02_Value_ok n x' v1 hc2)) <| .mu 1 <| .ca cf0 <| .mu 2 <| .done <| .nh [3, 4, 5] [.own (api_Rat.c x'), .own (api_Rat.c y), .own [aB false, nS, aB false, nS], .own (api_Rat.c v1)] <| .seq ?_
 obtain ⟨v3, hc4, hr⟩ := bd hr
 refine .g1 fine (ok0 (fiducialref02_Value_ok n y v3 hc4)) <| .mu 1 <| .ca cf0 <| .mu 2 <| .done <| .nh [4, 5, 6] [.own (api_Rat.c x'), .own (api_Rat.c y), .own [aB false, nS, aB false, nS], .own (api_Rat.c v1), .own (api_Rat.c v3)] <| .seq ?_
 obtain ⟨v5, hc6, v7, hc8, v9, hc10, hr⟩ := bd3 hr
 refine .tn fine (ca1 (ok0 (fiducialref01_Mul_ok n v1.Num v3.Num v5 hc6)) (ca1 (ok0 (fiducialref01_Mul_ok n v1.Den v3.Den v7 hc8)) (ca3 (ok0 (fiducialref02_reduced_ok n v5 v7 v9 hc10))))) <| .mu 4 <| .ca cf0 <| .mu 4 <| .ca (cfA (fun h => by rw [sv hc8 hc6 (fiducialref01_Mul_cg n h)]) cf0) <| .ca (cfF (cfF cf0)) <| .mu 1 ?_
 refine .done ⟨by kernel_rfl, ?_⟩
 refine .nh [4] [.own (api_Rat.c x'), .own (api_Rat.c y), .own (api_Rat.c v9), .own (api_Rat.c v1), .own (api_Rat.c v3)] <| .ret ?_
 obtain rfl := oi hr
 exact FinQ.r1 [.agg (api_Rat.c v9)]

theorem fiduciallaw52_tip_ok (n : Nat) (a : api_Rat) (b : api_Rat) (c : api_Rat) (r : api_Rat) (hr : fiduciallaw52_tip n a b c = some r) : FnOk Tryz.prog 52 [.agg (api_Rat.c a), .agg (api_Rat.c b), .agg (api_Rat.c c)] (.agg (api_Rat.c r)) := by
 unfold fiduciallaw52_tip at hr
 refine FnOk.bd fine Tryz.func52 [.cell 6 44] ?_
 unfold Tryz.f52
 simp only [Option.getD_some]
 refine .seq <| .r2 fine 30 [(3, .hp 0 0), (4, .hp 1 0), (5, .hp 2 0), (6, .hp 3 0)] [.own (api_Rat.c a), .own (api_Rat.c b), .own (api_Rat.c c), .own [aB false, nS, aB false, nS]] <| .seq ?_
 obtain ⟨v1, hc2, v3, hc4, hr⟩ := bd2 hr
 refine .tn fine (ca1 (ok0 (fiducialref02_Mul_ok n a a v1 hc2)) (ca3 (ok0 (fiducialref02_Mul_ok n a v1 v3 hc4)))) <| .mu 3 <| .ca cf0 <| .ca (cfA (fun h => by rw [sv hc4 hc2 (fiducialref02_Mul_cg n h)]) cf0) <| .mu 2 ?_
 refine .done ⟨by kernel_rfl, ?_⟩
 refine .nh [3, 4, 5, 6, 7] [.own (api_Rat.c a), .own (api_Rat.c b), .own (api_Rat.c c), .own [aB false, nS, aB false, nS], .own (api_Rat.c v3)] <| .seq ?_
 obtain ⟨v5, hc6, v7, hc8, v9, hc10, hr⟩ := bd3 hr
 obtain ⟨v11, hc12, v13, hc14, v15, hc16, hr⟩ := bd3 hr
 refine .tn fine (ca1 (ok0 (fiducialref02_Int_ok n 3 v5 hc6)) (ca1 (ok0 (fiduciallaw52_minus_ok n a b v7 hc8)) (ca1 (ok0 (fiduciallaw52_minus_ok n a c v9 hc10)) (ca1 (ok0 (fiducialref02_Mul_ok n v7 v9 v11 hc12)) (ca1 (ok0 (fiducialref02_Mul_ok n v5 v11 v13 hc14)) (ca3 (ok0 (fiducialref02_Divide_ok n v3 v13 v15 hc16)))))))) <| .mu 1 <| .ca cf0 <| .mu 2 <| .ca (cfF cf0) <| .mu 2 <| .ca (cfF (cfA (fun h => by rw [sv hc10 hc8 (fiduciallaw52_minus_cg n h)]) cf0)) <| .ca (cfF (cfF (cfF cf0))) <| .ca (cfF (cfF (cfF (cfA (fun h => by rw [sv hc14 hc12 (fiducialref02_Mul_cg n h)]) cf0)))) <| .ca (cfF (cfF (cfF (cfF (cfF cf0))))) <| .mu 6 ?_
 refine .done ⟨by kernel_rfl, ?_⟩
 refine .nh [6, 8] [.own (api_Rat.c a), .own (api_Rat.c b), .own (api_Rat.c c), .own [aB false, nS, aB false, nS], .own (api_Rat.c v3), .own (api_Rat.c v15.1)] <| .seq <| .r5 fine [6] [] [.own (api_Rat.c a), .own (api_Rat.c b), .own (api_Rat.c c), .own (api_Rat.c v15.1), .own (api_Rat.c v3), .own (api_Rat.c v15.1)] <| .ret ?_
 obtain rfl := oi hr
 exact FinQ.r1 [.agg (api_Rat.c v15.1)]

theorem fiduciallaw52_triangle_3_ok (n : Nat) (a : api_Rat) (b : api_Rat) (c : api_Rat) (r : api_Rat × api_Rat) (hr : fiduciallaw52_triangle_3 n a b c = some r) : FnOk Tryz.prog 14 [.agg (api_Rat.c a), .agg (api_Rat.c b), .agg (api_Rat.c c)] (.tup [.agg (api_Rat.c r.1), .agg (api_Rat.c r.2)]) := by cases hr

theorem fiduciallaw52_triangle_2_ok (n : Nat) (a : api_Rat) (b : api_Rat) (c : api_Rat) (r : api_Rat × api_Rat) (hr : fiduciallaw52_triangle_2 n a b c = some r) : FnOk Tryz.prog 14 [.agg (api_Rat.c a), .agg (api_Rat.c b), .agg (api_Rat.c c)] (.tup [.agg (api_Rat.c r.1), .agg (api_Rat.c r.2)]) := by
 unfold fiduciallaw52_triangle_2 at hr
 refine FnOk.bd fine Tryz.func14 [.cell 6 44, .cell 7 44] ?_
 unfold Tryz.f14
 simp only [Option.getD_some]
 refine .seq <| .r2 fine 91 [(3, .hp 0 0), (4, .hp 1 0), (5, .hp 2 0), (6, .hp 3 0), (7, .hp 4 0)] [.own (api_Rat.c a), .own (api_Rat.c b), .own (api_Rat.c c), .own [aB false, nS, aB false, nS], .own [aB false, nS, aB false, nS]] <| .seq ?_
 obtain ⟨v1, hc2, v3, hc4, v5, hc6, hr⟩ := bd3 hr
 refine .tn fine (ca1 (ok0 (fiducialref02_Value_ok n a v1 hc2)) (ca1 (ok0 (fiducialref02_Value_ok n b v3 hc4)) (ca3 (ok0 (fiducialref02_Value_ok n c v5 hc6))))) <| .mu 1 <| .ca cf0 <| .mu 1 <| .ca (cfA (fun h => by rw [sv hc4 hc2 (fiducialref02_Value_cg n h)]) cf0) <| .mu 1 <| .ca (cfA (fun h => by rw [sv hc6 hc2 (fiducialref02_Value_cg n h)]) (cfA (fun h => by rw [sv hc6 hc4 (fiducialref02_Value_cg n h)]) cf0)) <| .mu 3 ?_
 refine .done ⟨by kernel_rfl, ?_⟩
 refine .nh [3, 4, 5, 6, 7] [.own (api_Rat.c v1), .own (api_Rat.c v3), .own (api_Rat.c v5), .own [aB false, nS, aB false, nS], .own [aB false, nS, aB false, nS]] <| .seq ?_
 obtain ⟨v7, hc8, v9, hc10, v11, hc12, hr⟩ := bd3 hr
 obtain ⟨v13, hc14, hr⟩ := bd hr
 refine .tn fine (ca1 (ok0 (fiducialref02_Add_ok n v3 v5 v7 hc8)) (ca1 (ok0 (fiducialref02_Add_ok n v1 v7 v9 hc10)) (ca1 (ok0 (fiducialref02_Int_ok n 3 v11 hc12)) (ca3 (ok0 (fiducialref02_Divide_ok n v9 v11 v13 hc14)))))) <| .mu 3 <| .ca cf0 <| .ca (cfA (fun h => by rw [sv hc10 hc8 (fiducialref02_Add_cg n h)]) cf0) <| .ca (cfF (cfF cf0)) <| .ca (cfF (cfF (cfF cf0))) <| .mu 6 ?_
 refine .done ⟨by kernel_rfl, ?_⟩
 refine .nh [3, 4, 5, 6, 7, 8] [.own (api_Rat.c v1), .own (api_Rat.c v3), .own (api_Rat.c v5), .own [aB false, nS, aB false, nS], .own [aB false, nS, aB false, nS], .own (api_Rat.c v13.1)] <| .seq <| .regionT fine callOf_nil <| .mu 4 ?_
 refine .done ⟨by kernel_rfl, ?_⟩
 refine .nh [3, 4, 5, 6, 7, 8, 10, 11] [.own (api_Rat.c v1), .own (api_Rat.c v3), .own (api_Rat.c v5), .own [aB false, nS, aB false, nS], .own [aB false, nS, aB false, nS], .own (api_Rat.c v13.1), .own (api_Rat.c v1)] <| .seq <| .seq <| .r5 fine [3, 4, 5, 6, 7, 8, 10, 11] [(36, .hs 7 0 3 4), (37, aI64 3), (38, aI64 0)] [.own (api_Rat.c v1), .own (api_Rat.c v3), .own (api_Rat.c v5), .own [aB false, nS, aB false, nS], .own [aB false, nS, aB false, nS], .own (api_Rat.c v13.1), .own (api_Rat.c v1), .own [aB v1.Num.Negative, sU32 v1.Num.Groups, aB v1.Den.Negative, sU32 v1.Den.Groups, aB v3.Num.Negative, sU32 v3.Num.Groups, aB v3.Den.Negative, sU32 v3.Den.Groups, aB v5.Num.Negative, sU32 v5.Num.Groups, aB v5.Den.Negative, sU32 v5.Den.Groups]] <| .block ?_
 replace hr := bd hr; obtain ⟨o66, hL67, hr⟩ := hr
 refine .loopO (σ := fun z0 => match z0 with | (up_42, last_43, last_44, last_45, last_46, x_47) => ⟨mkS 91 0 [(3, .hp 0 0), (4, .hp 1 0), (5, .hp 2 0), (6, .hp 3 0), (7, .hp 4 0), (8, .hp 5 0), (10, aI64 up_42), (11, .hp 6 0), (36, .hs 7 0 ([v1, v3, v5].length) 4), (37, aI64 3), (38, aI64 x_47)], [.own (api_Rat.c v1), .own (api_Rat.c v3), .own (api_Rat.c v5), .own [aB false, nS, aB false, nS], .own [aB false, nS, aB false, nS], .own (api_Rat.c v13.1), .own [aB last_43, sU32 last_44, aB last_45, sU32 last_46], .own ([v1, v3, v5].flatMap api_Rat.c)]⟩) (Q := fun x st' => match (generalizing := false) o66 with | (up_54, last_55, last_56, last_57, last_58) => x = .exit 0 ∧ Wk 0 st' ⟨mkS 91 0 [(3, .hp 0 0), (4, .hp 1 0), (5, .hp 2 0), (6, .hp 3 0), (7, .hp 4 0), (8, .hp 5 0), (10, aI64 up_54), (11, .hp 6 0)], [.own (api_Rat.c v1), .own (api_Rat.c v3), .own (api_Rat.c v5), .own [aB false, nS, aB false, nS], .own [aB false, nS, aB false, nS], .own (api_Rat.c v13.1), .own [aB last_55, sU32 last_56, aB last_57, sU32 last_58]]⟩) hL67 ((Wk.gc [3, 4, 5, 6, 7, 8, 10, 11, 36, 37, 38] [(0, true), (1, true), (2, true), (3, true), (4, true), (5, true), (6, true), (7, false)] rfl (pKt (pKt (pKt (pKt (pKt (pKt (pKt (pKc trivial))))))))).to (by kernel_rfl)) ?_ ?_
 ·clear hr
  rintro m ⟨up_42, last_43, last_44, last_45, last_46, x_47⟩ hr
  show CQ _ _ _ _ _ ⟨_, _⟩
  refine .seq <| .r4 fine [3, 4, 5, 6, 7, 8, 10, 11, 36, 37, 38] [(39, aB (decide (x_47 < 3)))] <| .seq ?_
  refine .cd hr (fun hb61 hr => ?_) (fun hb61 hr => ?_)
  ·refine .skip <| .seq <| .block <| .seq ?_
   obtain ⟨hg62, hr⟩ := gd hr
   refine .r0 fine <| .p0 (v := .hp 7 (0 + x_47.toNat * 4)) (tr (ofP_guard hg62)) <| .p0 (v := .agg (api_Rat.c (gt [v1, v3, v5] x_47))) (Eq.trans (b := ORes.ofP (guardV (decide (4 ≤ (([v1, v3, v5].flatMap api_Rat.c).drop (0 + x_47.toNat * 4)).length)) (.agg ((([v1, v3, v5].flatMap api_Rat.c).drop (0 + x_47.toNat * 4)).take 4)))) (by kernel_rfl) (flat_load api_Rat.len (inR_lt hg62) (by decide) (by omega : 0 + x_47.toNat * 4 = x_47.toNat * 4 + 0) (by kernel_rfl))) <| .mu 2 <| .done <| .nh [3, 4, 5, 6, 7, 8, 10, 11, 13, 36, 37, 38] [.own (api_Rat.c v1), .own (api_Rat.c v3), .own (api_Rat.c v5), .own [aB false, nS, aB false, nS], .own [aB false, nS, aB false, nS], .own (api_Rat.c v13.1), .own [aB last_43, sU32 last_44, aB last_45, sU32 last_46], .own ([v1, v3, v5].flatMap api_Rat.c), .own (api_Rat.c (gt [v1, v3, v5] x_47))] <| .seq ?_
   obtain ⟨v63, hc64, hr⟩ := bd hr
   refine .g1 fine (ok0 (fiducialref02_Sign_ok n (gt [v1, v3, v5] x_47) v63 hc64)) <| .mu 1 <| .ca cf0 <| .mu 1 <| .done <| .nh [3, 4, 5, 6, 7, 8, 10, 11, 13, 36, 37, 38, 44] [.own (api_Rat.c v1), .own (api_Rat.c v3), .own (api_Rat.c v5), .own [aB false, nS, aB false, nS], .own [aB false, nS, aB false, nS], .own (api_Rat.c v13.1), .own [aB last_43, sU32 last_44, aB last_45, sU32 last_46], .own ([v1, v3, v5].flatMap api_Rat.c), .own (api_Rat.c (gt [v1, v3, v5] x_47))] ?_
   refine .cd hr (fun hb65 hr => ?_) (fun hb65 hr => ?_)
   ·refine .seq <| .r4 fine [3, 4, 5, 6, 7, 8, 11, 13, 36, 37, 38] [(10, aI64 (wrapF .i64 (up_42 + 1)))] <| .ru fine <| .pop <| .ru fine ?_
    exact loopF_back (wrapF .i64 (up_42 + 1), (gt [v1, v3, v5] x_47).Num.Negative, (gt [v1, v3, v5] x_47).Num.Groups, (gt [v1, v3, v5] x_47).Den.Negative, (gt [v1, v3, v5] x_47).Den.Groups, wrapF .i64 (x_47 + 1)) hr ((Wk.gc [3, 4, 5, 6, 7, 8, 10, 11, 36, 37, 38] [(0, true), (1, true), (2, true), (3, true), (4, true), (5, true), (6, true), (7, false)] rfl (pKt (pKt (pKt (pKt (pKt (pKt (pKt (pKo api_Rat.c api_Rat.pure [v1, v3, v5] trivial))))))))).to (by kernel_rfl))
   ·refine .skip <| .pop <| .ru fine ?_
    exact loopF_back (up_42, last_43, last_44, last_45, last_46, wrapF .i64 (x_47 + 1)) hr ((Wk.gc [3, 4, 5, 6, 7, 8, 10, 11, 36, 37, 38] [(0, true), (1, true), (2, true), (3, true), (4, true), (5, true), (6, true), (7, false)] rfl (pKt (pKt (pKt (pKt (pKt (pKt (pKt (pKo api_Rat.c api_Rat.pure [v1, v3, v5] trivial))))))))).to (by kernel_rfl))
  ·refine .leave rfl ?_
   obtain rfl := oi hr
   exact ⟨rfl, ((Wk.gc [3, 4, 5, 6, 7, 8, 10, 11] [(0, true), (1, true), (2, true), (3, true), (4, true), (5, true), (6, true)] rfl trivial).to (by kernel_rfl))⟩
 ·rcases o66 with ⟨up_54, last_55, last_56, last_57, last_58⟩
  rintro x st' hq68
  clear hL67
  obtain ⟨rfl, hq68⟩ := hq68
  refine CQ_exit _ rfl <| .wk hq68 <| .seq <| .seq <| .r4 fine [3, 4, 5, 6, 7, 8, 10, 11] [(49, aI64 up_54)] <| .block <| .seq <| .r4 fine [3, 4, 5, 6, 7, 8, 10, 11, 49] [(66, aB ((up_54 : Int) == 0))] ?_
  refine .cd hr (fun hb69 hr => ?_) (fun hb69 hr => ?_)
  ·obtain ⟨v70, hc71, hr⟩ := bd hr
   refine .g1 fine (ok0 (fiducialref02_Int_ok n 0 v70 hc71)) <| .ca cf0 <| .mu 1 <| .done <| .pop <| .seq ?_
   obtain ⟨v72, hc73, hr⟩ := bd hr
   refine .t1 fine (ok0 (fiduciallaw52_minus_ok n v70 v13.1 v72 hc73)) <| .mu 3 <| .ca cf0 <| .mu 2 ?_
   refine .done ⟨by kernel_rfl, ?_⟩
   refine .nh [6, 7] [.own (api_Rat.c v1), .own (api_Rat.c v3), .own (api_Rat.c v5), .own (api_Rat.c v70), .own (api_Rat.c v72), .own (api_Rat.c v13.1), .own [aB last_55, sU32 last_56, aB last_57, sU32 last_58]] <| .ret ?_
   obtain rfl := oi hr
   exact FinQ.ret (vs := [.agg (api_Rat.c v70), .agg (api_Rat.c v72)]) (by kernel_rfl) (Sn.tup (SnL.cons (Sn.pure rfl) (SnL.cons (Sn.pure rfl) SnL.nil)))
  ·refine .seq <| .r4 fine [3, 4, 5, 6, 7, 8, 10, 11] [(69, aB ((up_54 : Int) == 1))] ?_
   refine .cd hr (fun hb74 hr => ?_) (fun hb74 hr => ?_)
   ·refine .seq <| .block ?_
    replace hr := bd hr; obtain ⟨o112, hL113, hr⟩ := hr
    refine .loopO (σ := fun z0 => match z0 with | (a_75, a_76, a_77, a_78, b_79, b_80, b_81, b_82, c_83, c_84, c_85, c_86) => ⟨mkS 91 0 [(3, .hp 0 0), (4, .hp 1 0), (5, .hp 2 0), (6, .hp 3 0), (7, .hp 4 0), (8, .hp 5 0), (11, .hp 6 0)], [.own [aB a_75, sU32 a_76, aB a_77, sU32 a_78], .own [aB b_79, sU32 b_80, aB b_81, sU32 b_82], .own [aB c_83, sU32 c_84, aB c_85, sU32 c_86], .own [aB false, nS, aB false, nS], .own [aB false, nS, aB false, nS], .own (api_Rat.c v13.1), .own [aB last_55, sU32 last_56, aB last_57, sU32 last_58]]⟩) (Q := fun x st' => match (generalizing := false) o112 with | (a_93, a_94, a_95, a_96, b_97, b_98, b_99, b_100, c_101, c_102, c_103, c_104) => x = .exit 3 ∧ Wk 0 st' ⟨mkS 91 0 [(3, .hp 0 0), (4, .hp 1 0), (5, .hp 2 0), (6, .hp 3 0), (7, .hp 4 0), (8, .hp 5 0)], [.own [aB a_93, sU32 a_94, aB a_95, sU32 a_96], .own [aB b_97, sU32 b_98, aB b_99, sU32 b_100], .own [aB c_101, sU32 c_102, aB c_103, sU32 c_104], .own [aB false, nS, aB false, nS], .own [aB false, nS, aB false, nS], .own (api_Rat.c v13.1)]⟩) hL113 ((Wk.gc [3, 4, 5, 6, 7, 8, 11] [(0, true), (1, true), (2, true), (3, true), (4, true), (5, true), (6, true)] rfl trivial).to (by kernel_rfl)) ?_ ?_
    ·clear hr
     rintro m ⟨a_75, a_76, a_77, a_78, b_79, b_80, b_81, b_82, c_83, c_84, c_85, c_86⟩ hr
     show CQ _ _ _ _ _ ⟨_, _⟩
     refine .seq <| .seq ?_
     obtain ⟨v106, hc107, hr⟩ := bd hr
     rcases Bool.eq_false_or_eq_true (!v106) with hb108 | hb108
     ·replace hr := cd_t hb108 hr
      refine .g1 fine (ok0 (fiducialref02_SameRat_ok n (api_Rat.mk (api_Int.mk a_75 a_76) (api_Int.mk a_77 a_78)) (api_Rat.mk (api_Int.mk last_55 last_56) (api_Int.mk last_57 last_58)) v106 hc107)) <| .mu 2 <| .ca cf0 <| .p0 (v := aB true) (eB hb108) <| .mu 5 <| .done <| .nh [3, 4, 5, 6, 7, 8, 11, 79] [.own [aB a_75, sU32 a_76, aB a_77, sU32 a_78], .own [aB b_79, sU32 b_80, aB b_81, sU32 b_82], .own [aB c_83, sU32 c_84, aB c_85, sU32 c_86], .own [aB false, nS, aB false, nS], .own [aB false, nS, aB false, nS], .own (api_Rat.c v13.1), .own [aB last_55, sU32 last_56, aB last_57, sU32 last_58]] <| .cT (by kernel_rfl) <| .skip <| .block <| .regionT fine callOf_nil <| .mu 6 ?_
      refine .done ⟨by kernel_rfl, ?_⟩
      refine .pop ?_
      exact loopF_back (b_79, b_80, b_81, b_82, c_83, c_84, c_85, c_86, a_75, a_76, a_77, a_78) hr ((Wk.gc [3, 4, 5, 6, 7, 8, 11] [(0, true), (1, true), (2, true), (3, true), (4, true), (5, true), (6, true)] rfl trivial).to (by kernel_rfl))
     ·replace hr := cd_f hb108 hr
      obtain ⟨v109, hc110, hr⟩ := bd hr
      refine .gn fine (ca1 (ok0 (fiducialref02_SameRat_ok n (api_Rat.mk (api_Int.mk a_75 a_76) (api_Int.mk a_77 a_78)) (api_Rat.mk (api_Int.mk last_55 last_56) (api_Int.mk last_57 last_58)) v106 hc107)) (ca3 (ok0 (fiducialref02_Sign_ok n (api_Rat.mk (api_Int.mk a_75 a_76) (api_Int.mk a_77 a_78)) v109 hc110)))) <| .mu 2 <| .ca cf0 <| .p0 (v := aB false) (eB hb108) <| .mu 2 <| .ca (cfF cf0) <| .mu 2 <| .done <| .nh [3, 4, 5, 6, 7, 8, 11, 79] [.own [aB a_75, sU32 a_76, aB a_77, sU32 a_78], .own [aB b_79, sU32 b_80, aB b_81, sU32 b_82], .own [aB c_83, sU32 c_84, aB c_85, sU32 c_86], .own [aB false, nS, aB false, nS], .own [aB false, nS, aB false, nS], .own (api_Rat.c v13.1), .own [aB last_55, sU32 last_56, aB last_57, sU32 last_58]] ?_
      refine .cd hr (fun hb111 hr => ?_) (fun hb111 hr => ?_)
      ·refine .skip <| .block <| .regionT fine callOf_nil <| .mu 6 ?_
       refine .done ⟨by kernel_rfl, ?_⟩
       refine .pop ?_
       exact loopF_back (b_79, b_80, b_81, b_82, c_83, c_84, c_85, c_86, a_75, a_76, a_77, a_78) hr ((Wk.gc [3, 4, 5, 6, 7, 8, 11] [(0, true), (1, true), (2, true), (3, true), (4, true), (5, true), (6, true)] rfl trivial).to (by kernel_rfl))
      ·refine .leave rfl ?_
       obtain rfl := oi hr
       exact ⟨rfl, ((Wk.gc [3, 4, 5, 6, 7, 8] [(0, true), (1, true), (2, true), (3, true), (4, true), (5, true)] rfl trivial).to (by kernel_rfl))⟩
    ·rcases o112 with ⟨a_93, a_94, a_95, a_96, b_97, b_98, b_99, b_100, c_101, c_102, c_103, c_104⟩
     rintro x st' hq114
     clear hL113
     obtain ⟨rfl, hq114⟩ := hq114
     refine CQ_exit _ rfl <| .wk hq114 ?_
     obtain ⟨v115, hc116, hr⟩ := bd hr
     refine .g1 fine (ok0 (fiduciallaw52_tip_ok n (api_Rat.mk (api_Int.mk a_93 a_94) (api_Int.mk a_95 a_96)) (api_Rat.mk (api_Int.mk b_97 b_98) (api_Int.mk b_99 b_100)) (api_Rat.mk (api_Int.mk c_101 c_102) (api_Int.mk c_103 c_104)) v115 hc116)) <| .mu 3 <| .ca cf0 <| .mu 1 <| .done <| .pop <| .seq ?_
     obtain ⟨v117, hc118, hr⟩ := bd hr
     refine .t1 fine (ok0 (fiduciallaw52_minus_ok n v115 v13.1 v117 hc118)) <| .mu 3 <| .ca cf0 <| .mu 2 ?_
     refine .done ⟨by kernel_rfl, ?_⟩
     refine .nh [6, 7] [.own [aB a_93, sU32 a_94, aB a_95, sU32 a_96], .own [aB b_97, sU32 b_98, aB b_99, sU32 b_100], .own [aB c_101, sU32 c_102, aB c_103, sU32 c_104], .own (api_Rat.c v115), .own (api_Rat.c v117), .own (api_Rat.c v13.1)] <| .ret ?_
     obtain rfl := oi hr
     exact FinQ.ret (vs := [.agg (api_Rat.c v115), .agg (api_Rat.c v117)]) (by kernel_rfl) (Sn.tup (SnL.cons (Sn.pure rfl) (SnL.cons (Sn.pure rfl) SnL.nil)))
   ·refine .seq ?_
    obtain ⟨v119, hc120, v121, hc122, v123, hc124, hr⟩ := bd3 hr
    obtain ⟨v125, hc126, hr⟩ := bd hr
    refine .tn fine (ca1 (ok0 (fiducialref02_Neg_ok n v1 v119 hc120)) (ca1 (ok0 (fiducialref02_Neg_ok n v3 v121 hc122)) (ca1 (ok0 (fiducialref02_Neg_ok n v5 v123 hc124)) (ca3 (ok0 (fiduciallaw52_triangle_3_ok n v119 v121 v123 v125 hc126)))))) <| .mu 1 <| .ca cf0 <| .mu 1 <| .ca (cfA (fun h => by rw [sv hc122 hc120 (fiducialref02_Neg_cg n h)]) cf0) <| .mu 1 <| .ca (cfA (fun h => by rw [sv hc124 hc120 (fiducialref02_Neg_cg n h)]) (cfA (fun h => by rw [sv hc124 hc122 (fiducialref02_Neg_cg n h)]) cf0)) <| .ca (cfF (cfF (cfF cf0))) <| .mu 7 ?_
    refine .done ⟨by kernel_rfl, ?_⟩
    refine .nh [6, 7, 8, 10, 14, 15] [.own (api_Rat.c v1), .own (api_Rat.c v3), .own (api_Rat.c v5), .own [aB false, nS, aB false, nS], .own [aB false, nS, aB false, nS], .own (api_Rat.c v13.1), .own [aB last_55, sU32 last_56, aB last_57, sU32 last_58], .own (api_Rat.c v125.1), .own (api_Rat.c v125.2)] <| .seq <| .seq <| .r4 fine [6, 7, 8, 14, 15] [(61, aB ((up_54 : Int) == 3))] ?_
    refine .cd hr (fun hb127 hr => ?_) (fun hb127 hr => ?_)
    ·refine .seq ?_
     obtain ⟨v128, hc129, hr⟩ := bd hr
     refine .t1 fine (ok0 (fiducialref02_Int_ok n 0 v128 hc129)) <| .mu 1 <| .ca cf0 <| .mu 2 ?_
     refine .done ⟨by kernel_rfl, ?_⟩
     refine .nh [6, 7] [.own (api_Rat.c v1), .own (api_Rat.c v3), .own (api_Rat.c v5), .own (api_Rat.c v13.1), .own (api_Rat.c v128), .own (api_Rat.c v13.1), .own [aB last_55, sU32 last_56, aB last_57, sU32 last_58], .own (api_Rat.c v125.1), .own (api_Rat.c v125.2)] <| .ret ?_
     obtain rfl := oi hr
     exact FinQ.ret (vs := [.agg (api_Rat.c v13.1), .agg (api_Rat.c v128)]) (by kernel_rfl) (Sn.tup (SnL.cons (Sn.pure rfl) (SnL.cons (Sn.pure rfl) SnL.nil)))
    ·refine .skip <| .seq <| .regionT fine callOf_nil <| .mu 4 ?_
     refine .done ⟨by kernel_rfl, ?_⟩
     refine .nh [6, 7] [.own (api_Rat.c v1), .own (api_Rat.c v3), .own (api_Rat.c v5), .own (api_Rat.c v125.2), .own (api_Rat.c v125.1), .own (api_Rat.c v13.1), .own [aB last_55, sU32 last_56, aB last_57, sU32 last_58], .own (api_Rat.c v125.1), .own (api_Rat.c v125.2)] <| .ret ?_
     obtain rfl := oi hr
     exact FinQ.ret (vs := [.agg (api_Rat.c v125.2), .agg (api_Rat.c v125.1)]) (by kernel_rfl) (Sn.tup (SnL.cons (Sn.pure rfl) (SnL.cons (Sn.pure rfl) SnL.nil)))

theorem fiduciallaw52_triangle_ok (n : Nat) (a : api_Rat) (b : api_Rat) (c : api_Rat) (r : api_Rat × api_Rat) (hr : fiduciallaw52_triangle n a b c = some r) : FnOk Tryz.prog 14 [.agg (api_Rat.c a), .agg (api_Rat.c b), .agg (api_Rat.c c)] (.tup [.agg (api_Rat.c r.1), .agg (api_Rat.c r.2)]) := by
 unfold fiduciallaw52_triangle at hr
 refine FnOk.bd fine Tryz.func14 [.cell 6 44, .cell 7 44] ?_
 unfold Tryz.f14
 simp only [Option.getD_some]
 refine .seq <| .r2 fine 91 [(3, .hp 0 0), (4, .hp 1 0), (5, .hp 2 0), (6, .hp 3 0), (7, .hp 4 0)] [.own (api_Rat.c a), .own (api_Rat.c b), .own (api_Rat.c c), .own [aB false, nS, aB false, nS], .own [aB false, nS, aB false, nS]] <| .seq ?_
 obtain ⟨v1, hc2, v3, hc4, v5, hc6, hr⟩ := bd3 hr
 refine .tn fine (ca1 (ok0 (fiducialref02_Value_ok n a v1 hc2)) (ca1 (ok0 (fiducialref02_Value_ok n b v3 hc4)) (ca3 (ok0 (fiducialref02_Value_ok n c v5 hc6))))) <| .mu 1 <| .ca cf0 <| .mu 1 <| .ca (cfA (fun h => by rw [sv hc4 hc2 (fiducialref02_Value_cg n h)]) cf0) <| .mu 1 <| .ca (cfA (fun h => by rw [sv hc6 hc2 (fiducialref02_Value_cg n h)]) (cfA (fun h => by rw [sv hc6 hc4 (fiducialref02_Value_cg n h)]) cf0)) <| .mu 3 ?_
 refine .done ⟨by kernel_rfl, ?_⟩
 refine .nh [3, 4, 5, 6, 7] [.own (api_Rat.c v1), .own (api_Rat.c v3), .own (api_Rat.c v5), .own [aB false, nS, aB false, nS], .own [aB false, nS, aB false, nS]] <| .seq ?_
 obtain ⟨v7, hc8, v9, hc10, v11, hc12, hr⟩ := bd3 hr
 obtain ⟨v13, hc14, hr⟩ := bd hr
 refine .tn fine (ca1 (ok0 (fiducialref02_Add_ok n v3 v5 v7 hc8)) (ca1 (ok0 (fiducialref02_Add_ok n v1 v7 v9 hc10)) (ca1 (ok0 (fiducialref02_Int_ok n 3 v11 hc12)) (ca3 (ok0 (fiducialref02_Divide_ok n v9 v11 v13 hc14)))))) <| .mu 3 <| .ca cf0 <| .ca (cfA (fun h => by rw [sv hc10 hc8 (fiducialref02_Add_cg n h)]) cf0) <| .ca (cfF (cfF cf0)) <| .ca (cfF (cfF (cfF cf0))) <| .mu 6 ?_
 refine .done ⟨by kernel_rfl, ?_⟩
 refine .nh [3, 4, 5, 6, 7, 8] [.own (api_Rat.c v1), .own (api_Rat.c v3), .own (api_Rat.c v5), .own [aB false, nS, aB false, nS], .own [aB false, nS, aB false, nS], .own (api_Rat.c v13.1)] <| .seq <| .regionT fine callOf_nil <| .mu 4 ?_
 refine .done ⟨by kernel_rfl, ?_⟩
 refine .nh [3, 4, 5, 6, 7, 8, 10, 11] [.own (api_Rat.c v1), .own (api_Rat.c v3), .own (api_Rat.c v5), .own [aB false, nS, aB false, nS], .own [aB false, nS, aB false, nS], .own (api_Rat.c v13.1), .own (api_Rat.c v1)] <| .seq <| .seq <| .r5 fine [3, 4, 5, 6, 7, 8, 10, 11] [(36, .hs 7 0 3 4), (37, aI64 3), (38, aI64 0)] [.own (api_Rat.c v1), .own (api_Rat.c v3), .own (api_Rat.c v5), .own [aB false, nS, aB false, nS], .own [aB false, nS, aB false, nS], .own (api_Rat.c v13.1), .own (api_Rat.c v1), .own [aB v1.Num.Negative, sU32 v1.Num.Groups, aB v1.Den.Negative, sU32 v1.Den.Groups, aB v3.Num.Negative, sU32 v3.Num.Groups, aB v3.Den.Negative, sU32 v3.Den.Groups, aB v5.Num.Negative, sU32 v5.Num.Groups, aB v5.Den.Negative, sU32 v5.Den.Groups]] <| .block ?_
 replace hr := bd hr; obtain ⟨o66, hL67, hr⟩ := hr
 refine .loopO (σ := fun z0 => match z0 with | (up_42, last_43, last_44, last_45, last_46, x_47) => ⟨mkS 91 0 [(3, .hp 0 0), (4, .hp 1 0), (5, .hp 2 0), (6, .hp 3 0), (7, .hp 4 0), (8, .hp 5 0), (10, aI64 up_42), (11, .hp 6 0), (36, .hs 7 0 ([v1, v3, v5].length) 4), (37, aI64 3), (38, aI64 x_47)], [.own (api_Rat.c v1), .own (api_Rat.c v3), .own (api_Rat.c v5), .own [aB false, nS, aB false, nS], .own [aB false, nS, aB false, nS], .own (api_Rat.c v13.1), .own [aB last_43, sU32 last_44, aB last_45, sU32 last_46], .own ([v1, v3, v5].flatMap api_Rat.c)]⟩) (Q := fun x st' => match (generalizing := false) o66 with | (up_54, last_55, last_56, last_57, last_58) => x = .exit 0 ∧ Wk 0 st' ⟨mkS 91 0 [(3, .hp 0 0), (4, .hp 1 0), (5, .hp 2 0), (6, .hp 3 0), (7, .hp 4 0), (8, .hp 5 0), (10, aI64 up_54), (11, .hp 6 0)], [.own (api_Rat.c v1), .own (api_Rat.c v3), .own (api_Rat.c v5), .own [aB false, nS, aB false, nS], .own [aB false, nS, aB false, nS], .own (api_Rat.c v13.1), .own [aB last_55, sU32 last_56, aB last_57, sU32 last_58]]⟩) hL67 ((Wk.gc [3, 4, 5, 6, 7, 8, 10, 11, 36, 37, 38] [(0, true), (1, true), (2, true), (3, true), (4, true), (5, true), (6, true), (7, false)] rfl (pKt (pKt (pKt (pKt (pKt (pKt (pKt (pKc trivial))))))))).to (by kernel_rfl)) ?_ ?_
 ·clear hr
  rintro m ⟨up_42, last_43, last_44, last_45, last_46, x_47⟩ hr
  show CQ _ _ _ _ _ ⟨_, _⟩
  refine .seq <| .r4 fine [3, 4, 5, 6, 7, 8, 10, 11, 36, 37, 38] [(39, aB (decide (x_47 < 3)))] <| .seq ?_
  refine .cd hr (fun hb61 hr => ?_) (fun hb61 hr => ?_)
  ·refine .skip <| .seq <| .block <| .seq ?_
   obtain ⟨hg62, hr⟩ := gd hr
   refine .r0 fine <| .p0 (v := .hp 7 (0 + x_47.toNat * 4)) (tr (ofP_guard hg62)) <| .p0 (v := .agg (api_Rat.c (gt [v1, v3, v5] x_47))) (Eq.trans (b := ORes.ofP (guardV (decide (4 ≤ (([v1, v3, v5].flatMap api_Rat.c).drop (0 + x_47.toNat * 4)).length)) (.agg ((([v1, v3, v5].flatMap api_Rat.c).drop (0 + x_47.toNat * 4)).take 4)))) (by kernel_rfl) (flat_load api_Rat.len (inR_lt hg62) (by decide) (by omega : 0 + x_47.toNat * 4 = x_47.toNat * 4 + 0) (by kernel_rfl))) <| .mu 2 <| .done <| .nh [3, 4, 5, 6, 7, 8, 10, 11, 13, 36, 37, 38] [.own (api_Rat.c v1), .own (api_Rat.c v3), .own (api_Rat.c v5), .own [aB false, nS, aB false, nS], .own [aB false, nS, aB false, nS], .own (api_Rat.c v13.1), .own [aB last_43, sU32 last_44, aB last_45, sU32 last_46], .own ([v1, v3, v5].flatMap api_Rat.c), .own (api_Rat.c (gt [v1, v3, v5] x_47))] <| .seq ?_
   obtain ⟨v63, hc64, hr⟩ := bd hr
   refine .g1 fine (ok0 (fiducialref02_Sign_ok n (gt [v1, v3, v5] x_47) v63 hc64)) <| .mu 1 <| .ca cf0 <| .mu 1 <| .done <| .nh [3, 4, 5, 6, 7, 8, 10, 11, 13, 36, 37, 38, 44] [.own (api_Rat.c v1), .own (api_Rat.c v3), .own (api_Rat.c v5), .own [aB false, nS, aB false, nS], .own [aB false, nS, aB false, nS], .own (api_Rat.c v13.1), .own [aB last_43, sU32 last_44, aB last_45, sU32 last_46], .own ([v1, v3, v5].flatMap api_Rat.c), .own (api_Rat.c (gt [v1, v3, v5] x_47))] ?_
   refine .cd hr (fun hb65 hr => ?_) (fun hb65 hr => ?_)
   ·refine .seq <| .r4 fine [3, 4, 5, 6, 7, 8, 11, 13, 36, 37, 38] [(10, aI64 (wrapF .i64 (up_42 + 1)))] <| .ru fine <| .pop <| .ru fine ?_
    exact loopF_back (wrapF .i64 (up_42 + 1), (gt [v1, v3, v5] x_47).Num.Negative, (gt [v1, v3, v5] x_47).Num.Groups, (gt [v1, v3, v5] x_47).Den.Negative, (gt [v1, v3, v5] x_47).Den.Groups, wrapF .i64 (x_47 + 1)) hr ((Wk.gc [3, 4, 5, 6, 7, 8, 10, 11, 36, 37, 38] [(0, true), (1, true), (2, true), (3, true), (4, true), (5, true), (6, true), (7, false)] rfl (pKt (pKt (pKt (pKt (pKt (pKt (pKt (pKo api_Rat.c api_Rat.pure [v1, v3, v5] trivial))))))))).to (by kernel_rfl))
   ·refine .skip <| .pop <| .ru fine ?_
    exact loopF_back (up_42, last_43, last_44, last_45, last_46, wrapF .i64 (x_47 + 1)) hr ((Wk.gc [3, 4, 5, 6, 7, 8, 10, 11, 36, 37, 38] [(0, true), (1, true), (2, true), (3, true), (4, true), (5, true), (6, true), (7, false)] rfl (pKt (pKt (pKt (pKt (pKt (pKt (pKt (pKo api_Rat.c api_Rat.pure [v1, v3, v5] trivial))))))))).to (by kernel_rfl))
  ·refine .leave rfl ?_
   obtain rfl := oi hr
   exact ⟨rfl, ((Wk.gc [3, 4, 5, 6, 7, 8, 10, 11] [(0, true), (1, true), (2, true), (3, true), (4, true), (5, true), (6, true)] rfl trivial).to (by kernel_rfl))⟩
 ·rcases o66 with ⟨up_54, last_55, last_56, last_57, last_58⟩
  rintro x st' hq68
  clear hL67
  obtain ⟨rfl, hq68⟩ := hq68
  refine CQ_exit _ rfl <| .wk hq68 <| .seq <| .seq <| .r4 fine [3, 4, 5, 6, 7, 8, 10, 11] [(49, aI64 up_54)] <| .block <| .seq <| .r4 fine [3, 4, 5, 6, 7, 8, 10, 11, 49] [(66, aB ((up_54 : Int) == 0))] ?_
  refine .cd hr (fun hb69 hr => ?_) (fun hb69 hr => ?_)
  ·obtain ⟨v70, hc71, hr⟩ := bd hr
   refine .g1 fine (ok0 (fiducialref02_Int_ok n 0 v70 hc71)) <| .ca cf0 <| .mu 1 <| .done <| .pop <| .seq ?_
   obtain ⟨v72, hc73, hr⟩ := bd hr
   refine .t1 fine (ok0 (fiduciallaw52_minus_ok n v70 v13.1 v72 hc73)) <| .mu 3 <| .ca cf0 <| .mu 2 ?_
   refine .done ⟨by kernel_rfl, ?_⟩
   refine .nh [6, 7] [.own (api_Rat.c v1), .own (api_Rat.c v3), .own (api_Rat.c v5), .own (api_Rat.c v70), .own (api_Rat.c v72), .own (api_Rat.c v13.1), .own [aB last_55, sU32 last_56, aB last_57, sU32 last_58]] <| .ret ?_
   obtain rfl := oi hr
   exact FinQ.ret (vs := [.agg (api_Rat.c v70), .agg (api_Rat.c v72)]) (by kernel_rfl) (Sn.tup (SnL.cons (Sn.pure rfl) (SnL.cons (Sn.pure rfl) SnL.nil)))
  ·refine .seq <| .r4 fine [3, 4, 5, 6, 7, 8, 10, 11] [(69, aB ((up_54 : Int) == 1))] ?_
   refine .cd hr (fun hb74 hr => ?_) (fun hb74 hr => ?_)
   ·refine .seq <| .block ?_
    replace hr := bd hr; obtain ⟨o112, hL113, hr⟩ := hr
    refine .loopO (σ := fun z0 => match z0 with | (a_75, a_76, a_77, a_78, b_79, b_80, b_81, b_82, c_83, c_84, c_85, c_86) => ⟨mkS 91 0 [(3, .hp 0 0), (4, .hp 1 0), (5, .hp 2 0), (6, .hp 3 0), (7, .hp 4 0), (8, .hp 5 0), (11, .hp 6 0)], [.own [aB a_75, sU32 a_76, aB a_77, sU32 a_78], .own [aB b_79, sU32 b_80, aB b_81, sU32 b_82], .own [aB c_83, sU32 c_84, aB c_85, sU32 c_86], .own [aB false, nS, aB false, nS], .own [aB false, nS, aB false, nS], .own (api_Rat.c v13.1), .own [aB last_55, sU32 last_56, aB last_57, sU32 last_58]]⟩) (Q := fun x st' => match (generalizing := false) o112 with | (a_93, a_94, a_95, a_96, b_97, b_98, b_99, b_100, c_101, c_102, c_103, c_104) => x = .exit 3 ∧ Wk 0 st' ⟨mkS 91 0 [(3, .hp 0 0), (4, .hp 1 0), (5, .hp 2 0), (6, .hp 3 0), (7, .hp 4 0), (8, .hp 5 0)], [.own [aB a_93, sU32 a_94, aB a_95, sU32 a_96], .own [aB b_97, sU32 b_98, aB b_99, sU32 b_100], .own [aB c_101, sU32 c_102, aB c_103, sU32 c_104], .own [aB false, nS, aB false, nS], .own [aB false, nS, aB false, nS], .own (api_Rat.c v13.1)]⟩) hL113 ((Wk.gc [3, 4, 5, 6, 7, 8, 11] [(0, true), (1, true), (2, true), (3, true), (4, true), (5, true), (6, true)] rfl trivial).to (by kernel_rfl)) ?_ ?_
    ·clear hr
     rintro m ⟨a_75, a_76, a_77, a_78, b_79, b_80, b_81, b_82, c_83, c_84, c_85, c_86⟩ hr
     show CQ _ _ _ _ _ ⟨_, _⟩
     refine .seq <| .seq ?_
     obtain ⟨v106, hc107, hr⟩ := bd hr
     rcases Bool.eq_false_or_eq_true (!v106) with hb108 | hb108
     ·replace hr := cd_t hb108 hr
      refine .g1 fine (ok0 (fiducialref02_SameRat_ok n (api_Rat.mk (api_Int.mk a_75 a_76) (api_Int.mk a_77 a_78)) (api_Rat.mk (api_Int.mk last_55 last_56) (api_Int.mk last_57 last_58)) v106 hc107)) <| .mu 2 <| .ca cf0 <| .p0 (v := aB true) (eB hb108) <| .mu 5 <| .done <| .nh [3, 4, 5, 6, 7, 8, 11, 79] [.own [aB a_75, sU32 a_76, aB a_77, sU32 a_78], .own [aB b_79, sU32 b_80, aB b_81, sU32 b_82], .own [aB c_83, sU32 c_84, aB c_85, sU32 c_86], .own [aB false, nS, aB false, nS], .own [aB false, nS, aB false, nS], .own (api_Rat.c v13.1), .own [aB last_55, sU32 last_56, aB last_57, sU32 last_58]] <| .cT (by kernel_rfl) <| .skip <| .block <| .regionT fine callOf_nil <| .mu 6 ?_
      refine .done ⟨by kernel_rfl, ?_⟩
      refine .pop ?_
      exact loopF_back (b_79, b_80, b_81, b_82, c_83, c_84, c_85, c_86, a_75, a_76, a_77, a_78) hr ((Wk.gc [3, 4, 5, 6, 7, 8, 11] [(0, true), (1, true), (2, true), (3, true), (4, true), (5, true), (6, true)] rfl trivial).to (by kernel_rfl))
     ·replace hr := cd_f hb108 hr
      obtain ⟨v109, hc110, hr⟩ := bd hr
      refine .gn fine (ca1 (ok0 (fiducialref02_SameRat_ok n (api_Rat.mk (api_Int.mk a_75 a_76) (api_Int.mk a_77 a_78)) (api_Rat.mk (api_Int.mk last_55 last_56) (api_Int.mk last_57 last_58)) v106 hc107)) (ca3 (ok0 (fiducialref02_Sign_ok n (api_Rat.mk (api_Int.mk a_75 a_76) (api_Int.mk a_77 a_78)) v109 hc110)))) <| .mu 2 <| .ca cf0 <| .p0 (v := aB false) (eB hb108) <| .mu 2 <| .ca (cfF cf0) <| .mu 2 <| .done <| .nh [3, 4, 5, 6, 7, 8, 11, 79] [.own [aB a_75, sU32 a_76, aB a_77, sU32 a_78], .own [aB b_79, sU32 b_80, aB b_81, sU32 b_82], .own [aB c_83, sU32 c_84, aB c_85, sU32 c_86], .own [aB false, nS, aB false, nS], .own [aB false, nS, aB false, nS], .own (api_Rat.c v13.1), .own [aB last_55, sU32 last_56, aB last_57, sU32 last_58]] ?_
      refine .cd hr (fun hb111 hr => ?_) (fun hb111 hr => ?_)
      ·refine .skip <| .block <| .regionT fine callOf_nil <| .mu 6 ?_
       refine .done ⟨by kernel_rfl, ?_⟩
       refine .pop ?_
       exact loopF_back (b_79, b_80, b_81, b_82, c_83, c_84, c_85, c_86, a_75, a_76, a_77, a_78) hr ((Wk.gc [3, 4, 5, 6, 7, 8, 11] [(0, true), (1, true), (2, true), (3, true), (4, true), (5, true), (6, true)] rfl trivial).to (by kernel_rfl))
      ·refine .leave rfl ?_
       obtain rfl := oi hr
       exact ⟨rfl, ((Wk.gc [3, 4, 5, 6, 7, 8] [(0, true), (1, true), (2, true), (3, true), (4, true), (5, true)] rfl trivial).to (by kernel_rfl))⟩
    ·rcases o112 with ⟨a_93, a_94, a_95, a_96, b_97, b_98, b_99, b_100, c_101, c_102, c_103, c_104⟩
     rintro x st' hq114
     clear hL113
     obtain ⟨rfl, hq114⟩ := hq114
     refine CQ_exit _ rfl <| .wk hq114 ?_
     obtain ⟨v115, hc116, hr⟩ := bd hr
     refine .g1 fine (ok0 (fiduciallaw52_tip_ok n (api_Rat.mk (api_Int.mk a_93 a_94) (api_Int.mk a_95 a_96)) (api_Rat.mk (api_Int.mk b_97 b_98) (api_Int.mk b_99 b_100)) (api_Rat.mk (api_Int.mk c_101 c_102) (api_Int.mk c_103 c_104)) v115 hc116)) <| .mu 3 <| .ca cf0 <| .mu 1 <| .done <| .pop <| .seq ?_
     obtain ⟨v117, hc118, hr⟩ := bd hr
     refine .t1 fine (ok0 (fiduciallaw52_minus_ok n v115 v13.1 v117 hc118)) <| .mu 3 <| .ca cf0 <| .mu 2 ?_
     refine .done ⟨by kernel_rfl, ?_⟩
     refine .nh [6, 7] [.own [aB a_93, sU32 a_94, aB a_95, sU32 a_96], .own [aB b_97, sU32 b_98, aB b_99, sU32 b_100], .own [aB c_101, sU32 c_102, aB c_103, sU32 c_104], .own (api_Rat.c v115), .own (api_Rat.c v117), .own (api_Rat.c v13.1)] <| .ret ?_
     obtain rfl := oi hr
     exact FinQ.ret (vs := [.agg (api_Rat.c v115), .agg (api_Rat.c v117)]) (by kernel_rfl) (Sn.tup (SnL.cons (Sn.pure rfl) (SnL.cons (Sn.pure rfl) SnL.nil)))
   ·refine .seq ?_
    obtain ⟨v119, hc120, v121, hc122, v123, hc124, hr⟩ := bd3 hr
    obtain ⟨v125, hc126, hr⟩ := bd hr
    refine .tn fine (ca1 (ok0 (fiducialref02_Neg_ok n v1 v119 hc120)) (ca1 (ok0 (fiducialref02_Neg_ok n v3 v121 hc122)) (ca1 (ok0 (fiducialref02_Neg_ok n v5 v123 hc124)) (ca3 (ok0 (fiduciallaw52_triangle_2_ok n v119 v121 v123 v125 hc126)))))) <| .mu 1 <| .ca cf0 <| .mu 1 <| .ca (cfA (fun h => by rw [sv hc122 hc120 (fiducialref02_Neg_cg n h)]) cf0) <| .mu 1 <| .ca (cfA (fun h => by rw [sv hc124 hc120 (fiducialref02_Neg_cg n h)]) (cfA (fun h => by rw [sv hc124 hc122 (fiducialref02_Neg_cg n h)]) cf0)) <| .ca (cfF (cfF (cfF cf0))) <| .mu 7 ?_
    refine .done ⟨by kernel_rfl, ?_⟩
    refine .nh [6, 7, 8, 10, 14, 15] [.own (api_Rat.c v1), .own (api_Rat.c v3), .own (api_Rat.c v5), .own [aB false, nS, aB false, nS], .own [aB false, nS, aB false, nS], .own (api_Rat.c v13.1), .own [aB last_55, sU32 last_56, aB last_57, sU32 last_58], .own (api_Rat.c v125.1), .own (api_Rat.c v125.2)] <| .seq <| .seq <| .r4 fine [6, 7, 8, 14, 15] [(61, aB ((up_54 : Int) == 3))] ?_
    refine .cd hr (fun hb127 hr => ?_) (fun hb127 hr => ?_)
    ·refine .seq ?_
     obtain ⟨v128, hc129, hr⟩ := bd hr
     refine .t1 fine (ok0 (fiducialref02_Int_ok n 0 v128 hc129)) <| .mu 1 <| .ca cf0 <| .mu 2 ?_
     refine .done ⟨by kernel_rfl, ?_⟩
     refine .nh [6, 7] [.own (api_Rat.c v1), .own (api_Rat.c v3), .own (api_Rat.c v5), .own (api_Rat.c v13.1), .own (api_Rat.c v128), .own (api_Rat.c v13.1), .own [aB last_55, sU32 last_56, aB last_57, sU32 last_58], .own (api_Rat.c v125.1), .own (api_Rat.c v125.2)] <| .ret ?_
     obtain rfl := oi hr
     exact FinQ.ret (vs := [.agg (api_Rat.c v13.1), .agg (api_Rat.c v128)]) (by kernel_rfl) (Sn.tup (SnL.cons (Sn.pure rfl) (SnL.cons (Sn.pure rfl) SnL.nil)))
    ·refine .skip <| .seq <| .regionT fine callOf_nil <| .mu 4 ?_
     refine .done ⟨by kernel_rfl, ?_⟩
     refine .nh [6, 7] [.own (api_Rat.c v1), .own (api_Rat.c v3), .own (api_Rat.c v5), .own (api_Rat.c v125.2), .own (api_Rat.c v125.1), .own (api_Rat.c v13.1), .own [aB last_55, sU32 last_56, aB last_57, sU32 last_58], .own (api_Rat.c v125.1), .own (api_Rat.c v125.2)] <| .ret ?_
     obtain rfl := oi hr
     exact FinQ.ret (vs := [.agg (api_Rat.c v125.2), .agg (api_Rat.c v125.1)]) (by kernel_rfl) (Sn.tup (SnL.cons (Sn.pure rfl) (SnL.cons (Sn.pure rfl) SnL.nil)))

theorem fiduciallaw52_VolumeTriangles_ok (n : Nat) (a : api_Rat) (b : api_Rat) (c : api_Rat) (r : Bool) (hr : fiduciallaw52_VolumeTriangles n a b c = some r) : FnOk Tryz.prog 4 [.agg (api_Rat.c a), .agg (api_Rat.c b), .agg (api_Rat.c c)] (aB r) := by
 unfold fiduciallaw52_VolumeTriangles at hr
 refine FnOk.bd fine Tryz.func4 [.tmp 6] ?_
 unfold Tryz.f4
 simp only [Option.getD_some]
 refine .seq <| .r2 fine 118 [(3, .hp 0 0), (4, .hp 1 0), (5, .hp 2 0)] [.own (api_Rat.c a), .own (api_Rat.c b), .own (api_Rat.c c)] <| .seq <| .seq ?_
 obtain ⟨v1, hc2, hr⟩ := bd hr
 refine .g1 fine (ok0 (fiduciallaw52_known_ok n v1 hc2)) <| .ca cf0 <| .mu 1 <| .done <| .n2 118 [(3, .hp 0 0), (4, .hp 1 0), (5, .hp 2 0), (18, aB (!v1))] [.own (api_Rat.c a), .own (api_Rat.c b), .own (api_Rat.c c)] ?_
 refine .cd hr (fun hb4 hr => ?_) (fun hb4 hr => ?_)
 ·refine .seq <| .ru fine <| .ret ?_
  obtain rfl := oi hr
  exact FinQ.r1 [aB false]
 ·refine .skip <| .seq <| .seq ?_
  obtain ⟨v5, hc6, hr⟩ := bd hr
  rcases Bool.eq_false_or_eq_true (!v5) with hb7 | hb7
  ·replace hr := cd_t hb7 hr
   refine .g1 fine (ok0 (fiduciallaw52_small_ok n a v5 hc6)) <| .mu 1 <| .ca cf0 <| .p0 (v := aB true) (eB hb7) <| .mu 10 <| .done <| .n2 118 [(3, .hp 0 0), (4, .hp 1 0), (5, .hp 2 0), (31, aB true)] [.own (api_Rat.c a), .own (api_Rat.c b), .own (api_Rat.c c)] <| .cT (by kernel_rfl) <| .seq <| .ru fine <| .ret ?_
   obtain rfl := oi hr
   exact FinQ.r1 [aB true]
  ·replace hr := cd_f hb7 hr
   obtain ⟨v8, hc9, hr⟩ := bd hr
   rcases Bool.eq_false_or_eq_true (!v8) with hb10 | hb10
   ·replace hr := cd_t hb10 hr
    refine .gn fine (ca1 (ok0 (fiduciallaw52_small_ok n a v5 hc6)) (ca3 (ok0 (fiduciallaw52_small_ok n b v8 hc9)))) <| .mu 1 <| .ca cf0 <| .p0 (v := aB false) (eB hb7) <| .mu 2 <| .ca (cfA (fun h => by rw [sv hc9 hc6 (fiduciallaw52_small_cg n h)]) cf0) <| .pure (v := aB true) (by kernel_rfl) (eB hb10) <| .mu 6 <| .done <| .n2 118 [(3, .hp 0 0), (4, .hp 1 0), (5, .hp 2 0), (31, aB true)] [.own (api_Rat.c a), .own (api_Rat.c b), .own (api_Rat.c c)] <| .cT (by kernel_rfl) <| .seq <| .ru fine <| .ret ?_
    obtain rfl := oi hr
    exact FinQ.r1 [aB true]
   ·replace hr := cd_f hb10 hr
    obtain ⟨v11, hc12, hr⟩ := bd hr
    refine .gn fine (ca1 (ok0 (fiduciallaw52_small_ok n a v5 hc6)) (ca1 (ok0 (fiduciallaw52_small_ok n b v8 hc9)) (ca3 (ok0 (fiduciallaw52_small_ok n c v11 hc12))))) <| .mu 1 <| .ca cf0 <| .p0 (v := aB false) (eB hb7) <| .mu 2 <| .ca (cfA (fun h => by rw [sv hc9 hc6 (fiduciallaw52_small_cg n h)]) cf0) <| .pure (v := aB false) (by kernel_rfl) (eB hb10) <| .mu 3 <| .ca (cfA (fun h => by rw [sv hc12 hc6 (fiduciallaw52_small_cg n h)]) (cfA (fun h => by rw [sv hc12 hc9 (fiduciallaw52_small_cg n h)]) cf0)) <| .mu 2 <| .done <| .n2 118 [(3, .hp 0 0), (4, .hp 1 0), (5, .hp 2 0), (31, aB (!v11))] [.own (api_Rat.c a), .own (api_Rat.c b), .own (api_Rat.c c)] ?_
    refine .cd hr (fun hb14 hr => ?_) (fun hb14 hr => ?_)
    ·refine .seq <| .ru fine <| .ret ?_
     obtain rfl := oi hr
     exact FinQ.r1 [aB true]
    ·refine .skip <| .seq ?_
     obtain ⟨v15, hc16, hr⟩ := bd hr
     refine .g1 fine (ok0 (volume_Triangle_ok n a b c v15 hc16)) <| .mu 3 <| .ca cf0 <| .mu 7 <| .done <| .n2 118 [(3, .hp 0 0), (4, .hp 1 0), (5, .hp 2 0), (7, .hp 3 0), (8, .hp 4 0)] [.own (api_Rat.c a), .own (api_Rat.c b), .own (api_Rat.c c), .own (api_Rat.c v15.1), .own (api_Rat.c v15.2)] <| .seq ?_
     obtain ⟨v17, hc18, hr⟩ := bd hr
     refine .g1 fine (ok0 (fiduciallaw52_triangle_ok n a b c v17 hc18)) <| .mu 3 <| .ca cf0 <| .mu 7 <| .done <| .n2 118 [(3, .hp 0 0), (4, .hp 1 0), (5, .hp 2 0), (7, .hp 3 0), (8, .hp 4 0), (9, .hp 5 0), (10, .hp 6 0)] [.own (api_Rat.c a), .own (api_Rat.c b), .own (api_Rat.c c), .own (api_Rat.c v15.1), .own (api_Rat.c v15.2), .own (api_Rat.c v17.1), .own (api_Rat.c v17.2)] <| .seq ?_
     obtain ⟨v19, hc20, hr⟩ := bd hr
     refine .g1 fine (ok0 (volume_Triangle_ok n c b a v19 hc20)) <| .mu 3 <| .ca cf0 <| .mu 7 <| .done <| .n2 118 [(3, .hp 0 0), (4, .hp 1 0), (5, .hp 2 0), (7, .hp 3 0), (8, .hp 4 0), (9, .hp 5 0), (10, .hp 6 0), (11, .hp 7 0), (12, .hp 8 0)] [.own (api_Rat.c a), .own (api_Rat.c b), .own (api_Rat.c c), .own (api_Rat.c v15.1), .own (api_Rat.c v15.2), .own (api_Rat.c v17.1), .own (api_Rat.c v17.2), .own (api_Rat.c v19.1), .own (api_Rat.c v19.2)] <| .seq ?_
     obtain ⟨v21, hc22, hr⟩ := bd hr
     refine .g1 fine (ok0 (volume_Triangle_ok n b c a v21 hc22)) <| .mu 3 <| .ca cf0 <| .mu 7 <| .done <| .n2 118 [(3, .hp 0 0), (4, .hp 1 0), (5, .hp 2 0), (7, .hp 3 0), (8, .hp 4 0), (9, .hp 5 0), (10, .hp 6 0), (11, .hp 7 0), (12, .hp 8 0), (13, .hp 9 0), (14, .hp 10 0)] [.own (api_Rat.c a), .own (api_Rat.c b), .own (api_Rat.c c), .own (api_Rat.c v15.1), .own (api_Rat.c v15.2), .own (api_Rat.c v17.1), .own (api_Rat.c v17.2), .own (api_Rat.c v19.1), .own (api_Rat.c v19.2), .own (api_Rat.c v21.1), .own (api_Rat.c v21.2)] <| .seq ?_
     obtain ⟨v23, hc24, v25, hc26, v27, hc28, hr⟩ := bd3 hr
     obtain ⟨v29, hc30, hr⟩ := bd hr
     refine .tn fine (ca1 (ok0 (fiducialref02_Neg_ok n a v23 hc24)) (ca1 (ok0 (fiducialref02_Neg_ok n b v25 hc26)) (ca1 (ok0 (fiducialref02_Neg_ok n c v27 hc28)) (ca3 (ok0 (volume_Triangle_ok n v23 v25 v27 v29 hc30)))))) <| .mu 1 <| .ca cf0 <| .mu 1 <| .ca (cfA (fun h => by rw [sv hc26 hc24 (fiducialref02_Neg_cg n h)]) cf0) <| .mu 1 <| .ca (cfA (fun h => by rw [sv hc28 hc24 (fiducialref02_Neg_cg n h)]) (cfA (fun h => by rw [sv hc28 hc26 (fiducialref02_Neg_cg n h)]) cf0)) <| .ca (cfF (cfF (cfF cf0))) <| .mu 7 ?_
     refine .done ⟨by kernel_rfl, ?_⟩
     refine .n2 118 [(7, .hp 3 0), (8, .hp 4 0), (9, .hp 5 0), (10, .hp 6 0), (11, .hp 7 0), (12, .hp 8 0), (13, .hp 9 0), (14, .hp 10 0), (15, .hp 11 0), (16, .hp 12 0)] [.own (api_Rat.c a), .own (api_Rat.c b), .own (api_Rat.c c), .own (api_Rat.c v15.1), .own (api_Rat.c v15.2), .own (api_Rat.c v17.1), .own (api_Rat.c v17.2), .own (api_Rat.c v19.1), .own (api_Rat.c v19.2), .own (api_Rat.c v21.1), .own (api_Rat.c v21.2), .own (api_Rat.c v29.1), .own (api_Rat.c v29.2)] <| .seq ?_
     obtain ⟨v31, hc32, hr⟩ := bd hr
     rcases Bool.eq_false_or_eq_true v31 with hb33 | hb33
     ·subst hb33
      replace hr := cd_t rfl hr
      obtain ⟨v34, hc35, hr⟩ := bd hr
      rcases Bool.eq_false_or_eq_true v34 with hb36 | hb36
      ·subst hb36
       replace hr := cd_t rfl hr
       obtain ⟨v37, hc38, hr⟩ := bd hr
       rcases Bool.eq_false_or_eq_true (decide (v37 ≥ 0)) with hb39 | hb39
       ·replace hr := cd_t hb39 hr
        obtain ⟨v40, hc41, hr⟩ := bd hr
        rcases Bool.eq_false_or_eq_true (decide (v40 ≥ 0)) with hb42 | hb42
        ·replace hr := cd_t hb42 hr
         obtain ⟨v43, hc44, hr⟩ := bd hr
         rcases Bool.eq_false_or_eq_true v43 with hb45 | hb45
         ·subst hb45
          replace hr := cd_t rfl hr
          obtain ⟨v46, hc47, hr⟩ := bd hr
          rcases Bool.eq_false_or_eq_true v46 with hb48 | hb48
          ·subst hb48
           replace hr := cd_t rfl hr
           obtain ⟨v49, hc50, hr⟩ := bd hr
           rcases Bool.eq_false_or_eq_true v49 with hb51 | hb51
           ·subst hb51
            replace hr := cd_t rfl hr
            obtain ⟨v52, hc53, hr⟩ := bd hr
            rcases Bool.eq_false_or_eq_true v52 with hb54 | hb54
            ·subst hb54
             replace hr := cd_t rfl hr
             obtain ⟨v55, hc56, hr⟩ := bd hr
             rcases Bool.eq_false_or_eq_true v55 with hb57 | hb57
             ·subst hb57
              replace hr := cd_t rfl hr
              obtain ⟨v58, hc59, hr⟩ := bd hr
              refine .gn fine (ca1 (ok0 (fiducialref02_SameRat_ok n v15.1 v17.1 true hc32)) (ca1 (ok0 (fiducialref02_SameRat_ok n v15.2 v17.2 true hc35)) (ca1 (ok0 (fiducialref02_Sign_ok n v15.1 v37 hc38)) (ca1 (ok0 (fiducialref02_Sign_ok n v15.2 v40 hc41)) (ca1 (ok0 (fiducialref02_SameRat_ok n v15.1 v19.1 true hc44)) (ca1 (ok0 (fiducialref02_SameRat_ok n v15.2 v19.2 true hc47)) (ca1 (ok0 (fiducialref02_SameRat_ok n v15.1 v21.1 true hc50)) (ca1 (ok0 (fiducialref02_SameRat_ok n v15.2 v21.2 true hc53)) (ca1 (ok0 (fiducialref02_SameRat_ok n v29.1 v15.2 true hc56)) (ca3 (ok0 (fiducialref02_SameRat_ok n v29.2 v15.1 v58 hc59)))))))))))) <| .mu 2 <| .ca cf0 <| .mu 3 <| .ca (cfA (fun h => by rw [sv hc35 hc32 (fiducialref02_SameRat_cg n h)]) cf0) <| .mu 3 <| .ca (cfF (cfF cf0)) <| .pure (v := aB true) (by kernel_rfl) (eB hb39) <| .mu 3 <| .ca (cfF (cfF (cfA (fun h => by rw [sv hc41 hc38 (fiducialref02_Sign_cg n h)]) cf0))) <| .pure (v := aB true) (by kernel_rfl) (eB hb42) <| .mu 4 <| .ca (cfA (fun h => by rw [sv hc44 hc32 (fiducialref02_SameRat_cg n h)]) (cfA (fun h => by rw [sv hc44 hc35 (fiducialref02_SameRat_cg n h)]) (cfF (cfF cf0)))) <| .mu 4 <| .ca (cfA (fun h => by rw [sv hc47 hc32 (fiducialref02_SameRat_cg n h)]) (cfA (fun h => by rw [sv hc47 hc35 (fiducialref02_SameRat_cg n h)]) (cfF (cfF (cfA (fun h => by rw [sv hc47 hc44 (fiducialref02_SameRat_cg n h)]) cf0))))) <| .mu 4 <| .ca (cfA (fun h => by rw [sv hc50 hc32 (fiducialref02_SameRat_cg n h)]) (cfA (fun h => by rw [sv hc50 hc35 (fiducialref02_SameRat_cg n h)]) (cfF (cfF (cfA (fun h => by rw [sv hc50 hc44 (fiducialref02_SameRat_cg n h)]) (cfA (fun h => by rw [sv hc50 hc47 (fiducialref02_SameRat_cg n h)]) cf0)))))) <| .mu 4 <| .ca (cfA (fun h => by rw [sv hc53 hc32 (fiducialref02_SameRat_cg n h)]) (cfA (fun h => by rw [sv hc53 hc35 (fiducialref02_SameRat_cg n h)]) (cfF (cfF (cfA (fun h => by rw [sv hc53 hc44 (fiducialref02_SameRat_cg n h)]) (cfA (fun h => by rw [sv hc53 hc47 (fiducialref02_SameRat_cg n h)]) (cfA (fun h => by rw [sv hc53 hc50 (fiducialref02_SameRat_cg n h)]) cf0))))))) <| .mu 4 <| .ca (cfA (fun h => by rw [sv hc56 hc32 (fiducialref02_SameRat_cg n h)]) (cfA (fun h => by rw [sv hc56 hc35 (fiducialref02_SameRat_cg n h)]) (cfF (cfF (cfA (fun h => by rw [sv hc56 hc44 (fiducialref02_SameRat_cg n h)]) (cfA (fun h => by rw [sv hc56 hc47 (fiducialref02_SameRat_cg n h)]) (cfA (fun h => by rw [sv hc56 hc50 (fiducialref02_SameRat_cg n h)]) (cfA (fun h => by rw [sv hc56 hc53 (fiducialref02_SameRat_cg n h)]) cf0)))))))) <| .mu 4 <| .ca (cfA (fun h => by rw [sv hc59 hc32 (fiducialref02_SameRat_cg n h)]) (cfA (fun h => by rw [sv hc59 hc35 (fiducialref02_SameRat_cg n h)]) (cfF (cfF (cfA (fun h => by rw [sv hc59 hc44 (fiducialref02_SameRat_cg n h)]) (cfA (fun h => by rw [sv hc59 hc47 (fiducialref02_SameRat_cg n h)]) (cfA (fun h => by rw [sv hc59 hc50 (fiducialref02_SameRat_cg n h)]) (cfA (fun h => by rw [sv hc59 hc53 (fiducialref02_SameRat_cg n h)]) (cfA (fun h => by rw [sv hc59 hc56 (fiducialref02_SameRat_cg n h)]) cf0))))))))) <| .mu 2 <| .done <| .ret ?_
              obtain rfl := oi hr
              exact FinQ.r1 [aB v58]
             ·subst hb57
              replace hr := cd_f rfl hr
              refine .gn fine (ca1 (ok0 (fiducialref02_SameRat_ok n v15.1 v17.1 true hc32)) (ca1 (ok0 (fiducialref02_SameRat_ok n v15.2 v17.2 true hc35)) (ca1 (ok0 (fiducialref02_Sign_ok n v15.1 v37 hc38)) (ca1 (ok0 (fiducialref02_Sign_ok n v15.2 v40 hc41)) (ca1 (ok0 (fiducialref02_SameRat_ok n v15.1 v19.1 true hc44)) (ca1 (ok0 (fiducialref02_SameRat_ok n v15.2 v19.2 true hc47)) (ca1 (ok0 (fiducialref02_SameRat_ok n v15.1 v21.1 true hc50)) (ca1 (ok0 (fiducialref02_SameRat_ok n v15.2 v21.2 true hc53)) (ca3 (ok0 (fiducialref02_SameRat_ok n v29.1 v15.2 false hc56))))))))))) <| .mu 2 <| .ca cf0 <| .mu 3 <| .ca (cfA (fun h => by rw [sv hc35 hc32 (fiducialref02_SameRat_cg n h)]) cf0) <| .mu 3 <| .ca (cfF (cfF cf0)) <| .pure (v := aB true) (by kernel_rfl) (eB hb39) <| .mu 3 <| .ca (cfF (cfF (cfA (fun h => by rw [sv hc41 hc38 (fiducialref02_Sign_cg n h)]) cf0))) <| .pure (v := aB true) (by kernel_rfl) (eB hb42) <| .mu 4 <| .ca (cfA (fun h => by rw [sv hc44 hc32 (fiducialref02_SameRat_cg n h)]) (cfA (fun h => by rw [sv hc44 hc35 (fiducialref02_SameRat_cg n h)]) (cfF (cfF cf0)))) <| .mu 4 <| .ca (cfA (fun h => by rw [sv hc47 hc32 (fiducialref02_SameRat_cg n h)]) (cfA (fun h => by rw [sv hc47 hc35 (fiducialref02_SameRat_cg n h)]) (cfF (cfF (cfA (fun h => by rw [sv hc47 hc44 (fiducialref02_SameRat_cg n h)]) cf0))))) <| .mu 4 <| .ca (cfA (fun h => by rw [sv hc50 hc32 (fiducialref02_SameRat_cg n h)]) (cfA (fun h => by rw [sv hc50 hc35 (fiducialref02_SameRat_cg n h)]) (cfF (cfF (cfA (fun h => by rw [sv hc50 hc44 (fiducialref02_SameRat_cg n h)]) (cfA (fun h => by rw [sv hc50 hc47 (fiducialref02_SameRat_cg n h)]) cf0)))))) <| .mu 4 <| .ca (cfA (fun h => by rw [sv hc53 hc32 (fiducialref02_SameRat_cg n h)]) (cfA (fun h => by rw [sv hc53 hc35 (fiducialref02_SameRat_cg n h)]) (cfF (cfF (cfA (fun h => by rw [sv hc53 hc44 (fiducialref02_SameRat_cg n h)]) (cfA (fun h => by rw [sv hc53 hc47 (fiducialref02_SameRat_cg n h)]) (cfA (fun h => by rw [sv hc53 hc50 (fiducialref02_SameRat_cg n h)]) cf0))))))) <| .mu 4 <| .ca (cfA (fun h => by rw [sv hc56 hc32 (fiducialref02_SameRat_cg n h)]) (cfA (fun h => by rw [sv hc56 hc35 (fiducialref02_SameRat_cg n h)]) (cfF (cfF (cfA (fun h => by rw [sv hc56 hc44 (fiducialref02_SameRat_cg n h)]) (cfA (fun h => by rw [sv hc56 hc47 (fiducialref02_SameRat_cg n h)]) (cfA (fun h => by rw [sv hc56 hc50 (fiducialref02_SameRat_cg n h)]) (cfA (fun h => by rw [sv hc56 hc53 (fiducialref02_SameRat_cg n h)]) cf0)))))))) <| .mu 7 <| .done <| .ret ?_
              obtain rfl := oi hr
              exact FinQ.r1 [aB false]
            ·subst hb54
             replace hr := cd_f rfl hr
             refine .gn fine (ca1 (ok0 (fiducialref02_SameRat_ok n v15.1 v17.1 true hc32)) (ca1 (ok0 (fiducialref02_SameRat_ok n v15.2 v17.2 true hc35)) (ca1 (ok0 (fiducialref02_Sign_ok n v15.1 v37 hc38)) (ca1 (ok0 (fiducialref02_Sign_ok n v15.2 v40 hc41)) (ca1 (ok0 (fiducialref02_SameRat_ok n v15.1 v19.1 true hc44)) (ca1 (ok0 (fiducialref02_SameRat_ok n v15.2 v19.2 true hc47)) (ca1 (ok0 (fiducialref02_SameRat_ok n v15.1 v21.1 true hc50)) (ca3 (ok0 (fiducialref02_SameRat_ok n v15.2 v21.2 false hc53)))))))))) <| .mu 2 <| .ca cf0 <| .mu 3 <| .ca (cfA (fun h => by rw [sv hc35 hc32 (fiducialref02_SameRat_cg n h)]) cf0) <| .mu 3 <| .ca (cfF (cfF cf0)) <| .pure (v := aB true) (by kernel_rfl) (eB hb39) <| .mu 3 <| .ca (cfF (cfF (cfA (fun h => by rw [sv hc41 hc38 (fiducialref02_Sign_cg n h)]) cf0))) <| .pure (v := aB true) (by kernel_rfl) (eB hb42) <| .mu 4 <| .ca (cfA (fun h => by rw [sv hc44 hc32 (fiducialref02_SameRat_cg n h)]) (cfA (fun h => by rw [sv hc44 hc35 (fiducialref02_SameRat_cg n h)]) (cfF (cfF cf0)))) <| .mu 4 <| .ca (cfA (fun h => by rw [sv hc47 hc32 (fiducialref02_SameRat_cg n h)]) (cfA (fun h => by rw [sv hc47 hc35 (fiducialref02_SameRat_cg n h)]) (cfF (cfF (cfA (fun h => by rw [sv hc47 hc44 (fiducialref02_SameRat_cg n h)]) cf0))))) <| .mu 4 <| .ca (cfA (fun h => by rw [sv hc50 hc32 (fiducialref02_SameRat_cg n h)]) (cfA (fun h => by rw [sv hc50 hc35 (fiducialref02_SameRat_cg n h)]) (cfF (cfF (cfA (fun h => by rw [sv hc50 hc44 (fiducialref02_SameRat_cg n h)]) (cfA (fun h => by rw [sv hc50 hc47 (fiducialref02_SameRat_cg n h)]) cf0)))))) <| .mu 4 <| .ca (cfA (fun h => by rw [sv hc53 hc32 (fiducialref02_SameRat_cg n h)]) (cfA (fun h => by rw [sv hc53 hc35 (fiducialref02_SameRat_cg n h)]) (cfF (cfF (cfA (fun h => by rw [sv hc53 hc44 (fiducialref02_SameRat_cg n h)]) (cfA (fun h => by rw [sv hc53 hc47 (fiducialref02_SameRat_cg n h)]) (cfA (fun h => by rw [sv hc53 hc50 (fiducialref02_SameRat_cg n h)]) cf0))))))) <| .mu 12 <| .done <| .ret ?_
             obtain rfl := oi hr
             exact FinQ.r1 [aB false]
           ·subst hb51
            replace hr := cd_f rfl hr
            refine .gn fine (ca1 (ok0 (fiducialref02_SameRat_ok n v15.1 v17.1 true hc32)) (ca1 (ok0 (fiducialref02_SameRat_ok n v15.2 v17.2 true hc35)) (ca1 (ok0 (fiducialref02_Sign_ok n v15.1 v37 hc38)) (ca1 (ok0 (fiducialref02_Sign_ok n v15.2 v40 hc41)) (ca1 (ok0 (fiducialref02_SameRat_ok n v15.1 v19.1 true hc44)) (ca1 (ok0 (fiducialref02_SameRat_ok n v15.2 v19.2 true hc47)) (ca3 (ok0 (fiducialref02_SameRat_ok n v15.1 v21.1 false hc50))))))))) <| .mu 2 <| .ca cf0 <| .mu 3 <| .ca (cfA (fun h => by rw [sv hc35 hc32 (fiducialref02_SameRat_cg n h)]) cf0) <| .mu 3 <| .ca (cfF (cfF cf0)) <| .pure (v := aB true) (by kernel_rfl) (eB hb39) <| .mu 3 <| .ca (cfF (cfF (cfA (fun h => by rw [sv hc41 hc38 (fiducialref02_Sign_cg n h)]) cf0))) <| .pure (v := aB true) (by kernel_rfl) (eB hb42) <| .mu 4 <| .ca (cfA (fun h => by rw [sv hc44 hc32 (fiducialref02_SameRat_cg n h)]) (cfA (fun h => by rw [sv hc44 hc35 (fiducialref02_SameRat_cg n h)]) (cfF (cfF cf0)))) <| .mu 4 <| .ca (cfA (fun h => by rw [sv hc47 hc32 (fiducialref02_SameRat_cg n h)]) (cfA (fun h => by rw [sv hc47 hc35 (fiducialref02_SameRat_cg n h)]) (cfF (cfF (cfA (fun h => by rw [sv hc47 hc44 (fiducialref02_SameRat_cg n h)]) cf0))))) <| .mu 4 <| .ca (cfA (fun h => by rw [sv hc50 hc32 (fiducialref02_SameRat_cg n h)]) (cfA (fun h => by rw [sv hc50 hc35 (fiducialref02_SameRat_cg n h)]) (cfF (cfF (cfA (fun h => by rw [sv hc50 hc44 (fiducialref02_SameRat_cg n h)]) (cfA (fun h => by rw [sv hc50 hc47 (fiducialref02_SameRat_cg n h)]) cf0)))))) <| .mu 17 <| .done <| .ret ?_
            obtain rfl := oi hr
            exact FinQ.r1 [aB false]
          ·subst hb48
           replace hr := cd_f rfl hr
           refine .gn fine (ca1 (ok0 (fiducialref02_SameRat_ok n v15.1 v17.1 true hc32)) (ca1 (ok0 (fiducialref02_SameRat_ok n v15.2 v17.2 true hc35)) (ca1 (ok0 (fiducialref02_Sign_ok n v15.1 v37 hc38)) (ca1 (ok0 (fiducialref02_Sign_ok n v15.2 v40 hc41)) (ca1 (ok0 (fiducialref02_SameRat_ok n v15.1 v19.1 true hc44)) (ca3 (ok0 (fiducialref02_SameRat_ok n v15.2 v19.2 false hc47)))))))) <| .mu 2 <| .ca cf0 <| .mu 3 <| .ca (cfA (fun h => by rw [sv hc35 hc32 (fiducialref02_SameRat_cg n h)]) cf0) <| .mu 3 <| .ca (cfF (cfF cf0)) <| .pure (v := aB true) (by kernel_rfl) (eB hb39) <| .mu 3 <| .ca (cfF (cfF (cfA (fun h => by rw [sv hc41 hc38 (fiducialref02_Sign_cg n h)]) cf0))) <| .pure (v := aB true) (by kernel_rfl) (eB hb42) <| .mu 4 <| .ca (cfA (fun h => by rw [sv hc44 hc32 (fiducialref02_SameRat_cg n h)]) (cfA (fun h => by rw [sv hc44 hc35 (fiducialref02_SameRat_cg n h)]) (cfF (cfF cf0)))) <| .mu 4 <| .ca (cfA (fun h => by rw [sv hc47 hc32 (fiducialref02_SameRat_cg n h)]) (cfA (fun h => by rw [sv hc47 hc35 (fiducialref02_SameRat_cg n h)]) (cfF (cfF (cfA (fun h => by rw [sv hc47 hc44 (fiducialref02_SameRat_cg n h)]) cf0))))) <| .mu 22 <| .done <| .ret ?_
           obtain rfl := oi hr
           exact FinQ.r1 [aB false]
         ·subst hb45
          replace hr := cd_f rfl hr
          refine .gn fine (ca1 (ok0 (fiducialref02_SameRat_ok n v15.1 v17.1 true hc32)) (ca1 (ok0 (fiducialref02_SameRat_ok n v15.2 v17.2 true hc35)) (ca1 (ok0 (fiducialref02_Sign_ok n v15.1 v37 hc38)) (ca1 (ok0 (fiducialref02_Sign_ok n v15.2 v40 hc41)) (ca3 (ok0 (fiducialref02_SameRat_ok n v15.1 v19.1 false hc44))))))) <| .mu 2 <| .ca cf0 <| .mu 3 <| .ca (cfA (fun h => by rw [sv hc35 hc32 (fiducialref02_SameRat_cg n h)]) cf0) <| .mu 3 <| .ca (cfF (cfF cf0)) <| .pure (v := aB true) (by kernel_rfl) (eB hb39) <| .mu 3 <| .ca (cfF (cfF (cfA (fun h => by rw [sv hc41 hc38 (fiducialref02_Sign_cg n h)]) cf0))) <| .pure (v := aB true) (by kernel_rfl) (eB hb42) <| .mu 4 <| .ca (cfA (fun h => by rw [sv hc44 hc32 (fiducialref02_SameRat_cg n h)]) (cfA (fun h => by rw [sv hc44 hc35 (fiducialref02_SameRat_cg n h)]) (cfF (cfF cf0)))) <| .mu 27 <| .done <| .ret ?_
          obtain rfl := oi hr
          exact FinQ.r1 [aB false]
        ·replace hr := cd_f hb42 hr
         refine .gn fine (ca1 (ok0 (fiducialref02_SameRat_ok n v15.1 v17.1 true hc32)) (ca1 (ok0 (fiducialref02_SameRat_ok n v15.2 v17.2 true hc35)) (ca1 (ok0 (fiducialref02_Sign_ok n v15.1 v37 hc38)) (ca3 (ok0 (fiducialref02_Sign_ok n v15.2 v40 hc41)))))) <| .mu 2 <| .ca cf0 <| .mu 3 <| .ca (cfA (fun h => by rw [sv hc35 hc32 (fiducialref02_SameRat_cg n h)]) cf0) <| .mu 3 <| .ca (cfF (cfF cf0)) <| .pure (v := aB true) (by kernel_rfl) (eB hb39) <| .mu 3 <| .ca (cfF (cfF (cfA (fun h => by rw [sv hc41 hc38 (fiducialref02_Sign_cg n h)]) cf0))) <| .pure (v := aB false) (by kernel_rfl) (eB hb42) <| .mu 32 <| .done <| .ret ?_
         obtain rfl := oi hr
         exact FinQ.r1 [aB false]
       ·replace hr := cd_f hb39 hr
        refine .gn fine (ca1 (ok0 (fiducialref02_SameRat_ok n v15.1 v17.1 true hc32)) (ca1 (ok0 (fiducialref02_SameRat_ok n v15.2 v17.2 true hc35)) (ca3 (ok0 (fiducialref02_Sign_ok n v15.1 v37 hc38))))) <| .mu 2 <| .ca cf0 <| .mu 3 <| .ca (cfA (fun h => by rw [sv hc35 hc32 (fiducialref02_SameRat_cg n h)]) cf0) <| .mu 3 <| .ca (cfF (cfF cf0)) <| .pure (v := aB false) (by kernel_rfl) (eB hb39) <| .mu 37 <| .done <| .ret ?_
        obtain rfl := oi hr
        exact FinQ.r1 [aB false]
      ·subst hb36
       replace hr := cd_f rfl hr
       refine .gn fine (ca1 (ok0 (fiducialref02_SameRat_ok n v15.1 v17.1 true hc32)) (ca3 (ok0 (fiducialref02_SameRat_ok n v15.2 v17.2 false hc35)))) <| .mu 2 <| .ca cf0 <| .mu 3 <| .ca (cfA (fun h => by rw [sv hc35 hc32 (fiducialref02_SameRat_cg n h)]) cf0) <| .mu 42 <| .done <| .ret ?_
       obtain rfl := oi hr
       exact FinQ.r1 [aB false]
     ·subst hb33
      replace hr := cd_f rfl hr
      refine .g1 fine (ok0 (fiducialref02_SameRat_ok n v15.1 v17.1 false hc32)) <| .mu 2 <| .ca cf0 <| .mu 46 <| .done <| .ret ?_
      obtain rfl := oi hr
      exact FinQ.r1 [aB false]
end Go.L
