/- The program's functions compute what the plain Lean programs compute, part 3; printed by a program. -/
import Derived.Test.YtdfhpiaapdbdpaaGreatParLP2
import Derived.Test.YtdfhpiaapdbdpaaGreatL0jmgiaknl
import Derived.Test.YtdfhpiaapdbdpaaGreatChecked
import Derived.KernelRfl
set_option linter.all false
set_option maxRecDepth 100000
set_option maxHeartbeats 4000000
namespace Go.L
open Go Go.Eng Go.Proofs
theorem volume_Solid_ok (n : Nat) (g : api_Grid) (base : Int) (r : api_Mesh × Int) (hr : volume_Solid n g base = some r) : FnOk Tryz.prog 22 [.agg (api_Grid.c g), aI64 base] (.tup [.agg (api_Mesh.c r.1), aI64 r.2]) := by
 unfold volume_Solid at hr
 refine FnOk.bd fine Tryz.func22 [.cell 4 64, .tmp 5] ?_
 unfold Tryz.f22
 simp only [Option.getD_some]
 refine .seq <| .r5 fine [1] [(2, .hp 0 0), (4, .hp 1 0)] [.own (api_Grid.c g), .own [nS, nS]] <| .seq <| .seq ?_
 obtain ⟨v1, hc2, hr⟩ := bd hr
 refine .g1 fine (ok0 (terrain_Check_ok n g v1 hc2)) <| .mu 1 <| .ca cf0 <| .mu 1 <| .done <| .nh [1, 2, 4, 6] [.own (api_Grid.c g), .own [nS, nS]] <| .seq <| .r4 fine [1, 2, 4, 6] [(20, aB ((v1 : Int) != 0))] ?_
 refine .cd hr (fun hb4 hr => ?_) (fun hb4 hr => ?_)
 ·refine .seq <| .r4 fine [4] [(5, aI64 v1)] <| .ret ?_
  obtain rfl := oi hr
  exact FinQ.ret (vs := [.agg [nS, nS], aI64 v1]) (by kernel_rfl) (Sn.tup (SnL.cons (Sn.agg (SnL.cons Sn.nilsl (SnL.cons Sn.nilsl SnL.nil))) (SnL.cons (Sn.pure rfl) SnL.nil)))
 ·refine .skip <| .seq <| .regionT fine callOf_nil <| .mu 8 ?_
  refine .done ⟨by kernel_rfl, ?_⟩
  refine .nh [1, 2, 4, 7, 8] [.own (api_Grid.c g), .own [nS, nS], .own [aI64 (g.Z.length : Int)]] <| .seq <| .seq <| .r4 fine [1, 2, 4, 7, 8] [(29, aB (decide ((g.Z.length : Int) > 256)))] ?_
  refine .cd hr (fun hb6 hr => ?_) (fun hb6 hr => ?_)
  ·refine .seq <| .r4 fine [4] [(5, aI64 3)] <| .ret ?_
   obtain rfl := oi hr
   exact FinQ.ret (vs := [.agg [nS, nS], aI64 3]) (by kernel_rfl) (Sn.tup (SnL.cons (Sn.agg (SnL.cons Sn.nilsl (SnL.cons Sn.nilsl SnL.nil))) (SnL.cons (Sn.pure rfl) SnL.nil)))
  ·refine .skip <| .seq <| .seq ?_
   obtain ⟨v7, hc8, hr⟩ := bd hr
   refine .g1 fine (ok0 (slices_Contains_int_int_ok n g.Z (-2147483648) v7 hc8)) <| .mu 2 <| .ca cf0 <| .done <| .nh [1, 2, 4, 7, 8, 33] [.own (api_Grid.c g), .own [nS, nS], .own [aI64 (g.Z.length : Int)]] ?_
   refine .cd hr (fun hb10 hr => ?_) (fun hb10 hr => ?_)
   ·refine .seq <| .r4 fine [4] [(5, aI64 6)] <| .ret ?_
    obtain rfl := oi hr
    exact FinQ.ret (vs := [.agg [nS, nS], aI64 6]) (by kernel_rfl) (Sn.tup (SnL.cons (Sn.agg (SnL.cons Sn.nilsl (SnL.cons Sn.nilsl SnL.nil))) (SnL.cons (Sn.pure rfl) SnL.nil)))
   ·refine .skip <| .seq <| .seq ?_
    obtain ⟨v11, hc12, hr⟩ := bd hr
    rcases Bool.eq_false_or_eq_true v11 with hb13 | hb13
    ·subst hb13
     replace hr := cd_t rfl hr
     refine .g1 fine (ok0 (volume_far_ok n base true hc12)) <| .mu 1 <| .ca cf0 <| .mu 7 <| .done <| .nh [1, 2, 4, 7, 8, 43] [.own (api_Grid.c g), .own [nS, nS], .own [aI64 (g.Z.length : Int)]] <| .cT (by kernel_rfl) <| .seq <| .r4 fine [4] [(5, aI64 2)] <| .ret ?_
     obtain rfl := oi hr
     exact FinQ.ret (vs := [.agg [nS, nS], aI64 2]) (by kernel_rfl) (Sn.tup (SnL.cons (Sn.agg (SnL.cons Sn.nilsl (SnL.cons Sn.nilsl SnL.nil))) (SnL.cons (Sn.pure rfl) SnL.nil)))
    ·subst hb13
     replace hr := cd_f rfl hr
     obtain ⟨v14, hc15, hr⟩ := bd hr
     refine .gn fine (ca1 (ok0 (volume_far_ok n base false hc12)) (ca3 (ok0 (slices_Min_int_int_ok n g.Z v14 hc15)))) <| .mu 1 <| .ca cf0 <| .mu 3 <| .ca (cfF cf0) <| .mu 3 <| .done <| .nh [1, 2, 4, 7, 8, 43] [.own (api_Grid.c g), .own [nS, nS], .own [aI64 (g.Z.length : Int)]] ?_
     refine .cd hr (fun hb17 hr => ?_) (fun hb17 hr => ?_)
     ·refine .seq <| .r4 fine [4] [(5, aI64 2)] <| .ret ?_
      obtain rfl := oi hr
      exact FinQ.ret (vs := [.agg [nS, nS], aI64 2]) (by kernel_rfl) (Sn.tup (SnL.cons (Sn.agg (SnL.cons Sn.nilsl (SnL.cons Sn.nilsl SnL.nil))) (SnL.cons (Sn.pure rfl) SnL.nil)))
     ·refine .skip <| .seq <| .r5 fine [1, 2, 4, 7, 8] [(9, .hp 3 0)] [.own (api_Grid.c g), .own [nS, nS], .own [aI64 (g.Z.length : Int)], .own [nS, nS]] <| .seq <| .seq <| .r4 fine [1, 2, 4, 7, 8, 9] [(46, aI64 (wrapF .i64 (2 * (g.Z.length : Int)))), (47, aI64 0)] <| .block ?_
      replace hr := bd hr; obtain ⟨out_57, hL70, hr⟩ := hr
      refine .loopO (σ := fun z0 => match z0 with | (out_45, x_46) => ⟨mkS 171 0 [(1, aI64 base), (2, .hp 0 0), (4, .hp 1 0), (7, aI64 g.Width), (8, .hp 2 0), (9, .hp 3 0), (46, aI64 (wrapF .i64 (2 * (g.Z.length : Int)))), (47, aI64 x_46)], [.own (api_Grid.c g), .own [nS, nS], .own [aI64 (g.Z.length : Int)], .own [.hs 4 0 out_45.length 3, nS], .own (out_45.flatMap api_Spot.c)]⟩) (Q := fun x st' => x = .exit 0 ∧ Wk 0 st' ⟨mkS 171 0 [(2, .hp 0 0), (4, .hp 1 0), (7, aI64 g.Width), (8, .hp 2 0), (9, .hp 3 0)], [.own (api_Grid.c g), .own [nS, nS], .own [aI64 (g.Z.length : Int)], .own [.hs 4 0 out_57.length 3, nS], .own (out_57.flatMap api_Spot.c)]⟩) hL70 ((Wk.nilcell 3 0 3 (cs := [nS, nS]) (by kernel_rfl) (by kernel_rfl)).trans ((Wk.gc [1, 2, 4, 7, 8, 9, 46, 47] [(0, true), (1, true), (2, true), (3, true), (4, false)] rfl (pKt (pKt (pKt (pKt (pKc trivial)))))).to (by kernel_rfl))) ?_ ?_
      ·clear hr
       rintro m ⟨out_45, x_46⟩ hr
       show CQ _ _ _ _ _ ⟨_, _⟩
       refine .seq <| .r4 fine [1, 2, 4, 7, 8, 9, 46, 47] [(48, aB (decide (x_46 < (wrapF .i64 (2 * (g.Z.length : Int))))))] <| .seq ?_
       refine .cd hr (fun hb60 hr => ?_) (fun hb60 hr => ?_)
       ·refine .skip <| .seq <| .block <| .seq <| .r4 fine [1, 2, 4, 7, 8, 9, 46, 47] [(10, aI64 x_46)] <| .seq ?_
        obtain ⟨hg61, hg62, hr⟩ := gd2 hr
        refine .regionT fine callOf_nil <| .mu 4 <| .pure (v := aI64 (x_46.tmod (g.Z.length : Int))) (by kernel_rfl) (op_rem (x := x_46) (y := (g.Z.length : Int)) (by kernel_rfl) (by kernel_rfl) hg61) (by kernel_rfl) <| .mu 1 <| .pure (v := aI64 ((x_46.tmod (g.Z.length : Int)).tmod g.Width)) (by kernel_rfl) (op_rem (x := x_46.tmod (g.Z.length : Int)) (y := g.Width) (by kernel_rfl) (by kernel_rfl) hg62) (by kernel_rfl) <| .mu 8 <| .pure (v := aI64 (x_46.tmod (g.Z.length : Int))) (by kernel_rfl) (op_rem (x := x_46) (y := (g.Z.length : Int)) (by kernel_rfl) (by kernel_rfl) hg61) (by kernel_rfl) <| .mu 1 <| .pure (v := aI64 (wrapF .i64 ((x_46.tmod (g.Z.length : Int)).tdiv g.Width))) (by kernel_rfl) (op_quo (x := x_46.tmod (g.Z.length : Int)) (y := g.Width) (by kernel_rfl) (by kernel_rfl) hg62) (by kernel_rfl) <| .mu 8 ?_
        refine .done ⟨by kernel_rfl, ?_⟩
        refine .nh [1, 2, 4, 7, 8, 9, 10, 11, 46, 47] [.own (api_Grid.c g), .own [nS, nS], .own [aI64 (g.Z.length : Int)], .own [.hs 4 0 out_45.length 3, nS], .own (out_45.flatMap api_Spot.c), .own [aI64 (wrapF .i64 (g.X0 + (wrapF .i64 (((x_46.tmod (g.Z.length : Int)).tmod g.Width) * g.Step)))), aI64 (wrapF .i64 (g.Y0 + (wrapF .i64 ((wrapF .i64 ((x_46.tmod (g.Z.length : Int)).tdiv g.Width)) * g.Step)))), aI64 base]] <| .seq <| .seq <| .r4 fine [1, 2, 4, 7, 8, 9, 10, 11, 46, 47] [(76, aB (decide (x_46 < (g.Z.length : Int))))] ?_
        refine .cd hr (fun hb63 hr => ?_) (fun hb63 hr => ?_)
        ·obtain ⟨hg64, hr⟩ := gd hr
         refine .r0 fine <| .mu 3 <| .p0 (v := .pp (g.Z.flatMap (iC .i64)) (x_46.toNat * 1)) (tr (ofP_guard hg64)) <| .p0 (v := aI64 (gt g.Z x_46)) (tr (ofP_some (flat_get (iC_len .i64) (inR_lt hg64) (by decide : 0 < 1) (by omega : x_46.toNat * 1 = x_46.toNat * 1 + 0) (by kernel_rfl)))) <| .mu 2 <| .done <| .nh [1, 2, 4, 7, 8, 9, 11, 46, 47] [.own (api_Grid.c g), .own [nS, nS], .own [aI64 (g.Z.length : Int)], .own [.hs 4 0 out_45.length 3, nS], .own (out_45.flatMap api_Spot.c), .own [aI64 (wrapF .i64 (g.X0 + (wrapF .i64 (((x_46.tmod (g.Z.length : Int)).tmod g.Width) * g.Step)))), aI64 (wrapF .i64 (g.Y0 + (wrapF .i64 ((wrapF .i64 ((x_46.tmod (g.Z.length : Int)).tdiv g.Width)) * g.Step)))), aI64 (gt g.Z x_46)]] ?_
         obtain ⟨hg65, hg66, hr⟩ := gd2 hr
         refine .r0 fine <| .mu 4 <| .e0 (v := .hs 7 0 (out_45 ++ [api_Spot.mk (wrapF .i64 (g.X0 + (wrapF .i64 (((x_46.tmod (g.Z.length : Int)).tmod g.Width) * g.Step)))) (wrapF .i64 (g.Y0 + (wrapF .i64 ((wrapF .i64 ((x_46.tmod (g.Z.length : Int)).tdiv g.Width)) * g.Step)))) (gt g.Z x_46)]).length 3) (ws := [(4, .dead), (7, .own ((out_45 ++ [api_Spot.mk (wrapF .i64 (g.X0 + (wrapF .i64 (((x_46.tmod (g.Z.length : Int)).tmod g.Width) * g.Step)))) (wrapF .i64 (g.Y0 + (wrapF .i64 ((wrapF .i64 ((x_46.tmod (g.Z.length : Int)).tdiv g.Width)) * g.Step)))) (gt g.Z x_46)]).flatMap api_Spot.c))]) (tr (app_own (new := [aI64 (wrapF .i64 (g.X0 + (wrapF .i64 (((x_46.tmod (g.Z.length : Int)).tmod g.Width) * g.Step)))), aI64 (wrapF .i64 (g.Y0 + (wrapF .i64 ((wrapF .i64 ((x_46.tmod (g.Z.length : Int)).tdiv g.Width)) * g.Step)))), aI64 (gt g.Z x_46)]) (l := out_45) (xs := [api_Spot.mk (wrapF .i64 (g.X0 + (wrapF .i64 (((x_46.tmod (g.Z.length : Int)).tmod g.Width) * g.Step)))) (wrapF .i64 (g.Y0 + (wrapF .i64 ((wrapF .i64 ((x_46.tmod (g.Z.length : Int)).tdiv g.Width)) * g.Step)))) (gt g.Z x_46)]) api_Spot.len rfl rfl (by kernel_rfl) hg65 hg66)) <| .mu 2 <| .done <| .pop <| .ru fine ?_
         exact loopF_back (out_45 ++ [api_Spot.mk (wrapF .i64 (g.X0 + (wrapF .i64 (((x_46.tmod (g.Z.length : Int)).tmod g.Width) * g.Step)))) (wrapF .i64 (g.Y0 + (wrapF .i64 ((wrapF .i64 ((x_46.tmod (g.Z.length : Int)).tdiv g.Width)) * g.Step)))) (gt g.Z x_46)], wrapF .i64 (x_46 + 1)) hr ((Wk.gc [1, 2, 4, 7, 8, 9, 46, 47] [(0, true), (1, true), (2, true), (3, true), (7, false)] rfl (pKt (pKt (pKt (pKt (pKo api_Spot.c api_Spot.pure (out_45 ++ [api_Spot.mk (wrapF .i64 (g.X0 + (wrapF .i64 (((x_46.tmod (g.Z.length : Int)).tmod g.Width) * g.Step)))) (wrapF .i64 (g.Y0 + (wrapF .i64 ((wrapF .i64 ((x_46.tmod (g.Z.length : Int)).tdiv g.Width)) * g.Step)))) (gt g.Z x_46)]) trivial)))))).to (by kernel_rfl))
        ·refine .skip ?_
         obtain ⟨hg67, hg68, hr⟩ := gd2 hr
         refine .r0 fine <| .mu 4 <| .e0 (v := .hs 7 0 (out_45 ++ [api_Spot.mk (wrapF .i64 (g.X0 + (wrapF .i64 (((x_46.tmod (g.Z.length : Int)).tmod g.Width) * g.Step)))) (wrapF .i64 (g.Y0 + (wrapF .i64 ((wrapF .i64 ((x_46.tmod (g.Z.length : Int)).tdiv g.Width)) * g.Step)))) base]).length 3) (ws := [(4, .dead), (7, .own ((out_45 ++ [api_Spot.mk (wrapF .i64 (g.X0 + (wrapF .i64 (((x_46.tmod (g.Z.length : Int)).tmod g.Width) * g.Step)))) (wrapF .i64 (g.Y0 + (wrapF .i64 ((wrapF .i64 ((x_46.tmod (g.Z.length : Int)).tdiv g.Width)) * g.Step)))) base]).flatMap api_Spot.c))]) (tr (app_own (new := [aI64 (wrapF .i64 (g.X0 + (wrapF .i64 (((x_46.tmod (g.Z.length : Int)).tmod g.Width) * g.Step)))), aI64 (wrapF .i64 (g.Y0 + (wrapF .i64 ((wrapF .i64 ((x_46.tmod (g.Z.length : Int)).tdiv g.Width)) * g.Step)))), aI64 base]) (l := out_45) (xs := [api_Spot.mk (wrapF .i64 (g.X0 + (wrapF .i64 (((x_46.tmod (g.Z.length : Int)).tmod g.Width) * g.Step)))) (wrapF .i64 (g.Y0 + (wrapF .i64 ((wrapF .i64 ((x_46.tmod (g.Z.length : Int)).tdiv g.Width)) * g.Step)))) base]) api_Spot.len rfl rfl (by kernel_rfl) hg67 hg68)) <| .mu 2 <| .done <| .pop <| .ru fine ?_
         exact loopF_back (out_45 ++ [api_Spot.mk (wrapF .i64 (g.X0 + (wrapF .i64 (((x_46.tmod (g.Z.length : Int)).tmod g.Width) * g.Step)))) (wrapF .i64 (g.Y0 + (wrapF .i64 ((wrapF .i64 ((x_46.tmod (g.Z.length : Int)).tdiv g.Width)) * g.Step)))) base], wrapF .i64 (x_46 + 1)) hr ((Wk.gc [1, 2, 4, 7, 8, 9, 46, 47] [(0, true), (1, true), (2, true), (3, true), (7, false)] rfl (pKt (pKt (pKt (pKt (pKo api_Spot.c api_Spot.pure (out_45 ++ [api_Spot.mk (wrapF .i64 (g.X0 + (wrapF .i64 (((x_46.tmod (g.Z.length : Int)).tmod g.Width) * g.Step)))) (wrapF .i64 (g.Y0 + (wrapF .i64 ((wrapF .i64 ((x_46.tmod (g.Z.length : Int)).tdiv g.Width)) * g.Step)))) base]) trivial)))))).to (by kernel_rfl))
       ·refine .leave rfl ?_
        obtain rfl := oi hr
        exact ⟨rfl, ((Wk.gc [2, 4, 7, 8, 9] [(0, true), (1, true), (2, true), (3, true), (4, false)] rfl (pKt (pKt (pKt (pKt (pKo api_Spot.c api_Spot.pure out_45 trivial)))))).to (by kernel_rfl))⟩
      ·rintro x st' hq71
       clear hL70
       obtain ⟨rfl, hq71⟩ := hq71
       refine CQ_exit _ rfl <| .wk hq71 <| .seq <| .seq ?_
       obtain ⟨v72, hc73, hr⟩ := bd hr
       refine .g1 fine (ok0 (volume_triangles_ok n g v72 hc73)) <| .mu 1 <| .ca cf0 <| .mu 2 <| .done <| .nh [2, 4, 7, 8, 9, 91, 92, 93] [.own (api_Grid.c g), .own [nS, nS], .own [aI64 (g.Z.length : Int)], .own [.hs 4 0 out_57.length 3, nS], .own (out_57.flatMap api_Spot.c)] <| .block ?_
       replace hr := bd hr; obtain ⟨out_98, hL106, hr⟩ := hr
       refine .loopO (σ := fun z0 => match z0 with | (out_91, x_92) => ⟨mkS 171 0 [(2, .hp 0 0), (4, .hp 1 0), (7, aI64 g.Width), (8, .hp 2 0), (9, .hp 3 0), (91, slT A3_3_int.c v72), (92, aI64 (v72.length : Int)), (93, aI64 x_92)], [.own (api_Grid.c g), .own [nS, nS], .own [aI64 (g.Z.length : Int)], .own [.hs 4 0 out_57.length 3, .hs 5 0 out_91.length 3], .own (out_57.flatMap api_Spot.c), .own (out_91.flatMap A3_3_int.c)]⟩) (Q := fun x st' => x = .exit 2 ∧ Wk 0 st' ⟨mkS 171 0 [(2, .hp 0 0), (4, .hp 1 0), (7, aI64 g.Width), (8, .hp 2 0), (9, .hp 3 0)], [.own (api_Grid.c g), .own [nS, nS], .own [aI64 (g.Z.length : Int)], .own [.hs 4 0 out_57.length 3, .hs 5 0 out_98.length 3], .own (out_57.flatMap api_Spot.c), .own (out_98.flatMap A3_3_int.c)]⟩) hL106 ((Wk.nilcell 3 1 3 (cs := [.hs 4 0 out_57.length 3, nS]) (by kernel_rfl) (by kernel_rfl)).trans ((Wk.gc [2, 4, 7, 8, 9, 91, 92, 93] [(0, true), (1, true), (2, true), (3, true), (4, false), (5, false)] rfl (pKt (pKt (pKt (pKt (pKo api_Spot.c api_Spot.pure out_57 (pKc trivial))))))).to (by kernel_rfl))) ?_ ?_
       ·clear hr
        rintro m ⟨out_91, x_92⟩ hr
        show CQ _ _ _ _ _ ⟨_, _⟩
        refine .seq <| .r4 fine [2, 4, 7, 8, 9, 91, 92, 93] [(94, aB (decide (x_92 < (v72.length : Int))))] <| .seq ?_
        refine .cd hr (fun hb101 hr => ?_) (fun hb101 hr => ?_)
        ·refine .skip <| .seq <| .block <| .seq ?_
         obtain ⟨hg102, hr⟩ := gd hr
         refine .r0 fine <| .p0 (v := .pp (v72.flatMap A3_3_int.c) (x_92.toNat * 3)) (tr (ofP_guard hg102)) <| .p0 (v := .agg [aI64 (gt v72 x_92).e0, aI64 (gt v72 x_92).e1, aI64 (gt v72 x_92).e2]) (Eq.trans (b := ORes.ofP (guardV (decide (3 ≤ ((v72.flatMap A3_3_int.c).drop (x_92.toNat * 3)).length)) (.agg (((v72.flatMap A3_3_int.c).drop (x_92.toNat * 3)).take 3)))) (by kernel_rfl) (flat_load A3_3_int.len (inR_lt hg102) (by decide) (by omega : x_92.toNat * 3 = x_92.toNat * 3 + 0) (by kernel_rfl))) <| .mu 2 <| .done <| .nh [2, 4, 7, 8, 9, 13, 91, 92, 93] [.own (api_Grid.c g), .own [nS, nS], .own [aI64 (g.Z.length : Int)], .own [.hs 4 0 out_57.length 3, .hs 5 0 out_91.length 3], .own (out_57.flatMap api_Spot.c), .own (out_91.flatMap A3_3_int.c), .own [aI64 (gt v72 x_92).e0, aI64 (gt v72 x_92).e1, aI64 (gt v72 x_92).e2]] ?_
         obtain ⟨hg103, hg104, hr⟩ := gd2 hr
         refine .r0 fine <| .mu 17 <| .e0 (v := .hs 8 0 (out_91 ++ [(gt v72 x_92), A3.mk (wrapF .i64 ((gt v72 x_92).e0 + (g.Z.length : Int))) (wrapF .i64 ((gt v72 x_92).e2 + (g.Z.length : Int))) (wrapF .i64 ((gt v72 x_92).e1 + (g.Z.length : Int)))]).length 3) (ws := [(5, .dead), (8, .own ((out_91 ++ [(gt v72 x_92), A3.mk (wrapF .i64 ((gt v72 x_92).e0 + (g.Z.length : Int))) (wrapF .i64 ((gt v72 x_92).e2 + (g.Z.length : Int))) (wrapF .i64 ((gt v72 x_92).e1 + (g.Z.length : Int)))]).flatMap A3_3_int.c))]) (tr (app_own (new := [aI64 (gt v72 x_92).e0, aI64 (gt v72 x_92).e1, aI64 (gt v72 x_92).e2, aI64 (wrapF .i64 ((gt v72 x_92).e0 + (g.Z.length : Int))), aI64 (wrapF .i64 ((gt v72 x_92).e2 + (g.Z.length : Int))), aI64 (wrapF .i64 ((gt v72 x_92).e1 + (g.Z.length : Int)))]) (l := out_91) (xs := [(gt v72 x_92), A3.mk (wrapF .i64 ((gt v72 x_92).e0 + (g.Z.length : Int))) (wrapF .i64 ((gt v72 x_92).e2 + (g.Z.length : Int))) (wrapF .i64 ((gt v72 x_92).e1 + (g.Z.length : Int)))]) A3_3_int.len rfl rfl (by kernel_rfl) hg103 hg104)) <| .mu 2 <| .done <| .pop <| .ru fine ?_
         exact loopF_back (out_91 ++ [(gt v72 x_92), A3.mk (wrapF .i64 ((gt v72 x_92).e0 + (g.Z.length : Int))) (wrapF .i64 ((gt v72 x_92).e2 + (g.Z.length : Int))) (wrapF .i64 ((gt v72 x_92).e1 + (g.Z.length : Int)))], wrapF .i64 (x_92 + 1)) hr ((Wk.gc [2, 4, 7, 8, 9, 91, 92, 93] [(0, true), (1, true), (2, true), (3, true), (4, false), (8, false)] rfl (pKt (pKt (pKt (pKt (pKo api_Spot.c api_Spot.pure out_57 (pKo A3_3_int.c A3_3_int.pure (out_91 ++ [(gt v72 x_92), A3.mk (wrapF .i64 ((gt v72 x_92).e0 + (g.Z.length : Int))) (wrapF .i64 ((gt v72 x_92).e2 + (g.Z.length : Int))) (wrapF .i64 ((gt v72 x_92).e1 + (g.Z.length : Int)))]) trivial))))))).to (by kernel_rfl))
        ·refine .leave rfl ?_
         obtain rfl := oi hr
         exact ⟨rfl, ((Wk.gc [2, 4, 7, 8, 9] [(0, true), (1, true), (2, true), (3, true), (4, false), (5, false)] rfl (pKt (pKt (pKt (pKt (pKo api_Spot.c api_Spot.pure out_57 (pKo A3_3_int.c A3_3_int.pure out_91 trivial))))))).to (by kernel_rfl))⟩
       ·rintro x st' hq107
        clear hL106
        obtain ⟨rfl, hq107⟩ := hq107
        refine CQ_exit _ rfl <| .wk hq107 <| .seq <| .r4 fine [2, 4, 7, 8, 9] [(14, .fn 57 [] [.hp 3 0, .hp 2 0])] <| .seq <| .seq <| .r4 fine [2, 4, 7, 8, 9, 14] [(119, aI64 (wrapF .i64 (g.Width - 1))), (120, aI64 0)] <| .block ?_
        replace hr := bd hr; obtain ⟨out_135, hL144, hr⟩ := hr
        refine .loopO (σ := fun z0 => match z0 with | (out_127, x_128) => ⟨mkS 171 0 [(2, .hp 0 0), (4, .hp 1 0), (7, aI64 g.Width), (8, .hp 2 0), (9, .hp 3 0), (14, .fn 57 [] [.hp 3 0, .hp 2 0]), (119, aI64 (wrapF .i64 (g.Width - 1))), (120, aI64 x_128)], [.own (api_Grid.c g), .own [nS, nS], .own [aI64 (g.Z.length : Int)], .own [.hs 4 0 out_57.length 3, .hs 5 0 out_127.length 3], .own (out_57.flatMap api_Spot.c), .own (out_127.flatMap A3_3_int.c)]⟩) (Q := fun x st' => x = .exit 4 ∧ Wk 0 st' ⟨mkS 171 0 [(2, .hp 0 0), (4, .hp 1 0), (7, aI64 g.Width), (9, .hp 2 0), (14, .fn 57 [] [.hp 2 0, .hp 5 0])], [.own (api_Grid.c g), .own [nS, nS], .own [.hs 3 0 out_57.length 3, .hs 4 0 out_135.length 3], .own (out_57.flatMap api_Spot.c), .own (out_135.flatMap A3_3_int.c), .own [aI64 (g.Z.length : Int)]]⟩) hL144 ((Wk.gc [2, 4, 7, 8, 9, 14, 119, 120] [(0, true), (1, true), (2, true), (3, true), (4, false), (5, false)] rfl (pKt (pKt (pKt (pKt (pKo api_Spot.c api_Spot.pure out_57 (pKo A3_3_int.c A3_3_int.pure out_98 trivial))))))).to (by kernel_rfl)) ?_ ?_
        ·clear hr
         rintro m ⟨out_127, x_128⟩ hr
         show CQ _ _ _ _ _ ⟨_, _⟩
         refine .seq <| .r4 fine [2, 4, 7, 8, 9, 14, 119, 120] [(121, aB (decide (x_128 < (wrapF .i64 (g.Width - 1)))))] <| .seq ?_
         refine .cd hr (fun hb138 hr => ?_) (fun hb138 hr => ?_)
         ·refine .skip <| .seq <| .block <| .seq <| .r4 fine [2, 4, 7, 8, 9, 14, 119, 120] [(15, aI64 x_128)] <| .seq ?_
          obtain ⟨v139, hc140, hr⟩ := bd hr
          refine .g1 fine (callOk_mutU (args := [aI64 x_128, aI64 (wrapF .i64 (x_128 + 1)), .hp 3 0, .hp 2 0]) 2 2 [(3, true), (2, true), (4, false), (5, false)] [true, true, false, false] (volume_Solid_1_w_ok n x_128 (wrapF .i64 (x_128 + 1)) out_57 out_127 (g.Z.length : Int) v139 hc140) (by exact ⟨ids_flat api_Spot.pure _, ⟨ids_flat A3_3_int.pure _, trivial⟩⟩) (by exact ⟨ids_flat api_Spot.pure _, ⟨ids_flat A3_3_int.pure _, trivial⟩⟩) rfl rfl (by kernel_rfl) (by kernel_rfl)) <| .mu 4 <| .ca cf0 <| .done <| .nh [2, 4, 7, 8, 9, 14, 15, 119, 120] [.own (api_Grid.c g), .own [nS, nS], .own [aI64 (g.Z.length : Int)], .own [.hs 6 0 out_57.length 3, .hs 7 0 v139.length 3], .dead, .dead, .own (out_57.flatMap api_Spot.c), .own (v139.flatMap A3_3_int.c)] ?_
          obtain ⟨v141, hc142, hr⟩ := bd hr
          refine .g1 fine (callOk_mutU (args := [aI64 (wrapF .i64 ((wrapF .i64 ((g.Z.length : Int) - 1)) - x_128)), aI64 (wrapF .i64 ((wrapF .i64 ((g.Z.length : Int) - 2)) - x_128)), .hp 3 0, .hp 2 0]) 2 2 [(3, true), (2, true), (6, false), (7, false)] [true, true, false, false] (volume_Solid_1_w_ok n (wrapF .i64 ((wrapF .i64 ((g.Z.length : Int) - 1)) - x_128)) (wrapF .i64 ((wrapF .i64 ((g.Z.length : Int) - 2)) - x_128)) out_57 v139 (g.Z.length : Int) v141 hc142) (by exact ⟨ids_flat api_Spot.pure _, ⟨ids_flat A3_3_int.pure _, trivial⟩⟩) (by exact ⟨ids_flat api_Spot.pure _, ⟨ids_flat A3_3_int.pure _, trivial⟩⟩) rfl rfl (by kernel_rfl) (by kernel_rfl)) <| .mu 9 <| .ca cf0 <| .done <| .pop <| .ru fine ?_
          exact loopF_back (v141, wrapF .i64 (x_128 + 1)) hr ((Wk.gc [2, 4, 7, 8, 9, 14, 119, 120] [(0, true), (1, true), (2, true), (3, true), (8, false), (9, false)] rfl (pKt (pKt (pKt (pKt (pKo api_Spot.c api_Spot.pure out_57 (pKo A3_3_int.c A3_3_int.pure v141 trivial))))))).to (by kernel_rfl))
         ·refine .leave rfl ?_
          obtain rfl := oi hr
          exact ⟨rfl, ((Wk.gc [2, 4, 7, 9, 14] [(0, true), (1, true), (3, true), (4, false), (5, false), (2, true)] rfl (pKt (pKt (pKt (pKo api_Spot.c api_Spot.pure out_57 (pKo A3_3_int.c A3_3_int.pure out_127 trivial)))))).to (by kernel_rfl))⟩
        ·rintro x st' hq145
         clear hL144
         obtain ⟨rfl, hq145⟩ := hq145
         refine CQ_exit _ rfl <| .wk hq145 <| .seq <| .seq <| .r4 fine [4, 7, 9, 14] [(141, aI64 (wrapF .i64 (g.Height - 1))), (142, aI64 0)] <| .block ?_
         replace hr := bd hr; obtain ⟨out_154, hL163, hr⟩ := hr
         refine .loopO (σ := fun z0 => match z0 with | (out_146, x_147) => ⟨mkS 171 0 [(4, .hp 0 0), (7, aI64 g.Width), (9, .hp 1 0), (14, .fn 57 [] [.hp 1 0, .hp 4 0]), (141, aI64 (wrapF .i64 (g.Height - 1))), (142, aI64 x_147)], [.own [nS, nS], .own [.hs 2 0 out_57.length 3, .hs 3 0 out_146.length 3], .own (out_57.flatMap api_Spot.c), .own (out_146.flatMap A3_3_int.c), .own [aI64 (g.Z.length : Int)]]⟩) (Q := fun x st' => x = .exit 6 ∧ Wk 0 st' ⟨mkS 171 0 [(4, .hp 0 0), (9, .hp 1 0)], [.own [nS, nS], .own [.hs 2 0 out_57.length 3, .hs 3 0 out_154.length 3], .own (out_57.flatMap api_Spot.c), .own (out_154.flatMap A3_3_int.c)]⟩) hL163 ((Wk.gc [4, 7, 9, 14, 141, 142] [(1, true), (2, true), (3, false), (4, false), (5, true)] rfl (pKt (pKt (pKo api_Spot.c api_Spot.pure out_57 (pKo A3_3_int.c A3_3_int.pure out_135 trivial))))).to (by kernel_rfl)) ?_ ?_
         ·clear hr
          rintro m ⟨out_146, x_147⟩ hr
          show CQ _ _ _ _ _ ⟨_, _⟩
          refine .seq <| .r4 fine [4, 7, 9, 14, 141, 142] [(143, aB (decide (x_147 < (wrapF .i64 (g.Height - 1)))))] <| .seq ?_
          refine .cd hr (fun hb157 hr => ?_) (fun hb157 hr => ?_)
          ·refine .skip <| .seq <| .block <| .seq <| .r4 fine [4, 7, 9, 14, 141, 142] [(16, aI64 x_147)] <| .seq ?_
           obtain ⟨v158, hc159, hr⟩ := bd hr
           refine .g1 fine (callOk_mutU (args := [aI64 (wrapF .i64 ((wrapF .i64 ((wrapF .i64 (x_147 * g.Width)) + g.Width)) - 1)), aI64 (wrapF .i64 ((wrapF .i64 ((wrapF .i64 ((wrapF .i64 (x_147 + 1)) * g.Width)) + g.Width)) - 1)), .hp 1 0, .hp 4 0]) 2 2 [(1, true), (4, true), (2, false), (3, false)] [true, true, false, false] (volume_Solid_1_w_ok n (wrapF .i64 ((wrapF .i64 ((wrapF .i64 (x_147 * g.Width)) + g.Width)) - 1)) (wrapF .i64 ((wrapF .i64 ((wrapF .i64 ((wrapF .i64 (x_147 + 1)) * g.Width)) + g.Width)) - 1)) out_57 out_146 (g.Z.length : Int) v158 hc159) (by exact ⟨ids_flat api_Spot.pure _, ⟨ids_flat A3_3_int.pure _, trivial⟩⟩) (by exact ⟨ids_flat api_Spot.pure _, ⟨ids_flat A3_3_int.pure _, trivial⟩⟩) rfl rfl (by kernel_rfl) (by kernel_rfl)) <| .mu 14 <| .ca cf0 <| .done <| .nh [4, 7, 9, 14, 16, 141, 142] [.own [nS, nS], .own [.hs 5 0 out_57.length 3, .hs 6 0 v158.length 3], .dead, .dead, .own [aI64 (g.Z.length : Int)], .own (out_57.flatMap api_Spot.c), .own (v158.flatMap A3_3_int.c)] ?_
           obtain ⟨v160, hc161, hr⟩ := bd hr
           refine .g1 fine (callOk_mutU (args := [aI64 (wrapF .i64 ((wrapF .i64 (x_147 + 1)) * g.Width)), aI64 (wrapF .i64 (x_147 * g.Width)), .hp 1 0, .hp 4 0]) 2 2 [(1, true), (4, true), (5, false), (6, false)] [true, true, false, false] (volume_Solid_1_w_ok n (wrapF .i64 ((wrapF .i64 (x_147 + 1)) * g.Width)) (wrapF .i64 (x_147 * g.Width)) out_57 v158 (g.Z.length : Int) v160 hc161) (by exact ⟨ids_flat api_Spot.pure _, ⟨ids_flat A3_3_int.pure _, trivial⟩⟩) (by exact ⟨ids_flat api_Spot.pure _, ⟨ids_flat A3_3_int.pure _, trivial⟩⟩) rfl rfl (by kernel_rfl) (by kernel_rfl)) <| .mu 8 <| .ca cf0 <| .done <| .pop <| .ru fine ?_
           exact loopF_back (v160, wrapF .i64 (x_147 + 1)) hr ((Wk.gc [4, 7, 9, 14, 141, 142] [(0, true), (1, true), (7, false), (8, false), (4, true)] rfl (pKt (pKt (pKo api_Spot.c api_Spot.pure out_57 (pKo A3_3_int.c A3_3_int.pure v160 trivial))))).to (by kernel_rfl))
          ·refine .leave rfl ?_
           obtain rfl := oi hr
           exact ⟨rfl, ((Wk.gc [4, 9] [(0, true), (1, true), (2, false), (3, false)] rfl (pKt (pKt (pKo api_Spot.c api_Spot.pure out_57 (pKo A3_3_int.c A3_3_int.pure out_146 trivial))))).to (by kernel_rfl))⟩
         ·rintro x st' hq164
          clear hL163
          obtain ⟨rfl, hq164⟩ := hq164
          refine CQ_exit _ rfl <| .wk hq164 <| .seq <| .r5 fine [4] [(5, aI64 0)] [.own [.hs 2 0 out_57.length 3, .hs 3 0 out_154.length 3], .own [.hs 2 0 out_57.length 3, .hs 3 0 out_154.length 3], .own (out_57.flatMap api_Spot.c), .own (out_154.flatMap A3_3_int.c)] <| .ret ?_
          obtain rfl := oi hr
          exact FinQ.ret (vs := [.agg [.hs 2 0 out_57.length 3, .hs 3 0 out_154.length 3], aI64 0]) (by kernel_rfl) (Sn.tup (SnL.cons (Sn.agg (SnL.cons (Sn.hs rfl (.inl rfl) (SnC.pure (ids_flat api_Spot.pure _)) (fun h => flat_nil0 h)) (SnL.cons (Sn.hs rfl (.inl rfl) (SnC.pure (ids_flat A3_3_int.pure _)) (fun h => flat_nil0 h)) SnL.nil))) (SnL.cons (Sn.pure rfl) SnL.nil)))

theorem fiducialref01_Compare_ok (n : Nat) (x' : api_Int) (y : api_Int) (r : Int) (hr : fiducialref01_Compare n x' y = some r) : FnOk Tryz.prog 90 [.agg (api_Int.c x'), .agg (api_Int.c y)] (aI64 r) := by
 unfold fiducialref01_Compare at hr
 refine FnOk.bd fine Tryz.func90 [.tmp 4] ?_
 unfold Tryz.f90
 simp only [Option.getD_some]
 refine .seq <| .r2 fine 9 [(2, .hp 0 0), (3, .hp 1 0)] [.own (api_Int.c x'), .own (api_Int.c y)] <| .seq ?_
 obtain ⟨v1, hc2, v3, hc4, hr⟩ := bd2 hr
 refine .gn fine (ca1 (ok0 (fiducialref01_Sub_ok n x' y v1 hc2)) (ca3 (ok0 (fiducialref01_Sign_ok n v1 v3 hc4)))) <| .mu 2 <| .ca cf0 <| .ca (cfF cf0) <| .mu 1 <| .done <| .ret ?_
 obtain rfl := oi hr
 exact FinQ.r1 [aI64 v3]

theorem fiducialref02_Valid_inj {x' : api_Rat} {x'_ : api_Rat} (h : ([.agg [.at (.bool x'.Num.Negative), slT (iC .u32) x'.Num.Groups, .at (.bool x'.Den.Negative), slT (iC .u32) x'.Den.Groups]] : List AV) = [.agg [.at (.bool x'_.Num.Negative), slT (iC .u32) x'_.Num.Groups, .at (.bool x'_.Den.Negative), slT (iC .u32) x'_.Den.Groups]]) : x' = x'_ := by
 obtain ⟨⟨_, _⟩, ⟨_, _⟩⟩ := x'
 obtain ⟨⟨_, _⟩, ⟨_, _⟩⟩ := x'_
 simp only [List.cons.injEq, AV.agg.injEq, AV.at.injEq, Value.int.injEq, Value.bool.injEq, AV.fn.injEq, AV.pp.injEq, true_and, and_true, slT_inj_int] at h
 simp_all
theorem fiducialref02_Valid_cg (n : Nat) {x' : api_Rat} {x'_ : api_Rat} (h : ([.agg [.at (.bool x'.Num.Negative), slT (iC .u32) x'.Num.Groups, .at (.bool x'.Den.Negative), slT (iC .u32) x'.Den.Groups]] : List AV) = [.agg [.at (.bool x'_.Num.Negative), slT (iC .u32) x'_.Num.Groups, .at (.bool x'_.Den.Negative), slT (iC .u32) x'_.Den.Groups]]) : fiducialref02_Valid n x' = fiducialref02_Valid n x'_ := by
 obtain rfl := fiducialref02_Valid_inj h
 rfl
theorem fiducialref02_Valid_ok (n : Nat) (x' : api_Rat) (r : Bool) (hr : fiducialref02_Valid n x' = some r) : FnOk Tryz.prog 65 [.agg (api_Rat.c x')] (aB r) := by
 unfold fiducialref02_Valid at hr
 refine FnOk.bd fine Tryz.func65 [.tmp 2] ?_
 unfold Tryz.f65
 simp only [Option.getD_some]
 refine .seq <| .r2 fine 27 [(1, .hp 0 0)] [.own (api_Rat.c x')] <| .seq <| .seq ?_
 obtain ⟨v1, hc2, hr⟩ := bd hr
 rcases Bool.eq_false_or_eq_true (!v1) with hb3 | hb3
 ·replace hr := cd_t hb3 hr
  refine .g1 fine (ok0 (fiducialref01_Valid_ok n x'.Num v1 hc2)) <| .mu 2 <| .ca cf0 <| .p0 (v := aB true) (eB hb3) <| .mu 12 <| .done <| .nh [1, 18] [.own (api_Rat.c x')] <| .cT (by kernel_rfl) <| .seq <| .ru fine <| .ret ?_
  obtain rfl := oi hr
  exact FinQ.r1 [aB false]
 ·replace hr := cd_f hb3 hr
  obtain ⟨v4, hc5, hr⟩ := bd hr
  rcases Bool.eq_false_or_eq_true (!v4) with hb6 | hb6
  ·replace hr := cd_t hb6 hr
   refine .gn fine (ca1 (ok0 (fiducialref01_Valid_ok n x'.Num v1 hc2)) (ca3 (ok0 (fiducialref01_Valid_ok n x'.Den v4 hc5)))) <| .mu 2 <| .ca cf0 <| .p0 (v := aB false) (eB hb3) <| .mu 3 <| .ca (cfA (fun h => by rw [sv hc5 hc2 (fiducialref01_Valid_cg n h)]) cf0) <| .pure (v := aB true) (by kernel_rfl) (eB hb6) <| .mu 7 <| .done <| .nh [1, 18] [.own (api_Rat.c x')] <| .cT (by kernel_rfl) <| .seq <| .ru fine <| .ret ?_
   obtain rfl := oi hr
   exact FinQ.r1 [aB false]
  ·replace hr := cd_f hb6 hr
   obtain ⟨v7, hc8, hr⟩ := bd hr
   refine .gn fine (ca1 (ok0 (fiducialref01_Valid_ok n x'.Num v1 hc2)) (ca1 (ok0 (fiducialref01_Valid_ok n x'.Den v4 hc5)) (ca3 (ok0 (fiducialref01_Sign_ok n x'.Den v7 hc8))))) <| .mu 2 <| .ca cf0 <| .p0 (v := aB false) (eB hb3) <| .mu 3 <| .ca (cfA (fun h => by rw [sv hc5 hc2 (fiducialref01_Valid_cg n h)]) cf0) <| .pure (v := aB false) (by kernel_rfl) (eB hb6) <| .mu 4 <| .ca (cfF (cfF cf0)) <| .mu 2 <| .done <| .nh [1, 18] [.own (api_Rat.c x')] ?_
   refine .cd hr (fun hb9 hr => ?_) (fun hb9 hr => ?_)
   ·refine .seq <| .ru fine <| .ret ?_
    obtain rfl := oi hr
    exact FinQ.r1 [aB false]
   ·refine .skip <| .seq ?_
    obtain ⟨v10, hc11, v12, hc13, v14, hc15, hr⟩ := bd3 hr
    refine .gn fine (ca1 (ok0 (fiducialref01_Gcd_ok n x'.Num x'.Den v10 hc11)) (ca1 (ok0 (fiducialref02_whole_ok n 1 v12 hc13)) (ca3 (ok0 (fiducialref01_Compare_ok n v10 v12 v14 hc15))))) <| .mu 4 <| .ca cf0 <| .ca (cfF cf0) <| .ca (cfF (cfF cf0)) <| .mu 2 <| .done <| .ret ?_
    obtain rfl := oi hr
    exact FinQ.r1 [aB ((v14 : Int) == 0)]

theorem fiducialref02_Value_ok (n : Nat) (x' : api_Rat) (r : api_Rat) (hr : fiducialref02_Value n x' = some r) : FnOk Tryz.prog 36 [.agg (api_Rat.c x')] (.agg (api_Rat.c r)) := by
 unfold fiducialref02_Value at hr
 refine FnOk.bd fine Tryz.func36 [.cell 2 40] ?_
 unfold Tryz.f36
 simp only [Option.getD_some]
 refine .seq <| .r2 fine 7 [(1, .hp 0 0), (2, .hp 1 0)] [.own (api_Rat.c x'), .own [aB false, nS, aB false, nS]] <| .seq <| .seq ?_
 obtain ⟨v1, hc2, hr⟩ := bd hr
 refine .g1 fine (ok0 (fiducialref02_Valid_ok n x' v1 hc2)) <| .mu 1 <| .ca cf0 <| .done <| .nh [1, 2, 4] [.own (api_Rat.c x'), .own [aB false, nS, aB false, nS]] ?_
 refine .cd hr (fun hb3 hr => ?_) (fun hb3 hr => ?_)
 ·refine .seq <| .r5 fine [2] [] [.own (api_Rat.c x'), .own (api_Rat.c x')] <| .ret ?_
  obtain rfl := oi hr
  exact FinQ.r1 [.agg (api_Rat.c x')]
 ·refine .skip <| .seq ?_
  obtain ⟨v4, hc5, hr⟩ := bd hr
  refine .g1 fine (ok0 (fiducialref02_Whole_ok n 0 v4 hc5)) <| .ca cf0 <| .mu 1 <| .done <| .nh [2] [.own (api_Rat.c x'), .own (api_Rat.c v4)] <| .ret ?_
  obtain rfl := oi hr
  exact FinQ.r1 [.agg (api_Rat.c v4)]

theorem fiducialref02_Neg_ok (n : Nat) (x' : api_Rat) (r : api_Rat) (hr : fiducialref02_Neg n x' = some r) : FnOk Tryz.prog 64 [.agg (api_Rat.c x')] (.agg (api_Rat.c r)) := by
 unfold fiducialref02_Neg at hr
 refine FnOk.bd fine Tryz.func64 [.cell 2 40] ?_
 unfold Tryz.f64
 simp only [Option.getD_some]
 refine .seq <| .r2 fine 12 [(1, .hp 0 0), (2, .hp 1 0)] [.own (api_Rat.c x'), .own [aB false, nS, aB false, nS]] <| .seq ?_
 obtain ⟨v1, hc2, hr⟩ := bd hr
 refine .g1 fine (ok0 (fiducialref02_Value_ok n x' v1 hc2)) <| .mu 1 <| .ca cf0 <| .mu 2 <| .done <| .nh [2, 3] [.own (api_Rat.c x'), .own [aB false, nS, aB false, nS], .own (api_Rat.c v1)] <| .seq ?_
 obtain ⟨v3, hc4, hr⟩ := bd hr
 refine .t1 fine (ok0 (fiducialref01_Neg_ok n v1.Num v3 hc4)) <| .mu 2 <| .ca cf0 <| .mu 4 ?_
 refine .done ⟨by kernel_rfl, ?_⟩
 refine .nh [2] [.own (api_Rat.c x'), .own [aB v3.Negative, sU32 v3.Groups, aB v1.Den.Negative, sU32 v1.Den.Groups], .own (api_Rat.c v1)] <| .ret ?_
 obtain rfl := oi hr
 exact FinQ.r1 [.agg [aB v3.Negative, sU32 v3.Groups, aB v1.Den.Negative, sU32 v1.Den.Groups]]

theorem fiducialref02_Add_inj {x' : api_Rat} {y : api_Rat} {x'_ : api_Rat} {y_ : api_Rat} (h : ([.agg [.at (.bool x'.Num.Negative), slT (iC .u32) x'.Num.Groups, .at (.bool x'.Den.Negative), slT (iC .u32) x'.Den.Groups], .agg [.at (.bool y.Num.Negative), slT (iC .u32) y.Num.Groups, .at (.bool y.Den.Negative), slT (iC .u32) y.Den.Groups]] : List AV) = [.agg [.at (.bool x'_.Num.Negative), slT (iC .u32) x'_.Num.Groups, .at (.bool x'_.Den.Negative), slT (iC .u32) x'_.Den.Groups], .agg [.at (.bool y_.Num.Negative), slT (iC .u32) y_.Num.Groups, .at (.bool y_.Den.Negative), slT (iC .u32) y_.Den.Groups]]) : x' = x'_ ∧ y = y_ := by
 obtain ⟨⟨_, _⟩, ⟨_, _⟩⟩ := x'
 obtain ⟨⟨_, _⟩, ⟨_, _⟩⟩ := x'_
 obtain ⟨⟨_, _⟩, ⟨_, _⟩⟩ := y
 obtain ⟨⟨_, _⟩, ⟨_, _⟩⟩ := y_
 simp only [List.cons.injEq, AV.agg.injEq, AV.at.injEq, Value.int.injEq, Value.bool.injEq, AV.fn.injEq, AV.pp.injEq, true_and, and_true, slT_inj_int] at h
 simp_all
theorem fiducialref02_Add_cg (n : Nat) {x' : api_Rat} {y : api_Rat} {x'_ : api_Rat} {y_ : api_Rat} (h : ([.agg [.at (.bool x'.Num.Negative), slT (iC .u32) x'.Num.Groups, .at (.bool x'.Den.Negative), slT (iC .u32) x'.Den.Groups], .agg [.at (.bool y.Num.Negative), slT (iC .u32) y.Num.Groups, .at (.bool y.Den.Negative), slT (iC .u32) y.Den.Groups]] : List AV) = [.agg [.at (.bool x'_.Num.Negative), slT (iC .u32) x'_.Num.Groups, .at (.bool x'_.Den.Negative), slT (iC .u32) x'_.Den.Groups], .agg [.at (.bool y_.Num.Negative), slT (iC .u32) y_.Num.Groups, .at (.bool y_.Den.Negative), slT (iC .u32) y_.Den.Groups]]) : fiducialref02_Add n x' y = fiducialref02_Add n x'_ y_ := by
 obtain ⟨rfl, rfl⟩ := fiducialref02_Add_inj h
 rfl
theorem fiducialref02_Add_ok (n : Nat) (x' : api_Rat) (y : api_Rat) (r : api_Rat) (hr : fiducialref02_Add n x' y = some r) : FnOk Tryz.prog 17 [.agg (api_Rat.c x'), .agg (api_Rat.c y)] (.agg (api_Rat.c r)) := by
 unfold fiducialref02_Add at hr
 refine FnOk.bd fine Tryz.func17 [.cell 4 40] ?_
 unfold Tryz.f17
 simp only [Option.getD_some]
 refine .seq <| .r2 fine 28 [(2, .hp 0 0), (3, .hp 1 0), (4, .hp 2 0)] [.own (api_Rat.c x'), .own (api_Rat.c y), .own [aB false, nS, aB false, nS]] <| .seq ?_
 obtain ⟨v1, hc2, hr⟩ := bd hr
 refine .g1 fine (ok0 (fiducialref02_Value_ok n x' v1 hc2)) <| .mu 1 <| .ca cf0 <| .mu 2 <| .done <| .nh [3, 4, 5] [.own (api_Rat.c x'), .own (api_Rat.c y), .own [aB false, nS, aB false, nS], .own (api_Rat.c v1)] <| .seq ?_
 obtain ⟨v3, hc4, hr⟩ := bd hr
 refine .g1 fine (ok0 (fiducialref02_Value_ok n y v3 hc4)) <| .mu 1 <| .ca cf0 <| .mu 2 <| .done <| .nh [4, 5, 6] [.own (api_Rat.c x'), .own (api_Rat.c y), .own [aB false, nS, aB false, nS], .own (api_Rat.c v1), .own (api_Rat.c v3)] <| .seq ?_
 obtain ⟨v5, hc6, v7, hc8, v9, hc10, hr⟩ := bd3 hr
 obtain ⟨v11, hc12, v13, hc14, hr⟩ := bd2 hr
 refine .tn fine (ca1 (ok0 (fiducialref01_Mul_ok n v1.Num v3.Den v5 hc6)) (ca1 (ok0 (fiducialref01_Mul_ok n v3.Num v1.Den v7 hc8)) (ca1 (ok0 (fiducialref01_Add_ok n v5 v7 v9 hc10)) (ca1 (ok0 (fiducialref01_Mul_ok n v1.Den v3.Den v11 hc12)) (ca3 (ok0 (fiducialref02_reduced_ok n v9 v11 v13 hc14))))))) <| .mu 4 <| .ca cf0 <| .mu 4 <| .ca (cfA (fun h => by rw [sv hc8 hc6 (fiducialref01_Mul_cg n h)]) cf0) <| .ca (cfF (cfF cf0)) <| .mu 4 <| .ca (cfA (fun h => by rw [sv hc12 hc6 (fiducialref01_Mul_cg n h)]) (cfA (fun h => by rw [sv hc12 hc8 (fiducialref01_Mul_cg n h)]) (cfF cf0))) <| .ca (cfF (cfF (cfF (cfF cf0)))) <| .mu 1 ?_
 refine .done ⟨by kernel_rfl, ?_⟩
 refine .nh [4] [.own (api_Rat.c x'), .own (api_Rat.c y), .own (api_Rat.c v13), .own (api_Rat.c v1), .own (api_Rat.c v3)] <| .ret ?_
 obtain rfl := oi hr
 exact FinQ.r1 [.agg (api_Rat.c v13)]

theorem fiducialref02_Sub_ok (n : Nat) (x' : api_Rat) (y : api_Rat) (r : api_Rat) (hr : fiducialref02_Sub n x' y = some r) : FnOk Tryz.prog 34 [.agg (api_Rat.c x'), .agg (api_Rat.c y)] (.agg (api_Rat.c r)) := by
 unfold fiducialref02_Sub at hr
 refine FnOk.bd fine Tryz.func34 [.cell 4 40] ?_
 unfold Tryz.f34
 simp only [Option.getD_some]
 refine .seq <| .r2 fine 9 [(2, .hp 0 0), (3, .hp 1 0), (4, .hp 2 0)] [.own (api_Rat.c x'), .own (api_Rat.c y), .own [aB false, nS, aB false, nS]] <| .seq ?_
 obtain ⟨v1, hc2, v3, hc4, hr⟩ := bd2 hr
 refine .tn fine (ca1 (ok0 (fiducialref02_Neg_ok n y v1 hc2)) (ca3 (ok0 (fiducialref02_Add_ok n x' v1 v3 hc4)))) <| .mu 2 <| .ca cf0 <| .ca (cfF cf0) <| .mu 1 ?_
 refine .done ⟨by kernel_rfl, ?_⟩
 refine .nh [4] [.own (api_Rat.c x'), .own (api_Rat.c y), .own (api_Rat.c v3)] <| .ret ?_
 obtain rfl := oi hr
 exact FinQ.r1 [.agg (api_Rat.c v3)]

theorem fiducialref02_Sign_ok (n : Nat) (x' : api_Rat) (r : Int) (hr : fiducialref02_Sign n x' = some r) : FnOk Tryz.prog 33 [.agg (api_Rat.c x')] (aI64 r) := by
 unfold fiducialref02_Sign at hr
 refine FnOk.bd fine Tryz.func33 [.tmp 2] ?_
 unfold Tryz.f33
 simp only [Option.getD_some]
 refine .seq <| .r2 fine 7 [(1, .hp 0 0)] [.own (api_Rat.c x')] <| .seq ?_
 obtain ⟨v1, hc2, v3, hc4, hr⟩ := bd2 hr
 refine .gn fine (ca1 (ok0 (fiducialref02_Value_ok n x' v1 hc2)) (ca3 (ok0 (fiducialref01_Sign_ok n v1.Num v3 hc4)))) <| .mu 1 <| .ca cf0 <| .mu 1 <| .ca (cfF cf0) <| .mu 1 <| .done <| .ret ?_
 obtain rfl := oi hr
 exact FinQ.r1 [aI64 v3]

theorem fiducialref02_Compare_inj {x' : api_Rat} {y : api_Rat} {x'_ : api_Rat} {y_ : api_Rat} (h : ([.agg [.at (.bool x'.Num.Negative), slT (iC .u32) x'.Num.Groups, .at (.bool x'.Den.Negative), slT (iC .u32) x'.Den.Groups], .agg [.at (.bool y.Num.Negative), slT (iC .u32) y.Num.Groups, .at (.bool y.Den.Negative), slT (iC .u32) y.Den.Groups]] : List AV) = [.agg [.at (.bool x'_.Num.Negative), slT (iC .u32) x'_.Num.Groups, .at (.bool x'_.Den.Negative), slT (iC .u32) x'_.Den.Groups], .agg [.at (.bool y_.Num.Negative), slT (iC .u32) y_.Num.Groups, .at (.bool y_.Den.Negative), slT (iC .u32) y_.Den.Groups]]) : x' = x'_ ∧ y = y_ := by
 obtain ⟨⟨_, _⟩, ⟨_, _⟩⟩ := x'
 obtain ⟨⟨_, _⟩, ⟨_, _⟩⟩ := x'_
 obtain ⟨⟨_, _⟩, ⟨_, _⟩⟩ := y
 obtain ⟨⟨_, _⟩, ⟨_, _⟩⟩ := y_
 simp only [List.cons.injEq, AV.agg.injEq, AV.at.injEq, Value.int.injEq, Value.bool.injEq, AV.fn.injEq, AV.pp.injEq, true_and, and_true, slT_inj_int] at h
 simp_all
theorem fiducialref02_Compare_cg (n : Nat) {x' : api_Rat} {y : api_Rat} {x'_ : api_Rat} {y_ : api_Rat} (h : ([.agg [.at (.bool x'.Num.Negative), slT (iC .u32) x'.Num.Groups, .at (.bool x'.Den.Negative), slT (iC .u32) x'.Den.Groups], .agg [.at (.bool y.Num.Negative), slT (iC .u32) y.Num.Groups, .at (.bool y.Den.Negative), slT (iC .u32) y.Den.Groups]] : List AV) = [.agg [.at (.bool x'_.Num.Negative), slT (iC .u32) x'_.Num.Groups, .at (.bool x'_.Den.Negative), slT (iC .u32) x'_.Den.Groups], .agg [.at (.bool y_.Num.Negative), slT (iC .u32) y_.Num.Groups, .at (.bool y_.Den.Negative), slT (iC .u32) y_.Den.Groups]]) : fiducialref02_Compare n x' y = fiducialref02_Compare n x'_ y_ := by
 obtain ⟨rfl, rfl⟩ := fiducialref02_Compare_inj h
 rfl
theorem fiducialref02_Compare_ok (n : Nat) (x' : api_Rat) (y : api_Rat) (r : Int) (hr : fiducialref02_Compare n x' y = some r) : FnOk Tryz.prog 14 [.agg (api_Rat.c x'), .agg (api_Rat.c y)] (aI64 r) := by
 unfold fiducialref02_Compare at hr
 refine FnOk.bd fine Tryz.func14 [.tmp 4] ?_
 unfold Tryz.f14
 simp only [Option.getD_some]
 refine .seq <| .r2 fine 9 [(2, .hp 0 0), (3, .hp 1 0)] [.own (api_Rat.c x'), .own (api_Rat.c y)] <| .seq ?_
 obtain ⟨v1, hc2, v3, hc4, hr⟩ := bd2 hr
 refine .gn fine (ca1 (ok0 (fiducialref02_Sub_ok n x' y v1 hc2)) (ca3 (ok0 (fiducialref02_Sign_ok n v1 v3 hc4)))) <| .mu 2 <| .ca cf0 <| .ca (cfF cf0) <| .mu 1 <| .done <| .ret ?_
 obtain rfl := oi hr
 exact FinQ.r1 [aI64 v3]

theorem fiducialref02_Same_ok (n : Nat) (x' : api_Rat) (y : api_Rat) (r : Bool) (hr : fiducialref02_Same n x' y = some r) : FnOk Tryz.prog 35 [.agg (api_Rat.c x'), .agg (api_Rat.c y)] (aB r) := by
 unfold fiducialref02_Same at hr
 refine FnOk.bd fine Tryz.func35 [.tmp 4] ?_
 unfold Tryz.f35
 simp only [Option.getD_some]
 refine .seq <| .r2 fine 17 [(2, .hp 0 0), (3, .hp 1 0)] [.own (api_Rat.c x'), .own (api_Rat.c y)] <| .seq ?_
 obtain ⟨v1, hc2, hr⟩ := bd hr
 rcases Bool.eq_false_or_eq_true v1 with hb3 | hb3
 ·subst hb3
  replace hr := cd_t rfl hr
  obtain ⟨v4, hc5, hr⟩ := bd hr
  rcases Bool.eq_false_or_eq_true v4 with hb6 | hb6
  ·subst hb6
   replace hr := cd_t rfl hr
   obtain ⟨v7, hc8, hr⟩ := bd hr
   refine .gn fine (ca1 (ok0 (fiducialref02_Valid_ok n x' true hc2)) (ca1 (ok0 (fiducialref02_Valid_ok n y true hc5)) (ca3 (ok0 (fiducialref02_Compare_ok n x' y v7 hc8))))) <| .mu 1 <| .ca cf0 <| .mu 2 <| .ca (cfA (fun h => by rw [sv hc5 hc2 (fiducialref02_Valid_cg n h)]) cf0) <| .mu 4 <| .ca (cfF (cfF cf0)) <| .mu 3 <| .done <| .ret ?_
   obtain rfl := oi hr
   exact FinQ.r1 [aB ((v7 : Int) == 0)]
  ·subst hb6
   replace hr := cd_f rfl hr
   refine .gn fine (ca1 (ok0 (fiducialref02_Valid_ok n x' true hc2)) (ca3 (ok0 (fiducialref02_Valid_ok n y false hc5)))) <| .mu 1 <| .ca cf0 <| .mu 2 <| .ca (cfA (fun h => by rw [sv hc5 hc2 (fiducialref02_Valid_cg n h)]) cf0) <| .mu 8 <| .done <| .ret ?_
   obtain rfl := oi hr
   exact FinQ.r1 [aB false]
 ·subst hb3
  replace hr := cd_f rfl hr
  refine .g1 fine (ok0 (fiducialref02_Valid_ok n x' false hc2)) <| .mu 1 <| .ca cf0 <| .mu 11 <| .done <| .ret ?_
  obtain rfl := oi hr
  exact FinQ.r1 [aB false]

theorem fiducialref02_SameRat_inj {x' : api_Rat} {y : api_Rat} {x'_ : api_Rat} {y_ : api_Rat} (h : ([.agg [.at (.bool x'.Num.Negative), slT (iC .u32) x'.Num.Groups, .at (.bool x'.Den.Negative), slT (iC .u32) x'.Den.Groups], .agg [.at (.bool y.Num.Negative), slT (iC .u32) y.Num.Groups, .at (.bool y.Den.Negative), slT (iC .u32) y.Den.Groups]] : List AV) = [.agg [.at (.bool x'_.Num.Negative), slT (iC .u32) x'_.Num.Groups, .at (.bool x'_.Den.Negative), slT (iC .u32) x'_.Den.Groups], .agg [.at (.bool y_.Num.Negative), slT (iC .u32) y_.Num.Groups, .at (.bool y_.Den.Negative), slT (iC .u32) y_.Den.Groups]]) : x' = x'_ ∧ y = y_ := by
 obtain ⟨⟨_, _⟩, ⟨_, _⟩⟩ := x'
 obtain ⟨⟨_, _⟩, ⟨_, _⟩⟩ := x'_
 obtain ⟨⟨_, _⟩, ⟨_, _⟩⟩ := y
 obtain ⟨⟨_, _⟩, ⟨_, _⟩⟩ := y_
 simp only [List.cons.injEq, AV.agg.injEq, AV.at.injEq, Value.int.injEq, Value.bool.injEq, AV.fn.injEq, AV.pp.injEq, true_and, and_true, slT_inj_int] at h
 simp_all
theorem fiducialref02_SameRat_cg (n : Nat) {x' : api_Rat} {y : api_Rat} {x'_ : api_Rat} {y_ : api_Rat} (h : ([.agg [.at (.bool x'.Num.Negative), slT (iC .u32) x'.Num.Groups, .at (.bool x'.Den.Negative), slT (iC .u32) x'.Den.Groups], .agg [.at (.bool y.Num.Negative), slT (iC .u32) y.Num.Groups, .at (.bool y.Den.Negative), slT (iC .u32) y.Den.Groups]] : List AV) = [.agg [.at (.bool x'_.Num.Negative), slT (iC .u32) x'_.Num.Groups, .at (.bool x'_.Den.Negative), slT (iC .u32) x'_.Den.Groups], .agg [.at (.bool y_.Num.Negative), slT (iC .u32) y_.Num.Groups, .at (.bool y_.Den.Negative), slT (iC .u32) y_.Den.Groups]]) : fiducialref02_SameRat n x' y = fiducialref02_SameRat n x'_ y_ := by
 obtain ⟨rfl, rfl⟩ := fiducialref02_SameRat_inj h
 rfl
theorem fiducialref02_SameRat_ok (n : Nat) (x' : api_Rat) (y : api_Rat) (r : Bool) (hr : fiducialref02_SameRat n x' y = some r) : FnOk Tryz.prog 16 [.agg (api_Rat.c x'), .agg (api_Rat.c y)] (aB r) := by
 unfold fiducialref02_SameRat at hr
 refine FnOk.bd fine Tryz.func16 [.tmp 4] ?_
 unfold Tryz.f16
 simp only [Option.getD_some]
 refine .seq <| .r2 fine 8 [(2, .hp 0 0), (3, .hp 1 0)] [.own (api_Rat.c x'), .own (api_Rat.c y)] <| .seq ?_
 obtain ⟨v1, hc2, hr⟩ := bd hr
 refine .g1 fine (ok0 (fiducialref02_Same_ok n x' y v1 hc2)) <| .mu 2 <| .ca cf0 <| .mu 1 <| .done <| .ret ?_
 obtain rfl := oi hr
 exact FinQ.r1 [aB v1]

theorem fiduciallaw52_known_ok (n : Nat) (r : Bool) (hr : fiduciallaw52_known n = some r) : FnOk Tryz.prog 5 [] (aB r) := by
 unfold fiduciallaw52_known at hr
 refine FnOk.bd fine Tryz.func5 [.tmp 0] ?_
 unfold Tryz.f5
 simp only [Option.getD_some]
 refine .seq <| .r3 fine 84 [] <| .seq ?_
 obtain ⟨v1, hc2, v3, hc4, v5, hc6, hr⟩ := bd3 hr
 obtain ⟨v7, hc8, hr⟩ := bd hr
 refine .gn fine (ca1 (ok0 (fiducialref02_Int_ok n 2 v1 hc2)) (ca1 (ok0 (fiducialref02_Int_ok n (-1) v3 hc4)) (ca1 (ok0 (fiducialref02_Int_ok n (-1) v5 hc6)) (ca3 (ok0 (volume_Triangle_ok n v1 v3 v5 v7 hc8)))))) <| .ca cf0 <| .ca (cfA (fun h => by rw [sv hc4 hc2 (fiducialref02_Int_cg n h)]) cf0) <| .ca (cfA (fun h => by rw [sv hc6 hc2 (fiducialref02_Int_cg n h)]) (cfA (fun h => by rw [sv hc6 hc4 (fiducialref02_Int_cg n h)]) cf0)) <| .ca (cfF (cfF (cfF cf0))) <| .mu 7 <| .done <| .nh [1, 2] [.own (api_Rat.c v7.1), .own (api_Rat.c v7.2)] <| .seq <| .r5 fine [1, 2] [(3, .hp 3 0)] [.own (api_Rat.c v7.1), .own (api_Rat.c v7.2), .own [aI64 3, aI64 0, aI64 0, aI64 0], .own [aI64 0, aI64 0, aI64 10, aI64 2, aI64 2, .hs 2 0 4 1]] <| .seq ?_
 obtain ⟨v9, hc10, hr⟩ := bd hr
 refine .g1 fine (callOk_ref (args := [.agg [aI64 0, aI64 0, aI64 10, aI64 2, aI64 2, .hs 2 0 4 1], aI64 0]) (l := [2]) (SnL.cons (Sn.agg (SnL.cons (Sn.pure rfl) (SnL.cons (Sn.pure rfl) (SnL.cons (Sn.pure rfl) (SnL.cons (Sn.pure rfl) (SnL.cons (Sn.pure rfl) (SnL.cons (Sn.hs rfl (.inl rfl) (SnC.cons (Sn.pure rfl) (SnC.cons (Sn.pure rfl) (SnC.cons (Sn.pure rfl) (SnC.cons (Sn.pure rfl) SnC.nil)))) (fun h => nomatch h)) SnL.nil))))))) (SnL.cons (Sn.pure rfl) SnL.nil)) (volume_Level_ok n (api_Grid.mk 0 0 10 2 2 [(3 : Int), (0 : Int), (0 : Int), (0 : Int)]) 0 v9 hc10)) <| .mu 1 <| .ca cf0 <| .mu 9 <| .done <| .nh [1, 2, 3, 4, 5, 6] [.own (api_Rat.c v7.1), .own (api_Rat.c v7.2), .fix [aI64 3, aI64 0, aI64 0, aI64 0], .own [aI64 0, aI64 0, aI64 10, aI64 2, aI64 2, .hs 2 0 4 1], .own (api_Rat.c v9.1), .own (api_Rat.c v9.2.1)] <| .seq ?_
 obtain ⟨v11, hc12, hr⟩ := bd hr
 refine .g1 fine (callOk_val (args := [.agg [aI64 0, aI64 0, aI64 10, aI64 2, aI64 2, .hs 2 0 4 1]]) (l := [2]) rfl (SnL.cons (Sn.agg (SnL.cons (Sn.pure rfl) (SnL.cons (Sn.pure rfl) (SnL.cons (Sn.pure rfl) (SnL.cons (Sn.pure rfl) (SnL.cons (Sn.pure rfl) (SnL.cons (Sn.hs rfl (.inr rfl) (SnC.cons (Sn.pure rfl) (SnC.cons (Sn.pure rfl) (SnC.cons (Sn.pure rfl) (SnC.cons (Sn.pure rfl) SnC.nil)))) (fun h => nomatch h)) SnL.nil))))))) SnL.nil) (volume_Area_ok n (api_Grid.mk 0 0 10 2 2 [(3 : Int), (0 : Int), (0 : Int), (0 : Int)]) v11 hc12)) <| .mu 1 <| .ca cf0 <| .mu 5 <| .done <| .nh [1, 2, 3, 4, 5, 6, 7, 8] [.own (api_Rat.c v7.1), .own (api_Rat.c v7.2), .fix [aI64 3, aI64 0, aI64 0, aI64 0], .own [aI64 0, aI64 0, aI64 10, aI64 2, aI64 2, .hs 2 0 4 1], .own (api_Rat.c v9.1), .own (api_Rat.c v9.2.1)] <| .seq ?_
 obtain ⟨v13, hc14, hr⟩ := bd hr
 refine .g1 fine (ok0 (fiducialref02_Of_ok n 8 27 v13 hc14)) <| .ca cf0 <| .mu 6 <| .done <| .nh [1, 2, 3, 4, 5, 6, 7, 8, 9] [.own (api_Rat.c v7.1), .own (api_Rat.c v7.2), .fix [aI64 3, aI64 0, aI64 0, aI64 0], .own [aI64 0, aI64 0, aI64 10, aI64 2, aI64 2, .hs 2 0 4 1], .own (api_Rat.c v9.1), .own (api_Rat.c v9.2.1), .own (api_Rat.c v13.1)] <| .seq ?_
 obtain ⟨v15, hc16, hr⟩ := bd hr
 refine .g1 fine (callOk_ref (args := [.agg [aI64 0, aI64 0, aI64 10, aI64 2, aI64 2, .hs 2 0 4 1], aI64 0]) (l := [2]) (SnL.cons (Sn.agg (SnL.cons (Sn.pure rfl) (SnL.cons (Sn.pure rfl) (SnL.cons (Sn.pure rfl) (SnL.cons (Sn.pure rfl) (SnL.cons (Sn.pure rfl) (SnL.cons (Sn.hs rfl (.inr rfl) (SnC.cons (Sn.pure rfl) (SnC.cons (Sn.pure rfl) (SnC.cons (Sn.pure rfl) (SnC.cons (Sn.pure rfl) SnC.nil)))) (fun h => nomatch h)) SnL.nil))))))) (SnL.cons (Sn.pure rfl) SnL.nil)) (volume_Solid_ok n (api_Grid.mk 0 0 10 2 2 [(3 : Int), (0 : Int), (0 : Int), (0 : Int)]) 0 v15 hc16)) <| .mu 1 <| .ca cf0 <| .mu 6 <| .done <| .nh [1, 2, 4, 5, 6, 7, 8, 9, 11, 12] [.own (api_Rat.c v7.1), .own (api_Rat.c v7.2), .fix [aI64 3, aI64 0, aI64 0, aI64 0], .own [aI64 0, aI64 0, aI64 10, aI64 2, aI64 2, .hs 2 0 4 1], .own (api_Rat.c v9.1), .own (api_Rat.c v9.2.1), .own (api_Rat.c v13.1), .own (api_Mesh.c v15.1)] <| .seq ?_
 rcases Bool.eq_false_or_eq_true (((wrapF .i64 ((wrapF .i64 (v9.2.2 + v11.2)) + v15.2)) : Int) == 0) with hb17 | hb17
 ·replace hr := cd_t hb17 hr
  obtain ⟨v18, hc19, hr⟩ := bd hr
  rcases Bool.eq_false_or_eq_true v18 with hb20 | hb20
  ·subst hb20
   replace hr := cd_t rfl hr
   obtain ⟨v21, hc22, hr⟩ := bd hr
   rcases Bool.eq_false_or_eq_true v21 with hb23 | hb23
   ·subst hb23
    replace hr := cd_t rfl hr
    obtain ⟨v24, hc25, v26, hc27, hr⟩ := bd2 hr
    rcases Bool.eq_false_or_eq_true v26 with hb28 | hb28
    ·subst hb28
     replace hr := cd_t rfl hr
     obtain ⟨v29, hc30, v31, hc32, hr⟩ := bd2 hr
     rcases Bool.eq_false_or_eq_true v31 with hb33 | hb33
     ·subst hb33
      replace hr := cd_t rfl hr
      rcases Bool.eq_false_or_eq_true ((v11.1 : Int) == 200) with hb34 | hb34
      ·replace hr := cd_t hb34 hr
       rcases Bool.eq_false_or_eq_true (((v15.1.Vertices.length : Int) : Int) == 8) with hb35 | hb35
       ·replace hr := cd_t hb35 hr
        refine .tn fine (ca1 (ok0 (fiducialref02_SameRat_ok n v7.1 v13.1 true hc19)) (ca1 (ok0 (fiducialref02_SameRat_ok n v7.2 v13.1 true hc22)) (ca1 (ok0 (fiducialref02_Int_ok n 100 v24 hc25)) (ca1 (ok0 (fiducialref02_SameRat_ok n v9.1 v24 true hc27)) (ca1 (ok0 (fiducialref02_Int_ok n 0 v29 hc30)) (ca3 (ok0 (fiducialref02_SameRat_ok n v9.2.1 v29 true hc32)))))))) <| .mu 5 <| .pure (v := aB true) (by kernel_rfl) (eB hb17) (by kernel_rfl) <| .mu 3 <| .ca cf0 <| .mu 4 <| .ca (cfA (fun h => by rw [sv hc22 hc19 (fiducialref02_SameRat_cg n h)]) cf0) <| .mu 3 <| .ca (cfF (cfF cf0)) <| .ca (cfA (fun h => by rw [sv hc27 hc19 (fiducialref02_SameRat_cg n h)]) (cfA (fun h => by rw [sv hc27 hc22 (fiducialref02_SameRat_cg n h)]) (cfF cf0))) <| .mu 3 <| .ca (cfF (cfF (cfA (fun h => by rw [sv hc30 hc25 (fiducialref02_Int_cg n h)]) (cfF cf0)))) <| .ca (cfA (fun h => by rw [sv hc32 hc19 (fiducialref02_SameRat_cg n h)]) (cfA (fun h => by rw [sv hc32 hc22 (fiducialref02_SameRat_cg n h)]) (cfF (cfA (fun h => by rw [sv hc32 hc27 (fiducialref02_SameRat_cg n h)]) (cfF cf0))))) <| .mu 3 <| .pure (v := aB true) (by kernel_rfl) (eB hb34) (by kernel_rfl) <| .mu 5 <| .pure (v := aB true) (by kernel_rfl) (eB hb35) (by kernel_rfl) <| .mu 8 ?_
        refine .done ⟨by kernel_rfl, ?_⟩
        refine .ret ?_
        obtain rfl := oi hr
        exact FinQ.r1 [aB (((v15.1.Faces.length : Int) : Int) == 12)]
       ·replace hr := cd_f hb35 hr
        refine .tn fine (ca1 (ok0 (fiducialref02_SameRat_ok n v7.1 v13.1 true hc19)) (ca1 (ok0 (fiducialref02_SameRat_ok n v7.2 v13.1 true hc22)) (ca1 (ok0 (fiducialref02_Int_ok n 100 v24 hc25)) (ca1 (ok0 (fiducialref02_SameRat_ok n v9.1 v24 true hc27)) (ca1 (ok0 (fiducialref02_Int_ok n 0 v29 hc30)) (ca3 (ok0 (fiducialref02_SameRat_ok n v9.2.1 v29 true hc32)))))))) <| .mu 5 <| .pure (v := aB true) (by kernel_rfl) (eB hb17) (by kernel_rfl) <| .mu 3 <| .ca cf0 <| .mu 4 <| .ca (cfA (fun h => by rw [sv hc22 hc19 (fiducialref02_SameRat_cg n h)]) cf0) <| .mu 3 <| .ca (cfF (cfF cf0)) <| .ca (cfA (fun h => by rw [sv hc27 hc19 (fiducialref02_SameRat_cg n h)]) (cfA (fun h => by rw [sv hc27 hc22 (fiducialref02_SameRat_cg n h)]) (cfF cf0))) <| .mu 3 <| .ca (cfF (cfF (cfA (fun h => by rw [sv hc30 hc25 (fiducialref02_Int_cg n h)]) (cfF cf0)))) <| .ca (cfA (fun h => by rw [sv hc32 hc19 (fiducialref02_SameRat_cg n h)]) (cfA (fun h => by rw [sv hc32 hc22 (fiducialref02_SameRat_cg n h)]) (cfF (cfA (fun h => by rw [sv hc32 hc27 (fiducialref02_SameRat_cg n h)]) (cfF cf0))))) <| .mu 3 <| .pure (v := aB true) (by kernel_rfl) (eB hb34) (by kernel_rfl) <| .mu 5 <| .pure (v := aB false) (by kernel_rfl) (eB hb35) (by kernel_rfl) <| .mu 8 ?_
        refine .done ⟨by kernel_rfl, ?_⟩
        refine .ret ?_
        obtain rfl := oi hr
        exact FinQ.r1 [aB false]
      ·replace hr := cd_f hb34 hr
       refine .tn fine (ca1 (ok0 (fiducialref02_SameRat_ok n v7.1 v13.1 true hc19)) (ca1 (ok0 (fiducialref02_SameRat_ok n v7.2 v13.1 true hc22)) (ca1 (ok0 (fiducialref02_Int_ok n 100 v24 hc25)) (ca1 (ok0 (fiducialref02_SameRat_ok n v9.1 v24 true hc27)) (ca1 (ok0 (fiducialref02_Int_ok n 0 v29 hc30)) (ca3 (ok0 (fiducialref02_SameRat_ok n v9.2.1 v29 true hc32)))))))) <| .mu 5 <| .pure (v := aB true) (by kernel_rfl) (eB hb17) (by kernel_rfl) <| .mu 3 <| .ca cf0 <| .mu 4 <| .ca (cfA (fun h => by rw [sv hc22 hc19 (fiducialref02_SameRat_cg n h)]) cf0) <| .mu 3 <| .ca (cfF (cfF cf0)) <| .ca (cfA (fun h => by rw [sv hc27 hc19 (fiducialref02_SameRat_cg n h)]) (cfA (fun h => by rw [sv hc27 hc22 (fiducialref02_SameRat_cg n h)]) (cfF cf0))) <| .mu 3 <| .ca (cfF (cfF (cfA (fun h => by rw [sv hc30 hc25 (fiducialref02_Int_cg n h)]) (cfF cf0)))) <| .ca (cfA (fun h => by rw [sv hc32 hc19 (fiducialref02_SameRat_cg n h)]) (cfA (fun h => by rw [sv hc32 hc22 (fiducialref02_SameRat_cg n h)]) (cfF (cfA (fun h => by rw [sv hc32 hc27 (fiducialref02_SameRat_cg n h)]) (cfF cf0))))) <| .mu 3 <| .pure (v := aB false) (by kernel_rfl) (eB hb34) (by kernel_rfl) <| .mu 14 ?_
       refine .done ⟨by kernel_rfl, ?_⟩
       refine .ret ?_
       obtain rfl := oi hr
       exact FinQ.r1 [aB false]
     ·subst hb33
      replace hr := cd_f rfl hr
      refine .tn fine (ca1 (ok0 (fiducialref02_SameRat_ok n v7.1 v13.1 true hc19)) (ca1 (ok0 (fiducialref02_SameRat_ok n v7.2 v13.1 true hc22)) (ca1 (ok0 (fiducialref02_Int_ok n 100 v24 hc25)) (ca1 (ok0 (fiducialref02_SameRat_ok n v9.1 v24 true hc27)) (ca1 (ok0 (fiducialref02_Int_ok n 0 v29 hc30)) (ca3 (ok0 (fiducialref02_SameRat_ok n v9.2.1 v29 false hc32)))))))) <| .mu 5 <| .pure (v := aB true) (by kernel_rfl) (eB hb17) (by kernel_rfl) <| .mu 3 <| .ca cf0 <| .mu 4 <| .ca (cfA (fun h => by rw [sv hc22 hc19 (fiducialref02_SameRat_cg n h)]) cf0) <| .mu 3 <| .ca (cfF (cfF cf0)) <| .ca (cfA (fun h => by rw [sv hc27 hc19 (fiducialref02_SameRat_cg n h)]) (cfA (fun h => by rw [sv hc27 hc22 (fiducialref02_SameRat_cg n h)]) (cfF cf0))) <| .mu 3 <| .ca (cfF (cfF (cfA (fun h => by rw [sv hc30 hc25 (fiducialref02_Int_cg n h)]) (cfF cf0)))) <| .ca (cfA (fun h => by rw [sv hc32 hc19 (fiducialref02_SameRat_cg n h)]) (cfA (fun h => by rw [sv hc32 hc22 (fiducialref02_SameRat_cg n h)]) (cfF (cfA (fun h => by rw [sv hc32 hc27 (fiducialref02_SameRat_cg n h)]) (cfF cf0))))) <| .mu 18 ?_
      refine .done ⟨by kernel_rfl, ?_⟩
      refine .ret ?_
      obtain rfl := oi hr
      exact FinQ.r1 [aB false]
    ·subst hb28
     replace hr := cd_f rfl hr
     refine .tn fine (ca1 (ok0 (fiducialref02_SameRat_ok n v7.1 v13.1 true hc19)) (ca1 (ok0 (fiducialref02_SameRat_ok n v7.2 v13.1 true hc22)) (ca1 (ok0 (fiducialref02_Int_ok n 100 v24 hc25)) (ca3 (ok0 (fiducialref02_SameRat_ok n v9.1 v24 false hc27)))))) <| .mu 5 <| .pure (v := aB true) (by kernel_rfl) (eB hb17) (by kernel_rfl) <| .mu 3 <| .ca cf0 <| .mu 4 <| .ca (cfA (fun h => by rw [sv hc22 hc19 (fiducialref02_SameRat_cg n h)]) cf0) <| .mu 3 <| .ca (cfF (cfF cf0)) <| .ca (cfA (fun h => by rw [sv hc27 hc19 (fiducialref02_SameRat_cg n h)]) (cfA (fun h => by rw [sv hc27 hc22 (fiducialref02_SameRat_cg n h)]) (cfF cf0))) <| .mu 23 ?_
     refine .done ⟨by kernel_rfl, ?_⟩
     refine .ret ?_
     obtain rfl := oi hr
     exact FinQ.r1 [aB false]
   ·subst hb23
    replace hr := cd_f rfl hr
    refine .tn fine (ca1 (ok0 (fiducialref02_SameRat_ok n v7.1 v13.1 true hc19)) (ca3 (ok0 (fiducialref02_SameRat_ok n v7.2 v13.1 false hc22)))) <| .mu 5 <| .pure (v := aB true) (by kernel_rfl) (eB hb17) (by kernel_rfl) <| .mu 3 <| .ca cf0 <| .mu 4 <| .ca (cfA (fun h => by rw [sv hc22 hc19 (fiducialref02_SameRat_cg n h)]) cf0) <| .mu 28 ?_
    refine .done ⟨by kernel_rfl, ?_⟩
    refine .ret ?_
    obtain rfl := oi hr
    exact FinQ.r1 [aB false]
  ·subst hb20
   replace hr := cd_f rfl hr
   refine .t1 fine (ok0 (fiducialref02_SameRat_ok n v7.1 v13.1 false hc19)) <| .mu 5 <| .pure (v := aB true) (by kernel_rfl) (eB hb17) (by kernel_rfl) <| .mu 3 <| .ca cf0 <| .mu 33 ?_
   refine .done ⟨by kernel_rfl, ?_⟩
   refine .ret ?_
   obtain rfl := oi hr
   exact FinQ.r1 [aB false]
 ·replace hr := cd_f hb17 hr
  refine .regionT fine callOf_nil <| .mu 5 <| .pure (v := aB false) (by kernel_rfl) (eB hb17) (by kernel_rfl) <| .mu 37 ?_
  refine .done ⟨by kernel_rfl, ?_⟩
  refine .ret ?_
  obtain rfl := oi hr
  exact FinQ.r1 [aB false]

theorem fiduciallaw52_few_ok (n : Nat) (g : api_Grid) (r : Bool) (hr : fiduciallaw52_few n g = some r) : FnOk Tryz.prog 6 [.agg (api_Grid.c g)] (aB r) := by
 unfold fiduciallaw52_few at hr
 refine FnOk.bd fine Tryz.func6 [.tmp 2] ?_
 unfold Tryz.f6
 simp only [Option.getD_some]
 refine .seq <| .r2 fine 7 [(1, .hp 0 0)] [.own (api_Grid.c g)] <| .seq <| .ru fine <| .ret ?_
 obtain rfl := oi hr
 exact FinQ.r1 [aB (decide ((g.Z.length : Int) ≤ 36))]

theorem fiduciallaw48_far_inj {n' : Int} {most : Int} {n'_ : Int} {most_ : Int} (h : ([.at (.int .i64 n'), .at (.int .i64 most)] : List AV) = [.at (.int .i64 n'_), .at (.int .i64 most_)]) : n' = n'_ ∧ most = most_ := by
 simp only [List.cons.injEq, AV.agg.injEq, AV.at.injEq, Value.int.injEq, Value.bool.injEq, AV.fn.injEq, AV.pp.injEq, true_and, and_true] at h
 simp_all
theorem fiduciallaw48_far_cg (n : Nat) {n' : Int} {most : Int} {n'_ : Int} {most_ : Int} (h : ([.at (.int .i64 n'), .at (.int .i64 most)] : List AV) = [.at (.int .i64 n'_), .at (.int .i64 most_)]) : fiduciallaw48_far n n' most = fiduciallaw48_far n n'_ most_ := by
 obtain ⟨rfl, rfl⟩ := fiduciallaw48_far_inj h
 rfl
theorem fiduciallaw48_far_ok (n : Nat) (n' : Int) (most : Int) (r : Bool) (hr : fiduciallaw48_far n n' most = some r) : FnOk Tryz.prog 58 [aI64 n', aI64 most] (aB r) := by
 unfold fiduciallaw48_far at hr
 refine FnOk.bd fine Tryz.func58 [.tmp 4] ?_
 unfold Tryz.f58
 simp only [Option.getD_some]
 refine .seq <| .r4 fine [0, 1] [] <| .seq ?_
 rcases Bool.eq_false_or_eq_true (decide (n' > most)) with hb1 | hb1
 ·replace hr := cd_t hb1 hr
  refine .r0 fine <| .mu 2 <| .p0 (v := aB true) (eB hb1) <| .mu 7 <| .done <| .ret ?_
  obtain rfl := oi hr
  exact FinQ.r1 [aB true]
 ·replace hr := cd_f hb1 hr
  refine .r0 fine <| .mu 2 <| .p0 (v := aB false) (eB hb1) <| .mu 3 <| .pure (v := aI64 (wrapF .i64 (0 - most))) (by kernel_rfl) (Eq.trans (b := some (.pure (aI64 (IntKind.wrap .i64 (0 - most))))) (by kernel_rfl) wrap_at) <| .mu 3 <| .done <| .ret ?_
  obtain rfl := oi hr
  exact FinQ.r1 [aB (decide (n' < (wrapF .i64 (0 - most))))]

theorem fiduciallaw48_checked_ok (n : Nat) (g : api_Grid) (r : Int) (hr : fiduciallaw48_checked n g = some r) : FnOk Tryz.prog 23 [.agg (api_Grid.c g)] (aI64 r) := by
 unfold fiduciallaw48_checked at hr
 refine FnOk.bd fine Tryz.func23 [.tmp 2] ?_
 unfold Tryz.f23
 simp only [Option.getD_some]
 refine .seq <| .r2 fine 72 [(1, .hp 0 0)] [.own (api_Grid.c g)] <| .seq <| .seq ?_
 rcases Bool.eq_false_or_eq_true (decide (g.Width < 2)) with hb1 | hb1
 ·replace hr := cd_t hb1 hr
  refine .r0 fine <| .mu 2 <| .p0 (v := aB true) (eB hb1) <| .mu 41 <| .done <| .nh [1, 48] [.own (api_Grid.c g)] <| .cT (by kernel_rfl) <| .seq <| .ru fine <| .ret ?_
  obtain rfl := oi hr
  exact FinQ.r1 [aI64 2]
 ·replace hr := cd_f hb1 hr
  rcases Bool.eq_false_or_eq_true (decide (g.Width > 64)) with hb2 | hb2
  ·replace hr := cd_t hb2 hr
   refine .r0 fine <| .mu 2 <| .p0 (v := aB false) (eB hb1) <| .mu 3 <| .pure (v := aB true) (by kernel_rfl) (eB hb2) <| .mu 37 <| .done <| .nh [1, 48] [.own (api_Grid.c g)] <| .cT (by kernel_rfl) <| .seq <| .ru fine <| .ret ?_
   obtain rfl := oi hr
   exact FinQ.r1 [aI64 2]
  ·replace hr := cd_f hb2 hr
   rcases Bool.eq_false_or_eq_true (decide (g.Height < 2)) with hb3 | hb3
   ·replace hr := cd_t hb3 hr
    refine .r0 fine <| .mu 2 <| .p0 (v := aB false) (eB hb1) <| .mu 3 <| .pure (v := aB false) (by kernel_rfl) (eB hb2) <| .mu 4 <| .pure (v := aB true) (by kernel_rfl) (eB hb3) <| .mu 32 <| .done <| .nh [1, 48] [.own (api_Grid.c g)] <| .cT (by kernel_rfl) <| .seq <| .ru fine <| .ret ?_
    obtain rfl := oi hr
    exact FinQ.r1 [aI64 2]
   ·replace hr := cd_f hb3 hr
    rcases Bool.eq_false_or_eq_true (decide (g.Height > 64)) with hb4 | hb4
    ·replace hr := cd_t hb4 hr
     refine .r0 fine <| .mu 2 <| .p0 (v := aB false) (eB hb1) <| .mu 3 <| .pure (v := aB false) (by kernel_rfl) (eB hb2) <| .mu 4 <| .pure (v := aB false) (by kernel_rfl) (eB hb3) <| .mu 4 <| .pure (v := aB true) (by kernel_rfl) (eB hb4) <| .mu 27 <| .done <| .nh [1, 48] [.own (api_Grid.c g)] <| .cT (by kernel_rfl) <| .seq <| .ru fine <| .ret ?_
     obtain rfl := oi hr
     exact FinQ.r1 [aI64 2]
    ·replace hr := cd_f hb4 hr
     rcases Bool.eq_false_or_eq_true (decide (g.Step < 2)) with hb5 | hb5
     ·replace hr := cd_t hb5 hr
      refine .r0 fine <| .mu 2 <| .p0 (v := aB false) (eB hb1) <| .mu 3 <| .pure (v := aB false) (by kernel_rfl) (eB hb2) <| .mu 4 <| .pure (v := aB false) (by kernel_rfl) (eB hb3) <| .mu 4 <| .pure (v := aB false) (by kernel_rfl) (eB hb4) <| .mu 4 <| .pure (v := aB true) (by kernel_rfl) (eB hb5) <| .mu 22 <| .done <| .nh [1, 48] [.own (api_Grid.c g)] <| .cT (by kernel_rfl) <| .seq <| .ru fine <| .ret ?_
      obtain rfl := oi hr
      exact FinQ.r1 [aI64 2]
     ·replace hr := cd_f hb5 hr
      rcases Bool.eq_false_or_eq_true (decide (g.Step > 65536)) with hb6 | hb6
      ·replace hr := cd_t hb6 hr
       refine .r0 fine <| .mu 2 <| .p0 (v := aB false) (eB hb1) <| .mu 3 <| .pure (v := aB false) (by kernel_rfl) (eB hb2) <| .mu 4 <| .pure (v := aB false) (by kernel_rfl) (eB hb3) <| .mu 4 <| .pure (v := aB false) (by kernel_rfl) (eB hb4) <| .mu 4 <| .pure (v := aB false) (by kernel_rfl) (eB hb5) <| .mu 4 <| .pure (v := aB true) (by kernel_rfl) (eB hb6) <| .mu 17 <| .done <| .nh [1, 48] [.own (api_Grid.c g)] <| .cT (by kernel_rfl) <| .seq <| .ru fine <| .ret ?_
       obtain rfl := oi hr
       exact FinQ.r1 [aI64 2]
      ·replace hr := cd_f hb6 hr
       rcases Bool.eq_false_or_eq_true (((g.Step.tmod 2) : Int) != 0) with hb7 | hb7
       ·replace hr := cd_t hb7 hr
        refine .r0 fine <| .mu 2 <| .p0 (v := aB false) (eB hb1) <| .mu 3 <| .pure (v := aB false) (by kernel_rfl) (eB hb2) <| .mu 4 <| .pure (v := aB false) (by kernel_rfl) (eB hb3) <| .mu 4 <| .pure (v := aB false) (by kernel_rfl) (eB hb4) <| .mu 4 <| .pure (v := aB false) (by kernel_rfl) (eB hb5) <| .mu 4 <| .pure (v := aB false) (by kernel_rfl) (eB hb6) <| .mu 5 <| .pure (v := aB true) (by kernel_rfl) (eB hb7) <| .mu 11 <| .done <| .nh [1, 48] [.own (api_Grid.c g)] <| .cT (by kernel_rfl) <| .seq <| .ru fine <| .ret ?_
        obtain rfl := oi hr
        exact FinQ.r1 [aI64 2]
       ·replace hr := cd_f hb7 hr
        obtain ⟨v8, hc9, hr⟩ := bd hr
        rcases Bool.eq_false_or_eq_true v8 with hb10 | hb10
        ·subst hb10
         replace hr := cd_t rfl hr
         refine .g1 fine (ok0 (fiduciallaw48_far_ok n g.X0 1048576 true hc9)) <| .mu 2 <| .p0 (v := aB false) (eB hb1) <| .mu 3 <| .pure (v := aB false) (by kernel_rfl) (eB hb2) <| .mu 4 <| .pure (v := aB false) (by kernel_rfl) (eB hb3) <| .mu 4 <| .pure (v := aB false) (by kernel_rfl) (eB hb4) <| .mu 4 <| .pure (v := aB false) (by kernel_rfl) (eB hb5) <| .mu 4 <| .pure (v := aB false) (by kernel_rfl) (eB hb6) <| .mu 5 <| .pure (v := aB false) (by kernel_rfl) (eB hb7) <| .mu 4 <| .ca cf0 <| .mu 6 <| .done <| .nh [1, 48] [.own (api_Grid.c g)] <| .cT (by kernel_rfl) <| .seq <| .ru fine <| .ret ?_
         obtain rfl := oi hr
         exact FinQ.r1 [aI64 2]
        ·subst hb10
         replace hr := cd_f rfl hr
         obtain ⟨v11, hc12, hr⟩ := bd hr
         refine .gn fine (ca1 (ok0 (fiduciallaw48_far_ok n g.X0 1048576 false hc9)) (ca3 (ok0 (fiduciallaw48_far_ok n g.Y0 1048576 v11 hc12)))) <| .mu 2 <| .p0 (v := aB false) (eB hb1) <| .mu 3 <| .pure (v := aB false) (by kernel_rfl) (eB hb2) <| .mu 4 <| .pure (v := aB false) (by kernel_rfl) (eB hb3) <| .mu 4 <| .pure (v := aB false) (by kernel_rfl) (eB hb4) <| .mu 4 <| .pure (v := aB false) (by kernel_rfl) (eB hb5) <| .mu 4 <| .pure (v := aB false) (by kernel_rfl) (eB hb6) <| .mu 5 <| .pure (v := aB false) (by kernel_rfl) (eB hb7) <| .mu 4 <| .ca cf0 <| .mu 4 <| .ca (cfA (fun h => by rw [sv hc12 hc9 (fiduciallaw48_far_cg n h)]) cf0) <| .mu 1 <| .done <| .nh [1, 48] [.own (api_Grid.c g)] ?_
         refine .cd hr (fun hb13 hr => ?_) (fun hb13 hr => ?_)
         ·refine .seq <| .ru fine <| .ret ?_
          obtain rfl := oi hr
          exact FinQ.r1 [aI64 2]
         ·refine .skip <| .seq <| .seq <| .r4 fine [1] [(57, aB (((g.Z.length : Int) : Int) != (wrapF .i64 (g.Width * g.Height))))] ?_
          refine .cd hr (fun hb14 hr => ?_) (fun hb14 hr => ?_)
          ·refine .seq <| .ru fine <| .ret ?_
           obtain rfl := oi hr
           exact FinQ.r1 [aI64 4]
          ·refine .skip <| .seq <| .seq <| .r3 fine 72 [(59, sI64 g.Z), (60, aI64 (g.Z.length : Int)), (61, aI64 0)] <| .block ?_
           replace hr := bd hr; obtain ⟨o29, hL30, hr⟩ := hr
           refine .loopO (σ := fun z0 => match z0 with | x_15 => ⟨mkS 72 0 [(59, sI64 g.Z), (60, aI64 (g.Z.length : Int)), (61, aI64 x_15)], []⟩) (Q := fun x st' => match (generalizing := false) o29 with | .inl _ => x = .exit 0 ∧ Wk 0 st' ⟨mkS 72 0 [], []⟩ | .inr (r0) => x = .ret ∧ FinQ Tryz.prog [.tmp 2] (aI64 r0) .ret st') hL30 ((Wk.gc [59, 60, 61] [] rfl pK0).to (by kernel_rfl)) ?_ ?_
           ·clear hr
            rintro m x_15 hr
            show CQ _ _ _ _ _ ⟨_, _⟩
            refine .seq <| .r4 fine [59, 60, 61] [(62, aB (decide (x_15 < (g.Z.length : Int))))] <| .seq ?_
            refine .cd hr (fun hb23 hr => ?_) (fun hb23 hr => ?_)
            ·refine .skip <| .seq <| .block <| .seq ?_
             obtain ⟨hg24, hr⟩ := gd hr
             refine .r0 fine <| .p0 (v := .pp (g.Z.flatMap (iC .i64)) (x_15.toNat * 1)) (tr (ofP_guard hg24)) <| .p0 (v := aI64 (gt g.Z x_15)) (tr (ofP_some (flat_get (iC_len .i64) (inR_lt hg24) (by decide : 0 < 1) (by omega : x_15.toNat * 1 = x_15.toNat * 1 + 0) (by kernel_rfl)))) <| .mu 1 <| .done <| .nh [4, 59, 60, 61] [] <| .seq ?_
             rcases Bool.eq_false_or_eq_true (((gt g.Z x_15) : Int) != (-2147483648)) with hb25 | hb25
             ·replace hr := cd_t hb25 hr
              obtain ⟨v26, hc27, hr⟩ := bd hr
              refine .g1 fine (ok0 (fiduciallaw48_far_ok n (gt g.Z x_15) 1048576 v26 hc27)) <| .mu 1 <| .p0 (v := aB true) (eB hb25) <| .mu 2 <| .ca cf0 <| .mu 1 <| .done <| .nh [59, 60, 61, 70] [] ?_
              refine .cd hr (fun hb28 hr => ?_) (fun hb28 hr => ?_)
              ·refine .seq <| .ru fine <| .ret ?_
               obtain rfl := oi hr
               exact ⟨rfl, FinQ.ret (vs := [aI64 2]) (by kernel_rfl) (Sn.pure rfl)⟩
              ·refine .skip <| .pop <| .ru fine ?_
               exact loopF_back (wrapF .i64 (x_15 + 1)) hr ((Wk.gc [59, 60, 61] [] rfl pK0).to (by kernel_rfl))
             ·replace hr := cd_f hb25 hr
              refine .r0 fine <| .mu 1 <| .p0 (v := aB false) (eB hb25) <| .mu 4 <| .done <| .nh [59, 60, 61, 70] [] <| .cF (by kernel_rfl) <| .skip <| .pop <| .ru fine ?_
              exact loopF_back (wrapF .i64 (x_15 + 1)) hr ((Wk.gc [59, 60, 61] [] rfl pK0).to (by kernel_rfl))
            ·refine .leave rfl ?_
             obtain rfl := oi hr
             exact ⟨rfl, ((Wk.gc [] [] rfl pK0).to (by kernel_rfl))⟩
           ·rcases o29 with ⟨⟩ | r0
            ·rintro x st' hq31
             clear hL30
             obtain ⟨rfl, hq31⟩ := hq31
             refine CQ_exit _ rfl <| .wk hq31 <| .seq <| .ru fine <| .ret ?_
             obtain rfl := oi hr
             exact FinQ.r1 [aI64 0]
            ·rintro x st' hq31
             clear hL30
             obtain ⟨rfl, hq31⟩ := hq31
             obtain rfl := oi hr
             exact CQ_ret _ hq31

theorem fiduciallaw48_Checked_ok (n : Nat) (g : api_Grid) (r : Int) (hr : fiduciallaw48_Checked n g = some r) : FnOk Tryz.prog 10 [.agg (api_Grid.c g)] (aI64 r) := by
 unfold fiduciallaw48_Checked at hr
 refine FnOk.bd fine Tryz.func10 [.tmp 2] ?_
 unfold Tryz.f10
 simp only [Option.getD_some]
 refine .seq <| .r2 fine 5 [(1, .hp 0 0)] [.own (api_Grid.c g)] <| .seq ?_
 obtain ⟨v1, hc2, hr⟩ := bd hr
 refine .g1 fine (ok0 (fiduciallaw48_checked_ok n g v1 hc2)) <| .mu 1 <| .ca cf0 <| .mu 1 <| .done <| .ret ?_
 obtain rfl := oi hr
 exact FinQ.r1 [aI64 v1]

theorem fiduciallaw52_VolumeParts_1_ok (n : Nat) (from' : Int) (to : Int) (p : Int) (p' : Int) (p'' : Int) (p''' : Int) (p'''' : Int) (p''''' : List Int) (r : api_Grid) (hr : fiduciallaw52_VolumeParts_1 n from' to p p' p'' p''' p'''' p''''' = some r) : FnOk Tryz.prog 15 [aI64 from', aI64 to, .pp [aI64 p, aI64 p', aI64 p'', aI64 p''', aI64 p'''', sI64 p'''''] 0] (.agg (api_Grid.c r)) := by
 unfold fiduciallaw52_VolumeParts_1 at hr
 refine FnOk.bd fine Tryz.func15 [.cell 5 24] ?_
 unfold Tryz.f15
 simp only [Option.getD_some]
 refine .seq <| .r5 fine [0, 1, 2] [(5, .hp 0 0)] [.own [aI64 0, aI64 0, aI64 0, aI64 0, aI64 0, nS]] <| .seq <| .r5 fine [0, 1, 2, 5] [(6, .hp 1 0)] [.own [aI64 0, aI64 0, aI64 0, aI64 0, aI64 0, nS], .own [aI64 p, aI64 p', aI64 p'', aI64 (wrapF .i64 ((wrapF .i64 (to - from')) + 1)), aI64 p'''', nS]] <| .seq <| .seq <| .r4 fine [0, 1, 2, 5, 6] [(22, aI64 p''''), (23, aI64 0)] <| .block ?_
 replace hr := bd hr; obtain ⟨h_8, hL16, hr⟩ := hr
 refine .loopO (σ := fun z0 => match z0 with | (h_1, x_2) => ⟨mkS 48 0 [(0, aI64 from'), (1, aI64 to), (2, .pp [aI64 p, aI64 p', aI64 p'', aI64 p''', aI64 p'''', sI64 p'''''] 0), (5, .hp 0 0), (6, .hp 1 0), (22, aI64 p''''), (23, aI64 x_2)], [.own [aI64 0, aI64 0, aI64 0, aI64 0, aI64 0, nS], .own [aI64 p, aI64 p', aI64 p'', aI64 (wrapF .i64 ((wrapF .i64 (to - from')) + 1)), aI64 p'''', .hs 2 0 h_1.length 1], .own (h_1.flatMap (iC .i64))]⟩) (Q := fun x st' => x = .exit 0 ∧ Wk 0 st' ⟨mkS 48 0 [(5, .hp 0 0), (6, .hp 1 0)], [.own [aI64 0, aI64 0, aI64 0, aI64 0, aI64 0, nS], .own [aI64 p, aI64 p', aI64 p'', aI64 (wrapF .i64 ((wrapF .i64 (to - from')) + 1)), aI64 p'''', .hs 2 0 h_8.length 1], .own (h_8.flatMap (iC .i64))]⟩) hL16 ((Wk.nilcell 1 5 1 (cs := [aI64 p, aI64 p', aI64 p'', aI64 (wrapF .i64 ((wrapF .i64 (to - from')) + 1)), aI64 p'''', nS]) (by kernel_rfl) (by kernel_rfl)).trans ((Wk.gc [0, 1, 2, 5, 6, 22, 23] [(0, true), (1, true), (2, false)] rfl (pKt (pKt (pKc trivial)))).to (by kernel_rfl))) ?_ ?_
 ·clear hr
  rintro m ⟨h_1, x_2⟩ hr
  show CQ _ _ _ _ _ ⟨_, _⟩
  refine .seq <| .r4 fine [0, 1, 2, 5, 6, 22, 23] [(24, aB (decide (x_2 < p'''')))] <| .seq ?_
  refine .cd hr (fun hb11 hr => ?_) (fun hb11 hr => ?_)
  ·refine .skip <| .seq <| .block <| .seq <| .r4 fine [0, 1, 2, 5, 6, 22, 23] [(7, aI64 x_2)] ?_
   obtain ⟨hg12, hg13, hg14, hr⟩ := gd3 hr
   refine .regionT fine callOf_nil <| .mu 17 <| .pure (v := sI64 ((p'''''.drop (wrapF .i64 ((wrapF .i64 (x_2 * p''')) + from')).toNat).take ((wrapF .i64 ((wrapF .i64 ((wrapF .i64 (x_2 * p''')) + to)) + 1)).toNat - (wrapF .i64 ((wrapF .i64 (x_2 * p''')) + from')).toNat))) (by kernel_rfl) (Eq.trans (b := slO (inS (wrapF .i64 ((wrapF .i64 (x_2 * p''')) + from')) (wrapF .i64 ((wrapF .i64 ((wrapF .i64 (x_2 * p''')) + to)) + 1)) p'''''.length) (wrapF .i64 ((wrapF .i64 (x_2 * p''')) + from')).toNat (wrapF .i64 ((wrapF .i64 ((wrapF .i64 (x_2 * p''')) + to)) + 1)).toNat (fun z1 z2 => .sl true (((p'''''.flatMap (iC .i64)).drop (z1 * 1)).take ((z2 - z1) * 1)) (z2 - z1))) (by kernel_rfl) (slO_t hg12 (sub_sl (iC_len _) (inS_le hg12)))) (by kernel_rfl) <| .eff (v := .hs 3 0 (h_1 ++ ((p'''''.drop (wrapF .i64 ((wrapF .i64 (x_2 * p''')) + from')).toNat).take ((wrapF .i64 ((wrapF .i64 ((wrapF .i64 (x_2 * p''')) + to)) + 1)).toNat - (wrapF .i64 ((wrapF .i64 (x_2 * p''')) + from')).toNat))).length 1) (ws := [(2, .dead), (3, .own ((h_1 ++ ((p'''''.drop (wrapF .i64 ((wrapF .i64 (x_2 * p''')) + from')).toNat).take ((wrapF .i64 ((wrapF .i64 ((wrapF .i64 (x_2 * p''')) + to)) + 1)).toNat - (wrapF .i64 ((wrapF .i64 (x_2 * p''')) + from')).toNat))).flatMap (iC .i64)))]) (by kernel_rfl) (Eq.trans (b := appS (decide (((((p'''''.drop (wrapF .i64 ((wrapF .i64 (x_2 * p''')) + from')).toNat).take ((wrapF .i64 ((wrapF .i64 ((wrapF .i64 (x_2 * p''')) + to)) + 1)).toNat - (wrapF .i64 ((wrapF .i64 (x_2 * p''')) + from')).toNat)).flatMap (iC .i64))).length = ((p'''''.drop (wrapF .i64 ((wrapF .i64 (x_2 * p''')) + from')).toNat).take ((wrapF .i64 ((wrapF .i64 ((wrapF .i64 (x_2 * p''')) + to)) + 1)).toNat - (wrapF .i64 ((wrapF .i64 (x_2 * p''')) + from')).toNat)).length * 1)) (((p'''''.drop (wrapF .i64 ((wrapF .i64 (x_2 * p''')) + from')).toNat).take ((wrapF .i64 ((wrapF .i64 ((wrapF .i64 (x_2 * p''')) + to)) + 1)).toNat - (wrapF .i64 ((wrapF .i64 (x_2 * p''')) + from')).toNat)).flatMap (iC .i64)) ((p'''''.drop (wrapF .i64 ((wrapF .i64 (x_2 * p''')) + from')).toNat).take ((wrapF .i64 ((wrapF .i64 ((wrapF .i64 (x_2 * p''')) + to)) + 1)).toNat - (wrapF .i64 ((wrapF .i64 (x_2 * p''')) + from')).toNat)).length (fun z1 z2 => guardO (decide (0 + h_1.length * 1 ≤ (h_1.flatMap (iC .i64)).length) && decide ((h_1.length + z2) * 8 ≤ 140737488355328) && decide (h_1.length + z2 ≤ 4611686018427387904)) (some (.eff (.hs 3 0 (h_1.length + z2) 1) [(2, .dead), (3, .own (((h_1.flatMap (iC .i64)).drop 0).take (h_1.length * 1) ++ z1))])))) (by kernel_rfl) (appS_t (flat_lenB (iC_len _)) rfl (app_own (l := h_1) (xs := (p'''''.drop (wrapF .i64 ((wrapF .i64 (x_2 * p''')) + from')).toNat).take ((wrapF .i64 ((wrapF .i64 ((wrapF .i64 (x_2 * p''')) + to)) + 1)).toNat - (wrapF .i64 ((wrapF .i64 (x_2 * p''')) + from')).toNat)) (iC_len _) rfl rfl rfl hg13 hg14))) (by kernel_rfl) <| .mu 2 ?_
   refine .done ⟨by kernel_rfl, ?_⟩
   refine .pop <| .ru fine ?_
   exact loopF_back (h_1 ++ ((p'''''.drop (wrapF .i64 ((wrapF .i64 (x_2 * p''')) + from')).toNat).take ((wrapF .i64 ((wrapF .i64 ((wrapF .i64 (x_2 * p''')) + to)) + 1)).toNat - (wrapF .i64 ((wrapF .i64 (x_2 * p''')) + from')).toNat)), wrapF .i64 (x_2 + 1)) hr ((Wk.gc [0, 1, 2, 5, 6, 22, 23] [(0, true), (1, true), (3, false)] rfl (pKt (pKt (pKo (iC .i64) (iC_pure _) (h_1 ++ ((p'''''.drop (wrapF .i64 ((wrapF .i64 (x_2 * p''')) + from')).toNat).take ((wrapF .i64 ((wrapF .i64 ((wrapF .i64 (x_2 * p''')) + to)) + 1)).toNat - (wrapF .i64 ((wrapF .i64 (x_2 * p''')) + from')).toNat))) trivial)))).to (by kernel_rfl))
  ·refine .leave rfl ?_
   obtain rfl := oi hr
   exact ⟨rfl, ((Wk.gc [5, 6] [(0, true), (1, true), (2, false)] rfl (pKt (pKt (pKo (iC .i64) (iC_pure _) h_1 trivial)))).to (by kernel_rfl))⟩
 ·rintro x st' hq17
  clear hL16
  obtain ⟨rfl, hq17⟩ := hq17
  refine CQ_exit _ rfl <| .wk hq17 <| .seq <| .r5 fine [5] [] [.own [aI64 p, aI64 p', aI64 p'', aI64 (wrapF .i64 ((wrapF .i64 (to - from')) + 1)), aI64 p'''', .hs 2 0 h_8.length 1], .own [aI64 p, aI64 p', aI64 p'', aI64 (wrapF .i64 ((wrapF .i64 (to - from')) + 1)), aI64 p'''', .hs 2 0 h_8.length 1], .own (h_8.flatMap (iC .i64))] <| .ret ?_
  obtain rfl := oi hr
  exact FinQ.ret (vs := [.agg [aI64 p, aI64 p', aI64 p'', aI64 (wrapF .i64 ((wrapF .i64 (to - from')) + 1)), aI64 p'''', .hs 2 0 h_8.length 1]]) (by kernel_rfl) (Sn.agg (SnL.cons (Sn.pure rfl) (SnL.cons (Sn.pure rfl) (SnL.cons (Sn.pure rfl) (SnL.cons (Sn.pure rfl) (SnL.cons (Sn.pure rfl) (SnL.cons (Sn.hs rfl (.inl rfl) (SnC.pure (ids_flat (iC_pure _) _)) (fun h => flat_nil0 h)) SnL.nil)))))))

theorem fiduciallaw52_VolumeParts_ok (n : Nat) (g : api_Grid) (column : Int) (rise : Int) (r : Bool) (hr : fiduciallaw52_VolumeParts n g column rise = some r) : FnOk Tryz.prog 4 [.agg (api_Grid.c g), aU8 column, aU8 rise] (aB r) := by
 unfold fiduciallaw52_VolumeParts at hr
 refine FnOk.bd fine Tryz.func4 [.tmp 6] ?_
 unfold Tryz.f4
 simp only [Option.getD_some]
 refine .seq <| .r5 fine [1, 2] [(3, .hp 0 0)] [.own (api_Grid.c g)] <| .seq <| .seq ?_
 obtain ⟨v1, hc2, hr⟩ := bd hr
 refine .g1 fine (ok0 (fiduciallaw52_known_ok n v1 hc2)) <| .ca cf0 <| .mu 1 <| .done <| .nh [1, 2, 3, 23] [.own (api_Grid.c g)] ?_
 refine .cd hr (fun hb4 hr => ?_) (fun hb4 hr => ?_)
 ·refine .seq <| .ru fine <| .ret ?_
  obtain rfl := oi hr
  exact FinQ.r1 [aB false]
 ·refine .skip <| .seq <| .seq ?_
  obtain ⟨v5, hc6, hr⟩ := bd hr
  rcases Bool.eq_false_or_eq_true (!v5) with hb7 | hb7
  ·replace hr := cd_t hb7 hr
   refine .g1 fine (ok0 (fiduciallaw52_few_ok n g v5 hc6)) <| .mu 1 <| .ca cf0 <| .p0 (v := aB true) (eB hb7) <| .mu 10 <| .done <| .nh [1, 2, 3, 36] [.own (api_Grid.c g)] <| .cT (by kernel_rfl) <| .seq <| .ru fine <| .ret ?_
   obtain rfl := oi hr
   exact FinQ.r1 [aB true]
  ·replace hr := cd_f hb7 hr
   obtain ⟨v8, hc9, hr⟩ := bd hr
   rcases Bool.eq_false_or_eq_true ((v8 : Int) != 0) with hb10 | hb10
   ·replace hr := cd_t hb10 hr
    refine .gn fine (ca1 (ok0 (fiduciallaw52_few_ok n g v5 hc6)) (ca3 (ok0 (fiduciallaw48_Checked_ok n g v8 hc9)))) <| .mu 1 <| .ca cf0 <| .p0 (v := aB false) (eB hb7) <| .mu 2 <| .ca (cfF cf0) <| .pure (v := aB true) (by kernel_rfl) (eB hb10) <| .mu 6 <| .done <| .nh [1, 2, 3, 36] [.own (api_Grid.c g)] <| .cT (by kernel_rfl) <| .seq <| .ru fine <| .ret ?_
    obtain rfl := oi hr
    exact FinQ.r1 [aB true]
   ·replace hr := cd_f hb10 hr
    refine .gn fine (ca1 (ok0 (fiduciallaw52_few_ok n g v5 hc6)) (ca3 (ok0 (fiduciallaw48_Checked_ok n g v8 hc9)))) <| .mu 1 <| .ca cf0 <| .p0 (v := aB false) (eB hb7) <| .mu 2 <| .ca (cfF cf0) <| .pure (v := aB false) (by kernel_rfl) (eB hb10) <| .mu 6 <| .done <| .nh [1, 2, 3, 36] [.own (api_Grid.c g)] ?_
    refine .cd hr (fun hb12 hr => ?_) (fun hb12 hr => ?_)
    ·refine .seq <| .ru fine <| .ret ?_
     obtain rfl := oi hr
     exact FinQ.r1 [aB true]
    ·refine .skip <| .seq ?_
     obtain ⟨hg13, hr⟩ := gd hr
     refine .r0 fine <| .mu 5 <| .p0 (v := aI64 ((wrapF .i64 column).tmod (wrapF .i64 (g.Width - 2)))) (op_rem (x := wrapF .i64 column) (y := wrapF .i64 (g.Width - 2)) (by kernel_rfl) (by kernel_rfl) hg13) <| .mu 2 <| .done <| .nh [2, 3, 7] [.own (api_Grid.c g)] <| .seq <| .r4 fine [2, 3, 7] [(8, .fn 15 [] [.hp 0 0])] <| .seq <| .r4 fine [2, 3, 7, 8] [(9, aI64 3)] <| .seq ?_
     obtain ⟨v14, hc15, hr⟩ := bd hr
     refine .g1 fine (ok0 (volume_Level_ok n g 3 v14 hc15)) <| .mu 2 <| .ca cf0 <| .mu 9 <| .done <| .nh [2, 3, 7, 8, 9, 10, 11, 12] [.own (api_Grid.c g), .own (api_Rat.c v14.1), .own (api_Rat.c v14.2.1)] <| .seq ?_
     obtain ⟨v16, hc17, v18, hc19, hr⟩ := bd2 hr
     refine .gn fine (ca1 (callOk_ref (args := [aI64 0, aI64 (wrapF .i64 (1 + ((wrapF .i64 column).tmod (wrapF .i64 (g.Width - 2))))), .hp 0 0]) (l := [0]) (SnL.cons (Sn.pure rfl) (SnL.cons (Sn.pure rfl) (SnL.cons (Sn.hp rfl (.inl rfl) (SnC.cons (Sn.pure rfl) (SnC.cons (Sn.pure rfl) (SnC.cons (Sn.pure rfl) (SnC.cons (Sn.pure rfl) (SnC.cons (Sn.pure rfl) (SnC.cons (Sn.pure rfl) SnC.nil))))))) SnL.nil))) (fiduciallaw52_VolumeParts_1_ok n 0 (wrapF .i64 (1 + ((wrapF .i64 column).tmod (wrapF .i64 (g.Width - 2))))) g.X0 g.Y0 g.Step g.Width g.Height g.Z v16 hc17)) (ca4 [.fix (api_Grid.c g), .own (api_Rat.c v14.1), .own (api_Rat.c v14.2.1)] (ok0 (volume_Level_ok n v16 3 v18 hc19)))) <| .mu 2 <| .ca cf0 <| .mu 1 <| .ca (cfF cf0) <| .mu 9 <| .done <| .nh [2, 3, 7, 8, 9, 10, 11, 12, 13, 14, 15] [.fix (api_Grid.c g), .own (api_Rat.c v14.1), .own (api_Rat.c v14.2.1), .own (api_Rat.c v18.1), .own (api_Rat.c v18.2.1)] <| .seq ?_
     obtain ⟨v20, hc21, v22, hc23, hr⟩ := bd2 hr
     refine .gn fine (ca1 (callOk_ref (args := [aI64 (wrapF .i64 (1 + ((wrapF .i64 column).tmod (wrapF .i64 (g.Width - 2))))), aI64 (wrapF .i64 (g.Width - 1)), .hp 0 0]) (l := [0]) (SnL.cons (Sn.pure rfl) (SnL.cons (Sn.pure rfl) (SnL.cons (Sn.hp rfl (.inr rfl) (SnC.cons (Sn.pure rfl) (SnC.cons (Sn.pure rfl) (SnC.cons (Sn.pure rfl) (SnC.cons (Sn.pure rfl) (SnC.cons (Sn.pure rfl) (SnC.cons (Sn.pure rfl) SnC.nil))))))) SnL.nil))) (fiduciallaw52_VolumeParts_1_ok n (wrapF .i64 (1 + ((wrapF .i64 column).tmod (wrapF .i64 (g.Width - 2))))) (wrapF .i64 (g.Width - 1)) g.X0 g.Y0 g.Step g.Width g.Height g.Z v20 hc21)) (ca3 (ok0 (volume_Level_ok n v20 3 v22 hc23)))) <| .mu 5 <| .ca cf0 <| .mu 1 <| .ca (cfF cf0) <| .mu 9 <| .done <| .nh [2, 3, 9, 10, 11, 12, 13, 14, 15, 16, 17, 18] [.fix (api_Grid.c g), .own (api_Rat.c v14.1), .own (api_Rat.c v14.2.1), .own (api_Rat.c v18.1), .own (api_Rat.c v18.2.1), .own (api_Rat.c v22.1), .own (api_Rat.c v22.2.1)] <| .seq ?_
     obtain ⟨v24, hc25, hr⟩ := bd hr
     refine .g1 fine (ok0 (volume_Level_ok n g (wrapF .i64 (3 + (wrapF .i64 rise))) v24 hc25)) <| .mu 5 <| .ca cf0 <| .mu 9 <| .done <| .nh [10, 11, 12, 13, 14, 15, 16, 17, 18, 19, 20, 21] [.fix (api_Grid.c g), .own (api_Rat.c v14.1), .own (api_Rat.c v14.2.1), .own (api_Rat.c v18.1), .own (api_Rat.c v18.2.1), .own (api_Rat.c v22.1), .own (api_Rat.c v22.2.1), .own (api_Rat.c v24.1), .own (api_Rat.c v24.2.1)] <| .seq ?_
     rcases Bool.eq_false_or_eq_true (((wrapF .i64 ((wrapF .i64 ((wrapF .i64 (v14.2.2 + v18.2.2)) + v22.2.2)) + v24.2.2)) : Int) == 0) with hb26 | hb26
     ·replace hr := cd_t hb26 hr
      obtain ⟨v27, hc28, v29, hc30, hr⟩ := bd2 hr
      rcases Bool.eq_false_or_eq_true v29 with hb31 | hb31
      ·subst hb31
       replace hr := cd_t rfl hr
       obtain ⟨v32, hc33, v34, hc35, hr⟩ := bd2 hr
       rcases Bool.eq_false_or_eq_true v34 with hb36 | hb36
       ·subst hb36
        replace hr := cd_t rfl hr
        obtain ⟨v37, hc38, hr⟩ := bd hr
        rcases Bool.eq_false_or_eq_true (decide (v37 ≤ 0)) with hb39 | hb39
        ·replace hr := cd_t hb39 hr
         obtain ⟨v40, hc41, hr⟩ := bd hr
         refine .tn fine (ca1 (ok0 (fiducialref02_Add_ok n v18.1 v22.1 v27 hc28)) (ca1 (ok0 (fiducialref02_SameRat_ok n v14.1 v27 true hc30)) (ca1 (ok0 (fiducialref02_Add_ok n v18.2.1 v22.2.1 v32 hc33)) (ca1 (ok0 (fiducialref02_SameRat_ok n v14.2.1 v32 true hc35)) (ca1 (ok0 (fiducialref02_Compare_ok n v24.1 v14.1 v37 hc38)) (ca3 (ok0 (fiducialref02_Compare_ok n v24.2.1 v14.2.1 v40 hc41)))))))) <| .mu 7 <| .pure (v := aB true) (by kernel_rfl) (eB hb26) (by kernel_rfl) <| .mu 4 <| .ca cf0 <| .ca (cfF cf0) <| .mu 5 <| .ca (cfA (fun h => by rw [sv hc33 hc28 (fiducialref02_Add_cg n h)]) (cfF cf0)) <| .ca (cfF (cfA (fun h => by rw [sv hc35 hc30 (fiducialref02_SameRat_cg n h)]) (cfF cf0))) <| .mu 4 <| .ca (cfF (cfF (cfF (cfF cf0)))) <| .pure (v := aB true) (by kernel_rfl) (eB hb39) (by kernel_rfl) <| .mu 4 <| .ca (cfF (cfF (cfF (cfF (cfA (fun h => by rw [sv hc41 hc38 (fiducialref02_Compare_cg n h)]) cf0))))) <| .mu 3 ?_
         refine .done ⟨by kernel_rfl, ?_⟩
         refine .ret ?_
         obtain rfl := oi hr
         exact FinQ.r1 [aB (decide (v40 ≥ 0))]
        ·replace hr := cd_f hb39 hr
         refine .tn fine (ca1 (ok0 (fiducialref02_Add_ok n v18.1 v22.1 v27 hc28)) (ca1 (ok0 (fiducialref02_SameRat_ok n v14.1 v27 true hc30)) (ca1 (ok0 (fiducialref02_Add_ok n v18.2.1 v22.2.1 v32 hc33)) (ca1 (ok0 (fiducialref02_SameRat_ok n v14.2.1 v32 true hc35)) (ca3 (ok0 (fiducialref02_Compare_ok n v24.1 v14.1 v37 hc38))))))) <| .mu 7 <| .pure (v := aB true) (by kernel_rfl) (eB hb26) (by kernel_rfl) <| .mu 4 <| .ca cf0 <| .ca (cfF cf0) <| .mu 5 <| .ca (cfA (fun h => by rw [sv hc33 hc28 (fiducialref02_Add_cg n h)]) (cfF cf0)) <| .ca (cfF (cfA (fun h => by rw [sv hc35 hc30 (fiducialref02_SameRat_cg n h)]) (cfF cf0))) <| .mu 4 <| .ca (cfF (cfF (cfF (cfF cf0)))) <| .pure (v := aB false) (by kernel_rfl) (eB hb39) (by kernel_rfl) <| .mu 8 ?_
         refine .done ⟨by kernel_rfl, ?_⟩
         refine .ret ?_
         obtain rfl := oi hr
         exact FinQ.r1 [aB false]
       ·subst hb36
        replace hr := cd_f rfl hr
        refine .tn fine (ca1 (ok0 (fiducialref02_Add_ok n v18.1 v22.1 v27 hc28)) (ca1 (ok0 (fiducialref02_SameRat_ok n v14.1 v27 true hc30)) (ca1 (ok0 (fiducialref02_Add_ok n v18.2.1 v22.2.1 v32 hc33)) (ca3 (ok0 (fiducialref02_SameRat_ok n v14.2.1 v32 false hc35)))))) <| .mu 7 <| .pure (v := aB true) (by kernel_rfl) (eB hb26) (by kernel_rfl) <| .mu 4 <| .ca cf0 <| .ca (cfF cf0) <| .mu 5 <| .ca (cfA (fun h => by rw [sv hc33 hc28 (fiducialref02_Add_cg n h)]) (cfF cf0)) <| .ca (cfF (cfA (fun h => by rw [sv hc35 hc30 (fiducialref02_SameRat_cg n h)]) (cfF cf0))) <| .mu 14 ?_
        refine .done ⟨by kernel_rfl, ?_⟩
        refine .ret ?_
        obtain rfl := oi hr
        exact FinQ.r1 [aB false]
      ·subst hb31
       replace hr := cd_f rfl hr
       refine .tn fine (ca1 (ok0 (fiducialref02_Add_ok n v18.1 v22.1 v27 hc28)) (ca3 (ok0 (fiducialref02_SameRat_ok n v14.1 v27 false hc30)))) <| .mu 7 <| .pure (v := aB true) (by kernel_rfl) (eB hb26) (by kernel_rfl) <| .mu 4 <| .ca cf0 <| .ca (cfF cf0) <| .mu 21 ?_
       refine .done ⟨by kernel_rfl, ?_⟩
       refine .ret ?_
       obtain rfl := oi hr
       exact FinQ.r1 [aB false]
     ·replace hr := cd_f hb26 hr
      refine .regionT fine callOf_nil <| .mu 7 <| .pure (v := aB false) (by kernel_rfl) (eB hb26) (by kernel_rfl) <| .mu 27 ?_
      refine .done ⟨by kernel_rfl, ?_⟩
      refine .ret ?_
      obtain rfl := oi hr
      exact FinQ.r1 [aB false]
end Go.L
