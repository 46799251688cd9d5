/- The program's functions compute what the plain Lean programs compute, part 3; printed by a program. -/
import Derived.Test.YtgleghponjgkpaaGreatSldLP2
import Derived.Test.YtgleghponjgkpaaGreatL0aioapeic
import Derived.Test.YtgleghponjgkpaaGreatChecked
import Derived.KernelRfl
set_option linter.all false
set_option maxRecDepth 100000
set_option maxHeartbeats 4000000
namespace Go.L
open Go Go.Eng Go.Proofs
theorem volume_Solid_ok (n : Nat) (g : api_Grid) (base : Int) (r : api_Mesh × Int) (hr : volume_Solid n g base = some r) : FnOk Tryz.prog 11 [.agg (api_Grid.c g), aI64 base] (.tup [.agg (api_Mesh.c r.1), aI64 r.2]) := by
 unfold volume_Solid at hr
 refine FnOk.bd G Tryz.func11 [.cell 4 43, .tmp 5] ?_
 unfold Tryz.f11
 simp only [gS]
 refine .seq (.r5 G [1] [(2, .hp 0 0), (4, .hp 1 0)] [.own (api_Grid.c g), .own [nS, nS]] (.seq (.seq ?_)))
 obtain ⟨v1, hc2, hr⟩ := bd hr
 refine .g1 G (ok0 (terrain_Check_ok n g v1 hc2)) (.mu 1 (.ca cf0 (.mu 1 (.done (.nh [1, 2, 4, 6] [.own (api_Grid.c g), .own [nS, nS]] (.seq (.r4 G [1, 2, 4, 6] [(20, aB ((v1 : Int) != 0))] ?_)))))))
 refine .cd hr ?_ ?_ <;> intro hb4 hr
 ·refine .seq (.r4 G [4] [(5, aI64 v1)] (.ret ?_))
  obtain rfl := oi hr
  exact FinQ.ret (vs := [.agg [nS, nS], aI64 v1]) (by kernel_rfl) (Sn.tup (SnL.cons (Sn.agg (SnL.cons Sn.nilsl (SnL.cons Sn.nilsl SnL.nil))) (Sp SnL.nil)))
 ·refine .skip (.seq (.regionT G callOf_nil (.mu 8 ?_)))
  refine .done ⟨by kernel_rfl, ?_⟩
  refine .nh [1, 2, 4, 7, 8] [.own (api_Grid.c g), .own [nS, nS], .own [aI64 (g.Z.length : Int)]] (.seq (.seq (.r4 G [1, 2, 4, 7, 8] [(29, aB (decide ((g.Z.length : Int) > 256)))] ?_)))
  refine .cd hr ?_ ?_ <;> intro hb6 hr
  ·refine .seq (.r4 G [4] [(5, aI64 3)] (.ret ?_))
   obtain rfl := oi hr
   exact FinQ.ret (vs := [.agg [nS, nS], aI64 3]) (by kernel_rfl) (Sn.tup (SnL.cons (Sn.agg (SnL.cons Sn.nilsl (SnL.cons Sn.nilsl SnL.nil))) (Sp SnL.nil)))
  ·refine .skip (.seq (.seq ?_))
   obtain ⟨v7, hc8, hr⟩ := bd hr
   refine .g1 G (ok0 (slices_Contains_int_int_ok n g.Z (-2147483648) v7 hc8)) (.mu 2 (.ca cf0 (.done (.nh [1, 2, 4, 7, 8, 33] [.own (api_Grid.c g), .own [nS, nS], .own [aI64 (g.Z.length : Int)]] ?_))))
   refine .cd hr ?_ ?_ <;> intro hb10 hr
   ·refine .seq (.r4 G [4] [(5, aI64 6)] (.ret ?_))
    obtain rfl := oi hr
    exact FinQ.ret (vs := [.agg [nS, nS], aI64 6]) (by kernel_rfl) (Sn.tup (SnL.cons (Sn.agg (SnL.cons Sn.nilsl (SnL.cons Sn.nilsl SnL.nil))) (Sp SnL.nil)))
   ·refine .skip (.seq (.seq ?_))
    obtain ⟨v11, hc12, hr⟩ := bd hr
    rcases bT v11 with hb13 | hb13
    ·subst hb13
     replace hr := cd_t rfl hr
     refine .g1 G (ok0 (volume_far_ok n base true hc12)) (.mu 1 (.ca cf0 (.mu 7 (.done (.nh [1, 2, 4, 7, 8, 43] [.own (api_Grid.c g), .own [nS, nS], .own [aI64 (g.Z.length : Int)]] (.cT (by kernel_rfl) (.seq (.r4 G [4] [(5, aI64 2)] (.ret ?_)))))))))
     obtain rfl := oi hr
     exact FinQ.ret (vs := [.agg [nS, nS], aI64 2]) (by kernel_rfl) (Sn.tup (SnL.cons (Sn.agg (SnL.cons Sn.nilsl (SnL.cons Sn.nilsl SnL.nil))) (Sp SnL.nil)))
    ·subst hb13
     replace hr := cd_f rfl hr
     obtain ⟨v14, hc15, hr⟩ := bd hr
     refine .gn G (ca1 (ok0 (volume_far_ok n base false hc12)) (ca3 (ok0 (slices_Min_int_int_ok n g.Z v14 hc15)))) (.mu 1 (.ca cf0 (.mu 3 (.ca (cfF cf0) (.mu 3 (.done (.nh [1, 2, 4, 7, 8, 43] [.own (api_Grid.c g), .own [nS, nS], .own [aI64 (g.Z.length : Int)]] ?_)))))))
     refine .cd hr ?_ ?_ <;> intro hb17 hr
     ·refine .seq (.r4 G [4] [(5, aI64 2)] (.ret ?_))
      obtain rfl := oi hr
      exact FinQ.ret (vs := [.agg [nS, nS], aI64 2]) (by kernel_rfl) (Sn.tup (SnL.cons (Sn.agg (SnL.cons Sn.nilsl (SnL.cons Sn.nilsl SnL.nil))) (Sp SnL.nil)))
     ·refine .skip (.seq (.r5 G [1, 2, 4, 7, 8] [(9, .hp 3 0)] [.own (api_Grid.c g), .own [nS, nS], .own [aI64 (g.Z.length : Int)], .own [nS, nS]] (.seq (.seq (.r4 G [1, 2, 4, 7, 8, 9] [(46, aI64 (wrapF .i64 (2 * (g.Z.length : Int)))), (47, aI64 0)] (.block ?_))))))
      replace hr := bd hr; obtain ⟨o_57, hL70, hr⟩ := hr
      refine .loopO (σ := fun z0 => match z0 with | (o_45, x_46) => ⟨mkS 171 0 [(1, aI64 base), (2, .hp 0 0), (4, .hp 1 0), (7, aI64 g.Width), (8, .hp 2 0), (9, .hp 3 0), (46, aI64 (wrapF .i64 (2 * (g.Z.length : Int)))), (47, aI64 x_46)], [.own (api_Grid.c g), .own [nS, nS], .own [aI64 (g.Z.length : Int)], .own [.hs 4 0 o_45.length 3, nS], .own (o_45.flatMap api_Spot.c)]⟩) (Q := fun x st' => x = .exit 0 ∧ Wk 0 st' ⟨mkS 171 0 [(2, .hp 0 0), (4, .hp 1 0), (7, aI64 g.Width), (8, .hp 2 0), (9, .hp 3 0)], [.own (api_Grid.c g), .own [nS, nS], .own [aI64 (g.Z.length : Int)], .own [.hs 4 0 o_57.length 3, nS], .own (o_57.flatMap api_Spot.c)]⟩) hL70 ((Wk.nilcell 3 0 3 (cs := [nS, nS]) (by kernel_rfl) (by kernel_rfl)).trans ((Wk.gc [1, 2, 4, 7, 8, 9, 46, 47] [(0, true), (1, true), (2, true), (3, true), (4, false)] rfl (pKt (pKt (pKt (pKt (pKc trivial)))))).to)) ?_ ?_
      ·clear hr
       rintro m ⟨o_45, x_46⟩ hr
       show CQ _ _ _ _ _ ⟨_, _⟩
       refine .seq (.r4 G [1, 2, 4, 7, 8, 9, 46, 47] [(48, aB (decide (x_46 < (wrapF .i64 (2 * (g.Z.length : Int))))))] (.seq ?_))
       refine .cd hr ?_ ?_ <;> intro hb60 hr
       ·refine .skip (.seq (.block (.seq (.r4 G [1, 2, 4, 7, 8, 9, 46, 47] [(10, aI64 x_46)] (.seq ?_)))))
        obtain ⟨hg61, hg62, hr⟩ := gd2 hr
        refine .regionT G callOf_nil (.mu 4 (.pure (v := aI64 (x_46.tmod (g.Z.length : Int))) (by kernel_rfl) (op_rem (x := x_46) (y := (g.Z.length : Int)) (by kernel_rfl) (by kernel_rfl) hg61) (by kernel_rfl) (.mu 1 (.pure (v := aI64 ((x_46.tmod (g.Z.length : Int)).tmod g.Width)) (by kernel_rfl) (op_rem (x := x_46.tmod (g.Z.length : Int)) (y := g.Width) (by kernel_rfl) (by kernel_rfl) hg62) (by kernel_rfl) (.mu 8 (.pure (v := aI64 (x_46.tmod (g.Z.length : Int))) (by kernel_rfl) (op_rem (x := x_46) (y := (g.Z.length : Int)) (by kernel_rfl) (by kernel_rfl) hg61) (by kernel_rfl) (.mu 1 (.pure (v := aI64 (wrapF .i64 ((x_46.tmod (g.Z.length : Int)).tdiv g.Width))) (by kernel_rfl) (op_quo (x := x_46.tmod (g.Z.length : Int)) (y := g.Width) (by kernel_rfl) (by kernel_rfl) hg62) (by kernel_rfl) (.mu 8 ?_)))))))))
        refine .done ⟨by kernel_rfl, ?_⟩
        refine .nh [1, 2, 4, 7, 8, 9, 10, 11, 46, 47] [.own (api_Grid.c g), .own [nS, nS], .own [aI64 (g.Z.length : Int)], .own [.hs 4 0 o_45.length 3, nS], .own (o_45.flatMap api_Spot.c), .own [aI64 (wrapF .i64 (g.X0 + (wrapF .i64 (((x_46.tmod (g.Z.length : Int)).tmod g.Width) * g.Step)))), aI64 (wrapF .i64 (g.Y0 + (wrapF .i64 ((wrapF .i64 ((x_46.tmod (g.Z.length : Int)).tdiv g.Width)) * g.Step)))), aI64 base]] (.seq (.seq (.r4 G [1, 2, 4, 7, 8, 9, 10, 11, 46, 47] [(76, aB (decide (x_46 < (g.Z.length : Int))))] ?_)))
        refine .cd hr ?_ ?_ <;> intro hb63 hr
        ·obtain ⟨hg64, hr⟩ := gd hr
         refine .r0 G (.mu 3 (.p0 (v := .pp (g.Z.flatMap (iC .i64)) (x_46.toNat * 1)) (tr (ofP_guard hg64)) (.p0 (v := aI64 (gt g.Z x_46)) (tr (ofP_some (flat_get (iC_len .i64) (inR_lt hg64) (by decide : 0 < 1) (by omega : x_46.toNat * 1 = x_46.toNat * 1 + 0) (by kernel_rfl)))) (.mu 2 (.done (.nh [1, 2, 4, 7, 8, 9, 11, 46, 47] [.own (api_Grid.c g), .own [nS, nS], .own [aI64 (g.Z.length : Int)], .own [.hs 4 0 o_45.length 3, nS], .own (o_45.flatMap api_Spot.c), .own [aI64 (wrapF .i64 (g.X0 + (wrapF .i64 (((x_46.tmod (g.Z.length : Int)).tmod g.Width) * g.Step)))), aI64 (wrapF .i64 (g.Y0 + (wrapF .i64 ((wrapF .i64 ((x_46.tmod (g.Z.length : Int)).tdiv g.Width)) * g.Step)))), aI64 (gt g.Z x_46)]] ?_))))))
         obtain ⟨hg65, hg66, hr⟩ := gd2 hr
         refine .r0 G (.mu 4 (.e0 (v := .hs 7 0 (o_45 ++ [api_Spot.mk (wrapF .i64 (g.X0 + (wrapF .i64 (((x_46.tmod (g.Z.length : Int)).tmod g.Width) * g.Step)))) (wrapF .i64 (g.Y0 + (wrapF .i64 ((wrapF .i64 ((x_46.tmod (g.Z.length : Int)).tdiv g.Width)) * g.Step)))) (gt g.Z x_46)]).length 3) (ws := [(4, .dead), (7, .own ((o_45 ++ [api_Spot.mk (wrapF .i64 (g.X0 + (wrapF .i64 (((x_46.tmod (g.Z.length : Int)).tmod g.Width) * g.Step)))) (wrapF .i64 (g.Y0 + (wrapF .i64 ((wrapF .i64 ((x_46.tmod (g.Z.length : Int)).tdiv g.Width)) * g.Step)))) (gt g.Z x_46)]).flatMap api_Spot.c))]) (tr (app_own (new := [aI64 (wrapF .i64 (g.X0 + (wrapF .i64 (((x_46.tmod (g.Z.length : Int)).tmod g.Width) * g.Step)))), aI64 (wrapF .i64 (g.Y0 + (wrapF .i64 ((wrapF .i64 ((x_46.tmod (g.Z.length : Int)).tdiv g.Width)) * g.Step)))), aI64 (gt g.Z x_46)]) (l := o_45) (xs := [api_Spot.mk (wrapF .i64 (g.X0 + (wrapF .i64 (((x_46.tmod (g.Z.length : Int)).tmod g.Width) * g.Step)))) (wrapF .i64 (g.Y0 + (wrapF .i64 ((wrapF .i64 ((x_46.tmod (g.Z.length : Int)).tdiv g.Width)) * g.Step)))) (gt g.Z x_46)]) api_Spot.len rfl rfl (by kernel_rfl) hg65 hg66)) (.mu 2 (.done (.pop (.ru G ?_))))))
         exact loopF_back (o_45 ++ [api_Spot.mk (wrapF .i64 (g.X0 + (wrapF .i64 (((x_46.tmod (g.Z.length : Int)).tmod g.Width) * g.Step)))) (wrapF .i64 (g.Y0 + (wrapF .i64 ((wrapF .i64 ((x_46.tmod (g.Z.length : Int)).tdiv g.Width)) * g.Step)))) (gt g.Z x_46)], wrapF .i64 (x_46 + 1)) hr ((Wk.gc [1, 2, 4, 7, 8, 9, 46, 47] [(0, true), (1, true), (2, true), (3, true), (7, false)] rfl (pKt (pKt (pKt (pKt (pKo api_Spot.c api_Spot.pure (o_45 ++ [api_Spot.mk (wrapF .i64 (g.X0 + (wrapF .i64 (((x_46.tmod (g.Z.length : Int)).tmod g.Width) * g.Step)))) (wrapF .i64 (g.Y0 + (wrapF .i64 ((wrapF .i64 ((x_46.tmod (g.Z.length : Int)).tdiv g.Width)) * g.Step)))) (gt g.Z x_46)]) trivial)))))).to)
        ·refine .skip ?_
         obtain ⟨hg67, hg68, hr⟩ := gd2 hr
         refine .r0 G (.mu 4 (.e0 (v := .hs 7 0 (o_45 ++ [api_Spot.mk (wrapF .i64 (g.X0 + (wrapF .i64 (((x_46.tmod (g.Z.length : Int)).tmod g.Width) * g.Step)))) (wrapF .i64 (g.Y0 + (wrapF .i64 ((wrapF .i64 ((x_46.tmod (g.Z.length : Int)).tdiv g.Width)) * g.Step)))) base]).length 3) (ws := [(4, .dead), (7, .own ((o_45 ++ [api_Spot.mk (wrapF .i64 (g.X0 + (wrapF .i64 (((x_46.tmod (g.Z.length : Int)).tmod g.Width) * g.Step)))) (wrapF .i64 (g.Y0 + (wrapF .i64 ((wrapF .i64 ((x_46.tmod (g.Z.length : Int)).tdiv g.Width)) * g.Step)))) base]).flatMap api_Spot.c))]) (tr (app_own (new := [aI64 (wrapF .i64 (g.X0 + (wrapF .i64 (((x_46.tmod (g.Z.length : Int)).tmod g.Width) * g.Step)))), aI64 (wrapF .i64 (g.Y0 + (wrapF .i64 ((wrapF .i64 ((x_46.tmod (g.Z.length : Int)).tdiv g.Width)) * g.Step)))), aI64 base]) (l := o_45) (xs := [api_Spot.mk (wrapF .i64 (g.X0 + (wrapF .i64 (((x_46.tmod (g.Z.length : Int)).tmod g.Width) * g.Step)))) (wrapF .i64 (g.Y0 + (wrapF .i64 ((wrapF .i64 ((x_46.tmod (g.Z.length : Int)).tdiv g.Width)) * g.Step)))) base]) api_Spot.len rfl rfl (by kernel_rfl) hg67 hg68)) (.mu 2 (.done (.pop (.ru G ?_))))))
         exact loopF_back (o_45 ++ [api_Spot.mk (wrapF .i64 (g.X0 + (wrapF .i64 (((x_46.tmod (g.Z.length : Int)).tmod g.Width) * g.Step)))) (wrapF .i64 (g.Y0 + (wrapF .i64 ((wrapF .i64 ((x_46.tmod (g.Z.length : Int)).tdiv g.Width)) * g.Step)))) base], wrapF .i64 (x_46 + 1)) hr ((Wk.gc [1, 2, 4, 7, 8, 9, 46, 47] [(0, true), (1, true), (2, true), (3, true), (7, false)] rfl (pKt (pKt (pKt (pKt (pKo api_Spot.c api_Spot.pure (o_45 ++ [api_Spot.mk (wrapF .i64 (g.X0 + (wrapF .i64 (((x_46.tmod (g.Z.length : Int)).tmod g.Width) * g.Step)))) (wrapF .i64 (g.Y0 + (wrapF .i64 ((wrapF .i64 ((x_46.tmod (g.Z.length : Int)).tdiv g.Width)) * g.Step)))) base]) trivial)))))).to)
       ·refine .leave rfl ?_
        obtain rfl := oi hr
        exact ⟨rfl, ((Wk.gc [2, 4, 7, 8, 9] [(0, true), (1, true), (2, true), (3, true), (4, false)] rfl (pKt (pKt (pKt (pKt (pKo api_Spot.c api_Spot.pure o_45 trivial)))))).to)⟩
      ·rintro x st' hq71
       clear hL70
       obtain ⟨rfl, hq71⟩ := hq71
       refine CQ_exit _ rfl (.wk hq71 (.seq (.seq ?_)))
       obtain ⟨v72, hc73, hr⟩ := bd hr
       refine .g1 G (ok0 (volume_triangles_ok n g v72 hc73)) (.mu 1 (.ca cf0 (.mu 2 (.done (.nh [2, 4, 7, 8, 9, 91, 92, 93] [.own (api_Grid.c g), .own [nS, nS], .own [aI64 (g.Z.length : Int)], .own [.hs 4 0 o_57.length 3, nS], .own (o_57.flatMap api_Spot.c)] (.block ?_))))))
       replace hr := bd hr; obtain ⟨o_98, hL106, hr⟩ := hr
       refine .loopO (σ := fun z0 => match z0 with | (o_91, x_92) => ⟨mkS 171 0 [(2, .hp 0 0), (4, .hp 1 0), (7, aI64 g.Width), (8, .hp 2 0), (9, .hp 3 0), (91, slT A3_3_int.c v72), (92, aI64 (v72.length : Int)), (93, aI64 x_92)], [.own (api_Grid.c g), .own [nS, nS], .own [aI64 (g.Z.length : Int)], .own [.hs 4 0 o_57.length 3, .hs 5 0 o_91.length 3], .own (o_57.flatMap api_Spot.c), .own (o_91.flatMap A3_3_int.c)]⟩) (Q := fun x st' => x = .exit 2 ∧ Wk 0 st' ⟨mkS 171 0 [(2, .hp 0 0), (4, .hp 1 0), (7, aI64 g.Width), (8, .hp 2 0), (9, .hp 3 0)], [.own (api_Grid.c g), .own [nS, nS], .own [aI64 (g.Z.length : Int)], .own [.hs 4 0 o_57.length 3, .hs 5 0 o_98.length 3], .own (o_57.flatMap api_Spot.c), .own (o_98.flatMap A3_3_int.c)]⟩) hL106 ((Wk.nilcell 3 1 3 (cs := [.hs 4 0 o_57.length 3, nS]) (by kernel_rfl) (by kernel_rfl)).trans ((Wk.gc [2, 4, 7, 8, 9, 91, 92, 93] [(0, true), (1, true), (2, true), (3, true), (4, false), (5, false)] rfl (pKt (pKt (pKt (pKt (pKo api_Spot.c api_Spot.pure o_57 (pKc trivial))))))).to)) ?_ ?_
       ·clear hr
        rintro m ⟨o_91, x_92⟩ hr
        show CQ _ _ _ _ _ ⟨_, _⟩
        refine .seq (.r4 G [2, 4, 7, 8, 9, 91, 92, 93] [(94, aB (decide (x_92 < (v72.length : Int))))] (.seq ?_))
        refine .cd hr ?_ ?_ <;> intro hb101 hr
        ·refine .skip (.seq (.block (.seq ?_)))
         obtain ⟨hg102, hr⟩ := gd hr
         refine .r0 G (.p0 (v := .pp (v72.flatMap A3_3_int.c) (x_92.toNat * 3)) (tr (ofP_guard hg102)) (.p0 (v := .agg [aI64 (gt v72 x_92).e0, aI64 (gt v72 x_92).e1, aI64 (gt v72 x_92).e2]) (Eq.trans (b := ORes.ofP (guardV (decide (3 ≤ ((v72.flatMap A3_3_int.c).drop (x_92.toNat * 3)).length)) (.agg (((v72.flatMap A3_3_int.c).drop (x_92.toNat * 3)).take 3)))) (by kernel_rfl) (flat_load A3_3_int.len (inR_lt hg102) (by decide) (by omega : x_92.toNat * 3 = x_92.toNat * 3 + 0) (by kernel_rfl))) (.mu 2 (.done (.nh [2, 4, 7, 8, 9, 13, 91, 92, 93] [.own (api_Grid.c g), .own [nS, nS], .own [aI64 (g.Z.length : Int)], .own [.hs 4 0 o_57.length 3, .hs 5 0 o_91.length 3], .own (o_57.flatMap api_Spot.c), .own (o_91.flatMap A3_3_int.c), .own [aI64 (gt v72 x_92).e0, aI64 (gt v72 x_92).e1, aI64 (gt v72 x_92).e2]] ?_)))))
         obtain ⟨hg103, hg104, hr⟩ := gd2 hr
         refine .r0 G (.mu 17 (.e0 (v := .hs 8 0 (o_91 ++ [(gt v72 x_92), A3.mk (wrapF .i64 ((gt v72 x_92).e0 + (g.Z.length : Int))) (wrapF .i64 ((gt v72 x_92).e2 + (g.Z.length : Int))) (wrapF .i64 ((gt v72 x_92).e1 + (g.Z.length : Int)))]).length 3) (ws := [(5, .dead), (8, .own ((o_91 ++ [(gt v72 x_92), A3.mk (wrapF .i64 ((gt v72 x_92).e0 + (g.Z.length : Int))) (wrapF .i64 ((gt v72 x_92).e2 + (g.Z.length : Int))) (wrapF .i64 ((gt v72 x_92).e1 + (g.Z.length : Int)))]).flatMap A3_3_int.c))]) (tr (app_own (new := [aI64 (gt v72 x_92).e0, aI64 (gt v72 x_92).e1, aI64 (gt v72 x_92).e2, aI64 (wrapF .i64 ((gt v72 x_92).e0 + (g.Z.length : Int))), aI64 (wrapF .i64 ((gt v72 x_92).e2 + (g.Z.length : Int))), aI64 (wrapF .i64 ((gt v72 x_92).e1 + (g.Z.length : Int)))]) (l := o_91) (xs := [(gt v72 x_92), A3.mk (wrapF .i64 ((gt v72 x_92).e0 + (g.Z.length : Int))) (wrapF .i64 ((gt v72 x_92).e2 + (g.Z.length : Int))) (wrapF .i64 ((gt v72 x_92).e1 + (g.Z.length : Int)))]) A3_3_int.len rfl rfl (by kernel_rfl) hg103 hg104)) (.mu 2 (.done (.pop (.ru G ?_))))))
         exact loopF_back (o_91 ++ [(gt v72 x_92), A3.mk (wrapF .i64 ((gt v72 x_92).e0 + (g.Z.length : Int))) (wrapF .i64 ((gt v72 x_92).e2 + (g.Z.length : Int))) (wrapF .i64 ((gt v72 x_92).e1 + (g.Z.length : Int)))], wrapF .i64 (x_92 + 1)) hr ((Wk.gc [2, 4, 7, 8, 9, 91, 92, 93] [(0, true), (1, true), (2, true), (3, true), (4, false), (8, false)] rfl (pKt (pKt (pKt (pKt (pKo api_Spot.c api_Spot.pure o_57 (pKo A3_3_int.c A3_3_int.pure (o_91 ++ [(gt v72 x_92), A3.mk (wrapF .i64 ((gt v72 x_92).e0 + (g.Z.length : Int))) (wrapF .i64 ((gt v72 x_92).e2 + (g.Z.length : Int))) (wrapF .i64 ((gt v72 x_92).e1 + (g.Z.length : Int)))]) trivial))))))).to)
        ·refine .leave rfl ?_
         obtain rfl := oi hr
         exact ⟨rfl, ((Wk.gc [2, 4, 7, 8, 9] [(0, true), (1, true), (2, true), (3, true), (4, false), (5, false)] rfl (pKt (pKt (pKt (pKt (pKo api_Spot.c api_Spot.pure o_57 (pKo A3_3_int.c A3_3_int.pure o_91 trivial))))))).to)⟩
       ·rintro x st' hq107
        clear hL106
        obtain ⟨rfl, hq107⟩ := hq107
        refine CQ_exit _ rfl (.wk hq107 (.seq (.r4 G [2, 4, 7, 8, 9] [(14, .fn 50 [] [.hp 3 0, .hp 2 0])] (.seq (.seq (.r4 G [2, 4, 7, 8, 9, 14] [(119, aI64 (wrapF .i64 (g.Width - 1))), (120, aI64 0)] (.block ?_)))))))
        replace hr := bd hr; obtain ⟨o_135, hL144, hr⟩ := hr
        refine .loopO (σ := fun z0 => match z0 with | (o_127, x_128) => ⟨mkS 171 0 [(2, .hp 0 0), (4, .hp 1 0), (7, aI64 g.Width), (8, .hp 2 0), (9, .hp 3 0), (14, .fn 50 [] [.hp 3 0, .hp 2 0]), (119, aI64 (wrapF .i64 (g.Width - 1))), (120, aI64 x_128)], [.own (api_Grid.c g), .own [nS, nS], .own [aI64 (g.Z.length : Int)], .own [.hs 4 0 o_57.length 3, .hs 5 0 o_127.length 3], .own (o_57.flatMap api_Spot.c), .own (o_127.flatMap A3_3_int.c)]⟩) (Q := fun x st' => x = .exit 4 ∧ Wk 0 st' ⟨mkS 171 0 [(2, .hp 0 0), (4, .hp 1 0), (7, aI64 g.Width), (9, .hp 2 0), (14, .fn 50 [] [.hp 2 0, .hp 5 0])], [.own (api_Grid.c g), .own [nS, nS], .own [.hs 3 0 o_57.length 3, .hs 4 0 o_135.length 3], .own (o_57.flatMap api_Spot.c), .own (o_135.flatMap A3_3_int.c), .own [aI64 (g.Z.length : Int)]]⟩) hL144 ((Wk.gc [2, 4, 7, 8, 9, 14, 119, 120] [(0, true), (1, true), (2, true), (3, true), (4, false), (5, false)] rfl (pKt (pKt (pKt (pKt (pKo api_Spot.c api_Spot.pure o_57 (pKo A3_3_int.c A3_3_int.pure o_98 trivial))))))).to) ?_ ?_
        ·clear hr
         rintro m ⟨o_127, x_128⟩ hr
         show CQ _ _ _ _ _ ⟨_, _⟩
         refine .seq (.r4 G [2, 4, 7, 8, 9, 14, 119, 120] [(121, aB (decide (x_128 < (wrapF .i64 (g.Width - 1)))))] (.seq ?_))
         refine .cd hr ?_ ?_ <;> intro hb138 hr
         ·refine .skip (.seq (.block (.seq (.r4 G [2, 4, 7, 8, 9, 14, 119, 120] [(15, aI64 x_128)] (.seq ?_)))))
          obtain ⟨v139, hc140, hr⟩ := bd hr
          refine .g1 G (callOk_mutU (args := [aI64 x_128, aI64 (wrapF .i64 (x_128 + 1)), .hp 3 0, .hp 2 0]) 2 2 [(3, true), (2, true), (4, false), (5, false)] [true, true, false, false] (volume_Solid_1_w_ok n x_128 (wrapF .i64 (x_128 + 1)) o_57 o_127 (g.Z.length : Int) v139 hc140) (by exact ⟨ids_flat api_Spot.pure _, ⟨ids_flat A3_3_int.pure _, trivial⟩⟩) (by exact ⟨ids_flat api_Spot.pure _, ⟨ids_flat A3_3_int.pure _, trivial⟩⟩) rfl rfl (by kernel_rfl) (by kernel_rfl)) (.mu 4 (.ca cf0 (.done (.nh [2, 4, 7, 8, 9, 14, 15, 119, 120] [.own (api_Grid.c g), .own [nS, nS], .own [aI64 (g.Z.length : Int)], .own [.hs 6 0 o_57.length 3, .hs 7 0 v139.length 3], .dead, .dead, .own (o_57.flatMap api_Spot.c), .own (v139.flatMap A3_3_int.c)] ?_))))
          obtain ⟨v141, hc142, hr⟩ := bd hr
          refine .g1 G (callOk_mutU (args := [aI64 (wrapF .i64 ((wrapF .i64 ((g.Z.length : Int) - 1)) - x_128)), aI64 (wrapF .i64 ((wrapF .i64 ((g.Z.length : Int) - 2)) - x_128)), .hp 3 0, .hp 2 0]) 2 2 [(3, true), (2, true), (6, false), (7, false)] [true, true, false, false] (volume_Solid_1_w_ok n (wrapF .i64 ((wrapF .i64 ((g.Z.length : Int) - 1)) - x_128)) (wrapF .i64 ((wrapF .i64 ((g.Z.length : Int) - 2)) - x_128)) o_57 v139 (g.Z.length : Int) v141 hc142) (by exact ⟨ids_flat api_Spot.pure _, ⟨ids_flat A3_3_int.pure _, trivial⟩⟩) (by exact ⟨ids_flat api_Spot.pure _, ⟨ids_flat A3_3_int.pure _, trivial⟩⟩) rfl rfl (by kernel_rfl) (by kernel_rfl)) (.mu 9 (.ca cf0 (.done (.pop (.ru G ?_)))))
          exact loopF_back (v141, wrapF .i64 (x_128 + 1)) hr ((Wk.gc [2, 4, 7, 8, 9, 14, 119, 120] [(0, true), (1, true), (2, true), (3, true), (8, false), (9, false)] rfl (pKt (pKt (pKt (pKt (pKo api_Spot.c api_Spot.pure o_57 (pKo A3_3_int.c A3_3_int.pure v141 trivial))))))).to)
         ·refine .leave rfl ?_
          obtain rfl := oi hr
          exact ⟨rfl, ((Wk.gc [2, 4, 7, 9, 14] [(0, true), (1, true), (3, true), (4, false), (5, false), (2, true)] rfl (pKt (pKt (pKt (pKo api_Spot.c api_Spot.pure o_57 (pKo A3_3_int.c A3_3_int.pure o_127 trivial)))))).to)⟩
        ·rintro x st' hq145
         clear hL144
         obtain ⟨rfl, hq145⟩ := hq145
         refine CQ_exit _ rfl (.wk hq145 (.seq (.seq (.r4 G [4, 7, 9, 14] [(141, aI64 (wrapF .i64 (g.Height - 1))), (142, aI64 0)] (.block ?_)))))
         replace hr := bd hr; obtain ⟨o_154, hL163, hr⟩ := hr
         refine .loopO (σ := fun z0 => match z0 with | (o_146, x_147) => ⟨mkS 171 0 [(4, .hp 0 0), (7, aI64 g.Width), (9, .hp 1 0), (14, .fn 50 [] [.hp 1 0, .hp 4 0]), (141, aI64 (wrapF .i64 (g.Height - 1))), (142, aI64 x_147)], [.own [nS, nS], .own [.hs 2 0 o_57.length 3, .hs 3 0 o_146.length 3], .own (o_57.flatMap api_Spot.c), .own (o_146.flatMap A3_3_int.c), .own [aI64 (g.Z.length : Int)]]⟩) (Q := fun x st' => x = .exit 6 ∧ Wk 0 st' ⟨mkS 171 0 [(4, .hp 0 0), (9, .hp 1 0)], [.own [nS, nS], .own [.hs 2 0 o_57.length 3, .hs 3 0 o_154.length 3], .own (o_57.flatMap api_Spot.c), .own (o_154.flatMap A3_3_int.c)]⟩) hL163 ((Wk.gc [4, 7, 9, 14, 141, 142] [(1, true), (2, true), (3, false), (4, false), (5, true)] rfl (pKt (pKt (pKo api_Spot.c api_Spot.pure o_57 (pKo A3_3_int.c A3_3_int.pure o_135 trivial))))).to) ?_ ?_
         ·clear hr
          rintro m ⟨o_146, x_147⟩ hr
          show CQ _ _ _ _ _ ⟨_, _⟩
          refine .seq (.r4 G [4, 7, 9, 14, 141, 142] [(143, aB (decide (x_147 < (wrapF .i64 (g.Height - 1)))))] (.seq ?_))
          refine .cd hr ?_ ?_ <;> intro hb157 hr
          ·refine .skip (.seq (.block (.seq (.r4 G [4, 7, 9, 14, 141, 142] [(16, aI64 x_147)] (.seq ?_)))))
           obtain ⟨v158, hc159, hr⟩ := bd hr
           refine .g1 G (callOk_mutU (args := [aI64 (wrapF .i64 ((wrapF .i64 ((wrapF .i64 (x_147 * g.Width)) + g.Width)) - 1)), aI64 (wrapF .i64 ((wrapF .i64 ((wrapF .i64 ((wrapF .i64 (x_147 + 1)) * g.Width)) + g.Width)) - 1)), .hp 1 0, .hp 4 0]) 2 2 [(1, true), (4, true), (2, false), (3, false)] [true, true, false, false] (volume_Solid_1_w_ok n (wrapF .i64 ((wrapF .i64 ((wrapF .i64 (x_147 * g.Width)) + g.Width)) - 1)) (wrapF .i64 ((wrapF .i64 ((wrapF .i64 ((wrapF .i64 (x_147 + 1)) * g.Width)) + g.Width)) - 1)) o_57 o_146 (g.Z.length : Int) v158 hc159) (by exact ⟨ids_flat api_Spot.pure _, ⟨ids_flat A3_3_int.pure _, trivial⟩⟩) (by exact ⟨ids_flat api_Spot.pure _, ⟨ids_flat A3_3_int.pure _, trivial⟩⟩) rfl rfl (by kernel_rfl) (by kernel_rfl)) (.mu 14 (.ca cf0 (.done (.nh [4, 7, 9, 14, 16, 141, 142] [.own [nS, nS], .own [.hs 5 0 o_57.length 3, .hs 6 0 v158.length 3], .dead, .dead, .own [aI64 (g.Z.length : Int)], .own (o_57.flatMap api_Spot.c), .own (v158.flatMap A3_3_int.c)] ?_))))
           obtain ⟨v160, hc161, hr⟩ := bd hr
           refine .g1 G (callOk_mutU (args := [aI64 (wrapF .i64 ((wrapF .i64 (x_147 + 1)) * g.Width)), aI64 (wrapF .i64 (x_147 * g.Width)), .hp 1 0, .hp 4 0]) 2 2 [(1, true), (4, true), (5, false), (6, false)] [true, true, false, false] (volume_Solid_1_w_ok n (wrapF .i64 ((wrapF .i64 (x_147 + 1)) * g.Width)) (wrapF .i64 (x_147 * g.Width)) o_57 v158 (g.Z.length : Int) v160 hc161) (by exact ⟨ids_flat api_Spot.pure _, ⟨ids_flat A3_3_int.pure _, trivial⟩⟩) (by exact ⟨ids_flat api_Spot.pure _, ⟨ids_flat A3_3_int.pure _, trivial⟩⟩) rfl rfl (by kernel_rfl) (by kernel_rfl)) (.mu 8 (.ca cf0 (.done (.pop (.ru G ?_)))))
           exact loopF_back (v160, wrapF .i64 (x_147 + 1)) hr ((Wk.gc [4, 7, 9, 14, 141, 142] [(0, true), (1, true), (7, false), (8, false), (4, true)] rfl (pKt (pKt (pKo api_Spot.c api_Spot.pure o_57 (pKo A3_3_int.c A3_3_int.pure v160 trivial))))).to)
          ·refine .leave rfl ?_
           obtain rfl := oi hr
           exact ⟨rfl, ((Wk.gc [4, 9] [(0, true), (1, true), (2, false), (3, false)] rfl (pKt (pKt (pKo api_Spot.c api_Spot.pure o_57 (pKo A3_3_int.c A3_3_int.pure o_146 trivial))))).to)⟩
         ·rintro x st' hq164
          clear hL163
          obtain ⟨rfl, hq164⟩ := hq164
          refine CQ_exit _ rfl (.wk hq164 (.seq (.r5 G [4] [(5, aI64 0)] [.own [.hs 2 0 o_57.length 3, .hs 3 0 o_154.length 3], .own [.hs 2 0 o_57.length 3, .hs 3 0 o_154.length 3], .own (o_57.flatMap api_Spot.c), .own (o_154.flatMap A3_3_int.c)] (.ret ?_))))
          obtain rfl := oi hr
          exact FinQ.ret (vs := [.agg [.hs 2 0 o_57.length 3, .hs 3 0 o_154.length 3], aI64 0]) (by kernel_rfl) (Sn.tup (SnL.cons (Sn.agg (SnL.cons (Sn.hs rfl (.inl rfl) (SnC.pure (ids_flat api_Spot.pure _)) (fun h => flat_nil0 h)) (SnL.cons (Sn.hs rfl (.inl rfl) (SnC.pure (ids_flat A3_3_int.pure _)) (fun h => flat_nil0 h)) SnL.nil))) (Sp SnL.nil)))

theorem fiducialref01_Compare_ok (n : Nat) (x' : api_Int) (y : api_Int) (r : Int) (hr : fiducialref01_Compare n x' y = some r) : FnOk Tryz.prog 54 [.agg (api_Int.c x'), .agg (api_Int.c y)] (aI64 r) := by
 unfold fiducialref01_Compare at hr
 refine FnOk.bd G Tryz.func54 [.tmp 4] ?_
 unfold Tryz.f54
 simp only [gS]
 refine .seq (.r2 G 9 [(2, .hp 0 0), (3, .hp 1 0)] [.own (api_Int.c x'), .own (api_Int.c y)] (.seq ?_))
 obtain ⟨v1, hc2, v3, hc4, hr⟩ := bd2 hr
 refine .gn G (ca1 (ok0 (fiducialref01_Sub_ok n x' y v1 hc2)) (ca3 (ok0 (fiducialref01_Sign_ok n v1 v3 hc4)))) (.mu 2 (.ca cf0 (.ca (cfF cf0) (.mu 1 (.done (.ret ?_))))))
 obtain rfl := oi hr
 exact FinQ.r1 [aI64 v3]

theorem fiducialref02_Valid_inj {x' : api_Rat} {x'_ : api_Rat} (h : ([.agg [.at (.bool x'.Num.Negative), slT (iC .u32) x'.Num.Groups, .at (.bool x'.Den.Negative), slT (iC .u32) x'.Den.Groups]] : List AV) = [.agg [.at (.bool x'_.Num.Negative), slT (iC .u32) x'_.Num.Groups, .at (.bool x'_.Den.Negative), slT (iC .u32) x'_.Den.Groups]]) : x' = x'_ := by
 obtain ⟨⟨_, _⟩, ⟨_, _⟩⟩ := x'
 obtain ⟨⟨_, _⟩, ⟨_, _⟩⟩ := x'_
 simp only [List.cons.injEq, AV.agg.injEq, AV.at.injEq, Value.int.injEq, Value.bool.injEq, AV.fn.injEq, AV.pp.injEq, true_and, and_true, slT_inj_int] at h
 simp_all
theorem fiducialref02_Valid_cg (n : Nat) {x' : api_Rat} {x'_ : api_Rat} (h : ([.agg [.at (.bool x'.Num.Negative), slT (iC .u32) x'.Num.Groups, .at (.bool x'.Den.Negative), slT (iC .u32) x'.Den.Groups]] : List AV) = [.agg [.at (.bool x'_.Num.Negative), slT (iC .u32) x'_.Num.Groups, .at (.bool x'_.Den.Negative), slT (iC .u32) x'_.Den.Groups]]) : fiducialref02_Valid n x' = fiducialref02_Valid n x'_ := by
 obtain rfl := fiducialref02_Valid_inj h
 rfl
theorem fiducialref02_Valid_ok (n : Nat) (x' : api_Rat) (r : Bool) (hr : fiducialref02_Valid n x' = some r) : FnOk Tryz.prog 13 [.agg (api_Rat.c x')] (aB r) := by
 unfold fiducialref02_Valid at hr
 refine FnOk.bd G Tryz.func13 [.tmp 2] ?_
 unfold Tryz.f13
 simp only [gS]
 refine .seq (.r2 G 27 [(1, .hp 0 0)] [.own (api_Rat.c x')] (.seq (.seq ?_)))
 obtain ⟨v1, hc2, hr⟩ := bd hr
 rcases bT (!v1) with hb3 | hb3
 ·replace hr := cd_t hb3 hr
  refine .g1 G (ok0 (fiducialref01_Valid_ok n x'.Num v1 hc2)) (.mu 2 (.ca cf0 (.p0 (v := aB true) (eB hb3) (.mu 12 (.done (.nh [1, 18] [.own (api_Rat.c x')] (.cT (by kernel_rfl) (.seq (.ru G (.ret ?_))))))))))
  obtain rfl := oi hr
  exact FinQ.r1 [aB false]
 ·replace hr := cd_f hb3 hr
  obtain ⟨v4, hc5, hr⟩ := bd hr
  rcases bT (!v4) with hb6 | hb6
  ·replace hr := cd_t hb6 hr
   refine .gn G (ca1 (ok0 (fiducialref01_Valid_ok n x'.Num v1 hc2)) (ca3 (ok0 (fiducialref01_Valid_ok n x'.Den v4 hc5)))) (.mu 2 (.ca cf0 (.p0 (v := aB false) (eB hb3) (.mu 3 (.ca (cfA (fun h => by rw [sv hc5 hc2 (fiducialref01_Valid_cg n h)]) cf0) (.pure (v := aB true) (by kernel_rfl) (eB hb6) (.mu 7 (.done (.nh [1, 18] [.own (api_Rat.c x')] (.cT (by kernel_rfl) (.seq (.ru G (.ret ?_)))))))))))))
   obtain rfl := oi hr
   exact FinQ.r1 [aB false]
  ·replace hr := cd_f hb6 hr
   obtain ⟨v7, hc8, hr⟩ := bd hr
   refine .gn G (ca1 (ok0 (fiducialref01_Valid_ok n x'.Num v1 hc2)) (ca1 (ok0 (fiducialref01_Valid_ok n x'.Den v4 hc5)) (ca3 (ok0 (fiducialref01_Sign_ok n x'.Den v7 hc8))))) (.mu 2 (.ca cf0 (.p0 (v := aB false) (eB hb3) (.mu 3 (.ca (cfA (fun h => by rw [sv hc5 hc2 (fiducialref01_Valid_cg n h)]) cf0) (.pure (v := aB false) (by kernel_rfl) (eB hb6) (.mu 4 (.ca (cfF (cfF cf0)) (.mu 2 (.done (.nh [1, 18] [.own (api_Rat.c x')] ?_)))))))))))
   refine .cd hr ?_ ?_ <;> intro hb9 hr
   ·refine .seq (.ru G (.ret ?_))
    obtain rfl := oi hr
    exact FinQ.r1 [aB false]
   ·refine .skip (.seq ?_)
    obtain ⟨v10, hc11, v12, hc13, v14, hc15, hr⟩ := bd3 hr
    refine .gn G (ca1 (ok0 (fiducialref01_Gcd_ok n x'.Num x'.Den v10 hc11)) (ca1 (ok0 (fiducialref02_whole_ok n 1 v12 hc13)) (ca3 (ok0 (fiducialref01_Compare_ok n v10 v12 v14 hc15))))) (.mu 4 (.ca cf0 (.ca (cfF cf0) (.ca (cfF (cfF cf0)) (.mu 2 (.done (.ret ?_)))))))
    obtain rfl := oi hr
    exact FinQ.r1 [aB ((v14 : Int) == 0)]

theorem fiducialref02_Value_ok (n : Nat) (x' : api_Rat) (r : api_Rat) (hr : fiducialref02_Value n x' = some r) : FnOk Tryz.prog 52 [.agg (api_Rat.c x')] (.agg (api_Rat.c r)) := by
 unfold fiducialref02_Value at hr
 refine FnOk.bd G Tryz.func52 [.cell 2 33] ?_
 unfold Tryz.f52
 simp only [gS]
 refine .seq (.r2 G 7 [(1, .hp 0 0), (2, .hp 1 0)] [.own (api_Rat.c x'), .own [aB false, nS, aB false, nS]] (.seq (.seq ?_)))
 obtain ⟨v1, hc2, hr⟩ := bd hr
 refine .g1 G (ok0 (fiducialref02_Valid_ok n x' v1 hc2)) (.mu 1 (.ca cf0 (.done (.nh [1, 2, 4] [.own (api_Rat.c x'), .own [aB false, nS, aB false, nS]] ?_))))
 refine .cd hr ?_ ?_ <;> intro hb3 hr
 ·refine .seq (.r5 G [2] [] [.own (api_Rat.c x'), .own (api_Rat.c x')] (.ret ?_))
  obtain rfl := oi hr
  exact FinQ.r1 [.agg (api_Rat.c x')]
 ·refine .skip (.seq ?_)
  obtain ⟨v4, hc5, hr⟩ := bd hr
  refine .g1 G (ok0 (fiducialref02_Whole_ok n 0 v4 hc5)) (.ca cf0 (.mu 1 (.done (.nh [2] [.own (api_Rat.c x'), .own (api_Rat.c v4)] (.ret ?_)))))
  obtain rfl := oi hr
  exact FinQ.r1 [.agg (api_Rat.c v4)]

theorem fiducialref02_Neg_ok (n : Nat) (x' : api_Rat) (r : api_Rat) (hr : fiducialref02_Neg n x' = some r) : FnOk Tryz.prog 138 [.agg (api_Rat.c x')] (.agg (api_Rat.c r)) := by
 unfold fiducialref02_Neg at hr
 refine FnOk.bd G Tryz.func138 [.cell 2 33] ?_
 unfold Tryz.f138
 simp only [gS]
 refine .seq (.r2 G 12 [(1, .hp 0 0), (2, .hp 1 0)] [.own (api_Rat.c x'), .own [aB false, nS, aB false, nS]] (.seq ?_))
 obtain ⟨v1, hc2, hr⟩ := bd hr
 refine .g1 G (ok0 (fiducialref02_Value_ok n x' v1 hc2)) (.mu 1 (.ca cf0 (.mu 2 (.done (.nh [2, 3] [.own (api_Rat.c x'), .own [aB false, nS, aB false, nS], .own (api_Rat.c v1)] (.seq ?_))))))
 obtain ⟨v3, hc4, hr⟩ := bd hr
 refine .t1 G (ok0 (fiducialref01_Neg_ok n v1.Num v3 hc4)) (.mu 2 (.ca cf0 (.mu 4 ?_)))
 refine .done ⟨by kernel_rfl, ?_⟩
 refine .nh [2] [.own (api_Rat.c x'), .own [aB v3.Negative, sU32 v3.Groups, aB v1.Den.Negative, sU32 v1.Den.Groups], .own (api_Rat.c v1)] (.ret ?_)
 obtain rfl := oi hr
 exact FinQ.r1 [.agg [aB v3.Negative, sU32 v3.Groups, aB v1.Den.Negative, sU32 v1.Den.Groups]]

theorem fiducialref02_Add_ok (n : Nat) (x' : api_Rat) (y : api_Rat) (r : api_Rat) (hr : fiducialref02_Add n x' y = some r) : FnOk Tryz.prog 16 [.agg (api_Rat.c x'), .agg (api_Rat.c y)] (.agg (api_Rat.c r)) := by
 unfold fiducialref02_Add at hr
 refine FnOk.bd G Tryz.func16 [.cell 4 33] ?_
 unfold Tryz.f16
 simp only [gS]
 refine .seq (.r2 G 28 [(2, .hp 0 0), (3, .hp 1 0), (4, .hp 2 0)] [.own (api_Rat.c x'), .own (api_Rat.c y), .own [aB false, nS, aB false, nS]] (.seq ?_))
 obtain ⟨v1, hc2, hr⟩ := bd hr
 refine .g1 G (ok0 (fiducialref02_Value_ok n x' v1 hc2)) (.mu 1 (.ca cf0 (.mu 2 (.done (.nh [3, 4, 5] [.own (api_Rat.c x'), .own (api_Rat.c y), .own [aB false, nS, aB false, nS], .own (api_Rat.c v1)] (.seq ?_))))))
 obtain ⟨v3, hc4, hr⟩ := bd hr
 refine .g1 G (ok0 (fiducialref02_Value_ok n y v3 hc4)) (.mu 1 (.ca cf0 (.mu 2 (.done (.nh [4, 5, 6] [.own (api_Rat.c x'), .own (api_Rat.c y), .own [aB false, nS, aB false, nS], .own (api_Rat.c v1), .own (api_Rat.c v3)] (.seq ?_))))))
 obtain ⟨v5, hc6, v7, hc8, v9, hc10, hr⟩ := bd3 hr
 obtain ⟨v11, hc12, v13, hc14, hr⟩ := bd2 hr
 refine .tn G (ca1 (ok0 (fiducialref01_Mul_ok n v1.Num v3.Den v5 hc6)) (ca1 (ok0 (fiducialref01_Mul_ok n v3.Num v1.Den v7 hc8)) (ca1 (ok0 (fiducialref01_Add_ok n v5 v7 v9 hc10)) (ca1 (ok0 (fiducialref01_Mul_ok n v1.Den v3.Den v11 hc12)) (ca3 (ok0 (fiducialref02_reduced_ok n v9 v11 v13 hc14))))))) (.mu 4 (.ca cf0 (.mu 4 (.ca (cfA (fun h => by rw [sv hc8 hc6 (fiducialref01_Mul_cg n h)]) cf0) (.ca (cfF (cfF cf0)) (.mu 4 (.ca (cfA (fun h => by rw [sv hc12 hc6 (fiducialref01_Mul_cg n h)]) (cfA (fun h => by rw [sv hc12 hc8 (fiducialref01_Mul_cg n h)]) (cfF cf0))) (.ca (cfF (cfF (cfF (cfF cf0)))) (.mu 1 ?_)))))))))
 refine .done ⟨by kernel_rfl, ?_⟩
 refine .nh [4] [.own (api_Rat.c x'), .own (api_Rat.c y), .own (api_Rat.c v13), .own (api_Rat.c v1), .own (api_Rat.c v3)] (.ret ?_)
 obtain rfl := oi hr
 exact FinQ.r1 [.agg (api_Rat.c v13)]

theorem fiducialref02_Sub_ok (n : Nat) (x' : api_Rat) (y : api_Rat) (r : api_Rat) (hr : fiducialref02_Sub n x' y = some r) : FnOk Tryz.prog 94 [.agg (api_Rat.c x'), .agg (api_Rat.c y)] (.agg (api_Rat.c r)) := by
 unfold fiducialref02_Sub at hr
 refine FnOk.bd G Tryz.func94 [.cell 4 33] ?_
 unfold Tryz.f94
 simp only [gS]
 refine .seq (.r2 G 9 [(2, .hp 0 0), (3, .hp 1 0), (4, .hp 2 0)] [.own (api_Rat.c x'), .own (api_Rat.c y), .own [aB false, nS, aB false, nS]] (.seq ?_))
 obtain ⟨v1, hc2, v3, hc4, hr⟩ := bd2 hr
 refine .tn G (ca1 (ok0 (fiducialref02_Neg_ok n y v1 hc2)) (ca3 (ok0 (fiducialref02_Add_ok n x' v1 v3 hc4)))) (.mu 2 (.ca cf0 (.ca (cfF cf0) (.mu 1 ?_))))
 refine .done ⟨by kernel_rfl, ?_⟩
 refine .nh [4] [.own (api_Rat.c x'), .own (api_Rat.c y), .own (api_Rat.c v3)] (.ret ?_)
 obtain rfl := oi hr
 exact FinQ.r1 [.agg (api_Rat.c v3)]

theorem fiducialref02_Sign_ok (n : Nat) (x' : api_Rat) (r : Int) (hr : fiducialref02_Sign n x' = some r) : FnOk Tryz.prog 12 [.agg (api_Rat.c x')] (aI64 r) := by
 unfold fiducialref02_Sign at hr
 refine FnOk.bd G Tryz.func12 [.tmp 2] ?_
 unfold Tryz.f12
 simp only [gS]
 refine .seq (.r2 G 7 [(1, .hp 0 0)] [.own (api_Rat.c x')] (.seq ?_))
 obtain ⟨v1, hc2, v3, hc4, hr⟩ := bd2 hr
 refine .gn G (ca1 (ok0 (fiducialref02_Value_ok n x' v1 hc2)) (ca3 (ok0 (fiducialref01_Sign_ok n v1.Num v3 hc4)))) (.mu 1 (.ca cf0 (.mu 1 (.ca (cfF cf0) (.mu 1 (.done (.ret ?_)))))))
 obtain rfl := oi hr
 exact FinQ.r1 [aI64 v3]

theorem fiducialref02_Compare_ok (n : Nat) (x' : api_Rat) (y : api_Rat) (r : Int) (hr : fiducialref02_Compare n x' y = some r) : FnOk Tryz.prog 57 [.agg (api_Rat.c x'), .agg (api_Rat.c y)] (aI64 r) := by
 unfold fiducialref02_Compare at hr
 refine FnOk.bd G Tryz.func57 [.tmp 4] ?_
 unfold Tryz.f57
 simp only [gS]
 refine .seq (.r2 G 9 [(2, .hp 0 0), (3, .hp 1 0)] [.own (api_Rat.c x'), .own (api_Rat.c y)] (.seq ?_))
 obtain ⟨v1, hc2, v3, hc4, hr⟩ := bd2 hr
 refine .gn G (ca1 (ok0 (fiducialref02_Sub_ok n x' y v1 hc2)) (ca3 (ok0 (fiducialref02_Sign_ok n v1 v3 hc4)))) (.mu 2 (.ca cf0 (.ca (cfF cf0) (.mu 1 (.done (.ret ?_))))))
 obtain rfl := oi hr
 exact FinQ.r1 [aI64 v3]

theorem fiducialref02_Same_ok (n : Nat) (x' : api_Rat) (y : api_Rat) (r : Bool) (hr : fiducialref02_Same n x' y = some r) : FnOk Tryz.prog 15 [.agg (api_Rat.c x'), .agg (api_Rat.c y)] (aB r) := by
 unfold fiducialref02_Same at hr
 refine FnOk.bd G Tryz.func15 [.tmp 4] ?_
 unfold Tryz.f15
 simp only [gS]
 refine .seq (.r2 G 17 [(2, .hp 0 0), (3, .hp 1 0)] [.own (api_Rat.c x'), .own (api_Rat.c y)] (.seq ?_))
 obtain ⟨v1, hc2, hr⟩ := bd hr
 rcases bT v1 with hb3 | hb3
 ·subst hb3
  replace hr := cd_t rfl hr
  obtain ⟨v4, hc5, hr⟩ := bd hr
  rcases bT v4 with hb6 | hb6
  ·subst hb6
   replace hr := cd_t rfl hr
   obtain ⟨v7, hc8, hr⟩ := bd hr
   refine .gn G (ca1 (ok0 (fiducialref02_Valid_ok n x' true hc2)) (ca1 (ok0 (fiducialref02_Valid_ok n y true hc5)) (ca3 (ok0 (fiducialref02_Compare_ok n x' y v7 hc8))))) (.mu 1 (.ca cf0 (.mu 2 (.ca (cfA (fun h => by rw [sv hc5 hc2 (fiducialref02_Valid_cg n h)]) cf0) (.mu 4 (.ca (cfF (cfF cf0)) (.mu 3 (.done (.ret ?_)))))))))
   obtain rfl := oi hr
   exact FinQ.r1 [aB ((v7 : Int) == 0)]
  ·subst hb6
   replace hr := cd_f rfl hr
   refine .gn G (ca1 (ok0 (fiducialref02_Valid_ok n x' true hc2)) (ca3 (ok0 (fiducialref02_Valid_ok n y false hc5)))) (.mu 1 (.ca cf0 (.mu 2 (.ca (cfA (fun h => by rw [sv hc5 hc2 (fiducialref02_Valid_cg n h)]) cf0) (.mu 8 (.done (.ret ?_)))))))
   obtain rfl := oi hr
   exact FinQ.r1 [aB false]
 ·subst hb3
  replace hr := cd_f rfl hr
  refine .g1 G (ok0 (fiducialref02_Valid_ok n x' false hc2)) (.mu 1 (.ca cf0 (.mu 11 (.done (.ret ?_)))))
  obtain rfl := oi hr
  exact FinQ.r1 [aB false]

theorem fiducialref02_SameRat_inj {x' : api_Rat} {y : api_Rat} {x'_ : api_Rat} {y_ : api_Rat} (h : ([.agg [.at (.bool x'.Num.Negative), slT (iC .u32) x'.Num.Groups, .at (.bool x'.Den.Negative), slT (iC .u32) x'.Den.Groups], .agg [.at (.bool y.Num.Negative), slT (iC .u32) y.Num.Groups, .at (.bool y.Den.Negative), slT (iC .u32) y.Den.Groups]] : List AV) = [.agg [.at (.bool x'_.Num.Negative), slT (iC .u32) x'_.Num.Groups, .at (.bool x'_.Den.Negative), slT (iC .u32) x'_.Den.Groups], .agg [.at (.bool y_.Num.Negative), slT (iC .u32) y_.Num.Groups, .at (.bool y_.Den.Negative), slT (iC .u32) y_.Den.Groups]]) : x' = x'_ ∧ y = y_ := by
 obtain ⟨⟨_, _⟩, ⟨_, _⟩⟩ := x'
 obtain ⟨⟨_, _⟩, ⟨_, _⟩⟩ := x'_
 obtain ⟨⟨_, _⟩, ⟨_, _⟩⟩ := y
 obtain ⟨⟨_, _⟩, ⟨_, _⟩⟩ := y_
 simp only [List.cons.injEq, AV.agg.injEq, AV.at.injEq, Value.int.injEq, Value.bool.injEq, AV.fn.injEq, AV.pp.injEq, true_and, and_true, slT_inj_int] at h
 simp_all
theorem fiducialref02_SameRat_cg (n : Nat) {x' : api_Rat} {y : api_Rat} {x'_ : api_Rat} {y_ : api_Rat} (h : ([.agg [.at (.bool x'.Num.Negative), slT (iC .u32) x'.Num.Groups, .at (.bool x'.Den.Negative), slT (iC .u32) x'.Den.Groups], .agg [.at (.bool y.Num.Negative), slT (iC .u32) y.Num.Groups, .at (.bool y.Den.Negative), slT (iC .u32) y.Den.Groups]] : List AV) = [.agg [.at (.bool x'_.Num.Negative), slT (iC .u32) x'_.Num.Groups, .at (.bool x'_.Den.Negative), slT (iC .u32) x'_.Den.Groups], .agg [.at (.bool y_.Num.Negative), slT (iC .u32) y_.Num.Groups, .at (.bool y_.Den.Negative), slT (iC .u32) y_.Den.Groups]]) : fiducialref02_SameRat n x' y = fiducialref02_SameRat n x'_ y_ := by
 obtain ⟨rfl, rfl⟩ := fiducialref02_SameRat_inj h
 rfl
theorem fiducialref02_SameRat_ok (n : Nat) (x' : api_Rat) (y : api_Rat) (r : Bool) (hr : fiducialref02_SameRat n x' y = some r) : FnOk Tryz.prog 28 [.agg (api_Rat.c x'), .agg (api_Rat.c y)] (aB r) := by
 unfold fiducialref02_SameRat at hr
 refine FnOk.bd G Tryz.func28 [.tmp 4] ?_
 unfold Tryz.f28
 simp only [gS]
 refine .seq (.r2 G 8 [(2, .hp 0 0), (3, .hp 1 0)] [.own (api_Rat.c x'), .own (api_Rat.c y)] (.seq ?_))
 obtain ⟨v1, hc2, hr⟩ := bd hr
 refine .g1 G (ok0 (fiducialref02_Same_ok n x' y v1 hc2)) (.mu 2 (.ca cf0 (.mu 1 (.done (.ret ?_)))))
 obtain rfl := oi hr
 exact FinQ.r1 [aB v1]

theorem fiduciallaw52_known_ok (n : Nat) (r : Bool) (hr : fiduciallaw52_known n = some r) : FnOk Tryz.prog 27 [] (aB r) := by
 unfold fiduciallaw52_known at hr
 refine FnOk.bd G Tryz.func27 [.tmp 0] ?_
 unfold Tryz.f27
 simp only [gS]
 refine .seq (.r3 G 84 [] (.seq ?_))
 obtain ⟨v1, hc2, v3, hc4, v5, hc6, hr⟩ := bd3 hr
 obtain ⟨v7, hc8, hr⟩ := bd hr
 refine .gn G (ca1 (ok0 (fiducialref02_Int_ok n 2 v1 hc2)) (ca1 (ok0 (fiducialref02_Int_ok n (-1) v3 hc4)) (ca1 (ok0 (fiducialref02_Int_ok n (-1) v5 hc6)) (ca3 (ok0 (volume_Triangle_ok n v1 v3 v5 v7 hc8)))))) (.ca cf0 (.ca (cfA (fun h => by rw [sv hc4 hc2 (fiducialref02_Int_cg n h)]) cf0) (.ca (cfA (fun h => by rw [sv hc6 hc2 (fiducialref02_Int_cg n h)]) (cfA (fun h => by rw [sv hc6 hc4 (fiducialref02_Int_cg n h)]) cf0)) (.ca (cfF (cfF (cfF cf0))) (.mu 7 (.done (.nh [1, 2] [.own (api_Rat.c v7.1), .own (api_Rat.c v7.2)] (.seq (.r5 G [1, 2] [(3, .hp 3 0)] [.own (api_Rat.c v7.1), .own (api_Rat.c v7.2), .own [aI64 3, aI64 0, aI64 0, aI64 0], .own [aI64 0, aI64 0, aI64 10, aI64 2, aI64 2, .hs 2 0 4 1]] (.seq ?_))))))))))
 obtain ⟨v9, hc10, hr⟩ := bd hr
 refine .g1 G (callOk_ref (args := [.agg [aI64 0, aI64 0, aI64 10, aI64 2, aI64 2, .hs 2 0 4 1], aI64 0]) (l := [2]) (SnL.cons (Sn.agg (Sp (Sp (Sp (Sp (Sp (SnL.cons (Sn.hs rfl (.inl rfl) (SnC.cons (Sn.pure rfl) (SnC.cons (Sn.pure rfl) (SnC.cons (Sn.pure rfl) (SnC.cons (Sn.pure rfl) SnC.nil)))) (fun h => nomatch h)) SnL.nil))))))) (Sp SnL.nil)) (volume_Level_ok n (api_Grid.mk 0 0 10 2 2 [(3 : Int), (0 : Int), (0 : Int), (0 : Int)]) 0 v9 hc10)) (.mu 1 (.ca cf0 (.mu 9 (.done (.nh [1, 2, 3, 4, 5, 6] [.own (api_Rat.c v7.1), .own (api_Rat.c v7.2), .fix [aI64 3, aI64 0, aI64 0, aI64 0], .own [aI64 0, aI64 0, aI64 10, aI64 2, aI64 2, .hs 2 0 4 1], .own (api_Rat.c v9.1), .own (api_Rat.c v9.2.1)] (.seq ?_))))))
 obtain ⟨v11, hc12, hr⟩ := bd hr
 refine .g1 G (callOk_val (args := [.agg [aI64 0, aI64 0, aI64 10, aI64 2, aI64 2, .hs 2 0 4 1]]) (l := [2]) rfl (SnL.cons (Sn.agg (Sp (Sp (Sp (Sp (Sp (SnL.cons (Sn.hs rfl (.inr rfl) (SnC.cons (Sn.pure rfl) (SnC.cons (Sn.pure rfl) (SnC.cons (Sn.pure rfl) (SnC.cons (Sn.pure rfl) SnC.nil)))) (fun h => nomatch h)) SnL.nil))))))) SnL.nil) (volume_Area_ok n (api_Grid.mk 0 0 10 2 2 [(3 : Int), (0 : Int), (0 : Int), (0 : Int)]) v11 hc12)) (.mu 1 (.ca cf0 (.mu 5 (.done (.nh [1, 2, 3, 4, 5, 6, 7, 8] [.own (api_Rat.c v7.1), .own (api_Rat.c v7.2), .fix [aI64 3, aI64 0, aI64 0, aI64 0], .own [aI64 0, aI64 0, aI64 10, aI64 2, aI64 2, .hs 2 0 4 1], .own (api_Rat.c v9.1), .own (api_Rat.c v9.2.1)] (.seq ?_))))))
 obtain ⟨v13, hc14, hr⟩ := bd hr
 refine .g1 G (ok0 (fiducialref02_Of_ok n 8 27 v13 hc14)) (.ca cf0 (.mu 6 (.done (.nh [1, 2, 3, 4, 5, 6, 7, 8, 9] [.own (api_Rat.c v7.1), .own (api_Rat.c v7.2), .fix [aI64 3, aI64 0, aI64 0, aI64 0], .own [aI64 0, aI64 0, aI64 10, aI64 2, aI64 2, .hs 2 0 4 1], .own (api_Rat.c v9.1), .own (api_Rat.c v9.2.1), .own (api_Rat.c v13.1)] (.seq ?_)))))
 obtain ⟨v15, hc16, hr⟩ := bd hr
 refine .g1 G (callOk_ref (args := [.agg [aI64 0, aI64 0, aI64 10, aI64 2, aI64 2, .hs 2 0 4 1], aI64 0]) (l := [2]) (SnL.cons (Sn.agg (Sp (Sp (Sp (Sp (Sp (SnL.cons (Sn.hs rfl (.inr rfl) (SnC.cons (Sn.pure rfl) (SnC.cons (Sn.pure rfl) (SnC.cons (Sn.pure rfl) (SnC.cons (Sn.pure rfl) SnC.nil)))) (fun h => nomatch h)) SnL.nil))))))) (Sp SnL.nil)) (volume_Solid_ok n (api_Grid.mk 0 0 10 2 2 [(3 : Int), (0 : Int), (0 : Int), (0 : Int)]) 0 v15 hc16)) (.mu 1 (.ca cf0 (.mu 6 (.done (.nh [1, 2, 4, 5, 6, 7, 8, 9, 11, 12] [.own (api_Rat.c v7.1), .own (api_Rat.c v7.2), .fix [aI64 3, aI64 0, aI64 0, aI64 0], .own [aI64 0, aI64 0, aI64 10, aI64 2, aI64 2, .hs 2 0 4 1], .own (api_Rat.c v9.1), .own (api_Rat.c v9.2.1), .own (api_Rat.c v13.1), .own (api_Mesh.c v15.1)] (.seq ?_))))))
 rcases bT (((wrapF .i64 ((wrapF .i64 (v9.2.2 + v11.2)) + v15.2)) : Int) == 0) with hb17 | hb17
 ·replace hr := cd_t hb17 hr
  obtain ⟨v18, hc19, hr⟩ := bd hr
  rcases bT v18 with hb20 | hb20
  ·subst hb20
   replace hr := cd_t rfl hr
   obtain ⟨v21, hc22, hr⟩ := bd hr
   rcases bT v21 with hb23 | hb23
   ·subst hb23
    replace hr := cd_t rfl hr
    obtain ⟨v24, hc25, v26, hc27, hr⟩ := bd2 hr
    rcases bT v26 with hb28 | hb28
    ·subst hb28
     replace hr := cd_t rfl hr
     obtain ⟨v29, hc30, v31, hc32, hr⟩ := bd2 hr
     rcases bT v31 with hb33 | hb33
     ·subst hb33
      replace hr := cd_t rfl hr
      rcases bT ((v11.1 : Int) == 200) with hb34 | hb34
      ·replace hr := cd_t hb34 hr
       rcases bT (((v15.1.Vertices.length : Int) : Int) == 8) with hb35 | hb35
       ·replace hr := cd_t hb35 hr
        refine .tn G (ca1 (ok0 (fiducialref02_SameRat_ok n v7.1 v13.1 true hc19)) (ca1 (ok0 (fiducialref02_SameRat_ok n v7.2 v13.1 true hc22)) (ca1 (ok0 (fiducialref02_Int_ok n 100 v24 hc25)) (ca1 (ok0 (fiducialref02_SameRat_ok n v9.1 v24 true hc27)) (ca1 (ok0 (fiducialref02_Int_ok n 0 v29 hc30)) (ca3 (ok0 (fiducialref02_SameRat_ok n v9.2.1 v29 true hc32)))))))) (.mu 5 (.pure (v := aB true) (by kernel_rfl) (eB hb17) (by kernel_rfl) (.mu 3 (.ca cf0 (.mu 4 (.ca (cfA (fun h => by rw [sv hc22 hc19 (fiducialref02_SameRat_cg n h)]) cf0) (.mu 3 (.ca (cfF (cfF cf0)) (.ca (cfA (fun h => by rw [sv hc27 hc19 (fiducialref02_SameRat_cg n h)]) (cfA (fun h => by rw [sv hc27 hc22 (fiducialref02_SameRat_cg n h)]) (cfF cf0))) (.mu 3 (.ca (cfF (cfF (cfA (fun h => by rw [sv hc30 hc25 (fiducialref02_Int_cg n h)]) (cfF cf0)))) (.ca (cfA (fun h => by rw [sv hc32 hc19 (fiducialref02_SameRat_cg n h)]) (cfA (fun h => by rw [sv hc32 hc22 (fiducialref02_SameRat_cg n h)]) (cfF (cfA (fun h => by rw [sv hc32 hc27 (fiducialref02_SameRat_cg n h)]) (cfF cf0))))) (.mu 3 (.pure (v := aB true) (by kernel_rfl) (eB hb34) (by kernel_rfl) (.mu 5 (.pure (v := aB true) (by kernel_rfl) (eB hb35) (by kernel_rfl) (.mu 8 ?_)))))))))))))))))
        refine .done ⟨by kernel_rfl, ?_⟩
        refine .ret ?_
        obtain rfl := oi hr
        exact FinQ.r1 [aB (((v15.1.Faces.length : Int) : Int) == 12)]
       ·replace hr := cd_f hb35 hr
        refine .tn G (ca1 (ok0 (fiducialref02_SameRat_ok n v7.1 v13.1 true hc19)) (ca1 (ok0 (fiducialref02_SameRat_ok n v7.2 v13.1 true hc22)) (ca1 (ok0 (fiducialref02_Int_ok n 100 v24 hc25)) (ca1 (ok0 (fiducialref02_SameRat_ok n v9.1 v24 true hc27)) (ca1 (ok0 (fiducialref02_Int_ok n 0 v29 hc30)) (ca3 (ok0 (fiducialref02_SameRat_ok n v9.2.1 v29 true hc32)))))))) (.mu 5 (.pure (v := aB true) (by kernel_rfl) (eB hb17) (by kernel_rfl) (.mu 3 (.ca cf0 (.mu 4 (.ca (cfA (fun h => by rw [sv hc22 hc19 (fiducialref02_SameRat_cg n h)]) cf0) (.mu 3 (.ca (cfF (cfF cf0)) (.ca (cfA (fun h => by rw [sv hc27 hc19 (fiducialref02_SameRat_cg n h)]) (cfA (fun h => by rw [sv hc27 hc22 (fiducialref02_SameRat_cg n h)]) (cfF cf0))) (.mu 3 (.ca (cfF (cfF (cfA (fun h => by rw [sv hc30 hc25 (fiducialref02_Int_cg n h)]) (cfF cf0)))) (.ca (cfA (fun h => by rw [sv hc32 hc19 (fiducialref02_SameRat_cg n h)]) (cfA (fun h => by rw [sv hc32 hc22 (fiducialref02_SameRat_cg n h)]) (cfF (cfA (fun h => by rw [sv hc32 hc27 (fiducialref02_SameRat_cg n h)]) (cfF cf0))))) (.mu 3 (.pure (v := aB true) (by kernel_rfl) (eB hb34) (by kernel_rfl) (.mu 5 (.pure (v := aB false) (by kernel_rfl) (eB hb35) (by kernel_rfl) (.mu 8 ?_)))))))))))))))))
        refine .done ⟨by kernel_rfl, ?_⟩
        refine .ret ?_
        obtain rfl := oi hr
        exact FinQ.r1 [aB false]
      ·replace hr := cd_f hb34 hr
       refine .tn G (ca1 (ok0 (fiducialref02_SameRat_ok n v7.1 v13.1 true hc19)) (ca1 (ok0 (fiducialref02_SameRat_ok n v7.2 v13.1 true hc22)) (ca1 (ok0 (fiducialref02_Int_ok n 100 v24 hc25)) (ca1 (ok0 (fiducialref02_SameRat_ok n v9.1 v24 true hc27)) (ca1 (ok0 (fiducialref02_Int_ok n 0 v29 hc30)) (ca3 (ok0 (fiducialref02_SameRat_ok n v9.2.1 v29 true hc32)))))))) (.mu 5 (.pure (v := aB true) (by kernel_rfl) (eB hb17) (by kernel_rfl) (.mu 3 (.ca cf0 (.mu 4 (.ca (cfA (fun h => by rw [sv hc22 hc19 (fiducialref02_SameRat_cg n h)]) cf0) (.mu 3 (.ca (cfF (cfF cf0)) (.ca (cfA (fun h => by rw [sv hc27 hc19 (fiducialref02_SameRat_cg n h)]) (cfA (fun h => by rw [sv hc27 hc22 (fiducialref02_SameRat_cg n h)]) (cfF cf0))) (.mu 3 (.ca (cfF (cfF (cfA (fun h => by rw [sv hc30 hc25 (fiducialref02_Int_cg n h)]) (cfF cf0)))) (.ca (cfA (fun h => by rw [sv hc32 hc19 (fiducialref02_SameRat_cg n h)]) (cfA (fun h => by rw [sv hc32 hc22 (fiducialref02_SameRat_cg n h)]) (cfF (cfA (fun h => by rw [sv hc32 hc27 (fiducialref02_SameRat_cg n h)]) (cfF cf0))))) (.mu 3 (.pure (v := aB false) (by kernel_rfl) (eB hb34) (by kernel_rfl) (.mu 14 ?_)))))))))))))))
       refine .done ⟨by kernel_rfl, ?_⟩
       refine .ret ?_
       obtain rfl := oi hr
       exact FinQ.r1 [aB false]
     ·subst hb33
      replace hr := cd_f rfl hr
      refine .tn G (ca1 (ok0 (fiducialref02_SameRat_ok n v7.1 v13.1 true hc19)) (ca1 (ok0 (fiducialref02_SameRat_ok n v7.2 v13.1 true hc22)) (ca1 (ok0 (fiducialref02_Int_ok n 100 v24 hc25)) (ca1 (ok0 (fiducialref02_SameRat_ok n v9.1 v24 true hc27)) (ca1 (ok0 (fiducialref02_Int_ok n 0 v29 hc30)) (ca3 (ok0 (fiducialref02_SameRat_ok n v9.2.1 v29 false hc32)))))))) (.mu 5 (.pure (v := aB true) (by kernel_rfl) (eB hb17) (by kernel_rfl) (.mu 3 (.ca cf0 (.mu 4 (.ca (cfA (fun h => by rw [sv hc22 hc19 (fiducialref02_SameRat_cg n h)]) cf0) (.mu 3 (.ca (cfF (cfF cf0)) (.ca (cfA (fun h => by rw [sv hc27 hc19 (fiducialref02_SameRat_cg n h)]) (cfA (fun h => by rw [sv hc27 hc22 (fiducialref02_SameRat_cg n h)]) (cfF cf0))) (.mu 3 (.ca (cfF (cfF (cfA (fun h => by rw [sv hc30 hc25 (fiducialref02_Int_cg n h)]) (cfF cf0)))) (.ca (cfA (fun h => by rw [sv hc32 hc19 (fiducialref02_SameRat_cg n h)]) (cfA (fun h => by rw [sv hc32 hc22 (fiducialref02_SameRat_cg n h)]) (cfF (cfA (fun h => by rw [sv hc32 hc27 (fiducialref02_SameRat_cg n h)]) (cfF cf0))))) (.mu 18 ?_)))))))))))))
      refine .done ⟨by kernel_rfl, ?_⟩
      refine .ret ?_
      obtain rfl := oi hr
      exact FinQ.r1 [aB false]
    ·subst hb28
     replace hr := cd_f rfl hr
     refine .tn G (ca1 (ok0 (fiducialref02_SameRat_ok n v7.1 v13.1 true hc19)) (ca1 (ok0 (fiducialref02_SameRat_ok n v7.2 v13.1 true hc22)) (ca1 (ok0 (fiducialref02_Int_ok n 100 v24 hc25)) (ca3 (ok0 (fiducialref02_SameRat_ok n v9.1 v24 false hc27)))))) (.mu 5 (.pure (v := aB true) (by kernel_rfl) (eB hb17) (by kernel_rfl) (.mu 3 (.ca cf0 (.mu 4 (.ca (cfA (fun h => by rw [sv hc22 hc19 (fiducialref02_SameRat_cg n h)]) cf0) (.mu 3 (.ca (cfF (cfF cf0)) (.ca (cfA (fun h => by rw [sv hc27 hc19 (fiducialref02_SameRat_cg n h)]) (cfA (fun h => by rw [sv hc27 hc22 (fiducialref02_SameRat_cg n h)]) (cfF cf0))) (.mu 23 ?_))))))))))
     refine .done ⟨by kernel_rfl, ?_⟩
     refine .ret ?_
     obtain rfl := oi hr
     exact FinQ.r1 [aB false]
   ·subst hb23
    replace hr := cd_f rfl hr
    refine .tn G (ca1 (ok0 (fiducialref02_SameRat_ok n v7.1 v13.1 true hc19)) (ca3 (ok0 (fiducialref02_SameRat_ok n v7.2 v13.1 false hc22)))) (.mu 5 (.pure (v := aB true) (by kernel_rfl) (eB hb17) (by kernel_rfl) (.mu 3 (.ca cf0 (.mu 4 (.ca (cfA (fun h => by rw [sv hc22 hc19 (fiducialref02_SameRat_cg n h)]) cf0) (.mu 28 ?_)))))))
    refine .done ⟨by kernel_rfl, ?_⟩
    refine .ret ?_
    obtain rfl := oi hr
    exact FinQ.r1 [aB false]
  ·subst hb20
   replace hr := cd_f rfl hr
   refine .t1 G (ok0 (fiducialref02_SameRat_ok n v7.1 v13.1 false hc19)) (.mu 5 (.pure (v := aB true) (by kernel_rfl) (eB hb17) (by kernel_rfl) (.mu 3 (.ca cf0 (.mu 33 ?_)))))
   refine .done ⟨by kernel_rfl, ?_⟩
   refine .ret ?_
   obtain rfl := oi hr
   exact FinQ.r1 [aB false]
 ·replace hr := cd_f hb17 hr
  refine .regionT G callOf_nil (.mu 5 (.pure (v := aB false) (by kernel_rfl) (eB hb17) (by kernel_rfl) (.mu 37 ?_)))
  refine .done ⟨by kernel_rfl, ?_⟩
  refine .ret ?_
  obtain rfl := oi hr
  exact FinQ.r1 [aB false]

theorem fiduciallaw52_VolumeSolid_ok (n : Nat) (heights : List Int) (width : Int) (base : Int) (r : Bool) (hr : fiduciallaw52_VolumeSolid n heights width base = some r) : FnOk Tryz.prog 5 [sU8 heights, aU8 width, .at (.int .i8 base)] (aB r) := by
 unfold fiduciallaw52_VolumeSolid at hr
 refine FnOk.bd G Tryz.func5 [.tmp 6] ?_
 unfold Tryz.f5
 simp only [gS]
 refine .seq (.r4 G [0, 1, 2] [] (.seq (.seq ?_)))
 obtain ⟨v1, hc2, hr⟩ := bd hr
 refine .g1 G (ok0 (fiduciallaw52_known_ok n v1 hc2)) (.ca cf0 (.mu 1 (.done (.nh [0, 1, 2, 30] [] ?_))))
 refine .cd hr ?_ ?_ <;> intro hb4 hr
 ·refine .seq (.ru G (.ret ?_))
  obtain rfl := oi hr
  exact FinQ.r1 [aB false]
 ·refine .skip (.seq (.r4 G [0, 2] [(7, aI64 (wrapF .i64 (2 + ((wrapF .i64 width).tmod 4))))] (.seq ?_)))
  obtain ⟨hg5, hr⟩ := gd hr
  refine .r0 G (.mu 3 (.p0 (v := aI64 (wrapF .i64 ((heights.length : Int).tdiv (wrapF .i64 (2 + ((wrapF .i64 width).tmod 4)))))) (op_quo (x := (heights.length : Int)) (y := wrapF .i64 (2 + ((wrapF .i64 width).tmod 4))) (by kernel_rfl) (by kernel_rfl) hg5) (.mu 1 (.done (.nh [0, 2, 7, 8] [] (.seq (.seq ?_)))))))
  rcases bT (decide ((wrapF .i64 ((heights.length : Int).tdiv (wrapF .i64 (2 + ((wrapF .i64 width).tmod 4))))) < 2)) with hb6 | hb6
  ·replace hr := cd_t hb6 hr
   refine .r0 G (.mu 1 (.p0 (v := aB true) (eB hb6) (.mu 4 (.done (.nh [0, 2, 7, 8, 44] [] (.cT (by kernel_rfl) (.seq (.ru G (.ret ?_)))))))))
   obtain rfl := oi hr
   exact FinQ.r1 [aB true]
  ·replace hr := cd_f hb6 hr
   refine .r0 G (.mu 1 (.p0 (v := aB false) (eB hb6) (.mu 4 (.done (.nh [0, 2, 7, 8, 44] [] ?_)))))
   refine .cd hr ?_ ?_ <;> intro hb8 hr
   ·refine .seq (.ru G (.ret ?_))
    obtain rfl := oi hr
    exact FinQ.r1 [aB true]
   ·refine .skip (.seq (.r5 G [0, 2, 7, 8] [(9, .hp 0 0)] [.own [aI64 7, aI64 (-5), aI64 6, aI64 (wrapF .i64 (2 + ((wrapF .i64 width).tmod 4))), aI64 (wrapF .i64 ((heights.length : Int).tdiv (wrapF .i64 (2 + ((wrapF .i64 width).tmod 4))))), nS]] (.seq (.seq (.r4 G [0, 2, 9] [(50, aI64 (wrapF .i64 ((wrapF .i64 (2 + ((wrapF .i64 width).tmod 4))) * (wrapF .i64 ((heights.length : Int).tdiv (wrapF .i64 (2 + ((wrapF .i64 width).tmod 4)))))))), (51, aI64 0)] (.block ?_))))))
    replace hr := bd hr; obtain ⟨g_33, hL41, hr⟩ := hr
    refine .loopO (σ := fun z0 => match z0 with | (g_26, x_27) => ⟨mkS 240 0 [(0, sU8 heights), (2, .at (.int .i8 base)), (9, .hp 0 0), (50, aI64 (wrapF .i64 ((wrapF .i64 (2 + ((wrapF .i64 width).tmod 4))) * (wrapF .i64 ((heights.length : Int).tdiv (wrapF .i64 (2 + ((wrapF .i64 width).tmod 4)))))))), (51, aI64 x_27)], [.own [aI64 7, aI64 (-5), aI64 6, aI64 (wrapF .i64 (2 + ((wrapF .i64 width).tmod 4))), aI64 (wrapF .i64 ((heights.length : Int).tdiv (wrapF .i64 (2 + ((wrapF .i64 width).tmod 4))))), .hs 1 0 g_26.length 1], .own (g_26.flatMap (iC .i64))]⟩) (Q := fun x st' => x = .exit 0 ∧ Wk 0 st' ⟨mkS 240 0 [(2, .at (.int .i8 base)), (9, .hp 0 0)], [.own [aI64 7, aI64 (-5), aI64 6, aI64 (wrapF .i64 (2 + ((wrapF .i64 width).tmod 4))), aI64 (wrapF .i64 ((heights.length : Int).tdiv (wrapF .i64 (2 + ((wrapF .i64 width).tmod 4))))), .hs 1 0 g_33.length 1], .own (g_33.flatMap (iC .i64))]⟩) hL41 ((Wk.nilcell 0 5 1 (cs := [aI64 7, aI64 (-5), aI64 6, aI64 (wrapF .i64 (2 + ((wrapF .i64 width).tmod 4))), aI64 (wrapF .i64 ((heights.length : Int).tdiv (wrapF .i64 (2 + ((wrapF .i64 width).tmod 4))))), nS]) (by kernel_rfl) (by kernel_rfl)).trans ((Wk.gc [0, 2, 9, 50, 51] [(0, true), (1, false)] rfl (pKt (pKc trivial))).to)) ?_ ?_
    ·clear hr
     rintro m ⟨g_26, x_27⟩ hr
     show CQ _ _ _ _ _ ⟨_, _⟩
     refine .seq (.r4 G [0, 2, 9, 50, 51] [(52, aB (decide (x_27 < (wrapF .i64 ((wrapF .i64 (2 + ((wrapF .i64 width).tmod 4))) * (wrapF .i64 ((heights.length : Int).tdiv (wrapF .i64 (2 + ((wrapF .i64 width).tmod 4))))))))))] (.seq ?_))
     refine .cd hr ?_ ?_ <;> intro hb36 hr
     ·refine .skip (.seq (.block (.seq (.r4 G [0, 2, 9, 50, 51] [(10, aI64 x_27)] ?_))))
      obtain ⟨hg37, hg38, hg39, hr⟩ := gd3 hr
      refine .regionT G callOf_nil (.mu 6 (.pure (v := .pp (heights.flatMap (iC .u8)) (x_27.toNat * 1)) (by kernel_rfl) (tr (ofP_guard hg37)) (by kernel_rfl) (.pure (v := aU8 (gt heights x_27)) (by kernel_rfl) (tr (ofP_some (flat_get (iC_len .u8) (inR_lt hg37) (by decide : 0 < 1) (by omega : x_27.toNat * 1 = x_27.toNat * 1 + 0) (by kernel_rfl)))) (by kernel_rfl) (.mu 3 (.eff (v := .hs 3 0 (g_26 ++ [wrapF .i64 ((wrapF .i64 base) + (wrapF .i64 (gt heights x_27)))]).length 1) (ws := [(1, .dead), (3, .own ((g_26 ++ [wrapF .i64 ((wrapF .i64 base) + (wrapF .i64 (gt heights x_27)))]).flatMap (iC .i64)))]) (by kernel_rfl) (tr (app_own (new := [aI64 (wrapF .i64 ((wrapF .i64 base) + (wrapF .i64 (gt heights x_27))))]) (l := g_26) (xs := [wrapF .i64 ((wrapF .i64 base) + (wrapF .i64 (gt heights x_27)))]) (iC_len .i64) rfl rfl (by kernel_rfl) hg38 hg39)) (by kernel_rfl) (.mu 2 ?_))))))
      refine .done ⟨by kernel_rfl, ?_⟩
      refine .pop (.ru G ?_)
      exact loopF_back (g_26 ++ [wrapF .i64 ((wrapF .i64 base) + (wrapF .i64 (gt heights x_27)))], wrapF .i64 (x_27 + 1)) hr ((Wk.gc [0, 2, 9, 50, 51] [(0, true), (3, false)] rfl (pKt (pKo (iC .i64) (iC_pure _) (g_26 ++ [wrapF .i64 ((wrapF .i64 base) + (wrapF .i64 (gt heights x_27)))]) trivial))).to)
     ·refine .leave rfl ?_
      obtain rfl := oi hr
      exact ⟨rfl, ((Wk.gc [2, 9] [(0, true), (1, false)] rfl (pKt (pKo (iC .i64) (iC_pure _) g_26 trivial))).to)⟩
    ·rintro x st' hq42
     clear hL41
     obtain ⟨rfl, hq42⟩ := hq42
     refine CQ_exit _ rfl (.wk hq42 (.seq ?_))
     obtain ⟨v43, hc44, hr⟩ := bd hr
     refine .g1 G (callOk_ref (args := [.agg [aI64 7, aI64 (-5), aI64 6, aI64 (wrapF .i64 (2 + ((wrapF .i64 width).tmod 4))), aI64 (wrapF .i64 ((heights.length : Int).tdiv (wrapF .i64 (2 + ((wrapF .i64 width).tmod 4))))), .hs 1 0 g_33.length 1], aI64 (wrapF .i64 base)]) (l := [1]) (SnL.cons (Sn.agg (Sp (Sp (Sp (Sp (Sp (SnL.cons (Sn.hs rfl (.inl rfl) (SnC.pure (ids_flat (iC_pure _) _)) (fun h => flat_nil0 h)) SnL.nil))))))) (Sp SnL.nil)) (volume_Solid_ok n (api_Grid.mk 7 (-5) 6 (wrapF .i64 (2 + ((wrapF .i64 width).tmod 4))) (wrapF .i64 ((heights.length : Int).tdiv (wrapF .i64 (2 + ((wrapF .i64 width).tmod 4))))) g_33) (wrapF .i64 base) v43 hc44)) (.mu 3 (.ca cf0 (.mu 6 (.done (.nh [2, 9, 11, 12] [.own [aI64 7, aI64 (-5), aI64 6, aI64 (wrapF .i64 (2 + ((wrapF .i64 width).tmod 4))), aI64 (wrapF .i64 ((heights.length : Int).tdiv (wrapF .i64 (2 + ((wrapF .i64 width).tmod 4))))), .hs 1 0 g_33.length 1], .fix (g_33.flatMap (iC .i64)), .own (api_Mesh.c v43.1)] (.seq ?_))))))
     obtain ⟨v45, hc46, hr⟩ := bd hr
     refine .g1 G (callOk_ref (args := [.agg [aI64 7, aI64 (-5), aI64 6, aI64 (wrapF .i64 (2 + ((wrapF .i64 width).tmod 4))), aI64 (wrapF .i64 ((heights.length : Int).tdiv (wrapF .i64 (2 + ((wrapF .i64 width).tmod 4))))), .hs 1 0 g_33.length 1], aI64 (wrapF .i64 base)]) (l := [1]) (SnL.cons (Sn.agg (Sp (Sp (Sp (Sp (Sp (SnL.cons (Sn.hs rfl (.inr rfl) (SnC.pure (ids_flat (iC_pure _) _)) (fun h => flat_nil0 h)) SnL.nil))))))) (Sp SnL.nil)) (volume_Level_ok n (api_Grid.mk 7 (-5) 6 (wrapF .i64 (2 + ((wrapF .i64 width).tmod 4))) (wrapF .i64 ((heights.length : Int).tdiv (wrapF .i64 (2 + ((wrapF .i64 width).tmod 4))))) g_33) (wrapF .i64 base) v45 hc46)) (.mu 3 (.ca cf0 (.mu 9 (.done (.nh [11, 12, 13, 14, 15] [.own [aI64 7, aI64 (-5), aI64 6, aI64 (wrapF .i64 (2 + ((wrapF .i64 width).tmod 4))), aI64 (wrapF .i64 ((heights.length : Int).tdiv (wrapF .i64 (2 + ((wrapF .i64 width).tmod 4))))), .hs 1 0 g_33.length 1], .fix (g_33.flatMap (iC .i64)), .own (api_Mesh.c v43.1), .own (api_Rat.c v45.1), .own (api_Rat.c v45.2.1)] (.seq (.seq ?_)))))))
     rcases bT ((v43.2 : Int) != 0) with hb47 | hb47
     ·replace hr := cd_t hb47 hr
      refine .r0 G (.mu 1 (.p0 (v := aB true) (eB hb47) (.mu 9 (.done (.nh [11, 13, 93] [.own [aI64 7, aI64 (-5), aI64 6, aI64 (wrapF .i64 (2 + ((wrapF .i64 width).tmod 4))), aI64 (wrapF .i64 ((heights.length : Int).tdiv (wrapF .i64 (2 + ((wrapF .i64 width).tmod 4))))), .hs 1 0 g_33.length 1], .fix (g_33.flatMap (iC .i64)), .own (api_Mesh.c v43.1), .own (api_Rat.c v45.1), .own (api_Rat.c v45.2.1)] (.cT (by kernel_rfl) (.seq (.ru G (.ret ?_)))))))))
      obtain rfl := oi hr
      exact FinQ.r1 [aB false]
     ·replace hr := cd_f hb47 hr
      rcases bT ((v45.2.2 : Int) != 0) with hb48 | hb48
      ·replace hr := cd_t hb48 hr
       refine .r0 G (.mu 1 (.p0 (v := aB false) (eB hb47) (.mu 2 (.pure (v := aB true) (by kernel_rfl) (eB hb48) (.mu 6 (.done (.nh [11, 13, 93] [.own [aI64 7, aI64 (-5), aI64 6, aI64 (wrapF .i64 (2 + ((wrapF .i64 width).tmod 4))), aI64 (wrapF .i64 ((heights.length : Int).tdiv (wrapF .i64 (2 + ((wrapF .i64 width).tmod 4))))), .hs 1 0 g_33.length 1], .fix (g_33.flatMap (iC .i64)), .own (api_Mesh.c v43.1), .own (api_Rat.c v45.1), .own (api_Rat.c v45.2.1)] (.cT (by kernel_rfl) (.seq (.ru G (.ret ?_)))))))))))
       obtain rfl := oi hr
       exact FinQ.r1 [aB false]
      ·replace hr := cd_f hb48 hr
       obtain ⟨v49, hc50, hr⟩ := bd hr
       refine .g1 G (ok0 (fiducialref02_Sign_ok n v45.2.1 v49 hc50)) (.mu 1 (.p0 (v := aB false) (eB hb47) (.mu 2 (.pure (v := aB false) (by kernel_rfl) (eB hb48) (.mu 3 (.ca cf0 (.mu 2 (.done (.nh [11, 13, 93] [.own [aI64 7, aI64 (-5), aI64 6, aI64 (wrapF .i64 (2 + ((wrapF .i64 width).tmod 4))), aI64 (wrapF .i64 ((heights.length : Int).tdiv (wrapF .i64 (2 + ((wrapF .i64 width).tmod 4))))), .hs 1 0 g_33.length 1], .fix (g_33.flatMap (iC .i64)), .own (api_Mesh.c v43.1), .own (api_Rat.c v45.1), .own (api_Rat.c v45.2.1)] ?_)))))))))
       refine .cd hr ?_ ?_ <;> intro hb52 hr
       ·refine .seq (.ru G (.ret ?_))
        obtain rfl := oi hr
        exact FinQ.r1 [aB false]
       ·refine .skip (.seq (.r5 G [11, 13] [(16, .mp 5)] [.own [aI64 7, aI64 (-5), aI64 6, aI64 (wrapF .i64 (2 + ((wrapF .i64 width).tmod 4))), aI64 (wrapF .i64 ((heights.length : Int).tdiv (wrapF .i64 (2 + ((wrapF .i64 width).tmod 4))))), .hs 1 0 g_33.length 1], .fix (g_33.flatMap (iC .i64)), .own (api_Mesh.c v43.1), .own (api_Rat.c v45.1), .own (api_Rat.c v45.2.1), .map (([] : List (A2 Int × Int)).map (mpK A2_i64.K (iA .i64)))] (.seq (.r4 G [11, 13, 16] [(17, aI64 0)] (.seq (.seq (.r4 G [11, 13, 16, 17] [(96, slT A3_3_int.c v43.1.Faces), (97, aI64 (v43.1.Faces.length : Int)), (98, aI64 0)] (.block ?_))))))))
        replace hr := bd hr; obtain ⟨o188, hL189, hr⟩ := hr
        refine .loopO (σ := fun z0 => match z0 with | (e_122, s_123, x_124) => ⟨mkS 240 0 [(11, .hp 0 0), (13, .hp 1 0), (16, .mp 2), (17, aI64 s_123), (96, slT A3_3_int.c v43.1.Faces), (97, aI64 (v43.1.Faces.length : Int)), (98, aI64 x_124)], [.own (api_Mesh.c v43.1), .own (api_Rat.c v45.1), .map (e_122.map (mpK A2_i64.K (iA .i64)))]⟩) (Q := fun x st' => match (generalizing := false) o188 with | .inl (e_155, s_156) => x = .exit 2 ∧ Wk 0 st' ⟨mkS 240 0 [(13, .hp 0 0), (16, .mp 1), (17, aI64 s_156)], [.own (api_Rat.c v45.1), .map (e_155.map (mpK A2_i64.K (iA .i64)))]⟩ | .inr (r0) => x = .ret ∧ FinQ Tryz.prog [.tmp 6] (aB r0) .ret st') hL189 ((Wk.gc [11, 13, 16, 17, 96, 97, 98] [(2, true), (3, true), (5, false)] rfl (pKt (pKt (pKM A2_i64.K (iA .i64) (fun _ => rfl) ([] : List (A2 Int × Int)) trivial)))).to) ?_ ?_
        ·clear hr
         rintro m ⟨e_122, s_123, x_124⟩ hr
         show CQ _ _ _ _ _ ⟨_, _⟩
         refine .seq (.r4 G [11, 13, 16, 17, 96, 97, 98] [(99, aB (decide (x_124 < (v43.1.Faces.length : Int))))] (.seq ?_))
         refine .cd hr ?_ ?_ <;> intro hb159 hr
         ·refine .skip (.seq (.block (.seq ?_)))
          obtain ⟨hg160, hr⟩ := gd hr
          refine .r0 G (.p0 (v := .pp (v43.1.Faces.flatMap A3_3_int.c) (x_124.toNat * 3)) (tr (ofP_guard hg160)) (.p0 (v := .agg [aI64 (gt v43.1.Faces x_124).e0, aI64 (gt v43.1.Faces x_124).e1, aI64 (gt v43.1.Faces x_124).e2]) (Eq.trans (b := ORes.ofP (guardV (decide (3 ≤ ((v43.1.Faces.flatMap A3_3_int.c).drop (x_124.toNat * 3)).length)) (.agg (((v43.1.Faces.flatMap A3_3_int.c).drop (x_124.toNat * 3)).take 3)))) (by kernel_rfl) (flat_load A3_3_int.len (inR_lt hg160) (by decide) (by omega : x_124.toNat * 3 = x_124.toNat * 3 + 0) (by kernel_rfl))) (.mu 2 (.done (.nh [11, 13, 16, 17, 19, 96, 97, 98] [.own (api_Mesh.c v43.1), .own (api_Rat.c v45.1), .map (e_122.map (mpK A2_i64.K (iA .i64))), .own [aI64 (gt v43.1.Faces x_124).e0, aI64 (gt v43.1.Faces x_124).e1, aI64 (gt v43.1.Faces x_124).e2]] (.seq (.seq (.r4 G [11, 13, 16, 17, 19, 96, 97, 98] [(102, aI64 0)] (.block ?_)))))))))
          refine .unroll 4 (UNR.one ?_)
          refine .seq (.r4 G [11, 13, 16, 17, 19, 96, 97, 98, 102] [(103, aB true)] (.seq (.cT (by kernel_rfl) (.skip (.seq (.block (.seq (.r4 G [11, 13, 16, 17, 19, 96, 97, 98, 102] [(20, aI64 0)] (.seq (.seq ?_))))))))))
          rcases bT (decide ((gt v43.1.Faces x_124).e0 < 0)) with hb173 | hb173
          ·replace hr := cd_t hb173 hr
           refine .regionT G callOf_nil (.mu 3 (.pure (v := aB true) (by kernel_rfl) (eB hb173) (by kernel_rfl) (.mu 20 ?_)))
           refine .done ⟨by kernel_rfl, ?_⟩
           refine .nh [11, 13, 16, 17, 19, 20, 96, 97, 98, 102, 128] [.own (api_Mesh.c v43.1), .own (api_Rat.c v45.1), .map (e_122.map (mpK A2_i64.K (iA .i64))), .own [aI64 (gt v43.1.Faces x_124).e0, aI64 (gt v43.1.Faces x_124).e1, aI64 (gt v43.1.Faces x_124).e2]] (.cT (by kernel_rfl) (.seq (.ru G (.ret (unF.ret ?_)))))
           obtain rfl := oi hr
           exact ⟨rfl, FinQ.ret (vs := [aB false]) (by kernel_rfl) (Sn.pure rfl)⟩
          ·replace hr := cd_f hb173 hr
           rcases bT (decide ((gt v43.1.Faces x_124).e0 ≥ (v43.1.Vertices.length : Int))) with hb174 | hb174
           ·replace hr := cd_t hb174 hr
            refine .regionT G callOf_nil (.mu 3 (.pure (v := aB false) (by kernel_rfl) (eB hb173) (by kernel_rfl) (.mu 7 (.pure (v := aB true) (by kernel_rfl) (eB hb174) (by kernel_rfl) (.mu 12 ?_)))))
            refine .done ⟨by kernel_rfl, ?_⟩
            refine .nh [11, 13, 16, 17, 19, 20, 96, 97, 98, 102, 128] [.own (api_Mesh.c v43.1), .own (api_Rat.c v45.1), .map (e_122.map (mpK A2_i64.K (iA .i64))), .own [aI64 (gt v43.1.Faces x_124).e0, aI64 (gt v43.1.Faces x_124).e1, aI64 (gt v43.1.Faces x_124).e2]] (.cT (by kernel_rfl) (.seq (.ru G (.ret (unF.ret ?_)))))
            obtain rfl := oi hr
            exact ⟨rfl, FinQ.ret (vs := [aB false]) (by kernel_rfl) (Sn.pure rfl)⟩
           ·replace hr := cd_f hb174 hr
            refine .regionT G callOf_nil (.mu 3 (.pure (v := aB false) (by kernel_rfl) (eB hb173) (by kernel_rfl) (.mu 7 (.pure (v := aB false) (by kernel_rfl) (eB hb174) (by kernel_rfl) (.mu 12 ?_)))))
            refine .done ⟨by kernel_rfl, ?_⟩
            refine .nh [11, 13, 16, 17, 19, 20, 96, 97, 98, 102, 128] [.own (api_Mesh.c v43.1), .own (api_Rat.c v45.1), .map (e_122.map (mpK A2_i64.K (iA .i64))), .own [aI64 (gt v43.1.Faces x_124).e0, aI64 (gt v43.1.Faces x_124).e1, aI64 (gt v43.1.Faces x_124).e2]] ?_
            refine .cd hr ?_ ?_ <;> intro hb176 hr
            ·refine .seq (.ru G (.ret (unF.ret ?_)))
             obtain rfl := oi hr
             exact ⟨rfl, FinQ.ret (vs := [aB false]) (by kernel_rfl) (Sn.pure rfl)⟩
            ·refine .skip (.regionT G callOf_nil (.mu 10 (.pure (v := aI64 (getM 0 e_122 (A2.mk (gt v43.1.Faces x_124).e0 (gt v43.1.Faces x_124).e1))) (by kernel_rfl) (Eq.trans (b := ORes.ofP (lookupA Tryz.prog [.own (api_Mesh.c v43.1), .own (api_Rat.c v45.1), .map (e_122.map (mpK A2_i64.K (iA .i64))), .own [aI64 (gt v43.1.Faces x_124).e0, aI64 (gt v43.1.Faces x_124).e1, aI64 (gt v43.1.Faces x_124).e2]] 76 (.mp 2) (.agg [aI64 (gt v43.1.Faces x_124).e0, aI64 (gt v43.1.Faces x_124).e1]) false)) (by kernel_rfl) (look_k (kt := 77) (e := 3) (l := e_122) (f := (iA .i64)) (z := 0) (K := A2_i64.K) (x := A2.mk (gt v43.1.Faces x_124).e0 (gt v43.1.Faces x_124).e1) A2_i64.key (by kernel_rfl) (by kernel_rfl) (by kernel_rfl) (by kernel_rfl) (by kernel_rfl))) (by kernel_rfl) (.mu 1 (.eff (v := .tup [aI64 (getM 0 e_122 (A2.mk (gt v43.1.Faces x_124).e0 (gt v43.1.Faces x_124).e1)), aI64 ((posM e_122 (A2.mk (gt v43.1.Faces x_124).e0 (gt v43.1.Faces x_124).e1) : Nat) : Int)]) (ws := [(2, .map ((putM e_122 (A2.mk (gt v43.1.Faces x_124).e0 (gt v43.1.Faces x_124).e1) (getM 0 e_122 (A2.mk (gt v43.1.Faces x_124).e0 (gt v43.1.Faces x_124).e1))).map (mpK A2_i64.K (iA .i64))))]) (by kernel_rfl) (Eq.trans (b := opEntry Tryz.prog [.own (api_Mesh.c v43.1), .own (api_Rat.c v45.1), .map (e_122.map (mpK A2_i64.K (iA .i64))), .own [aI64 (gt v43.1.Faces x_124).e0, aI64 (gt v43.1.Faces x_124).e1, aI64 (gt v43.1.Faces x_124).e2]] 76 (.mp 2) (.agg [aI64 (gt v43.1.Faces x_124).e0, aI64 (gt v43.1.Faces x_124).e1])) (by kernel_rfl) (ent_k (kt := 77) (e := 3) (l := e_122) (f := (iA .i64)) (z := 0) (K := A2_i64.K) (x := A2.mk (gt v43.1.Faces x_124).e0 (gt v43.1.Faces x_124).e1) A2_i64.key (by kernel_rfl) (by kernel_rfl) (by kernel_rfl) (by kernel_rfl) (by kernel_rfl))) (by kernel_rfl) (.mu 1 (.eff (v := .unk) (ws := [(2, .map ((putM e_122 (A2.mk (gt v43.1.Faces x_124).e0 (gt v43.1.Faces x_124).e1) (wrapF .i64 ((getM 0 e_122 (A2.mk (gt v43.1.Faces x_124).e0 (gt v43.1.Faces x_124).e1)) + 1))).map (mpK A2_i64.K (iA .i64))))]) (by kernel_rfl) (Eq.trans (b := opEntryStore [.own (api_Mesh.c v43.1), .own (api_Rat.c v45.1), .map ((putM e_122 (A2.mk (gt v43.1.Faces x_124).e0 (gt v43.1.Faces x_124).e1) (getM 0 e_122 (A2.mk (gt v43.1.Faces x_124).e0 (gt v43.1.Faces x_124).e1))).map (mpK A2_i64.K (iA .i64))), .own [aI64 (gt v43.1.Faces x_124).e0, aI64 (gt v43.1.Faces x_124).e1, aI64 (gt v43.1.Faces x_124).e2]] (.mp 2) (aI64 ((posM e_122 (A2.mk (gt v43.1.Faces x_124).e0 (gt v43.1.Faces x_124).e1) : Nat) : Int)) (aI64 (wrapF .i64 ((getM 0 e_122 (A2.mk (gt v43.1.Faces x_124).e0 (gt v43.1.Faces x_124).e1)) + 1)))) (by kernel_rfl) (est_k (K := A2_i64.K) (l := e_122) (f := (iA .i64)) (x := A2.mk (gt v43.1.Faces x_124).e0 (gt v43.1.Faces x_124).e1) (v := wrapF .i64 ((getM 0 e_122 (A2.mk (gt v43.1.Faces x_124).e0 (gt v43.1.Faces x_124).e1)) + 1)) (z := 0) (by kernel_rfl))) (by kernel_rfl) ?_)))))))
             refine .done ⟨by kernel_rfl, ?_⟩
             refine .pop (.ru G (UNR.next (.n2 240 [(11, .hp 0 0), (13, .hp 1 0), (16, .mp 2), (17, aI64 s_123), (19, .hp 3 0), (96, slT A3_3_int.c v43.1.Faces), (97, aI64 (v43.1.Faces.length : Int)), (98, aI64 x_124), (102, aI64 1)] [.own (api_Mesh.c v43.1), .own (api_Rat.c v45.1), .map ((putM e_122 (A2.mk (gt v43.1.Faces x_124).e0 (gt v43.1.Faces x_124).e1) (wrapF .i64 ((getM 0 e_122 (A2.mk (gt v43.1.Faces x_124).e0 (gt v43.1.Faces x_124).e1)) + 1))).map (mpK A2_i64.K (iA .i64))), .own [aI64 (gt v43.1.Faces x_124).e0, aI64 (gt v43.1.Faces x_124).e1, aI64 (gt v43.1.Faces x_124).e2]] (.seq (.r4 G [11, 13, 16, 17, 19, 96, 97, 98, 102] [(103, aB true)] (.seq (.cT (by kernel_rfl) (.skip (.seq (.block (.seq (.r4 G [11, 13, 16, 17, 19, 96, 97, 98, 102] [(20, aI64 1)] (.seq (.seq ?_))))))))))))))
             rcases bT (decide ((gt v43.1.Faces x_124).e1 < 0)) with hb177 | hb177
             ·replace hr := cd_t hb177 hr
              refine .regionT G callOf_nil (.mu 3 (.pure (v := aB true) (by kernel_rfl) (eB hb177) (by kernel_rfl) (.mu 20 ?_)))
              refine .done ⟨by kernel_rfl, ?_⟩
              refine .nh [11, 13, 16, 17, 19, 20, 96, 97, 98, 102, 128] [.own (api_Mesh.c v43.1), .own (api_Rat.c v45.1), .map ((putM e_122 (A2.mk (gt v43.1.Faces x_124).e0 (gt v43.1.Faces x_124).e1) (wrapF .i64 ((getM 0 e_122 (A2.mk (gt v43.1.Faces x_124).e0 (gt v43.1.Faces x_124).e1)) + 1))).map (mpK A2_i64.K (iA .i64))), .own [aI64 (gt v43.1.Faces x_124).e0, aI64 (gt v43.1.Faces x_124).e1, aI64 (gt v43.1.Faces x_124).e2]] (.cT (by kernel_rfl) (.seq (.ru G (.ret (unF.ret ?_)))))
              obtain rfl := oi hr
              exact ⟨rfl, FinQ.ret (vs := [aB false]) (by kernel_rfl) (Sn.pure rfl)⟩
             ·replace hr := cd_f hb177 hr
              rcases bT (decide ((gt v43.1.Faces x_124).e1 ≥ (v43.1.Vertices.length : Int))) with hb178 | hb178
              ·replace hr := cd_t hb178 hr
               refine .regionT G callOf_nil (.mu 3 (.pure (v := aB false) (by kernel_rfl) (eB hb177) (by kernel_rfl) (.mu 7 (.pure (v := aB true) (by kernel_rfl) (eB hb178) (by kernel_rfl) (.mu 12 ?_)))))
               refine .done ⟨by kernel_rfl, ?_⟩
               refine .nh [11, 13, 16, 17, 19, 20, 96, 97, 98, 102, 128] [.own (api_Mesh.c v43.1), .own (api_Rat.c v45.1), .map ((putM e_122 (A2.mk (gt v43.1.Faces x_124).e0 (gt v43.1.Faces x_124).e1) (wrapF .i64 ((getM 0 e_122 (A2.mk (gt v43.1.Faces x_124).e0 (gt v43.1.Faces x_124).e1)) + 1))).map (mpK A2_i64.K (iA .i64))), .own [aI64 (gt v43.1.Faces x_124).e0, aI64 (gt v43.1.Faces x_124).e1, aI64 (gt v43.1.Faces x_124).e2]] (.cT (by kernel_rfl) (.seq (.ru G (.ret (unF.ret ?_)))))
               obtain rfl := oi hr
               exact ⟨rfl, FinQ.ret (vs := [aB false]) (by kernel_rfl) (Sn.pure rfl)⟩
              ·replace hr := cd_f hb178 hr
               refine .regionT G callOf_nil (.mu 3 (.pure (v := aB false) (by kernel_rfl) (eB hb177) (by kernel_rfl) (.mu 7 (.pure (v := aB false) (by kernel_rfl) (eB hb178) (by kernel_rfl) (.mu 12 ?_)))))
               refine .done ⟨by kernel_rfl, ?_⟩
               refine .nh [11, 13, 16, 17, 19, 20, 96, 97, 98, 102, 128] [.own (api_Mesh.c v43.1), .own (api_Rat.c v45.1), .map ((putM e_122 (A2.mk (gt v43.1.Faces x_124).e0 (gt v43.1.Faces x_124).e1) (wrapF .i64 ((getM 0 e_122 (A2.mk (gt v43.1.Faces x_124).e0 (gt v43.1.Faces x_124).e1)) + 1))).map (mpK A2_i64.K (iA .i64))), .own [aI64 (gt v43.1.Faces x_124).e0, aI64 (gt v43.1.Faces x_124).e1, aI64 (gt v43.1.Faces x_124).e2]] ?_
               refine .cd hr ?_ ?_ <;> intro hb180 hr
               ·refine .seq (.ru G (.ret (unF.ret ?_)))
                obtain rfl := oi hr
                exact ⟨rfl, FinQ.ret (vs := [aB false]) (by kernel_rfl) (Sn.pure rfl)⟩
               ·refine .skip (.regionT G callOf_nil (.mu 10 (.pure (v := aI64 (getM 0 (putM e_122 (A2.mk (gt v43.1.Faces x_124).e0 (gt v43.1.Faces x_124).e1) (wrapF .i64 ((getM 0 e_122 (A2.mk (gt v43.1.Faces x_124).e0 (gt v43.1.Faces x_124).e1)) + 1))) (A2.mk (gt v43.1.Faces x_124).e1 (gt v43.1.Faces x_124).e2))) (by kernel_rfl) (Eq.trans (b := ORes.ofP (lookupA Tryz.prog [.own (api_Mesh.c v43.1), .own (api_Rat.c v45.1), .map ((putM e_122 (A2.mk (gt v43.1.Faces x_124).e0 (gt v43.1.Faces x_124).e1) (wrapF .i64 ((getM 0 e_122 (A2.mk (gt v43.1.Faces x_124).e0 (gt v43.1.Faces x_124).e1)) + 1))).map (mpK A2_i64.K (iA .i64))), .own [aI64 (gt v43.1.Faces x_124).e0, aI64 (gt v43.1.Faces x_124).e1, aI64 (gt v43.1.Faces x_124).e2]] 76 (.mp 2) (.agg [aI64 (gt v43.1.Faces x_124).e1, aI64 (gt v43.1.Faces x_124).e2]) false)) (by kernel_rfl) (look_k (kt := 77) (e := 3) (l := putM e_122 (A2.mk (gt v43.1.Faces x_124).e0 (gt v43.1.Faces x_124).e1) (wrapF .i64 ((getM 0 e_122 (A2.mk (gt v43.1.Faces x_124).e0 (gt v43.1.Faces x_124).e1)) + 1))) (f := (iA .i64)) (z := 0) (K := A2_i64.K) (x := A2.mk (gt v43.1.Faces x_124).e1 (gt v43.1.Faces x_124).e2) A2_i64.key (by kernel_rfl) (by kernel_rfl) (by kernel_rfl) (by kernel_rfl) (by kernel_rfl))) (by kernel_rfl) (.mu 1 (.eff (v := .tup [aI64 (getM 0 (putM e_122 (A2.mk (gt v43.1.Faces x_124).e0 (gt v43.1.Faces x_124).e1) (wrapF .i64 ((getM 0 e_122 (A2.mk (gt v43.1.Faces x_124).e0 (gt v43.1.Faces x_124).e1)) + 1))) (A2.mk (gt v43.1.Faces x_124).e1 (gt v43.1.Faces x_124).e2)), aI64 ((posM (putM e_122 (A2.mk (gt v43.1.Faces x_124).e0 (gt v43.1.Faces x_124).e1) (wrapF .i64 ((getM 0 e_122 (A2.mk (gt v43.1.Faces x_124).e0 (gt v43.1.Faces x_124).e1)) + 1))) (A2.mk (gt v43.1.Faces x_124).e1 (gt v43.1.Faces x_124).e2) : Nat) : Int)]) (ws := [(2, .map ((putM (putM e_122 (A2.mk (gt v43.1.Faces x_124).e0 (gt v43.1.Faces x_124).e1) (wrapF .i64 ((getM 0 e_122 (A2.mk (gt v43.1.Faces x_124).e0 (gt v43.1.Faces x_124).e1)) + 1))) (A2.mk (gt v43.1.Faces x_124).e1 (gt v43.1.Faces x_124).e2) (getM 0 (putM e_122 (A2.mk (gt v43.1.Faces x_124).e0 (gt v43.1.Faces x_124).e1) (wrapF .i64 ((getM 0 e_122 (A2.mk (gt v43.1.Faces x_124).e0 (gt v43.1.Faces x_124).e1)) + 1))) (A2.mk (gt v43.1.Faces x_124).e1 (gt v43.1.Faces x_124).e2))).map (mpK A2_i64.K (iA .i64))))]) (by kernel_rfl) (Eq.trans (b := opEntry Tryz.prog [.own (api_Mesh.c v43.1), .own (api_Rat.c v45.1), .map ((putM e_122 (A2.mk (gt v43.1.Faces x_124).e0 (gt v43.1.Faces x_124).e1) (wrapF .i64 ((getM 0 e_122 (A2.mk (gt v43.1.Faces x_124).e0 (gt v43.1.Faces x_124).e1)) + 1))).map (mpK A2_i64.K (iA .i64))), .own [aI64 (gt v43.1.Faces x_124).e0, aI64 (gt v43.1.Faces x_124).e1, aI64 (gt v43.1.Faces x_124).e2]] 76 (.mp 2) (.agg [aI64 (gt v43.1.Faces x_124).e1, aI64 (gt v43.1.Faces x_124).e2])) (by kernel_rfl) (ent_k (kt := 77) (e := 3) (l := putM e_122 (A2.mk (gt v43.1.Faces x_124).e0 (gt v43.1.Faces x_124).e1) (wrapF .i64 ((getM 0 e_122 (A2.mk (gt v43.1.Faces x_124).e0 (gt v43.1.Faces x_124).e1)) + 1))) (f := (iA .i64)) (z := 0) (K := A2_i64.K) (x := A2.mk (gt v43.1.Faces x_124).e1 (gt v43.1.Faces x_124).e2) A2_i64.key (by kernel_rfl) (by kernel_rfl) (by kernel_rfl) (by kernel_rfl) (by kernel_rfl))) (by kernel_rfl) (.mu 1 ?_))))))
                refine .eff (v := .unk) (ws := [(2, .map ((putM (putM e_122 (A2.mk (gt v43.1.Faces x_124).e0 (gt v43.1.Faces x_124).e1) (wrapF .i64 ((getM 0 e_122 (A2.mk (gt v43.1.Faces x_124).e0 (gt v43.1.Faces x_124).e1)) + 1))) (A2.mk (gt v43.1.Faces x_124).e1 (gt v43.1.Faces x_124).e2) (wrapF .i64 ((getM 0 (putM e_122 (A2.mk (gt v43.1.Faces x_124).e0 (gt v43.1.Faces x_124).e1) (wrapF .i64 ((getM 0 e_122 (A2.mk (gt v43.1.Faces x_124).e0 (gt v43.1.Faces x_124).e1)) + 1))) (A2.mk (gt v43.1.Faces x_124).e1 (gt v43.1.Faces x_124).e2)) + 1))).map (mpK A2_i64.K (iA .i64))))]) (by kernel_rfl) (Eq.trans (b := opEntryStore [.own (api_Mesh.c v43.1), .own (api_Rat.c v45.1), .map ((putM (putM e_122 (A2.mk (gt v43.1.Faces x_124).e0 (gt v43.1.Faces x_124).e1) (wrapF .i64 ((getM 0 e_122 (A2.mk (gt v43.1.Faces x_124).e0 (gt v43.1.Faces x_124).e1)) + 1))) (A2.mk (gt v43.1.Faces x_124).e1 (gt v43.1.Faces x_124).e2) (getM 0 (putM e_122 (A2.mk (gt v43.1.Faces x_124).e0 (gt v43.1.Faces x_124).e1) (wrapF .i64 ((getM 0 e_122 (A2.mk (gt v43.1.Faces x_124).e0 (gt v43.1.Faces x_124).e1)) + 1))) (A2.mk (gt v43.1.Faces x_124).e1 (gt v43.1.Faces x_124).e2))).map (mpK A2_i64.K (iA .i64))), .own [aI64 (gt v43.1.Faces x_124).e0, aI64 (gt v43.1.Faces x_124).e1, aI64 (gt v43.1.Faces x_124).e2]] (.mp 2) (aI64 ((posM (putM e_122 (A2.mk (gt v43.1.Faces x_124).e0 (gt v43.1.Faces x_124).e1) (wrapF .i64 ((getM 0 e_122 (A2.mk (gt v43.1.Faces x_124).e0 (gt v43.1.Faces x_124).e1)) + 1))) (A2.mk (gt v43.1.Faces x_124).e1 (gt v43.1.Faces x_124).e2) : Nat) : Int)) (aI64 (wrapF .i64 ((getM 0 (putM e_122 (A2.mk (gt v43.1.Faces x_124).e0 (gt v43.1.Faces x_124).e1) (wrapF .i64 ((getM 0 e_122 (A2.mk (gt v43.1.Faces x_124).e0 (gt v43.1.Faces x_124).e1)) + 1))) (A2.mk (gt v43.1.Faces x_124).e1 (gt v43.1.Faces x_124).e2)) + 1)))) (by kernel_rfl) (est_k (K := A2_i64.K) (l := putM e_122 (A2.mk (gt v43.1.Faces x_124).e0 (gt v43.1.Faces x_124).e1) (wrapF .i64 ((getM 0 e_122 (A2.mk (gt v43.1.Faces x_124).e0 (gt v43.1.Faces x_124).e1)) + 1))) (f := (iA .i64)) (x := A2.mk (gt v43.1.Faces x_124).e1 (gt v43.1.Faces x_124).e2) (v := wrapF .i64 ((getM 0 (putM e_122 (A2.mk (gt v43.1.Faces x_124).e0 (gt v43.1.Faces x_124).e1) (wrapF .i64 ((getM 0 e_122 (A2.mk (gt v43.1.Faces x_124).e0 (gt v43.1.Faces x_124).e1)) + 1))) (A2.mk (gt v43.1.Faces x_124).e1 (gt v43.1.Faces x_124).e2)) + 1)) (z := 0) (by kernel_rfl))) (by kernel_rfl) ?_
                refine .done ⟨by kernel_rfl, ?_⟩
                refine .pop (.ru G (UNR.next (.n2 240 [(11, .hp 0 0), (13, .hp 1 0), (16, .mp 2), (17, aI64 s_123), (19, .hp 3 0), (96, slT A3_3_int.c v43.1.Faces), (97, aI64 (v43.1.Faces.length : Int)), (98, aI64 x_124), (102, aI64 2)] [.own (api_Mesh.c v43.1), .own (api_Rat.c v45.1), .map ((putM (putM e_122 (A2.mk (gt v43.1.Faces x_124).e0 (gt v43.1.Faces x_124).e1) (wrapF .i64 ((getM 0 e_122 (A2.mk (gt v43.1.Faces x_124).e0 (gt v43.1.Faces x_124).e1)) + 1))) (A2.mk (gt v43.1.Faces x_124).e1 (gt v43.1.Faces x_124).e2) (wrapF .i64 ((getM 0 (putM e_122 (A2.mk (gt v43.1.Faces x_124).e0 (gt v43.1.Faces x_124).e1) (wrapF .i64 ((getM 0 e_122 (A2.mk (gt v43.1.Faces x_124).e0 (gt v43.1.Faces x_124).e1)) + 1))) (A2.mk (gt v43.1.Faces x_124).e1 (gt v43.1.Faces x_124).e2)) + 1))).map (mpK A2_i64.K (iA .i64))), .own [aI64 (gt v43.1.Faces x_124).e0, aI64 (gt v43.1.Faces x_124).e1, aI64 (gt v43.1.Faces x_124).e2]] (.seq (.r4 G [11, 13, 16, 17, 19, 96, 97, 98, 102] [(103, aB true)] (.seq (.cT (by kernel_rfl) (.skip (.seq (.block (.seq (.r4 G [11, 13, 16, 17, 19, 96, 97, 98, 102] [(20, aI64 2)] (.seq (.seq ?_))))))))))))))
                rcases bT (decide ((gt v43.1.Faces x_124).e2 < 0)) with hb181 | hb181
                ·replace hr := cd_t hb181 hr
                 refine .regionT G callOf_nil (.mu 3 (.pure (v := aB true) (by kernel_rfl) (eB hb181) (by kernel_rfl) (.mu 20 ?_)))
                 refine .done ⟨by kernel_rfl, ?_⟩
                 refine .nh [11, 13, 16, 17, 19, 20, 96, 97, 98, 102, 128] [.own (api_Mesh.c v43.1), .own (api_Rat.c v45.1), .map ((putM (putM e_122 (A2.mk (gt v43.1.Faces x_124).e0 (gt v43.1.Faces x_124).e1) (wrapF .i64 ((getM 0 e_122 (A2.mk (gt v43.1.Faces x_124).e0 (gt v43.1.Faces x_124).e1)) + 1))) (A2.mk (gt v43.1.Faces x_124).e1 (gt v43.1.Faces x_124).e2) (wrapF .i64 ((getM 0 (putM e_122 (A2.mk (gt v43.1.Faces x_124).e0 (gt v43.1.Faces x_124).e1) (wrapF .i64 ((getM 0 e_122 (A2.mk (gt v43.1.Faces x_124).e0 (gt v43.1.Faces x_124).e1)) + 1))) (A2.mk (gt v43.1.Faces x_124).e1 (gt v43.1.Faces x_124).e2)) + 1))).map (mpK A2_i64.K (iA .i64))), .own [aI64 (gt v43.1.Faces x_124).e0, aI64 (gt v43.1.Faces x_124).e1, aI64 (gt v43.1.Faces x_124).e2]] (.cT (by kernel_rfl) (.seq (.ru G (.ret (unF.ret ?_)))))
                 obtain rfl := oi hr
                 exact ⟨rfl, FinQ.ret (vs := [aB false]) (by kernel_rfl) (Sn.pure rfl)⟩
                ·replace hr := cd_f hb181 hr
                 rcases bT (decide ((gt v43.1.Faces x_124).e2 ≥ (v43.1.Vertices.length : Int))) with hb182 | hb182
                 ·replace hr := cd_t hb182 hr
                  refine .regionT G callOf_nil (.mu 3 (.pure (v := aB false) (by kernel_rfl) (eB hb181) (by kernel_rfl) (.mu 7 (.pure (v := aB true) (by kernel_rfl) (eB hb182) (by kernel_rfl) (.mu 12 ?_)))))
                  refine .done ⟨by kernel_rfl, ?_⟩
                  refine .nh [11, 13, 16, 17, 19, 20, 96, 97, 98, 102, 128] [.own (api_Mesh.c v43.1), .own (api_Rat.c v45.1), .map ((putM (putM e_122 (A2.mk (gt v43.1.Faces x_124).e0 (gt v43.1.Faces x_124).e1) (wrapF .i64 ((getM 0 e_122 (A2.mk (gt v43.1.Faces x_124).e0 (gt v43.1.Faces x_124).e1)) + 1))) (A2.mk (gt v43.1.Faces x_124).e1 (gt v43.1.Faces x_124).e2) (wrapF .i64 ((getM 0 (putM e_122 (A2.mk (gt v43.1.Faces x_124).e0 (gt v43.1.Faces x_124).e1) (wrapF .i64 ((getM 0 e_122 (A2.mk (gt v43.1.Faces x_124).e0 (gt v43.1.Faces x_124).e1)) + 1))) (A2.mk (gt v43.1.Faces x_124).e1 (gt v43.1.Faces x_124).e2)) + 1))).map (mpK A2_i64.K (iA .i64))), .own [aI64 (gt v43.1.Faces x_124).e0, aI64 (gt v43.1.Faces x_124).e1, aI64 (gt v43.1.Faces x_124).e2]] (.cT (by kernel_rfl) (.seq (.ru G (.ret (unF.ret ?_)))))
                  obtain rfl := oi hr
                  exact ⟨rfl, FinQ.ret (vs := [aB false]) (by kernel_rfl) (Sn.pure rfl)⟩
                 ·replace hr := cd_f hb182 hr
                  refine .regionT G callOf_nil (.mu 3 (.pure (v := aB false) (by kernel_rfl) (eB hb181) (by kernel_rfl) (.mu 7 (.pure (v := aB false) (by kernel_rfl) (eB hb182) (by kernel_rfl) (.mu 12 ?_)))))
                  refine .done ⟨by kernel_rfl, ?_⟩
                  refine .nh [11, 13, 16, 17, 19, 20, 96, 97, 98, 102, 128] [.own (api_Mesh.c v43.1), .own (api_Rat.c v45.1), .map ((putM (putM e_122 (A2.mk (gt v43.1.Faces x_124).e0 (gt v43.1.Faces x_124).e1) (wrapF .i64 ((getM 0 e_122 (A2.mk (gt v43.1.Faces x_124).e0 (gt v43.1.Faces x_124).e1)) + 1))) (A2.mk (gt v43.1.Faces x_124).e1 (gt v43.1.Faces x_124).e2) (wrapF .i64 ((getM 0 (putM e_122 (A2.mk (gt v43.1.Faces x_124).e0 (gt v43.1.Faces x_124).e1) (wrapF .i64 ((getM 0 e_122 (A2.mk (gt v43.1.Faces x_124).e0 (gt v43.1.Faces x_124).e1)) + 1))) (A2.mk (gt v43.1.Faces x_124).e1 (gt v43.1.Faces x_124).e2)) + 1))).map (mpK A2_i64.K (iA .i64))), .own [aI64 (gt v43.1.Faces x_124).e0, aI64 (gt v43.1.Faces x_124).e1, aI64 (gt v43.1.Faces x_124).e2]] ?_
                  refine .cd hr ?_ ?_ <;> intro hb184 hr
                  ·refine .seq (.ru G (.ret (unF.ret ?_)))
                   obtain rfl := oi hr
                   exact ⟨rfl, FinQ.ret (vs := [aB false]) (by kernel_rfl) (Sn.pure rfl)⟩
                  ·refine .skip (.regionT G callOf_nil (.mu 10 (.pure (v := aI64 (getM 0 (putM (putM e_122 (A2.mk (gt v43.1.Faces x_124).e0 (gt v43.1.Faces x_124).e1) (wrapF .i64 ((getM 0 e_122 (A2.mk (gt v43.1.Faces x_124).e0 (gt v43.1.Faces x_124).e1)) + 1))) (A2.mk (gt v43.1.Faces x_124).e1 (gt v43.1.Faces x_124).e2) (wrapF .i64 ((getM 0 (putM e_122 (A2.mk (gt v43.1.Faces x_124).e0 (gt v43.1.Faces x_124).e1) (wrapF .i64 ((getM 0 e_122 (A2.mk (gt v43.1.Faces x_124).e0 (gt v43.1.Faces x_124).e1)) + 1))) (A2.mk (gt v43.1.Faces x_124).e1 (gt v43.1.Faces x_124).e2)) + 1))) (A2.mk (gt v43.1.Faces x_124).e2 (gt v43.1.Faces x_124).e0))) (by kernel_rfl) (Eq.trans (b := ORes.ofP (lookupA Tryz.prog [.own (api_Mesh.c v43.1), .own (api_Rat.c v45.1), .map ((putM (putM e_122 (A2.mk (gt v43.1.Faces x_124).e0 (gt v43.1.Faces x_124).e1) (wrapF .i64 ((getM 0 e_122 (A2.mk (gt v43.1.Faces x_124).e0 (gt v43.1.Faces x_124).e1)) + 1))) (A2.mk (gt v43.1.Faces x_124).e1 (gt v43.1.Faces x_124).e2) (wrapF .i64 ((getM 0 (putM e_122 (A2.mk (gt v43.1.Faces x_124).e0 (gt v43.1.Faces x_124).e1) (wrapF .i64 ((getM 0 e_122 (A2.mk (gt v43.1.Faces x_124).e0 (gt v43.1.Faces x_124).e1)) + 1))) (A2.mk (gt v43.1.Faces x_124).e1 (gt v43.1.Faces x_124).e2)) + 1))).map (mpK A2_i64.K (iA .i64))), .own [aI64 (gt v43.1.Faces x_124).e0, aI64 (gt v43.1.Faces x_124).e1, aI64 (gt v43.1.Faces x_124).e2]] 76 (.mp 2) (.agg [aI64 (gt v43.1.Faces x_124).e2, aI64 (gt v43.1.Faces x_124).e0]) false)) (by kernel_rfl) (look_k (kt := 77) (e := 3) (l := putM (putM e_122 (A2.mk (gt v43.1.Faces x_124).e0 (gt v43.1.Faces x_124).e1) (wrapF .i64 ((getM 0 e_122 (A2.mk (gt v43.1.Faces x_124).e0 (gt v43.1.Faces x_124).e1)) + 1))) (A2.mk (gt v43.1.Faces x_124).e1 (gt v43.1.Faces x_124).e2) (wrapF .i64 ((getM 0 (putM e_122 (A2.mk (gt v43.1.Faces x_124).e0 (gt v43.1.Faces x_124).e1) (wrapF .i64 ((getM 0 e_122 (A2.mk (gt v43.1.Faces x_124).e0 (gt v43.1.Faces x_124).e1)) + 1))) (A2.mk (gt v43.1.Faces x_124).e1 (gt v43.1.Faces x_124).e2)) + 1))) (f := (iA .i64)) (z := 0) (K := A2_i64.K) (x := A2.mk (gt v43.1.Faces x_124).e2 (gt v43.1.Faces x_124).e0) A2_i64.key (by kernel_rfl) (by kernel_rfl) (by kernel_rfl) (by kernel_rfl) (by kernel_rfl))) (by kernel_rfl) (.mu 1 ?_))))
                   refine .eff (v := .tup [aI64 (getM 0 (putM (putM e_122 (A2.mk (gt v43.1.Faces x_124).e0 (gt v43.1.Faces x_124).e1) (wrapF .i64 ((getM 0 e_122 (A2.mk (gt v43.1.Faces x_124).e0 (gt v43.1.Faces x_124).e1)) + 1))) (A2.mk (gt v43.1.Faces x_124).e1 (gt v43.1.Faces x_124).e2) (wrapF .i64 ((getM 0 (putM e_122 (A2.mk (gt v43.1.Faces x_124).e0 (gt v43.1.Faces x_124).e1) (wrapF .i64 ((getM 0 e_122 (A2.mk (gt v43.1.Faces x_124).e0 (gt v43.1.Faces x_124).e1)) + 1))) (A2.mk (gt v43.1.Faces x_124).e1 (gt v43.1.Faces x_124).e2)) + 1))) (A2.mk (gt v43.1.Faces x_124).e2 (gt v43.1.Faces x_124).e0)), aI64 ((posM (putM (putM e_122 (A2.mk (gt v43.1.Faces x_124).e0 (gt v43.1.Faces x_124).e1) (wrapF .i64 ((getM 0 e_122 (A2.mk (gt v43.1.Faces x_124).e0 (gt v43.1.Faces x_124).e1)) + 1))) (A2.mk (gt v43.1.Faces x_124).e1 (gt v43.1.Faces x_124).e2) (wrapF .i64 ((getM 0 (putM e_122 (A2.mk (gt v43.1.Faces x_124).e0 (gt v43.1.Faces x_124).e1) (wrapF .i64 ((getM 0 e_122 (A2.mk (gt v43.1.Faces x_124).e0 (gt v43.1.Faces x_124).e1)) + 1))) (A2.mk (gt v43.1.Faces x_124).e1 (gt v43.1.Faces x_124).e2)) + 1))) (A2.mk (gt v43.1.Faces x_124).e2 (gt v43.1.Faces x_124).e0) : Nat) : Int)]) (ws := [(2, .map ((putM (putM (putM e_122 (A2.mk (gt v43.1.Faces x_124).e0 (gt v43.1.Faces x_124).e1) (wrapF .i64 ((getM 0 e_122 (A2.mk (gt v43.1.Faces x_124).e0 (gt v43.1.Faces x_124).e1)) + 1))) (A2.mk (gt v43.1.Faces x_124).e1 (gt v43.1.Faces x_124).e2) (wrapF .i64 ((getM 0 (putM e_122 (A2.mk (gt v43.1.Faces x_124).e0 (gt v43.1.Faces x_124).e1) (wrapF .i64 ((getM 0 e_122 (A2.mk (gt v43.1.Faces x_124).e0 (gt v43.1.Faces x_124).e1)) + 1))) (A2.mk (gt v43.1.Faces x_124).e1 (gt v43.1.Faces x_124).e2)) + 1))) (A2.mk (gt v43.1.Faces x_124).e2 (gt v43.1.Faces x_124).e0) (getM 0 (putM (putM e_122 (A2.mk (gt v43.1.Faces x_124).e0 (gt v43.1.Faces x_124).e1) (wrapF .i64 ((getM 0 e_122 (A2.mk (gt v43.1.Faces x_124).e0 (gt v43.1.Faces x_124).e1)) + 1))) (A2.mk (gt v43.1.Faces x_124).e1 (gt v43.1.Faces x_124).e2) (wrapF .i64 ((getM 0 (putM e_122 (A2.mk (gt v43.1.Faces x_124).e0 (gt v43.1.Faces x_124).e1) (wrapF .i64 ((getM 0 e_122 (A2.mk (gt v43.1.Faces x_124).e0 (gt v43.1.Faces x_124).e1)) + 1))) (A2.mk (gt v43.1.Faces x_124).e1 (gt v43.1.Faces x_124).e2)) + 1))) (A2.mk (gt v43.1.Faces x_124).e2 (gt v43.1.Faces x_124).e0))).map (mpK A2_i64.K (iA .i64))))]) (by kernel_rfl) (Eq.trans (b := opEntry Tryz.prog [.own (api_Mesh.c v43.1), .own (api_Rat.c v45.1), .map ((putM (putM e_122 (A2.mk (gt v43.1.Faces x_124).e0 (gt v43.1.Faces x_124).e1) (wrapF .i64 ((getM 0 e_122 (A2.mk (gt v43.1.Faces x_124).e0 (gt v43.1.Faces x_124).e1)) + 1))) (A2.mk (gt v43.1.Faces x_124).e1 (gt v43.1.Faces x_124).e2) (wrapF .i64 ((getM 0 (putM e_122 (A2.mk (gt v43.1.Faces x_124).e0 (gt v43.1.Faces x_124).e1) (wrapF .i64 ((getM 0 e_122 (A2.mk (gt v43.1.Faces x_124).e0 (gt v43.1.Faces x_124).e1)) + 1))) (A2.mk (gt v43.1.Faces x_124).e1 (gt v43.1.Faces x_124).e2)) + 1))).map (mpK A2_i64.K (iA .i64))), .own [aI64 (gt v43.1.Faces x_124).e0, aI64 (gt v43.1.Faces x_124).e1, aI64 (gt v43.1.Faces x_124).e2]] 76 (.mp 2) (.agg [aI64 (gt v43.1.Faces x_124).e2, aI64 (gt v43.1.Faces x_124).e0])) (by kernel_rfl) (ent_k (kt := 77) (e := 3) (l := putM (putM e_122 (A2.mk (gt v43.1.Faces x_124).e0 (gt v43.1.Faces x_124).e1) (wrapF .i64 ((getM 0 e_122 (A2.mk (gt v43.1.Faces x_124).e0 (gt v43.1.Faces x_124).e1)) + 1))) (A2.mk (gt v43.1.Faces x_124).e1 (gt v43.1.Faces x_124).e2) (wrapF .i64 ((getM 0 (putM e_122 (A2.mk (gt v43.1.Faces x_124).e0 (gt v43.1.Faces x_124).e1) (wrapF .i64 ((getM 0 e_122 (A2.mk (gt v43.1.Faces x_124).e0 (gt v43.1.Faces x_124).e1)) + 1))) (A2.mk (gt v43.1.Faces x_124).e1 (gt v43.1.Faces x_124).e2)) + 1))) (f := (iA .i64)) (z := 0) (K := A2_i64.K) (x := A2.mk (gt v43.1.Faces x_124).e2 (gt v43.1.Faces x_124).e0) A2_i64.key (by kernel_rfl) (by kernel_rfl) (by kernel_rfl) (by kernel_rfl) (by kernel_rfl))) (by kernel_rfl) ?_
                   refine .mu 1 ?_
                   refine .eff (v := .unk) (ws := [(2, .map ((putM (putM (putM e_122 (A2.mk (gt v43.1.Faces x_124).e0 (gt v43.1.Faces x_124).e1) (wrapF .i64 ((getM 0 e_122 (A2.mk (gt v43.1.Faces x_124).e0 (gt v43.1.Faces x_124).e1)) + 1))) (A2.mk (gt v43.1.Faces x_124).e1 (gt v43.1.Faces x_124).e2) (wrapF .i64 ((getM 0 (putM e_122 (A2.mk (gt v43.1.Faces x_124).e0 (gt v43.1.Faces x_124).e1) (wrapF .i64 ((getM 0 e_122 (A2.mk (gt v43.1.Faces x_124).e0 (gt v43.1.Faces x_124).e1)) + 1))) (A2.mk (gt v43.1.Faces x_124).e1 (gt v43.1.Faces x_124).e2)) + 1))) (A2.mk (gt v43.1.Faces x_124).e2 (gt v43.1.Faces x_124).e0) (wrapF .i64 ((getM 0 (putM (putM e_122 (A2.mk (gt v43.1.Faces x_124).e0 (gt v43.1.Faces x_124).e1) (wrapF .i64 ((getM 0 e_122 (A2.mk (gt v43.1.Faces x_124).e0 (gt v43.1.Faces x_124).e1)) + 1))) (A2.mk (gt v43.1.Faces x_124).e1 (gt v43.1.Faces x_124).e2) (wrapF .i64 ((getM 0 (putM e_122 (A2.mk (gt v43.1.Faces x_124).e0 (gt v43.1.Faces x_124).e1) (wrapF .i64 ((getM 0 e_122 (A2.mk (gt v43.1.Faces x_124).e0 (gt v43.1.Faces x_124).e1)) + 1))) (A2.mk (gt v43.1.Faces x_124).e1 (gt v43.1.Faces x_124).e2)) + 1))) (A2.mk (gt v43.1.Faces x_124).e2 (gt v43.1.Faces x_124).e0)) + 1))).map (mpK A2_i64.K (iA .i64))))]) (by kernel_rfl) (Eq.trans (b := opEntryStore [.own (api_Mesh.c v43.1), .own (api_Rat.c v45.1), .map ((putM (putM (putM e_122 (A2.mk (gt v43.1.Faces x_124).e0 (gt v43.1.Faces x_124).e1) (wrapF .i64 ((getM 0 e_122 (A2.mk (gt v43.1.Faces x_124).e0 (gt v43.1.Faces x_124).e1)) + 1))) (A2.mk (gt v43.1.Faces x_124).e1 (gt v43.1.Faces x_124).e2) (wrapF .i64 ((getM 0 (putM e_122 (A2.mk (gt v43.1.Faces x_124).e0 (gt v43.1.Faces x_124).e1) (wrapF .i64 ((getM 0 e_122 (A2.mk (gt v43.1.Faces x_124).e0 (gt v43.1.Faces x_124).e1)) + 1))) (A2.mk (gt v43.1.Faces x_124).e1 (gt v43.1.Faces x_124).e2)) + 1))) (A2.mk (gt v43.1.Faces x_124).e2 (gt v43.1.Faces x_124).e0) (getM 0 (putM (putM e_122 (A2.mk (gt v43.1.Faces x_124).e0 (gt v43.1.Faces x_124).e1) (wrapF .i64 ((getM 0 e_122 (A2.mk (gt v43.1.Faces x_124).e0 (gt v43.1.Faces x_124).e1)) + 1))) (A2.mk (gt v43.1.Faces x_124).e1 (gt v43.1.Faces x_124).e2) (wrapF .i64 ((getM 0 (putM e_122 (A2.mk (gt v43.1.Faces x_124).e0 (gt v43.1.Faces x_124).e1) (wrapF .i64 ((getM 0 e_122 (A2.mk (gt v43.1.Faces x_124).e0 (gt v43.1.Faces x_124).e1)) + 1))) (A2.mk (gt v43.1.Faces x_124).e1 (gt v43.1.Faces x_124).e2)) + 1))) (A2.mk (gt v43.1.Faces x_124).e2 (gt v43.1.Faces x_124).e0))).map (mpK A2_i64.K (iA .i64))), .own [aI64 (gt v43.1.Faces x_124).e0, aI64 (gt v43.1.Faces x_124).e1, aI64 (gt v43.1.Faces x_124).e2]] (.mp 2) (aI64 ((posM (putM (putM e_122 (A2.mk (gt v43.1.Faces x_124).e0 (gt v43.1.Faces x_124).e1) (wrapF .i64 ((getM 0 e_122 (A2.mk (gt v43.1.Faces x_124).e0 (gt v43.1.Faces x_124).e1)) + 1))) (A2.mk (gt v43.1.Faces x_124).e1 (gt v43.1.Faces x_124).e2) (wrapF .i64 ((getM 0 (putM e_122 (A2.mk (gt v43.1.Faces x_124).e0 (gt v43.1.Faces x_124).e1) (wrapF .i64 ((getM 0 e_122 (A2.mk (gt v43.1.Faces x_124).e0 (gt v43.1.Faces x_124).e1)) + 1))) (A2.mk (gt v43.1.Faces x_124).e1 (gt v43.1.Faces x_124).e2)) + 1))) (A2.mk (gt v43.1.Faces x_124).e2 (gt v43.1.Faces x_124).e0) : Nat) : Int)) (aI64 (wrapF .i64 ((getM 0 (putM (putM e_122 (A2.mk (gt v43.1.Faces x_124).e0 (gt v43.1.Faces x_124).e1) (wrapF .i64 ((getM 0 e_122 (A2.mk (gt v43.1.Faces x_124).e0 (gt v43.1.Faces x_124).e1)) + 1))) (A2.mk (gt v43.1.Faces x_124).e1 (gt v43.1.Faces x_124).e2) (wrapF .i64 ((getM 0 (putM e_122 (A2.mk (gt v43.1.Faces x_124).e0 (gt v43.1.Faces x_124).e1) (wrapF .i64 ((getM 0 e_122 (A2.mk (gt v43.1.Faces x_124).e0 (gt v43.1.Faces x_124).e1)) + 1))) (A2.mk (gt v43.1.Faces x_124).e1 (gt v43.1.Faces x_124).e2)) + 1))) (A2.mk (gt v43.1.Faces x_124).e2 (gt v43.1.Faces x_124).e0)) + 1)))) (by kernel_rfl) (est_k (K := A2_i64.K) (l := putM (putM e_122 (A2.mk (gt v43.1.Faces x_124).e0 (gt v43.1.Faces x_124).e1) (wrapF .i64 ((getM 0 e_122 (A2.mk (gt v43.1.Faces x_124).e0 (gt v43.1.Faces x_124).e1)) + 1))) (A2.mk (gt v43.1.Faces x_124).e1 (gt v43.1.Faces x_124).e2) (wrapF .i64 ((getM 0 (putM e_122 (A2.mk (gt v43.1.Faces x_124).e0 (gt v43.1.Faces x_124).e1) (wrapF .i64 ((getM 0 e_122 (A2.mk (gt v43.1.Faces x_124).e0 (gt v43.1.Faces x_124).e1)) + 1))) (A2.mk (gt v43.1.Faces x_124).e1 (gt v43.1.Faces x_124).e2)) + 1))) (f := (iA .i64)) (x := A2.mk (gt v43.1.Faces x_124).e2 (gt v43.1.Faces x_124).e0) (v := wrapF .i64 ((getM 0 (putM (putM e_122 (A2.mk (gt v43.1.Faces x_124).e0 (gt v43.1.Faces x_124).e1) (wrapF .i64 ((getM 0 e_122 (A2.mk (gt v43.1.Faces x_124).e0 (gt v43.1.Faces x_124).e1)) + 1))) (A2.mk (gt v43.1.Faces x_124).e1 (gt v43.1.Faces x_124).e2) (wrapF .i64 ((getM 0 (putM e_122 (A2.mk (gt v43.1.Faces x_124).e0 (gt v43.1.Faces x_124).e1) (wrapF .i64 ((getM 0 e_122 (A2.mk (gt v43.1.Faces x_124).e0 (gt v43.1.Faces x_124).e1)) + 1))) (A2.mk (gt v43.1.Faces x_124).e1 (gt v43.1.Faces x_124).e2)) + 1))) (A2.mk (gt v43.1.Faces x_124).e2 (gt v43.1.Faces x_124).e0)) + 1)) (z := 0) (by kernel_rfl))) (by kernel_rfl) ?_
                   refine .done ⟨by kernel_rfl, ?_⟩
                   refine .pop (.ru G (UNR.next (.n2 240 [(11, .hp 0 0), (13, .hp 1 0), (16, .mp 2), (17, aI64 s_123), (19, .hp 3 0), (96, slT A3_3_int.c v43.1.Faces), (97, aI64 (v43.1.Faces.length : Int)), (98, aI64 x_124), (102, aI64 3)] [.own (api_Mesh.c v43.1), .own (api_Rat.c v45.1), .map ((putM (putM (putM e_122 (A2.mk (gt v43.1.Faces x_124).e0 (gt v43.1.Faces x_124).e1) (wrapF .i64 ((getM 0 e_122 (A2.mk (gt v43.1.Faces x_124).e0 (gt v43.1.Faces x_124).e1)) + 1))) (A2.mk (gt v43.1.Faces x_124).e1 (gt v43.1.Faces x_124).e2) (wrapF .i64 ((getM 0 (putM e_122 (A2.mk (gt v43.1.Faces x_124).e0 (gt v43.1.Faces x_124).e1) (wrapF .i64 ((getM 0 e_122 (A2.mk (gt v43.1.Faces x_124).e0 (gt v43.1.Faces x_124).e1)) + 1))) (A2.mk (gt v43.1.Faces x_124).e1 (gt v43.1.Faces x_124).e2)) + 1))) (A2.mk (gt v43.1.Faces x_124).e2 (gt v43.1.Faces x_124).e0) (wrapF .i64 ((getM 0 (putM (putM e_122 (A2.mk (gt v43.1.Faces x_124).e0 (gt v43.1.Faces x_124).e1) (wrapF .i64 ((getM 0 e_122 (A2.mk (gt v43.1.Faces x_124).e0 (gt v43.1.Faces x_124).e1)) + 1))) (A2.mk (gt v43.1.Faces x_124).e1 (gt v43.1.Faces x_124).e2) (wrapF .i64 ((getM 0 (putM e_122 (A2.mk (gt v43.1.Faces x_124).e0 (gt v43.1.Faces x_124).e1) (wrapF .i64 ((getM 0 e_122 (A2.mk (gt v43.1.Faces x_124).e0 (gt v43.1.Faces x_124).e1)) + 1))) (A2.mk (gt v43.1.Faces x_124).e1 (gt v43.1.Faces x_124).e2)) + 1))) (A2.mk (gt v43.1.Faces x_124).e2 (gt v43.1.Faces x_124).e0)) + 1))).map (mpK A2_i64.K (iA .i64))), .own [aI64 (gt v43.1.Faces x_124).e0, aI64 (gt v43.1.Faces x_124).e1, aI64 (gt v43.1.Faces x_124).e2]] (.seq (.r4 G [11, 13, 16, 17, 19, 96, 97, 98, 102] [(103, aB false)] (.seq (.cF (by kernel_rfl) (.leave rfl (unF.exit rfl (.seq ?_))))))))))
                   obtain ⟨hg185, hg186, hg187, hr⟩ := gd3 hr
                   refine .regionT G callOf_nil (.mu 4 (.pure (v := .pp (v43.1.Vertices.flatMap api_Spot.c) ((gt v43.1.Faces x_124).e0.toNat * 3)) (by kernel_rfl) (tr (ofP_guard hg185)) (by kernel_rfl) (.pure (v := .agg (api_Spot.c (gt v43.1.Vertices (gt v43.1.Faces x_124).e0))) (by kernel_rfl) (Eq.trans (b := ORes.ofP (guardV (decide (3 ≤ ((v43.1.Vertices.flatMap api_Spot.c).drop ((gt v43.1.Faces x_124).e0.toNat * 3)).length)) (.agg (((v43.1.Vertices.flatMap api_Spot.c).drop ((gt v43.1.Faces x_124).e0.toNat * 3)).take 3)))) (by kernel_rfl) (flat_load api_Spot.len (inR_lt hg185) (by decide) (by omega : (gt v43.1.Faces x_124).e0.toNat * 3 = (gt v43.1.Faces x_124).e0.toNat * 3 + 0) (by kernel_rfl))) (by kernel_rfl) (.mu 4 (.pure (v := .pp (v43.1.Vertices.flatMap api_Spot.c) ((gt v43.1.Faces x_124).e1.toNat * 3)) (by kernel_rfl) (tr (ofP_guard hg186)) (by kernel_rfl) (.pure (v := .agg (api_Spot.c (gt v43.1.Vertices (gt v43.1.Faces x_124).e1))) (by kernel_rfl) (Eq.trans (b := ORes.ofP (guardV (decide (3 ≤ ((v43.1.Vertices.flatMap api_Spot.c).drop ((gt v43.1.Faces x_124).e1.toNat * 3)).length)) (.agg (((v43.1.Vertices.flatMap api_Spot.c).drop ((gt v43.1.Faces x_124).e1.toNat * 3)).take 3)))) (by kernel_rfl) (flat_load api_Spot.len (inR_lt hg186) (by decide) (by omega : (gt v43.1.Faces x_124).e1.toNat * 3 = (gt v43.1.Faces x_124).e1.toNat * 3 + 0) (by kernel_rfl))) (by kernel_rfl) (.mu 4 (.pure (v := .pp (v43.1.Vertices.flatMap api_Spot.c) ((gt v43.1.Faces x_124).e2.toNat * 3)) (by kernel_rfl) (tr (ofP_guard hg187)) (by kernel_rfl) (.pure (v := .agg (api_Spot.c (gt v43.1.Vertices (gt v43.1.Faces x_124).e2))) (by kernel_rfl) (Eq.trans (b := ORes.ofP (guardV (decide (3 ≤ ((v43.1.Vertices.flatMap api_Spot.c).drop ((gt v43.1.Faces x_124).e2.toNat * 3)).length)) (.agg (((v43.1.Vertices.flatMap api_Spot.c).drop ((gt v43.1.Faces x_124).e2.toNat * 3)).take 3)))) (by kernel_rfl) (flat_load api_Spot.len (inR_lt hg187) (by decide) (by omega : (gt v43.1.Faces x_124).e2.toNat * 3 = (gt v43.1.Faces x_124).e2.toNat * 3 + 0) (by kernel_rfl))) (by kernel_rfl) (.mu 6 ?_))))))))))
                   refine .done ⟨by kernel_rfl, ?_⟩
                   refine .nh [11, 13, 16, 17, 21, 22, 23, 96, 97, 98] [.own (api_Mesh.c v43.1), .own (api_Rat.c v45.1), .map ((putM (putM (putM e_122 (A2.mk (gt v43.1.Faces x_124).e0 (gt v43.1.Faces x_124).e1) (wrapF .i64 ((getM 0 e_122 (A2.mk (gt v43.1.Faces x_124).e0 (gt v43.1.Faces x_124).e1)) + 1))) (A2.mk (gt v43.1.Faces x_124).e1 (gt v43.1.Faces x_124).e2) (wrapF .i64 ((getM 0 (putM e_122 (A2.mk (gt v43.1.Faces x_124).e0 (gt v43.1.Faces x_124).e1) (wrapF .i64 ((getM 0 e_122 (A2.mk (gt v43.1.Faces x_124).e0 (gt v43.1.Faces x_124).e1)) + 1))) (A2.mk (gt v43.1.Faces x_124).e1 (gt v43.1.Faces x_124).e2)) + 1))) (A2.mk (gt v43.1.Faces x_124).e2 (gt v43.1.Faces x_124).e0) (wrapF .i64 ((getM 0 (putM (putM e_122 (A2.mk (gt v43.1.Faces x_124).e0 (gt v43.1.Faces x_124).e1) (wrapF .i64 ((getM 0 e_122 (A2.mk (gt v43.1.Faces x_124).e0 (gt v43.1.Faces x_124).e1)) + 1))) (A2.mk (gt v43.1.Faces x_124).e1 (gt v43.1.Faces x_124).e2) (wrapF .i64 ((getM 0 (putM e_122 (A2.mk (gt v43.1.Faces x_124).e0 (gt v43.1.Faces x_124).e1) (wrapF .i64 ((getM 0 e_122 (A2.mk (gt v43.1.Faces x_124).e0 (gt v43.1.Faces x_124).e1)) + 1))) (A2.mk (gt v43.1.Faces x_124).e1 (gt v43.1.Faces x_124).e2)) + 1))) (A2.mk (gt v43.1.Faces x_124).e2 (gt v43.1.Faces x_124).e0)) + 1))).map (mpK A2_i64.K (iA .i64))), .own [aI64 (gt v43.1.Faces x_124).e0, aI64 (gt v43.1.Faces x_124).e1, aI64 (gt v43.1.Faces x_124).e2], .own (api_Spot.c (gt v43.1.Vertices (gt v43.1.Faces x_124).e0)), .own (api_Spot.c (gt v43.1.Vertices (gt v43.1.Faces x_124).e1)), .own (api_Spot.c (gt v43.1.Vertices (gt v43.1.Faces x_124).e2))] (.ru G (.pop (.ru G ?_)))
                   exact loopF_back (putM (putM (putM e_122 (A2.mk (gt v43.1.Faces x_124).e0 (gt v43.1.Faces x_124).e1) (wrapF .i64 ((getM 0 e_122 (A2.mk (gt v43.1.Faces x_124).e0 (gt v43.1.Faces x_124).e1)) + 1))) (A2.mk (gt v43.1.Faces x_124).e1 (gt v43.1.Faces x_124).e2) (wrapF .i64 ((getM 0 (putM e_122 (A2.mk (gt v43.1.Faces x_124).e0 (gt v43.1.Faces x_124).e1) (wrapF .i64 ((getM 0 e_122 (A2.mk (gt v43.1.Faces x_124).e0 (gt v43.1.Faces x_124).e1)) + 1))) (A2.mk (gt v43.1.Faces x_124).e1 (gt v43.1.Faces x_124).e2)) + 1))) (A2.mk (gt v43.1.Faces x_124).e2 (gt v43.1.Faces x_124).e0) (wrapF .i64 ((getM 0 (putM (putM e_122 (A2.mk (gt v43.1.Faces x_124).e0 (gt v43.1.Faces x_124).e1) (wrapF .i64 ((getM 0 e_122 (A2.mk (gt v43.1.Faces x_124).e0 (gt v43.1.Faces x_124).e1)) + 1))) (A2.mk (gt v43.1.Faces x_124).e1 (gt v43.1.Faces x_124).e2) (wrapF .i64 ((getM 0 (putM e_122 (A2.mk (gt v43.1.Faces x_124).e0 (gt v43.1.Faces x_124).e1) (wrapF .i64 ((getM 0 e_122 (A2.mk (gt v43.1.Faces x_124).e0 (gt v43.1.Faces x_124).e1)) + 1))) (A2.mk (gt v43.1.Faces x_124).e1 (gt v43.1.Faces x_124).e2)) + 1))) (A2.mk (gt v43.1.Faces x_124).e2 (gt v43.1.Faces x_124).e0)) + 1)), wrapF .i64 (s_123 + (wrapF .i64 ((wrapF .i64 ((wrapF .i64 ((gt v43.1.Vertices (gt v43.1.Faces x_124).e0).X * (wrapF .i64 ((wrapF .i64 ((gt v43.1.Vertices (gt v43.1.Faces x_124).e1).Y * (gt v43.1.Vertices (gt v43.1.Faces x_124).e2).Z)) - (wrapF .i64 ((gt v43.1.Vertices (gt v43.1.Faces x_124).e1).Z * (gt v43.1.Vertices (gt v43.1.Faces x_124).e2).Y)))))) + (wrapF .i64 ((gt v43.1.Vertices (gt v43.1.Faces x_124).e0).Y * (wrapF .i64 ((wrapF .i64 ((gt v43.1.Vertices (gt v43.1.Faces x_124).e1).Z * (gt v43.1.Vertices (gt v43.1.Faces x_124).e2).X)) - (wrapF .i64 ((gt v43.1.Vertices (gt v43.1.Faces x_124).e1).X * (gt v43.1.Vertices (gt v43.1.Faces x_124).e2).Z)))))))) + (wrapF .i64 ((gt v43.1.Vertices (gt v43.1.Faces x_124).e0).Z * (wrapF .i64 ((wrapF .i64 ((gt v43.1.Vertices (gt v43.1.Faces x_124).e1).X * (gt v43.1.Vertices (gt v43.1.Faces x_124).e2).Y)) - (wrapF .i64 ((gt v43.1.Vertices (gt v43.1.Faces x_124).e1).Y * (gt v43.1.Vertices (gt v43.1.Faces x_124).e2).X))))))))), wrapF .i64 (x_124 + 1)) hr ((Wk.gc [11, 13, 16, 17, 96, 97, 98] [(0, true), (1, true), (2, false)] rfl (pKt (pKt (pKM A2_i64.K (iA .i64) (fun _ => rfl) (putM (putM (putM e_122 (A2.mk (gt v43.1.Faces x_124).e0 (gt v43.1.Faces x_124).e1) (wrapF .i64 ((getM 0 e_122 (A2.mk (gt v43.1.Faces x_124).e0 (gt v43.1.Faces x_124).e1)) + 1))) (A2.mk (gt v43.1.Faces x_124).e1 (gt v43.1.Faces x_124).e2) (wrapF .i64 ((getM 0 (putM e_122 (A2.mk (gt v43.1.Faces x_124).e0 (gt v43.1.Faces x_124).e1) (wrapF .i64 ((getM 0 e_122 (A2.mk (gt v43.1.Faces x_124).e0 (gt v43.1.Faces x_124).e1)) + 1))) (A2.mk (gt v43.1.Faces x_124).e1 (gt v43.1.Faces x_124).e2)) + 1))) (A2.mk (gt v43.1.Faces x_124).e2 (gt v43.1.Faces x_124).e0) (wrapF .i64 ((getM 0 (putM (putM e_122 (A2.mk (gt v43.1.Faces x_124).e0 (gt v43.1.Faces x_124).e1) (wrapF .i64 ((getM 0 e_122 (A2.mk (gt v43.1.Faces x_124).e0 (gt v43.1.Faces x_124).e1)) + 1))) (A2.mk (gt v43.1.Faces x_124).e1 (gt v43.1.Faces x_124).e2) (wrapF .i64 ((getM 0 (putM e_122 (A2.mk (gt v43.1.Faces x_124).e0 (gt v43.1.Faces x_124).e1) (wrapF .i64 ((getM 0 e_122 (A2.mk (gt v43.1.Faces x_124).e0 (gt v43.1.Faces x_124).e1)) + 1))) (A2.mk (gt v43.1.Faces x_124).e1 (gt v43.1.Faces x_124).e2)) + 1))) (A2.mk (gt v43.1.Faces x_124).e2 (gt v43.1.Faces x_124).e0)) + 1))) trivial)))).to)
         ·refine .leave rfl ?_
          obtain rfl := oi hr
          exact ⟨rfl, ((Wk.gc [13, 16, 17] [(1, true), (2, false)] rfl (pKt (pKM A2_i64.K (iA .i64) (fun _ => rfl) e_122 trivial))).to)⟩
        ·rcases o188 with ⟨e_155, s_156⟩ | r0
         ·rintro x st' hq190
          clear hL189
          obtain ⟨rfl, hq190⟩ := hq190
          refine CQ_exit _ rfl (.wk hq190 (.seq (.r4 G [13, 16, 17] [(24, aB false)] (.seq (.seq (.r0 G (.mu 1 (.e0 (v := .hp 2 0) (ws := [(2, .iter 1 e_155.length [])]) (Eq.trans (b := opRange Tryz.prog [.own (api_Rat.c v45.1), .map (e_155.map (mpK A2_i64.K (iA .i64)))] 2 76 (.mp 1)) (by kernel_rfl) (range_t (kt := 77) (e := 3) (es := e_155) (mk := (mpK A2_i64.K (iA .i64))) (by kernel_rfl) (by kernel_rfl))) (.done (.nh [13, 16, 17, 24, 210] [.own (api_Rat.c v45.1), .map (e_155.map (mpK A2_i64.K (iA .i64))), .iter 1 e_155.length []] (.block ?_)))))))))))
          refine .rangeM (mk := (mpK A2_i64.K (iA .i64))) hr (fun z0 sn => match z0 with | o_202 => ⟨mkS 240 0 [(13, .hp 0 0), (16, .mp 1), (17, aI64 s_156), (24, aB o_202), (210, .hp 2 0)], [.own (api_Rat.c v45.1), .map (e_155.map (mpK A2_i64.K (iA .i64))), .iter 1 e_155.length sn]⟩) 2 1 ((Wk.gc [13, 16, 17, 24, 210] [(0, true), (1, false), (2, true)] rfl (pKt (pKM A2_i64.K (iA .i64) (fun _ => rfl) e_155 trivial))).to) ?_ ?_
          ·clear hr
           rintro o_202 sn i200 e198 z' G' he199 hr hG201
           refine .wk ((Wk.refl _).to (c := ⟨mkS 240 0 [(13, .hp 0 0), (16, .mp 1), (17, aI64 s_156), (24, aB o_202), (210, .hp 2 0), (212, aB true)], [.own (api_Rat.c v45.1), .map (e_155.map (mpK A2_i64.K (iA .i64))), .iter 1 e_155.length (sn ++ [i200])]⟩)) (.block (.seq (.r0 G (.p0 (v := .tup [.agg [aI64 e198.1.e0, aI64 e198.1.e1], aI64 e198.2]) (Eq.trans (b := opIterEntry [.own (api_Rat.c v45.1), .map (e_155.map (mpK A2_i64.K (iA .i64))), .iter 1 e_155.length (sn ++ [i200])] (.hp 2 0)) (by kernel_rfl) (Eq.trans (entry_t (P := Tryz.prog) (m := 1) (sn := sn) (es := e_155) (mk := (mpK A2_i64.K (iA .i64))) (e := e198) (by kernel_rfl) (by kernel_rfl) he199) (by kernel_rfl))) (.mu 5 (.done (.nh [13, 16, 17, 24, 25, 26, 210] [.own (api_Rat.c v45.1), .map (e_155.map (mpK A2_i64.K (iA .i64))), .iter 1 e_155.length (sn ++ [i200]), .own [aI64 e198.1.e0, aI64 e198.1.e1]] ?_)))))))
           rcases bT o_202 with hb204 | hb204
           ·replace hr := cd_t hb204 hr
            refine .r0 G (.p0 (v := aB true) (eB hb204) (.mu 12 (.done (.pop ?_))))
            obtain rfl := oi hr
            exact hG201 _ ((Wk.gc [13, 16, 17, 24, 210] [(0, true), (1, false), (2, true)] rfl (pKt (pKM A2_i64.K (iA .i64) (fun _ => rfl) e_155 trivial))).to)
           ·replace hr := cd_f hb204 hr
            refine .r0 G (.p0 (v := aB false) (eB hb204) (.mu 7 (.pure (v := aI64 (getM 0 e_155 (A2.mk e198.1.e1 e198.1.e0))) (by kernel_rfl) (Eq.trans (b := ORes.ofP (lookupA Tryz.prog [.own (api_Rat.c v45.1), .map (e_155.map (mpK A2_i64.K (iA .i64))), .iter 1 e_155.length (sn ++ [i200]), .own [aI64 e198.1.e0, aI64 e198.1.e1]] 76 (.mp 1) (.agg [aI64 e198.1.e1, aI64 e198.1.e0]) false)) (by kernel_rfl) (look_k (kt := 77) (e := 3) (l := e_155) (f := (iA .i64)) (z := 0) (K := A2_i64.K) (x := A2.mk e198.1.e1 e198.1.e0) A2_i64.key (by kernel_rfl) (by kernel_rfl) (by kernel_rfl) (by kernel_rfl) (by kernel_rfl))) (.mu 4 (.done (.pop ?_))))))
            obtain rfl := oi hr
            exact hG201 _ ((Wk.gc [13, 16, 17, 24, 210] [(0, true), (1, false), (2, true)] rfl (pKt (pKM A2_i64.K (iA .i64) (fun _ => rfl) e_155 trivial))).to)
          ·clear hr
           rintro o_202 sn hr
           refine CQ_exit _ rfl (.wk ((Wk.refl _).to (c := ⟨mkS 240 0 [(13, .hp 0 0), (16, .mp 1), (17, aI64 s_156), (24, aB o_202), (210, .hp 2 0), (212, aB false)], [.own (api_Rat.c v45.1), .map (e_155.map (mpK A2_i64.K (iA .i64))), .iter 1 e_155.length sn]⟩)) (.seq ?_))
           obtain ⟨v205, hc206, hr⟩ := bd hr
           refine .g1 G (ok0 (fiducialref02_Of_ok n s_156 6 v205 hc206)) (.mu 1 (.ca cf0 (.mu 6 (.done (.nh [13, 24, 27] [.own (api_Rat.c v45.1), .map (e_155.map (mpK A2_i64.K (iA .i64))), .iter 1 e_155.length sn, .own (api_Rat.c v205.1)] (.seq ?_))))))
           rcases bT (!o_202) with hb207 | hb207
           ·replace hr := cd_t hb207 hr
            obtain ⟨v208, hc209, hr⟩ := bd hr
            refine .g1 G (ok0 (fiducialref02_SameRat_ok n v205.1 v45.1 v208 hc209)) (.mu 1 (.p0 (v := aB true) (eB hb207) (.mu 3 (.ca cf0 (.mu 2 (.done (.ret ?_)))))))
            obtain rfl := oi hr
            exact FinQ.r1 [aB v208]
           ·replace hr := cd_f hb207 hr
            refine .r0 G (.mu 1 (.p0 (v := aB false) (eB hb207) (.mu 6 (.done (.ret ?_)))))
            obtain rfl := oi hr
            exact FinQ.r1 [aB false]
         ·rintro x st' hq190
          clear hL189
          obtain ⟨rfl, hq190⟩ := hq190
          obtain rfl := oi hr
          exact CQ_ret _ hq190
end Go.L
