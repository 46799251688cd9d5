/- The program's functions compute what the plain Lean programs compute, part 2; printed by a program. -/
import Derived.Test.YtndmnfmpbcecaaaChaLP1
import Derived.Test.YtndmnfmpbcecaaaL0hegfhhij
import Derived.Test.YtndmnfmpbcecaaaKn26ifobjfci
import Derived.Test.YtndmnfmpbcecaaaDelLgjcenedo
import Derived.Test.YtndmnfmpbcecaaaSortLildbofhm
import Derived.Test.YtndmnfmpbcecaaaSortMjokciapd
import Derived.Test.YtndmnfmpbcecaaaSortTclclbppn
import Derived.Test.YtndmnfmpbcecaaaChecked
import Derived.KernelRfl
set_option linter.all false
set_option maxRecDepth 100000
set_option maxHeartbeats 4000000
namespace Go.L
open Go Go.Eng Go.Proofs
theorem fiduciallaw26_all_ok (n : Nat) (l : List api_Tie) (r : List (List api_Mark)) (hr : fiduciallaw26_all n l = some r) : FnOk Try.prog 66 [slT api_Tie.c l] (slT (slC api_Mark.c) r) := by
 unfold fiduciallaw26_all at hr
 refine FnOk.bd G Try.func66 [.tmp 2] ?_
 unfold Try.f66
 simp only [Option.getD_some]
 refine .seq (.r4 G [0] [] (.seq (.r5 G [0] [(3, .hp 0 0)] [.own [nS]] (.seq (.seq (.r4 G [0, 3] [(13, slT api_Tie.c l), (14, aI64 (l.length : Int)), (15, aI64 0)] (.block ?_)))))))
 replace hr := bd hr; obtain ⟨tracks_88, hL117, hr⟩ := hr
 refine .loopO (σ := fun z0 => match z0 with | (tracks_60, x_61) => ⟨mkS 89 0 [(0, slT api_Tie.c l), (3, .hp 0 0), (13, slT api_Tie.c l), (14, aI64 (l.length : Int)), (15, aI64 x_61)], [.own [.hs 1 0 tracks_60.length 1], .rows (rws 2 api_Mark.c tracks_60)]⟩) (Q := fun x st' => x = .exit 0 ∧ Wk 0 st' ⟨mkS 89 0 [(0, slT api_Tie.c l), (3, .hp 0 0)], [.own [.hs 1 0 tracks_88.length 1], .rows (rws 2 api_Mark.c tracks_88)]⟩) hL117 ((Wk.nilcell 0 0 1 (cs := [nS]) (by kernel_rfl) (by kernel_rfl)).trans ((Wk.mkT 1 (n := 0) 2 api_Mark.c).trans ((Wk.gc [0, 3, 13, 14, 15] [(0, true), (1, false)] rfl (pKt (pKc trivial))).to))) ?_ ?_
 ·clear hr
  rintro m ⟨tracks_60, x_61⟩ hr
  show CQ _ _ _ _ _ ⟨_, _⟩
  refine .seq (.r4 G [0, 3, 13, 14, 15] [(16, aB (decide (x_61 < (l.length : Int))))] (.seq ?_))
  refine .cd hr (fun hb91 hr => ?_) (fun hb91 hr => ?_)
  ·refine .skip (.seq (.block (.seq ?_)))
   obtain ⟨hg92, hr⟩ := gd hr
   refine .r0 G (.p0 (v := .pp (l.flatMap api_Tie.c) (x_61.toNat * 5)) (tr (ofP_guard hg92)) (.p0 (v := .agg (api_Tie.c (gt l x_61))) (Eq.trans (b := ORes.ofP (guardV (decide (5 ≤ ((l.flatMap api_Tie.c).drop (x_61.toNat * 5)).length)) (.agg (((l.flatMap api_Tie.c).drop (x_61.toNat * 5)).take 5)))) (by kernel_rfl) (flat_load api_Tie.len (inR_lt hg92) (by decide) (by omega : x_61.toNat * 5 = x_61.toNat * 5 + 0) (by kernel_rfl))) (.mu 2 (.done (.nh [0, 3, 5, 13, 14, 15] [.own [.hs 1 0 tracks_60.length 1], .rows (rws 2 api_Mark.c tracks_60), .own (api_Tie.c (gt l x_61))] (.seq (.r5 G [0, 3, 13, 14, 15] [(23, .hs 3 0 2 2), (24, aI64 2), (25, aI64 0)] [.own [.hs 1 0 tracks_60.length 1], .rows (rws 2 api_Mark.c tracks_60), .own (api_Tie.c (gt l x_61)), .own [aI64 (gt l x_61).A.Image, aI64 (gt l x_61).A.Feature, aI64 (gt l x_61).B.Image, aI64 (gt l x_61).B.Feature]] (.block ?_))))))))
   replace hr := bd hr; obtain ⟨tracks_103, hL114, hr⟩ := hr
   refine .loopO (σ := fun z0 => match z0 with | (tracks_93, x_94) => ⟨mkS 89 0 [(0, slT api_Tie.c l), (3, .hp 0 0), (13, slT api_Tie.c l), (14, aI64 (l.length : Int)), (15, aI64 x_61), (23, .hs 2 0 ([(gt l x_61).A, (gt l x_61).B].length) 2), (24, aI64 2), (25, aI64 x_94)], [.own [.hs 1 0 tracks_93.length 1], .rows (rws 2 api_Mark.c tracks_93), .own ([(gt l x_61).A, (gt l x_61).B].flatMap api_Mark.c)]⟩) (Q := fun x st' => x = .exit 2 ∧ Wk 0 st' ⟨mkS 89 0 [(0, slT api_Tie.c l), (3, .hp 0 0), (13, slT api_Tie.c l), (14, aI64 (l.length : Int)), (15, aI64 x_61)], [.own [.hs 1 0 tracks_103.length 1], .rows (rws 2 api_Mark.c tracks_103)]⟩) hL114 ((Wk.gc [0, 3, 13, 14, 15, 23, 24, 25] [(0, true), (1, false), (3, false)] rfl (pKt (pKr 2 api_Mark.c tracks_60 (pKc trivial)))).to) ?_ ?_
   ·clear hr
    rintro m ⟨tracks_93, x_94⟩ hr
    show CQ _ _ _ _ _ ⟨_, _⟩
    refine .seq (.r4 G [0, 3, 13, 14, 15, 23, 24, 25] [(26, aB (decide (x_94 < 2)))] (.seq ?_))
    refine .cd hr (fun hb106 hr => ?_) (fun hb106 hr => ?_)
    ·refine .skip (.seq (.block (.seq ?_)))
     obtain ⟨hg107, hr⟩ := gd hr
     refine .r0 G (.p0 (v := .hp 2 (0 + x_94.toNat * 2)) (tr (ofP_guard hg107)) (.p0 (v := .agg (api_Mark.c (gt [(gt l x_61).A, (gt l x_61).B] x_94))) (Eq.trans (b := ORes.ofP (guardV (decide (2 ≤ (([(gt l x_61).A, (gt l x_61).B].flatMap api_Mark.c).drop (0 + x_94.toNat * 2)).length)) (.agg ((([(gt l x_61).A, (gt l x_61).B].flatMap api_Mark.c).drop (0 + x_94.toNat * 2)).take 2)))) (by kernel_rfl) (flat_load api_Mark.len (inR_lt hg107) (by decide) (by omega : 0 + x_94.toNat * 2 = x_94.toNat * 2 + 0) (by kernel_rfl))) (.mu 2 (.done (.nh [0, 3, 7, 13, 14, 15, 23, 24, 25] [.own [.hs 1 0 tracks_93.length 1], .rows (rws 2 api_Mark.c tracks_93), .own ([(gt l x_61).A, (gt l x_61).B].flatMap api_Mark.c), .own (api_Mark.c (gt [(gt l x_61).A, (gt l x_61).B] x_94))] (.seq ?_))))))
     obtain ⟨v108, hc109, hr⟩ := bd hr
     refine .g1 G (callOk_val (args := [.hs 1 0 tracks_93.length 1, .agg (api_Mark.c (gt [(gt l x_61).A, (gt l x_61).B] x_94))]) (l := [1]) rfl (SnL.cons (Sn.rw (es := 2) (c := api_Mark.c) (e := tracks_93)) (SnL.cons (Sn.pure rfl) SnL.nil)) (fiduciallaw26_where_ok n tracks_93 (gt [(gt l x_61).A, (gt l x_61).B] x_94) v108 hc109)) (.mu 2 (.ca cf0 (.mu 1 (.done (.nh [0, 3, 7, 13, 14, 15, 23, 24, 25, 32] [.own [.hs 1 0 tracks_93.length 1], .rows (rws 2 api_Mark.c tracks_93), .own ([(gt l x_61).A, (gt l x_61).B].flatMap api_Mark.c), .own (api_Mark.c (gt [(gt l x_61).A, (gt l x_61).B] x_94))] ?_)))))
     refine .cd hr (fun hb110 hr => ?_) (fun hb110 hr => ?_)
     ·obtain ⟨hg111, hg112, hr⟩ := gd2 hr
      refine .r0 G (.mu 4 (.e0 (v := .hs 6 0 (tracks_93.length + 1) 1) (ws := [(1, .dead), (6, .rows (rws 2 api_Mark.c tracks_93 ++ [.av (.hs 4 0 1 2)]))]) (Eq.trans (b := guardO (decide (tracks_93.length ≤ (rws 2 api_Mark.c tracks_93).length) && decide ((tracks_93.length + 1) * 24 ≤ 140737488355328) && decide (tracks_93.length + 1 ≤ 4611686018427387904) && true) (some (.eff (.hs 6 0 (tracks_93.length + 1) 1) [(1, .dead), (6, .rows ((rws 2 api_Mark.c tracks_93).take tracks_93.length ++ [.av (.hs 4 0 1 2)]))]))) (by kernel_rfl) (rap rfl hg111 hg112)) (.mu 1 (.done (.pop (.ru G ?_))))))
      exact loopF_back (tracks_93 ++ [[(gt [(gt l x_61).A, (gt l x_61).B] x_94)]], wrapF .i64 (x_94 + 1)) hr ((Wk.closeA 6 4 (x := [(gt [(gt l x_61).A, (gt l x_61).B] x_94)]) (es := 2) (c := api_Mark.c) (e := tracks_93) (len := 1) api_Mark.pure rfl).trans ((Wk.recell 0 0 (b := 6) (es := 1) (len := (tracks_93.length + 1)) (cs := [.hs 6 0 (tracks_93.length + 1) 1]) (tracks_93 ++ [[(gt [(gt l x_61).A, (gt l x_61).B] x_94)]]).length (by kernel_rfl) (by kernel_rfl) (by simp)).trans ((Wk.gc [0, 3, 13, 14, 15, 23, 24, 25] [(0, true), (6, false), (2, false)] rfl (pKt (pKr 2 api_Mark.c (tracks_93 ++ [[(gt [(gt l x_61).A, (gt l x_61).B] x_94)]]) (pKo api_Mark.c api_Mark.pure [(gt l x_61).A, (gt l x_61).B] trivial)))).to)))
     ·refine .skip (.pop (.ru G ?_))
      exact loopF_back (tracks_93, wrapF .i64 (x_94 + 1)) hr ((Wk.gc [0, 3, 13, 14, 15, 23, 24, 25] [(0, true), (1, false), (2, false)] rfl (pKt (pKr 2 api_Mark.c tracks_93 (pKo api_Mark.c api_Mark.pure [(gt l x_61).A, (gt l x_61).B] trivial)))).to)
    ·refine .leave rfl ?_
     obtain rfl := oi hr
     exact ⟨rfl, ((Wk.gc [0, 3, 13, 14, 15] [(0, true), (1, false)] rfl (pKt (pKr 2 api_Mark.c tracks_93 trivial))).to)⟩
   ·rintro x st' hq115
    clear hL114
    obtain ⟨rfl, hq115⟩ := hq115
    refine CQ_exit _ rfl (.pop (.wk hq115 (.ru G ?_)))
    exact loopF_back (tracks_103, wrapF .i64 (x_61 + 1)) hr ((Wk.gc [0, 3, 13, 14, 15] [(0, true), (1, false)] rfl (pKt (pKr 2 api_Mark.c tracks_103 trivial))).to)
  ·refine .leave rfl ?_
   obtain rfl := oi hr
   exact ⟨rfl, ((Wk.gc [0, 3] [(0, true), (1, false)] rfl (pKt (pKr 2 api_Mark.c tracks_60 trivial))).to)⟩
 ·rintro x st' hq118
  clear hL117
  obtain ⟨rfl, hq118⟩ := hq118
  refine CQ_exit _ rfl (.wk hq118 (.seq ?_))
  obtain ⟨v119, hc120, hr⟩ := bd hr
  refine .g1 G (callOk_mutU (args := [slT api_Tie.c l]) 0 1 [] [false] (slices_Clone_fiducial_api_Tie_fiducial_api_Tie_w_ok n l v119 hc120) trivial (by exact ⟨ids_flat api_Tie.pure _, trivial⟩) rfl rfl (by kernel_rfl) (by kernel_rfl)) (.mu 1 (.ca cf0 (.mu 1 (.done (.nh [3, 8] [.own [.hs 1 0 tracks_88.length 1], .rows (rws 2 api_Mark.c tracks_88), .own (v119.flatMap api_Tie.c)] (.seq ?_))))))
  obtain ⟨v121, hc122, hr⟩ := bd hr
  obtain ⟨hg123, hr⟩ := gd hr
  refine .g1 G (callOk_mutU (args := [.hs 2 0 v119.length 5, .fn 70 [] []]) 1 0 [(2, false)] [false] (slices_SortFunc_fiducial_api_Tie_fiducial_api_Tie_w_of_fiduciallaw26_order_ok n v119 v121 hc122) (by exact ⟨ids_flat api_Tie.pure _, trivial⟩) (by exact ⟨ids_flat api_Tie.pure _, trivial⟩) rfl rfl (by kernel_rfl) (by kernel_rfl)) (.mu 1 (.ca cf0 (.done (.nh [3, 8] [.own [.hs 1 0 tracks_88.length 1], .rows (rws 2 api_Mark.c tracks_88), .own (v121.flatMap api_Tie.c)] (.seq (.seq (.r4 G [3] [(44, .hs 2 0 v119.length 5), (45, aI64 (v119.length : Int)), (46, aI64 0)] (.block ?_))))))))
  replace hr := bd hr; obtain ⟨tracks_149, hL175, hr⟩ := hr
  refine .loopO (σ := fun z0 => match z0 with | (tracks_124, x_125) => ⟨mkS 89 0 [(3, .hp 0 0), (44, .hs 2 0 v121.length 5), (45, aI64 (v119.length : Int)), (46, aI64 x_125)], [.own [.hs 1 0 tracks_124.length 1], .rows (rws 2 api_Mark.c tracks_124), .own (v121.flatMap api_Tie.c)]⟩) (Q := fun x st' => x = .exit 4 ∧ Wk 0 st' ⟨mkS 89 0 [(3, .hp 0 0)], [.own [.hs 1 0 tracks_149.length 1], .rows (rws 2 api_Mark.c tracks_149)]⟩) hL175 ((Wk.relen 44 (b := 2) (es := 5) (len := v119.length) v121.length (by kernel_rfl) (Eq.symm (of_decide_eq_true hg123))).trans ((Wk.gc [3, 44, 45, 46] [(0, true), (1, false), (2, false)] rfl (pKt (pKr 2 api_Mark.c tracks_88 (pKo api_Tie.c api_Tie.pure v121 trivial)))).to)) ?_ ?_
  ·clear hr
   rintro m ⟨tracks_124, x_125⟩ hr
   show CQ _ _ _ _ _ ⟨_, _⟩
   refine .seq (.r4 G [3, 44, 45, 46] [(47, aB (decide (x_125 < (v119.length : Int))))] (.seq ?_))
   refine .cd hr (fun hb152 hr => ?_) (fun hb152 hr => ?_)
   ·refine .skip (.seq (.block (.seq ?_)))
    obtain ⟨hg153, hr⟩ := gd hr
    refine .r0 G (.p0 (v := .hp 2 (0 + x_125.toNat * 5)) (tr (ofP_guard hg153)) (.p0 (v := .agg (api_Tie.c (gt v121 x_125))) (Eq.trans (b := ORes.ofP (guardV (decide (5 ≤ ((v121.flatMap api_Tie.c).drop (0 + x_125.toNat * 5)).length)) (.agg (((v121.flatMap api_Tie.c).drop (0 + x_125.toNat * 5)).take 5)))) (by kernel_rfl) (flat_load api_Tie.len (inR_lt hg153) (by decide) (by omega : 0 + x_125.toNat * 5 = x_125.toNat * 5 + 0) (by kernel_rfl))) (.mu 2 (.done (.nh [3, 10, 44, 45, 46] [.own [.hs 1 0 tracks_124.length 1], .rows (rws 2 api_Mark.c tracks_124), .own (v121.flatMap api_Tie.c), .own (api_Tie.c (gt v121 x_125))] (.seq ?_))))))
    obtain ⟨v154, hc155, v156, hc157, hr⟩ := bd2 hr
    refine .tn G (ca1 (callOk_val (args := [.hs 1 0 tracks_124.length 1, .agg (api_Mark.c (gt v121 x_125).A)]) (l := [1]) rfl (SnL.cons (Sn.rw (es := 2) (c := api_Mark.c) (e := tracks_124)) (SnL.cons (Sn.pure rfl) SnL.nil)) (fiduciallaw26_where_ok n tracks_124 (gt v121 x_125).A v154 hc155)) (ca3 (callOk_val (args := [.hs 1 0 tracks_124.length 1, .agg (api_Mark.c (gt v121 x_125).B)]) (l := [1]) rfl (SnL.cons (Sn.rw (es := 2) (c := api_Mark.c) (e := tracks_124)) (SnL.cons (Sn.pure rfl) SnL.nil)) (fiduciallaw26_where_ok n tracks_124 (gt v121 x_125).B v156 hc157)))) (.mu 3 (.ca cf0 (.mu 3 (.ca (cfA (fun h => by rw [sv hc157 hc155 (fiduciallaw26_where_cg n (show ([slT (slC api_Mark.c) tracks_124, .agg (api_Mark.c (gt v121 x_125).B)] : List AV) = [slT (slC api_Mark.c) tracks_124, .agg (api_Mark.c (gt v121 x_125).A)] from (congr (congrArg List.cons rfl) (congr (congrArg List.cons (List.cons.inj (List.cons.inj h).2).1) rfl))))]) cf0) (.mu 3 ?_)))))
    refine .done ⟨by kernel_rfl, ?_⟩
    refine .nh [3, 11, 12, 44, 45, 46] [.own [.hs 1 0 tracks_124.length 1], .rows (rws 2 api_Mark.c tracks_124), .own (v121.flatMap api_Tie.c), .own (api_Tie.c (gt v121 x_125)), .own [aI64 v156]] (.seq (.seq ?_))
    rcases Bool.eq_false_or_eq_true ((v154 : Int) == v156) with hb158 | hb158
    ·replace hr := cd_t hb158 hr
     refine .r0 G (.mu 2 (.p0 (v := aB true) (eB hb158) (.mu 9 (.done (.nh [3, 11, 12, 44, 45, 46, 69] [.own [.hs 1 0 tracks_124.length 1], .rows (rws 2 api_Mark.c tracks_124), .own (v121.flatMap api_Tie.c), .own (api_Tie.c (gt v121 x_125)), .own [aI64 v156]] (.cT (by kernel_rfl) (.exit rfl (.ru G ?_))))))))
     exact loopF_back (tracks_124, wrapF .i64 (x_125 + 1)) hr ((Wk.gc [3, 44, 45, 46] [(0, true), (1, false), (2, false)] rfl (pKt (pKr 2 api_Mark.c tracks_124 (pKo api_Tie.c api_Tie.pure v121 trivial)))).to)
    ·replace hr := cd_f hb158 hr
     obtain ⟨hg159, hr⟩ := gd hr
     refine .wk ((Wk.openT 1 (es := 2) (c := api_Mark.c) (e := tracks_124) hg159).to (c := ⟨mkS 89 0 [(3, .hp 0 0), (11, aI64 v154), (12, .hp 4 0), (44, .hs 2 0 v121.length 5), (45, aI64 (v119.length : Int)), (46, aI64 x_125)], [.own [.hs 1 0 tracks_124.length 1], .rows ((rws 2 api_Mark.c tracks_124).set v154.toNat (.av (.hs 5 0 (gt tracks_124 v154).length 2))), .own (v121.flatMap api_Tie.c), .own (api_Tie.c (gt v121 x_125)), .own [aI64 v156], .own ((gt tracks_124 v154).flatMap api_Mark.c)]⟩) (by kernel_rfl)) ?_
     obtain ⟨v160, hc161, v162, hc163, hr⟩ := bd2 hr
     refine .gn G (ca1 (callOk_mutU (args := [.hs 5 0 (gt tracks_124 v154).length 2]) 1 1 [(5, false)] [false, false] (fiduciallaw26_images_w_ok n (gt tracks_124 v154) v160 hc161) (by exact ⟨ids_flat api_Mark.pure _, trivial⟩) (by exact ⟨ids_flat api_Mark.pure _, ⟨ids_flat (iC_pure _) _, trivial⟩⟩) rfl rfl (by kernel_rfl) (by kernel_rfl)) (ca4 [.own [.hs 1 0 tracks_124.length 1], .rows ((rws 2 api_Mark.c tracks_124).set v154.toNat (.av (.hs 5 0 (gt tracks_124 v154).length 2))), .own (v121.flatMap api_Tie.c), .own (api_Tie.c (gt v121 x_125)), .own [aI64 v156], .own ((gt tracks_124 v154).flatMap api_Mark.c), .own (v160.flatMap (iC .i64))] (callOk_val (args := [.hs 6 0 v160.length 1, .fn 98 [] [.hp 0 0, .hp 4 0]]) (l := [0, 1, 4, 5, 6]) rfl (SnL.cons (Sn.hs rfl (.inl rfl) (SnC.pure (ids_flat (iC_pure _) _)) (fun h => flat_nil0 h)) (SnL.cons (Sn.fn SnL.nil (SnL.cons (Sn.hp rfl (.inl rfl) (SnC.cons (Sn.rwo (n := 5) (es := 2) (c := api_Mark.c) (e := tracks_124) api_Mark.pure hg159 rfl) SnC.nil)) (SnL.cons (Sn.hp rfl (.inl rfl) (SnC.cons (Sn.pure rfl) SnC.nil)) SnL.nil))) SnL.nil)) (slices_ContainsFunc_int_int_of_fiduciallaw26_all_1_ok n v160 tracks_124 v156 v162 hc163)))) (.mu 2 (.p0 (v := aB false) (eB hb158) (.mu 3 (.pure (v := .hp 1 (0 + v154.toNat * 1)) (by kernel_rfl) (tr (ofP_guard hg159)) (.pure (v := .hs 5 0 (gt tracks_124 v154).length 2) (by kernel_rfl) (Eq.trans (b := ORes.ofP (rcAt ((rws 2 api_Mark.c tracks_124).set v154.toNat (.av (.hs 5 0 (gt tracks_124 v154).length 2)))[0 + v154.toNat * 1]?)) (by kernel_rfl) (rld hg159 (by omega))) (.ca cf0 (.mu 1 (.ca (cfF cf0) (.mu 1 (.done (.nh [3, 11, 12, 44, 45, 46, 69] [.own [.hs 1 0 tracks_124.length 1], .rows ((rws 2 api_Mark.c tracks_124).set v154.toNat (.av (.hs 5 0 (gt tracks_124 v154).length 2))), .own (v121.flatMap api_Tie.c), .own (api_Tie.c (gt v121 x_125)), .own [aI64 v156], .own ((gt tracks_124 v154).flatMap api_Mark.c), .own (v160.flatMap (iC .i64))] (.wk ((Wk.closeT 1 5 (x := (gt tracks_124 v154)) (es := 2) (c := api_Mark.c) (e := tracks_124) (i := v154) (len := (gt tracks_124 v154).length) api_Mark.pure hg159 rfl).to (c := ⟨mkS 89 0 [(3, .hp 0 0), (11, aI64 v154), (12, .hp 4 0), (44, .hs 2 0 v121.length 5), (45, aI64 (v119.length : Int)), (46, aI64 x_125), (69, aB v162)], [.own [.hs 1 0 tracks_124.length 1], .rows (rws 2 api_Mark.c (tracks_124.set v154.toNat (gt tracks_124 v154))), .own (v121.flatMap api_Tie.c), .own (api_Tie.c (gt v121 x_125)), .own [aI64 v156], .dead, .own (v160.flatMap (iC .i64))]⟩) (by kernel_rfl)) ?_))))))))))))
     refine .cd hr (fun hb165 hr => ?_) (fun hb165 hr => ?_)
     ·refine .exit rfl (.ru G ?_)
      exact loopF_back (tracks_124.set v154.toNat (gt tracks_124 v154), wrapF .i64 (x_125 + 1)) hr ((Wk.recell 0 0 (b := 1) (es := 1) (len := tracks_124.length) (cs := [.hs 1 0 tracks_124.length 1]) (tracks_124.set v154.toNat (gt tracks_124 v154)).length (by kernel_rfl) (by kernel_rfl) (by simp)).trans ((Wk.gc [3, 44, 45, 46] [(0, true), (1, false), (2, false)] rfl (pKt (pKr 2 api_Mark.c (tracks_124.set v154.toNat (gt tracks_124 v154)) (pKo api_Tie.c api_Tie.pure v121 trivial)))).to))
     ·refine .skip (.seq ?_)
      obtain ⟨hg166, hr⟩ := gd hr
      refine .wk ((Wk.openT 1 (es := 2) (c := api_Mark.c) (e := tracks_124.set v154.toNat (gt tracks_124 v154)) hg166).to (c := ⟨mkS 89 0 [(3, .hp 0 0), (11, aI64 v154), (12, .hp 4 0), (44, .hs 2 0 v121.length 5), (45, aI64 (v119.length : Int)), (46, aI64 x_125), (69, aB v162)], [.own [.hs 1 0 tracks_124.length 1], .rows ((rws 2 api_Mark.c (tracks_124.set v154.toNat (gt tracks_124 v154))).set v154.toNat (.av (.hs 7 0 (gt (tracks_124.set v154.toNat (gt tracks_124 v154)) v154).length 2))), .own (v121.flatMap api_Tie.c), .own (api_Tie.c (gt v121 x_125)), .own [aI64 v156], .dead, .own (v160.flatMap (iC .i64)), .own ((gt (tracks_124.set v154.toNat (gt tracks_124 v154)) v154).flatMap api_Mark.c)]⟩) (by kernel_rfl)) ?_
      obtain ⟨hg167, hg168, hg169, hr⟩ := gd3 hr
      refine .wk ((Wk.purJ 1 (A := .hs 7 0 (gt (tracks_124.set v154.toNat (gt tracks_124 v154)) v154).length 2) (es := 2) (c := api_Mark.c) (e := tracks_124.set v154.toNat (gt tracks_124 v154)) (i := v154) (j := v156) api_Mark.pure hg166 hg168 hg169).to (c := ⟨mkS 89 0 [(3, .hp 0 0), (11, aI64 v154), (12, .hp 4 0), (44, .hs 2 0 v121.length 5), (45, aI64 (v119.length : Int)), (46, aI64 x_125), (69, aB v162)], [.own [.hs 1 0 tracks_124.length 1], .rows (((rws 2 api_Mark.c (tracks_124.set v154.toNat (gt tracks_124 v154))).set v154.toNat (.av (.hs 7 0 (gt (tracks_124.set v154.toNat (gt tracks_124 v154)) v154).length 2))).set v156.toNat (.av (slT api_Mark.c (gt (tracks_124.set v154.toNat (gt tracks_124 v154)) v156)))), .own (v121.flatMap api_Tie.c), .own (api_Tie.c (gt v121 x_125)), .own [aI64 v156], .dead, .own (v160.flatMap (iC .i64)), .own ((gt (tracks_124.set v154.toNat (gt tracks_124 v154)) v154).flatMap api_Mark.c), .fix ((gt (tracks_124.set v154.toNat (gt tracks_124 v154)) v156).flatMap api_Mark.c)]⟩) (by kernel_rfl)) ?_
      obtain ⟨hg170, hg171, hr⟩ := gd2 hr
      refine .regionT G callOf_nil (.mu 4 (.pure (v := .hp 1 (0 + v154.toNat * 1)) (by kernel_rfl) (tr (ofP_guard hg159)) (by kernel_rfl) (.pure (v := .hs 7 0 (gt (tracks_124.set v154.toNat (gt tracks_124 v154)) v154).length 2) (by kernel_rfl) (Eq.trans (b := ORes.ofP (rcAt (((rws 2 api_Mark.c (tracks_124.set v154.toNat (gt tracks_124 v154))).set v154.toNat (.av (.hs 7 0 (gt (tracks_124.set v154.toNat (gt tracks_124 v154)) v154).length 2))).set v156.toNat (.av (slT api_Mark.c (gt (tracks_124.set v154.toNat (gt tracks_124 v154)) v156))))[0 + v154.toNat * 1]?)) (by kernel_rfl) (rldI hg166 hg168 hg169 (by omega))) (by kernel_rfl) (.mu 2 (.pure (v := .hp 1 (0 + v156.toNat * 1)) (by kernel_rfl) (tr (ofP_guard hg167)) (by kernel_rfl) (.pure (v := slT api_Mark.c (gt (tracks_124.set v154.toNat (gt tracks_124 v154)) v156)) (by kernel_rfl) (Eq.trans (b := ORes.ofP (rcAt (((rws 2 api_Mark.c (tracks_124.set v154.toNat (gt tracks_124 v154))).set v154.toNat (.av (.hs 7 0 (gt (tracks_124.set v154.toNat (gt tracks_124 v154)) v154).length 2))).set v156.toNat (.av (slT api_Mark.c (gt (tracks_124.set v154.toNat (gt tracks_124 v154)) v156))))[0 + v156.toNat * 1]?)) (by kernel_rfl) (rldJ hg168 (by omega))) (by kernel_rfl) (.eff (v := .hs 9 0 ((gt (tracks_124.set v154.toNat (gt tracks_124 v154)) v154) ++ (gt (tracks_124.set v154.toNat (gt tracks_124 v154)) v156)).length 2) (ws := [(7, .dead), (9, .own (((gt (tracks_124.set v154.toNat (gt tracks_124 v154)) v154) ++ (gt (tracks_124.set v154.toNat (gt tracks_124 v154)) v156)).flatMap api_Mark.c))]) (by kernel_rfl) (Eq.trans (b := appS (decide ((((gt (tracks_124.set v154.toNat (gt tracks_124 v154)) v156).flatMap api_Mark.c)).length = (gt (tracks_124.set v154.toNat (gt tracks_124 v154)) v156).length * 2)) ((gt (tracks_124.set v154.toNat (gt tracks_124 v154)) v156).flatMap api_Mark.c) (gt (tracks_124.set v154.toNat (gt tracks_124 v154)) v156).length (fun z1 z2 => guardO (decide (0 + (gt (tracks_124.set v154.toNat (gt tracks_124 v154)) v154).length * 2 ≤ ((gt (tracks_124.set v154.toNat (gt tracks_124 v154)) v154).flatMap api_Mark.c).length) && decide (((gt (tracks_124.set v154.toNat (gt tracks_124 v154)) v154).length + z2) * 16 ≤ 140737488355328) && decide ((gt (tracks_124.set v154.toNat (gt tracks_124 v154)) v154).length + z2 ≤ 4611686018427387904)) (some (.eff (.hs 9 0 ((gt (tracks_124.set v154.toNat (gt tracks_124 v154)) v154).length + z2) 2) [(7, .dead), (9, .own ((((gt (tracks_124.set v154.toNat (gt tracks_124 v154)) v154).flatMap api_Mark.c).drop 0).take ((gt (tracks_124.set v154.toNat (gt tracks_124 v154)) v154).length * 2) ++ z1))])))) (by kernel_rfl) (appS_t (flat_lenB api_Mark.len) rfl (app_own (l := gt (tracks_124.set v154.toNat (gt tracks_124 v154)) v154) (xs := gt (tracks_124.set v154.toNat (gt tracks_124 v154)) v156) api_Mark.len rfl rfl rfl hg170 hg171))) (by kernel_rfl) (.pure (v := .hp 1 (0 + v154.toNat * 1)) (by kernel_rfl) (tr (ofP_guard hg159)) (by kernel_rfl) ?_))))))))
      refine .eff (v := .unk) (ws := [(1, .rows (((rws 2 api_Mark.c (tracks_124.set v154.toNat (gt tracks_124 v154))).set v154.toNat (.av (.hs 9 0 ((gt (tracks_124.set v154.toNat (gt tracks_124 v154)) v154) ++ (gt (tracks_124.set v154.toNat (gt tracks_124 v154)) v156)).length 2))).set v156.toNat (.av (slT api_Mark.c (gt (tracks_124.set v154.toNat (gt tracks_124 v154)) v156)))))]) (by kernel_rfl) (Eq.trans (b := stO (decide (0 + v154.toNat * 1 < (((rws 2 api_Mark.c (tracks_124.set v154.toNat (gt tracks_124 v154))).set v154.toNat (.av (.hs 7 0 (gt (tracks_124.set v154.toNat (gt tracks_124 v154)) v154).length 2))).set v156.toNat (.av (slT api_Mark.c (gt (tracks_124.set v154.toNat (gt tracks_124 v154)) v156)))).length) && true) [(1, .rows ((((rws 2 api_Mark.c (tracks_124.set v154.toNat (gt tracks_124 v154))).set v154.toNat (.av (.hs 7 0 (gt (tracks_124.set v154.toNat (gt tracks_124 v154)) v154).length 2))).set v156.toNat (.av (slT api_Mark.c (gt (tracks_124.set v154.toNat (gt tracks_124 v154)) v156)))).set (0 + v154.toNat * 1) (.av (.hs 9 0 ((gt (tracks_124.set v154.toNat (gt tracks_124 v154)) v154) ++ (gt (tracks_124.set v154.toNat (gt tracks_124 v154)) v156)).length 2))))]) (by kernel_rfl) (rstI (inR_set hg159) hg168 hg169 (by omega))) (by kernel_rfl) ?_
      refine .done ⟨by kernel_rfl, ?_⟩
      refine .nh [3, 12, 44, 45, 46] [.own [.hs 1 0 tracks_124.length 1], .rows (((rws 2 api_Mark.c (tracks_124.set v154.toNat (gt tracks_124 v154))).set v154.toNat (.av (.hs 9 0 ((gt (tracks_124.set v154.toNat (gt tracks_124 v154)) v154) ++ (gt (tracks_124.set v154.toNat (gt tracks_124 v154)) v156)).length 2))).set v156.toNat (.av (slT api_Mark.c (gt (tracks_124.set v154.toNat (gt tracks_124 v154)) v156)))), .own (v121.flatMap api_Tie.c), .own (api_Tie.c (gt v121 x_125)), .own [aI64 v156], .dead, .own (v160.flatMap (iC .i64)), .dead, .fix ((gt (tracks_124.set v154.toNat (gt tracks_124 v154)) v156).flatMap api_Mark.c), .own (((gt (tracks_124.set v154.toNat (gt tracks_124 v154)) v154) ++ (gt (tracks_124.set v154.toNat (gt tracks_124 v154)) v156)).flatMap api_Mark.c)] (.wk ((Wk.closeP 1 9 (x := (gt (tracks_124.set v154.toNat (gt tracks_124 v154)) v154) ++ (gt (tracks_124.set v154.toNat (gt tracks_124 v154)) v156)) (S := slT api_Mark.c (gt (tracks_124.set v154.toNat (gt tracks_124 v154)) v156)) (es := 2) (c := api_Mark.c) (e := tracks_124.set v154.toNat (gt tracks_124 v154)) (i := v154) (j := v156) (len := ((gt (tracks_124.set v154.toNat (gt tracks_124 v154)) v154) ++ (gt (tracks_124.set v154.toNat (gt tracks_124 v154)) v156)).length) api_Mark.pure (inR_set hg159) hg168 hg169 rfl).to (c := ⟨mkS 89 0 [(3, .hp 0 0), (12, .hp 4 0), (44, .hs 2 0 v121.length 5), (45, aI64 (v119.length : Int)), (46, aI64 x_125)], [.own [.hs 1 0 tracks_124.length 1], .rows ((rws 2 api_Mark.c ((tracks_124.set v154.toNat (gt tracks_124 v154)).set v154.toNat ((gt (tracks_124.set v154.toNat (gt tracks_124 v154)) v154) ++ (gt (tracks_124.set v154.toNat (gt tracks_124 v154)) v156)))).set v156.toNat (.av (slT api_Mark.c (gt (tracks_124.set v154.toNat (gt tracks_124 v154)) v156)))), .own (v121.flatMap api_Tie.c), .own (api_Tie.c (gt v121 x_125)), .own [aI64 v156], .dead, .own (v160.flatMap (iC .i64)), .dead, .fix ((gt (tracks_124.set v154.toNat (gt tracks_124 v154)) v156).flatMap api_Mark.c), .dead]⟩) (by kernel_rfl)) ?_)
      obtain ⟨v172, hc173, hr⟩ := bd hr
      refine .g1 G (callOk_mutU (args := [.hs 1 0 tracks_124.length 1, aI64 v156, aI64 (wrapF .i64 (v156 + 1))]) 0 1 [(1, false)] [false] (slices_Delete_fiducial_api_Mark_fiducial_api_Mark_w_ok n ((tracks_124.set v154.toNat (gt tracks_124 v154)).set v154.toNat ((gt (tracks_124.set v154.toNat (gt tracks_124 v154)) v154) ++ (gt (tracks_124.set v154.toNat (gt tracks_124 v154)) v156))) (gt (tracks_124.set v154.toNat (gt tracks_124 v154)) v156) v156 (wrapF .i64 (v156 + 1)) v172 hc173) (by exact ⟨(rwsP_ids api_Mark.pure), trivial⟩) (by exact ⟨rws_ids, trivial⟩) rfl rfl (by rw [(List.length_set.trans (List.length_set.trans rfl))]; kernel_rfl) (by kernel_rfl)) <| .mu 4 <| .ca cf0 <| .mu 1 <| .done <| .pop <| .ru G ?_
      exact loopF_back (v172, wrapF .i64 (x_125 + 1)) hr ((Wk.gc [3, 44, 45, 46] [(0, true), (10, false), (2, false)] rfl (pKt (pKr 2 api_Mark.c v172 (pKo api_Tie.c api_Tie.pure v121 trivial)))).to)
   ·refine .leave rfl ?_
    obtain rfl := oi hr
    exact ⟨rfl, ((Wk.gc [3] [(0, true), (1, false)] rfl (pKt (pKr 2 api_Mark.c tracks_124 trivial))).to)⟩
  ·rintro x st' hq176
   clear hL175
   obtain ⟨rfl, hq176⟩ := hq176
   refine CQ_exit _ rfl (.wk hq176 (.seq (.r3 G 89 [(2, .hs 1 0 tracks_149.length 1)] (.ret ?_))))
   obtain rfl := oi hr
   exact FinQ.ret (vs := [.hs 1 0 tracks_149.length 1]) (by kernel_rfl) (Sn.rw (es := 2) (c := api_Mark.c) (e := tracks_149))

theorem fiduciallaw26_refused_ok (n : Nat) (l : List api_Tie) (r : List api_Tie) (hr : fiduciallaw26_refused n l = some r) : FnOk Try.prog 41 [slT api_Tie.c l] (slT api_Tie.c r) := by
 unfold fiduciallaw26_refused at hr
 refine FnOk.bd G Try.func41 [.tmp 2] ?_
 unfold Try.f41
 simp only [Option.getD_some]
 refine .seq (.r4 G [0] [] (.seq ?_))
 obtain ⟨v1, hc2, hr⟩ := bd hr
 refine .g1 G (ok0 (fiduciallaw26_all_ok n l v1 hc2)) (.mu 1 (.ca cf0 (.mu 1 (.done (.nh [0, 3] [] (.seq (.r4 G [0, 3] [(4, nS)] (.seq (.seq (.r4 G [3, 4] [(9, slT api_Tie.c l), (10, aI64 (l.length : Int)), (11, aI64 0)] (.block ?_)))))))))))
 replace hr := bd hr; obtain ⟨out_15, hL28, hr⟩ := hr
 refine .loopO (σ := fun z0 => match z0 with | (out_3, x_4) => ⟨mkS 33 0 [(3, slT (slC api_Mark.c) v1), (4, .hs 0 0 out_3.length 5), (9, slT api_Tie.c l), (10, aI64 (l.length : Int)), (11, aI64 x_4)], [.own (out_3.flatMap api_Tie.c)]⟩) (Q := fun x st' => x = .exit 0 ∧ Wk 0 st' ⟨mkS 33 0 [(4, .hs 0 0 out_15.length 5)], [.own (out_15.flatMap api_Tie.c)]⟩) hL28 ((Wk.nil 4 5 (by kernel_rfl)).trans ((Wk.gc [3, 4, 9, 10, 11] [(0, false)] rfl (pKc trivial)).to)) ?_ ?_
 ·clear hr
  rintro m ⟨out_3, x_4⟩ hr
  show CQ _ _ _ _ _ ⟨_, _⟩
  refine .seq (.r4 G [3, 4, 9, 10, 11] [(12, aB (decide (x_4 < (l.length : Int))))] (.seq ?_))
  refine .cd hr (fun hb18 hr => ?_) (fun hb18 hr => ?_)
  ·refine .skip (.seq (.block (.seq ?_)))
   obtain ⟨hg19, hr⟩ := gd hr
   refine .r0 G (.p0 (v := .pp (l.flatMap api_Tie.c) (x_4.toNat * 5)) (tr (ofP_guard hg19)) (.p0 (v := .agg (api_Tie.c (gt l x_4))) (Eq.trans (b := ORes.ofP (guardV (decide (5 ≤ ((l.flatMap api_Tie.c).drop (x_4.toNat * 5)).length)) (.agg (((l.flatMap api_Tie.c).drop (x_4.toNat * 5)).take 5)))) (by kernel_rfl) (flat_load api_Tie.len (inR_lt hg19) (by decide) (by omega : x_4.toNat * 5 = x_4.toNat * 5 + 0) (by kernel_rfl))) (.mu 2 (.done (.nh [3, 4, 6, 9, 10, 11] [.own (out_3.flatMap api_Tie.c), .own (api_Tie.c (gt l x_4))] (.seq ?_))))))
   obtain ⟨v20, hc21, v22, hc23, hr⟩ := bd2 hr
   refine .tn G (ca1 (ok0 (fiduciallaw26_where_ok n v1 (gt l x_4).A v20 hc21)) (ca3 (ok0 (fiduciallaw26_where_ok n v1 (gt l x_4).B v22 hc23)))) (.mu 3 (.ca cf0 (.mu 3 (.ca (cfA (fun h => by rw [sv hc23 hc21 (fiduciallaw26_where_cg n h)]) cf0) (.mu 1 ?_)))))
   refine .done ⟨by kernel_rfl, ?_⟩
   refine .nh [3, 4, 6, 9, 10, 11, 23] [.own (out_3.flatMap api_Tie.c), .own (api_Tie.c (gt l x_4))] ?_
   refine .cd hr (fun hb24 hr => ?_) (fun hb24 hr => ?_)
   ·obtain ⟨hg25, hg26, hr⟩ := gd2 hr
    refine .r0 G (.mu 3 (.e0 (v := .hs 3 0 (out_3 ++ [(gt l x_4)]).length 5) (ws := [(0, .dead), (3, .own ((out_3 ++ [(gt l x_4)]).flatMap api_Tie.c))]) (tr (app_own (new := (api_Tie.c (gt l x_4))) (l := out_3) (xs := [(gt l x_4)]) api_Tie.len rfl rfl (by kernel_rfl) hg25 hg26)) (.mu 1 (.done (.pop (.ru G ?_))))))
    exact loopF_back (out_3 ++ [(gt l x_4)], wrapF .i64 (x_4 + 1)) hr ((Wk.gc [3, 4, 9, 10, 11] [(3, false)] rfl (pKo api_Tie.c api_Tie.pure (out_3 ++ [(gt l x_4)]) trivial)).to)
   ·refine .skip (.pop (.ru G ?_))
    exact loopF_back (out_3, wrapF .i64 (x_4 + 1)) hr ((Wk.gc [3, 4, 9, 10, 11] [(0, false)] rfl (pKo api_Tie.c api_Tie.pure out_3 trivial)).to)
  ·refine .leave rfl ?_
   obtain rfl := oi hr
   exact ⟨rfl, ((Wk.gc [4] [(0, false)] rfl (pKo api_Tie.c api_Tie.pure out_3 trivial)).to)⟩
 ·rintro x st' hq29
  clear hL28
  obtain ⟨rfl, hq29⟩ := hq29
  refine CQ_exit _ rfl (.wk hq29 (.seq ?_))
  obtain ⟨v30, hc31, hr⟩ := bd hr
  obtain ⟨hg32, hr⟩ := gd hr
  refine .g1 G (callOk_mutU (args := [.hs 0 0 out_15.length 5, .fn 70 [] []]) 1 0 [(0, false)] [false] (slices_SortFunc_fiducial_api_Tie_fiducial_api_Tie_w_of_fiduciallaw26_order_ok n out_15 v30 hc31) (by exact ⟨ids_flat api_Tie.pure _, trivial⟩) (by exact ⟨ids_flat api_Tie.pure _, trivial⟩) rfl rfl (by kernel_rfl) (by kernel_rfl)) (.mu 1 (.ca cf0 (.done (.nh [4] [.own (v30.flatMap api_Tie.c)] (.seq ?_)))))
  obtain ⟨v33, hc34, hr⟩ := bd hr
  refine .g1 G (callOk_mutU (args := [.hs 0 0 out_15.length 5]) 1 0 [(0, false)] [false] (slices_Compact_fiducial_api_Tie_fiducial_api_Tie_w_ok n v30 v33 hc34) (by exact ⟨ids_flat api_Tie.pure _, trivial⟩) (by exact ⟨ids_flat api_Tie.pure _, trivial⟩) rfl rfl (by rw [(of_decide_eq_true hg32)]; kernel_rfl) (by kernel_rfl)) <| .mu 1 <| .ca cf0 <| .mu 1 <| .done <| .nh [2] [.own (v33.flatMap api_Tie.c)] <| .ret ?_
  obtain rfl := oi hr
  exact FinQ.ret (vs := [.hs 0 0 v33.length 5]) (by kernel_rfl) (Sn.hs rfl (.inl rfl) (SnC.pure (ids_flat api_Tie.pure _)) (fun h => flat_nil0 h))

theorem slices_Equal_fiducial_api_Tie_fiducial_api_Tie_ok (n : Nat) (s1 : List api_Tie) (s2 : List api_Tie) (r : Bool) (hr : slices_Equal_fiducial_api_Tie_fiducial_api_Tie n s1 s2 = some r) : FnOk Try.prog 22 [slT api_Tie.c s1, slT api_Tie.c s2] (aB r) := by
 unfold slices_Equal_fiducial_api_Tie_fiducial_api_Tie at hr
 refine FnOk.bd G Try.func22 [.tmp 4] ?_
 unfold Try.f22
 simp only [Option.getD_some]
 refine .seq (.r4 G [0, 1] [] (.seq (.seq (.r4 G [0, 1] [(10, aB (((s1.length : Int) : Int) != (s2.length : Int)))] ?_))))
 refine .cd hr (fun hb1 hr => ?_) (fun hb1 hr => ?_)
 ·refine .seq (.ru G (.ret ?_))
  obtain rfl := oi hr
  exact FinQ.r1 [aB false]
 ·refine .skip (.seq (.seq (.r4 G [0, 1] [(12, aI64 (s1.length : Int)), (13, aI64 0)] (.block ?_))))
  replace hr := bd hr; obtain ⟨o12, hL13, hr⟩ := hr
  refine .loopO (σ := fun z0 => match z0 with | x_2 => ⟨mkS 26 0 [(0, slT api_Tie.c s1), (1, slT api_Tie.c s2), (12, aI64 (s1.length : Int)), (13, aI64 x_2)], []⟩) (Q := fun x st' => match (generalizing := false) o12 with | .inl _ => x = .exit 0 ∧ Wk 0 st' ⟨mkS 26 0 [], []⟩ | .inr (r0) => x = .ret ∧ FinQ Try.prog [.tmp 4] (aB r0) .ret st') hL13 ((Wk.gc [0, 1, 12, 13] [] rfl pK0).to) ?_ ?_
  ·clear hr
   rintro m x_2 hr
   show CQ _ _ _ _ _ ⟨_, _⟩
   refine .seq (.r4 G [0, 1, 12, 13] [(14, aB (decide (x_2 < (s1.length : Int))))] (.seq ?_))
   refine .cd hr (fun hb8 hr => ?_) (fun hb8 hr => ?_)
   ·refine .skip (.seq (.block (.seq (.r4 G [0, 1, 12, 13] [(5, aI64 x_2)] (.seq ?_)))))
    obtain ⟨hg9, hg10, hr⟩ := gd2 hr
    refine .regionT G callOf_nil (.mu 2 (.pure (v := .pp (s1.flatMap api_Tie.c) (x_2.toNat * 5)) (by kernel_rfl) (tr (ofP_guard hg9)) (by kernel_rfl) (.pure (v := .agg (api_Tie.c (gt s1 x_2))) (by kernel_rfl) (Eq.trans (b := ORes.ofP (guardV (decide (5 ≤ ((s1.flatMap api_Tie.c).drop (x_2.toNat * 5)).length)) (.agg (((s1.flatMap api_Tie.c).drop (x_2.toNat * 5)).take 5)))) (by kernel_rfl) (flat_load api_Tie.len (inR_lt hg9) (by decide) (by omega : x_2.toNat * 5 = x_2.toNat * 5 + 0) (by kernel_rfl))) (by kernel_rfl) (.mu 2 (.pure (v := .pp (s2.flatMap api_Tie.c) (x_2.toNat * 5)) (by kernel_rfl) (tr (ofP_guard hg10)) (by kernel_rfl) (.pure (v := .agg (api_Tie.c (gt s2 x_2))) (by kernel_rfl) (Eq.trans (b := ORes.ofP (guardV (decide (5 ≤ ((s2.flatMap api_Tie.c).drop (x_2.toNat * 5)).length)) (.agg (((s2.flatMap api_Tie.c).drop (x_2.toNat * 5)).take 5)))) (by kernel_rfl) (flat_load api_Tie.len (inR_lt hg10) (by decide) (by omega : x_2.toNat * 5 = x_2.toNat * 5 + 0) (by kernel_rfl))) (by kernel_rfl) (.mu 1 ?_)))))))
    refine .done ⟨by kernel_rfl, ?_⟩
    refine .nh [0, 1, 12, 13, 24] [] ?_
    refine .cd hr (fun hb11 hr => ?_) (fun hb11 hr => ?_)
    ·refine .seq (.ru G (.ret ?_))
     obtain rfl := oi hr
     exact ⟨rfl, FinQ.ret (vs := [aB false]) (by kernel_rfl) (Sn.pure rfl)⟩
    ·refine .skip (.pop (.ru G ?_))
     exact loopF_back (wrapF .i64 (x_2 + 1)) hr ((Wk.gc [0, 1, 12, 13] [] rfl pK0).to)
   ·refine .leave rfl ?_
    obtain rfl := oi hr
    exact ⟨rfl, ((Wk.gc [] [] rfl pK0).to)⟩
  ·rcases o12 with ⟨⟩ | r0
   ·rintro x st' hq14
    clear hL13
    obtain ⟨rfl, hq14⟩ := hq14
    refine CQ_exit _ rfl (.wk hq14 (.seq (.ru G (.ret ?_))))
    obtain rfl := oi hr
    exact FinQ.r1 [aB true]
   ·rintro x st' hq14
    clear hL13
    obtain ⟨rfl, hq14⟩ := hq14
    obtain rfl := oi hr
    exact CQ_ret _ hq14

theorem fiduciallaw26_TrackChains_ok (n : Nat) (l : List api_Tie) (r : Bool) (hr : fiduciallaw26_TrackChains n l = some r) : FnOk Try.prog 8 [slT api_Tie.c l] (aB r) := by
 unfold fiduciallaw26_TrackChains at hr
 refine FnOk.bd G Try.func8 [.tmp 2] ?_
 unfold Try.f8
 simp only [Option.getD_some]
 refine .seq (.r4 G [0] [] (.seq (.seq ?_)))
 obtain ⟨v1, hc2, hr⟩ := bd hr
 refine .g1 G (ok0 (fiduciallaw26_known_ok n v1 hc2)) (.ca cf0 (.mu 1 (.done (.nh [0, 9] [] ?_))))
 refine .cd hr (fun hb4 hr => ?_) (fun hb4 hr => ?_)
 ·refine .seq (.ru G (.ret ?_))
  obtain rfl := oi hr
  exact FinQ.r1 [aB false]
 ·refine .skip (.seq (.seq ?_))
  obtain ⟨v5, hc6, hr⟩ := bd hr
  refine .g1 G (ok0 (fiduciallaw26_few_ok n l v5 hc6)) (.mu 1 (.ca cf0 (.mu 1 (.done (.nh [0, 12] [] ?_)))))
  refine .cd hr (fun hb8 hr => ?_) (fun hb8 hr => ?_)
  ·refine .seq (.ru G (.ret ?_))
   obtain rfl := oi hr
   exact FinQ.r1 [aB true]
  ·refine .skip (.seq ?_)
   obtain ⟨v9, hc10, hr⟩ := bd hr
   refine .g1 G (ok0 (track_Chain_ok n l v9 hc10)) (.mu 1 (.ca cf0 (.mu 5 (.done (.nh [0, 3, 4] [] (.seq ?_))))))
   obtain ⟨v11, hc12, hr⟩ := bd hr
   refine .g1 G (ok0 (track_Refused_ok n l v11 hc12)) (.mu 1 (.ca cf0 (.mu 5 (.done (.nh [0, 3, 4, 5, 6] [] (.seq ?_))))))
   obtain ⟨v13, hc14, hr⟩ := bd hr
   refine .g1 G (ok0 (fiduciallaw26_Checked_ok n l v13 hc14)) (.mu 1 (.ca cf0 (.mu 1 (.done (.nh [0, 3, 4, 5, 6, 7] [] (.seq (.seq ?_)))))))
   obtain ⟨v15, hc16, hr⟩ := bd hr
   rcases Bool.eq_false_or_eq_true ((v15 : Int) != v13) with hb17 | hb17
   ·replace hr := cd_t hb17 hr
    refine .g1 G (ok0 (track_Check_ok n l v15 hc16)) (.mu 1 (.ca cf0 (.mu 1 (.p0 (v := aB true) (eB hb17) (.mu 10 (.done (.nh [0, 3, 5, 7, 38] [] (.cT (by kernel_rfl) (.seq (.ru G (.ret ?_)))))))))))
    obtain rfl := oi hr
    exact FinQ.r1 [aB false]
   ·replace hr := cd_f hb17 hr
    rcases Bool.eq_false_or_eq_true ((v9.2 : Int) != v13) with hb18 | hb18
    ·replace hr := cd_t hb18 hr
     refine .g1 G (ok0 (track_Check_ok n l v15 hc16)) (.mu 1 (.ca cf0 (.mu 1 (.p0 (v := aB false) (eB hb17) (.mu 3 (.pure (v := aB true) (by kernel_rfl) (eB hb18) (.mu 6 (.done (.nh [0, 3, 5, 7, 38] [] (.cT (by kernel_rfl) (.seq (.ru G (.ret ?_)))))))))))))
     obtain rfl := oi hr
     exact FinQ.r1 [aB false]
    ·replace hr := cd_f hb18 hr
     refine .g1 G (ok0 (track_Check_ok n l v15 hc16)) (.mu 1 (.ca cf0 (.mu 1 (.p0 (v := aB false) (eB hb17) (.mu 3 (.pure (v := aB false) (by kernel_rfl) (eB hb18) (.mu 6 (.done (.nh [0, 3, 5, 7, 38] [] ?_)))))))))
     refine .cd hr (fun hb20 hr => ?_) (fun hb20 hr => ?_)
     ·refine .seq (.ru G (.ret ?_))
      obtain rfl := oi hr
      exact FinQ.r1 [aB false]
     ·refine .skip (.seq (.seq (.r4 G [0, 3, 5] [(40, aB ((v13 : Int) != 0))] ?_)))
      refine .cd hr (fun hb21 hr => ?_) (fun hb21 hr => ?_)
      ·refine .seq ?_
       rcases Bool.eq_false_or_eq_true (((v9.1.length : Int) : Int) == 0) with hb22 | hb22
       ·replace hr := cd_t hb22 hr
        refine .r0 G (.mu 2 (.p0 (v := aB true) (eB hb22) (.mu 6 (.done (.ret ?_)))))
        obtain rfl := oi hr
        exact FinQ.r1 [aB (((v11.1.length : Int) : Int) == 0)]
       ·replace hr := cd_f hb22 hr
        refine .r0 G (.mu 2 (.p0 (v := aB false) (eB hb22) (.mu 6 (.done (.ret ?_)))))
        obtain rfl := oi hr
        exact FinQ.r1 [aB false]
      ·refine .skip (.seq ?_)
       obtain ⟨v23, hc24, v25, hc26, hr⟩ := bd2 hr
       rcases Bool.eq_false_or_eq_true v25 with hb27 | hb27
       ·subst hb27
        replace hr := cd_t rfl hr
        obtain ⟨v28, hc29, v30, hc31, hr⟩ := bd2 hr
        refine .gn G (ca1 (ok0 (fiduciallaw26_Chained_ok n l v23 hc24)) (ca1 (ok0 (fiduciallaw26_Same_ok n v9.1 v23 true hc26)) (ca1 (ok0 (fiduciallaw26_refused_ok n l v28 hc29)) (ca3 (ok0 (slices_Equal_fiducial_api_Tie_fiducial_api_Tie_ok n v11.1 v28 v30 hc31)))))) (.mu 2 (.ca cf0 (.ca (cfF cf0) (.mu 3 (.ca (cfF (cfF cf0)) (.ca (cfF (cfF (cfF cf0))) (.mu 2 (.done (.ret ?_)))))))))
        obtain rfl := oi hr
        exact FinQ.r1 [aB v30]
       ·subst hb27
        replace hr := cd_f rfl hr
        refine .gn G (ca1 (ok0 (fiduciallaw26_Chained_ok n l v23 hc24)) (ca3 (ok0 (fiduciallaw26_Same_ok n v9.1 v23 false hc26)))) (.mu 2 (.ca cf0 (.ca (cfF cf0) (.mu 7 (.done (.ret ?_))))))
        obtain rfl := oi hr
        exact FinQ.r1 [aB false]
end Go.L
