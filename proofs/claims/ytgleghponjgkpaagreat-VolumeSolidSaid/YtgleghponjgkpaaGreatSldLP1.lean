/- The program's functions compute what the plain Lean programs compute, part 1; printed by a program. -/
import Derived.Test.YtgleghponjgkpaaGreatSldLD
import Derived.Test.YtgleghponjgkpaaGreatL0aioapeic
import Derived.Test.YtgleghponjgkpaaGreatChecked
import Derived.KernelRfl
set_option linter.all false
set_option maxRecDepth 100000
set_option maxHeartbeats 4000000
namespace Go.L
open Go Go.Eng Go.Proofs
theorem fiducialref01_made_ok (n : Nat) (negative : Bool) (l : List Int) (r : api_Int) (hr : fiducialref01_made n negative l = some r) : FnOk Tryz.prog 69 [aB negative, sU32 l] (.agg (api_Int.c r)) := by
 unfold fiducialref01_made at hr
 refine FnOk.bd G Tryz.func69 [.cell 4 31] ?_
 unfold Tryz.f69
 simp only [gS]
 refine .seq (.r5 G [0, 1] [(4, .hp 0 0)] [.own [aB false, nS]] (.seq (.r4 G [0, 1, 4] [(5, aI64 (l.length : Int))] (.seq (.block ?_)))))
 replace hr := bd hr; obtain ⟨n_5, hL11, hr⟩ := hr
 refine .loopO (σ := fun z0 => match z0 with | n_1 => ⟨mkS 31 0 [(0, aB negative), (1, sU32 l), (4, .hp 0 0), (5, aI64 n_1)], [.own [aB false, nS]]⟩) (Q := fun x st' => x = .exit 0 ∧ Wk 0 st' ⟨mkS 31 0 [(0, aB negative), (1, sU32 l), (4, .hp 0 0), (5, aI64 n_5)], [.own [aB false, nS]]⟩) hL11 ((Wk.gc [0, 1, 4, 5] [(0, true)] rfl trivial).to) ?_ ?_
 ·clear hr
  rintro m n_1 hr
  show CQ _ _ _ _ _ ⟨_, _⟩
  refine .seq (.seq ?_)
  rcases bT (decide (n_1 > 0)) with hb7 | hb7
  ·replace hr := cd_t hb7 hr
   obtain ⟨hg8, hr⟩ := gd hr
   refine .r0 G (.mu 1 (.p0 (v := aB true) (eB hb7) (.mu 4 (.pure (v := .pp (l.flatMap (iC .u32)) ((wrapF .i64 (n_1 - 1)).toNat * 1)) (by kernel_rfl) (tr (ofP_guard hg8)) (.pure (v := aU32 (gt l (wrapF .i64 (n_1 - 1)))) (by kernel_rfl) (tr (ofP_some (flat_get (iC_len .u32) (inR_lt hg8) (by decide : 0 < 1) (by omega : (wrapF .i64 (n_1 - 1)).toNat * 1 = (wrapF .i64 (n_1 - 1)).toNat * 1 + 0) (by kernel_rfl)))) (.mu 2 (.done (.nh [0, 1, 4, 5, 17] [.own [aB false, nS]] ?_))))))))
   refine .cd hr ?_ ?_ <;> intro hb9 hr
   ·refine .skip (.block (.ru G (.pop ?_)))
    exact loopF_back (wrapF .i64 (n_1 - 1)) hr ((Wk.gc [0, 1, 4, 5] [(0, true)] rfl trivial).to)
   ·refine .leave rfl ?_
    obtain rfl := oi hr
    exact ⟨rfl, ((Wk.gc [0, 1, 4, 5] [(0, true)] rfl trivial).to)⟩
  ·replace hr := cd_f hb7 hr
   refine .r0 G (.mu 1 (.p0 (v := aB false) (eB hb7) (.mu 8 (.done (.nh [0, 1, 4, 5, 17] [.own [aB false, nS]] (.cF (by kernel_rfl) (.leave rfl ?_)))))))
   obtain rfl := oi hr
   exact ⟨rfl, ((Wk.gc [0, 1, 4, 5] [(0, true)] rfl trivial).to)⟩
 ·rintro x st' hq12
  clear hL11
  obtain ⟨rfl, hq12⟩ := hq12
  refine CQ_exit _ rfl (.wk hq12 (.seq ?_))
  rcases bT negative with hb13 | hb13
  ·replace hr := cd_t hb13 hr
   obtain ⟨hg14, hg15, hg16, hr⟩ := gd3 hr
   refine .r0 G (.p0 (v := aB true) (eB hb13) (.mu 7 (.p0 (v := sU32 ((l.drop (0 : Int).toNat).take (n_5.toNat - (0 : Int).toNat))) (Eq.trans (b := slO (inS 0 n_5 l.length) (0 : Int).toNat n_5.toNat (fun z1 z2 => .sl true (((l.flatMap (iC .u32)).drop (z1 * 1)).take ((z2 - z1) * 1)) (z2 - z1))) (by kernel_rfl) (slO_t hg14 (sub_sl (iC_len _) (inS_le hg14)))) (.e0 (v := .hs 2 0 ((l.drop (0 : Int).toNat).take (n_5.toNat - (0 : Int).toNat)).length 1) (ws := [(1, .dead), (2, .own (((l.drop (0 : Int).toNat).take (n_5.toNat - (0 : Int).toNat)).flatMap (iC .u32)))]) (Eq.trans (b := appS (decide (((((l.drop (0 : Int).toNat).take (n_5.toNat - (0 : Int).toNat)).flatMap (iC .u32))).length = ((l.drop (0 : Int).toNat).take (n_5.toNat - (0 : Int).toNat)).length * 1)) (((l.drop (0 : Int).toNat).take (n_5.toNat - (0 : Int).toNat)).flatMap (iC .u32)) ((l.drop (0 : Int).toNat).take (n_5.toNat - (0 : Int).toNat)).length (fun z1 z2 => guardO (decide (0 + 0 * 1 ≤ (([] : List Int).flatMap (iC .u32)).length) && decide ((0 + z2) * 4 ≤ 140737488355328) && decide (0 + z2 ≤ 4611686018427387904)) (some (.eff (.hs 2 0 (0 + z2) 1) [(1, .dead), (2, .own (((([] : List Int).flatMap (iC .u32)).drop 0).take (0 * 1) ++ z1))])))) (by kernel_rfl) (appS_t (flat_lenB (iC_len _)) rfl (app_own (l := ([] : List Int)) (xs := (l.drop (0 : Int).toNat).take (n_5.toNat - (0 : Int).toNat)) (iC_len _) rfl rfl rfl hg15 hg16))) (.mu 2 (.done (.nh [4] [.own [aB (decide (n_5 > 0)), .hs 2 0 ((l.drop (0 : Int).toNat).take (n_5.toNat - (0 : Int).toNat)).length 1], .dead, .own (((l.drop (0 : Int).toNat).take (n_5.toNat - (0 : Int).toNat)).flatMap (iC .u32))] (.ret ?_))))))))
   obtain rfl := oi hr
   exact FinQ.ret (vs := [.agg [aB (decide (n_5 > 0)), .hs 2 0 ((l.drop (0 : Int).toNat).take (n_5.toNat - (0 : Int).toNat)).length 1]]) (by kernel_rfl) (Sn.agg (Sp (SnL.cons (Sn.hs rfl (.inl rfl) (SnC.pure (ids_flat (iC_pure _) _)) (fun h => flat_nil0 h)) SnL.nil)))
  ·replace hr := cd_f hb13 hr
   obtain ⟨hg17, hg18, hg19, hr⟩ := gd3 hr
   refine .r0 G (.p0 (v := aB false) (eB hb13) (.mu 7 (.p0 (v := sU32 ((l.drop (0 : Int).toNat).take (n_5.toNat - (0 : Int).toNat))) (Eq.trans (b := slO (inS 0 n_5 l.length) (0 : Int).toNat n_5.toNat (fun z1 z2 => .sl true (((l.flatMap (iC .u32)).drop (z1 * 1)).take ((z2 - z1) * 1)) (z2 - z1))) (by kernel_rfl) (slO_t hg17 (sub_sl (iC_len _) (inS_le hg17)))) (.e0 (v := .hs 2 0 ((l.drop (0 : Int).toNat).take (n_5.toNat - (0 : Int).toNat)).length 1) (ws := [(1, .dead), (2, .own (((l.drop (0 : Int).toNat).take (n_5.toNat - (0 : Int).toNat)).flatMap (iC .u32)))]) (Eq.trans (b := appS (decide (((((l.drop (0 : Int).toNat).take (n_5.toNat - (0 : Int).toNat)).flatMap (iC .u32))).length = ((l.drop (0 : Int).toNat).take (n_5.toNat - (0 : Int).toNat)).length * 1)) (((l.drop (0 : Int).toNat).take (n_5.toNat - (0 : Int).toNat)).flatMap (iC .u32)) ((l.drop (0 : Int).toNat).take (n_5.toNat - (0 : Int).toNat)).length (fun z1 z2 => guardO (decide (0 + 0 * 1 ≤ (([] : List Int).flatMap (iC .u32)).length) && decide ((0 + z2) * 4 ≤ 140737488355328) && decide (0 + z2 ≤ 4611686018427387904)) (some (.eff (.hs 2 0 (0 + z2) 1) [(1, .dead), (2, .own (((([] : List Int).flatMap (iC .u32)).drop 0).take (0 * 1) ++ z1))])))) (by kernel_rfl) (appS_t (flat_lenB (iC_len _)) rfl (app_own (l := ([] : List Int)) (xs := (l.drop (0 : Int).toNat).take (n_5.toNat - (0 : Int).toNat)) (iC_len _) rfl rfl rfl hg18 hg19))) (.mu 2 (.done (.nh [4] [.own [aB false, .hs 2 0 ((l.drop (0 : Int).toNat).take (n_5.toNat - (0 : Int).toNat)).length 1], .dead, .own (((l.drop (0 : Int).toNat).take (n_5.toNat - (0 : Int).toNat)).flatMap (iC .u32))] (.ret ?_))))))))
   obtain rfl := oi hr
   exact FinQ.ret (vs := [.agg [aB false, .hs 2 0 ((l.drop (0 : Int).toNat).take (n_5.toNat - (0 : Int).toNat)).length 1]]) (by kernel_rfl) (Sn.agg (Sp (SnL.cons (Sn.hs rfl (.inl rfl) (SnC.pure (ids_flat (iC_pure _) _)) (fun h => flat_nil0 h)) SnL.nil)))

theorem fiducialref01_Of_ok (n : Nat) (n' : Int) (r : api_Int) (hr : fiducialref01_Of n n' = some r) : FnOk Tryz.prog 21 [aI64 n'] (.agg (api_Int.c r)) := by
 unfold fiducialref01_Of at hr
 refine FnOk.bd G Tryz.func21 [.cell 2 31] ?_
 unfold Tryz.f21
 simp only [gS]
 refine .seq (.r5 G [0] [(2, .hp 0 0)] [.own [aB false, nS]] (.seq (.r4 G [0, 2] [(3, aU64 (wrapF .u64 n'))] (.seq (.seq (.r4 G [0, 2, 3] [(8, aB (decide (n' < 0)))] ?_))))))
 refine .cd hr ?_ ?_ <;> intro hb1 hr
 ·refine .r0 G (.mu 2 (.p0 (v := aI64 (wrapF .i64 (0 - (wrapF .i64 (n' + 1))))) (Eq.trans (b := some (.pure (aI64 (IntKind.wrap .i64 (0 - (wrapF .i64 (n' + 1))))))) (by kernel_rfl) wrap_at) (.mu 3 (.done (.nh [0, 2, 3] [.own [aB false, nS]] (.seq (.r5 G [0, 2, 3] [(4, .hs 1 0 0 1)] [.own [aB false, nS], .own []] (.seq (.block ?_)))))))))
  replace hr := bd hr; obtain ⟨l_7, hL13, hr⟩ := hr
  refine .loopO (σ := fun z0 => match z0 with | (u_2, l_3) => ⟨mkS 29 0 [(0, aI64 n'), (2, .hp 0 0), (3, aU64 u_2), (4, .hs 1 0 l_3.length 1)], [.own [aB false, nS], .own (l_3.flatMap (iC .u32))]⟩) (Q := fun x st' => x = .exit 0 ∧ Wk 0 st' ⟨mkS 29 0 [(0, aI64 n'), (2, .hp 0 0), (4, .hs 1 0 l_7.length 1)], [.own [aB false, nS], .own (l_7.flatMap (iC .u32))]⟩) hL13 ((Wk.gc [0, 2, 3, 4] [(0, true), (1, false)] rfl (pKt (pKc trivial))).to) ?_ ?_
  ·clear hr
   rintro m ⟨u_2, l_3⟩ hr
   show CQ _ _ _ _ _ ⟨_, _⟩
   refine .seq (.seq (.r4 G [0, 2, 3, 4] [(16, aB (decide (u_2 > 0)))] ?_))
   refine .cd hr ?_ ?_ <;> intro hb9 hr
   ·refine .skip (.block (.seq ?_))
    obtain ⟨hg10, hg11, hr⟩ := gd2 hr
    refine .r0 G (.mu 5 (.e0 (v := .hs 3 0 (l_3 ++ [wrapF .u32 (u_2.tmod 1000000000)]).length 1) (ws := [(1, .dead), (3, .own ((l_3 ++ [wrapF .u32 (u_2.tmod 1000000000)]).flatMap (iC .u32)))]) (tr (app_own (new := [aU32 (wrapF .u32 (u_2.tmod 1000000000))]) (l := l_3) (xs := [wrapF .u32 (u_2.tmod 1000000000)]) (iC_len .u32) rfl rfl (by kernel_rfl) hg10 hg11)) (.mu 1 (.done (.nh [0, 2, 3, 4] [.own [aB false, nS], .dead, .own [aU32 (wrapF .u32 (u_2.tmod 1000000000))], .own ((l_3 ++ [wrapF .u32 (u_2.tmod 1000000000)]).flatMap (iC .u32))] (.ru G (.pop ?_)))))))
    exact loopF_back (wrapF .u64 (u_2.tdiv 1000000000), l_3 ++ [wrapF .u32 (u_2.tmod 1000000000)]) hr ((Wk.gc [0, 2, 3, 4] [(0, true), (3, false)] rfl (pKt (pKo (iC .u32) (iC_pure _) (l_3 ++ [wrapF .u32 (u_2.tmod 1000000000)]) trivial))).to)
   ·refine .leave rfl ?_
    obtain rfl := oi hr
    exact ⟨rfl, ((Wk.gc [0, 2, 4] [(0, true), (1, false)] rfl (pKt (pKo (iC .u32) (iC_pure _) l_3 trivial))).to)⟩
  ·rintro x st' hq14
   clear hL13
   obtain ⟨rfl, hq14⟩ := hq14
   refine CQ_exit _ rfl (.wk hq14 (.seq ?_))
   obtain ⟨v15, hc16, hr⟩ := bd hr
   refine .g1 G (callOk_ref (args := [aB true, .hs 1 0 l_7.length 1]) (l := [1]) (Sp (SnL.cons (Sn.hs rfl (.inl rfl) (SnC.pure (ids_flat (iC_pure _) _)) (fun h => flat_nil0 h)) SnL.nil)) (fiducialref01_made_ok n true l_7 v15 hc16)) (.mu 1 (.p0 (v := aB true) (eB hb1) (.mu 1 (.ca cf0 (.mu 1 (.done (.nh [2] [.own (api_Int.c v15), .fix (l_7.flatMap (iC .u32))] (.ret ?_))))))))
   obtain rfl := oi hr
   exact FinQ.r1 [.agg (api_Int.c v15)]
 ·refine .skip (.seq (.r5 G [0, 2, 3] [(4, .hs 1 0 0 1)] [.own [aB false, nS], .own []] (.seq (.block ?_))))
  replace hr := bd hr; obtain ⟨l_22, hL28, hr⟩ := hr
  refine .loopO (σ := fun z0 => match z0 with | (u_17, l_18) => ⟨mkS 29 0 [(0, aI64 n'), (2, .hp 0 0), (3, aU64 u_17), (4, .hs 1 0 l_18.length 1)], [.own [aB false, nS], .own (l_18.flatMap (iC .u32))]⟩) (Q := fun x st' => x = .exit 0 ∧ Wk 0 st' ⟨mkS 29 0 [(0, aI64 n'), (2, .hp 0 0), (4, .hs 1 0 l_22.length 1)], [.own [aB false, nS], .own (l_22.flatMap (iC .u32))]⟩) hL28 ((Wk.gc [0, 2, 3, 4] [(0, true), (1, false)] rfl (pKt (pKc trivial))).to) ?_ ?_
  ·clear hr
   rintro m ⟨u_17, l_18⟩ hr
   show CQ _ _ _ _ _ ⟨_, _⟩
   refine .seq (.seq (.r4 G [0, 2, 3, 4] [(16, aB (decide (u_17 > 0)))] ?_))
   refine .cd hr ?_ ?_ <;> intro hb24 hr
   ·refine .skip (.block (.seq ?_))
    obtain ⟨hg25, hg26, hr⟩ := gd2 hr
    refine .r0 G (.mu 5 (.e0 (v := .hs 3 0 (l_18 ++ [wrapF .u32 (u_17.tmod 1000000000)]).length 1) (ws := [(1, .dead), (3, .own ((l_18 ++ [wrapF .u32 (u_17.tmod 1000000000)]).flatMap (iC .u32)))]) (tr (app_own (new := [aU32 (wrapF .u32 (u_17.tmod 1000000000))]) (l := l_18) (xs := [wrapF .u32 (u_17.tmod 1000000000)]) (iC_len .u32) rfl rfl (by kernel_rfl) hg25 hg26)) (.mu 1 (.done (.nh [0, 2, 3, 4] [.own [aB false, nS], .dead, .own [aU32 (wrapF .u32 (u_17.tmod 1000000000))], .own ((l_18 ++ [wrapF .u32 (u_17.tmod 1000000000)]).flatMap (iC .u32))] (.ru G (.pop ?_)))))))
    exact loopF_back (wrapF .u64 (u_17.tdiv 1000000000), l_18 ++ [wrapF .u32 (u_17.tmod 1000000000)]) hr ((Wk.gc [0, 2, 3, 4] [(0, true), (3, false)] rfl (pKt (pKo (iC .u32) (iC_pure _) (l_18 ++ [wrapF .u32 (u_17.tmod 1000000000)]) trivial))).to)
   ·refine .leave rfl ?_
    obtain rfl := oi hr
    exact ⟨rfl, ((Wk.gc [0, 2, 4] [(0, true), (1, false)] rfl (pKt (pKo (iC .u32) (iC_pure _) l_18 trivial))).to)⟩
  ·rintro x st' hq29
   clear hL28
   obtain ⟨rfl, hq29⟩ := hq29
   refine CQ_exit _ rfl (.wk hq29 (.seq ?_))
   obtain ⟨v30, hc31, hr⟩ := bd hr
   refine .g1 G (callOk_ref (args := [aB false, .hs 1 0 l_22.length 1]) (l := [1]) (Sp (SnL.cons (Sn.hs rfl (.inl rfl) (SnC.pure (ids_flat (iC_pure _) _)) (fun h => flat_nil0 h)) SnL.nil)) (fiducialref01_made_ok n false l_22 v30 hc31)) (.mu 1 (.p0 (v := aB false) (eB hb1) (.mu 1 (.ca cf0 (.mu 1 (.done (.nh [2] [.own (api_Int.c v30), .fix (l_22.flatMap (iC .u32))] (.ret ?_))))))))
   obtain rfl := oi hr
   exact FinQ.r1 [.agg (api_Int.c v30)]

theorem fiducialref02_whole_inj {n' : Int} {n'_ : Int} (h : ([.at (.int .i64 n')] : List AV) = [.at (.int .i64 n'_)]) : n' = n'_ := by
 simp only [List.cons.injEq, AV.agg.injEq, AV.at.injEq, Value.int.injEq, Value.bool.injEq, AV.fn.injEq, AV.pp.injEq, true_and, and_true] at h
 simp_all
theorem fiducialref02_whole_cg (n : Nat) {n' : Int} {n'_ : Int} (h : ([.at (.int .i64 n')] : List AV) = [.at (.int .i64 n'_)]) : fiducialref02_whole n n' = fiducialref02_whole n n'_ := by
 obtain rfl := fiducialref02_whole_inj h
 rfl
theorem fiducialref02_whole_ok (n : Nat) (n' : Int) (r : api_Int) (hr : fiducialref02_whole n n' = some r) : FnOk Tryz.prog 56 [aI64 n'] (.agg (api_Int.c r)) := by
 unfold fiducialref02_whole at hr
 refine FnOk.bd G Tryz.func56 [.cell 2 31] ?_
 unfold Tryz.f56
 simp only [gS]
 refine .seq (.r5 G [0] [(2, .hp 0 0)] [.own [aB false, nS]] (.seq ?_))
 obtain ⟨v1, hc2, hr⟩ := bd hr
 refine .g1 G (ok0 (fiducialref01_Of_ok n n' v1 hc2)) (.mu 1 (.ca cf0 (.mu 1 (.done (.nh [2] [.own (api_Int.c v1)] (.ret ?_))))))
 obtain rfl := oi hr
 exact FinQ.r1 [.agg (api_Int.c v1)]

theorem fiducialref02_Whole_ok (n : Nat) (n' : Int) (r : api_Rat) (hr : fiducialref02_Whole n n' = some r) : FnOk Tryz.prog 30 [aI64 n'] (.agg (api_Rat.c r)) := by
 unfold fiducialref02_Whole at hr
 refine FnOk.bd G Tryz.func30 [.cell 2 33] ?_
 unfold Tryz.f30
 simp only [gS]
 refine .seq (.r5 G [0] [(2, .hp 0 0)] [.own [aB false, nS, aB false, nS]] (.seq ?_))
 obtain ⟨v1, hc2, v3, hc4, hr⟩ := bd2 hr
 refine .gn G (ca1 (ok0 (fiducialref02_whole_ok n n' v1 hc2)) (ca3 (ok0 (fiducialref02_whole_ok n 1 v3 hc4)))) (.mu 1 (.ca cf0 (.ca (cfA (fun h => by rw [sv hc4 hc2 (fiducialref02_whole_cg n h)]) cf0) (.mu 2 (.done (.nh [2] [.own [aB v1.Negative, sU32 v1.Groups, aB v3.Negative, sU32 v3.Groups]] (.ret ?_)))))))
 obtain rfl := oi hr
 exact FinQ.r1 [.agg [aB v1.Negative, sU32 v1.Groups, aB v3.Negative, sU32 v3.Groups]]

theorem fiducialref02_Int_inj {n' : Int} {n'_ : Int} (h : ([.at (.int .i64 n')] : List AV) = [.at (.int .i64 n'_)]) : n' = n'_ := by
 simp only [List.cons.injEq, AV.agg.injEq, AV.at.injEq, Value.int.injEq, Value.bool.injEq, AV.fn.injEq, AV.pp.injEq, true_and, and_true] at h
 simp_all
theorem fiducialref02_Int_cg (n : Nat) {n' : Int} {n'_ : Int} (h : ([.at (.int .i64 n')] : List AV) = [.at (.int .i64 n'_)]) : fiducialref02_Int n n' = fiducialref02_Int n n'_ := by
 obtain rfl := fiducialref02_Int_inj h
 rfl
theorem fiducialref02_Int_ok (n : Nat) (n' : Int) (r : api_Rat) (hr : fiducialref02_Int n n' = some r) : FnOk Tryz.prog 78 [aI64 n'] (.agg (api_Rat.c r)) := by
 unfold fiducialref02_Int at hr
 refine FnOk.bd G Tryz.func78 [.cell 2 33] ?_
 unfold Tryz.f78
 simp only [gS]
 refine .seq (.r5 G [0] [(2, .hp 0 0)] [.own [aB false, nS, aB false, nS]] (.seq ?_))
 obtain ⟨v1, hc2, hr⟩ := bd hr
 refine .g1 G (ok0 (fiducialref02_Whole_ok n n' v1 hc2)) (.mu 1 (.ca cf0 (.mu 1 (.done (.nh [2] [.own (api_Rat.c v1)] (.ret ?_))))))
 obtain rfl := oi hr
 exact FinQ.r1 [.agg (api_Rat.c v1)]

theorem integer_Valid_1_ok (n : Nat) (g : Int) (r : Bool) (hr : integer_Valid_1 n g = some r) : FnOk Tryz.prog 162 [aU32 g] (aB r) := by
 unfold integer_Valid_1 at hr
 refine FnOk.bd G Tryz.func162 [.tmp 2] ?_
 unfold Tryz.f162
 simp only [gS]
 refine .seq (.r4 G [0] [] (.seq (.ru G (.ret ?_))))
 obtain rfl := oi hr
 exact FinQ.r1 [aB (decide (g ≥ 1000000000))]

theorem slices_IndexFunc_uint32_uint32_of_integer_Valid_1_ok (n : Nat) (s : List Int) (r : Int) (hr : slices_IndexFunc_uint32_uint32_of_integer_Valid_1 n s = some r) : FnOk Tryz.prog 195 [sU32 s, .fn 162 [] []] (aI64 r) := by
 unfold slices_IndexFunc_uint32_uint32_of_integer_Valid_1 at hr
 refine FnOk.bd G Tryz.func195 [.tmp 4] ?_
 unfold Tryz.f195
 simp only [gS]
 refine .seq (.r4 G [0, 1] [] (.seq (.seq (.r4 G [0, 1] [(7, aI64 (s.length : Int)), (8, aI64 0)] (.block ?_)))))
 replace hr := bd hr; obtain ⟨o13, hL14, hr⟩ := hr
 refine .loopO (σ := fun z0 => match z0 with | x_1 => ⟨mkS 19 0 [(0, sU32 s), (1, .fn 162 [] []), (7, aI64 (s.length : Int)), (8, aI64 x_1)], []⟩) (Q := fun x st' => match (generalizing := false) o13 with | .inl _ => x = .exit 0 ∧ Wk 0 st' ⟨mkS 19 0 [], []⟩ | .inr (r0) => x = .ret ∧ FinQ Tryz.prog [.tmp 4] (aI64 r0) .ret st') hL14 ((Wk.gc [0, 1, 7, 8] [] rfl pK0).to) ?_ ?_
 ·clear hr
  rintro m x_1 hr
  show CQ _ _ _ _ _ ⟨_, _⟩
  refine .seq (.r4 G [0, 1, 7, 8] [(9, aB (decide (x_1 < (s.length : Int))))] (.seq ?_))
  refine .cd hr ?_ ?_ <;> intro hb8 hr
  ·refine .skip (.seq (.block (.seq (.r4 G [0, 1, 7, 8] [(5, aI64 x_1)] (.seq ?_)))))
   obtain ⟨hg9, hr⟩ := gd hr
   obtain ⟨v10, hc11, hr⟩ := bd hr
   refine .g1 G (ok0 (integer_Valid_1_ok n (gt s x_1) v10 hc11)) (.mu 3 (.p0 (v := .pp (s.flatMap (iC .u32)) (x_1.toNat * 1)) (tr (ofP_guard hg9)) (.p0 (v := aU32 (gt s x_1)) (tr (ofP_some (flat_get (iC_len .u32) (inR_lt hg9) (by decide : 0 < 1) (by omega : x_1.toNat * 1 = x_1.toNat * 1 + 0) (by kernel_rfl)))) (.ca cf0 (.done (.nh [0, 1, 5, 7, 8, 16] [] ?_))))))
   refine .cd hr ?_ ?_ <;> intro hb12 hr
   ·refine .seq (.ru G (.ret ?_))
    obtain rfl := oi hr
    exact ⟨rfl, FinQ.ret (vs := [aI64 x_1]) (by kernel_rfl) (Sn.pure rfl)⟩
   ·refine .skip (.pop (.ru G ?_))
    exact loopF_back (wrapF .i64 (x_1 + 1)) hr ((Wk.gc [0, 1, 7, 8] [] rfl pK0).to)
  ·refine .leave rfl ?_
   obtain rfl := oi hr
   exact ⟨rfl, ((Wk.gc [] [] rfl pK0).to)⟩
 ·rcases o13 with ⟨⟩ | r0
  ·rintro x st' hq15
   clear hL14
   obtain ⟨rfl, hq15⟩ := hq15
   refine CQ_exit _ rfl (.wk hq15 (.seq (.ru G (.ret ?_))))
   obtain rfl := oi hr
   exact FinQ.r1 [aI64 (-1)]
  ·rintro x st' hq15
   clear hL14
   obtain ⟨rfl, hq15⟩ := hq15
   obtain rfl := oi hr
   exact CQ_ret _ hq15

theorem slices_ContainsFunc_uint32_uint32_of_integer_Valid_1_ok (n : Nat) (s : List Int) (r : Bool) (hr : slices_ContainsFunc_uint32_uint32_of_integer_Valid_1 n s = some r) : FnOk Tryz.prog 161 [sU32 s, .fn 162 [] []] (aB r) := by
 unfold slices_ContainsFunc_uint32_uint32_of_integer_Valid_1 at hr
 refine FnOk.bd G Tryz.func161 [.tmp 4] ?_
 unfold Tryz.f161
 simp only [gS]
 refine .seq (.r4 G [0, 1] [] (.seq ?_))
 obtain ⟨v1, hc2, hr⟩ := bd hr
 refine .g1 G (ok0 (slices_IndexFunc_uint32_uint32_of_integer_Valid_1_ok n s v1 hc2)) (.mu 2 (.ca cf0 (.mu 2 (.done (.ret ?_)))))
 obtain rfl := oi hr
 exact FinQ.r1 [aB (decide (v1 ≥ 0))]

theorem integer_Valid_inj {x' : api_Int} {x'_ : api_Int} (h : ([.agg [.at (.bool x'.Negative), slT (iC .u32) x'.Groups]] : List AV) = [.agg [.at (.bool x'_.Negative), slT (iC .u32) x'_.Groups]]) : x' = x'_ := by
 obtain ⟨_, _⟩ := x'
 obtain ⟨_, _⟩ := x'_
 simp only [List.cons.injEq, AV.agg.injEq, AV.at.injEq, Value.int.injEq, Value.bool.injEq, AV.fn.injEq, AV.pp.injEq, true_and, and_true, slT_inj_int] at h
 simp_all
theorem integer_Valid_cg (n : Nat) {x' : api_Int} {x'_ : api_Int} (h : ([.agg [.at (.bool x'.Negative), slT (iC .u32) x'.Groups]] : List AV) = [.agg [.at (.bool x'_.Negative), slT (iC .u32) x'_.Groups]]) : integer_Valid n x' = integer_Valid n x'_ := by
 obtain rfl := integer_Valid_inj h
 rfl
theorem integer_Valid_ok (n : Nat) (x' : api_Int) (r : Bool) (hr : integer_Valid n x' = some r) : FnOk Tryz.prog 144 [.agg (api_Int.c x')] (aB r) := by
 unfold integer_Valid at hr
 refine FnOk.bd G Tryz.func144 [.tmp 2] ?_
 unfold Tryz.f144
 simp only [gS]
 refine .seq (.r2 G 25 [(1, .hp 0 0)] [.own (api_Int.c x')] (.seq (.r4 G [1] [(3, aI64 (x'.Groups.length : Int))] (.seq (.seq (.r4 G [1, 3] [(8, aB (((x'.Groups.length : Int) : Int) == 0))] ?_))))))
 refine .cd hr ?_ ?_ <;> intro hb1 hr
 ·refine .seq (.ru G (.ret ?_))
  obtain rfl := oi hr
  exact FinQ.r1 [aB (!x'.Negative)]
 ·refine .skip (.seq ?_)
  obtain ⟨hg2, hr⟩ := gd hr
  rcases bT (((gt x'.Groups (wrapF .i64 ((x'.Groups.length : Int) - 1))) : Int) != 0) with hb3 | hb3
  ·replace hr := cd_t hb3 hr
   obtain ⟨v4, hc5, hr⟩ := bd hr
   refine .g1 G (ok0 (slices_ContainsFunc_uint32_uint32_of_integer_Valid_1_ok n x'.Groups v4 hc5)) (.mu 4 (.p0 (v := .pp (x'.Groups.flatMap (iC .u32)) ((wrapF .i64 ((x'.Groups.length : Int) - 1)).toNat * 1)) (tr (ofP_guard hg2)) (.p0 (v := aU32 (gt x'.Groups (wrapF .i64 ((x'.Groups.length : Int) - 1)))) (tr (ofP_some (flat_get (iC_len .u32) (inR_lt hg2) (by decide : 0 < 1) (by omega : (wrapF .i64 ((x'.Groups.length : Int) - 1)).toNat * 1 = (wrapF .i64 ((x'.Groups.length : Int) - 1)).toNat * 1 + 0) (by kernel_rfl)))) (.p0 (v := aB true) (eB hb3) (.mu 3 (.ca cf0 (.mu 3 (.done (.ret ?_)))))))))
   obtain rfl := oi hr
   exact FinQ.r1 [aB (!v4)]
  ·replace hr := cd_f hb3 hr
   refine .r0 G (.mu 4 (.p0 (v := .pp (x'.Groups.flatMap (iC .u32)) ((wrapF .i64 ((x'.Groups.length : Int) - 1)).toNat * 1)) (tr (ofP_guard hg2)) (.p0 (v := aU32 (gt x'.Groups (wrapF .i64 ((x'.Groups.length : Int) - 1)))) (tr (ofP_some (flat_get (iC_len .u32) (inR_lt hg2) (by decide : 0 < 1) (by omega : (wrapF .i64 ((x'.Groups.length : Int) - 1)).toNat * 1 = (wrapF .i64 ((x'.Groups.length : Int) - 1)).toNat * 1 + 0) (by kernel_rfl)))) (.p0 (v := aB false) (eB hb3) (.mu 7 (.done (.ret ?_)))))))
   obtain rfl := oi hr
   exact FinQ.r1 [aB false]

theorem integer_groups_inj {x' : api_Int} {x'_ : api_Int} (h : ([.agg [.at (.bool x'.Negative), slT (iC .u32) x'.Groups]] : List AV) = [.agg [.at (.bool x'_.Negative), slT (iC .u32) x'_.Groups]]) : x' = x'_ := by
 obtain ⟨_, _⟩ := x'
 obtain ⟨_, _⟩ := x'_
 simp only [List.cons.injEq, AV.agg.injEq, AV.at.injEq, Value.int.injEq, Value.bool.injEq, AV.fn.injEq, AV.pp.injEq, true_and, and_true, slT_inj_int] at h
 simp_all
theorem integer_groups_cg (n : Nat) {x' : api_Int} {x'_ : api_Int} (h : ([.agg [.at (.bool x'.Negative), slT (iC .u32) x'.Groups]] : List AV) = [.agg [.at (.bool x'_.Negative), slT (iC .u32) x'_.Groups]]) : integer_groups n x' = integer_groups n x'_ := by
 obtain rfl := integer_groups_inj h
 rfl
theorem integer_groups_ok (n : Nat) (x' : api_Int) (r : List Int) (hr : integer_groups n x' = some r) : FnOk Tryz.prog 107 [.agg (api_Int.c x')] (sU32 r) := by
 unfold integer_groups at hr
 refine FnOk.bd G Tryz.func107 [.tmp 2] ?_
 unfold Tryz.f107
 simp only [gS]
 refine .seq (.r2 G 8 [(1, .hp 0 0)] [.own (api_Int.c x')] (.seq (.seq ?_)))
 obtain ⟨v1, hc2, hr⟩ := bd hr
 refine .g1 G (ok0 (integer_Valid_ok n x' v1 hc2)) (.mu 1 (.ca cf0 (.mu 1 (.done (.nh [1, 5] [.own (api_Int.c x')] ?_)))))
 refine .cd hr ?_ ?_ <;> intro hb3 hr
 ·refine .seq (.r3 G 8 [(2, nS)] (.ret ?_))
  obtain rfl := oi hr
  exact FinQ.ret (vs := [nS]) (by kernel_rfl) Sn.nilsl
 ·refine .skip (.seq (.ru G (.ret ?_)))
  obtain rfl := oi hr
  exact FinQ.r1 [sU32 x'.Groups]

theorem integer_Sign_inj {x' : api_Int} {x'_ : api_Int} (h : ([.agg [.at (.bool x'.Negative), slT (iC .u32) x'.Groups]] : List AV) = [.agg [.at (.bool x'_.Negative), slT (iC .u32) x'_.Groups]]) : x' = x'_ := by
 obtain ⟨_, _⟩ := x'
 obtain ⟨_, _⟩ := x'_
 simp only [List.cons.injEq, AV.agg.injEq, AV.at.injEq, Value.int.injEq, Value.bool.injEq, AV.fn.injEq, AV.pp.injEq, true_and, and_true, slT_inj_int] at h
 simp_all
theorem integer_Sign_cg (n : Nat) {x' : api_Int} {x'_ : api_Int} (h : ([.agg [.at (.bool x'.Negative), slT (iC .u32) x'.Groups]] : List AV) = [.agg [.at (.bool x'_.Negative), slT (iC .u32) x'_.Groups]]) : integer_Sign n x' = integer_Sign n x'_ := by
 obtain rfl := integer_Sign_inj h
 rfl
theorem integer_Sign_ok (n : Nat) (x' : api_Int) (r : Int) (hr : integer_Sign n x' = some r) : FnOk Tryz.prog 76 [.agg (api_Int.c x')] (aI64 r) := by
 unfold integer_Sign at hr
 refine FnOk.bd G Tryz.func76 [.tmp 2] ?_
 unfold Tryz.f76
 simp only [gS]
 refine .seq (.r2 G 11 [(1, .hp 0 0)] [.own (api_Int.c x')] (.seq (.block (.seq ?_))))
 obtain ⟨v1, hc2, hr⟩ := bd hr
 refine .g1 G (ok0 (integer_groups_ok n x' v1 hc2)) (.mu 1 (.ca cf0 (.mu 3 (.done (.nh [1, 3] [.own (api_Int.c x')] ?_)))))
 refine .cd hr ?_ ?_ <;> intro hb3 hr
 ·refine .seq (.ru G (.ret ?_))
  obtain rfl := oi hr
  exact FinQ.r1 [aI64 0]
 ·refine .seq (.r3 G 11 [(8, aB x'.Negative)] ?_)
  refine .cd hr ?_ ?_ <;> intro hb4 hr
  ·refine .seq (.ru G (.ret ?_))
   obtain rfl := oi hr
   exact FinQ.r1 [aI64 (-1)]
  ·refine .skip (.pop (.seq (.ru G (.ret ?_))))
   obtain rfl := oi hr
   exact FinQ.r1 [aI64 1]


theorem integer_split_inj {n' : Int} {n'_ : Int} (h : ([.at (.int .u64 n')] : List AV) = [.at (.int .u64 n'_)]) : n' = n'_ := by
 simp only [List.cons.injEq, AV.agg.injEq, AV.at.injEq, Value.int.injEq, Value.bool.injEq, AV.fn.injEq, AV.pp.injEq, true_and, and_true] at h
 simp_all
theorem integer_split_cg (n : Nat) {n' : Int} {n'_ : Int} (h : ([.at (.int .u64 n')] : List AV) = [.at (.int .u64 n'_)]) : integer_split n n' = integer_split n n'_ := by
 obtain rfl := integer_split_inj h
 rfl
theorem integer_split_ok (n : Nat) (n' : Int) (r : List Int) (hr : integer_split n n' = some r) : FnOk Tryz.prog 105 [aU64 n'] (sU32 r) := by
 unfold integer_split at hr
 refine FnOk.bd G Tryz.func105 [.tmp 2] ?_
 unfold Tryz.f105
 simp only [gS]
 refine .seq (.r4 G [0] [] (.seq (.r4 G [0] [(3, nS)] (.seq (.block ?_)))))
 replace hr := bd hr; obtain ⟨g_6, hL12, hr⟩ := hr
 refine .loopO (σ := fun z0 => match z0 with | (n_1, g_2) => ⟨mkS 15 0 [(0, aU64 n_1), (3, .hs 0 0 g_2.length 1)], [.own (g_2.flatMap (iC .u32))]⟩) (Q := fun x st' => x = .exit 0 ∧ Wk 0 st' ⟨mkS 15 0 [(3, .hs 0 0 g_6.length 1)], [.own (g_6.flatMap (iC .u32))]⟩) hL12 ((Wk.nil 3 1 (by kernel_rfl)).trans ((Wk.gc [0, 3] [(0, false)] rfl (pKc trivial)).to)) ?_ ?_
 ·clear hr
  rintro m ⟨n_1, g_2⟩ hr
  show CQ _ _ _ _ _ ⟨_, _⟩
  refine .seq (.seq (.r4 G [0, 3] [(5, aB (decide (n_1 > 0)))] ?_))
  refine .cd hr ?_ ?_ <;> intro hb8 hr
  ·refine .skip (.seq (.block ?_))
   obtain ⟨hg9, hg10, hr⟩ := gd2 hr
   refine .r0 G (.mu 5 (.e0 (v := .hs 2 0 (g_2 ++ [wrapF .u32 (n_1.tmod 1000000000)]).length 1) (ws := [(0, .dead), (2, .own ((g_2 ++ [wrapF .u32 (n_1.tmod 1000000000)]).flatMap (iC .u32)))]) (tr (app_own (new := [aU32 (wrapF .u32 (n_1.tmod 1000000000))]) (l := g_2) (xs := [wrapF .u32 (n_1.tmod 1000000000)]) (iC_len .u32) rfl rfl (by kernel_rfl) hg9 hg10)) (.mu 1 (.done (.pop (.ru G ?_))))))
   exact loopF_back (wrapF .u64 (n_1.tdiv 1000000000), g_2 ++ [wrapF .u32 (n_1.tmod 1000000000)]) hr ((Wk.gc [0, 3] [(2, false)] rfl (pKo (iC .u32) (iC_pure _) (g_2 ++ [wrapF .u32 (n_1.tmod 1000000000)]) trivial)).to)
  ·refine .leave rfl ?_
   obtain rfl := oi hr
   exact ⟨rfl, ((Wk.gc [3] [(0, false)] rfl (pKo (iC .u32) (iC_pure _) g_2 trivial)).to)⟩
 ·rintro x st' hq13
  clear hL12
  obtain ⟨rfl, hq13⟩ := hq13
  refine CQ_exit _ rfl (.wk hq13 (.seq (.r3 G 15 [(2, .hs 0 0 g_6.length 1)] (.ret ?_))))
  obtain rfl := oi hr
  exact FinQ.ret (vs := [.hs 0 0 g_6.length 1]) (by kernel_rfl) (Sn.hs rfl (.inl rfl) (SnC.pure (ids_flat (iC_pure _) _)) (fun h => flat_nil0 h))

theorem integer_trim_ok (n : Nat) (g : List Int) (r : List Int) (hr : integer_trim n g = some r) : FnOk Tryz.prog 140 [sU32 g] (sU32 r) := by
 unfold integer_trim at hr
 refine FnOk.bd G Tryz.func140 [.tmp 2] ?_
 unfold Tryz.f140
 simp only [gS]
 refine .seq (.r4 G [0] [] (.seq (.block ?_)))
 replace hr := bd hr; obtain ⟨g_6, hL13, hr⟩ := hr
 refine .loopO (σ := fun z0 => match z0 with | g_1 => ⟨mkS 21 0 [(0, sU32 g_1)], []⟩) (Q := fun x st' => x = .exit 0 ∧ Wk 0 st' ⟨mkS 21 0 [(0, sU32 g_6)], []⟩) hL13 ((Wk.gc [0] [] rfl pK0).to) ?_ ?_
 ·clear hr
  rintro m g_1 hr
  show CQ _ _ _ _ _ ⟨_, _⟩
  refine .seq (.seq ?_)
  rcases bT (decide ((g_1.length : Int) > 0)) with hb8 | hb8
  ·replace hr := cd_t hb8 hr
   obtain ⟨hg9, hr⟩ := gd hr
   refine .r0 G (.mu 2 (.p0 (v := aB true) (eB hb8) (.mu 5 (.pure (v := .pp (g_1.flatMap (iC .u32)) ((wrapF .i64 ((g_1.length : Int) - 1)).toNat * 1)) (by kernel_rfl) (tr (ofP_guard hg9)) (.pure (v := aU32 (gt g_1 (wrapF .i64 ((g_1.length : Int) - 1)))) (by kernel_rfl) (tr (ofP_some (flat_get (iC_len .u32) (inR_lt hg9) (by decide : 0 < 1) (by omega : (wrapF .i64 ((g_1.length : Int) - 1)).toNat * 1 = (wrapF .i64 ((g_1.length : Int) - 1)).toNat * 1 + 0) (by kernel_rfl)))) (.mu 2 (.done (.nh [0, 14] [] ?_))))))))
   refine .cd hr ?_ ?_ <;> intro hb10 hr
   ·refine .skip (.block ?_)
    obtain ⟨hg11, hr⟩ := gd hr
    refine .r0 G (.mu 4 (.p0 (v := sU32 ((g_1.drop (0 : Int).toNat).take ((wrapF .i64 ((g_1.length : Int) - 1)).toNat - (0 : Int).toNat))) (Eq.trans (b := slO (inS 0 (wrapF .i64 ((g_1.length : Int) - 1)) g_1.length) (0 : Int).toNat (wrapF .i64 ((g_1.length : Int) - 1)).toNat (fun z1 z2 => .sl true (((g_1.flatMap (iC .u32)).drop (z1 * 1)).take ((z2 - z1) * 1)) (z2 - z1))) (by kernel_rfl) (slO_t hg11 (sub_sl (iC_len _) (inS_le hg11)))) (.mu 1 (.done (.pop ?_)))))
    exact loopF_back ((g_1.drop (0 : Int).toNat).take ((wrapF .i64 ((g_1.length : Int) - 1)).toNat - (0 : Int).toNat)) hr ((Wk.gc [0] [] rfl pK0).to)
   ·refine .leave rfl ?_
    obtain rfl := oi hr
    exact ⟨rfl, ((Wk.gc [0] [] rfl pK0).to)⟩
  ·replace hr := cd_f hb8 hr
   refine .r0 G (.mu 2 (.p0 (v := aB false) (eB hb8) (.mu 9 (.done (.nh [0, 14] [] (.cF (by kernel_rfl) (.leave rfl ?_)))))))
   obtain rfl := oi hr
   exact ⟨rfl, ((Wk.gc [0] [] rfl pK0).to)⟩
 ·rintro x st' hq14
  clear hL13
  obtain ⟨rfl, hq14⟩ := hq14
  refine CQ_exit _ rfl (.wk hq14 (.seq (.ru G (.ret ?_))))
  obtain rfl := oi hr
  exact FinQ.r1 [sU32 g_6]

theorem integer_made_inj {negative : Bool} {g : List Int} {negative_ : Bool} {g_ : List Int} (h : ([.at (.bool negative), slT (iC .u32) g] : List AV) = [.at (.bool negative_), slT (iC .u32) g_]) : negative = negative_ ∧ g = g_ := by
 simp only [List.cons.injEq, AV.agg.injEq, AV.at.injEq, Value.int.injEq, Value.bool.injEq, AV.fn.injEq, AV.pp.injEq, true_and, and_true, slT_inj_int] at h
 simp_all
theorem integer_made_cg (n : Nat) {negative : Bool} {g : List Int} {negative_ : Bool} {g_ : List Int} (h : ([.at (.bool negative), slT (iC .u32) g] : List AV) = [.at (.bool negative_), slT (iC .u32) g_]) : integer_made n negative g = integer_made n negative_ g_ := by
 obtain ⟨rfl, rfl⟩ := integer_made_inj h
 rfl
theorem integer_made_ok (n : Nat) (negative : Bool) (g : List Int) (r : api_Int) (hr : integer_made n negative g = some r) : FnOk Tryz.prog 104 [aB negative, sU32 g] (.agg (api_Int.c r)) := by
 unfold integer_made at hr
 refine FnOk.bd G Tryz.func104 [.cell 4 31] ?_
 unfold Tryz.f104
 simp only [gS]
 refine .seq (.r5 G [0, 1] [(4, .hp 0 0)] [.own [aB false, nS]] (.seq ?_))
 obtain ⟨v1, hc2, hr⟩ := bd hr
 refine .g1 G (ok0 (integer_trim_ok n g v1 hc2)) (.mu 1 (.ca cf0 (.mu 1 (.done (.nh [0, 1, 4] [.own [aB false, nS]] (.seq (.seq (.r4 G [0, 1, 4] [(9, aB (((v1.length : Int) : Int) == 0))] ?_))))))))
 refine .cd hr ?_ ?_ <;> intro hb3 hr
 ·refine .seq (.r4 G [4] [] (.ret ?_))
  obtain rfl := oi hr
  exact FinQ.ret (vs := [.agg [aB false, nS]]) (by kernel_rfl) (Sn.agg (Sp (SnL.cons Sn.nilsl SnL.nil)))
 ·refine .skip (.seq (.r5 G [4] [] [.own [aB negative, sU32 v1]] (.ret ?_)))
  obtain rfl := oi hr
  exact FinQ.r1 [.agg [aB negative, sU32 v1]]



theorem integer_times_ok (n : Nat) (a : List Int) (b : List Int) (r : List Int) (hr : integer_times n a b = some r) : FnOk Tryz.prog 132 [sU32 a, sU32 b] (sU32 r) := by
 unfold integer_times at hr
 refine FnOk.bd G Tryz.func132 [.tmp 4] ?_
 unfold Tryz.f132
 simp only [gS]
 refine .seq (.r4 G [0, 1] [] (.seq ?_))
 obtain ⟨hg1, hg2, hg3, hr⟩ := gd3 hr
 refine .r0 G (.mu 5 (.e0 (v := .hs 0 0 (List.replicate (wrapF .i64 ((a.length : Int) + (b.length : Int))).toNat ((0 : Int) : Int)).length 1) (ws := [(0, .own ((List.replicate (wrapF .i64 ((a.length : Int) + (b.length : Int))).toNat ((0 : Int) : Int)).flatMap (iC .u32)))]) (tr (make_own (c := (iC .u32)) (z := (0 : Int)) (n := wrapF .i64 ((a.length : Int) + (b.length : Int))) (by_ := 4) rfl hg1 hg2 hg3)) (.mu 1 (.done (.nh [0, 1, 5] [.own ((List.replicate (wrapF .i64 ((a.length : Int) + (b.length : Int))).toNat ((0 : Int) : Int)).flatMap (iC .u32))] (.seq (.seq (.r4 G [1, 5] [(18, sU32 a), (19, aI64 (a.length : Int)), (20, aI64 0)] (.block ?_)))))))))
 replace hr := bd hr; obtain ⟨o_24, hL45, hr⟩ := hr
 refine .loopO (σ := fun z0 => match z0 with | (o_4, x_5) => ⟨mkS 69 0 [(1, sU32 b), (5, .hs 0 0 o_4.length 1), (18, sU32 a), (19, aI64 (a.length : Int)), (20, aI64 x_5)], [.own (o_4.flatMap (iC .u32))]⟩) (Q := fun x st' => x = .exit 0 ∧ Wk 0 st' ⟨mkS 69 0 [(5, .hs 0 0 o_24.length 1)], [.own (o_24.flatMap (iC .u32))]⟩) hL45 ((Wk.gc [1, 5, 18, 19, 20] [(0, false)] rfl (pKo (iC .u32) (iC_pure _) (List.replicate (wrapF .i64 ((a.length : Int) + (b.length : Int))).toNat ((0 : Int) : Int)) trivial)).to) ?_ ?_
 ·clear hr
  rintro m ⟨o_4, x_5⟩ hr
  show CQ _ _ _ _ _ ⟨_, _⟩
  refine .seq (.r4 G [1, 5, 18, 19, 20] [(21, aB (decide (x_5 < (a.length : Int))))] (.seq ?_))
  refine .cd hr ?_ ?_ <;> intro hb26 hr
  ·refine .skip (.seq (.block (.seq ?_)))
   obtain ⟨hg27, hr⟩ := gd hr
   refine .r0 G (.mu 1 (.p0 (v := .pp (a.flatMap (iC .u32)) (x_5.toNat * 1)) (tr (ofP_guard hg27)) (.p0 (v := aU32 (gt a x_5)) (tr (ofP_some (flat_get (iC_len .u32) (inR_lt hg27) (by decide : 0 < 1) (by omega : x_5.toNat * 1 = x_5.toNat * 1 + 0) (by kernel_rfl)))) (.mu 2 (.done (.nh [1, 5, 6, 7, 18, 19, 20] [.own (o_4.flatMap (iC .u32))] (.seq (.r4 G [1, 5, 6, 7, 18, 19, 20] [(8, aU64 0)] (.seq (.seq (.r4 G [1, 5, 6, 7, 8, 18, 19, 20] [(25, sU32 b), (26, aI64 (b.length : Int)), (27, aI64 0)] (.block ?_))))))))))))
   replace hr := bd hr; obtain ⟨o40, hL41, hr⟩ := hr
   refine .loopO (σ := fun z0 => match z0 with | (o_28, c_29, x_30) => ⟨mkS 69 0 [(1, sU32 b), (5, .hs 0 0 o_28.length 1), (6, aI64 x_5), (7, aU32 (gt a x_5)), (8, aU64 c_29), (18, sU32 a), (19, aI64 (a.length : Int)), (20, aI64 x_5), (25, sU32 b), (26, aI64 (b.length : Int)), (27, aI64 x_30)], [.own (o_28.flatMap (iC .u32))]⟩) (Q := fun x st' => match (generalizing := false) o40 with | (o_34, c_35) => x = .exit 2 ∧ Wk 0 st' ⟨mkS 69 0 [(1, sU32 b), (5, .hs 0 0 o_34.length 1), (6, aI64 x_5), (8, aU64 c_35), (18, sU32 a), (19, aI64 (a.length : Int)), (20, aI64 x_5)], [.own (o_34.flatMap (iC .u32))]⟩) hL41 ((Wk.gc [1, 5, 6, 7, 8, 18, 19, 20, 25, 26, 27] [(0, false)] rfl (pKo (iC .u32) (iC_pure _) o_4 trivial)).to) ?_ ?_
   ·clear hr
    rintro m ⟨o_28, c_29, x_30⟩ hr
    show CQ _ _ _ _ _ ⟨_, _⟩
    refine .seq (.r4 G [1, 5, 6, 7, 8, 18, 19, 20, 25, 26, 27] [(28, aB (decide (x_30 < (b.length : Int))))] (.seq ?_))
    refine .cd hr ?_ ?_ <;> intro hb37 hr
    ·refine .skip (.seq (.block (.seq ?_)))
     obtain ⟨hg38, hr⟩ := gd hr
     refine .r0 G (.mu 1 (.p0 (v := .pp (b.flatMap (iC .u32)) (x_30.toNat * 1)) (tr (ofP_guard hg38)) (.p0 (v := aU32 (gt b x_30)) (tr (ofP_some (flat_get (iC_len .u32) (inR_lt hg38) (by decide : 0 < 1) (by omega : x_30.toNat * 1 = x_30.toNat * 1 + 0) (by kernel_rfl)))) (.mu 2 (.done (.nh [1, 5, 6, 7, 8, 9, 10, 18, 19, 20, 25, 26, 27] [.own (o_28.flatMap (iC .u32))] (.seq ?_)))))))
     obtain ⟨hg39, hr⟩ := gd hr
     refine .r0 G (.mu 4 (.p0 (v := .hp 0 (0 + (wrapF .i64 (x_5 + x_30)).toNat * 1)) (tr (ofP_guard hg39)) (.p0 (v := aU32 (gt o_28 (wrapF .i64 (x_5 + x_30)))) (tr (ofP_some (flat_get (iC_len .u32) (inR_lt hg39) (by decide : 0 < 1) (by omega : 0 + (wrapF .i64 (x_5 + x_30)).toNat * 1 = (wrapF .i64 (x_5 + x_30)).toNat * 1 + 0) (by kernel_rfl)))) (.mu 10 (.done (.nh [1, 5, 6, 7, 9, 11, 18, 19, 20, 25, 26, 27] [.own (o_28.flatMap (iC .u32))] (.r0 G (.mu 9 (.p0 (v := .hp 0 (0 + (wrapF .i64 (x_5 + x_30)).toNat * 1)) (tr (ofP_guard hg39)) (.e0 (v := .unk) (ws := [(0, .own ((o_28.set (wrapF .i64 (x_5 + x_30)).toNat (wrapF .u32 ((wrapF .u64 ((wrapF .u64 ((wrapF .u64 (gt o_28 (wrapF .i64 (x_5 + x_30)))) + (wrapF .u64 ((wrapF .u64 (gt a x_5)) * (wrapF .u64 (gt b x_30)))))) + c_29)).tmod 1000000000))).flatMap (iC .u32)))]) (tr (stO_t (and_t (flat_fits (n := 1) (iC_len .u32) (inR_lt hg39) (Nat.le_of_ble_eq_true rfl) (by omega : 0 + (wrapF .i64 (x_5 + x_30)).toNat * 1 = (wrapF .i64 (x_5 + x_30)).toNat * 1 + 0))) (congrArg Blk.own (flat_set (xs := [aU32 (wrapF .u32 ((wrapF .u64 ((wrapF .u64 ((wrapF .u64 (gt o_28 (wrapF .i64 (x_5 + x_30)))) + (wrapF .u64 ((wrapF .u64 (gt a x_5)) * (wrapF .u64 (gt b x_30)))))) + c_29)).tmod 1000000000))]) (iC_len .u32) (inR_lt hg39) (Nat.le_of_ble_eq_true rfl) (by omega : 0 + (wrapF .i64 (x_5 + x_30)).toNat * 1 = (wrapF .i64 (x_5 + x_30)).toNat * 1 + 0) (by kernel_rfl))))) (.mu 1 (.done (.pop (.ru G ?_))))))))))))))
     exact loopF_back (o_28.set (wrapF .i64 (x_5 + x_30)).toNat (wrapF .u32 ((wrapF .u64 ((wrapF .u64 ((wrapF .u64 (gt o_28 (wrapF .i64 (x_5 + x_30)))) + (wrapF .u64 ((wrapF .u64 (gt a x_5)) * (wrapF .u64 (gt b x_30)))))) + c_29)).tmod 1000000000)), wrapF .u64 ((wrapF .u64 ((wrapF .u64 ((wrapF .u64 (gt o_28 (wrapF .i64 (x_5 + x_30)))) + (wrapF .u64 ((wrapF .u64 (gt a x_5)) * (wrapF .u64 (gt b x_30)))))) + c_29)).tdiv 1000000000), wrapF .i64 (x_30 + 1)) hr ((Wk.relen 5 (b := 0) (es := 1) (len := o_28.length) (o_28.set (wrapF .i64 (x_5 + x_30)).toNat (wrapF .u32 ((wrapF .u64 ((wrapF .u64 ((wrapF .u64 (gt o_28 (wrapF .i64 (x_5 + x_30)))) + (wrapF .u64 ((wrapF .u64 (gt a x_5)) * (wrapF .u64 (gt b x_30)))))) + c_29)).tmod 1000000000))).length (by kernel_rfl) (Eq.symm (List.length_set.trans rfl))).trans ((Wk.gc [1, 5, 6, 7, 8, 18, 19, 20, 25, 26, 27] [(0, false)] rfl (pKo (iC .u32) (iC_pure _) (o_28.set (wrapF .i64 (x_5 + x_30)).toNat (wrapF .u32 ((wrapF .u64 ((wrapF .u64 ((wrapF .u64 (gt o_28 (wrapF .i64 (x_5 + x_30)))) + (wrapF .u64 ((wrapF .u64 (gt a x_5)) * (wrapF .u64 (gt b x_30)))))) + c_29)).tmod 1000000000))) trivial)).to))
    ·refine .leave rfl ?_
     obtain rfl := oi hr
     exact ⟨rfl, ((Wk.gc [1, 5, 6, 8, 18, 19, 20] [(0, false)] rfl (pKo (iC .u32) (iC_pure _) o_28 trivial)).to)⟩
   ·rcases o40 with ⟨o_34, c_35⟩
    rintro x st' hq42
    clear hL41
    obtain ⟨rfl, hq42⟩ := hq42
    refine CQ_exit _ rfl (.wk hq42 ?_)
    obtain ⟨hg43, hr⟩ := gd hr
    refine .r0 G (.mu 7 (.p0 (v := .hp 0 (0 + (wrapF .i64 (x_5 + (b.length : Int))).toNat * 1)) (tr (ofP_guard hg43)) (.e0 (v := .unk) (ws := [(0, .own ((o_34.set (wrapF .i64 (x_5 + (b.length : Int))).toNat (wrapF .u32 c_35)).flatMap (iC .u32)))]) (tr (stO_t (and_t (flat_fits (n := 1) (iC_len .u32) (inR_lt hg43) (Nat.le_of_ble_eq_true rfl) (by omega : 0 + (wrapF .i64 (x_5 + (b.length : Int))).toNat * 1 = (wrapF .i64 (x_5 + (b.length : Int))).toNat * 1 + 0))) (congrArg Blk.own (flat_set (xs := [aU32 (wrapF .u32 c_35)]) (iC_len .u32) (inR_lt hg43) (Nat.le_of_ble_eq_true rfl) (by omega : 0 + (wrapF .i64 (x_5 + (b.length : Int))).toNat * 1 = (wrapF .i64 (x_5 + (b.length : Int))).toNat * 1 + 0) (by kernel_rfl))))) (.done (.pop (.ru G ?_))))))
    exact loopF_back (o_34.set (wrapF .i64 (x_5 + (b.length : Int))).toNat (wrapF .u32 c_35), wrapF .i64 (x_5 + 1)) hr ((Wk.relen 5 (b := 0) (es := 1) (len := o_34.length) (o_34.set (wrapF .i64 (x_5 + (b.length : Int))).toNat (wrapF .u32 c_35)).length (by kernel_rfl) (Eq.symm (List.length_set.trans rfl))).trans ((Wk.gc [1, 5, 18, 19, 20] [(0, false)] rfl (pKo (iC .u32) (iC_pure _) (o_34.set (wrapF .i64 (x_5 + (b.length : Int))).toNat (wrapF .u32 c_35)) trivial)).to))
  ·refine .leave rfl ?_
   obtain rfl := oi hr
   exact ⟨rfl, ((Wk.gc [5] [(0, false)] rfl (pKo (iC .u32) (iC_pure _) o_4 trivial)).to)⟩
 ·rintro x st' hq46
  clear hL45
  obtain ⟨rfl, hq46⟩ := hq46
  refine CQ_exit _ rfl (.wk hq46 (.seq ?_))
  obtain ⟨v47, hc48, hr⟩ := bd hr
  refine .g1 G (callOk_ref (args := [.hs 0 0 o_24.length 1]) (l := [0]) (SnL.cons (Sn.hs rfl (.inl rfl) (SnC.pure (ids_flat (iC_pure _) _)) (fun h => flat_nil0 h)) SnL.nil) (integer_trim_ok n o_24 v47 hc48)) (.mu 1 (.ca cf0 (.mu 1 (.done (.ret ?_)))))
  obtain rfl := oi hr
  exact FinQ.r1 [sU32 v47]

theorem integer_trim_w_ok (n : Nat) (g : List Int) (r : List Int) (hr : integer_trim_w n g = some r) : FnMut 1 Tryz.prog 140 [.hs 0 0 g.length 1] [.own (g.flatMap (iC .u32))] (.hs 0 0 r.length 1) [.own (r.flatMap (iC .u32))] := by
 unfold integer_trim_w at hr
 refine FnMut.bodyW G Tryz.func140 (c := (Tryz.f140.body).getD .skip) rfl (us := [.hs 0 0 r.length 1]) (s := mkS 21 0 [(0, .hs 0 0 g.length 1)]) (by kernel_rfl) (rs := [.tmp 2]) rfl ?_
 unfold Tryz.f140
 simp only [gS]
 refine .seq (.r4 G [0] [] (.seq (.block ?_)))
 replace hr := bd hr; obtain ⟨g_21, hL28, hr⟩ := hr
 refine .loopO (σ := fun z0 => match z0 with | g_16 => ⟨mkS 21 0 [(0, .hs 0 0 g_16.length 1)], [.own (g_16.flatMap (iC .u32))]⟩) (Q := fun x st' => x = .exit 0 ∧ Wk 1 st' ⟨mkS 21 0 [(0, .hs 0 0 g_21.length 1)], [.own (g_21.flatMap (iC .u32))]⟩) hL28 ((Wk.gc [0] [(0, false)] rfl (pKo (iC .u32) (iC_pure _) g trivial)).to) ?_ ?_
 ·clear hr
  rintro m g_16 hr
  show CQ _ _ _ _ _ ⟨_, _⟩
  refine .seq (.seq ?_)
  rcases bT (decide ((g_16.length : Int) > 0)) with hb23 | hb23
  ·replace hr := cd_t hb23 hr
   obtain ⟨hg24, hr⟩ := gd hr
   refine .r0 G (.mu 2 (.p0 (v := aB true) (eB hb23) (.mu 5 (.pure (v := .hp 0 (0 + (wrapF .i64 ((g_16.length : Int) - 1)).toNat * 1)) (by kernel_rfl) (tr (ofP_guard hg24)) (.pure (v := aU32 (gt g_16 (wrapF .i64 ((g_16.length : Int) - 1)))) (by kernel_rfl) (tr (ofP_some (flat_get (iC_len .u32) (inR_lt hg24) (by decide : 0 < 1) (by omega : 0 + (wrapF .i64 ((g_16.length : Int) - 1)).toNat * 1 = (wrapF .i64 ((g_16.length : Int) - 1)).toNat * 1 + 0) (by kernel_rfl)))) (.mu 2 (.done (.nh [0, 14] [.own (g_16.flatMap (iC .u32))] ?_))))))))
   refine .cd hr ?_ ?_ <;> intro hb25 hr
   ·refine .skip (.block ?_)
    obtain ⟨hg26, hr⟩ := gd hr
    refine .r0 G (.mu 4 (.p0 (v := .hs 0 0 (wrapF .i64 ((g_16.length : Int) - 1)).toNat 1) (Eq.trans (b := slH (inS 0 (wrapF .i64 ((g_16.length : Int) - 1)) g_16.length) true ((0 : Int).toNat) ((wrapF .i64 ((g_16.length : Int) - 1)).toNat) (fun z1 z2 => .hs 0 (0 + z1 * 1) (z2 - z1) 1)) (by kernel_rfl) (slH_t hg26 (by kernel_rfl))) (.mu 1 (.done (.pop ?_)))))
    exact loopF_back (g_16.take (wrapF .i64 ((g_16.length : Int) - 1)).toNat) hr ((Wk.cutS (c := (iC .u32)) (es := 1) 0 0 (iC_len _) g_16 (wrapF .i64 ((g_16.length : Int) - 1)).toNat (inS_le hg26) (by kernel_rfl) (by kernel_rfl)).trans ((Wk.gc [0] [(0, false)] rfl (pKo (iC .u32) (iC_pure _) (g_16.take (wrapF .i64 ((g_16.length : Int) - 1)).toNat) trivial)).to))
   ·refine .leave rfl ?_
    obtain rfl := oi hr
    exact ⟨rfl, ((Wk.gc [0] [(0, false)] rfl (pKo (iC .u32) (iC_pure _) g_16 trivial)).to)⟩
  ·replace hr := cd_f hb23 hr
   refine .r0 G (.mu 2 (.p0 (v := aB false) (eB hb23) (.mu 9 (.done (.nh [0, 14] [.own (g_16.flatMap (iC .u32))] (.cF (by kernel_rfl) (.leave rfl ?_)))))))
   obtain rfl := oi hr
   exact ⟨rfl, ((Wk.gc [0] [(0, false)] rfl (pKo (iC .u32) (iC_pure _) g_16 trivial)).to)⟩
 ·rintro x st' hq29
  clear hL28
  obtain ⟨rfl, hq29⟩ := hq29
  refine CQ_exit _ rfl (.wk hq29 (.seq (.r3 G 21 [(2, .hs 0 0 g_21.length 1)] (.ret ?_))))
  obtain rfl := oi hr
  exact FinMW.ret [.hs 0 0 g_21.length 1] ((Wk.gc [0] [(0, false)] rfl (pKo (iC .u32) (iC_pure _) g_21 trivial)).to)

theorem integer_times_w_ok (n : Nat) (a : List Int) (b : List Int) (r : List Int) (hr : integer_times_w n a b = some r) : FnMut 1 Tryz.prog 132 [sU32 a, .hs 0 0 b.length 1] [.own (b.flatMap (iC .u32))] (.hs 1 0 r.length 1) [.own (b.flatMap (iC .u32)), .own (r.flatMap (iC .u32))] := by
 unfold integer_times_w at hr
 refine FnMut.bodyW G Tryz.func132 (c := (Tryz.f132.body).getD .skip) rfl (us := [.hs 1 0 r.length 1]) (s := mkS 69 0 [(0, sU32 a), (1, .hs 0 0 b.length 1)]) (by kernel_rfl) (rs := [.tmp 4]) rfl ?_
 unfold Tryz.f132
 simp only [gS]
 refine .seq (.r4 G [0, 1] [] (.seq ?_))
 obtain ⟨hg50, hg51, hg52, hr⟩ := gd3 hr
 refine .r0 G (.mu 5 (.e0 (v := .hs 1 0 (List.replicate (wrapF .i64 ((a.length : Int) + (b.length : Int))).toNat ((0 : Int) : Int)).length 1) (ws := [(1, .own ((List.replicate (wrapF .i64 ((a.length : Int) + (b.length : Int))).toNat ((0 : Int) : Int)).flatMap (iC .u32)))]) (tr (make_own (c := (iC .u32)) (z := (0 : Int)) (n := wrapF .i64 ((a.length : Int) + (b.length : Int))) (by_ := 4) rfl hg50 hg51 hg52)) (.mu 1 (.done (.nh [0, 1, 5] [.own (b.flatMap (iC .u32)), .own ((List.replicate (wrapF .i64 ((a.length : Int) + (b.length : Int))).toNat ((0 : Int) : Int)).flatMap (iC .u32))] (.seq (.seq (.r4 G [1, 5] [(18, sU32 a), (19, aI64 (a.length : Int)), (20, aI64 0)] (.block ?_)))))))))
 replace hr := bd hr; obtain ⟨o_73, hL94, hr⟩ := hr
 refine .loopO (σ := fun z0 => match z0 with | (o_53, x_54) => ⟨mkS 69 0 [(1, .hs 0 0 b.length 1), (5, .hs 1 0 o_53.length 1), (18, sU32 a), (19, aI64 (a.length : Int)), (20, aI64 x_54)], [.own (b.flatMap (iC .u32)), .own (o_53.flatMap (iC .u32))]⟩) (Q := fun x st' => x = .exit 0 ∧ Wk 1 st' ⟨mkS 69 0 [(5, .hs 1 0 o_73.length 1)], [.own (b.flatMap (iC .u32)), .own (o_73.flatMap (iC .u32))]⟩) hL94 ((Wk.gc [1, 5, 18, 19, 20] [(0, false), (1, false)] rfl (pKo (iC .u32) (iC_pure _) b (pKo (iC .u32) (iC_pure _) (List.replicate (wrapF .i64 ((a.length : Int) + (b.length : Int))).toNat ((0 : Int) : Int)) trivial))).to) ?_ ?_
 ·clear hr
  rintro m ⟨o_53, x_54⟩ hr
  show CQ _ _ _ _ _ ⟨_, _⟩
  refine .seq (.r4 G [1, 5, 18, 19, 20] [(21, aB (decide (x_54 < (a.length : Int))))] (.seq ?_))
  refine .cd hr ?_ ?_ <;> intro hb75 hr
  ·refine .skip (.seq (.block (.seq ?_)))
   obtain ⟨hg76, hr⟩ := gd hr
   refine .r0 G (.mu 1 (.p0 (v := .pp (a.flatMap (iC .u32)) (x_54.toNat * 1)) (tr (ofP_guard hg76)) (.p0 (v := aU32 (gt a x_54)) (tr (ofP_some (flat_get (iC_len .u32) (inR_lt hg76) (by decide : 0 < 1) (by omega : x_54.toNat * 1 = x_54.toNat * 1 + 0) (by kernel_rfl)))) (.mu 2 (.done (.nh [1, 5, 6, 7, 18, 19, 20] [.own (b.flatMap (iC .u32)), .own (o_53.flatMap (iC .u32))] (.seq (.r4 G [1, 5, 6, 7, 18, 19, 20] [(8, aU64 0)] (.seq (.seq (.r4 G [1, 5, 6, 7, 8, 18, 19, 20] [(25, .hs 0 0 b.length 1), (26, aI64 (b.length : Int)), (27, aI64 0)] (.block ?_))))))))))))
   replace hr := bd hr; obtain ⟨o89, hL90, hr⟩ := hr
   refine .loopO (σ := fun z0 => match z0 with | (o_77, c_78, x_79) => ⟨mkS 69 0 [(1, .hs 0 0 b.length 1), (5, .hs 1 0 o_77.length 1), (6, aI64 x_54), (7, aU32 (gt a x_54)), (8, aU64 c_78), (18, sU32 a), (19, aI64 (a.length : Int)), (20, aI64 x_54), (25, .hs 0 0 b.length 1), (26, aI64 (b.length : Int)), (27, aI64 x_79)], [.own (b.flatMap (iC .u32)), .own (o_77.flatMap (iC .u32))]⟩) (Q := fun x st' => match (generalizing := false) o89 with | (o_83, c_84) => x = .exit 2 ∧ Wk 1 st' ⟨mkS 69 0 [(1, .hs 0 0 b.length 1), (5, .hs 1 0 o_83.length 1), (6, aI64 x_54), (8, aU64 c_84), (18, sU32 a), (19, aI64 (a.length : Int)), (20, aI64 x_54)], [.own (b.flatMap (iC .u32)), .own (o_83.flatMap (iC .u32))]⟩) hL90 ((Wk.gc [1, 5, 6, 7, 8, 18, 19, 20, 25, 26, 27] [(0, false), (1, false)] rfl (pKo (iC .u32) (iC_pure _) b (pKo (iC .u32) (iC_pure _) o_53 trivial))).to) ?_ ?_
   ·clear hr
    rintro m ⟨o_77, c_78, x_79⟩ hr
    show CQ _ _ _ _ _ ⟨_, _⟩
    refine .seq (.r4 G [1, 5, 6, 7, 8, 18, 19, 20, 25, 26, 27] [(28, aB (decide (x_79 < (b.length : Int))))] (.seq ?_))
    refine .cd hr ?_ ?_ <;> intro hb86 hr
    ·refine .skip (.seq (.block (.seq ?_)))
     obtain ⟨hg87, hr⟩ := gd hr
     refine .r0 G (.mu 1 (.p0 (v := .hp 0 (0 + x_79.toNat * 1)) (tr (ofP_guard hg87)) (.p0 (v := aU32 (gt b x_79)) (tr (ofP_some (flat_get (iC_len .u32) (inR_lt hg87) (by decide : 0 < 1) (by omega : 0 + x_79.toNat * 1 = x_79.toNat * 1 + 0) (by kernel_rfl)))) (.mu 2 (.done (.nh [1, 5, 6, 7, 8, 9, 10, 18, 19, 20, 25, 26, 27] [.own (b.flatMap (iC .u32)), .own (o_77.flatMap (iC .u32))] (.seq ?_)))))))
     obtain ⟨hg88, hr⟩ := gd hr
     refine .r0 G (.mu 4 (.p0 (v := .hp 1 (0 + (wrapF .i64 (x_54 + x_79)).toNat * 1)) (tr (ofP_guard hg88)) (.p0 (v := aU32 (gt o_77 (wrapF .i64 (x_54 + x_79)))) (tr (ofP_some (flat_get (iC_len .u32) (inR_lt hg88) (by decide : 0 < 1) (by omega : 0 + (wrapF .i64 (x_54 + x_79)).toNat * 1 = (wrapF .i64 (x_54 + x_79)).toNat * 1 + 0) (by kernel_rfl)))) (.mu 10 (.done (.nh [1, 5, 6, 7, 9, 11, 18, 19, 20, 25, 26, 27] [.own (b.flatMap (iC .u32)), .own (o_77.flatMap (iC .u32))] (.r0 G (.mu 9 (.p0 (v := .hp 1 (0 + (wrapF .i64 (x_54 + x_79)).toNat * 1)) (tr (ofP_guard hg88)) (.e0 (v := .unk) (ws := [(1, .own ((o_77.set (wrapF .i64 (x_54 + x_79)).toNat (wrapF .u32 ((wrapF .u64 ((wrapF .u64 ((wrapF .u64 (gt o_77 (wrapF .i64 (x_54 + x_79)))) + (wrapF .u64 ((wrapF .u64 (gt a x_54)) * (wrapF .u64 (gt b x_79)))))) + c_78)).tmod 1000000000))).flatMap (iC .u32)))]) (tr (stO_t (and_t (flat_fits (n := 1) (iC_len .u32) (inR_lt hg88) (Nat.le_of_ble_eq_true rfl) (by omega : 0 + (wrapF .i64 (x_54 + x_79)).toNat * 1 = (wrapF .i64 (x_54 + x_79)).toNat * 1 + 0))) (congrArg Blk.own (flat_set (xs := [aU32 (wrapF .u32 ((wrapF .u64 ((wrapF .u64 ((wrapF .u64 (gt o_77 (wrapF .i64 (x_54 + x_79)))) + (wrapF .u64 ((wrapF .u64 (gt a x_54)) * (wrapF .u64 (gt b x_79)))))) + c_78)).tmod 1000000000))]) (iC_len .u32) (inR_lt hg88) (Nat.le_of_ble_eq_true rfl) (by omega : 0 + (wrapF .i64 (x_54 + x_79)).toNat * 1 = (wrapF .i64 (x_54 + x_79)).toNat * 1 + 0) (by kernel_rfl))))) (.mu 1 (.done (.pop (.ru G ?_))))))))))))))
     exact loopF_back (o_77.set (wrapF .i64 (x_54 + x_79)).toNat (wrapF .u32 ((wrapF .u64 ((wrapF .u64 ((wrapF .u64 (gt o_77 (wrapF .i64 (x_54 + x_79)))) + (wrapF .u64 ((wrapF .u64 (gt a x_54)) * (wrapF .u64 (gt b x_79)))))) + c_78)).tmod 1000000000)), wrapF .u64 ((wrapF .u64 ((wrapF .u64 ((wrapF .u64 (gt o_77 (wrapF .i64 (x_54 + x_79)))) + (wrapF .u64 ((wrapF .u64 (gt a x_54)) * (wrapF .u64 (gt b x_79)))))) + c_78)).tdiv 1000000000), wrapF .i64 (x_79 + 1)) hr ((Wk.relen 5 (b := 1) (es := 1) (len := o_77.length) (o_77.set (wrapF .i64 (x_54 + x_79)).toNat (wrapF .u32 ((wrapF .u64 ((wrapF .u64 ((wrapF .u64 (gt o_77 (wrapF .i64 (x_54 + x_79)))) + (wrapF .u64 ((wrapF .u64 (gt a x_54)) * (wrapF .u64 (gt b x_79)))))) + c_78)).tmod 1000000000))).length (by kernel_rfl) (Eq.symm (List.length_set.trans rfl))).trans ((Wk.gc [1, 5, 6, 7, 8, 18, 19, 20, 25, 26, 27] [(0, false), (1, false)] rfl (pKo (iC .u32) (iC_pure _) b (pKo (iC .u32) (iC_pure _) (o_77.set (wrapF .i64 (x_54 + x_79)).toNat (wrapF .u32 ((wrapF .u64 ((wrapF .u64 ((wrapF .u64 (gt o_77 (wrapF .i64 (x_54 + x_79)))) + (wrapF .u64 ((wrapF .u64 (gt a x_54)) * (wrapF .u64 (gt b x_79)))))) + c_78)).tmod 1000000000))) trivial))).to))
    ·refine .leave rfl ?_
     obtain rfl := oi hr
     exact ⟨rfl, ((Wk.gc [1, 5, 6, 8, 18, 19, 20] [(0, false), (1, false)] rfl (pKo (iC .u32) (iC_pure _) b (pKo (iC .u32) (iC_pure _) o_77 trivial))).to)⟩
   ·rcases o89 with ⟨o_83, c_84⟩
    rintro x st' hq91
    clear hL90
    obtain ⟨rfl, hq91⟩ := hq91
    refine CQ_exit _ rfl (.wk hq91 ?_)
    obtain ⟨hg92, hr⟩ := gd hr
    refine .r0 G (.mu 7 (.p0 (v := .hp 1 (0 + (wrapF .i64 (x_54 + (b.length : Int))).toNat * 1)) (tr (ofP_guard hg92)) (.e0 (v := .unk) (ws := [(1, .own ((o_83.set (wrapF .i64 (x_54 + (b.length : Int))).toNat (wrapF .u32 c_84)).flatMap (iC .u32)))]) (tr (stO_t (and_t (flat_fits (n := 1) (iC_len .u32) (inR_lt hg92) (Nat.le_of_ble_eq_true rfl) (by omega : 0 + (wrapF .i64 (x_54 + (b.length : Int))).toNat * 1 = (wrapF .i64 (x_54 + (b.length : Int))).toNat * 1 + 0))) (congrArg Blk.own (flat_set (xs := [aU32 (wrapF .u32 c_84)]) (iC_len .u32) (inR_lt hg92) (Nat.le_of_ble_eq_true rfl) (by omega : 0 + (wrapF .i64 (x_54 + (b.length : Int))).toNat * 1 = (wrapF .i64 (x_54 + (b.length : Int))).toNat * 1 + 0) (by kernel_rfl))))) (.done (.pop (.ru G ?_))))))
    exact loopF_back (o_83.set (wrapF .i64 (x_54 + (b.length : Int))).toNat (wrapF .u32 c_84), wrapF .i64 (x_54 + 1)) hr ((Wk.relen 5 (b := 1) (es := 1) (len := o_83.length) (o_83.set (wrapF .i64 (x_54 + (b.length : Int))).toNat (wrapF .u32 c_84)).length (by kernel_rfl) (Eq.symm (List.length_set.trans rfl))).trans ((Wk.gc [1, 5, 18, 19, 20] [(0, false), (1, false)] rfl (pKo (iC .u32) (iC_pure _) b (pKo (iC .u32) (iC_pure _) (o_83.set (wrapF .i64 (x_54 + (b.length : Int))).toNat (wrapF .u32 c_84)) trivial))).to))
  ·refine .leave rfl ?_
   obtain rfl := oi hr
   exact ⟨rfl, ((Wk.gc [5] [(0, false), (1, false)] rfl (pKo (iC .u32) (iC_pure _) b (pKo (iC .u32) (iC_pure _) o_53 trivial))).to)⟩
 ·rintro x st' hq95
  clear hL94
  obtain ⟨rfl, hq95⟩ := hq95
  refine CQ_exit _ rfl (.wk hq95 (.seq ?_))
  obtain ⟨v96, hc97, hr⟩ := bd hr
  refine .g1 G (callOk_mutU (args := [.hs 1 0 o_73.length 1]) 1 0 [(1, false)] [false] (integer_trim_w_ok n o_73 v96 hc97) (by exact ⟨ids_flat (iC_pure _) _, trivial⟩) (by exact ⟨ids_flat (iC_pure _) _, trivial⟩) rfl rfl (by kernel_rfl) (by kernel_rfl)) (.mu 1 (.ca cf0 (.mu 1 (.done (.nh [4] [.own (b.flatMap (iC .u32)), .own (v96.flatMap (iC .u32))] (.ret ?_))))))
  obtain rfl := oi hr
  exact FinMW.ret [.hs 1 0 v96.length 1] ((Wk.gc [0] [(0, false), (1, false)] rfl (pKo (iC .u32) (iC_pure _) b (pKo (iC .u32) (iC_pure _) v96 trivial))).to)

theorem integer_at_inj {g : List Int} {i : Int} {g_ : List Int} {i_ : Int} (h : ([slT (iC .u32) g, .at (.int .i64 i)] : List AV) = [slT (iC .u32) g_, .at (.int .i64 i_)]) : g = g_ ∧ i = i_ := by
 simp only [List.cons.injEq, AV.agg.injEq, AV.at.injEq, Value.int.injEq, Value.bool.injEq, AV.fn.injEq, AV.pp.injEq, true_and, and_true, slT_inj_int] at h
 simp_all
theorem integer_at_cg (n : Nat) {g : List Int} {i : Int} {g_ : List Int} {i_ : Int} (h : ([slT (iC .u32) g, .at (.int .i64 i)] : List AV) = [slT (iC .u32) g_, .at (.int .i64 i_)]) : integer_at n g i = integer_at n g_ i_ := by
 obtain ⟨rfl, rfl⟩ := integer_at_inj h
 rfl
theorem integer_at_ok (n : Nat) (g : List Int) (i : Int) (r : Int) (hr : integer_at n g i = some r) : FnOk Tryz.prog 157 [sU32 g, aI64 i] (aU32 r) := by
 unfold integer_at at hr
 refine FnOk.bd G Tryz.func157 [.tmp 4] ?_
 unfold Tryz.f157
 simp only [gS]
 refine .seq (.r4 G [0, 1] [] (.seq (.seq (.r4 G [0, 1] [(8, aB (decide (i < (g.length : Int))))] ?_))))
 refine .cd hr ?_ ?_ <;> intro hb1 hr
 ·refine .seq ?_
  obtain ⟨hg2, hr⟩ := gd hr
  refine .r0 G (.mu 2 (.p0 (v := .pp (g.flatMap (iC .u32)) (i.toNat * 1)) (tr (ofP_guard hg2)) (.p0 (v := aU32 (gt g i)) (tr (ofP_some (flat_get (iC_len .u32) (inR_lt hg2) (by decide : 0 < 1) (by omega : i.toNat * 1 = i.toNat * 1 + 0) (by kernel_rfl)))) (.mu 1 (.done (.ret ?_))))))
  obtain rfl := oi hr
  exact FinQ.r1 [aU32 (gt g i)]
 ·refine .skip (.seq (.ru G (.ret ?_)))
  obtain rfl := oi hr
  exact FinQ.r1 [aU32 0]

theorem integer_long_ok (n : Nat) (a : List Int) (b : List Int) (r : List Int × List Int) (hr : integer_long n a b = some r) : FnOk Tryz.prog 191 [sU32 a, sU32 b] (.tup [sU32 r.1, sU32 r.2]) := by
 unfold integer_long at hr
 refine FnOk.bd G Tryz.func191 [.tmp 4, .tmp 5] ?_
 unfold Tryz.f191
 simp only [gS]
 refine .seq (.r4 G [0, 1] [] (.seq ?_))
 obtain ⟨hg1, hg2, hr⟩ := gd2 hr
 refine .r0 G (.mu 4 (.p0 (v := .pp (b.flatMap (iC .u32)) ((wrapF .i64 ((b.length : Int) - 1)).toNat * 1)) (tr (ofP_guard hg1)) (.p0 (v := aU32 (gt b (wrapF .i64 ((b.length : Int) - 1)))) (tr (ofP_some (flat_get (iC_len .u32) (inR_lt hg1) (by decide : 0 < 1) (by omega : (wrapF .i64 ((b.length : Int) - 1)).toNat * 1 = (wrapF .i64 ((b.length : Int) - 1)).toNat * 1 + 0) (by kernel_rfl)))) (.mu 2 (.p0 (v := aU64 (wrapF .u64 ((1000000000 : Int).tdiv (wrapF .u64 ((wrapF .u64 (gt b (wrapF .i64 ((b.length : Int) - 1)))) + 1))))) (op_quo (x := 1000000000) (y := wrapF .u64 ((wrapF .u64 (gt b (wrapF .i64 ((b.length : Int) - 1)))) + 1)) (by kernel_rfl) (by kernel_rfl) hg2) (.mu 2 (.done (.nh [0, 1, 6] [] (.seq ?_)))))))))
 obtain ⟨v3, hc4, hr⟩ := bd hr
 refine .gn G (ca4 [.own [aU32 (wrapF .u32 (wrapF .u64 ((1000000000 : Int).tdiv (wrapF .u64 ((wrapF .u64 (gt b (wrapF .i64 ((b.length : Int) - 1)))) + 1)))))]] (callOk_mutU (args := [sU32 a, .hs 0 0 1 1]) 1 1 [(0, false)] [false, false] (integer_times_w_ok n a [wrapF .u32 (wrapF .u64 ((1000000000 : Int).tdiv (wrapF .u64 ((wrapF .u64 (gt b (wrapF .i64 ((b.length : Int) - 1)))) + 1))))] v3 hc4) (by exact ⟨rfl, trivial⟩) (by exact ⟨ids_flat (iC_pure _) _, ⟨ids_flat (iC_pure _) _, trivial⟩⟩) rfl rfl (by kernel_rfl) (by kernel_rfl))) (.mu 3 (.ca cf0 (.mu 1 (.done (.nh [0, 1, 6, 7] [.own ([wrapF .u32 (wrapF .u64 ((1000000000 : Int).tdiv (wrapF .u64 ((wrapF .u64 (gt b (wrapF .i64 ((b.length : Int) - 1)))) + 1))))].flatMap (iC .u32)), .own (v3.flatMap (iC .u32))] (.seq ?_))))))
 obtain ⟨v5, hc6, hr⟩ := bd hr
 refine .gn G (ca4 [.own ([wrapF .u32 (wrapF .u64 ((1000000000 : Int).tdiv (wrapF .u64 ((wrapF .u64 (gt b (wrapF .i64 ((b.length : Int) - 1)))) + 1))))].flatMap (iC .u32)), .own (v3.flatMap (iC .u32)), .own [aU32 (wrapF .u32 (wrapF .u64 ((1000000000 : Int).tdiv (wrapF .u64 ((wrapF .u64 (gt b (wrapF .i64 ((b.length : Int) - 1)))) + 1)))))]] (callOk_mutU (args := [sU32 b, .hs 2 0 1 1]) 1 1 [(2, false)] [false, false] (integer_times_w_ok n b [wrapF .u32 (wrapF .u64 ((1000000000 : Int).tdiv (wrapF .u64 ((wrapF .u64 (gt b (wrapF .i64 ((b.length : Int) - 1)))) + 1))))] v5 hc6) (by exact ⟨rfl, trivial⟩) (by exact ⟨ids_flat (iC_pure _) _, ⟨ids_flat (iC_pure _) _, trivial⟩⟩) rfl rfl (by kernel_rfl) (by kernel_rfl))) (.mu 3 (.ca cf0 (.mu 1 (.done (.nh [0, 6, 7, 8] [.own ([wrapF .u32 (wrapF .u64 ((1000000000 : Int).tdiv (wrapF .u64 ((wrapF .u64 (gt b (wrapF .i64 ((b.length : Int) - 1)))) + 1))))].flatMap (iC .u32)), .own (v3.flatMap (iC .u32)), .own ([wrapF .u32 (wrapF .u64 ((1000000000 : Int).tdiv (wrapF .u64 ((wrapF .u64 (gt b (wrapF .i64 ((b.length : Int) - 1)))) + 1))))].flatMap (iC .u32)), .own (v5.flatMap (iC .u32))] (.seq (.r4 G [0, 6, 7, 8] [(9, aI64 (v5.length : Int))] (.seq ?_))))))))
 obtain ⟨hg7, hg8, hr⟩ := gd2 hr
 refine .r0 G (.mu 2 (.e0 (v := .hs 5 0 (v3 ++ [(0 : Int)]).length 1) (ws := [(1, .dead), (5, .own ((v3 ++ [(0 : Int)]).flatMap (iC .u32)))]) (tr (app_own (new := [aU32 0]) (l := v3) (xs := [(0 : Int)]) (iC_len .u32) rfl rfl (by kernel_rfl) hg7 hg8)) (.mu 1 (.done (.nh [0, 6, 7, 8, 9] [.own ([wrapF .u32 (wrapF .u64 ((1000000000 : Int).tdiv (wrapF .u64 ((wrapF .u64 (gt b (wrapF .i64 ((b.length : Int) - 1)))) + 1))))].flatMap (iC .u32)), .dead, .own ([wrapF .u32 (wrapF .u64 ((1000000000 : Int).tdiv (wrapF .u64 ((wrapF .u64 (gt b (wrapF .i64 ((b.length : Int) - 1)))) + 1))))].flatMap (iC .u32)), .own (v5.flatMap (iC .u32)), .own [aU32 0], .own ((v3 ++ [(0 : Int)]).flatMap (iC .u32))] (.seq (.seq (.r4 G [6, 7, 8, 9] [(50, aB (decide (((v3 ++ [(0 : Int)]).length : Int) ≤ (a.length : Int))))] ?_))))))))
 replace hr := bd hr; obtain ⟨u_9, hL14, hr⟩ := hr
 refine .app1 (Q := fun x st' => x = .normal ∧ Wk 0 st' ⟨mkS 266 0 [(6, aU32 (wrapF .u32 (wrapF .u64 ((1000000000 : Int).tdiv (wrapF .u64 ((wrapF .u64 (gt b (wrapF .i64 ((b.length : Int) - 1)))) + 1)))))), (7, .hs 0 0 u_9.length 1), (8, .hs 1 0 v5.length 1), (9, aI64 (v5.length : Int))], [.own (u_9.flatMap (iC .u32)), .own (v5.flatMap (iC .u32))]⟩) ?_ ?_
 ·clear hr
  have hr := hL14
  clear hL14
  refine .cd hr ?_ ?_ <;> intro hb10 hr
  ·obtain ⟨hg11, hg12, hr⟩ := gd2 hr
   refine .r0 G (.mu 2 (.e0 (v := .hs 7 0 ((v3 ++ [(0 : Int)]) ++ [(0 : Int)]).length 1) (ws := [(5, .dead), (7, .own (((v3 ++ [(0 : Int)]) ++ [(0 : Int)]).flatMap (iC .u32)))]) (tr (app_own (new := [aU32 0]) (l := v3 ++ [(0 : Int)]) (xs := [(0 : Int)]) (iC_len .u32) rfl rfl (by kernel_rfl) hg11 hg12)) (.mu 1 (.done ?_))))
   obtain rfl := oi hr
   exact ⟨rfl, ((Wk.gc [6, 7, 8, 9] [(7, false), (3, false)] rfl (pKo (iC .u32) (iC_pure _) ((v3 ++ [(0 : Int)]) ++ [(0 : Int)]) (pKo (iC .u32) (iC_pure _) v5 trivial))).to)⟩
  ·refine .skip ?_
   obtain rfl := oi hr
   exact ⟨rfl, ((Wk.gc [6, 7, 8, 9] [(5, false), (3, false)] rfl (pKo (iC .u32) (iC_pure _) (v3 ++ [(0 : Int)]) (pKo (iC .u32) (iC_pure _) v5 trivial))).to)⟩
 ·rintro x st' hq15
  clear hL14
  obtain ⟨rfl, hq15⟩ := hq15
  refine .wk hq15 (.seq ?_)
  obtain ⟨hg16, hg17, hg18, hr⟩ := gd3 hr
  refine .r0 G (.mu 4 (.e0 (v := .hs 2 0 (List.replicate (wrapF .i64 ((u_9.length : Int) - (v5.length : Int))).toNat ((0 : Int) : Int)).length 1) (ws := [(2, .own ((List.replicate (wrapF .i64 ((u_9.length : Int) - (v5.length : Int))).toNat ((0 : Int) : Int)).flatMap (iC .u32)))]) (tr (make_own (c := (iC .u32)) (z := (0 : Int)) (n := wrapF .i64 ((u_9.length : Int) - (v5.length : Int))) (by_ := 4) rfl hg16 hg17 hg18)) (.mu 1 (.done (.nh [4, 6, 7, 8, 9] [.own (u_9.flatMap (iC .u32)), .own (v5.flatMap (iC .u32)), .own ((List.replicate (wrapF .i64 ((u_9.length : Int) - (v5.length : Int))).toNat ((0 : Int) : Int)).flatMap (iC .u32))] (.seq (.seq (.r4 G [4, 6, 7, 8, 9] [(10, aI64 (wrapF .i64 ((wrapF .i64 ((u_9.length : Int) - (v5.length : Int))) - 1)))] (.block ?_)))))))))
  replace hr := bd hr; obtain ⟨o235, hL236, hr⟩ := hr
  refine .loopO (σ := fun z0 => match z0 with | (q_19, u_20, j_21) => ⟨mkS 266 0 [(4, .hs 0 0 q_19.length 1), (6, aU32 (wrapF .u32 (wrapF .u64 ((1000000000 : Int).tdiv (wrapF .u64 ((wrapF .u64 (gt b (wrapF .i64 ((b.length : Int) - 1)))) + 1)))))), (7, .hs 1 0 u_20.length 1), (8, .hs 2 0 v5.length 1), (9, aI64 (v5.length : Int)), (10, aI64 j_21)], [.own (q_19.flatMap (iC .u32)), .own (u_20.flatMap (iC .u32)), .own (v5.flatMap (iC .u32))]⟩) (Q := fun x st' => match (generalizing := false) o235 with | (q_127, u_128) => x = .exit 0 ∧ Wk 0 st' ⟨mkS 266 0 [(4, .hs 0 0 q_127.length 1), (6, aU32 (wrapF .u32 (wrapF .u64 ((1000000000 : Int).tdiv (wrapF .u64 ((wrapF .u64 (gt b (wrapF .i64 ((b.length : Int) - 1)))) + 1)))))), (7, .hs 1 0 u_128.length 1), (9, aI64 (v5.length : Int))], [.own (q_127.flatMap (iC .u32)), .own (u_128.flatMap (iC .u32))]⟩) hL236 ((Wk.gc [4, 6, 7, 8, 9, 10] [(2, false), (0, false), (1, false)] rfl (pKo (iC .u32) (iC_pure _) (List.replicate (wrapF .i64 ((u_9.length : Int) - (v5.length : Int))).toNat ((0 : Int) : Int)) (pKo (iC .u32) (iC_pure _) u_9 (pKo (iC .u32) (iC_pure _) v5 trivial)))).to) ?_ ?_
  ·clear hr
   rintro m ⟨q_19, u_20, j_21⟩ hr
   show CQ _ _ _ _ _ ⟨_, _⟩
   refine .seq (.seq (.r4 G [4, 6, 7, 8, 9, 10] [(65, aB (decide (j_21 ≥ 0)))] ?_))
   refine .cd hr ?_ ?_ <;> intro hb131 hr
   ·refine .skip (.seq (.block (.seq ?_)))
    obtain ⟨v132, hc133, hr⟩ := bd hr
    obtain ⟨hg134, hr⟩ := gd hr
    refine .t1 G (callOk_val (args := [.hs 1 0 u_20.length 1, aI64 (wrapF .i64 (j_21 + (v5.length : Int)))]) (l := [1]) rfl (SnL.cons (Sn.hs rfl (.inl rfl) (SnC.pure (ids_flat (iC_pure _) _)) (fun h => flat_nil0 h)) (Sp SnL.nil)) (integer_at_ok n u_20 (wrapF .i64 (j_21 + (v5.length : Int))) v132 hc133)) (.mu 4 (.ca cf0 (.mu 7 (.pure (v := .hp 1 (0 + (wrapF .i64 ((wrapF .i64 (j_21 + (v5.length : Int))) - 1)).toNat * 1)) (by kernel_rfl) (tr (ofP_guard hg134)) (by kernel_rfl) (.pure (v := aU32 (gt u_20 (wrapF .i64 ((wrapF .i64 (j_21 + (v5.length : Int))) - 1)))) (by kernel_rfl) (tr (ofP_some (flat_get (iC_len .u32) (inR_lt hg134) (by decide : 0 < 1) (by omega : 0 + (wrapF .i64 ((wrapF .i64 (j_21 + (v5.length : Int))) - 1)).toNat * 1 = (wrapF .i64 ((wrapF .i64 (j_21 + (v5.length : Int))) - 1)).toNat * 1 + 0) (by kernel_rfl)))) (by kernel_rfl) (.mu 3 ?_))))))
    refine .done ⟨by kernel_rfl, ?_⟩
    refine .nh [4, 6, 7, 8, 9, 10, 11] [.own (q_19.flatMap (iC .u32)), .own (u_20.flatMap (iC .u32)), .own (v5.flatMap (iC .u32))] (.seq ?_)
    obtain ⟨hg135, hg136, hr⟩ := gd2 hr
    refine .regionT G callOf_nil (.mu 4 (.pure (v := .hp 2 (0 + (wrapF .i64 ((v5.length : Int) - 1)).toNat * 1)) (by kernel_rfl) (tr (ofP_guard hg135)) (by kernel_rfl) (.pure (v := aU32 (gt v5 (wrapF .i64 ((v5.length : Int) - 1)))) (by kernel_rfl) (tr (ofP_some (flat_get (iC_len .u32) (inR_lt hg135) (by decide : 0 < 1) (by omega : 0 + (wrapF .i64 ((v5.length : Int) - 1)).toNat * 1 = (wrapF .i64 ((v5.length : Int) - 1)).toNat * 1 + 0) (by kernel_rfl)))) (by kernel_rfl) (.mu 1 (.pure (v := aU64 (wrapF .u64 ((wrapF .u64 ((wrapF .u64 ((wrapF .u64 v132) * 1000000000)) + (wrapF .u64 (gt u_20 (wrapF .i64 ((wrapF .i64 (j_21 + (v5.length : Int))) - 1)))))).tdiv (wrapF .u64 (gt v5 (wrapF .i64 ((v5.length : Int) - 1))))))) (by kernel_rfl) (op_quo (x := wrapF .u64 ((wrapF .u64 ((wrapF .u64 v132) * 1000000000)) + (wrapF .u64 (gt u_20 (wrapF .i64 ((wrapF .i64 (j_21 + (v5.length : Int))) - 1)))))) (y := wrapF .u64 (gt v5 (wrapF .i64 ((v5.length : Int) - 1)))) (by kernel_rfl) (by kernel_rfl) hg136) (by kernel_rfl) (.mu 4 (.pure (v := .hp 2 (0 + (wrapF .i64 ((v5.length : Int) - 1)).toNat * 1)) (by kernel_rfl) (tr (ofP_guard hg135)) (by kernel_rfl) (.pure (v := aU32 (gt v5 (wrapF .i64 ((v5.length : Int) - 1)))) (by kernel_rfl) (tr (ofP_some (flat_get (iC_len .u32) (inR_lt hg135) (by decide : 0 < 1) (by omega : 0 + (wrapF .i64 ((v5.length : Int) - 1)).toNat * 1 = (wrapF .i64 ((v5.length : Int) - 1)).toNat * 1 + 0) (by kernel_rfl)))) (by kernel_rfl) (.mu 1 (.pure (v := aU64 ((wrapF .u64 ((wrapF .u64 ((wrapF .u64 v132) * 1000000000)) + (wrapF .u64 (gt u_20 (wrapF .i64 ((wrapF .i64 (j_21 + (v5.length : Int))) - 1)))))).tmod (wrapF .u64 (gt v5 (wrapF .i64 ((v5.length : Int) - 1)))))) (by kernel_rfl) (op_rem (x := wrapF .u64 ((wrapF .u64 ((wrapF .u64 v132) * 1000000000)) + (wrapF .u64 (gt u_20 (wrapF .i64 ((wrapF .i64 (j_21 + (v5.length : Int))) - 1)))))) (y := wrapF .u64 (gt v5 (wrapF .i64 ((v5.length : Int) - 1)))) (by kernel_rfl) (by kernel_rfl) hg136) (by kernel_rfl) (.mu 2 ?_)))))))))))
    refine .done ⟨by kernel_rfl, ?_⟩
    refine .nh [4, 6, 7, 8, 9, 10, 12, 13] [.own (q_19.flatMap (iC .u32)), .own (u_20.flatMap (iC .u32)), .own (v5.flatMap (iC .u32))] (.seq (.block ?_))
    replace hr := bd hr; obtain ⟨g_164, hL173, hr⟩ := hr
    refine .loopO (σ := fun z0 => match z0 with | (g_156, r_157) => ⟨mkS 266 0 [(4, .hs 0 0 q_19.length 1), (6, aU32 (wrapF .u32 (wrapF .u64 ((1000000000 : Int).tdiv (wrapF .u64 ((wrapF .u64 (gt b (wrapF .i64 ((b.length : Int) - 1)))) + 1)))))), (7, .hs 1 0 u_20.length 1), (8, .hs 2 0 v5.length 1), (9, aI64 (v5.length : Int)), (10, aI64 j_21), (12, aU64 g_156), (13, aU64 r_157)], [.own (q_19.flatMap (iC .u32)), .own (u_20.flatMap (iC .u32)), .own (v5.flatMap (iC .u32))]⟩) (Q := fun x st' => x = .exit 2 ∧ Wk 0 st' ⟨mkS 266 0 [(4, .hs 0 0 q_19.length 1), (6, aU32 (wrapF .u32 (wrapF .u64 ((1000000000 : Int).tdiv (wrapF .u64 ((wrapF .u64 (gt b (wrapF .i64 ((b.length : Int) - 1)))) + 1)))))), (7, .hs 1 0 u_20.length 1), (8, .hs 2 0 v5.length 1), (9, aI64 (v5.length : Int)), (10, aI64 j_21), (12, aU64 g_164)], [.own (q_19.flatMap (iC .u32)), .own (u_20.flatMap (iC .u32)), .own (v5.flatMap (iC .u32))]⟩) hL173 ((Wk.gc [4, 6, 7, 8, 9, 10, 12, 13] [(0, false), (1, false), (2, false)] rfl (pKo (iC .u32) (iC_pure _) q_19 (pKo (iC .u32) (iC_pure _) u_20 (pKo (iC .u32) (iC_pure _) v5 trivial)))).to) ?_ ?_
    ·clear hr
     rintro m ⟨g_156, r_157⟩ hr
     show CQ _ _ _ _ _ ⟨_, _⟩
     refine .seq (.seq ?_)
     rcases bT (decide (g_156 ≥ 1000000000)) with hb166 | hb166
     ·replace hr := cd_t hb166 hr
      refine .regionT G callOf_nil (.mu 1 (.pure (v := aB true) (by kernel_rfl) (eB hb166) (by kernel_rfl) (.mu 22 ?_)))
      refine .done ⟨by kernel_rfl, ?_⟩
      refine .nh [4, 6, 7, 8, 9, 10, 12, 13, 123] [.own (q_19.flatMap (iC .u32)), .own (u_20.flatMap (iC .u32)), .own (v5.flatMap (iC .u32))] (.cT (by kernel_rfl) (.skip (.block (.seq (.r4 G [4, 6, 7, 8, 9, 10, 13] [(12, aU64 (wrapF .u64 (g_156 - 1)))] (.seq (.r0 G (.mu 4 (.p0 (v := .hp 2 (0 + (wrapF .i64 ((v5.length : Int) - 1)).toNat * 1)) (tr (ofP_guard hg135)) (.p0 (v := aU32 (gt v5 (wrapF .i64 ((v5.length : Int) - 1)))) (tr (ofP_some (flat_get (iC_len .u32) (inR_lt hg135) (by decide : 0 < 1) (by omega : 0 + (wrapF .i64 ((v5.length : Int) - 1)).toNat * 1 = (wrapF .i64 ((v5.length : Int) - 1)).toNat * 1 + 0) (by kernel_rfl)))) (.mu 3 (.done (.nh [4, 6, 7, 8, 9, 10, 12, 13] [.own (q_19.flatMap (iC .u32)), .own (u_20.flatMap (iC .u32)), .own (v5.flatMap (iC .u32))] (.seq (.r4 G [4, 6, 7, 8, 9, 10, 12, 13] [(135, aB (decide ((wrapF .u64 (r_157 + (wrapF .u64 (gt v5 (wrapF .i64 ((v5.length : Int) - 1)))))) ≥ 1000000000)))] ?_)))))))))))))))
      refine .cd hr ?_ ?_ <;> intro hb167 hr
      ·refine .leave rfl ?_
       obtain rfl := oi hr
       exact ⟨rfl, ((Wk.gc [4, 6, 7, 8, 9, 10, 12] [(0, false), (1, false), (2, false)] rfl (pKo (iC .u32) (iC_pure _) q_19 (pKo (iC .u32) (iC_pure _) u_20 (pKo (iC .u32) (iC_pure _) v5 trivial)))).to)⟩
      ·refine .skip (.pop ?_)
       exact loopF_back (wrapF .u64 (g_156 - 1), wrapF .u64 (r_157 + (wrapF .u64 (gt v5 (wrapF .i64 ((v5.length : Int) - 1)))))) hr ((Wk.gc [4, 6, 7, 8, 9, 10, 12, 13] [(0, false), (1, false), (2, false)] rfl (pKo (iC .u32) (iC_pure _) q_19 (pKo (iC .u32) (iC_pure _) u_20 (pKo (iC .u32) (iC_pure _) v5 trivial)))).to)
     ·replace hr := cd_f hb166 hr
      obtain ⟨hg168, hg169, hr⟩ := gd2 hr
      refine .regionT G callOf_nil (.mu 1 (.pure (v := aB false) (by kernel_rfl) (eB hb166) (by kernel_rfl) (.mu 5 (.pure (v := .hp 2 (0 + (wrapF .i64 ((v5.length : Int) - 2)).toNat * 1)) (by kernel_rfl) (tr (ofP_guard hg168)) (by kernel_rfl) (.pure (v := aU32 (gt v5 (wrapF .i64 ((v5.length : Int) - 2)))) (by kernel_rfl) (tr (ofP_some (flat_get (iC_len .u32) (inR_lt hg168) (by decide : 0 < 1) (by omega : 0 + (wrapF .i64 ((v5.length : Int) - 2)).toNat * 1 = (wrapF .i64 ((v5.length : Int) - 2)).toNat * 1 + 0) (by kernel_rfl)))) (by kernel_rfl) (.mu 9 (.pure (v := .hp 1 (0 + (wrapF .i64 ((wrapF .i64 (j_21 + (v5.length : Int))) - 2)).toNat * 1)) (by kernel_rfl) (tr (ofP_guard hg169)) (by kernel_rfl) (.pure (v := aU32 (gt u_20 (wrapF .i64 ((wrapF .i64 (j_21 + (v5.length : Int))) - 2)))) (by kernel_rfl) (tr (ofP_some (flat_get (iC_len .u32) (inR_lt hg169) (by decide : 0 < 1) (by omega : 0 + (wrapF .i64 ((wrapF .i64 (j_21 + (v5.length : Int))) - 2)).toNat * 1 = (wrapF .i64 ((wrapF .i64 (j_21 + (v5.length : Int))) - 2)).toNat * 1 + 0) (by kernel_rfl)))) (by kernel_rfl) (.mu 4 ?_)))))))))
      refine .done ⟨by kernel_rfl, ?_⟩
      refine .nh [4, 6, 7, 8, 9, 10, 12, 13, 123] [.own (q_19.flatMap (iC .u32)), .own (u_20.flatMap (iC .u32)), .own (v5.flatMap (iC .u32))] ?_
      refine .cd hr ?_ ?_ <;> intro hb170 hr
      ·refine .skip (.block (.seq (.r4 G [4, 6, 7, 8, 9, 10, 13] [(12, aU64 (wrapF .u64 (g_156 - 1)))] (.seq (.r0 G (.mu 4 (.p0 (v := .hp 2 (0 + (wrapF .i64 ((v5.length : Int) - 1)).toNat * 1)) (tr (ofP_guard hg135)) (.p0 (v := aU32 (gt v5 (wrapF .i64 ((v5.length : Int) - 1)))) (tr (ofP_some (flat_get (iC_len .u32) (inR_lt hg135) (by decide : 0 < 1) (by omega : 0 + (wrapF .i64 ((v5.length : Int) - 1)).toNat * 1 = (wrapF .i64 ((v5.length : Int) - 1)).toNat * 1 + 0) (by kernel_rfl)))) (.mu 3 (.done (.nh [4, 6, 7, 8, 9, 10, 12, 13] [.own (q_19.flatMap (iC .u32)), .own (u_20.flatMap (iC .u32)), .own (v5.flatMap (iC .u32))] (.seq (.r4 G [4, 6, 7, 8, 9, 10, 12, 13] [(135, aB (decide ((wrapF .u64 (r_157 + (wrapF .u64 (gt v5 (wrapF .i64 ((v5.length : Int) - 1)))))) ≥ 1000000000)))] ?_)))))))))))))
       refine .cd hr ?_ ?_ <;> intro hb171 hr
       ·refine .leave rfl ?_
        obtain rfl := oi hr
        exact ⟨rfl, ((Wk.gc [4, 6, 7, 8, 9, 10, 12] [(0, false), (1, false), (2, false)] rfl (pKo (iC .u32) (iC_pure _) q_19 (pKo (iC .u32) (iC_pure _) u_20 (pKo (iC .u32) (iC_pure _) v5 trivial)))).to)⟩
       ·refine .skip (.pop ?_)
        exact loopF_back (wrapF .u64 (g_156 - 1), wrapF .u64 (r_157 + (wrapF .u64 (gt v5 (wrapF .i64 ((v5.length : Int) - 1)))))) hr ((Wk.gc [4, 6, 7, 8, 9, 10, 12, 13] [(0, false), (1, false), (2, false)] rfl (pKo (iC .u32) (iC_pure _) q_19 (pKo (iC .u32) (iC_pure _) u_20 (pKo (iC .u32) (iC_pure _) v5 trivial)))).to)
      ·refine .leave rfl ?_
       obtain rfl := oi hr
       exact ⟨rfl, ((Wk.gc [4, 6, 7, 8, 9, 10, 12] [(0, false), (1, false), (2, false)] rfl (pKo (iC .u32) (iC_pure _) q_19 (pKo (iC .u32) (iC_pure _) u_20 (pKo (iC .u32) (iC_pure _) v5 trivial)))).to)⟩
    ·rintro x st' hq174
     clear hL173
     obtain ⟨rfl, hq174⟩ := hq174
     refine CQ_exit _ rfl (.wk hq174 (.seq (.r4 G [4, 6, 7, 8, 9, 10, 12] [(14, aI64 0), (15, aU64 0)] (.seq (.seq (.r4 G [4, 6, 7, 8, 9, 10, 12, 14, 15] [(136, aI64 (v5.length : Int)), (137, aI64 0)] (.block ?_)))))))
     replace hr := bd hr; obtain ⟨o210, hL211, hr⟩ := hr
     refine .loopO (σ := fun z0 => match z0 with | (u_194, b_195, c_196, x_197) => ⟨mkS 266 0 [(4, .hs 0 0 q_19.length 1), (6, aU32 (wrapF .u32 (wrapF .u64 ((1000000000 : Int).tdiv (wrapF .u64 ((wrapF .u64 (gt b (wrapF .i64 ((b.length : Int) - 1)))) + 1)))))), (7, .hs 1 0 u_194.length 1), (8, .hs 2 0 v5.length 1), (9, aI64 (v5.length : Int)), (10, aI64 j_21), (12, aU64 g_164), (14, aI64 b_195), (15, aU64 c_196), (136, aI64 (v5.length : Int)), (137, aI64 x_197)], [.own (q_19.flatMap (iC .u32)), .own (u_194.flatMap (iC .u32)), .own (v5.flatMap (iC .u32))]⟩) (Q := fun x st' => match (generalizing := false) o210 with | (u_202, b_203, c_204) => x = .exit 4 ∧ Wk 0 st' ⟨mkS 266 0 [(4, .hs 0 0 q_19.length 1), (6, aU32 (wrapF .u32 (wrapF .u64 ((1000000000 : Int).tdiv (wrapF .u64 ((wrapF .u64 (gt b (wrapF .i64 ((b.length : Int) - 1)))) + 1)))))), (7, .hs 1 0 u_202.length 1), (8, .hs 2 0 v5.length 1), (9, aI64 (v5.length : Int)), (10, aI64 j_21), (12, aU64 g_164), (14, aI64 b_203), (15, aU64 c_204)], [.own (q_19.flatMap (iC .u32)), .own (u_202.flatMap (iC .u32)), .own (v5.flatMap (iC .u32))]⟩) hL211 ((Wk.gc [4, 6, 7, 8, 9, 10, 12, 14, 15, 136, 137] [(0, false), (1, false), (2, false)] rfl (pKo (iC .u32) (iC_pure _) q_19 (pKo (iC .u32) (iC_pure _) u_20 (pKo (iC .u32) (iC_pure _) v5 trivial)))).to) ?_ ?_
     ·clear hr
      rintro m ⟨u_194, b_195, c_196, x_197⟩ hr
      show CQ _ _ _ _ _ ⟨_, _⟩
      refine .seq (.r4 G [4, 6, 7, 8, 9, 10, 12, 14, 15, 136, 137] [(138, aB (decide (x_197 < (v5.length : Int))))] (.seq ?_))
      refine .cd hr ?_ ?_ <;> intro hb206 hr
      ·refine .skip (.seq (.block (.seq (.r4 G [4, 6, 7, 8, 9, 10, 12, 14, 15, 136, 137] [(16, aI64 x_197)] (.seq ?_)))))
       obtain ⟨hg207, hr⟩ := gd hr
       refine .r0 G (.mu 3 (.p0 (v := .hp 2 (0 + x_197.toNat * 1)) (tr (ofP_guard hg207)) (.p0 (v := aU32 (gt v5 x_197)) (tr (ofP_some (flat_get (iC_len .u32) (inR_lt hg207) (by decide : 0 < 1) (by omega : 0 + x_197.toNat * 1 = x_197.toNat * 1 + 0) (by kernel_rfl)))) (.mu 5 (.done (.nh [4, 6, 7, 8, 9, 10, 12, 14, 16, 17, 136, 137] [.own (q_19.flatMap (iC .u32)), .own (u_194.flatMap (iC .u32)), .own (v5.flatMap (iC .u32))] (.seq (.r4 G [4, 6, 7, 8, 9, 10, 12, 14, 16, 17, 136, 137] [(15, aU64 (wrapF .u64 ((wrapF .u64 ((wrapF .u64 (g_164 * (wrapF .u64 (gt v5 x_197)))) + c_196)).tdiv 1000000000)))] (.seq ?_)))))))))
       obtain ⟨hg208, hr⟩ := gd hr
       refine .r0 G (.mu 4 (.p0 (v := .hp 1 (0 + (wrapF .i64 (x_197 + j_21)).toNat * 1)) (tr (ofP_guard hg208)) (.p0 (v := aU32 (gt u_194 (wrapF .i64 (x_197 + j_21)))) (tr (ofP_some (flat_get (iC_len .u32) (inR_lt hg208) (by decide : 0 < 1) (by omega : 0 + (wrapF .i64 (x_197 + j_21)).toNat * 1 = (wrapF .i64 (x_197 + j_21)).toNat * 1 + 0) (by kernel_rfl)))) (.mu 8 (.done (.nh [4, 6, 7, 8, 9, 10, 12, 15, 16, 18, 136, 137] [.own (q_19.flatMap (iC .u32)), .own (u_194.flatMap (iC .u32)), .own (v5.flatMap (iC .u32))] (.seq (.r4 G [4, 6, 7, 8, 9, 10, 12, 15, 16, 18, 136, 137] [(14, aI64 0)] (.seq (.seq (.r4 G [4, 6, 7, 8, 9, 10, 12, 14, 15, 16, 18, 136, 137] [(165, aB (decide ((wrapF .i64 ((wrapF .i64 ((wrapF .i64 (gt u_194 (wrapF .i64 (x_197 + j_21)))) - b_195)) - (wrapF .i64 ((wrapF .u64 ((wrapF .u64 (g_164 * (wrapF .u64 (gt v5 x_197)))) + c_196)).tmod 1000000000)))) < 0)))] ?_)))))))))))
       refine .cd hr ?_ ?_ <;> intro hb209 hr
       ·refine .r4 G [4, 6, 7, 8, 9, 10, 12, 15, 16, 136, 137] [(14, aI64 1), (18, aI64 (wrapF .i64 ((wrapF .i64 ((wrapF .i64 ((wrapF .i64 (gt u_194 (wrapF .i64 (x_197 + j_21)))) - b_195)) - (wrapF .i64 ((wrapF .u64 ((wrapF .u64 (g_164 * (wrapF .u64 (gt v5 x_197)))) + c_196)).tmod 1000000000)))) + 1000000000)))] (.r0 G (.mu 6 (.p0 (v := .hp 1 (0 + (wrapF .i64 (x_197 + j_21)).toNat * 1)) (tr (ofP_guard hg208)) (.e0 (v := .unk) (ws := [(1, .own ((u_194.set (wrapF .i64 (x_197 + j_21)).toNat (wrapF .u32 (wrapF .i64 ((wrapF .i64 ((wrapF .i64 ((wrapF .i64 (gt u_194 (wrapF .i64 (x_197 + j_21)))) - b_195)) - (wrapF .i64 ((wrapF .u64 ((wrapF .u64 (g_164 * (wrapF .u64 (gt v5 x_197)))) + c_196)).tmod 1000000000)))) + 1000000000)))).flatMap (iC .u32)))]) (tr (stO_t (and_t (flat_fits (n := 1) (iC_len .u32) (inR_lt hg208) (Nat.le_of_ble_eq_true rfl) (by omega : 0 + (wrapF .i64 (x_197 + j_21)).toNat * 1 = (wrapF .i64 (x_197 + j_21)).toNat * 1 + 0))) (congrArg Blk.own (flat_set (xs := [aU32 (wrapF .u32 (wrapF .i64 ((wrapF .i64 ((wrapF .i64 ((wrapF .i64 (gt u_194 (wrapF .i64 (x_197 + j_21)))) - b_195)) - (wrapF .i64 ((wrapF .u64 ((wrapF .u64 (g_164 * (wrapF .u64 (gt v5 x_197)))) + c_196)).tmod 1000000000)))) + 1000000000)))]) (iC_len .u32) (inR_lt hg208) (Nat.le_of_ble_eq_true rfl) (by omega : 0 + (wrapF .i64 (x_197 + j_21)).toNat * 1 = (wrapF .i64 (x_197 + j_21)).toNat * 1 + 0) (by kernel_rfl))))) (.done (.pop (.ru G ?_)))))))
        exact loopF_back (u_194.set (wrapF .i64 (x_197 + j_21)).toNat (wrapF .u32 (wrapF .i64 ((wrapF .i64 ((wrapF .i64 ((wrapF .i64 (gt u_194 (wrapF .i64 (x_197 + j_21)))) - b_195)) - (wrapF .i64 ((wrapF .u64 ((wrapF .u64 (g_164 * (wrapF .u64 (gt v5 x_197)))) + c_196)).tmod 1000000000)))) + 1000000000))), 1, wrapF .u64 ((wrapF .u64 ((wrapF .u64 (g_164 * (wrapF .u64 (gt v5 x_197)))) + c_196)).tdiv 1000000000), wrapF .i64 (x_197 + 1)) hr ((Wk.relen 7 (b := 1) (es := 1) (len := u_194.length) (u_194.set (wrapF .i64 (x_197 + j_21)).toNat (wrapF .u32 (wrapF .i64 ((wrapF .i64 ((wrapF .i64 ((wrapF .i64 (gt u_194 (wrapF .i64 (x_197 + j_21)))) - b_195)) - (wrapF .i64 ((wrapF .u64 ((wrapF .u64 (g_164 * (wrapF .u64 (gt v5 x_197)))) + c_196)).tmod 1000000000)))) + 1000000000)))).length (by kernel_rfl) (Eq.symm (List.length_set.trans rfl))).trans ((Wk.gc [4, 6, 7, 8, 9, 10, 12, 14, 15, 136, 137] [(0, false), (1, false), (2, false)] rfl (pKo (iC .u32) (iC_pure _) q_19 (pKo (iC .u32) (iC_pure _) (u_194.set (wrapF .i64 (x_197 + j_21)).toNat (wrapF .u32 (wrapF .i64 ((wrapF .i64 ((wrapF .i64 ((wrapF .i64 (gt u_194 (wrapF .i64 (x_197 + j_21)))) - b_195)) - (wrapF .i64 ((wrapF .u64 ((wrapF .u64 (g_164 * (wrapF .u64 (gt v5 x_197)))) + c_196)).tmod 1000000000)))) + 1000000000)))) (pKo (iC .u32) (iC_pure _) v5 trivial)))).to))
       ·refine .skip (.r0 G (.mu 6 (.p0 (v := .hp 1 (0 + (wrapF .i64 (x_197 + j_21)).toNat * 1)) (tr (ofP_guard hg208)) (.e0 (v := .unk) (ws := [(1, .own ((u_194.set (wrapF .i64 (x_197 + j_21)).toNat (wrapF .u32 (wrapF .i64 ((wrapF .i64 ((wrapF .i64 (gt u_194 (wrapF .i64 (x_197 + j_21)))) - b_195)) - (wrapF .i64 ((wrapF .u64 ((wrapF .u64 (g_164 * (wrapF .u64 (gt v5 x_197)))) + c_196)).tmod 1000000000)))))).flatMap (iC .u32)))]) (tr (stO_t (and_t (flat_fits (n := 1) (iC_len .u32) (inR_lt hg208) (Nat.le_of_ble_eq_true rfl) (by omega : 0 + (wrapF .i64 (x_197 + j_21)).toNat * 1 = (wrapF .i64 (x_197 + j_21)).toNat * 1 + 0))) (congrArg Blk.own (flat_set (xs := [aU32 (wrapF .u32 (wrapF .i64 ((wrapF .i64 ((wrapF .i64 (gt u_194 (wrapF .i64 (x_197 + j_21)))) - b_195)) - (wrapF .i64 ((wrapF .u64 ((wrapF .u64 (g_164 * (wrapF .u64 (gt v5 x_197)))) + c_196)).tmod 1000000000)))))]) (iC_len .u32) (inR_lt hg208) (Nat.le_of_ble_eq_true rfl) (by omega : 0 + (wrapF .i64 (x_197 + j_21)).toNat * 1 = (wrapF .i64 (x_197 + j_21)).toNat * 1 + 0) (by kernel_rfl))))) (.done (.pop (.ru G ?_)))))))
        exact loopF_back (u_194.set (wrapF .i64 (x_197 + j_21)).toNat (wrapF .u32 (wrapF .i64 ((wrapF .i64 ((wrapF .i64 (gt u_194 (wrapF .i64 (x_197 + j_21)))) - b_195)) - (wrapF .i64 ((wrapF .u64 ((wrapF .u64 (g_164 * (wrapF .u64 (gt v5 x_197)))) + c_196)).tmod 1000000000))))), 0, wrapF .u64 ((wrapF .u64 ((wrapF .u64 (g_164 * (wrapF .u64 (gt v5 x_197)))) + c_196)).tdiv 1000000000), wrapF .i64 (x_197 + 1)) hr ((Wk.relen 7 (b := 1) (es := 1) (len := u_194.length) (u_194.set (wrapF .i64 (x_197 + j_21)).toNat (wrapF .u32 (wrapF .i64 ((wrapF .i64 ((wrapF .i64 (gt u_194 (wrapF .i64 (x_197 + j_21)))) - b_195)) - (wrapF .i64 ((wrapF .u64 ((wrapF .u64 (g_164 * (wrapF .u64 (gt v5 x_197)))) + c_196)).tmod 1000000000)))))).length (by kernel_rfl) (Eq.symm (List.length_set.trans rfl))).trans ((Wk.gc [4, 6, 7, 8, 9, 10, 12, 14, 15, 136, 137] [(0, false), (1, false), (2, false)] rfl (pKo (iC .u32) (iC_pure _) q_19 (pKo (iC .u32) (iC_pure _) (u_194.set (wrapF .i64 (x_197 + j_21)).toNat (wrapF .u32 (wrapF .i64 ((wrapF .i64 ((wrapF .i64 (gt u_194 (wrapF .i64 (x_197 + j_21)))) - b_195)) - (wrapF .i64 ((wrapF .u64 ((wrapF .u64 (g_164 * (wrapF .u64 (gt v5 x_197)))) + c_196)).tmod 1000000000)))))) (pKo (iC .u32) (iC_pure _) v5 trivial)))).to))
      ·refine .leave rfl ?_
       obtain rfl := oi hr
       exact ⟨rfl, ((Wk.gc [4, 6, 7, 8, 9, 10, 12, 14, 15] [(0, false), (1, false), (2, false)] rfl (pKo (iC .u32) (iC_pure _) q_19 (pKo (iC .u32) (iC_pure _) u_194 (pKo (iC .u32) (iC_pure _) v5 trivial)))).to)⟩
     ·rcases o210 with ⟨u_202, b_203, c_204⟩
      rintro x st' hq212
      clear hL211
      obtain ⟨rfl, hq212⟩ := hq212
      refine CQ_exit _ rfl (.wk hq212 (.seq ?_))
      obtain ⟨hg213, hr⟩ := gd hr
      refine .r0 G (.mu 4 (.p0 (v := .hp 1 (0 + (wrapF .i64 (j_21 + (v5.length : Int))).toNat * 1)) (tr (ofP_guard hg213)) (.p0 (v := aU32 (gt u_202 (wrapF .i64 (j_21 + (v5.length : Int))))) (tr (ofP_some (flat_get (iC_len .u32) (inR_lt hg213) (by decide : 0 < 1) (by omega : 0 + (wrapF .i64 (j_21 + (v5.length : Int))).toNat * 1 = (wrapF .i64 (j_21 + (v5.length : Int))).toNat * 1 + 0) (by kernel_rfl)))) (.mu 7 (.done (.nh [4, 6, 7, 8, 9, 10, 12, 19] [.own (q_19.flatMap (iC .u32)), .own (u_202.flatMap (iC .u32)), .own (v5.flatMap (iC .u32))] (.seq (.seq (.r4 G [4, 6, 7, 8, 9, 10, 12, 19] [(189, aB (decide ((wrapF .i64 ((wrapF .i64 ((wrapF .i64 (gt u_202 (wrapF .i64 (j_21 + (v5.length : Int))))) - b_203)) - (wrapF .i64 c_204))) < 0)))] ?_)))))))))
      refine .cd hr ?_ ?_ <;> intro hb214 hr
      ·refine .seq (.r0 G (.mu 7 (.p0 (v := .hp 1 (0 + (wrapF .i64 (j_21 + (v5.length : Int))).toNat * 1)) (tr (ofP_guard hg213)) (.e0 (v := .unk) (ws := [(1, .own ((u_202.set (wrapF .i64 (j_21 + (v5.length : Int))).toNat (wrapF .u32 (wrapF .i64 ((wrapF .i64 ((wrapF .i64 ((wrapF .i64 (gt u_202 (wrapF .i64 (j_21 + (v5.length : Int))))) - b_203)) - (wrapF .i64 c_204))) + 1000000000)))).flatMap (iC .u32)))]) (tr (stO_t (and_t (flat_fits (n := 1) (iC_len .u32) (inR_lt hg213) (Nat.le_of_ble_eq_true rfl) (by omega : 0 + (wrapF .i64 (j_21 + (v5.length : Int))).toNat * 1 = (wrapF .i64 (j_21 + (v5.length : Int))).toNat * 1 + 0))) (congrArg Blk.own (flat_set (xs := [aU32 (wrapF .u32 (wrapF .i64 ((wrapF .i64 ((wrapF .i64 ((wrapF .i64 (gt u_202 (wrapF .i64 (j_21 + (v5.length : Int))))) - b_203)) - (wrapF .i64 c_204))) + 1000000000)))]) (iC_len .u32) (inR_lt hg213) (Nat.le_of_ble_eq_true rfl) (by omega : 0 + (wrapF .i64 (j_21 + (v5.length : Int))).toNat * 1 = (wrapF .i64 (j_21 + (v5.length : Int))).toNat * 1 + 0) (by kernel_rfl))))) (.done (.nh [4, 6, 7, 8, 9, 10, 12] [.own (q_19.flatMap (iC .u32)), .own ((u_202.set (wrapF .i64 (j_21 + (v5.length : Int))).toNat (wrapF .u32 (wrapF .i64 ((wrapF .i64 ((wrapF .i64 ((wrapF .i64 (gt u_202 (wrapF .i64 (j_21 + (v5.length : Int))))) - b_203)) - (wrapF .i64 c_204))) + 1000000000)))).flatMap (iC .u32)), .own (v5.flatMap (iC .u32))] (.seq (.r4 G [4, 6, 7, 8, 9, 10] [(12, aU64 (wrapF .u64 (g_164 - 1)))] (.seq (.r4 G [4, 6, 7, 8, 9, 10, 12] [(20, aU32 0)] (.seq (.seq (.r4 G [4, 6, 7, 8, 9, 10, 12, 20] [(200, aI64 (v5.length : Int)), (201, aI64 0)] (.block ?_))))))))))))))
       replace hr := bd hr; obtain ⟨o229, hL230, hr⟩ := hr
       refine .loopO (σ := fun z0 => match z0 with | (u_215, c_216, x_217) => ⟨mkS 266 0 [(4, .hs 0 0 q_19.length 1), (6, aU32 (wrapF .u32 (wrapF .u64 ((1000000000 : Int).tdiv (wrapF .u64 ((wrapF .u64 (gt b (wrapF .i64 ((b.length : Int) - 1)))) + 1)))))), (7, .hs 1 0 u_215.length 1), (8, .hs 2 0 v5.length 1), (9, aI64 (v5.length : Int)), (10, aI64 j_21), (12, aU64 (wrapF .u64 (g_164 - 1))), (20, aU32 c_216), (200, aI64 (v5.length : Int)), (201, aI64 x_217)], [.own (q_19.flatMap (iC .u32)), .own (u_215.flatMap (iC .u32)), .own (v5.flatMap (iC .u32))]⟩) (Q := fun x st' => match (generalizing := false) o229 with | (u_222, c_223) => x = .exit 6 ∧ Wk 0 st' ⟨mkS 266 0 [(4, .hs 0 0 q_19.length 1), (6, aU32 (wrapF .u32 (wrapF .u64 ((1000000000 : Int).tdiv (wrapF .u64 ((wrapF .u64 (gt b (wrapF .i64 ((b.length : Int) - 1)))) + 1)))))), (7, .hs 1 0 u_222.length 1), (8, .hs 2 0 v5.length 1), (9, aI64 (v5.length : Int)), (10, aI64 j_21), (12, aU64 (wrapF .u64 (g_164 - 1))), (20, aU32 c_223)], [.own (q_19.flatMap (iC .u32)), .own (u_222.flatMap (iC .u32)), .own (v5.flatMap (iC .u32))]⟩) hL230 ((Wk.relen 7 (b := 1) (es := 1) (len := u_202.length) (u_202.set (wrapF .i64 (j_21 + (v5.length : Int))).toNat (wrapF .u32 (wrapF .i64 ((wrapF .i64 ((wrapF .i64 ((wrapF .i64 (gt u_202 (wrapF .i64 (j_21 + (v5.length : Int))))) - b_203)) - (wrapF .i64 c_204))) + 1000000000)))).length (by kernel_rfl) (Eq.symm (List.length_set.trans rfl))).trans ((Wk.gc [4, 6, 7, 8, 9, 10, 12, 20, 200, 201] [(0, false), (1, false), (2, false)] rfl (pKo (iC .u32) (iC_pure _) q_19 (pKo (iC .u32) (iC_pure _) (u_202.set (wrapF .i64 (j_21 + (v5.length : Int))).toNat (wrapF .u32 (wrapF .i64 ((wrapF .i64 ((wrapF .i64 ((wrapF .i64 (gt u_202 (wrapF .i64 (j_21 + (v5.length : Int))))) - b_203)) - (wrapF .i64 c_204))) + 1000000000)))) (pKo (iC .u32) (iC_pure _) v5 trivial)))).to)) ?_ ?_
       ·clear hr
        rintro m ⟨u_215, c_216, x_217⟩ hr
        show CQ _ _ _ _ _ ⟨_, _⟩
        refine .seq (.r4 G [4, 6, 7, 8, 9, 10, 12, 20, 200, 201] [(202, aB (decide (x_217 < (v5.length : Int))))] (.seq ?_))
        refine .cd hr ?_ ?_ <;> intro hb225 hr
        ·refine .skip (.seq (.block (.seq (.r4 G [4, 6, 7, 8, 9, 10, 12, 20, 200, 201] [(21, aI64 x_217)] (.seq ?_)))))
         obtain ⟨hg226, hg227, hr⟩ := gd2 hr
         refine .regionT G callOf_nil (.mu 4 (.pure (v := .hp 1 (0 + (wrapF .i64 (x_217 + j_21)).toNat * 1)) (by kernel_rfl) (tr (ofP_guard hg226)) (by kernel_rfl) (.pure (v := aU32 (gt u_215 (wrapF .i64 (x_217 + j_21)))) (by kernel_rfl) (tr (ofP_some (flat_get (iC_len .u32) (inR_lt hg226) (by decide : 0 < 1) (by omega : 0 + (wrapF .i64 (x_217 + j_21)).toNat * 1 = (wrapF .i64 (x_217 + j_21)).toNat * 1 + 0) (by kernel_rfl)))) (by kernel_rfl) (.mu 2 (.pure (v := .hp 2 (0 + x_217.toNat * 1)) (by kernel_rfl) (tr (ofP_guard hg227)) (by kernel_rfl) (.pure (v := aU32 (gt v5 x_217)) (by kernel_rfl) (tr (ofP_some (flat_get (iC_len .u32) (inR_lt hg227) (by decide : 0 < 1) (by omega : 0 + x_217.toNat * 1 = x_217.toNat * 1 + 0) (by kernel_rfl)))) (by kernel_rfl) (.mu 4 ?_)))))))
         refine .done ⟨by kernel_rfl, ?_⟩
         refine .nh [4, 6, 7, 8, 9, 10, 12, 21, 22, 200, 201] [.own (q_19.flatMap (iC .u32)), .own (u_215.flatMap (iC .u32)), .own (v5.flatMap (iC .u32))] (.seq (.r4 G [4, 6, 7, 8, 9, 10, 12, 21, 22, 200, 201] [(20, aU32 0)] (.seq (.seq (.r4 G [4, 6, 7, 8, 9, 10, 12, 20, 21, 22, 200, 201] [(218, aB (decide ((wrapF .u32 ((wrapF .u32 ((gt u_215 (wrapF .i64 (x_217 + j_21))) + (gt v5 x_217))) + c_216)) ≥ 1000000000)))] ?_)))))
         refine .cd hr ?_ ?_ <;> intro hb228 hr
         ·refine .r4 G [4, 6, 7, 8, 9, 10, 12, 21, 200, 201] [(20, aU32 1), (22, aU32 (wrapF .u32 ((wrapF .u32 ((wrapF .u32 ((gt u_215 (wrapF .i64 (x_217 + j_21))) + (gt v5 x_217))) + c_216)) - 1000000000)))] (.r0 G (.mu 5 (.p0 (v := .hp 1 (0 + (wrapF .i64 (x_217 + j_21)).toNat * 1)) (tr (ofP_guard hg226)) (.e0 (v := .unk) (ws := [(1, .own ((u_215.set (wrapF .i64 (x_217 + j_21)).toNat (wrapF .u32 ((wrapF .u32 ((wrapF .u32 ((gt u_215 (wrapF .i64 (x_217 + j_21))) + (gt v5 x_217))) + c_216)) - 1000000000))).flatMap (iC .u32)))]) (tr (stO_t (and_t (flat_fits (n := 1) (iC_len .u32) (inR_lt hg226) (Nat.le_of_ble_eq_true rfl) (by omega : 0 + (wrapF .i64 (x_217 + j_21)).toNat * 1 = (wrapF .i64 (x_217 + j_21)).toNat * 1 + 0))) (congrArg Blk.own (flat_set (xs := [aU32 (wrapF .u32 ((wrapF .u32 ((wrapF .u32 ((gt u_215 (wrapF .i64 (x_217 + j_21))) + (gt v5 x_217))) + c_216)) - 1000000000))]) (iC_len .u32) (inR_lt hg226) (Nat.le_of_ble_eq_true rfl) (by omega : 0 + (wrapF .i64 (x_217 + j_21)).toNat * 1 = (wrapF .i64 (x_217 + j_21)).toNat * 1 + 0) (by kernel_rfl))))) (.done (.pop (.ru G ?_)))))))
          exact loopF_back (u_215.set (wrapF .i64 (x_217 + j_21)).toNat (wrapF .u32 ((wrapF .u32 ((wrapF .u32 ((gt u_215 (wrapF .i64 (x_217 + j_21))) + (gt v5 x_217))) + c_216)) - 1000000000)), 1, wrapF .i64 (x_217 + 1)) hr ((Wk.relen 7 (b := 1) (es := 1) (len := u_215.length) (u_215.set (wrapF .i64 (x_217 + j_21)).toNat (wrapF .u32 ((wrapF .u32 ((wrapF .u32 ((gt u_215 (wrapF .i64 (x_217 + j_21))) + (gt v5 x_217))) + c_216)) - 1000000000))).length (by kernel_rfl) (Eq.symm (List.length_set.trans rfl))).trans ((Wk.gc [4, 6, 7, 8, 9, 10, 12, 20, 200, 201] [(0, false), (1, false), (2, false)] rfl (pKo (iC .u32) (iC_pure _) q_19 (pKo (iC .u32) (iC_pure _) (u_215.set (wrapF .i64 (x_217 + j_21)).toNat (wrapF .u32 ((wrapF .u32 ((wrapF .u32 ((gt u_215 (wrapF .i64 (x_217 + j_21))) + (gt v5 x_217))) + c_216)) - 1000000000))) (pKo (iC .u32) (iC_pure _) v5 trivial)))).to))
         ·refine .skip (.r0 G (.mu 5 (.p0 (v := .hp 1 (0 + (wrapF .i64 (x_217 + j_21)).toNat * 1)) (tr (ofP_guard hg226)) (.e0 (v := .unk) (ws := [(1, .own ((u_215.set (wrapF .i64 (x_217 + j_21)).toNat (wrapF .u32 ((wrapF .u32 ((gt u_215 (wrapF .i64 (x_217 + j_21))) + (gt v5 x_217))) + c_216))).flatMap (iC .u32)))]) (tr (stO_t (and_t (flat_fits (n := 1) (iC_len .u32) (inR_lt hg226) (Nat.le_of_ble_eq_true rfl) (by omega : 0 + (wrapF .i64 (x_217 + j_21)).toNat * 1 = (wrapF .i64 (x_217 + j_21)).toNat * 1 + 0))) (congrArg Blk.own (flat_set (xs := [aU32 (wrapF .u32 ((wrapF .u32 ((gt u_215 (wrapF .i64 (x_217 + j_21))) + (gt v5 x_217))) + c_216))]) (iC_len .u32) (inR_lt hg226) (Nat.le_of_ble_eq_true rfl) (by omega : 0 + (wrapF .i64 (x_217 + j_21)).toNat * 1 = (wrapF .i64 (x_217 + j_21)).toNat * 1 + 0) (by kernel_rfl))))) (.done (.pop (.ru G ?_)))))))
          exact loopF_back (u_215.set (wrapF .i64 (x_217 + j_21)).toNat (wrapF .u32 ((wrapF .u32 ((gt u_215 (wrapF .i64 (x_217 + j_21))) + (gt v5 x_217))) + c_216)), 0, wrapF .i64 (x_217 + 1)) hr ((Wk.relen 7 (b := 1) (es := 1) (len := u_215.length) (u_215.set (wrapF .i64 (x_217 + j_21)).toNat (wrapF .u32 ((wrapF .u32 ((gt u_215 (wrapF .i64 (x_217 + j_21))) + (gt v5 x_217))) + c_216))).length (by kernel_rfl) (Eq.symm (List.length_set.trans rfl))).trans ((Wk.gc [4, 6, 7, 8, 9, 10, 12, 20, 200, 201] [(0, false), (1, false), (2, false)] rfl (pKo (iC .u32) (iC_pure _) q_19 (pKo (iC .u32) (iC_pure _) (u_215.set (wrapF .i64 (x_217 + j_21)).toNat (wrapF .u32 ((wrapF .u32 ((gt u_215 (wrapF .i64 (x_217 + j_21))) + (gt v5 x_217))) + c_216))) (pKo (iC .u32) (iC_pure _) v5 trivial)))).to))
        ·refine .leave rfl ?_
         obtain rfl := oi hr
         exact ⟨rfl, ((Wk.gc [4, 6, 7, 8, 9, 10, 12, 20] [(0, false), (1, false), (2, false)] rfl (pKo (iC .u32) (iC_pure _) q_19 (pKo (iC .u32) (iC_pure _) u_215 (pKo (iC .u32) (iC_pure _) v5 trivial)))).to)⟩
       ·rcases o229 with ⟨u_222, c_223⟩
        rintro x st' hq231
        clear hL230
        obtain ⟨rfl, hq231⟩ := hq231
        refine CQ_exit _ rfl (.wk hq231 ?_)
        obtain ⟨hg232, hr⟩ := gd hr
        refine .r0 G (.mu 8 (.p0 (v := .hp 1 (0 + (wrapF .i64 (j_21 + (v5.length : Int))).toNat * 1)) (tr (ofP_guard hg232)) (.p0 (v := aU32 (gt u_222 (wrapF .i64 (j_21 + (v5.length : Int))))) (tr (ofP_some (flat_get (iC_len .u32) (inR_lt hg232) (by decide : 0 < 1) (by omega : 0 + (wrapF .i64 (j_21 + (v5.length : Int))).toNat * 1 = (wrapF .i64 (j_21 + (v5.length : Int))).toNat * 1 + 0) (by kernel_rfl)))) (.mu 3 (.p0 (v := .hp 1 (0 + (wrapF .i64 (j_21 + (v5.length : Int))).toNat * 1)) (tr (ofP_guard hg232)) (.e0 (v := .unk) (ws := [(1, .own ((u_222.set (wrapF .i64 (j_21 + (v5.length : Int))).toNat ((wrapF .u32 ((gt u_222 (wrapF .i64 (j_21 + (v5.length : Int)))) + c_223)).tmod 1000000000)).flatMap (iC .u32)))]) (tr (stO_t (and_t (flat_fits (n := 1) (iC_len .u32) (inR_lt hg232) (Nat.le_of_ble_eq_true rfl) (by omega : 0 + (wrapF .i64 (j_21 + (v5.length : Int))).toNat * 1 = (wrapF .i64 (j_21 + (v5.length : Int))).toNat * 1 + 0))) (congrArg Blk.own (flat_set (xs := [aU32 ((wrapF .u32 ((gt u_222 (wrapF .i64 (j_21 + (v5.length : Int)))) + c_223)).tmod 1000000000)]) (iC_len .u32) (inR_lt hg232) (Nat.le_of_ble_eq_true rfl) (by omega : 0 + (wrapF .i64 (j_21 + (v5.length : Int))).toNat * 1 = (wrapF .i64 (j_21 + (v5.length : Int))).toNat * 1 + 0) (by kernel_rfl))))) (.done (.nh [4, 6, 7, 8, 9, 10, 12] [.own (q_19.flatMap (iC .u32)), .own ((u_222.set (wrapF .i64 (j_21 + (v5.length : Int))).toNat ((wrapF .u32 ((gt u_222 (wrapF .i64 (j_21 + (v5.length : Int)))) + c_223)).tmod 1000000000)).flatMap (iC .u32)), .own (v5.flatMap (iC .u32))] ?_))))))))
        obtain ⟨hg233, hr⟩ := gd hr
        refine .r0 G (.mu 4 (.p0 (v := .hp 0 (0 + j_21.toNat * 1)) (tr (ofP_guard hg233)) (.e0 (v := .unk) (ws := [(0, .own ((q_19.set j_21.toNat (wrapF .u32 (wrapF .u64 (g_164 - 1)))).flatMap (iC .u32)))]) (tr (stO_t (and_t (flat_fits (n := 1) (iC_len .u32) (inR_lt hg233) (Nat.le_of_ble_eq_true rfl) (by omega : 0 + j_21.toNat * 1 = j_21.toNat * 1 + 0))) (congrArg Blk.own (flat_set (xs := [aU32 (wrapF .u32 (wrapF .u64 (g_164 - 1)))]) (iC_len .u32) (inR_lt hg233) (Nat.le_of_ble_eq_true rfl) (by omega : 0 + j_21.toNat * 1 = j_21.toNat * 1 + 0) (by kernel_rfl))))) (.done (.pop (.ru G ?_))))))
        exact loopF_back (q_19.set j_21.toNat (wrapF .u32 (wrapF .u64 (g_164 - 1))), u_222.set (wrapF .i64 (j_21 + (v5.length : Int))).toNat ((wrapF .u32 ((gt u_222 (wrapF .i64 (j_21 + (v5.length : Int)))) + c_223)).tmod 1000000000), wrapF .i64 (j_21 - 1)) hr ((Wk.relen 4 (b := 0) (es := 1) (len := q_19.length) (q_19.set j_21.toNat (wrapF .u32 (wrapF .u64 (g_164 - 1)))).length (by kernel_rfl) (Eq.symm (List.length_set.trans rfl))).trans ((Wk.relen 7 (b := 1) (es := 1) (len := u_222.length) (u_222.set (wrapF .i64 (j_21 + (v5.length : Int))).toNat ((wrapF .u32 ((gt u_222 (wrapF .i64 (j_21 + (v5.length : Int)))) + c_223)).tmod 1000000000)).length (by kernel_rfl) (Eq.symm (List.length_set.trans rfl))).trans ((Wk.gc [4, 6, 7, 8, 9, 10] [(0, false), (1, false), (2, false)] rfl (pKo (iC .u32) (iC_pure _) (q_19.set j_21.toNat (wrapF .u32 (wrapF .u64 (g_164 - 1)))) (pKo (iC .u32) (iC_pure _) (u_222.set (wrapF .i64 (j_21 + (v5.length : Int))).toNat ((wrapF .u32 ((gt u_222 (wrapF .i64 (j_21 + (v5.length : Int)))) + c_223)).tmod 1000000000)) (pKo (iC .u32) (iC_pure _) v5 trivial)))).to)))
      ·refine .r0 G (.mu 6 (.p0 (v := .hp 1 (0 + (wrapF .i64 (j_21 + (v5.length : Int))).toNat * 1)) (tr (ofP_guard hg213)) (.e0 (v := .unk) (ws := [(1, .own ((u_202.set (wrapF .i64 (j_21 + (v5.length : Int))).toNat (wrapF .u32 (wrapF .i64 ((wrapF .i64 ((wrapF .i64 (gt u_202 (wrapF .i64 (j_21 + (v5.length : Int))))) - b_203)) - (wrapF .i64 c_204))))).flatMap (iC .u32)))]) (tr (stO_t (and_t (flat_fits (n := 1) (iC_len .u32) (inR_lt hg213) (Nat.le_of_ble_eq_true rfl) (by omega : 0 + (wrapF .i64 (j_21 + (v5.length : Int))).toNat * 1 = (wrapF .i64 (j_21 + (v5.length : Int))).toNat * 1 + 0))) (congrArg Blk.own (flat_set (xs := [aU32 (wrapF .u32 (wrapF .i64 ((wrapF .i64 ((wrapF .i64 (gt u_202 (wrapF .i64 (j_21 + (v5.length : Int))))) - b_203)) - (wrapF .i64 c_204))))]) (iC_len .u32) (inR_lt hg213) (Nat.le_of_ble_eq_true rfl) (by omega : 0 + (wrapF .i64 (j_21 + (v5.length : Int))).toNat * 1 = (wrapF .i64 (j_21 + (v5.length : Int))).toNat * 1 + 0) (by kernel_rfl))))) (.done (.nh [4, 6, 7, 8, 9, 10, 12] [.own (q_19.flatMap (iC .u32)), .own ((u_202.set (wrapF .i64 (j_21 + (v5.length : Int))).toNat (wrapF .u32 (wrapF .i64 ((wrapF .i64 ((wrapF .i64 (gt u_202 (wrapF .i64 (j_21 + (v5.length : Int))))) - b_203)) - (wrapF .i64 c_204))))).flatMap (iC .u32)), .own (v5.flatMap (iC .u32))] ?_)))))
       obtain ⟨hg234, hr⟩ := gd hr
       refine .r0 G (.mu 4 (.p0 (v := .hp 0 (0 + j_21.toNat * 1)) (tr (ofP_guard hg234)) (.e0 (v := .unk) (ws := [(0, .own ((q_19.set j_21.toNat (wrapF .u32 g_164)).flatMap (iC .u32)))]) (tr (stO_t (and_t (flat_fits (n := 1) (iC_len .u32) (inR_lt hg234) (Nat.le_of_ble_eq_true rfl) (by omega : 0 + j_21.toNat * 1 = j_21.toNat * 1 + 0))) (congrArg Blk.own (flat_set (xs := [aU32 (wrapF .u32 g_164)]) (iC_len .u32) (inR_lt hg234) (Nat.le_of_ble_eq_true rfl) (by omega : 0 + j_21.toNat * 1 = j_21.toNat * 1 + 0) (by kernel_rfl))))) (.done (.pop (.ru G ?_))))))
       exact loopF_back (q_19.set j_21.toNat (wrapF .u32 g_164), u_202.set (wrapF .i64 (j_21 + (v5.length : Int))).toNat (wrapF .u32 (wrapF .i64 ((wrapF .i64 ((wrapF .i64 (gt u_202 (wrapF .i64 (j_21 + (v5.length : Int))))) - b_203)) - (wrapF .i64 c_204)))), wrapF .i64 (j_21 - 1)) hr ((Wk.relen 4 (b := 0) (es := 1) (len := q_19.length) (q_19.set j_21.toNat (wrapF .u32 g_164)).length (by kernel_rfl) (Eq.symm (List.length_set.trans rfl))).trans ((Wk.relen 7 (b := 1) (es := 1) (len := u_202.length) (u_202.set (wrapF .i64 (j_21 + (v5.length : Int))).toNat (wrapF .u32 (wrapF .i64 ((wrapF .i64 ((wrapF .i64 (gt u_202 (wrapF .i64 (j_21 + (v5.length : Int))))) - b_203)) - (wrapF .i64 c_204))))).length (by kernel_rfl) (Eq.symm (List.length_set.trans rfl))).trans ((Wk.gc [4, 6, 7, 8, 9, 10] [(0, false), (1, false), (2, false)] rfl (pKo (iC .u32) (iC_pure _) (q_19.set j_21.toNat (wrapF .u32 g_164)) (pKo (iC .u32) (iC_pure _) (u_202.set (wrapF .i64 (j_21 + (v5.length : Int))).toNat (wrapF .u32 (wrapF .i64 ((wrapF .i64 ((wrapF .i64 (gt u_202 (wrapF .i64 (j_21 + (v5.length : Int))))) - b_203)) - (wrapF .i64 c_204))))) (pKo (iC .u32) (iC_pure _) v5 trivial)))).to)))
   ·refine .leave rfl ?_
    obtain rfl := oi hr
    exact ⟨rfl, ((Wk.gc [4, 6, 7, 9] [(0, false), (1, false)] rfl (pKo (iC .u32) (iC_pure _) q_19 (pKo (iC .u32) (iC_pure _) u_20 trivial))).to)⟩
  ·rcases o235 with ⟨q_127, u_128⟩
   rintro x st' hq237
   clear hL236
   obtain ⟨rfl, hq237⟩ := hq237
   refine CQ_exit _ rfl (.wk hq237 (.seq ?_))
   obtain ⟨hg238, hr⟩ := gd hr
   obtain ⟨v239, hc240, v241, hc242, hr⟩ := bd2 hr
   refine .gn G (ca1 (callOk_ref (args := [.hs 1 0 (v5.length : Int).toNat 1]) (l := [1]) (SnL.cons (Sn.hsk (iC_len _) (iC_pure _) (inS_le hg238) rfl (.inl rfl)) SnL.nil) (integer_trim_ok n (u_128.take (v5.length : Int).toNat) v239 hc240)) (ca4 [.own (q_127.flatMap (iC .u32)), .fix (u_128.flatMap (iC .u32))] (ok0 (integer_short_ok n v239 (wrapF .u32 (wrapF .u64 ((1000000000 : Int).tdiv (wrapF .u64 ((wrapF .u64 (gt b (wrapF .i64 ((b.length : Int) - 1)))) + 1))))) v241 hc242)))) (.mu 2 (.p0 (v := .hs 1 0 (v5.length : Int).toNat 1) (Eq.trans (b := slH (inS 0 (v5.length : Int) u_128.length) true ((0 : Int).toNat) ((v5.length : Int).toNat) (fun z1 z2 => .hs 1 (0 + z1 * 1) (z2 - z1) 1)) (by kernel_rfl) (slH_t hg238 (by kernel_rfl))) (.ca cf0 (.mu 1 (.ca (cfF cf0) (.mu 4 (.done (.nh [4, 5] [.own (q_127.flatMap (iC .u32)), .fix (u_128.flatMap (iC .u32))] (.seq ?_)))))))))
   obtain ⟨v243, hc244, hr⟩ := bd hr
   refine .g1 G (callOk_ref (args := [.hs 0 0 q_127.length 1]) (l := [0]) (SnL.cons (Sn.hs rfl (.inl rfl) (SnC.pure (ids_flat (iC_pure _) _)) (fun h => flat_nil0 h)) SnL.nil) (integer_trim_ok n q_127 v243 hc244)) (.mu 1 (.ca cf0 (.mu 3 (.done (.ret ?_)))))
   obtain rfl := oi hr
   exact FinQ.ret (vs := [sU32 v243, sU32 v241.1]) (by kernel_rfl) (Sn.tup (Sp (Sp SnL.nil)))

theorem integer_over_ok (n : Nat) (a : List Int) (b : List Int) (r : List Int × List Int) (hr : integer_over n a b = some r) : FnOk Tryz.prog 154 [sU32 a, sU32 b] (.tup [sU32 r.1, sU32 r.2]) := by
 unfold integer_over at hr
 refine FnOk.bd G Tryz.func154 [.tmp 4, .tmp 5] ?_
 unfold Tryz.f154
 simp only [gS]
 refine .seq (.r4 G [0, 1] [] (.seq (.seq ?_)))
 obtain ⟨v1, hc2, hr⟩ := bd hr
 refine .g1 G (ok0 (integer_compare_ok n a b v1 hc2)) (.mu 2 (.ca cf0 (.mu 1 (.done (.nh [0, 1, 15] [] ?_)))))
 refine .cd hr ?_ ?_ <;> intro hb3 hr
 ·refine .seq (.r3 G 59 [(4, nS), (5, sU32 a)] (.ret ?_))
  obtain rfl := oi hr
  exact FinQ.ret (vs := [nS, sU32 a]) (by kernel_rfl) (Sn.tup (SnL.cons Sn.nilsl (Sp SnL.nil)))
 ·refine .skip (.seq ?_)
  obtain ⟨v4, hc5, hr⟩ := bd hr
  refine .g1 G (ok0 (integer_word_ok n a v4 hc5)) (.mu 1 (.ca cf0 (.mu 5 (.done (.nh [0, 1, 6, 7] [] (.seq ?_))))))
  obtain ⟨v6, hc7, hr⟩ := bd hr
  refine .g1 G (ok0 (integer_word_ok n b v6 hc7)) (.mu 1 (.ca cf0 (.mu 5 (.done (.nh [0, 1, 6, 7, 8, 9] [] (.seq (.seq ?_)))))))
  rcases bT v4.2 with hb8 | hb8
  ·replace hr := cd_t hb8 hr
   refine .r0 G (.p0 (v := aB true) (eB hb8) (.mu 3 (.done (.nh [0, 1, 6, 8, 30] [] ?_))))
   refine .cd hr ?_ ?_ <;> intro hb9 hr
   ·refine .seq ?_
    obtain ⟨hg10, hr⟩ := gd hr
    obtain ⟨v11, hc12, v13, hc14, hr⟩ := bd2 hr
    refine .tn G (ca1 (ok0 (integer_split_ok n (wrapF .u64 (v4.1.tdiv v6.1)) v11 hc12)) (ca3 (ok0 (integer_split_ok n (v4.1.tmod v6.1) v13 hc14)))) (.mu 2 (.pure (v := aU64 (wrapF .u64 (v4.1.tdiv v6.1))) (by kernel_rfl) (op_quo (x := v4.1) (y := v6.1) (by kernel_rfl) (by kernel_rfl) hg10) (by kernel_rfl) (.ca cf0 (.mu 2 (.pure (v := aU64 (v4.1.tmod v6.1)) (by kernel_rfl) (op_rem (x := v4.1) (y := v6.1) (by kernel_rfl) (by kernel_rfl) hg10) (by kernel_rfl) (.ca (cfA (fun h => by rw [sv hc14 hc12 (integer_split_cg n h)]) cf0) (.mu 2 ?_)))))))
    refine .done ⟨by kernel_rfl, ?_⟩
    refine .ret ?_
    obtain rfl := oi hr
    exact FinQ.ret (vs := [sU32 v11, sU32 v13]) (by kernel_rfl) (Sn.tup (Sp (Sp SnL.nil)))
   ·refine .skip (.seq (.seq (.r4 G [0, 1] [(41, aB (((b.length : Int) : Int) == 1))] ?_)))
    refine .cd hr ?_ ?_ <;> intro hb15 hr
    ·refine .seq ?_
     obtain ⟨hg16, hr⟩ := gd hr
     obtain ⟨v17, hc18, hr⟩ := bd hr
     refine .g1 G (ok0 (integer_short_ok n a (gt b 0) v17 hc18)) (.mu 2 (.p0 (v := .pp (b.flatMap (iC .u32)) ((0 : Int).toNat * 1)) (tr (ofP_guard hg16)) (.p0 (v := aU32 (gt b 0)) (tr (ofP_some (flat_get (iC_len .u32) (inR_lt hg16) (by decide : 0 < 1) (by omega : (0 : Int).toNat * 1 = (0 : Int).toNat * 1 + 0) (by kernel_rfl)))) (.ca cf0 (.mu 5 (.done (.nh [10, 11] [] (.seq ?_))))))))
     obtain ⟨v19, hc20, hr⟩ := bd hr
     refine .g1 G (ok0 (integer_split_ok n (wrapF .u64 v17.2) v19 hc20)) (.mu 3 (.ca cf0 (.mu 2 (.done (.ret ?_)))))
     obtain rfl := oi hr
     exact FinQ.ret (vs := [sU32 v17.1, sU32 v19]) (by kernel_rfl) (Sn.tup (Sp (Sp SnL.nil)))
    ·refine .skip (.seq ?_)
     obtain ⟨v21, hc22, hr⟩ := bd hr
     refine .g1 G (ok0 (integer_long_ok n a b v21 hc22)) (.mu 2 (.ca cf0 (.mu 4 (.done (.ret ?_)))))
     obtain rfl := oi hr
     exact FinQ.ret (vs := [sU32 v21.1, sU32 v21.2]) (by kernel_rfl) (Sn.tup (Sp (Sp SnL.nil)))
  ·replace hr := cd_f hb8 hr
   refine .r0 G (.p0 (v := aB false) (eB hb8) (.mu 3 (.done (.nh [0, 1, 6, 8, 30] [] (.cF (by kernel_rfl) (.skip (.seq (.seq (.r4 G [0, 1] [(41, aB (((b.length : Int) : Int) == 1))] ?_)))))))))
   refine .cd hr ?_ ?_ <;> intro hb23 hr
   ·refine .seq ?_
    obtain ⟨hg24, hr⟩ := gd hr
    obtain ⟨v25, hc26, hr⟩ := bd hr
    refine .g1 G (ok0 (integer_short_ok n a (gt b 0) v25 hc26)) (.mu 2 (.p0 (v := .pp (b.flatMap (iC .u32)) ((0 : Int).toNat * 1)) (tr (ofP_guard hg24)) (.p0 (v := aU32 (gt b 0)) (tr (ofP_some (flat_get (iC_len .u32) (inR_lt hg24) (by decide : 0 < 1) (by omega : (0 : Int).toNat * 1 = (0 : Int).toNat * 1 + 0) (by kernel_rfl)))) (.ca cf0 (.mu 5 (.done (.nh [10, 11] [] (.seq ?_))))))))
    obtain ⟨v27, hc28, hr⟩ := bd hr
    refine .g1 G (ok0 (integer_split_ok n (wrapF .u64 v25.2) v27 hc28)) (.mu 3 (.ca cf0 (.mu 2 (.done (.ret ?_)))))
    obtain rfl := oi hr
    exact FinQ.ret (vs := [sU32 v25.1, sU32 v27]) (by kernel_rfl) (Sn.tup (Sp (Sp SnL.nil)))
   ·refine .skip (.seq ?_)
    obtain ⟨v29, hc30, hr⟩ := bd hr
    refine .g1 G (ok0 (integer_long_ok n a b v29 hc30)) (.mu 2 (.ca cf0 (.mu 4 (.done (.ret ?_)))))
    obtain rfl := oi hr
    exact FinQ.ret (vs := [sU32 v29.1, sU32 v29.2]) (by kernel_rfl) (Sn.tup (Sp (Sp SnL.nil)))

theorem slices_Clone_uint32_uint32_ok (n : Nat) (s : List Int) (r : List Int) (hr : slices_Clone_uint32_uint32 n s = some r) : FnOk Tryz.prog 152 [sU32 s] (sU32 r) := by
 unfold slices_Clone_uint32_uint32 at hr
 refine FnOk.bd G Tryz.func152 [.tmp 2] ?_
 unfold Tryz.f152
 simp only [gS]
 refine .seq (.r4 G [0] [] (.seq (.seq ?_)))
 refine .nilcase (t := 0) (cs := s.flatMap (iC .u32)) (len := s.length) (by kernel_rfl) (fun hn3 => ?_) ?_
 ·obtain rfl : s = [] := List.length_eq_zero_iff.1 hn3
  have hx := gd hr; clear hr; obtain ⟨_, hr⟩ := hx
  have hx := gd hr; clear hr; obtain ⟨_, hr⟩ := hx
  refine .r4 G [0] [(4, aB true)] (.cT (by kernel_rfl) (.seq (.r3 G 8 [(2, nS)] (.ret ?_))))
  obtain rfl := oi hr
  exact FinQ.ret (vs := [nS]) (by kernel_rfl) Sn.nilsl
 ·refine .r4 G [0] [(4, aB false)] (.cF (by kernel_rfl) (.skip (.seq ?_)))
  obtain ⟨hg1, hg2, hr⟩ := gd2 hr
  refine .r0 G (.mu 2 (.e0 (v := .hs 1 0 s.length 1) (ws := [(0, .dead), (1, .own (s.flatMap (iC .u32)))]) (Eq.trans (b := appS (decide (((s.flatMap (iC .u32))).length = s.length * 1)) (s.flatMap (iC .u32)) s.length (fun z1 z2 => guardO (decide (0 + 0 * 1 ≤ (([] : List Int).flatMap (iC .u32)).length) && decide ((0 + z2) * 4 ≤ 140737488355328) && decide (0 + z2 ≤ 4611686018427387904)) (some (.eff (.hs 1 0 (0 + z2) 1) [(0, .dead), (1, .own (((([] : List Int).flatMap (iC .u32)).drop 0).take (0 * 1) ++ z1))])))) (by kernel_rfl) (appS_t (flat_lenB (iC_len _)) rfl (app_own (l := ([] : List Int)) (xs := s) (iC_len _) rfl rfl rfl hg1 hg2))) (.mu 1 (.done (.nh [2] [.dead, .own (s.flatMap (iC .u32))] (.ret ?_))))))
  obtain rfl := oi hr
  exact FinQ.ret (vs := [.hs 1 0 s.length 1]) (by kernel_rfl) (Sn.hs rfl (.inl rfl) (SnC.pure (ids_flat (iC_pure _) _)) (fun h => flat_nil0 h))

theorem integer_Gcd_ok (n : Nat) (x' : api_Int) (y : api_Int) (r : api_Int) (hr : integer_Gcd n x' y = some r) : FnOk Tryz.prog 130 [.agg (api_Int.c x'), .agg (api_Int.c y)] (.agg (api_Int.c r)) := by
 unfold integer_Gcd at hr
 refine FnOk.bd G Tryz.func130 [.cell 4 31] ?_
 unfold Tryz.f130
 simp only [gS]
 refine .seq (.r2 G 54 [(2, .hp 0 0), (3, .hp 1 0), (4, .hp 2 0)] [.own (api_Int.c x'), .own (api_Int.c y), .own [aB false, nS]] (.seq ?_))
 obtain ⟨v1, hc2, v3, hc4, hr⟩ := bd2 hr
 refine .tn G (ca1 (ok0 (integer_groups_ok n x' v1 hc2)) (ca3 (ok0 (integer_groups_ok n y v3 hc4)))) (.mu 1 (.ca cf0 (.mu 1 (.ca (cfA (fun h => by rw [sv hc4 hc2 (integer_groups_cg n h)]) cf0) (.mu 2 ?_)))))
 refine .done ⟨by kernel_rfl, ?_⟩
 refine .nh [4, 5, 6] [.own (api_Int.c x'), .own (api_Int.c y), .own [aB false, nS]] (.seq (.block ?_))
 replace hr := bd hr; obtain ⟨o61, hL62, hr⟩ := hr
 refine .loopO (σ := fun z0 => match z0 with | (a_5, b_6) => ⟨mkS 54 0 [(4, .hp 0 0), (5, sU32 a_5), (6, sU32 b_6)], [.own [aB false, nS]]⟩) (Q := fun x st' => match (generalizing := false) o61 with | .inl a_33 => x = .exit 0 ∧ Wk 0 st' ⟨mkS 54 0 [(4, .hp 0 0), (5, sU32 a_33)], [.own [aB false, nS]]⟩ | .inr (r0) => x = .ret ∧ FinQ Tryz.prog [.cell 4 31] (.agg (api_Int.c r0)) .ret st') hL62 ((Wk.gc [4, 5, 6] [(2, true)] rfl trivial).to) ?_ ?_
 ·clear hr
  rintro m ⟨a_5, b_6⟩ hr
  show CQ _ _ _ _ _ ⟨_, _⟩
  refine .seq (.seq (.r4 G [4, 5, 6] [(19, aB (decide ((b_6.length : Int) > 0)))] ?_))
  refine .cd hr ?_ ?_ <;> intro hb35 hr
  ·refine .skip (.block (.seq ?_))
   obtain ⟨v36, hc37, hr⟩ := bd hr
   refine .g1 G (ok0 (integer_word_ok n a_5 v36 hc37)) (.mu 1 (.ca cf0 (.mu 5 (.done (.nh [4, 5, 6, 7, 8] [.own [aB false, nS]] (.seq ?_))))))
   obtain ⟨v38, hc39, hr⟩ := bd hr
   refine .g1 G (ok0 (integer_word_ok n b_6 v38 hc39)) (.mu 1 (.ca cf0 (.mu 5 (.done (.nh [4, 5, 6, 7, 8, 9, 10] [.own [aB false, nS]] (.seq (.seq ?_)))))))
   rcases bT v36.2 with hb40 | hb40
   ·replace hr := cd_t hb40 hr
    refine .r0 G (.p0 (v := aB true) (eB hb40) (.mu 3 (.done (.nh [4, 5, 6, 7, 9, 33] [.own [aB false, nS]] ?_))))
    refine .cd hr ?_ ?_ <;> intro hb41 hr
    ·refine .seq (.block ?_)
     replace hr := bd hr; obtain ⟨m_46, hL51, hr⟩ := hr
     refine .loopO (σ := fun z0 => match z0 with | (m_42, n_43) => ⟨mkS 54 0 [(4, .hp 0 0), (7, aU64 m_42), (9, aU64 n_43)], [.own [aB false, nS]]⟩) (Q := fun x st' => x = .exit 2 ∧ Wk 0 st' ⟨mkS 54 0 [(4, .hp 0 0), (7, aU64 m_46)], [.own [aB false, nS]]⟩) hL51 ((Wk.gc [4, 7, 9] [(0, true)] rfl trivial).to) ?_ ?_
     ·clear hr
      rintro m ⟨m_42, n_43⟩ hr
      show CQ _ _ _ _ _ ⟨_, _⟩
      refine .seq (.seq (.r4 G [4, 7, 9] [(35, aB (decide (n_43 > 0)))] ?_))
      refine .cd hr ?_ ?_ <;> intro hb48 hr
      ·refine .skip (.block ?_)
       obtain ⟨hg49, hr⟩ := gd hr
       refine .regionT G callOf_nil (.mu 3 (.pure (v := aU64 (m_42.tmod n_43)) (by kernel_rfl) (op_rem (x := m_42) (y := n_43) (by kernel_rfl) (by kernel_rfl) hg49) (by kernel_rfl) (.mu 2 ?_)))
       refine .done ⟨by kernel_rfl, ?_⟩
       refine .pop ?_
       exact loopF_back (n_43, m_42.tmod n_43) hr ((Wk.gc [4, 7, 9] [(0, true)] rfl trivial).to)
      ·refine .leave rfl ?_
       obtain rfl := oi hr
       exact ⟨rfl, ((Wk.gc [4, 7] [(0, true)] rfl trivial).to)⟩
     ·rintro x st' hq52
      clear hL51
      obtain ⟨rfl, hq52⟩ := hq52
      refine CQ_exit _ rfl (.wk hq52 (.seq ?_))
      obtain ⟨v53, hc54, v55, hc56, hr⟩ := bd2 hr
      refine .gn G (ca1 (ok0 (integer_split_ok n m_46 v53 hc54)) (ca3 (ok0 (integer_made_ok n false v53 v55 hc56)))) (.mu 1 (.ca cf0 (.ca (cfF cf0) (.mu 1 (.done (.nh [4] [.own (api_Int.c v55)] (.ret ?_)))))))
      obtain rfl := oi hr
      exact ⟨rfl, FinQ.ret (vs := [.agg (api_Int.c v55)]) (by kernel_rfl) (Sn.pure rfl)⟩
    ·refine .skip (.seq ?_)
     obtain ⟨v57, hc58, hr⟩ := bd hr
     refine .g1 G (ok0 (integer_over_ok n a_5 b_6 v57 hc58)) (.mu 2 (.ca cf0 (.mu 5 (.done (.nh [4, 6, 12] [.own [aB false, nS]] (.ru G (.pop ?_)))))))
     exact loopF_back (b_6, v57.2) hr ((Wk.gc [4, 5, 6] [(0, true)] rfl trivial).to)
   ·replace hr := cd_f hb40 hr
    refine .r0 G (.p0 (v := aB false) (eB hb40) (.mu 3 (.done (.nh [4, 5, 6, 7, 9, 33] [.own [aB false, nS]] (.cF (by kernel_rfl) (.skip (.seq ?_)))))))
    obtain ⟨v59, hc60, hr⟩ := bd hr
    refine .g1 G (ok0 (integer_over_ok n a_5 b_6 v59 hc60)) (.mu 2 (.ca cf0 (.mu 5 (.done (.nh [4, 6, 12] [.own [aB false, nS]] (.ru G (.pop ?_)))))))
    exact loopF_back (b_6, v59.2) hr ((Wk.gc [4, 5, 6] [(0, true)] rfl trivial).to)
  ·refine .leave rfl ?_
   obtain rfl := oi hr
   exact ⟨rfl, ((Wk.gc [4, 5] [(0, true)] rfl trivial).to)⟩
 ·rcases o61 with a_33 | r0
  ·rintro x st' hq63
   clear hL62
   obtain ⟨rfl, hq63⟩ := hq63
   refine CQ_exit _ rfl (.wk hq63 (.seq ?_))
   obtain ⟨v64, hc65, v66, hc67, hr⟩ := bd2 hr
   refine .gn G (ca1 (ok0 (slices_Clone_uint32_uint32_ok n a_33 v64 hc65)) (ca3 (ok0 (integer_made_ok n false v64 v66 hc67)))) (.mu 1 (.ca cf0 (.ca (cfF cf0) (.mu 1 (.done (.nh [4] [.own (api_Int.c v66)] (.ret ?_)))))))
   obtain rfl := oi hr
   exact FinQ.r1 [.agg (api_Int.c v66)]
  ·rintro x st' hq63
   clear hL62
   obtain ⟨rfl, hq63⟩ := hq63
   obtain rfl := oi hr
   exact CQ_ret _ hq63

theorem integer_Of_inj {n' : Int} {n'_ : Int} (h : ([.at (.int .i64 n')] : List AV) = [.at (.int .i64 n'_)]) : n' = n'_ := by
 simp only [List.cons.injEq, AV.agg.injEq, AV.at.injEq, Value.int.injEq, Value.bool.injEq, AV.fn.injEq, AV.pp.injEq, true_and, and_true] at h
 simp_all
theorem integer_Of_cg (n : Nat) {n' : Int} {n'_ : Int} (h : ([.at (.int .i64 n')] : List AV) = [.at (.int .i64 n'_)]) : integer_Of n n' = integer_Of n n'_ := by
 obtain rfl := integer_Of_inj h
 rfl
theorem integer_Of_ok (n : Nat) (n' : Int) (r : api_Int) (hr : integer_Of n n' = some r) : FnOk Tryz.prog 64 [aI64 n'] (.agg (api_Int.c r)) := by
 unfold integer_Of at hr
 refine FnOk.bd G Tryz.func64 [.cell 2 31] ?_
 unfold Tryz.f64
 simp only [gS]
 refine .seq (.r5 G [0] [(2, .hp 0 0)] [.own [aB false, nS]] (.seq (.r4 G [0, 2] [(3, aU64 (wrapF .u64 n'))] (.seq (.seq (.r4 G [0, 2, 3] [(7, aB (decide (n' < 0)))] ?_))))))
 refine .cd hr ?_ ?_ <;> intro hb1 hr
 ·refine .r0 G (.mu 1 (.p0 (v := aU64 (wrapF .u64 (0 - (wrapF .u64 n')))) (Eq.trans (b := some (.pure (aU64 (IntKind.wrap .u64 (0 - (wrapF .u64 n')))))) (by kernel_rfl) wrap_at) (.mu 1 (.done (.nh [0, 2, 3] [.own [aB false, nS]] (.seq ?_))))))
  obtain ⟨v2, hc3, v4, hc5, hr⟩ := bd2 hr
  refine .gn G (ca1 (ok0 (integer_split_ok n (wrapF .u64 (0 - (wrapF .u64 n'))) v2 hc3)) (ca3 (ok0 (integer_made_ok n true v2 v4 hc5)))) (.mu 1 (.p0 (v := aB true) (eB hb1) (.mu 1 (.ca cf0 (.ca (cfF cf0) (.mu 1 (.done (.nh [2] [.own (api_Int.c v4)] (.ret ?_)))))))))
  obtain rfl := oi hr
  exact FinQ.r1 [.agg (api_Int.c v4)]
 ·refine .skip (.seq ?_)
  obtain ⟨v6, hc7, v8, hc9, hr⟩ := bd2 hr
  refine .gn G (ca1 (ok0 (integer_split_ok n (wrapF .u64 n') v6 hc7)) (ca3 (ok0 (integer_made_ok n false v6 v8 hc9)))) (.mu 1 (.p0 (v := aB false) (eB hb1) (.mu 1 (.ca cf0 (.ca (cfF cf0) (.mu 1 (.done (.nh [2] [.own (api_Int.c v8)] (.ret ?_)))))))))
  obtain rfl := oi hr
  exact FinQ.r1 [.agg (api_Int.c v8)]

theorem cmp_isNaN_int_ok (n : Nat) (x' : Int) (r : Bool) (hr : cmp_isNaN_int n x' = some r) : FnOk Tryz.prog 192 [aI64 x'] (aB r) := by
 unfold cmp_isNaN_int at hr
 refine FnOk.bd G Tryz.func192 [.tmp 2] ?_
 unfold Tryz.f192
 simp only [gS]
 refine .seq (.r4 G [0] [] (.seq (.ru G (.ret ?_))))
 obtain rfl := oi hr
 exact FinQ.r1 [aB ((x' : Int) != x')]

theorem cmp_Compare_int_ok (n : Nat) (x' : Int) (y : Int) (r : Int) (hr : cmp_Compare_int n x' y = some r) : FnOk Tryz.prog 158 [aI64 x', aI64 y] (aI64 r) := by
 unfold cmp_Compare_int at hr
 refine FnOk.bd G Tryz.func158 [.tmp 4] ?_
 unfold Tryz.f158
 simp only [gS]
 refine .seq (.r4 G [0, 1] [] (.seq ?_))
 obtain ⟨v1, hc2, hr⟩ := bd hr
 refine .g1 G (ok0 (cmp_isNaN_int_ok n x' v1 hc2)) (.mu 1 (.ca cf0 (.mu 1 (.done (.nh [0, 1, 5] [] (.seq ?_))))))
 obtain ⟨v3, hc4, hr⟩ := bd hr
 refine .g1 G (ok0 (cmp_isNaN_int_ok n y v3 hc4)) (.mu 1 (.ca cf0 (.mu 1 (.done (.nh [0, 1, 5, 6] [] (.seq (.seq (.r4 G [0, 1, 6] [(11, aB v1)] ?_))))))))
 refine .cd hr ?_ ?_ <;> intro hb5 hr
 ·refine .seq (.seq (.r3 G 20 [(12, aB v3)] ?_))
  refine .cd hr ?_ ?_ <;> intro hb6 hr
  ·refine .seq (.ru G (.ret ?_))
   obtain rfl := oi hr
   exact FinQ.r1 [aI64 0]
  ·refine .skip (.seq (.ru G (.ret ?_)))
   obtain rfl := oi hr
   exact FinQ.r1 [aI64 (-1)]
 ·refine .skip (.seq (.seq (.r4 G [0, 1] [(13, aB v3)] ?_)))
  refine .cd hr ?_ ?_ <;> intro hb7 hr
  ·refine .seq (.ru G (.ret ?_))
   obtain rfl := oi hr
   exact FinQ.r1 [aI64 1]
  ·refine .skip (.seq (.seq (.r4 G [0, 1] [(16, aB (decide (x' < y)))] ?_)))
   refine .cd hr ?_ ?_ <;> intro hb8 hr
   ·refine .seq (.ru G (.ret ?_))
    obtain rfl := oi hr
    exact FinQ.r1 [aI64 (-1)]
   ·refine .skip (.seq (.seq (.r3 G 20 [(19, aB (decide (x' > y)))] ?_)))
    refine .cd hr ?_ ?_ <;> intro hb9 hr
    ·refine .seq (.ru G (.ret ?_))
     obtain rfl := oi hr
     exact FinQ.r1 [aI64 1]
    ·refine .skip (.seq (.ru G (.ret ?_)))
     obtain rfl := oi hr
     exact FinQ.r1 [aI64 0]

theorem integer_Compare_ok (n : Nat) (x' : api_Int) (y : api_Int) (r : Int) (hr : integer_Compare n x' y = some r) : FnOk Tryz.prog 151 [.agg (api_Int.c x'), .agg (api_Int.c y)] (aI64 r) := by
 unfold integer_Compare at hr
 refine FnOk.bd G Tryz.func151 [.tmp 4] ?_
 unfold Tryz.f151
 simp only [gS]
 refine .seq (.r2 G 28 [(2, .hp 0 0), (3, .hp 1 0)] [.own (api_Int.c x'), .own (api_Int.c y)] (.seq (.seq ?_)))
 obtain ⟨v1, hc2, v3, hc4, hr⟩ := bd2 hr
 refine .tn G (ca1 (ok0 (integer_Sign_ok n x' v1 hc2)) (ca3 (ok0 (integer_Sign_ok n y v3 hc4)))) (.mu 1 (.ca cf0 (.mu 1 (.ca (cfA (fun h => by rw [sv hc4 hc2 (integer_Sign_cg n h)]) cf0) (.mu 2 ?_)))))
 refine .done ⟨by kernel_rfl, ?_⟩
 refine .nh [2, 3, 5, 6] [.own (api_Int.c x'), .own (api_Int.c y)] (.seq (.r4 G [2, 3, 5, 6] [(14, aB ((v1 : Int) != v3))] ?_))
 refine .cd hr ?_ ?_ <;> intro hb5 hr
 ·refine .seq ?_
  obtain ⟨v6, hc7, hr⟩ := bd hr
  refine .g1 G (ok0 (cmp_Compare_int_ok n v1 v3 v6 hc7)) (.mu 2 (.ca cf0 (.mu 1 (.done (.ret ?_)))))
  obtain rfl := oi hr
  exact FinQ.r1 [aI64 v6]
 ·refine .skip (.seq ?_)
  obtain ⟨v8, hc9, v10, hc11, v12, hc13, hr⟩ := bd3 hr
  refine .tn G (ca1 (ok0 (integer_groups_ok n x' v8 hc9)) (ca1 (ok0 (integer_groups_ok n y v10 hc11)) (ca3 (ok0 (integer_compare_ok n v8 v10 v12 hc13))))) (.mu 1 (.ca cf0 (.mu 1 (.ca (cfA (fun h => by rw [sv hc11 hc9 (integer_groups_cg n h)]) cf0) (.ca (cfF (cfF cf0)) (.mu 1 ?_))))))
  refine .done ⟨by kernel_rfl, ?_⟩
  refine .nh [2, 7] [.own (api_Int.c x'), .own (api_Int.c y)] (.seq (.seq (.r4 G [7] [(24, aB x'.Negative)] ?_)))
  refine .cd hr ?_ ?_ <;> intro hb14 hr
  ·refine .seq (.r0 G (.mu 1 (.p0 (v := aI64 (wrapF .i64 (0 - v12))) (Eq.trans (b := some (.pure (aI64 (IntKind.wrap .i64 (0 - v12))))) (by kernel_rfl) wrap_at) (.mu 1 (.done (.ret ?_))))))
   obtain rfl := oi hr
   exact FinQ.r1 [aI64 (wrapF .i64 (0 - v12))]
  ·refine .skip (.seq (.ru G (.ret ?_)))
   obtain rfl := oi hr
   exact FinQ.r1 [aI64 v12]

theorem fraction_Valid_ok (n : Nat) (x' : api_Rat) (r : Bool) (hr : fraction_Valid n x' = some r) : FnOk Tryz.prog 127 [.agg (api_Rat.c x')] (aB r) := by
 unfold fraction_Valid at hr
 refine FnOk.bd G Tryz.func127 [.tmp 2] ?_
 unfold Tryz.f127
 simp only [gS]
 refine .seq (.r2 G 27 [(1, .hp 0 0)] [.own (api_Rat.c x')] (.seq (.seq ?_)))
 obtain ⟨v1, hc2, hr⟩ := bd hr
 rcases bT (!v1) with hb3 | hb3
 ·replace hr := cd_t hb3 hr
  refine .g1 G (ok0 (integer_Valid_ok n x'.Num v1 hc2)) (.mu 2 (.ca cf0 (.p0 (v := aB true) (eB hb3) (.mu 12 (.done (.nh [1, 18] [.own (api_Rat.c x')] (.cT (by kernel_rfl) (.seq (.ru G (.ret ?_))))))))))
  obtain rfl := oi hr
  exact FinQ.r1 [aB false]
 ·replace hr := cd_f hb3 hr
  obtain ⟨v4, hc5, hr⟩ := bd hr
  rcases bT (!v4) with hb6 | hb6
  ·replace hr := cd_t hb6 hr
   refine .gn G (ca1 (ok0 (integer_Valid_ok n x'.Num v1 hc2)) (ca3 (ok0 (integer_Valid_ok n x'.Den v4 hc5)))) (.mu 2 (.ca cf0 (.p0 (v := aB false) (eB hb3) (.mu 3 (.ca (cfA (fun h => by rw [sv hc5 hc2 (integer_Valid_cg n h)]) cf0) (.pure (v := aB true) (by kernel_rfl) (eB hb6) (.mu 7 (.done (.nh [1, 18] [.own (api_Rat.c x')] (.cT (by kernel_rfl) (.seq (.ru G (.ret ?_)))))))))))))
   obtain rfl := oi hr
   exact FinQ.r1 [aB false]
  ·replace hr := cd_f hb6 hr
   obtain ⟨v7, hc8, hr⟩ := bd hr
   refine .gn G (ca1 (ok0 (integer_Valid_ok n x'.Num v1 hc2)) (ca1 (ok0 (integer_Valid_ok n x'.Den v4 hc5)) (ca3 (ok0 (integer_Sign_ok n x'.Den v7 hc8))))) (.mu 2 (.ca cf0 (.p0 (v := aB false) (eB hb3) (.mu 3 (.ca (cfA (fun h => by rw [sv hc5 hc2 (integer_Valid_cg n h)]) cf0) (.pure (v := aB false) (by kernel_rfl) (eB hb6) (.mu 4 (.ca (cfF (cfF cf0)) (.mu 2 (.done (.nh [1, 18] [.own (api_Rat.c x')] ?_)))))))))))
   refine .cd hr ?_ ?_ <;> intro hb9 hr
   ·refine .seq (.ru G (.ret ?_))
    obtain rfl := oi hr
    exact FinQ.r1 [aB false]
   ·refine .skip (.seq ?_)
    obtain ⟨v10, hc11, v12, hc13, v14, hc15, hr⟩ := bd3 hr
    refine .gn G (ca1 (ok0 (integer_Gcd_ok n x'.Num x'.Den v10 hc11)) (ca1 (ok0 (integer_Of_ok n 1 v12 hc13)) (ca3 (ok0 (integer_Compare_ok n v10 v12 v14 hc15))))) (.mu 4 (.ca cf0 (.ca (cfF cf0) (.ca (cfF (cfF cf0)) (.mu 2 (.done (.ret ?_)))))))
    obtain rfl := oi hr
    exact FinQ.r1 [aB ((v14 : Int) == 0)]

theorem integer_Neg_inj {x' : api_Int} {x'_ : api_Int} (h : ([.agg [.at (.bool x'.Negative), slT (iC .u32) x'.Groups]] : List AV) = [.agg [.at (.bool x'_.Negative), slT (iC .u32) x'_.Groups]]) : x' = x'_ := by
 obtain ⟨_, _⟩ := x'
 obtain ⟨_, _⟩ := x'_
 simp only [List.cons.injEq, AV.agg.injEq, AV.at.injEq, Value.int.injEq, Value.bool.injEq, AV.fn.injEq, AV.pp.injEq, true_and, and_true, slT_inj_int] at h
 simp_all
theorem integer_Neg_cg (n : Nat) {x' : api_Int} {x'_ : api_Int} (h : ([.agg [.at (.bool x'.Negative), slT (iC .u32) x'.Groups]] : List AV) = [.agg [.at (.bool x'_.Negative), slT (iC .u32) x'_.Groups]]) : integer_Neg n x' = integer_Neg n x'_ := by
 obtain rfl := integer_Neg_inj h
 rfl
theorem integer_Neg_ok (n : Nat) (x' : api_Int) (r : api_Int) (hr : integer_Neg n x' = some r) : FnOk Tryz.prog 129 [.agg (api_Int.c x')] (.agg (api_Int.c r)) := by
 unfold integer_Neg at hr
 refine FnOk.bd G Tryz.func129 [.cell 2 31] ?_
 unfold Tryz.f129
 simp only [gS]
 refine .seq (.r2 G 10 [(1, .hp 0 0), (2, .hp 1 0)] [.own (api_Int.c x'), .own [aB false, nS]] (.seq ?_))
 obtain ⟨v1, hc2, v3, hc4, v5, hc6, hr⟩ := bd3 hr
 refine .tn G (ca1 (ok0 (integer_groups_ok n x' v1 hc2)) (ca1 (ok0 (slices_Clone_uint32_uint32_ok n v1 v3 hc4)) (ca3 (ok0 (integer_made_ok n (!x'.Negative) v3 v5 hc6))))) (.mu 4 (.ca cf0 (.ca (cfF cf0) (.ca (cfF (cfF cf0)) (.mu 1 ?_)))))
 refine .done ⟨by kernel_rfl, ?_⟩
 refine .nh [2] [.own (api_Int.c x'), .own (api_Int.c v5)] (.ret ?_)
 obtain rfl := oi hr
 exact FinQ.r1 [.agg (api_Int.c v5)]

theorem fraction_copied_ok (n : Nat) (x' : api_Rat) (r : api_Rat) (hr : fraction_copied n x' = some r) : FnOk Tryz.prog 128 [.agg (api_Rat.c x')] (.agg (api_Rat.c r)) := by
 unfold fraction_copied at hr
 refine FnOk.bd G Tryz.func128 [.cell 2 33] ?_
 unfold Tryz.f128
 simp only [gS]
 refine .seq (.r2 G 12 [(1, .hp 0 0), (2, .hp 1 0)] [.own (api_Rat.c x'), .own [aB false, nS, aB false, nS]] (.seq ?_))
 obtain ⟨v1, hc2, v3, hc4, v5, hc6, hr⟩ := bd3 hr
 obtain ⟨v7, hc8, hr⟩ := bd hr
 refine .tn G (ca1 (ok0 (integer_Neg_ok n x'.Num v1 hc2)) (ca1 (ok0 (integer_Neg_ok n v1 v3 hc4)) (ca1 (ok0 (integer_Neg_ok n x'.Den v5 hc6)) (ca3 (ok0 (integer_Neg_ok n v5 v7 hc8)))))) (.mu 2 (.ca cf0 (.ca (cfA (fun h => by rw [sv hc4 hc2 (integer_Neg_cg n h)]) cf0) (.mu 2 (.ca (cfA (fun h => by rw [sv hc6 hc2 (integer_Neg_cg n h)]) (cfA (fun h => by rw [sv hc6 hc4 (integer_Neg_cg n h)]) cf0)) (.ca (cfA (fun h => by rw [sv hc8 hc2 (integer_Neg_cg n h)]) (cfA (fun h => by rw [sv hc8 hc4 (integer_Neg_cg n h)]) (cfA (fun h => by rw [sv hc8 hc6 (integer_Neg_cg n h)]) cf0))) (.mu 2 ?_)))))))
 refine .done ⟨by kernel_rfl, ?_⟩
 refine .nh [2] [.own (api_Rat.c x'), .own [aB v3.Negative, sU32 v3.Groups, aB v7.Negative, sU32 v7.Groups]] (.ret ?_)
 obtain rfl := oi hr
 exact FinQ.r1 [.agg [aB v3.Negative, sU32 v3.Groups, aB v7.Negative, sU32 v7.Groups]]

theorem fraction_Whole_inj {n' : Int} {n'_ : Int} (h : ([.at (.int .i64 n')] : List AV) = [.at (.int .i64 n'_)]) : n' = n'_ := by
 simp only [List.cons.injEq, AV.agg.injEq, AV.at.injEq, Value.int.injEq, Value.bool.injEq, AV.fn.injEq, AV.pp.injEq, true_and, and_true] at h
 simp_all
theorem fraction_Whole_cg (n : Nat) {n' : Int} {n'_ : Int} (h : ([.at (.int .i64 n')] : List AV) = [.at (.int .i64 n'_)]) : fraction_Whole n n' = fraction_Whole n n'_ := by
 obtain rfl := fraction_Whole_inj h
 rfl
theorem fraction_Whole_ok (n : Nat) (n' : Int) (r : api_Rat) (hr : fraction_Whole n n' = some r) : FnOk Tryz.prog 73 [aI64 n'] (.agg (api_Rat.c r)) := by
 unfold fraction_Whole at hr
 refine FnOk.bd G Tryz.func73 [.cell 2 33] ?_
 unfold Tryz.f73
 simp only [gS]
 refine .seq (.r5 G [0] [(2, .hp 0 0)] [.own [aB false, nS, aB false, nS]] (.seq ?_))
 obtain ⟨v1, hc2, v3, hc4, hr⟩ := bd2 hr
 refine .gn G (ca1 (ok0 (integer_Of_ok n n' v1 hc2)) (ca3 (ok0 (integer_Of_ok n 1 v3 hc4)))) (.mu 1 (.ca cf0 (.ca (cfA (fun h => by rw [sv hc4 hc2 (integer_Of_cg n h)]) cf0) (.mu 2 (.done (.nh [2] [.own [aB v1.Negative, sU32 v1.Groups, aB v3.Negative, sU32 v3.Groups]] (.ret ?_)))))))
 obtain rfl := oi hr
 exact FinQ.r1 [.agg [aB v1.Negative, sU32 v1.Groups, aB v3.Negative, sU32 v3.Groups]]

theorem fraction_Value_inj {x' : api_Rat} {x'_ : api_Rat} (h : ([.agg [.at (.bool x'.Num.Negative), slT (iC .u32) x'.Num.Groups, .at (.bool x'.Den.Negative), slT (iC .u32) x'.Den.Groups]] : List AV) = [.agg [.at (.bool x'_.Num.Negative), slT (iC .u32) x'_.Num.Groups, .at (.bool x'_.Den.Negative), slT (iC .u32) x'_.Den.Groups]]) : x' = x'_ := by
 obtain ⟨⟨_, _⟩, ⟨_, _⟩⟩ := x'
 obtain ⟨⟨_, _⟩, ⟨_, _⟩⟩ := x'_
 simp only [List.cons.injEq, AV.agg.injEq, AV.at.injEq, Value.int.injEq, Value.bool.injEq, AV.fn.injEq, AV.pp.injEq, true_and, and_true, slT_inj_int] at h
 simp_all
theorem fraction_Value_cg (n : Nat) {x' : api_Rat} {x'_ : api_Rat} (h : ([.agg [.at (.bool x'.Num.Negative), slT (iC .u32) x'.Num.Groups, .at (.bool x'.Den.Negative), slT (iC .u32) x'.Den.Groups]] : List AV) = [.agg [.at (.bool x'_.Num.Negative), slT (iC .u32) x'_.Num.Groups, .at (.bool x'_.Den.Negative), slT (iC .u32) x'_.Den.Groups]]) : fraction_Value n x' = fraction_Value n x'_ := by
 obtain rfl := fraction_Value_inj h
 rfl
theorem fraction_Value_ok (n : Nat) (x' : api_Rat) (r : api_Rat) (hr : fraction_Value n x' = some r) : FnOk Tryz.prog 81 [.agg (api_Rat.c x')] (.agg (api_Rat.c r)) := by
 unfold fraction_Value at hr
 refine FnOk.bd G Tryz.func81 [.cell 2 33] ?_
 unfold Tryz.f81
 simp only [gS]
 refine .seq (.r2 G 8 [(1, .hp 0 0), (2, .hp 1 0)] [.own (api_Rat.c x'), .own [aB false, nS, aB false, nS]] (.seq (.seq ?_)))
 obtain ⟨v1, hc2, hr⟩ := bd hr
 refine .g1 G (ok0 (fraction_Valid_ok n x' v1 hc2)) (.mu 1 (.ca cf0 (.done (.nh [1, 2, 4] [.own (api_Rat.c x'), .own [aB false, nS, aB false, nS]] ?_))))
 refine .cd hr ?_ ?_ <;> intro hb3 hr
 ·refine .seq ?_
  obtain ⟨v4, hc5, hr⟩ := bd hr
  refine .g1 G (ok0 (fraction_copied_ok n x' v4 hc5)) (.mu 1 (.ca cf0 (.mu 1 (.done (.nh [2] [.own (api_Rat.c x'), .own (api_Rat.c v4)] (.ret ?_))))))
  obtain rfl := oi hr
  exact FinQ.r1 [.agg (api_Rat.c v4)]
 ·refine .skip (.seq ?_)
  obtain ⟨v6, hc7, hr⟩ := bd hr
  refine .g1 G (ok0 (fraction_Whole_ok n 0 v6 hc7)) (.ca cf0 (.mu 1 (.done (.nh [2] [.own (api_Rat.c x'), .own (api_Rat.c v6)] (.ret ?_)))))
  obtain rfl := oi hr
  exact FinQ.r1 [.agg (api_Rat.c v6)]

theorem math_bits_Len64_ok (n : Nat) (x' : Int) (r : Int) (hr : math_bits_Len64 n x' = some r) : FnOk Tryz.prog 172 [aU64 x'] (aI64 r) := by
 unfold math_bits_Len64 at hr
 refine FnOk.bd G Tryz.func172 [.tmp 2] ?_
 unfold Tryz.f172
 simp only [gS]
 refine .seq (.r4 G [0] [(2, aI64 0)] (.seq (.seq (.r4 G [0, 2] [(4, aB (decide (x' ≥ 4294967296)))] ?_))))
 refine .cd hr ?_ ?_ <;> intro hb1 hr
 ·refine .seq (.r3 G 25 [(0, aU64 (x'.fdiv (2 ^ 32)))] (.r4 G [0] [(2, aI64 32)] (.seq (.seq (.r4 G [0, 2] [(8, aB (decide ((x'.fdiv (2 ^ 32)) ≥ 65536)))] ?_)))))
  refine .cd hr ?_ ?_ <;> intro hb2 hr
  ·refine .seq (.r4 G [2] [(0, aU64 ((x'.fdiv (2 ^ 32)).fdiv (2 ^ 16)))] (.r4 G [0] [(2, aI64 48)] (.seq (.seq (.r4 G [0, 2] [(14, aB (decide (((x'.fdiv (2 ^ 32)).fdiv (2 ^ 16)) ≥ 256)))] ?_)))))
   refine .cd hr ?_ ?_ <;> intro hb3 hr
   ·refine .seq (.r4 G [2] [(0, aU64 (((x'.fdiv (2 ^ 32)).fdiv (2 ^ 16)).fdiv (2 ^ 8)))] ?_)
    obtain ⟨w4, hw5, hr⟩ := bd hr
    refine .wk ((Wk.refl _).to (c := ⟨mkS 25 0 [(0, aU64 w4), (2, aI64 48)], []⟩) (by rw [oi hw5]; first | done | kernel_rfl)) <| .r4 G [0] [(2, aI64 56)] <| .seq ?_
    obtain ⟨hg6, hr⟩ := gd hr
    refine .r0 G (.mu 3 (.p0 (v := aU8 (strAt ⟨#[0, 1, 2, 2, 3, 3, 3, 3, 4, 4, 4, 4, 4, 4, 4, 4, 5, 5, 5, 5, 5, 5, 5, 5, 5, 5, 5, 5, 5, 5, 5, 5, 6, 6, 6, 6, 6, 6, 6, 6, 6, 6, 6, 6, 6, 6, 6, 6, 6, 6, 6, 6, 6, 6, 6, 6, 6, 6, 6, 6, 6, 6, 6, 6, 7, 7, 7, 7, 7, 7, 7, 7, 7, 7, 7, 7, 7, 7, 7, 7, 7, 7, 7, 7, 7, 7, 7, 7, 7, 7, 7, 7, 7, 7, 7, 7, 7, 7, 7, 7, 7, 7, 7, 7, 7, 7, 7, 7, 7, 7, 7, 7, 7, 7, 7, 7, 7, 7, 7, 7, 7, 7, 7, 7, 7, 7, 7, 7, 8, 8, 8, 8, 8, 8, 8, 8, 8, 8, 8, 8, 8, 8, 8, 8, 8, 8, 8, 8, 8, 8, 8, 8, 8, 8, 8, 8, 8, 8, 8, 8, 8, 8, 8, 8, 8, 8, 8, 8, 8, 8, 8, 8, 8, 8, 8, 8, 8, 8, 8, 8, 8, 8, 8, 8, 8, 8, 8, 8, 8, 8, 8, 8, 8, 8, 8, 8, 8, 8, 8, 8, 8, 8, 8, 8, 8, 8, 8, 8, 8, 8, 8, 8, 8, 8, 8, 8, 8, 8, 8, 8, 8, 8, 8, 8, 8, 8, 8, 8, 8, 8, 8, 8, 8, 8, 8, 8, 8, 8, 8, 8, 8, 8, 8, 8, 8, 8, 8, 8, 8, 8, 8, 8, 8, 8, 8, 8]⟩ (wrapF .u8 w4))) (idx_str (s := ⟨#[0, 1, 2, 2, 3, 3, 3, 3, 4, 4, 4, 4, 4, 4, 4, 4, 5, 5, 5, 5, 5, 5, 5, 5, 5, 5, 5, 5, 5, 5, 5, 5, 6, 6, 6, 6, 6, 6, 6, 6, 6, 6, 6, 6, 6, 6, 6, 6, 6, 6, 6, 6, 6, 6, 6, 6, 6, 6, 6, 6, 6, 6, 6, 6, 7, 7, 7, 7, 7, 7, 7, 7, 7, 7, 7, 7, 7, 7, 7, 7, 7, 7, 7, 7, 7, 7, 7, 7, 7, 7, 7, 7, 7, 7, 7, 7, 7, 7, 7, 7, 7, 7, 7, 7, 7, 7, 7, 7, 7, 7, 7, 7, 7, 7, 7, 7, 7, 7, 7, 7, 7, 7, 7, 7, 7, 7, 7, 7, 8, 8, 8, 8, 8, 8, 8, 8, 8, 8, 8, 8, 8, 8, 8, 8, 8, 8, 8, 8, 8, 8, 8, 8, 8, 8, 8, 8, 8, 8, 8, 8, 8, 8, 8, 8, 8, 8, 8, 8, 8, 8, 8, 8, 8, 8, 8, 8, 8, 8, 8, 8, 8, 8, 8, 8, 8, 8, 8, 8, 8, 8, 8, 8, 8, 8, 8, 8, 8, 8, 8, 8, 8, 8, 8, 8, 8, 8, 8, 8, 8, 8, 8, 8, 8, 8, 8, 8, 8, 8, 8, 8, 8, 8, 8, 8, 8, 8, 8, 8, 8, 8, 8, 8, 8, 8, 8, 8, 8, 8, 8, 8, 8, 8, 8, 8, 8, 8, 8, 8, 8, 8, 8, 8, 8, 8, 8, 8]⟩) (k := .u8) (i := (wrapF .u8 w4)) (by kernel_rfl) (by kernel_rfl) (by kernel_rfl) hg6) (.mu 3 (.done (.ret ?_)))))
    obtain rfl := oi hr
    exact FinQ.r1 [aI64 (wrapF .i64 (56 + (wrapF .i64 (strAt ⟨#[0, 1, 2, 2, 3, 3, 3, 3, 4, 4, 4, 4, 4, 4, 4, 4, 5, 5, 5, 5, 5, 5, 5, 5, 5, 5, 5, 5, 5, 5, 5, 5, 6, 6, 6, 6, 6, 6, 6, 6, 6, 6, 6, 6, 6, 6, 6, 6, 6, 6, 6, 6, 6, 6, 6, 6, 6, 6, 6, 6, 6, 6, 6, 6, 7, 7, 7, 7, 7, 7, 7, 7, 7, 7, 7, 7, 7, 7, 7, 7, 7, 7, 7, 7, 7, 7, 7, 7, 7, 7, 7, 7, 7, 7, 7, 7, 7, 7, 7, 7, 7, 7, 7, 7, 7, 7, 7, 7, 7, 7, 7, 7, 7, 7, 7, 7, 7, 7, 7, 7, 7, 7, 7, 7, 7, 7, 7, 7, 8, 8, 8, 8, 8, 8, 8, 8, 8, 8, 8, 8, 8, 8, 8, 8, 8, 8, 8, 8, 8, 8, 8, 8, 8, 8, 8, 8, 8, 8, 8, 8, 8, 8, 8, 8, 8, 8, 8, 8, 8, 8, 8, 8, 8, 8, 8, 8, 8, 8, 8, 8, 8, 8, 8, 8, 8, 8, 8, 8, 8, 8, 8, 8, 8, 8, 8, 8, 8, 8, 8, 8, 8, 8, 8, 8, 8, 8, 8, 8, 8, 8, 8, 8, 8, 8, 8, 8, 8, 8, 8, 8, 8, 8, 8, 8, 8, 8, 8, 8, 8, 8, 8, 8, 8, 8, 8, 8, 8, 8, 8, 8, 8, 8, 8, 8, 8, 8, 8, 8, 8, 8, 8, 8, 8, 8, 8, 8]⟩ (wrapF .u8 w4)))))]
   ·refine .skip (.seq ?_)
    obtain ⟨hg7, hr⟩ := gd hr
    refine .r0 G (.mu 3 (.p0 (v := aU8 (strAt ⟨#[0, 1, 2, 2, 3, 3, 3, 3, 4, 4, 4, 4, 4, 4, 4, 4, 5, 5, 5, 5, 5, 5, 5, 5, 5, 5, 5, 5, 5, 5, 5, 5, 6, 6, 6, 6, 6, 6, 6, 6, 6, 6, 6, 6, 6, 6, 6, 6, 6, 6, 6, 6, 6, 6, 6, 6, 6, 6, 6, 6, 6, 6, 6, 6, 7, 7, 7, 7, 7, 7, 7, 7, 7, 7, 7, 7, 7, 7, 7, 7, 7, 7, 7, 7, 7, 7, 7, 7, 7, 7, 7, 7, 7, 7, 7, 7, 7, 7, 7, 7, 7, 7, 7, 7, 7, 7, 7, 7, 7, 7, 7, 7, 7, 7, 7, 7, 7, 7, 7, 7, 7, 7, 7, 7, 7, 7, 7, 7, 8, 8, 8, 8, 8, 8, 8, 8, 8, 8, 8, 8, 8, 8, 8, 8, 8, 8, 8, 8, 8, 8, 8, 8, 8, 8, 8, 8, 8, 8, 8, 8, 8, 8, 8, 8, 8, 8, 8, 8, 8, 8, 8, 8, 8, 8, 8, 8, 8, 8, 8, 8, 8, 8, 8, 8, 8, 8, 8, 8, 8, 8, 8, 8, 8, 8, 8, 8, 8, 8, 8, 8, 8, 8, 8, 8, 8, 8, 8, 8, 8, 8, 8, 8, 8, 8, 8, 8, 8, 8, 8, 8, 8, 8, 8, 8, 8, 8, 8, 8, 8, 8, 8, 8, 8, 8, 8, 8, 8, 8, 8, 8, 8, 8, 8, 8, 8, 8, 8, 8, 8, 8, 8, 8, 8, 8, 8, 8]⟩ (wrapF .u8 ((x'.fdiv (2 ^ 32)).fdiv (2 ^ 16))))) (idx_str (s := ⟨#[0, 1, 2, 2, 3, 3, 3, 3, 4, 4, 4, 4, 4, 4, 4, 4, 5, 5, 5, 5, 5, 5, 5, 5, 5, 5, 5, 5, 5, 5, 5, 5, 6, 6, 6, 6, 6, 6, 6, 6, 6, 6, 6, 6, 6, 6, 6, 6, 6, 6, 6, 6, 6, 6, 6, 6, 6, 6, 6, 6, 6, 6, 6, 6, 7, 7, 7, 7, 7, 7, 7, 7, 7, 7, 7, 7, 7, 7, 7, 7, 7, 7, 7, 7, 7, 7, 7, 7, 7, 7, 7, 7, 7, 7, 7, 7, 7, 7, 7, 7, 7, 7, 7, 7, 7, 7, 7, 7, 7, 7, 7, 7, 7, 7, 7, 7, 7, 7, 7, 7, 7, 7, 7, 7, 7, 7, 7, 7, 8, 8, 8, 8, 8, 8, 8, 8, 8, 8, 8, 8, 8, 8, 8, 8, 8, 8, 8, 8, 8, 8, 8, 8, 8, 8, 8, 8, 8, 8, 8, 8, 8, 8, 8, 8, 8, 8, 8, 8, 8, 8, 8, 8, 8, 8, 8, 8, 8, 8, 8, 8, 8, 8, 8, 8, 8, 8, 8, 8, 8, 8, 8, 8, 8, 8, 8, 8, 8, 8, 8, 8, 8, 8, 8, 8, 8, 8, 8, 8, 8, 8, 8, 8, 8, 8, 8, 8, 8, 8, 8, 8, 8, 8, 8, 8, 8, 8, 8, 8, 8, 8, 8, 8, 8, 8, 8, 8, 8, 8, 8, 8, 8, 8, 8, 8, 8, 8, 8, 8, 8, 8, 8, 8, 8, 8, 8, 8]⟩) (k := .u8) (i := (wrapF .u8 ((x'.fdiv (2 ^ 32)).fdiv (2 ^ 16)))) (by kernel_rfl) (by kernel_rfl) (by kernel_rfl) hg7) (.mu 3 (.done (.ret ?_)))))
    obtain rfl := oi hr
    exact FinQ.r1 [aI64 (wrapF .i64 (48 + (wrapF .i64 (strAt ⟨#[0, 1, 2, 2, 3, 3, 3, 3, 4, 4, 4, 4, 4, 4, 4, 4, 5, 5, 5, 5, 5, 5, 5, 5, 5, 5, 5, 5, 5, 5, 5, 5, 6, 6, 6, 6, 6, 6, 6, 6, 6, 6, 6, 6, 6, 6, 6, 6, 6, 6, 6, 6, 6, 6, 6, 6, 6, 6, 6, 6, 6, 6, 6, 6, 7, 7, 7, 7, 7, 7, 7, 7, 7, 7, 7, 7, 7, 7, 7, 7, 7, 7, 7, 7, 7, 7, 7, 7, 7, 7, 7, 7, 7, 7, 7, 7, 7, 7, 7, 7, 7, 7, 7, 7, 7, 7, 7, 7, 7, 7, 7, 7, 7, 7, 7, 7, 7, 7, 7, 7, 7, 7, 7, 7, 7, 7, 7, 7, 8, 8, 8, 8, 8, 8, 8, 8, 8, 8, 8, 8, 8, 8, 8, 8, 8, 8, 8, 8, 8, 8, 8, 8, 8, 8, 8, 8, 8, 8, 8, 8, 8, 8, 8, 8, 8, 8, 8, 8, 8, 8, 8, 8, 8, 8, 8, 8, 8, 8, 8, 8, 8, 8, 8, 8, 8, 8, 8, 8, 8, 8, 8, 8, 8, 8, 8, 8, 8, 8, 8, 8, 8, 8, 8, 8, 8, 8, 8, 8, 8, 8, 8, 8, 8, 8, 8, 8, 8, 8, 8, 8, 8, 8, 8, 8, 8, 8, 8, 8, 8, 8, 8, 8, 8, 8, 8, 8, 8, 8, 8, 8, 8, 8, 8, 8, 8, 8, 8, 8, 8, 8, 8, 8, 8, 8, 8, 8]⟩ (wrapF .u8 ((x'.fdiv (2 ^ 32)).fdiv (2 ^ 16)))))))]
  ·refine .skip (.seq (.seq (.r4 G [0, 2] [(14, aB (decide ((x'.fdiv (2 ^ 32)) ≥ 256)))] ?_)))
   refine .cd hr ?_ ?_ <;> intro hb8 hr
   ·refine .seq (.r4 G [2] [(0, aU64 ((x'.fdiv (2 ^ 32)).fdiv (2 ^ 8)))] (.r4 G [0] [(2, aI64 40)] (.seq ?_)))
    obtain ⟨hg9, hr⟩ := gd hr
    refine .r0 G (.mu 3 (.p0 (v := aU8 (strAt ⟨#[0, 1, 2, 2, 3, 3, 3, 3, 4, 4, 4, 4, 4, 4, 4, 4, 5, 5, 5, 5, 5, 5, 5, 5, 5, 5, 5, 5, 5, 5, 5, 5, 6, 6, 6, 6, 6, 6, 6, 6, 6, 6, 6, 6, 6, 6, 6, 6, 6, 6, 6, 6, 6, 6, 6, 6, 6, 6, 6, 6, 6, 6, 6, 6, 7, 7, 7, 7, 7, 7, 7, 7, 7, 7, 7, 7, 7, 7, 7, 7, 7, 7, 7, 7, 7, 7, 7, 7, 7, 7, 7, 7, 7, 7, 7, 7, 7, 7, 7, 7, 7, 7, 7, 7, 7, 7, 7, 7, 7, 7, 7, 7, 7, 7, 7, 7, 7, 7, 7, 7, 7, 7, 7, 7, 7, 7, 7, 7, 8, 8, 8, 8, 8, 8, 8, 8, 8, 8, 8, 8, 8, 8, 8, 8, 8, 8, 8, 8, 8, 8, 8, 8, 8, 8, 8, 8, 8, 8, 8, 8, 8, 8, 8, 8, 8, 8, 8, 8, 8, 8, 8, 8, 8, 8, 8, 8, 8, 8, 8, 8, 8, 8, 8, 8, 8, 8, 8, 8, 8, 8, 8, 8, 8, 8, 8, 8, 8, 8, 8, 8, 8, 8, 8, 8, 8, 8, 8, 8, 8, 8, 8, 8, 8, 8, 8, 8, 8, 8, 8, 8, 8, 8, 8, 8, 8, 8, 8, 8, 8, 8, 8, 8, 8, 8, 8, 8, 8, 8, 8, 8, 8, 8, 8, 8, 8, 8, 8, 8, 8, 8, 8, 8, 8, 8, 8, 8]⟩ (wrapF .u8 ((x'.fdiv (2 ^ 32)).fdiv (2 ^ 8))))) (idx_str (s := ⟨#[0, 1, 2, 2, 3, 3, 3, 3, 4, 4, 4, 4, 4, 4, 4, 4, 5, 5, 5, 5, 5, 5, 5, 5, 5, 5, 5, 5, 5, 5, 5, 5, 6, 6, 6, 6, 6, 6, 6, 6, 6, 6, 6, 6, 6, 6, 6, 6, 6, 6, 6, 6, 6, 6, 6, 6, 6, 6, 6, 6, 6, 6, 6, 6, 7, 7, 7, 7, 7, 7, 7, 7, 7, 7, 7, 7, 7, 7, 7, 7, 7, 7, 7, 7, 7, 7, 7, 7, 7, 7, 7, 7, 7, 7, 7, 7, 7, 7, 7, 7, 7, 7, 7, 7, 7, 7, 7, 7, 7, 7, 7, 7, 7, 7, 7, 7, 7, 7, 7, 7, 7, 7, 7, 7, 7, 7, 7, 7, 8, 8, 8, 8, 8, 8, 8, 8, 8, 8, 8, 8, 8, 8, 8, 8, 8, 8, 8, 8, 8, 8, 8, 8, 8, 8, 8, 8, 8, 8, 8, 8, 8, 8, 8, 8, 8, 8, 8, 8, 8, 8, 8, 8, 8, 8, 8, 8, 8, 8, 8, 8, 8, 8, 8, 8, 8, 8, 8, 8, 8, 8, 8, 8, 8, 8, 8, 8, 8, 8, 8, 8, 8, 8, 8, 8, 8, 8, 8, 8, 8, 8, 8, 8, 8, 8, 8, 8, 8, 8, 8, 8, 8, 8, 8, 8, 8, 8, 8, 8, 8, 8, 8, 8, 8, 8, 8, 8, 8, 8, 8, 8, 8, 8, 8, 8, 8, 8, 8, 8, 8, 8, 8, 8, 8, 8, 8, 8]⟩) (k := .u8) (i := (wrapF .u8 ((x'.fdiv (2 ^ 32)).fdiv (2 ^ 8)))) (by kernel_rfl) (by kernel_rfl) (by kernel_rfl) hg9) (.mu 3 (.done (.ret ?_)))))
    obtain rfl := oi hr
    exact FinQ.r1 [aI64 (wrapF .i64 (40 + (wrapF .i64 (strAt ⟨#[0, 1, 2, 2, 3, 3, 3, 3, 4, 4, 4, 4, 4, 4, 4, 4, 5, 5, 5, 5, 5, 5, 5, 5, 5, 5, 5, 5, 5, 5, 5, 5, 6, 6, 6, 6, 6, 6, 6, 6, 6, 6, 6, 6, 6, 6, 6, 6, 6, 6, 6, 6, 6, 6, 6, 6, 6, 6, 6, 6, 6, 6, 6, 6, 7, 7, 7, 7, 7, 7, 7, 7, 7, 7, 7, 7, 7, 7, 7, 7, 7, 7, 7, 7, 7, 7, 7, 7, 7, 7, 7, 7, 7, 7, 7, 7, 7, 7, 7, 7, 7, 7, 7, 7, 7, 7, 7, 7, 7, 7, 7, 7, 7, 7, 7, 7, 7, 7, 7, 7, 7, 7, 7, 7, 7, 7, 7, 7, 8, 8, 8, 8, 8, 8, 8, 8, 8, 8, 8, 8, 8, 8, 8, 8, 8, 8, 8, 8, 8, 8, 8, 8, 8, 8, 8, 8, 8, 8, 8, 8, 8, 8, 8, 8, 8, 8, 8, 8, 8, 8, 8, 8, 8, 8, 8, 8, 8, 8, 8, 8, 8, 8, 8, 8, 8, 8, 8, 8, 8, 8, 8, 8, 8, 8, 8, 8, 8, 8, 8, 8, 8, 8, 8, 8, 8, 8, 8, 8, 8, 8, 8, 8, 8, 8, 8, 8, 8, 8, 8, 8, 8, 8, 8, 8, 8, 8, 8, 8, 8, 8, 8, 8, 8, 8, 8, 8, 8, 8, 8, 8, 8, 8, 8, 8, 8, 8, 8, 8, 8, 8, 8, 8, 8, 8, 8, 8]⟩ (wrapF .u8 ((x'.fdiv (2 ^ 32)).fdiv (2 ^ 8)))))))]
   ·refine .skip (.seq ?_)
    obtain ⟨hg10, hr⟩ := gd hr
    refine .r0 G (.mu 3 (.p0 (v := aU8 (strAt ⟨#[0, 1, 2, 2, 3, 3, 3, 3, 4, 4, 4, 4, 4, 4, 4, 4, 5, 5, 5, 5, 5, 5, 5, 5, 5, 5, 5, 5, 5, 5, 5, 5, 6, 6, 6, 6, 6, 6, 6, 6, 6, 6, 6, 6, 6, 6, 6, 6, 6, 6, 6, 6, 6, 6, 6, 6, 6, 6, 6, 6, 6, 6, 6, 6, 7, 7, 7, 7, 7, 7, 7, 7, 7, 7, 7, 7, 7, 7, 7, 7, 7, 7, 7, 7, 7, 7, 7, 7, 7, 7, 7, 7, 7, 7, 7, 7, 7, 7, 7, 7, 7, 7, 7, 7, 7, 7, 7, 7, 7, 7, 7, 7, 7, 7, 7, 7, 7, 7, 7, 7, 7, 7, 7, 7, 7, 7, 7, 7, 8, 8, 8, 8, 8, 8, 8, 8, 8, 8, 8, 8, 8, 8, 8, 8, 8, 8, 8, 8, 8, 8, 8, 8, 8, 8, 8, 8, 8, 8, 8, 8, 8, 8, 8, 8, 8, 8, 8, 8, 8, 8, 8, 8, 8, 8, 8, 8, 8, 8, 8, 8, 8, 8, 8, 8, 8, 8, 8, 8, 8, 8, 8, 8, 8, 8, 8, 8, 8, 8, 8, 8, 8, 8, 8, 8, 8, 8, 8, 8, 8, 8, 8, 8, 8, 8, 8, 8, 8, 8, 8, 8, 8, 8, 8, 8, 8, 8, 8, 8, 8, 8, 8, 8, 8, 8, 8, 8, 8, 8, 8, 8, 8, 8, 8, 8, 8, 8, 8, 8, 8, 8, 8, 8, 8, 8, 8, 8]⟩ (wrapF .u8 (x'.fdiv (2 ^ 32))))) (idx_str (s := ⟨#[0, 1, 2, 2, 3, 3, 3, 3, 4, 4, 4, 4, 4, 4, 4, 4, 5, 5, 5, 5, 5, 5, 5, 5, 5, 5, 5, 5, 5, 5, 5, 5, 6, 6, 6, 6, 6, 6, 6, 6, 6, 6, 6, 6, 6, 6, 6, 6, 6, 6, 6, 6, 6, 6, 6, 6, 6, 6, 6, 6, 6, 6, 6, 6, 7, 7, 7, 7, 7, 7, 7, 7, 7, 7, 7, 7, 7, 7, 7, 7, 7, 7, 7, 7, 7, 7, 7, 7, 7, 7, 7, 7, 7, 7, 7, 7, 7, 7, 7, 7, 7, 7, 7, 7, 7, 7, 7, 7, 7, 7, 7, 7, 7, 7, 7, 7, 7, 7, 7, 7, 7, 7, 7, 7, 7, 7, 7, 7, 8, 8, 8, 8, 8, 8, 8, 8, 8, 8, 8, 8, 8, 8, 8, 8, 8, 8, 8, 8, 8, 8, 8, 8, 8, 8, 8, 8, 8, 8, 8, 8, 8, 8, 8, 8, 8, 8, 8, 8, 8, 8, 8, 8, 8, 8, 8, 8, 8, 8, 8, 8, 8, 8, 8, 8, 8, 8, 8, 8, 8, 8, 8, 8, 8, 8, 8, 8, 8, 8, 8, 8, 8, 8, 8, 8, 8, 8, 8, 8, 8, 8, 8, 8, 8, 8, 8, 8, 8, 8, 8, 8, 8, 8, 8, 8, 8, 8, 8, 8, 8, 8, 8, 8, 8, 8, 8, 8, 8, 8, 8, 8, 8, 8, 8, 8, 8, 8, 8, 8, 8, 8, 8, 8, 8, 8, 8, 8]⟩) (k := .u8) (i := (wrapF .u8 (x'.fdiv (2 ^ 32)))) (by kernel_rfl) (by kernel_rfl) (by kernel_rfl) hg10) (.mu 3 (.done (.ret ?_)))))
    obtain rfl := oi hr
    exact FinQ.r1 [aI64 (wrapF .i64 (32 + (wrapF .i64 (strAt ⟨#[0, 1, 2, 2, 3, 3, 3, 3, 4, 4, 4, 4, 4, 4, 4, 4, 5, 5, 5, 5, 5, 5, 5, 5, 5, 5, 5, 5, 5, 5, 5, 5, 6, 6, 6, 6, 6, 6, 6, 6, 6, 6, 6, 6, 6, 6, 6, 6, 6, 6, 6, 6, 6, 6, 6, 6, 6, 6, 6, 6, 6, 6, 6, 6, 7, 7, 7, 7, 7, 7, 7, 7, 7, 7, 7, 7, 7, 7, 7, 7, 7, 7, 7, 7, 7, 7, 7, 7, 7, 7, 7, 7, 7, 7, 7, 7, 7, 7, 7, 7, 7, 7, 7, 7, 7, 7, 7, 7, 7, 7, 7, 7, 7, 7, 7, 7, 7, 7, 7, 7, 7, 7, 7, 7, 7, 7, 7, 7, 8, 8, 8, 8, 8, 8, 8, 8, 8, 8, 8, 8, 8, 8, 8, 8, 8, 8, 8, 8, 8, 8, 8, 8, 8, 8, 8, 8, 8, 8, 8, 8, 8, 8, 8, 8, 8, 8, 8, 8, 8, 8, 8, 8, 8, 8, 8, 8, 8, 8, 8, 8, 8, 8, 8, 8, 8, 8, 8, 8, 8, 8, 8, 8, 8, 8, 8, 8, 8, 8, 8, 8, 8, 8, 8, 8, 8, 8, 8, 8, 8, 8, 8, 8, 8, 8, 8, 8, 8, 8, 8, 8, 8, 8, 8, 8, 8, 8, 8, 8, 8, 8, 8, 8, 8, 8, 8, 8, 8, 8, 8, 8, 8, 8, 8, 8, 8, 8, 8, 8, 8, 8, 8, 8, 8, 8, 8, 8]⟩ (wrapF .u8 (x'.fdiv (2 ^ 32)))))))]
 ·refine .skip (.seq (.seq (.r4 G [0, 2] [(8, aB (decide (x' ≥ 65536)))] ?_)))
  refine .cd hr ?_ ?_ <;> intro hb11 hr
  ·refine .seq (.r4 G [2] [(0, aU64 (x'.fdiv (2 ^ 16)))] (.r4 G [0] [(2, aI64 16)] (.seq (.seq (.r4 G [0, 2] [(14, aB (decide ((x'.fdiv (2 ^ 16)) ≥ 256)))] ?_)))))
   refine .cd hr ?_ ?_ <;> intro hb12 hr
   ·refine .seq (.r4 G [2] [(0, aU64 ((x'.fdiv (2 ^ 16)).fdiv (2 ^ 8)))] (.r4 G [0] [(2, aI64 24)] (.seq ?_)))
    obtain ⟨hg13, hr⟩ := gd hr
    refine .r0 G (.mu 3 (.p0 (v := aU8 (strAt ⟨#[0, 1, 2, 2, 3, 3, 3, 3, 4, 4, 4, 4, 4, 4, 4, 4, 5, 5, 5, 5, 5, 5, 5, 5, 5, 5, 5, 5, 5, 5, 5, 5, 6, 6, 6, 6, 6, 6, 6, 6, 6, 6, 6, 6, 6, 6, 6, 6, 6, 6, 6, 6, 6, 6, 6, 6, 6, 6, 6, 6, 6, 6, 6, 6, 7, 7, 7, 7, 7, 7, 7, 7, 7, 7, 7, 7, 7, 7, 7, 7, 7, 7, 7, 7, 7, 7, 7, 7, 7, 7, 7, 7, 7, 7, 7, 7, 7, 7, 7, 7, 7, 7, 7, 7, 7, 7, 7, 7, 7, 7, 7, 7, 7, 7, 7, 7, 7, 7, 7, 7, 7, 7, 7, 7, 7, 7, 7, 7, 8, 8, 8, 8, 8, 8, 8, 8, 8, 8, 8, 8, 8, 8, 8, 8, 8, 8, 8, 8, 8, 8, 8, 8, 8, 8, 8, 8, 8, 8, 8, 8, 8, 8, 8, 8, 8, 8, 8, 8, 8, 8, 8, 8, 8, 8, 8, 8, 8, 8, 8, 8, 8, 8, 8, 8, 8, 8, 8, 8, 8, 8, 8, 8, 8, 8, 8, 8, 8, 8, 8, 8, 8, 8, 8, 8, 8, 8, 8, 8, 8, 8, 8, 8, 8, 8, 8, 8, 8, 8, 8, 8, 8, 8, 8, 8, 8, 8, 8, 8, 8, 8, 8, 8, 8, 8, 8, 8, 8, 8, 8, 8, 8, 8, 8, 8, 8, 8, 8, 8, 8, 8, 8, 8, 8, 8, 8, 8]⟩ (wrapF .u8 ((x'.fdiv (2 ^ 16)).fdiv (2 ^ 8))))) (idx_str (s := ⟨#[0, 1, 2, 2, 3, 3, 3, 3, 4, 4, 4, 4, 4, 4, 4, 4, 5, 5, 5, 5, 5, 5, 5, 5, 5, 5, 5, 5, 5, 5, 5, 5, 6, 6, 6, 6, 6, 6, 6, 6, 6, 6, 6, 6, 6, 6, 6, 6, 6, 6, 6, 6, 6, 6, 6, 6, 6, 6, 6, 6, 6, 6, 6, 6, 7, 7, 7, 7, 7, 7, 7, 7, 7, 7, 7, 7, 7, 7, 7, 7, 7, 7, 7, 7, 7, 7, 7, 7, 7, 7, 7, 7, 7, 7, 7, 7, 7, 7, 7, 7, 7, 7, 7, 7, 7, 7, 7, 7, 7, 7, 7, 7, 7, 7, 7, 7, 7, 7, 7, 7, 7, 7, 7, 7, 7, 7, 7, 7, 8, 8, 8, 8, 8, 8, 8, 8, 8, 8, 8, 8, 8, 8, 8, 8, 8, 8, 8, 8, 8, 8, 8, 8, 8, 8, 8, 8, 8, 8, 8, 8, 8, 8, 8, 8, 8, 8, 8, 8, 8, 8, 8, 8, 8, 8, 8, 8, 8, 8, 8, 8, 8, 8, 8, 8, 8, 8, 8, 8, 8, 8, 8, 8, 8, 8, 8, 8, 8, 8, 8, 8, 8, 8, 8, 8, 8, 8, 8, 8, 8, 8, 8, 8, 8, 8, 8, 8, 8, 8, 8, 8, 8, 8, 8, 8, 8, 8, 8, 8, 8, 8, 8, 8, 8, 8, 8, 8, 8, 8, 8, 8, 8, 8, 8, 8, 8, 8, 8, 8, 8, 8, 8, 8, 8, 8, 8, 8]⟩) (k := .u8) (i := (wrapF .u8 ((x'.fdiv (2 ^ 16)).fdiv (2 ^ 8)))) (by kernel_rfl) (by kernel_rfl) (by kernel_rfl) hg13) (.mu 3 (.done (.ret ?_)))))
    obtain rfl := oi hr
    exact FinQ.r1 [aI64 (wrapF .i64 (24 + (wrapF .i64 (strAt ⟨#[0, 1, 2, 2, 3, 3, 3, 3, 4, 4, 4, 4, 4, 4, 4, 4, 5, 5, 5, 5, 5, 5, 5, 5, 5, 5, 5, 5, 5, 5, 5, 5, 6, 6, 6, 6, 6, 6, 6, 6, 6, 6, 6, 6, 6, 6, 6, 6, 6, 6, 6, 6, 6, 6, 6, 6, 6, 6, 6, 6, 6, 6, 6, 6, 7, 7, 7, 7, 7, 7, 7, 7, 7, 7, 7, 7, 7, 7, 7, 7, 7, 7, 7, 7, 7, 7, 7, 7, 7, 7, 7, 7, 7, 7, 7, 7, 7, 7, 7, 7, 7, 7, 7, 7, 7, 7, 7, 7, 7, 7, 7, 7, 7, 7, 7, 7, 7, 7, 7, 7, 7, 7, 7, 7, 7, 7, 7, 7, 8, 8, 8, 8, 8, 8, 8, 8, 8, 8, 8, 8, 8, 8, 8, 8, 8, 8, 8, 8, 8, 8, 8, 8, 8, 8, 8, 8, 8, 8, 8, 8, 8, 8, 8, 8, 8, 8, 8, 8, 8, 8, 8, 8, 8, 8, 8, 8, 8, 8, 8, 8, 8, 8, 8, 8, 8, 8, 8, 8, 8, 8, 8, 8, 8, 8, 8, 8, 8, 8, 8, 8, 8, 8, 8, 8, 8, 8, 8, 8, 8, 8, 8, 8, 8, 8, 8, 8, 8, 8, 8, 8, 8, 8, 8, 8, 8, 8, 8, 8, 8, 8, 8, 8, 8, 8, 8, 8, 8, 8, 8, 8, 8, 8, 8, 8, 8, 8, 8, 8, 8, 8, 8, 8, 8, 8, 8, 8]⟩ (wrapF .u8 ((x'.fdiv (2 ^ 16)).fdiv (2 ^ 8)))))))]
   ·refine .skip (.seq ?_)
    obtain ⟨hg14, hr⟩ := gd hr
    refine .r0 G (.mu 3 (.p0 (v := aU8 (strAt ⟨#[0, 1, 2, 2, 3, 3, 3, 3, 4, 4, 4, 4, 4, 4, 4, 4, 5, 5, 5, 5, 5, 5, 5, 5, 5, 5, 5, 5, 5, 5, 5, 5, 6, 6, 6, 6, 6, 6, 6, 6, 6, 6, 6, 6, 6, 6, 6, 6, 6, 6, 6, 6, 6, 6, 6, 6, 6, 6, 6, 6, 6, 6, 6, 6, 7, 7, 7, 7, 7, 7, 7, 7, 7, 7, 7, 7, 7, 7, 7, 7, 7, 7, 7, 7, 7, 7, 7, 7, 7, 7, 7, 7, 7, 7, 7, 7, 7, 7, 7, 7, 7, 7, 7, 7, 7, 7, 7, 7, 7, 7, 7, 7, 7, 7, 7, 7, 7, 7, 7, 7, 7, 7, 7, 7, 7, 7, 7, 7, 8, 8, 8, 8, 8, 8, 8, 8, 8, 8, 8, 8, 8, 8, 8, 8, 8, 8, 8, 8, 8, 8, 8, 8, 8, 8, 8, 8, 8, 8, 8, 8, 8, 8, 8, 8, 8, 8, 8, 8, 8, 8, 8, 8, 8, 8, 8, 8, 8, 8, 8, 8, 8, 8, 8, 8, 8, 8, 8, 8, 8, 8, 8, 8, 8, 8, 8, 8, 8, 8, 8, 8, 8, 8, 8, 8, 8, 8, 8, 8, 8, 8, 8, 8, 8, 8, 8, 8, 8, 8, 8, 8, 8, 8, 8, 8, 8, 8, 8, 8, 8, 8, 8, 8, 8, 8, 8, 8, 8, 8, 8, 8, 8, 8, 8, 8, 8, 8, 8, 8, 8, 8, 8, 8, 8, 8, 8, 8]⟩ (wrapF .u8 (x'.fdiv (2 ^ 16))))) (idx_str (s := ⟨#[0, 1, 2, 2, 3, 3, 3, 3, 4, 4, 4, 4, 4, 4, 4, 4, 5, 5, 5, 5, 5, 5, 5, 5, 5, 5, 5, 5, 5, 5, 5, 5, 6, 6, 6, 6, 6, 6, 6, 6, 6, 6, 6, 6, 6, 6, 6, 6, 6, 6, 6, 6, 6, 6, 6, 6, 6, 6, 6, 6, 6, 6, 6, 6, 7, 7, 7, 7, 7, 7, 7, 7, 7, 7, 7, 7, 7, 7, 7, 7, 7, 7, 7, 7, 7, 7, 7, 7, 7, 7, 7, 7, 7, 7, 7, 7, 7, 7, 7, 7, 7, 7, 7, 7, 7, 7, 7, 7, 7, 7, 7, 7, 7, 7, 7, 7, 7, 7, 7, 7, 7, 7, 7, 7, 7, 7, 7, 7, 8, 8, 8, 8, 8, 8, 8, 8, 8, 8, 8, 8, 8, 8, 8, 8, 8, 8, 8, 8, 8, 8, 8, 8, 8, 8, 8, 8, 8, 8, 8, 8, 8, 8, 8, 8, 8, 8, 8, 8, 8, 8, 8, 8, 8, 8, 8, 8, 8, 8, 8, 8, 8, 8, 8, 8, 8, 8, 8, 8, 8, 8, 8, 8, 8, 8, 8, 8, 8, 8, 8, 8, 8, 8, 8, 8, 8, 8, 8, 8, 8, 8, 8, 8, 8, 8, 8, 8, 8, 8, 8, 8, 8, 8, 8, 8, 8, 8, 8, 8, 8, 8, 8, 8, 8, 8, 8, 8, 8, 8, 8, 8, 8, 8, 8, 8, 8, 8, 8, 8, 8, 8, 8, 8, 8, 8, 8, 8]⟩) (k := .u8) (i := (wrapF .u8 (x'.fdiv (2 ^ 16)))) (by kernel_rfl) (by kernel_rfl) (by kernel_rfl) hg14) (.mu 3 (.done (.ret ?_)))))
    obtain rfl := oi hr
    exact FinQ.r1 [aI64 (wrapF .i64 (16 + (wrapF .i64 (strAt ⟨#[0, 1, 2, 2, 3, 3, 3, 3, 4, 4, 4, 4, 4, 4, 4, 4, 5, 5, 5, 5, 5, 5, 5, 5, 5, 5, 5, 5, 5, 5, 5, 5, 6, 6, 6, 6, 6, 6, 6, 6, 6, 6, 6, 6, 6, 6, 6, 6, 6, 6, 6, 6, 6, 6, 6, 6, 6, 6, 6, 6, 6, 6, 6, 6, 7, 7, 7, 7, 7, 7, 7, 7, 7, 7, 7, 7, 7, 7, 7, 7, 7, 7, 7, 7, 7, 7, 7, 7, 7, 7, 7, 7, 7, 7, 7, 7, 7, 7, 7, 7, 7, 7, 7, 7, 7, 7, 7, 7, 7, 7, 7, 7, 7, 7, 7, 7, 7, 7, 7, 7, 7, 7, 7, 7, 7, 7, 7, 7, 8, 8, 8, 8, 8, 8, 8, 8, 8, 8, 8, 8, 8, 8, 8, 8, 8, 8, 8, 8, 8, 8, 8, 8, 8, 8, 8, 8, 8, 8, 8, 8, 8, 8, 8, 8, 8, 8, 8, 8, 8, 8, 8, 8, 8, 8, 8, 8, 8, 8, 8, 8, 8, 8, 8, 8, 8, 8, 8, 8, 8, 8, 8, 8, 8, 8, 8, 8, 8, 8, 8, 8, 8, 8, 8, 8, 8, 8, 8, 8, 8, 8, 8, 8, 8, 8, 8, 8, 8, 8, 8, 8, 8, 8, 8, 8, 8, 8, 8, 8, 8, 8, 8, 8, 8, 8, 8, 8, 8, 8, 8, 8, 8, 8, 8, 8, 8, 8, 8, 8, 8, 8, 8, 8, 8, 8, 8, 8]⟩ (wrapF .u8 (x'.fdiv (2 ^ 16)))))))]
  ·refine .skip (.seq (.seq (.r4 G [0, 2] [(14, aB (decide (x' ≥ 256)))] ?_)))
   refine .cd hr ?_ ?_ <;> intro hb15 hr
   ·refine .seq (.r4 G [2] [(0, aU64 (x'.fdiv (2 ^ 8)))] (.r4 G [0] [(2, aI64 8)] (.seq ?_)))
    obtain ⟨hg16, hr⟩ := gd hr
    refine .r0 G (.mu 3 (.p0 (v := aU8 (strAt ⟨#[0, 1, 2, 2, 3, 3, 3, 3, 4, 4, 4, 4, 4, 4, 4, 4, 5, 5, 5, 5, 5, 5, 5, 5, 5, 5, 5, 5, 5, 5, 5, 5, 6, 6, 6, 6, 6, 6, 6, 6, 6, 6, 6, 6, 6, 6, 6, 6, 6, 6, 6, 6, 6, 6, 6, 6, 6, 6, 6, 6, 6, 6, 6, 6, 7, 7, 7, 7, 7, 7, 7, 7, 7, 7, 7, 7, 7, 7, 7, 7, 7, 7, 7, 7, 7, 7, 7, 7, 7, 7, 7, 7, 7, 7, 7, 7, 7, 7, 7, 7, 7, 7, 7, 7, 7, 7, 7, 7, 7, 7, 7, 7, 7, 7, 7, 7, 7, 7, 7, 7, 7, 7, 7, 7, 7, 7, 7, 7, 8, 8, 8, 8, 8, 8, 8, 8, 8, 8, 8, 8, 8, 8, 8, 8, 8, 8, 8, 8, 8, 8, 8, 8, 8, 8, 8, 8, 8, 8, 8, 8, 8, 8, 8, 8, 8, 8, 8, 8, 8, 8, 8, 8, 8, 8, 8, 8, 8, 8, 8, 8, 8, 8, 8, 8, 8, 8, 8, 8, 8, 8, 8, 8, 8, 8, 8, 8, 8, 8, 8, 8, 8, 8, 8, 8, 8, 8, 8, 8, 8, 8, 8, 8, 8, 8, 8, 8, 8, 8, 8, 8, 8, 8, 8, 8, 8, 8, 8, 8, 8, 8, 8, 8, 8, 8, 8, 8, 8, 8, 8, 8, 8, 8, 8, 8, 8, 8, 8, 8, 8, 8, 8, 8, 8, 8, 8, 8]⟩ (wrapF .u8 (x'.fdiv (2 ^ 8))))) (idx_str (s := ⟨#[0, 1, 2, 2, 3, 3, 3, 3, 4, 4, 4, 4, 4, 4, 4, 4, 5, 5, 5, 5, 5, 5, 5, 5, 5, 5, 5, 5, 5, 5, 5, 5, 6, 6, 6, 6, 6, 6, 6, 6, 6, 6, 6, 6, 6, 6, 6, 6, 6, 6, 6, 6, 6, 6, 6, 6, 6, 6, 6, 6, 6, 6, 6, 6, 7, 7, 7, 7, 7, 7, 7, 7, 7, 7, 7, 7, 7, 7, 7, 7, 7, 7, 7, 7, 7, 7, 7, 7, 7, 7, 7, 7, 7, 7, 7, 7, 7, 7, 7, 7, 7, 7, 7, 7, 7, 7, 7, 7, 7, 7, 7, 7, 7, 7, 7, 7, 7, 7, 7, 7, 7, 7, 7, 7, 7, 7, 7, 7, 8, 8, 8, 8, 8, 8, 8, 8, 8, 8, 8, 8, 8, 8, 8, 8, 8, 8, 8, 8, 8, 8, 8, 8, 8, 8, 8, 8, 8, 8, 8, 8, 8, 8, 8, 8, 8, 8, 8, 8, 8, 8, 8, 8, 8, 8, 8, 8, 8, 8, 8, 8, 8, 8, 8, 8, 8, 8, 8, 8, 8, 8, 8, 8, 8, 8, 8, 8, 8, 8, 8, 8, 8, 8, 8, 8, 8, 8, 8, 8, 8, 8, 8, 8, 8, 8, 8, 8, 8, 8, 8, 8, 8, 8, 8, 8, 8, 8, 8, 8, 8, 8, 8, 8, 8, 8, 8, 8, 8, 8, 8, 8, 8, 8, 8, 8, 8, 8, 8, 8, 8, 8, 8, 8, 8, 8, 8, 8]⟩) (k := .u8) (i := (wrapF .u8 (x'.fdiv (2 ^ 8)))) (by kernel_rfl) (by kernel_rfl) (by kernel_rfl) hg16) (.mu 3 (.done (.ret ?_)))))
    obtain rfl := oi hr
    exact FinQ.r1 [aI64 (wrapF .i64 (8 + (wrapF .i64 (strAt ⟨#[0, 1, 2, 2, 3, 3, 3, 3, 4, 4, 4, 4, 4, 4, 4, 4, 5, 5, 5, 5, 5, 5, 5, 5, 5, 5, 5, 5, 5, 5, 5, 5, 6, 6, 6, 6, 6, 6, 6, 6, 6, 6, 6, 6, 6, 6, 6, 6, 6, 6, 6, 6, 6, 6, 6, 6, 6, 6, 6, 6, 6, 6, 6, 6, 7, 7, 7, 7, 7, 7, 7, 7, 7, 7, 7, 7, 7, 7, 7, 7, 7, 7, 7, 7, 7, 7, 7, 7, 7, 7, 7, 7, 7, 7, 7, 7, 7, 7, 7, 7, 7, 7, 7, 7, 7, 7, 7, 7, 7, 7, 7, 7, 7, 7, 7, 7, 7, 7, 7, 7, 7, 7, 7, 7, 7, 7, 7, 7, 8, 8, 8, 8, 8, 8, 8, 8, 8, 8, 8, 8, 8, 8, 8, 8, 8, 8, 8, 8, 8, 8, 8, 8, 8, 8, 8, 8, 8, 8, 8, 8, 8, 8, 8, 8, 8, 8, 8, 8, 8, 8, 8, 8, 8, 8, 8, 8, 8, 8, 8, 8, 8, 8, 8, 8, 8, 8, 8, 8, 8, 8, 8, 8, 8, 8, 8, 8, 8, 8, 8, 8, 8, 8, 8, 8, 8, 8, 8, 8, 8, 8, 8, 8, 8, 8, 8, 8, 8, 8, 8, 8, 8, 8, 8, 8, 8, 8, 8, 8, 8, 8, 8, 8, 8, 8, 8, 8, 8, 8, 8, 8, 8, 8, 8, 8, 8, 8, 8, 8, 8, 8, 8, 8, 8, 8, 8, 8]⟩ (wrapF .u8 (x'.fdiv (2 ^ 8)))))))]
   ·refine .skip (.seq ?_)
    obtain ⟨hg17, hr⟩ := gd hr
    refine .r0 G (.mu 3 (.p0 (v := aU8 (strAt ⟨#[0, 1, 2, 2, 3, 3, 3, 3, 4, 4, 4, 4, 4, 4, 4, 4, 5, 5, 5, 5, 5, 5, 5, 5, 5, 5, 5, 5, 5, 5, 5, 5, 6, 6, 6, 6, 6, 6, 6, 6, 6, 6, 6, 6, 6, 6, 6, 6, 6, 6, 6, 6, 6, 6, 6, 6, 6, 6, 6, 6, 6, 6, 6, 6, 7, 7, 7, 7, 7, 7, 7, 7, 7, 7, 7, 7, 7, 7, 7, 7, 7, 7, 7, 7, 7, 7, 7, 7, 7, 7, 7, 7, 7, 7, 7, 7, 7, 7, 7, 7, 7, 7, 7, 7, 7, 7, 7, 7, 7, 7, 7, 7, 7, 7, 7, 7, 7, 7, 7, 7, 7, 7, 7, 7, 7, 7, 7, 7, 8, 8, 8, 8, 8, 8, 8, 8, 8, 8, 8, 8, 8, 8, 8, 8, 8, 8, 8, 8, 8, 8, 8, 8, 8, 8, 8, 8, 8, 8, 8, 8, 8, 8, 8, 8, 8, 8, 8, 8, 8, 8, 8, 8, 8, 8, 8, 8, 8, 8, 8, 8, 8, 8, 8, 8, 8, 8, 8, 8, 8, 8, 8, 8, 8, 8, 8, 8, 8, 8, 8, 8, 8, 8, 8, 8, 8, 8, 8, 8, 8, 8, 8, 8, 8, 8, 8, 8, 8, 8, 8, 8, 8, 8, 8, 8, 8, 8, 8, 8, 8, 8, 8, 8, 8, 8, 8, 8, 8, 8, 8, 8, 8, 8, 8, 8, 8, 8, 8, 8, 8, 8, 8, 8, 8, 8, 8, 8]⟩ (wrapF .u8 x'))) (idx_str (s := ⟨#[0, 1, 2, 2, 3, 3, 3, 3, 4, 4, 4, 4, 4, 4, 4, 4, 5, 5, 5, 5, 5, 5, 5, 5, 5, 5, 5, 5, 5, 5, 5, 5, 6, 6, 6, 6, 6, 6, 6, 6, 6, 6, 6, 6, 6, 6, 6, 6, 6, 6, 6, 6, 6, 6, 6, 6, 6, 6, 6, 6, 6, 6, 6, 6, 7, 7, 7, 7, 7, 7, 7, 7, 7, 7, 7, 7, 7, 7, 7, 7, 7, 7, 7, 7, 7, 7, 7, 7, 7, 7, 7, 7, 7, 7, 7, 7, 7, 7, 7, 7, 7, 7, 7, 7, 7, 7, 7, 7, 7, 7, 7, 7, 7, 7, 7, 7, 7, 7, 7, 7, 7, 7, 7, 7, 7, 7, 7, 7, 8, 8, 8, 8, 8, 8, 8, 8, 8, 8, 8, 8, 8, 8, 8, 8, 8, 8, 8, 8, 8, 8, 8, 8, 8, 8, 8, 8, 8, 8, 8, 8, 8, 8, 8, 8, 8, 8, 8, 8, 8, 8, 8, 8, 8, 8, 8, 8, 8, 8, 8, 8, 8, 8, 8, 8, 8, 8, 8, 8, 8, 8, 8, 8, 8, 8, 8, 8, 8, 8, 8, 8, 8, 8, 8, 8, 8, 8, 8, 8, 8, 8, 8, 8, 8, 8, 8, 8, 8, 8, 8, 8, 8, 8, 8, 8, 8, 8, 8, 8, 8, 8, 8, 8, 8, 8, 8, 8, 8, 8, 8, 8, 8, 8, 8, 8, 8, 8, 8, 8, 8, 8, 8, 8, 8, 8, 8, 8]⟩) (k := .u8) (i := (wrapF .u8 x')) (by kernel_rfl) (by kernel_rfl) (by kernel_rfl) hg17) (.mu 3 (.done (.ret ?_)))))
    obtain rfl := oi hr
    exact FinQ.r1 [aI64 (wrapF .i64 (0 + (wrapF .i64 (strAt ⟨#[0, 1, 2, 2, 3, 3, 3, 3, 4, 4, 4, 4, 4, 4, 4, 4, 5, 5, 5, 5, 5, 5, 5, 5, 5, 5, 5, 5, 5, 5, 5, 5, 6, 6, 6, 6, 6, 6, 6, 6, 6, 6, 6, 6, 6, 6, 6, 6, 6, 6, 6, 6, 6, 6, 6, 6, 6, 6, 6, 6, 6, 6, 6, 6, 7, 7, 7, 7, 7, 7, 7, 7, 7, 7, 7, 7, 7, 7, 7, 7, 7, 7, 7, 7, 7, 7, 7, 7, 7, 7, 7, 7, 7, 7, 7, 7, 7, 7, 7, 7, 7, 7, 7, 7, 7, 7, 7, 7, 7, 7, 7, 7, 7, 7, 7, 7, 7, 7, 7, 7, 7, 7, 7, 7, 7, 7, 7, 7, 8, 8, 8, 8, 8, 8, 8, 8, 8, 8, 8, 8, 8, 8, 8, 8, 8, 8, 8, 8, 8, 8, 8, 8, 8, 8, 8, 8, 8, 8, 8, 8, 8, 8, 8, 8, 8, 8, 8, 8, 8, 8, 8, 8, 8, 8, 8, 8, 8, 8, 8, 8, 8, 8, 8, 8, 8, 8, 8, 8, 8, 8, 8, 8, 8, 8, 8, 8, 8, 8, 8, 8, 8, 8, 8, 8, 8, 8, 8, 8, 8, 8, 8, 8, 8, 8, 8, 8, 8, 8, 8, 8, 8, 8, 8, 8, 8, 8, 8, 8, 8, 8, 8, 8, 8, 8, 8, 8, 8, 8, 8, 8, 8, 8, 8, 8, 8, 8, 8, 8, 8, 8, 8, 8, 8, 8, 8, 8]⟩ (wrapF .u8 x')))))]

theorem math_bits_Len_ok (n : Nat) (x' : Int) (r : Int) (hr : math_bits_Len n x' = some r) : FnOk Tryz.prog 146 [aU64 x'] (aI64 r) := by
 unfold math_bits_Len at hr
 refine FnOk.bd G Tryz.func146 [.tmp 2] ?_
 unfold Tryz.f146
 simp only [gS]
 refine .seq (.r4 G [0] [] (.seq (.cF (by kernel_rfl) (.skip (.seq ?_)))))
 obtain ⟨v1, hc2, hr⟩ := bd hr
 refine .g1 G (ok0 (math_bits_Len64_ok n x' v1 hc2)) (.mu 1 (.ca cf0 (.mu 1 (.done (.ret ?_)))))
 obtain rfl := oi hr
 exact FinQ.r1 [aI64 v1]

theorem integer_Mul_inj {x' : api_Int} {y : api_Int} {x'_ : api_Int} {y_ : api_Int} (h : ([.agg [.at (.bool x'.Negative), slT (iC .u32) x'.Groups], .agg [.at (.bool y.Negative), slT (iC .u32) y.Groups]] : List AV) = [.agg [.at (.bool x'_.Negative), slT (iC .u32) x'_.Groups], .agg [.at (.bool y_.Negative), slT (iC .u32) y_.Groups]]) : x' = x'_ ∧ y = y_ := by
 obtain ⟨_, _⟩ := x'
 obtain ⟨_, _⟩ := x'_
 obtain ⟨_, _⟩ := y
 obtain ⟨_, _⟩ := y_
 simp only [List.cons.injEq, AV.agg.injEq, AV.at.injEq, Value.int.injEq, Value.bool.injEq, AV.fn.injEq, AV.pp.injEq, true_and, and_true, slT_inj_int] at h
 simp_all
theorem integer_Mul_cg (n : Nat) {x' : api_Int} {y : api_Int} {x'_ : api_Int} {y_ : api_Int} (h : ([.agg [.at (.bool x'.Negative), slT (iC .u32) x'.Groups], .agg [.at (.bool y.Negative), slT (iC .u32) y.Groups]] : List AV) = [.agg [.at (.bool x'_.Negative), slT (iC .u32) x'_.Groups], .agg [.at (.bool y_.Negative), slT (iC .u32) y_.Groups]]) : integer_Mul n x' y = integer_Mul n x'_ y_ := by
 obtain ⟨rfl, rfl⟩ := integer_Mul_inj h
 rfl
theorem integer_Mul_ok (n : Nat) (x' : api_Int) (y : api_Int) (r : api_Int) (hr : integer_Mul n x' y = some r) : FnOk Tryz.prog 83 [.agg (api_Int.c x'), .agg (api_Int.c y)] (.agg (api_Int.c r)) := by
 unfold integer_Mul at hr
 refine FnOk.bd G Tryz.func83 [.cell 4 31] ?_
 unfold Tryz.f83
 simp only [gS]
 refine .seq (.r2 G 16 [(2, .hp 0 0), (3, .hp 1 0), (4, .hp 2 0)] [.own (api_Int.c x'), .own (api_Int.c y), .own [aB false, nS]] (.seq ?_))
 obtain ⟨v1, hc2, v3, hc4, v5, hc6, hr⟩ := bd3 hr
 obtain ⟨v7, hc8, hr⟩ := bd hr
 refine .tn G (ca1 (ok0 (integer_groups_ok n x' v1 hc2)) (ca1 (ok0 (integer_groups_ok n y v3 hc4)) (ca1 (ok0 (integer_times_ok n v1 v3 v5 hc6)) (ca3 (ok0 (integer_made_ok n (x'.Negative != y.Negative) v5 v7 hc8)))))) (.mu 6 (.ca cf0 (.mu 1 (.ca (cfA (fun h => by rw [sv hc4 hc2 (integer_groups_cg n h)]) cf0) (.ca (cfF (cfF cf0)) (.ca (cfF (cfF (cfF cf0))) (.mu 1 ?_)))))))
 refine .done ⟨by kernel_rfl, ?_⟩
 refine .nh [4] [.own (api_Int.c x'), .own (api_Int.c y), .own (api_Int.c v7)] (.ret ?_)
 obtain rfl := oi hr
 exact FinQ.r1 [.agg (api_Int.c v7)]

theorem fraction_Compare_ok (n : Nat) (x' : api_Rat) (y : api_Rat) (r : Int) (hr : fraction_Compare n x' y = some r) : FnOk Tryz.prog 124 [.agg (api_Rat.c x'), .agg (api_Rat.c y)] (aI64 r) := by
 unfold fraction_Compare at hr
 refine FnOk.bd G Tryz.func124 [.tmp 4] ?_
 unfold Tryz.f124
 simp only [gS]
 refine .seq (.r2 G 20 [(2, .hp 0 0), (3, .hp 1 0)] [.own (api_Rat.c x'), .own (api_Rat.c y)] (.seq ?_))
 obtain ⟨v1, hc2, v3, hc4, hr⟩ := bd2 hr
 refine .tn G (ca1 (ok0 (fraction_Value_ok n x' v1 hc2)) (ca3 (ok0 (fraction_Value_ok n y v3 hc4)))) (.mu 1 (.ca cf0 (.mu 1 (.ca (cfA (fun h => by rw [sv hc4 hc2 (fraction_Value_cg n h)]) cf0) (.mu 2 ?_)))))
 refine .done ⟨by kernel_rfl, ?_⟩
 refine .nh [2, 3] [.own (api_Rat.c v1), .own (api_Rat.c v3)] (.seq ?_)
 obtain ⟨v5, hc6, v7, hc8, v9, hc10, hr⟩ := bd3 hr
 refine .tn G (ca1 (ok0 (integer_Mul_ok n v1.Num v3.Den v5 hc6)) (ca1 (ok0 (integer_Mul_ok n v3.Num v1.Den v7 hc8)) (ca3 (ok0 (integer_Compare_ok n v5 v7 v9 hc10))))) (.mu 4 (.ca cf0 (.mu 4 (.ca (cfA (fun h => by rw [sv hc8 hc6 (integer_Mul_cg n h)]) cf0) (.ca (cfF (cfF cf0)) (.mu 1 ?_))))))
 refine .done ⟨by kernel_rfl, ?_⟩
 refine .ret ?_
 obtain rfl := oi hr
 exact FinQ.r1 [aI64 v9]

theorem slices_insertionSortCmpFunc_fiducial_api_Rat_w_of_fraction_Compare_ok (n : Nat) (data : List api_Rat) (a : Int) (b : Int) (r : List api_Rat) (hr : slices_insertionSortCmpFunc_fiducial_api_Rat_w_of_fraction_Compare n data a b = some r) : FnMut 1 Tryz.prog 182 [.hs 0 0 data.length 4, aI64 a, aI64 b, .fn 124 [] []] [.own (data.flatMap api_Rat.c)] (.tup []) [.own (r.flatMap api_Rat.c)] := by
 unfold slices_insertionSortCmpFunc_fiducial_api_Rat_w_of_fraction_Compare at hr
 refine FnMut.bodyW G Tryz.func182 (c := (Tryz.f182.body).getD .skip) rfl (us := []) (s := mkS 53 0 [(0, .hs 0 0 data.length 4), (1, aI64 a), (2, aI64 b), (3, .fn 124 [] [])]) (by kernel_rfl) (rs := []) rfl ?_
 unfold Tryz.f182
 simp only [gS]
 refine .seq (.r4 G [0, 1, 2, 3] [(8, aI64 (wrapF .i64 (a + 1)))] (.block ?_))
 replace hr := bd hr; obtain ⟨d_71, hL94, hr⟩ := hr
 refine .loopO (σ := fun z0 => match z0 with | (d_49, i_50) => ⟨mkS 53 0 [(0, .hs 0 0 d_49.length 4), (1, aI64 a), (2, aI64 b), (3, .fn 124 [] []), (8, aI64 i_50)], [.own (d_49.flatMap api_Rat.c)]⟩) (Q := fun x st' => x = .exit 0 ∧ Wk 1 st' ⟨mkS 53 0 [], [.own (d_71.flatMap api_Rat.c)]⟩) hL94 ((Wk.gc [0, 1, 2, 3, 8] [(0, false)] rfl (pKo api_Rat.c api_Rat.pure data trivial)).to) ?_ ?_
 ·clear hr
  rintro m ⟨d_49, i_50⟩ hr
  show CQ _ _ _ _ _ ⟨_, _⟩
  refine .seq (.seq (.r4 G [0, 1, 2, 3, 8] [(14, aB (decide (i_50 < b)))] ?_))
  refine .cd hr ?_ ?_ <;> intro hb73 hr
  ·refine .skip (.seq (.block (.seq (.r4 G [0, 1, 2, 3, 8] [(9, aI64 i_50)] (.block ?_)))))
   replace hr := bd hr; obtain ⟨d_82, hL91, hr⟩ := hr
   refine .loopO (σ := fun z0 => match z0 with | (d_74, j_75) => ⟨mkS 53 0 [(0, .hs 0 0 d_74.length 4), (1, aI64 a), (2, aI64 b), (3, .fn 124 [] []), (8, aI64 i_50), (9, aI64 j_75)], [.own (d_74.flatMap api_Rat.c)]⟩) (Q := fun x st' => x = .exit 2 ∧ Wk 1 st' ⟨mkS 53 0 [(0, .hs 0 0 d_82.length 4), (1, aI64 a), (2, aI64 b), (3, .fn 124 [] []), (8, aI64 i_50)], [.own (d_82.flatMap api_Rat.c)]⟩) hL91 ((Wk.gc [0, 1, 2, 3, 8, 9] [(0, false)] rfl (pKo api_Rat.c api_Rat.pure d_49 trivial)).to) ?_ ?_
   ·clear hr
    rintro m ⟨d_74, j_75⟩ hr
    show CQ _ _ _ _ _ ⟨_, _⟩
    refine .seq (.seq ?_)
    rcases bT (decide (j_75 > a)) with hb84 | hb84
    ·replace hr := cd_t hb84 hr
     obtain ⟨hg85, hg86, hr⟩ := gd2 hr
     obtain ⟨v87, hc88, hr⟩ := bd hr
     refine .t1 G (ok0 (fraction_Compare_ok n (gt d_74 j_75) (gt d_74 (wrapF .i64 (j_75 - 1))) v87 hc88)) (.mu 2 (.pure (v := aB true) (by kernel_rfl) (eB hb84) (by kernel_rfl) (.mu 4 (.pure (v := .hp 0 (0 + j_75.toNat * 4)) (by kernel_rfl) (tr (ofP_guard hg85)) (by kernel_rfl) (.pure (v := .agg (api_Rat.c (gt d_74 j_75))) (by kernel_rfl) (Eq.trans (b := ORes.ofP (guardV (decide (4 ≤ ((d_74.flatMap api_Rat.c).drop (0 + j_75.toNat * 4)).length)) (.agg (((d_74.flatMap api_Rat.c).drop (0 + j_75.toNat * 4)).take 4)))) (by kernel_rfl) (flat_load api_Rat.len (inR_lt hg85) (by decide) (by omega : 0 + j_75.toNat * 4 = j_75.toNat * 4 + 0) (by kernel_rfl))) (by kernel_rfl) (.mu 3 (.pure (v := .hp 0 (0 + (wrapF .i64 (j_75 - 1)).toNat * 4)) (by kernel_rfl) (tr (ofP_guard hg86)) (by kernel_rfl) (.pure (v := .agg (api_Rat.c (gt d_74 (wrapF .i64 (j_75 - 1))))) (by kernel_rfl) (Eq.trans (b := ORes.ofP (guardV (decide (4 ≤ ((d_74.flatMap api_Rat.c).drop (0 + (wrapF .i64 (j_75 - 1)).toNat * 4)).length)) (.agg (((d_74.flatMap api_Rat.c).drop (0 + (wrapF .i64 (j_75 - 1)).toNat * 4)).take 4)))) (by kernel_rfl) (flat_load api_Rat.len (inR_lt hg86) (by decide) (by omega : 0 + (wrapF .i64 (j_75 - 1)).toNat * 4 = (wrapF .i64 (j_75 - 1)).toNat * 4 + 0) (by kernel_rfl))) (by kernel_rfl) (.ca cf0 (.mu 2 ?_))))))))))
     refine .done ⟨by kernel_rfl, ?_⟩
     refine .nh [0, 1, 2, 3, 8, 9, 34] [.own (d_74.flatMap api_Rat.c)] ?_
     refine .cd hr ?_ ?_ <;> intro hb89 hr
     ·refine .skip (.seq (.block (.regionT G callOf_nil (.mu 8 (.pure (v := .hp 0 (0 + (wrapF .i64 (j_75 - 1)).toNat * 4)) (by kernel_rfl) (tr (ofP_guard hg86)) (by kernel_rfl) (.pure (v := .agg (api_Rat.c (gt d_74 (wrapF .i64 (j_75 - 1))))) (by kernel_rfl) (Eq.trans (b := ORes.ofP (guardV (decide (4 ≤ ((d_74.flatMap api_Rat.c).drop (0 + (wrapF .i64 (j_75 - 1)).toNat * 4)).length)) (.agg (((d_74.flatMap api_Rat.c).drop (0 + (wrapF .i64 (j_75 - 1)).toNat * 4)).take 4)))) (by kernel_rfl) (flat_load api_Rat.len (inR_lt hg86) (by decide) (by omega : 0 + (wrapF .i64 (j_75 - 1)).toNat * 4 = (wrapF .i64 (j_75 - 1)).toNat * 4 + 0) (by kernel_rfl))) (by kernel_rfl) (.mu 2 (.pure (v := .hp 0 (0 + j_75.toNat * 4)) (by kernel_rfl) (tr (ofP_guard hg85)) (by kernel_rfl) (.pure (v := .agg (api_Rat.c (gt d_74 j_75))) (by kernel_rfl) (Eq.trans (b := ORes.ofP (guardV (decide (4 ≤ ((d_74.flatMap api_Rat.c).drop (0 + j_75.toNat * 4)).length)) (.agg (((d_74.flatMap api_Rat.c).drop (0 + j_75.toNat * 4)).take 4)))) (by kernel_rfl) (flat_load api_Rat.len (inR_lt hg85) (by decide) (by omega : 0 + j_75.toNat * 4 = j_75.toNat * 4 + 0) (by kernel_rfl))) (by kernel_rfl) (.pure (v := .hp 0 (0 + j_75.toNat * 4)) (by kernel_rfl) (tr (ofP_guard hg85)) (by kernel_rfl) (.eff (v := .unk) (ws := [(0, .own ((d_74.set j_75.toNat (gt d_74 (wrapF .i64 (j_75 - 1)))).flatMap api_Rat.c))]) (by kernel_rfl) (tr (stO_t (and_t (flat_fits (n := 4) api_Rat.len (inR_lt hg85) (Nat.le_of_ble_eq_true rfl) (by omega : 0 + j_75.toNat * 4 = j_75.toNat * 4 + 0))) (congrArg Blk.own (flat_set (xs := (api_Rat.c (gt d_74 (wrapF .i64 (j_75 - 1))))) api_Rat.len (inR_lt hg85) (Nat.le_of_ble_eq_true rfl) (by omega : 0 + j_75.toNat * 4 = j_75.toNat * 4 + 0) (by kernel_rfl))))) (by kernel_rfl) (.pure (v := .hp 0 (0 + (wrapF .i64 (j_75 - 1)).toNat * 4)) (by kernel_rfl) (tr (ofP_guard hg86)) (by kernel_rfl) (.eff (v := .unk) (ws := [(0, .own (((d_74.set j_75.toNat (gt d_74 (wrapF .i64 (j_75 - 1)))).set (wrapF .i64 (j_75 - 1)).toNat (gt d_74 j_75)).flatMap api_Rat.c))]) (by kernel_rfl) (Eq.trans (b := stO (decide ((0 + (wrapF .i64 (j_75 - 1)).toNat * 4) + 4 ≤ ((d_74.set j_75.toNat (gt d_74 (wrapF .i64 (j_75 - 1)))).flatMap api_Rat.c).length) && true) [(0, .own (setCells ((d_74.set j_75.toNat (gt d_74 (wrapF .i64 (j_75 - 1)))).flatMap api_Rat.c) (0 + (wrapF .i64 (j_75 - 1)).toNat * 4) (api_Rat.c (gt d_74 j_75))))]) (by kernel_rfl) (stO_t (and_t (flat_fits api_Rat.len (inR_lt (inR_set hg86)) (Nat.le_of_ble_eq_true rfl) (by omega : 0 + (wrapF .i64 (j_75 - 1)).toNat * 4 = (wrapF .i64 (j_75 - 1)).toNat * 4 + 0))) (congrArg Blk.own (flat_set api_Rat.len (inR_lt (inR_set hg86)) (Nat.le_of_ble_eq_true rfl) (by omega : 0 + (wrapF .i64 (j_75 - 1)).toNat * 4 = (wrapF .i64 (j_75 - 1)).toNat * 4 + 0) (by kernel_rfl))))) (by kernel_rfl) ?_)))))))))))))
      refine .done ⟨by kernel_rfl, ?_⟩
      refine .pop (.ru G ?_)
      exact loopF_back ((d_74.set j_75.toNat (gt d_74 (wrapF .i64 (j_75 - 1)))).set (wrapF .i64 (j_75 - 1)).toNat (gt d_74 j_75), wrapF .i64 (j_75 - 1)) hr ((Wk.relen 0 (b := 0) (es := 4) (len := d_74.length) ((d_74.set j_75.toNat (gt d_74 (wrapF .i64 (j_75 - 1)))).set (wrapF .i64 (j_75 - 1)).toNat (gt d_74 j_75)).length (by kernel_rfl) (Eq.symm (List.length_set.trans (List.length_set.trans rfl)))).trans ((Wk.gc [0, 1, 2, 3, 8, 9] [(0, false)] rfl (pKo api_Rat.c api_Rat.pure ((d_74.set j_75.toNat (gt d_74 (wrapF .i64 (j_75 - 1)))).set (wrapF .i64 (j_75 - 1)).toNat (gt d_74 j_75)) trivial)).to))
     ·refine .leave rfl ?_
      obtain rfl := oi hr
      exact ⟨rfl, ((Wk.gc [0, 1, 2, 3, 8] [(0, false)] rfl (pKo api_Rat.c api_Rat.pure d_74 trivial)).to)⟩
    ·replace hr := cd_f hb84 hr
     refine .regionT G callOf_nil (.mu 2 (.pure (v := aB false) (by kernel_rfl) (eB hb84) (by kernel_rfl) (.mu 14 ?_)))
     refine .done ⟨by kernel_rfl, ?_⟩
     refine .nh [0, 1, 2, 3, 8, 9, 34] [.own (d_74.flatMap api_Rat.c)] (.cF (by kernel_rfl) (.leave rfl ?_))
     obtain rfl := oi hr
     exact ⟨rfl, ((Wk.gc [0, 1, 2, 3, 8] [(0, false)] rfl (pKo api_Rat.c api_Rat.pure d_74 trivial)).to)⟩
   ·rintro x st' hq92
    clear hL91
    obtain ⟨rfl, hq92⟩ := hq92
    refine CQ_exit _ rfl (.pop (.wk hq92 (.ru G ?_)))
    exact loopF_back (d_82, wrapF .i64 (i_50 + 1)) hr ((Wk.gc [0, 1, 2, 3, 8] [(0, false)] rfl (pKo api_Rat.c api_Rat.pure d_82 trivial)).to)
  ·refine .leave rfl ?_
   obtain rfl := oi hr
   exact ⟨rfl, ((Wk.gc [] [(0, false)] rfl (pKo api_Rat.c api_Rat.pure d_49 trivial)).to)⟩
 ·rintro x st' hq95
  clear hL94
  obtain ⟨rfl, hq95⟩ := hq95
  refine CQ_exit _ rfl ?_
  obtain rfl := oi hr
  exact FinMW.wk hq95 (FinMW.normal [] ((Wk.gc [] [(0, false)] rfl (pKo api_Rat.c api_Rat.pure d_71 trivial)).to))

theorem slices_pdqsortCmpFunc_fiducial_api_Rat_w_of_fraction_Compare_ok (n : Nat) (data : List api_Rat) (a : Int) (b : Int) (limit : Int) (r : List api_Rat) (hr : slices_pdqsortCmpFunc_fiducial_api_Rat_w_of_fraction_Compare n data a b limit = some r) : FnMut 1 Tryz.prog 150 [.hs 0 0 data.length 4, aI64 a, aI64 b, aI64 limit, .fn 124 [] []] [.own (data.flatMap api_Rat.c)] (.tup []) [.own (r.flatMap api_Rat.c)] := by
 unfold slices_pdqsortCmpFunc_fiducial_api_Rat_w_of_fraction_Compare at hr
 refine FnMut.bodyW G Tryz.func150 (c := (Tryz.f150.body).getD .skip) rfl (us := []) (s := mkS 148 0 [(0, .hs 0 0 data.length 4), (1, aI64 a), (2, aI64 b), (3, aI64 limit), (4, .fn 124 [] [])]) (by kernel_rfl) (rs := []) rfl ?_
 unfold Tryz.f150
 simp only [gS]
 refine .seq (.r4 G [0, 1, 2, 3, 4] [(10, aB true)] (.seq (.r4 G [0, 1, 2, 3, 4, 10] [(11, aB true)] (.block ?_))))
 replace hr := bd hr; obtain ⟨r0, hL38, hr⟩ := hr
 refine .loopO (σ := fun z0 => match z0 with | (a_21, b_22, l_23, w_24, w_25) => ⟨mkS 148 0 [(0, .hs 0 0 data.length 4), (1, aI64 a_21), (2, aI64 b_22), (3, aI64 l_23), (4, .fn 124 [] []), (10, aB w_24), (11, aB w_25)], [.own (data.flatMap api_Rat.c)]⟩) (Q := fun x st' => x = .ret ∧ FinMW 1 Tryz.prog [] [] [.own (r0.flatMap api_Rat.c)] .ret st') hL38 ((Wk.gc [0, 1, 2, 3, 4, 10, 11] [(0, false)] rfl (pKo api_Rat.c api_Rat.pure data trivial)).to) ?_ ?_
 ·clear hr
  rintro m ⟨a_21, b_22, l_23, w_24, w_25⟩ hr
  show CQ _ _ _ _ _ ⟨_, _⟩
  refine .block (.seq (.r4 G [0, 1, 2, 3, 4, 10, 11] [(12, aI64 (wrapF .i64 (b_22 - a_21)))] (.seq (.seq (.r4 G [0, 1, 2, 3, 4, 10, 11, 12] [(25, aB (decide ((wrapF .i64 (b_22 - a_21)) ≤ 12)))] ?_)))))
  obtain ⟨hb32, hr⟩ := gd hr
  refine .cY hb32 (.seq ?_)
  obtain ⟨v33, hc34, hr⟩ := bd hr
  refine .g1 G (callOk_mutU (args := [.hs 0 0 data.length 4, aI64 a_21, aI64 b_22, .fn 124 [] []]) 1 0 [(0, false)] [false] (slices_insertionSortCmpFunc_fiducial_api_Rat_w_of_fraction_Compare_ok n data a_21 b_22 v33 hc34) (by exact ⟨ids_flat api_Rat.pure _, trivial⟩) (by exact ⟨ids_flat api_Rat.pure _, trivial⟩) rfl rfl (by kernel_rfl) (by kernel_rfl)) (.mu 4 (.ca cf0 (.done (.nh [] [.own (v33.flatMap api_Rat.c)] (.ret ?_)))))
  obtain rfl := oi hr
  exact ⟨rfl, FinMW.ret [] ((Wk.gc [] [(0, false)] rfl (pKo api_Rat.c api_Rat.pure v33 trivial)).to)⟩
 ·rintro x st' hq39
  clear hL38
  obtain ⟨rfl, hq39⟩ := hq39
  obtain rfl := oi hr
  exact CQ_ret _ hq39

theorem slices_SortFunc_fiducial_api_Rat_fiducial_api_Rat_w_of_fraction_Compare_ok (n : Nat) (x' : List api_Rat) (r : List api_Rat) (hr : slices_SortFunc_fiducial_api_Rat_fiducial_api_Rat_w_of_fraction_Compare n x' = some r) : FnMut 1 Tryz.prog 123 [.hs 0 0 x'.length 4, .fn 124 [] []] [.own (x'.flatMap api_Rat.c)] (.tup []) [.own (r.flatMap api_Rat.c)] := by
 unfold slices_SortFunc_fiducial_api_Rat_fiducial_api_Rat_w_of_fraction_Compare at hr
 refine FnMut.bodyW G Tryz.func123 (c := (Tryz.f123.body).getD .skip) rfl (us := []) (s := mkS 14 0 [(0, .hs 0 0 x'.length 4), (1, .fn 124 [] [])]) (by kernel_rfl) (rs := []) rfl ?_
 unfold Tryz.f123
 simp only [gS]
 refine .seq (.r4 G [0, 1] [(4, aI64 (x'.length : Int))] ?_)
 obtain ⟨v6, hc7, v8, hc9, hr⟩ := bd2 hr
 refine .gn G (ca1 (ok0 (math_bits_Len_ok n (wrapF .u64 (x'.length : Int)) v6 hc7)) (ca3 (callOk_mutU (args := [.hs 0 0 x'.length 4, aI64 0, aI64 (x'.length : Int), aI64 v6, .fn 124 [] []]) 1 0 [(0, false)] [false] (slices_pdqsortCmpFunc_fiducial_api_Rat_w_of_fraction_Compare_ok n x' 0 (x'.length : Int) v6 v8 hc9) (by exact ⟨ids_flat api_Rat.pure _, trivial⟩) (by exact ⟨ids_flat api_Rat.pure _, trivial⟩) rfl rfl (by kernel_rfl) (by kernel_rfl)))) (.mu 4 (.ca cf0 (.mu 1 (.ca (cfF cf0) (.done ?_)))))
 obtain rfl := oi hr
 exact FinMW.normal [] ((Wk.gc [] [(0, false)] rfl (pKo api_Rat.c api_Rat.pure v8 trivial)).to)

theorem fraction_counted_inj {n' : api_Int} {n'_ : api_Int} (h : ([.agg [.at (.bool n'.Negative), slT (iC .u32) n'.Groups]] : List AV) = [.agg [.at (.bool n'_.Negative), slT (iC .u32) n'_.Groups]]) : n' = n'_ := by
 obtain ⟨_, _⟩ := n'
 obtain ⟨_, _⟩ := n'_
 simp only [List.cons.injEq, AV.agg.injEq, AV.at.injEq, Value.int.injEq, Value.bool.injEq, AV.fn.injEq, AV.pp.injEq, true_and, and_true, slT_inj_int] at h
 simp_all
theorem fraction_counted_cg (n : Nat) {n' : api_Int} {n'_ : api_Int} (h : ([.agg [.at (.bool n'.Negative), slT (iC .u32) n'.Groups]] : List AV) = [.agg [.at (.bool n'_.Negative), slT (iC .u32) n'_.Groups]]) : fraction_counted n n' = fraction_counted n n'_ := by
 obtain rfl := fraction_counted_inj h
 rfl
theorem fraction_counted_ok (n : Nat) (n' : api_Int) (r : api_Int) (hr : fraction_counted n n' = some r) : FnOk Tryz.prog 155 [.agg (api_Int.c n')] (.agg (api_Int.c r)) := by
 unfold fraction_counted at hr
 refine FnOk.bd G Tryz.func155 [.cell 2 31] ?_
 unfold Tryz.f155
 simp only [gS]
 refine .seq (.r2 G 7 [(1, .hp 0 0), (2, .hp 1 0)] [.own (api_Int.c n'), .own [aB false, nS]] (.seq (.seq ?_)))
 obtain ⟨v1, hc2, hr⟩ := bd hr
 refine .g1 G (ok0 (integer_Valid_ok n n' v1 hc2)) (.mu 1 (.ca cf0 (.done (.nh [1, 2, 4] [.own (api_Int.c n'), .own [aB false, nS]] ?_))))
 refine .cd hr ?_ ?_ <;> intro hb3 hr
 ·refine .seq (.r5 G [2] [] [.own (api_Int.c n'), .own (api_Int.c n')] (.ret ?_))
  obtain rfl := oi hr
  exact FinQ.r1 [.agg (api_Int.c n')]
 ·refine .skip (.seq ?_)
  obtain ⟨v4, hc5, hr⟩ := bd hr
  refine .g1 G (ok0 (integer_Of_ok n 0 v4 hc5)) (.ca cf0 (.mu 1 (.done (.nh [2] [.own (api_Int.c n'), .own (api_Int.c v4)] (.ret ?_)))))
  obtain rfl := oi hr
  exact FinQ.r1 [.agg (api_Int.c v4)]

theorem integer_plus_ok (n : Nat) (a : List Int) (b : List Int) (r : List Int) (hr : integer_plus n a b = some r) : FnOk Tryz.prog 141 [sU32 a, sU32 b] (sU32 r) := by
 unfold integer_plus at hr
 refine FnOk.bd G Tryz.func141 [.tmp 4] ?_
 unfold Tryz.f141
 simp only [gS]
 refine .seq (.r4 G [0, 1] [] (.seq ?_))
 obtain ⟨hg1, hg2, hg3, hr⟩ := gd3 hr
 refine .r0 G (.mu 6 (.e0 (v := .hs 0 0 (List.replicate (wrapF .i64 ((mx (a.length : Int) (b.length : Int)) + 1)).toNat ((0 : Int) : Int)).length 1) (ws := [(0, .own ((List.replicate (wrapF .i64 ((mx (a.length : Int) (b.length : Int)) + 1)).toNat ((0 : Int) : Int)).flatMap (iC .u32)))]) (tr (make_own (c := (iC .u32)) (z := (0 : Int)) (n := wrapF .i64 ((mx (a.length : Int) (b.length : Int)) + 1)) (by_ := 4) rfl hg1 hg2 hg3)) (.mu 1 (.done (.nh [0, 1, 5] [.own ((List.replicate (wrapF .i64 ((mx (a.length : Int) (b.length : Int)) + 1)).toNat ((0 : Int) : Int)).flatMap (iC .u32))] (.seq (.r4 G [0, 1, 5] [(6, aU32 0)] (.seq (.seq (.r4 G [0, 1, 5, 6] [(17, aI64 ((List.replicate (wrapF .i64 ((mx (a.length : Int) (b.length : Int)) + 1)).toNat ((0 : Int) : Int)).length : Int)), (18, aI64 0)] (.block ?_)))))))))))
 replace hr := bd hr; obtain ⟨o_15, hL26, hr⟩ := hr
 refine .loopO (σ := fun z0 => match z0 with | (o_4, c_5, x_6) => ⟨mkS 41 0 [(0, sU32 a), (1, sU32 b), (5, .hs 0 0 o_4.length 1), (6, aU32 c_5), (17, aI64 ((List.replicate (wrapF .i64 ((mx (a.length : Int) (b.length : Int)) + 1)).toNat ((0 : Int) : Int)).length : Int)), (18, aI64 x_6)], [.own (o_4.flatMap (iC .u32))]⟩) (Q := fun x st' => x = .exit 0 ∧ Wk 0 st' ⟨mkS 41 0 [(5, .hs 0 0 o_15.length 1)], [.own (o_15.flatMap (iC .u32))]⟩) hL26 ((Wk.gc [0, 1, 5, 6, 17, 18] [(0, false)] rfl (pKo (iC .u32) (iC_pure _) (List.replicate (wrapF .i64 ((mx (a.length : Int) (b.length : Int)) + 1)).toNat ((0 : Int) : Int)) trivial)).to) ?_ ?_
 ·clear hr
  rintro m ⟨o_4, c_5, x_6⟩ hr
  show CQ _ _ _ _ _ ⟨_, _⟩
  refine .seq (.r4 G [0, 1, 5, 6, 17, 18] [(19, aB (decide (x_6 < ((List.replicate (wrapF .i64 ((mx (a.length : Int) (b.length : Int)) + 1)).toNat ((0 : Int) : Int)).length : Int))))] (.seq ?_))
  refine .cd hr ?_ ?_ <;> intro hb17 hr
  ·refine .skip (.seq (.block (.seq (.r4 G [0, 1, 5, 6, 17, 18] [(7, aI64 x_6)] (.seq ?_)))))
   obtain ⟨v18, hc19, v20, hc21, hr⟩ := bd2 hr
   refine .gn G (ca1 (ok0 (integer_at_ok n a x_6 v18 hc19)) (ca3 (ok0 (integer_at_ok n b x_6 v20 hc21)))) (.mu 2 (.ca cf0 (.mu 2 (.ca (cfA (fun h => by rw [sv hc21 hc19 (integer_at_cg n h)]) cf0) (.mu 4 (.done (.nh [0, 1, 5, 7, 8, 17, 18] [.own (o_4.flatMap (iC .u32))] (.seq (.r4 G [0, 1, 5, 7, 8, 17, 18] [(6, aU32 0)] (.seq (.seq (.r4 G [0, 1, 5, 6, 7, 8, 17, 18] [(31, aB (decide ((wrapF .u32 ((wrapF .u32 (v18 + v20)) + c_5)) ≥ 1000000000)))] ?_))))))))))))
   refine .cd hr ?_ ?_ <;> intro hb22 hr
   ·refine .r4 G [0, 1, 5, 7, 17, 18] [(6, aU32 1), (8, aU32 (wrapF .u32 ((wrapF .u32 ((wrapF .u32 (v18 + v20)) + c_5)) - 1000000000)))] ?_
    obtain ⟨hg23, hr⟩ := gd hr
    refine .r0 G (.mu 3 (.p0 (v := .hp 0 (0 + x_6.toNat * 1)) (tr (ofP_guard hg23)) (.e0 (v := .unk) (ws := [(0, .own ((o_4.set x_6.toNat (wrapF .u32 ((wrapF .u32 ((wrapF .u32 (v18 + v20)) + c_5)) - 1000000000))).flatMap (iC .u32)))]) (tr (stO_t (and_t (flat_fits (n := 1) (iC_len .u32) (inR_lt hg23) (Nat.le_of_ble_eq_true rfl) (by omega : 0 + x_6.toNat * 1 = x_6.toNat * 1 + 0))) (congrArg Blk.own (flat_set (xs := [aU32 (wrapF .u32 ((wrapF .u32 ((wrapF .u32 (v18 + v20)) + c_5)) - 1000000000))]) (iC_len .u32) (inR_lt hg23) (Nat.le_of_ble_eq_true rfl) (by omega : 0 + x_6.toNat * 1 = x_6.toNat * 1 + 0) (by kernel_rfl))))) (.done (.pop (.ru G ?_))))))
    exact loopF_back (o_4.set x_6.toNat (wrapF .u32 ((wrapF .u32 ((wrapF .u32 (v18 + v20)) + c_5)) - 1000000000)), 1, wrapF .i64 (x_6 + 1)) hr ((Wk.relen 5 (b := 0) (es := 1) (len := o_4.length) (o_4.set x_6.toNat (wrapF .u32 ((wrapF .u32 ((wrapF .u32 (v18 + v20)) + c_5)) - 1000000000))).length (by kernel_rfl) (Eq.symm (List.length_set.trans rfl))).trans ((Wk.gc [0, 1, 5, 6, 17, 18] [(0, false)] rfl (pKo (iC .u32) (iC_pure _) (o_4.set x_6.toNat (wrapF .u32 ((wrapF .u32 ((wrapF .u32 (v18 + v20)) + c_5)) - 1000000000))) trivial)).to))
   ·refine .skip ?_
    obtain ⟨hg24, hr⟩ := gd hr
    refine .r0 G (.mu 3 (.p0 (v := .hp 0 (0 + x_6.toNat * 1)) (tr (ofP_guard hg24)) (.e0 (v := .unk) (ws := [(0, .own ((o_4.set x_6.toNat (wrapF .u32 ((wrapF .u32 (v18 + v20)) + c_5))).flatMap (iC .u32)))]) (tr (stO_t (and_t (flat_fits (n := 1) (iC_len .u32) (inR_lt hg24) (Nat.le_of_ble_eq_true rfl) (by omega : 0 + x_6.toNat * 1 = x_6.toNat * 1 + 0))) (congrArg Blk.own (flat_set (xs := [aU32 (wrapF .u32 ((wrapF .u32 (v18 + v20)) + c_5))]) (iC_len .u32) (inR_lt hg24) (Nat.le_of_ble_eq_true rfl) (by omega : 0 + x_6.toNat * 1 = x_6.toNat * 1 + 0) (by kernel_rfl))))) (.done (.pop (.ru G ?_))))))
    exact loopF_back (o_4.set x_6.toNat (wrapF .u32 ((wrapF .u32 (v18 + v20)) + c_5)), 0, wrapF .i64 (x_6 + 1)) hr ((Wk.relen 5 (b := 0) (es := 1) (len := o_4.length) (o_4.set x_6.toNat (wrapF .u32 ((wrapF .u32 (v18 + v20)) + c_5))).length (by kernel_rfl) (Eq.symm (List.length_set.trans rfl))).trans ((Wk.gc [0, 1, 5, 6, 17, 18] [(0, false)] rfl (pKo (iC .u32) (iC_pure _) (o_4.set x_6.toNat (wrapF .u32 ((wrapF .u32 (v18 + v20)) + c_5))) trivial)).to))
  ·refine .leave rfl ?_
   obtain rfl := oi hr
   exact ⟨rfl, ((Wk.gc [5] [(0, false)] rfl (pKo (iC .u32) (iC_pure _) o_4 trivial)).to)⟩
 ·rintro x st' hq27
  clear hL26
  obtain ⟨rfl, hq27⟩ := hq27
  refine CQ_exit _ rfl (.wk hq27 (.seq ?_))
  obtain ⟨v28, hc29, hr⟩ := bd hr
  refine .g1 G (callOk_ref (args := [.hs 0 0 o_15.length 1]) (l := [0]) (SnL.cons (Sn.hs rfl (.inl rfl) (SnC.pure (ids_flat (iC_pure _) _)) (fun h => flat_nil0 h)) SnL.nil) (integer_trim_ok n o_15 v28 hc29)) (.mu 1 (.ca cf0 (.mu 1 (.done (.ret ?_)))))
  obtain rfl := oi hr
  exact FinQ.r1 [sU32 v28]

theorem integer_minus_ok (n : Nat) (a : List Int) (b : List Int) (r : List Int) (hr : integer_minus n a b = some r) : FnOk Tryz.prog 143 [sU32 a, sU32 b] (sU32 r) := by
 unfold integer_minus at hr
 refine FnOk.bd G Tryz.func143 [.tmp 4] ?_
 unfold Tryz.f143
 simp only [gS]
 refine .seq (.r4 G [0, 1] [] (.seq ?_))
 obtain ⟨hg1, hg2, hg3, hr⟩ := gd3 hr
 refine .r0 G (.mu 2 (.e0 (v := .hs 0 0 (List.replicate (a.length : Int).toNat ((0 : Int) : Int)).length 1) (ws := [(0, .own ((List.replicate (a.length : Int).toNat ((0 : Int) : Int)).flatMap (iC .u32)))]) (tr (make_own (c := (iC .u32)) (z := (0 : Int)) (n := (a.length : Int)) (by_ := 4) rfl hg1 hg2 hg3)) (.mu 1 (.done (.nh [0, 1, 5] [.own ((List.replicate (a.length : Int).toNat ((0 : Int) : Int)).flatMap (iC .u32))] (.seq (.r4 G [0, 1, 5] [(6, aU32 0)] (.seq (.seq (.r4 G [0, 1, 5, 6] [(13, aI64 ((List.replicate (a.length : Int).toNat ((0 : Int) : Int)).length : Int)), (14, aI64 0)] (.block ?_)))))))))))
 replace hr := bd hr; obtain ⟨o_14, hL24, hr⟩ := hr
 refine .loopO (σ := fun z0 => match z0 with | (o_4, b_5, x_6) => ⟨mkS 50 0 [(0, sU32 a), (1, sU32 b), (5, .hs 0 0 o_4.length 1), (6, aU32 b_5), (13, aI64 ((List.replicate (a.length : Int).toNat ((0 : Int) : Int)).length : Int)), (14, aI64 x_6)], [.own (o_4.flatMap (iC .u32))]⟩) (Q := fun x st' => x = .exit 0 ∧ Wk 0 st' ⟨mkS 50 0 [(5, .hs 0 0 o_14.length 1)], [.own (o_14.flatMap (iC .u32))]⟩) hL24 ((Wk.gc [0, 1, 5, 6, 13, 14] [(0, false)] rfl (pKo (iC .u32) (iC_pure _) (List.replicate (a.length : Int).toNat ((0 : Int) : Int)) trivial)).to) ?_ ?_
 ·clear hr
  rintro m ⟨o_4, b_5, x_6⟩ hr
  show CQ _ _ _ _ _ ⟨_, _⟩
  refine .seq (.r4 G [0, 1, 5, 6, 13, 14] [(15, aB (decide (x_6 < ((List.replicate (a.length : Int).toNat ((0 : Int) : Int)).length : Int))))] (.seq ?_))
  refine .cd hr ?_ ?_ <;> intro hb16 hr
  ·refine .skip (.seq (.block (.seq (.r4 G [0, 1, 5, 6, 13, 14] [(7, aI64 x_6)] (.seq ?_)))))
   obtain ⟨v17, hc18, hr⟩ := bd hr
   refine .g1 G (ok0 (integer_at_ok n b x_6 v17 hc18)) (.mu 2 (.ca cf0 (.mu 3 (.done (.nh [0, 1, 5, 7, 8, 13, 14] [.own (o_4.flatMap (iC .u32))] (.seq (.r4 G [0, 1, 5, 7, 8, 13, 14] [(6, aU32 0)] (.seq ?_))))))))
   obtain ⟨hg19, hr⟩ := gd hr
   refine .r0 G (.mu 2 (.p0 (v := .pp (a.flatMap (iC .u32)) (x_6.toNat * 1)) (tr (ofP_guard hg19)) (.p0 (v := aU32 (gt a x_6)) (tr (ofP_some (flat_get (iC_len .u32) (inR_lt hg19) (by decide : 0 < 1) (by omega : x_6.toNat * 1 = x_6.toNat * 1 + 0) (by kernel_rfl)))) (.mu 2 (.done (.nh [0, 1, 5, 6, 7, 8, 13, 14, 27] [.own (o_4.flatMap (iC .u32))] ?_))))))
   refine .cd hr ?_ ?_ <;> intro hb20 hr
   ·obtain ⟨hg21, hr⟩ := gd hr
    refine .r0 G (.mu 4 (.p0 (v := .pp (a.flatMap (iC .u32)) (x_6.toNat * 1)) (tr (ofP_guard hg19)) (.p0 (v := aU32 (gt a x_6)) (tr (ofP_some (flat_get (iC_len .u32) (inR_lt hg19) (by decide : 0 < 1) (by omega : x_6.toNat * 1 = x_6.toNat * 1 + 0) (by kernel_rfl)))) (.mu 3 (.p0 (v := .hp 0 (0 + x_6.toNat * 1)) (tr (ofP_guard hg21)) (.e0 (v := .unk) (ws := [(0, .own ((o_4.set x_6.toNat (wrapF .u32 ((wrapF .u32 ((gt a x_6) + 1000000000)) - (wrapF .u32 (v17 + b_5))))).flatMap (iC .u32)))]) (tr (stO_t (and_t (flat_fits (n := 1) (iC_len .u32) (inR_lt hg21) (Nat.le_of_ble_eq_true rfl) (by omega : 0 + x_6.toNat * 1 = x_6.toNat * 1 + 0))) (congrArg Blk.own (flat_set (xs := [aU32 (wrapF .u32 ((wrapF .u32 ((gt a x_6) + 1000000000)) - (wrapF .u32 (v17 + b_5))))]) (iC_len .u32) (inR_lt hg21) (Nat.le_of_ble_eq_true rfl) (by omega : 0 + x_6.toNat * 1 = x_6.toNat * 1 + 0) (by kernel_rfl))))) (.mu 1 (.done (.pop (.ru G ?_))))))))))
    exact loopF_back (o_4.set x_6.toNat (wrapF .u32 ((wrapF .u32 ((gt a x_6) + 1000000000)) - (wrapF .u32 (v17 + b_5)))), 1, wrapF .i64 (x_6 + 1)) hr ((Wk.relen 5 (b := 0) (es := 1) (len := o_4.length) (o_4.set x_6.toNat (wrapF .u32 ((wrapF .u32 ((gt a x_6) + 1000000000)) - (wrapF .u32 (v17 + b_5))))).length (by kernel_rfl) (Eq.symm (List.length_set.trans rfl))).trans ((Wk.gc [0, 1, 5, 6, 13, 14] [(0, false)] rfl (pKo (iC .u32) (iC_pure _) (o_4.set x_6.toNat (wrapF .u32 ((wrapF .u32 ((gt a x_6) + 1000000000)) - (wrapF .u32 (v17 + b_5))))) trivial)).to))
   ·obtain ⟨hg22, hr⟩ := gd hr
    refine .r0 G (.mu 4 (.p0 (v := .pp (a.flatMap (iC .u32)) (x_6.toNat * 1)) (tr (ofP_guard hg19)) (.p0 (v := aU32 (gt a x_6)) (tr (ofP_some (flat_get (iC_len .u32) (inR_lt hg19) (by decide : 0 < 1) (by omega : x_6.toNat * 1 = x_6.toNat * 1 + 0) (by kernel_rfl)))) (.mu 2 (.p0 (v := .hp 0 (0 + x_6.toNat * 1)) (tr (ofP_guard hg22)) (.e0 (v := .unk) (ws := [(0, .own ((o_4.set x_6.toNat (wrapF .u32 ((gt a x_6) - (wrapF .u32 (v17 + b_5))))).flatMap (iC .u32)))]) (tr (stO_t (and_t (flat_fits (n := 1) (iC_len .u32) (inR_lt hg22) (Nat.le_of_ble_eq_true rfl) (by omega : 0 + x_6.toNat * 1 = x_6.toNat * 1 + 0))) (congrArg Blk.own (flat_set (xs := [aU32 (wrapF .u32 ((gt a x_6) - (wrapF .u32 (v17 + b_5))))]) (iC_len .u32) (inR_lt hg22) (Nat.le_of_ble_eq_true rfl) (by omega : 0 + x_6.toNat * 1 = x_6.toNat * 1 + 0) (by kernel_rfl))))) (.done (.pop (.ru G ?_)))))))))
    exact loopF_back (o_4.set x_6.toNat (wrapF .u32 ((gt a x_6) - (wrapF .u32 (v17 + b_5)))), 0, wrapF .i64 (x_6 + 1)) hr ((Wk.relen 5 (b := 0) (es := 1) (len := o_4.length) (o_4.set x_6.toNat (wrapF .u32 ((gt a x_6) - (wrapF .u32 (v17 + b_5))))).length (by kernel_rfl) (Eq.symm (List.length_set.trans rfl))).trans ((Wk.gc [0, 1, 5, 6, 13, 14] [(0, false)] rfl (pKo (iC .u32) (iC_pure _) (o_4.set x_6.toNat (wrapF .u32 ((gt a x_6) - (wrapF .u32 (v17 + b_5))))) trivial)).to))
  ·refine .leave rfl ?_
   obtain rfl := oi hr
   exact ⟨rfl, ((Wk.gc [5] [(0, false)] rfl (pKo (iC .u32) (iC_pure _) o_4 trivial)).to)⟩
 ·rintro x st' hq25
  clear hL24
  obtain ⟨rfl, hq25⟩ := hq25
  refine CQ_exit _ rfl (.wk hq25 (.seq ?_))
  obtain ⟨v26, hc27, hr⟩ := bd hr
  refine .g1 G (callOk_ref (args := [.hs 0 0 o_14.length 1]) (l := [0]) (SnL.cons (Sn.hs rfl (.inl rfl) (SnC.pure (ids_flat (iC_pure _) _)) (fun h => flat_nil0 h)) SnL.nil) (integer_trim_ok n o_14 v26 hc27)) (.mu 1 (.ca cf0 (.mu 1 (.done (.ret ?_)))))
  obtain rfl := oi hr
  exact FinQ.r1 [sU32 v26]

theorem integer_Divide_ok (n : Nat) (x' : api_Int) (y : api_Int) (r : api_Int × api_Int × Int) (hr : integer_Divide n x' y = some r) : FnOk Tryz.prog 131 [.agg (api_Int.c x'), .agg (api_Int.c y)] (.tup [.agg (api_Int.c r.1), .agg (api_Int.c r.2.1), aI64 r.2.2]) := by
 unfold integer_Divide at hr
 refine FnOk.bd G Tryz.func131 [.cell 4 31, .cell 5 31, .tmp 6] ?_
 unfold Tryz.f131
 simp only [gS]
 refine .seq (.r2 G 55 [(2, .hp 0 0), (3, .hp 1 0), (4, .hp 2 0), (5, .hp 3 0)] [.own (api_Int.c x'), .own (api_Int.c y), .own [aB false, nS], .own [aB false, nS]] (.seq ?_))
 obtain ⟨v1, hc2, v3, hc4, hr⟩ := bd2 hr
 refine .tn G (ca1 (ok0 (integer_groups_ok n x' v1 hc2)) (ca3 (ok0 (integer_groups_ok n y v3 hc4)))) (.mu 1 (.ca cf0 (.mu 1 (.ca (cfA (fun h => by rw [sv hc4 hc2 (integer_groups_cg n h)]) cf0) (.mu 2 ?_)))))
 refine .done ⟨by kernel_rfl, ?_⟩
 refine .nh [2, 3, 4, 5, 7, 8] [.own (api_Int.c x'), .own (api_Int.c y), .own [aB false, nS], .own [aB false, nS]] (.seq (.seq (.r4 G [2, 3, 4, 5, 7, 8] [(17, aB (((v3.length : Int) : Int) == 0))] ?_)))
 refine .cd hr ?_ ?_ <;> intro hb5 hr
 ·refine .seq (.r4 G [4, 5] [(6, aI64 14)] (.ret ?_))
  obtain rfl := oi hr
  exact FinQ.ret (vs := [.agg [aB false, nS], .agg [aB false, nS], aI64 14]) (by kernel_rfl) (Sn.tup (SnL.cons (Sn.agg (Sp (SnL.cons Sn.nilsl SnL.nil))) (SnL.cons (Sn.agg (Sp (SnL.cons Sn.nilsl SnL.nil))) (Sp SnL.nil))))
 ·refine .skip (.seq ?_)
  obtain ⟨v6, hc7, hr⟩ := bd hr
  refine .g1 G (ok0 (integer_over_ok n v1 v3 v6 hc7)) (.mu 2 (.ca cf0 (.mu 5 (.done (.nh [2, 3, 4, 5, 8, 9, 10] [.own (api_Int.c x'), .own (api_Int.c y), .own [aB false, nS], .own [aB false, nS]] (.seq ?_))))))
  obtain ⟨v8, hc9, hr⟩ := bd hr
  refine .g1 G (ok0 (slices_Clone_uint32_uint32_ok n v6.2 v8 hc9)) (.mu 1 (.ca cf0 (.mu 1 (.done (.nh [2, 3, 4, 5, 8, 9, 10] [.own (api_Int.c x'), .own (api_Int.c y), .own [aB false, nS], .own [aB false, nS]] (.seq (.seq ?_)))))))
  rcases bT (decide ((v8.length : Int) > 0)) with hb10 | hb10
  ·replace hr := cd_t hb10 hr
   refine .r0 G (.mu 2 (.p0 (v := aB true) (eB hb10) (.mu 7 (.done (.nh [2, 3, 4, 5, 8, 9, 10, 37] [.own (api_Int.c x'), .own (api_Int.c y), .own [aB false, nS], .own [aB false, nS]] ?_)))))
   refine .cd hr ?_ ?_ <;> intro hb11 hr
   ·obtain ⟨v12, hc13, v14, hc15, hr⟩ := bd2 hr
    refine .gn G (ca2 [.own (api_Int.c x'), .own (api_Int.c y), .own [aB false, nS], .own [aB false, nS], .own [aU32 1]] (callOk_ref (args := [sU32 v6.1, .hs 4 0 1 1]) (l := [4]) (Sp (SnL.cons (Sn.hs rfl (.inl rfl) (SnC.cons (Sn.pure rfl) SnC.nil) (fun h => nomatch h)) SnL.nil)) (integer_plus_ok n v6.1 [(1 : Int)] v12 hc13)) (ca4 [.own (api_Int.c x'), .own (api_Int.c y), .own [aB false, nS], .own [aB false, nS], .fix [aU32 1]] (ok0 (integer_minus_ok n v3 v8 v14 hc15)))) (.mu 2 (.ca cf0 (.mu 2 (.ca (cfF cf0) (.mu 2 (.done (.nh [2, 3, 4, 5, 9, 10] [.own (api_Int.c x'), .own (api_Int.c y), .own [aB false, nS], .own [aB false, nS], .fix [aU32 1]] (.seq ?_))))))))
    obtain ⟨v16, hc17, v18, hc19, hr⟩ := bd2 hr
    refine .tn G (ca1 (ok0 (integer_made_ok n true v12 v16 hc17)) (ca3 (ok0 (integer_made_ok n y.Negative v14 v18 hc19)))) (.mu 4 (.pure (v := aB true) (by kernel_rfl) (eB hb11) (by kernel_rfl) (.mu 1 (.ca cf0 (.mu 3 (.ca (cfA (fun h => by rw [sv hc19 hc17 (integer_made_cg n h)]) cf0) (.mu 3 ?_)))))))
    refine .done ⟨by kernel_rfl, ?_⟩
    refine .nh [4, 5, 6] [.own (api_Int.c x'), .own (api_Int.c y), .own (api_Int.c v16), .own (api_Int.c v18), .fix [aU32 1]] (.ret ?_)
    obtain rfl := oi hr
    exact FinQ.ret (vs := [.agg (api_Int.c v16), .agg (api_Int.c v18), aI64 0]) (by kernel_rfl) (Sn.tup (Sp (Sp (Sp SnL.nil))))
   ·refine .skip (.seq ?_)
    obtain ⟨v20, hc21, v22, hc23, hr⟩ := bd2 hr
    refine .tn G (ca1 (ok0 (integer_made_ok n false v6.1 v20 hc21)) (ca3 (ok0 (integer_made_ok n y.Negative v8 v22 hc23)))) (.mu 4 (.pure (v := aB false) (by kernel_rfl) (eB hb11) (by kernel_rfl) (.mu 1 (.ca cf0 (.mu 3 (.ca (cfA (fun h => by rw [sv hc23 hc21 (integer_made_cg n h)]) cf0) (.mu 3 ?_)))))))
    refine .done ⟨by kernel_rfl, ?_⟩
    refine .nh [4, 5, 6] [.own (api_Int.c x'), .own (api_Int.c y), .own (api_Int.c v20), .own (api_Int.c v22)] (.ret ?_)
    obtain rfl := oi hr
    exact FinQ.ret (vs := [.agg (api_Int.c v20), .agg (api_Int.c v22), aI64 0]) (by kernel_rfl) (Sn.tup (Sp (Sp (Sp SnL.nil))))
  ·replace hr := cd_f hb10 hr
   refine .r0 G (.mu 2 (.p0 (v := aB false) (eB hb10) (.mu 7 (.done (.nh [2, 3, 4, 5, 8, 9, 10, 37] [.own (api_Int.c x'), .own (api_Int.c y), .own [aB false, nS], .own [aB false, nS]] (.cF (by kernel_rfl) (.skip (.seq ?_))))))))
   obtain ⟨v24, hc25, v26, hc27, hr⟩ := bd2 hr
   refine .tn G (ca1 (ok0 (integer_made_ok n (x'.Negative != y.Negative) v6.1 v24 hc25)) (ca3 (ok0 (integer_made_ok n y.Negative v8 v26 hc27)))) (.mu 6 (.ca cf0 (.mu 3 (.ca (cfA (fun h => by rw [sv hc27 hc25 (integer_made_cg n h)]) cf0) (.mu 3 ?_)))))
   refine .done ⟨by kernel_rfl, ?_⟩
   refine .nh [4, 5, 6] [.own (api_Int.c x'), .own (api_Int.c y), .own (api_Int.c v24), .own (api_Int.c v26)] (.ret ?_)
   obtain rfl := oi hr
   exact FinQ.ret (vs := [.agg (api_Int.c v24), .agg (api_Int.c v26), aI64 0]) (by kernel_rfl) (Sn.tup (Sp (Sp (Sp SnL.nil))))

theorem fraction_reduced_ok (n : Nat) (num : api_Int) (den : api_Int) (r : api_Rat) (hr : fraction_reduced n num den = some r) : FnOk Tryz.prog 82 [.agg (api_Int.c num), .agg (api_Int.c den)] (.agg (api_Rat.c r)) := by
 unfold fraction_reduced at hr
 refine FnOk.bd G Tryz.func82 [.cell 4 33] ?_
 unfold Tryz.f82
 simp only [gS]
 refine .seq (.r2 G 33 [(2, .hp 0 0), (3, .hp 1 0), (4, .hp 2 0)] [.own (api_Int.c num), .own (api_Int.c den), .own [aB false, nS, aB false, nS]] (.seq (.seq ?_)))
 obtain ⟨v1, hc2, hr⟩ := bd hr
 refine .g1 G (ok0 (integer_Sign_ok n den v1 hc2)) (.mu 1 (.ca cf0 (.mu 1 (.done (.nh [2, 3, 4, 8] [.own (api_Int.c num), .own (api_Int.c den), .own [aB false, nS, aB false, nS]] ?_)))))
 refine .cd hr ?_ ?_ <;> intro hb3 hr
 ·obtain ⟨v4, hc5, v6, hc7, hr⟩ := bd2 hr
  refine .tn G (ca1 (ok0 (integer_Neg_ok n num v4 hc5)) (ca3 (ok0 (integer_Neg_ok n den v6 hc7)))) (.mu 1 (.ca cf0 (.mu 1 (.ca (cfA (fun h => by rw [sv hc7 hc5 (integer_Neg_cg n h)]) cf0) (.mu 2 ?_)))))
  refine .done ⟨by kernel_rfl, ?_⟩
  refine .nh [2, 3, 4] [.own (api_Int.c v4), .own (api_Int.c v6), .own [aB false, nS, aB false, nS]] (.seq ?_)
  obtain ⟨v8, hc9, hr⟩ := bd hr
  refine .g1 G (ok0 (integer_Gcd_ok n v4 v6 v8 hc9)) (.mu 2 (.ca cf0 (.mu 2 (.done (.nh [2, 3, 4, 5] [.own (api_Int.c v4), .own (api_Int.c v6), .own [aB false, nS, aB false, nS], .own (api_Int.c v8)] (.seq ?_))))))
  obtain ⟨v10, hc11, hr⟩ := bd hr
  refine .g1 G (ok0 (integer_Divide_ok n v4 v8 v10 hc11)) (.mu 2 (.ca cf0 (.mu 5 (.done (.nh [2, 3, 4, 5] [.own (api_Int.c v10.1), .own (api_Int.c v6), .own [aB false, nS, aB false, nS], .own (api_Int.c v8)] (.seq ?_))))))
  obtain ⟨v12, hc13, hr⟩ := bd hr
  refine .g1 G (ok0 (integer_Divide_ok n v6 v8 v12 hc13)) (.mu 2 (.ca cf0 (.mu 5 (.done (.nh [2, 3, 4] [.own (api_Int.c v10.1), .own (api_Int.c v12.1), .own [aB false, nS, aB false, nS], .own (api_Int.c v8)] (.seq (.r5 G [4] [] [.own (api_Int.c v10.1), .own (api_Int.c v12.1), .own [aB v10.1.Negative, sU32 v10.1.Groups, aB v12.1.Negative, sU32 v12.1.Groups], .own (api_Int.c v8)] (.ret ?_))))))))
  obtain rfl := oi hr
  exact FinQ.r1 [.agg [aB v10.1.Negative, sU32 v10.1.Groups, aB v12.1.Negative, sU32 v12.1.Groups]]
 ·refine .skip (.seq ?_)
  obtain ⟨v14, hc15, hr⟩ := bd hr
  refine .g1 G (ok0 (integer_Gcd_ok n num den v14 hc15)) (.mu 2 (.ca cf0 (.mu 2 (.done (.nh [2, 3, 4, 5] [.own (api_Int.c num), .own (api_Int.c den), .own [aB false, nS, aB false, nS], .own (api_Int.c v14)] (.seq ?_))))))
  obtain ⟨v16, hc17, hr⟩ := bd hr
  refine .g1 G (ok0 (integer_Divide_ok n num v14 v16 hc17)) (.mu 2 (.ca cf0 (.mu 5 (.done (.nh [2, 3, 4, 5] [.own (api_Int.c v16.1), .own (api_Int.c den), .own [aB false, nS, aB false, nS], .own (api_Int.c v14)] (.seq ?_))))))
  obtain ⟨v18, hc19, hr⟩ := bd hr
  refine .g1 G (ok0 (integer_Divide_ok n den v14 v18 hc19)) (.mu 2 (.ca cf0 (.mu 5 (.done (.nh [2, 3, 4] [.own (api_Int.c v16.1), .own (api_Int.c v18.1), .own [aB false, nS, aB false, nS], .own (api_Int.c v14)] (.seq (.r5 G [4] [] [.own (api_Int.c v16.1), .own (api_Int.c v18.1), .own [aB v16.1.Negative, sU32 v16.1.Groups, aB v18.1.Negative, sU32 v18.1.Groups], .own (api_Int.c v14)] (.ret ?_))))))))
  obtain rfl := oi hr
  exact FinQ.r1 [.agg [aB v16.1.Negative, sU32 v16.1.Groups, aB v18.1.Negative, sU32 v18.1.Groups]]

theorem fraction_New_ok (n : Nat) (num : api_Int) (den : api_Int) (r : api_Rat × Int) (hr : fraction_New n num den = some r) : FnOk Tryz.prog 133 [.agg (api_Int.c num), .agg (api_Int.c den)] (.tup [.agg (api_Rat.c r.1), aI64 r.2]) := by
 unfold fraction_New at hr
 refine FnOk.bd G Tryz.func133 [.cell 4 33, .tmp 5] ?_
 unfold Tryz.f133
 simp only [gS]
 refine .seq (.r2 G 17 [(2, .hp 0 0), (3, .hp 1 0), (4, .hp 2 0)] [.own (api_Int.c num), .own (api_Int.c den), .own [aB false, nS, aB false, nS]] (.seq ?_))
 obtain ⟨v1, hc2, v3, hc4, hr⟩ := bd2 hr
 refine .tn G (ca1 (ok0 (fraction_counted_ok n num v1 hc2)) (ca3 (ok0 (fraction_counted_ok n den v3 hc4)))) (.mu 1 (.ca cf0 (.mu 1 (.ca (cfA (fun h => by rw [sv hc4 hc2 (fraction_counted_cg n h)]) cf0) (.mu 2 ?_)))))
 refine .done ⟨by kernel_rfl, ?_⟩
 refine .nh [2, 3, 4] [.own (api_Int.c v1), .own (api_Int.c v3), .own [aB false, nS, aB false, nS]] (.seq (.seq ?_))
 obtain ⟨v5, hc6, hr⟩ := bd hr
 refine .g1 G (ok0 (integer_Sign_ok n v3 v5 hc6)) (.mu 1 (.ca cf0 (.mu 1 (.done (.nh [2, 3, 4, 12] [.own (api_Int.c v1), .own (api_Int.c v3), .own [aB false, nS, aB false, nS]] ?_)))))
 refine .cd hr ?_ ?_ <;> intro hb7 hr
 ·refine .seq (.r4 G [4] [(5, aI64 14)] (.ret ?_))
  obtain rfl := oi hr
  exact FinQ.ret (vs := [.agg [aB false, nS, aB false, nS], aI64 14]) (by kernel_rfl) (Sn.tup (SnL.cons (Sn.agg (Sp (SnL.cons Sn.nilsl (Sp (SnL.cons Sn.nilsl SnL.nil))))) (Sp SnL.nil)))
 ·refine .skip (.seq ?_)
  obtain ⟨v8, hc9, hr⟩ := bd hr
  refine .g1 G (ok0 (fraction_reduced_ok n v1 v3 v8 hc9)) (.mu 2 (.ca cf0 (.mu 2 (.done (.nh [4, 5] [.own (api_Int.c v1), .own (api_Int.c v3), .own (api_Rat.c v8)] (.ret ?_))))))
  obtain rfl := oi hr
  exact FinQ.ret (vs := [.agg (api_Rat.c v8), aI64 0]) (by kernel_rfl) (Sn.tup (Sp (Sp SnL.nil)))

theorem fraction_Of_ok (n : Nat) (n' : Int) (d : Int) (r : api_Rat × Int) (hr : fraction_Of n n' d = some r) : FnOk Tryz.prog 87 [aI64 n', aI64 d] (.tup [.agg (api_Rat.c r.1), aI64 r.2]) := by
 unfold fraction_Of at hr
 refine FnOk.bd G Tryz.func87 [.cell 4 33, .tmp 5] ?_
 unfold Tryz.f87
 simp only [gS]
 refine .seq (.r5 G [0, 1] [(4, .hp 0 0)] [.own [aB false, nS, aB false, nS]] (.seq ?_))
 obtain ⟨v1, hc2, v3, hc4, v5, hc6, hr⟩ := bd3 hr
 refine .gn G (ca1 (ok0 (integer_Of_ok n n' v1 hc2)) (ca1 (ok0 (integer_Of_ok n d v3 hc4)) (ca3 (ok0 (fraction_New_ok n v1 v3 v5 hc6))))) (.mu 1 (.ca cf0 (.mu 1 (.ca (cfA (fun h => by rw [sv hc4 hc2 (integer_Of_cg n h)]) cf0) (.ca (cfF (cfF cf0)) (.mu 4 (.done (.nh [4, 5] [.own (api_Rat.c v5.1)] (.ret ?_)))))))))
 obtain rfl := oi hr
 exact FinQ.ret (vs := [.agg (api_Rat.c v5.1), aI64 v5.2]) (by kernel_rfl) (Sn.tup (Sp (Sp SnL.nil)))

theorem integer_sum_ok (n : Nat) (negative : Bool) (a : List Int) (other : Bool) (b : List Int) (r : api_Int) (hr : integer_sum n negative a other b = some r) : FnOk Tryz.prog 106 [aB negative, sU32 a, aB other, sU32 b] (.agg (api_Int.c r)) := by
 unfold integer_sum at hr
 refine FnOk.bd G Tryz.func106 [.cell 8 31] ?_
 unfold Tryz.f106
 simp only [gS]
 refine .seq (.r5 G [0, 1, 2, 3] [(8, .hp 0 0)] [.own [aB false, nS]] (.seq (.block (.seq (.r4 G [0, 1, 2, 3, 8] [(9, aB (negative == other))] ?_)))))
 refine .cd hr ?_ ?_ <;> intro hb1 hr
 ·refine .seq ?_
  obtain ⟨v2, hc3, v4, hc5, hr⟩ := bd2 hr
  refine .gn G (ca1 (ok0 (integer_plus_ok n a b v2 hc3)) (ca3 (ok0 (integer_made_ok n negative v2 v4 hc5)))) (.mu 3 (.ca cf0 (.ca (cfF cf0) (.mu 1 (.done (.nh [8] [.own (api_Int.c v4)] (.ret ?_)))))))
  obtain rfl := oi hr
  exact FinQ.r1 [.agg (api_Int.c v4)]
 ·refine .seq ?_
  obtain ⟨v6, hc7, hr⟩ := bd hr
  refine .g1 G (ok0 (integer_compare_ok n a b v6 hc7)) (.mu 2 (.ca cf0 (.mu 2 (.done (.nh [0, 1, 2, 3, 8, 18] [.own [aB false, nS]] ?_)))))
  refine .cd hr ?_ ?_ <;> intro hb8 hr
  ·refine .seq ?_
   obtain ⟨v9, hc10, v11, hc12, hr⟩ := bd2 hr
   refine .gn G (ca1 (ok0 (integer_minus_ok n a b v9 hc10)) (ca3 (ok0 (integer_made_ok n negative v9 v11 hc12)))) (.mu 3 (.ca cf0 (.ca (cfF cf0) (.mu 1 (.done (.nh [8] [.own (api_Int.c v11)] (.ret ?_)))))))
   obtain rfl := oi hr
   exact FinQ.r1 [.agg (api_Int.c v11)]
  ·refine .skip (.pop (.seq ?_))
   obtain ⟨v13, hc14, v15, hc16, hr⟩ := bd2 hr
   refine .gn G (ca1 (ok0 (integer_minus_ok n b a v13 hc14)) (ca3 (ok0 (integer_made_ok n other v13 v15 hc16)))) (.mu 3 (.ca cf0 (.ca (cfF cf0) (.mu 1 (.done (.nh [8] [.own (api_Int.c v15)] (.ret ?_)))))))
   obtain rfl := oi hr
   exact FinQ.r1 [.agg (api_Int.c v15)]

theorem integer_Add_ok (n : Nat) (x' : api_Int) (y : api_Int) (r : api_Int) (hr : integer_Add n x' y = some r) : FnOk Tryz.prog 66 [.agg (api_Int.c x'), .agg (api_Int.c y)] (.agg (api_Int.c r)) := by
 unfold integer_Add at hr
 refine FnOk.bd G Tryz.func66 [.cell 4 31] ?_
 unfold Tryz.f66
 simp only [gS]
 refine .seq (.r2 G 14 [(2, .hp 0 0), (3, .hp 1 0), (4, .hp 2 0)] [.own (api_Int.c x'), .own (api_Int.c y), .own [aB false, nS]] (.seq ?_))
 obtain ⟨v1, hc2, v3, hc4, v5, hc6, hr⟩ := bd3 hr
 refine .tn G (ca1 (ok0 (integer_groups_ok n x' v1 hc2)) (ca1 (ok0 (integer_groups_ok n y v3 hc4)) (ca3 (ok0 (integer_sum_ok n x'.Negative v1 y.Negative v3 v5 hc6))))) (.mu 3 (.ca cf0 (.mu 3 (.ca (cfA (fun h => by rw [sv hc4 hc2 (integer_groups_cg n h)]) cf0) (.ca (cfF (cfF cf0)) (.mu 1 ?_))))))
 refine .done ⟨by kernel_rfl, ?_⟩
 refine .nh [4] [.own (api_Int.c x'), .own (api_Int.c y), .own (api_Int.c v5)] (.ret ?_)
 obtain rfl := oi hr
 exact FinQ.r1 [.agg (api_Int.c v5)]
end Go.L
