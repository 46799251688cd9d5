/- The program's functions compute what the plain Lean programs compute, part 2; printed by a program. -/
import Derived.Test.YtkhmlbchphhokaaGreatHulLP1
import Derived.Test.YtkhmlbchphhokaaGreatL0lkheafln
import Derived.Test.YtkhmlbchphhokaaGreatSortInmajjpon
import Derived.Test.YtkhmlbchphhokaaGreatChecked
import Derived.KernelRfl
set_option linter.all false
set_option maxRecDepth 100000
set_option maxHeartbeats 4000000
namespace Go.L
open Go Go.Eng Go.Proofs
theorem predicate_Circle_1_w_ok (n : Nat) (p : api_Pix) (q : api_Pix) (r' : api_Pix) (p' : Bool) (p'' : List Int) (p''' : Int) (p'''' : Int) (r : Bool × List Int) (hr : predicate_Circle_1_w n p q r' p' p'' p''' p'''' = some r) : FnMut 2 Tryz.prog 112 [.agg (api_Pix.c p), .agg (api_Pix.c q), .agg (api_Pix.c r'), .hp 0 0, .hp 1 0] [.own [aB p', sU32 p''], .own [aI64 p''', aI64 p'''']] (.tup []) [.own [aB r.1, sU32 r.2], .own [aI64 p''', aI64 p'''']] := by
 unfold predicate_Circle_1_w at hr
 refine FnMut.bodyW fine Tryz.func112 (c := (Tryz.f112.body).getD .skip) rfl (us := []) (s := mkS 21 0 [(0, .agg (api_Pix.c p)), (1, .agg (api_Pix.c q)), (2, .agg (api_Pix.c r')), (3, .hp 0 0), (4, .hp 1 0)]) (by kernel_rfl) (rs := []) rfl ?_
 unfold Tryz.f112
 simp only [Option.getD_some]
 refine .seq <| .r5 fine [3, 4] [(5, .hp 2 0), (6, .hp 3 0), (7, .hp 4 0)] [.own [aB p', sU32 p''], .own [aI64 p''', aI64 p''''], .own (api_Pix.c p), .own (api_Pix.c q), .own (api_Pix.c r')] ?_
 obtain ⟨v15, hc16, v17, hc18, v19, hc20, hr⟩ := bd3 hr
 obtain ⟨v21, hc22, v23, hc24, v25, hc26, hr⟩ := bd3 hr
 refine .tn fine (ca1 (ok0 (predicate_dot_ok n (api_Pix.mk p''' p'''') p p v15 hc16)) (ca1 (ok0 (integer_Of_ok n v15 v17 hc18)) (ca1 (ok0 (predicate_cross_ok n (api_Pix.mk p''' p'''') q r' v19 hc20)) (ca1 (ok0 (integer_Of_ok n v19 v21 hc22)) (ca1 (ok0 (integer_Mul_ok n v17 v21 v23 hc24)) (ca3 (ok0 (integer_Add_ok n (api_Int.mk p' p'') v23 v25 hc26)))))))) <| .mu 4 <| .ca cf0 <| .ca (cfF cf0) <| .mu 3 <| .ca (cfF (cfF cf0)) <| .ca (cfF (cfA (fun h => by rw [sv hc22 hc18 (integer_Of_cg n h)]) (cfF cf0))) <| .ca (cfF (cfF (cfF (cfF cf0)))) <| .ca (cfF (cfF (cfF (cfF (cfF cf0))))) <| .mu 1 ?_
 refine .done ⟨by kernel_rfl, ?_⟩
 obtain rfl := oi hr
 exact FinMW.normal [] ((Wk.gc [] [(0, true), (1, true)] rfl trivial).to (by kernel_rfl))

theorem predicate_Circle_ok (n : Nat) (a : api_Pix) (b : api_Pix) (c : api_Pix) (d : api_Pix) (r : Int) (hr : predicate_Circle n a b c d = some r) : FnOk Tryz.prog 67 [.agg (api_Pix.c a), .agg (api_Pix.c b), .agg (api_Pix.c c), .agg (api_Pix.c d)] (aI64 r) := by
 unfold predicate_Circle at hr
 refine FnOk.bd fine Tryz.func67 [.tmp 8] ?_
 unfold Tryz.f67
 simp only [Option.getD_some]
 refine .seq <| .r2 fine 45 [(4, .hp 0 0), (5, .hp 1 0), (6, .hp 2 0), (7, .hp 3 0)] [.own (api_Pix.c a), .own (api_Pix.c b), .own (api_Pix.c c), .own (api_Pix.c d)] <| .seq ?_
 obtain ⟨v1, hc2, hr⟩ := bd hr
 refine .g1 fine (ok0 (predicate_Orient_ok n a b c v1 hc2)) <| .mu 3 <| .ca cf0 <| .mu 1 <| .done <| .nh [4, 5, 6, 7, 9] [.own (api_Pix.c a), .own (api_Pix.c b), .own (api_Pix.c c), .own (api_Pix.c d)] <| .seq <| .seq ?_
 rcases Bool.eq_false_or_eq_true ((v1 : Int) == 0) with hb3 | hb3
 ·replace hr := cd_t hb3 hr
  refine .r0 fine <| .mu 1 <| .p0 (v := aB true) (eB hb3) <| .mu 6 <| .done <| .nh [4, 5, 6, 7, 9, 23] [.own (api_Pix.c a), .own (api_Pix.c b), .own (api_Pix.c c), .own (api_Pix.c d)] <| .cT (by kernel_rfl) <| .seq <| .ru fine <| .ret ?_
  obtain rfl := oi hr
  exact FinQ.r1 [aI64 0]
 ·replace hr := cd_f hb3 hr
  obtain ⟨v4, hc5, hr⟩ := bd hr
  refine .gn fine (ca4 [.own (api_Pix.c a), .own (api_Pix.c b), .own (api_Pix.c c), .own (api_Pix.c d), .own (api_Pix.c d)] (callOk_val (args := [.hs 4 0 1 2]) (l := [4]) rfl (SnL.cons (Sn.hs rfl (.inl rfl) (SnC.cons (Sn.pure rfl) (SnC.cons (Sn.pure rfl) SnC.nil)) (fun h => nomatch h)) SnL.nil) (predicate_Check_ok n [d] v4 hc5))) <| .mu 1 <| .p0 (v := aB false) (eB hb3) <| .mu 3 <| .ca cf0 <| .mu 2 <| .done <| .nh [4, 5, 6, 7, 9, 23] [.own (api_Pix.c a), .own (api_Pix.c b), .own (api_Pix.c c), .own (api_Pix.c d), .own (api_Pix.c d)] ?_
  refine .cd hr (fun hb6 hr => ?_) (fun hb6 hr => ?_)
  ·refine .seq <| .ru fine <| .ret ?_
   obtain rfl := oi hr
   exact FinQ.r1 [aI64 0]
  ·refine .skip <| .seq ?_
   obtain ⟨v7, hc8, hr⟩ := bd hr
   refine .g1 fine (ok0 (integer_Of_ok n 0 v7 hc8)) <| .ca cf0 <| .mu 2 <| .done <| .nh [4, 5, 6, 7, 9, 10] [.own (api_Pix.c a), .own (api_Pix.c b), .own (api_Pix.c c), .own (api_Pix.c d), .own (api_Pix.c d), .own (api_Int.c v7)] <| .seq <| .r4 fine [4, 5, 6, 9, 10] [(11, .fn 112 [] [.hp 5 0, .hp 3 0])] <| .seq ?_
   obtain ⟨v9, hc10, hr⟩ := bd hr
   refine .g1 fine (callOk_mutU (args := [.agg (api_Pix.c a), .agg (api_Pix.c b), .agg (api_Pix.c c), .hp 5 0, .hp 3 0]) 2 0 [(5, true), (3, true)] [true, true] (predicate_Circle_1_w_ok n a b c v7.Negative v7.Groups d.X d.Y v9 hc10) trivial trivial rfl rfl (by kernel_rfl) (by kernel_rfl)) <| .mu 4 <| .ca cf0 <| .done <| .nh [4, 5, 6, 9, 10, 11] [.own (api_Pix.c a), .own (api_Pix.c b), .own (api_Pix.c c), .own (api_Pix.c d), .own (api_Pix.c d), .own [aB v9.1, sU32 v9.2]] <| .seq ?_
   obtain ⟨v11, hc12, hr⟩ := bd hr
   refine .g1 fine (callOk_mutU (args := [.agg (api_Pix.c b), .agg (api_Pix.c c), .agg (api_Pix.c a), .hp 5 0, .hp 3 0]) 2 0 [(5, true), (3, true)] [true, true] (predicate_Circle_1_w_ok n b c a v9.1 v9.2 d.X d.Y v11 hc12) trivial trivial rfl rfl (by kernel_rfl) (by kernel_rfl)) <| .mu 4 <| .ca cf0 <| .done <| .nh [4, 5, 6, 9, 10, 11] [.own (api_Pix.c a), .own (api_Pix.c b), .own (api_Pix.c c), .own (api_Pix.c d), .own (api_Pix.c d), .own [aB v11.1, sU32 v11.2]] <| .seq ?_
   obtain ⟨v13, hc14, hr⟩ := bd hr
   refine .g1 fine (callOk_mutU (args := [.agg (api_Pix.c c), .agg (api_Pix.c a), .agg (api_Pix.c b), .hp 5 0, .hp 3 0]) 2 0 [(5, true), (3, true)] [true, true] (predicate_Circle_1_w_ok n c a b v11.1 v11.2 d.X d.Y v13 hc14) trivial trivial rfl rfl (by kernel_rfl) (by kernel_rfl)) <| .mu 4 <| .ca cf0 <| .done <| .nh [9, 10] [.own (api_Pix.c a), .own (api_Pix.c b), .own (api_Pix.c c), .own (api_Pix.c d), .own (api_Pix.c d), .own [aB v13.1, sU32 v13.2]] <| .seq ?_
   obtain ⟨v15, hc16, hr⟩ := bd hr
   refine .g1 fine (ok0 (integer_Sign_ok n (api_Int.mk v13.1 v13.2) v15 hc16)) <| .mu 2 <| .ca cf0 <| .mu 2 <| .done <| .ret ?_
   obtain rfl := oi hr
   exact FinQ.r1 [aI64 (wrapF .i64 (v1 * v15))]

theorem fiducialref01_made_ok (n : Nat) (negative : Bool) (l : List Int) (r : api_Int) (hr : fiducialref01_made n negative l = some r) : FnOk Tryz.prog 190 [aB negative, sU32 l] (.agg (api_Int.c r)) := by
 unfold fiducialref01_made at hr
 refine FnOk.bd fine Tryz.func190 [.cell 4 72] ?_
 unfold Tryz.f190
 simp only [Option.getD_some]
 refine .seq <| .r5 fine [0, 1] [(4, .hp 0 0)] [.own [aB false, nS]] <| .seq <| .r4 fine [0, 1, 4] [(5, aI64 (l.length : Int))] <| .seq <| .block ?_
 replace hr := bd hr; obtain ⟨n_5, hL11, hr⟩ := hr
 refine .loopO (σ := fun z0 => match z0 with | n_1 => ⟨mkS 31 0 [(0, aB negative), (1, sU32 l), (4, .hp 0 0), (5, aI64 n_1)], [.own [aB false, nS]]⟩) (Q := fun x st' => x = .exit 0 ∧ Wk 0 st' ⟨mkS 31 0 [(0, aB negative), (1, sU32 l), (4, .hp 0 0), (5, aI64 n_5)], [.own [aB false, nS]]⟩) hL11 ((Wk.gc [0, 1, 4, 5] [(0, true)] rfl trivial).to (by kernel_rfl)) ?_ ?_
 ·clear hr
  rintro m n_1 hr
  show CQ _ _ _ _ _ ⟨_, _⟩
  refine .seq <| .seq ?_
  rcases Bool.eq_false_or_eq_true (decide (n_1 > 0)) with hb7 | hb7
  ·replace hr := cd_t hb7 hr
   obtain ⟨hg8, hr⟩ := gd hr
   refine .r0 fine <| .mu 1 <| .p0 (v := aB true) (eB hb7) <| .mu 4 <| .pure (v := .pp (l.flatMap (iC .u32)) ((wrapF .i64 (n_1 - 1)).toNat * 1)) (by kernel_rfl) (tr (ofP_guard hg8)) <| .pure (v := aU32 (gt l (wrapF .i64 (n_1 - 1)))) (by kernel_rfl) (tr (ofP_some (flat_get (iC_len .u32) (inR_lt hg8) (by decide : 0 < 1) (by omega : (wrapF .i64 (n_1 - 1)).toNat * 1 = (wrapF .i64 (n_1 - 1)).toNat * 1 + 0) (by kernel_rfl)))) <| .mu 2 <| .done <| .nh [0, 1, 4, 5, 17] [.own [aB false, nS]] ?_
   refine .cd hr (fun hb9 hr => ?_) (fun hb9 hr => ?_)
   ·refine .skip <| .block <| .ru fine <| .pop ?_
    exact loopF_back (wrapF .i64 (n_1 - 1)) hr ((Wk.gc [0, 1, 4, 5] [(0, true)] rfl trivial).to (by kernel_rfl))
   ·refine .leave rfl ?_
    obtain rfl := oi hr
    exact ⟨rfl, ((Wk.gc [0, 1, 4, 5] [(0, true)] rfl trivial).to (by kernel_rfl))⟩
  ·replace hr := cd_f hb7 hr
   refine .r0 fine <| .mu 1 <| .p0 (v := aB false) (eB hb7) <| .mu 8 <| .done <| .nh [0, 1, 4, 5, 17] [.own [aB false, nS]] <| .cF (by kernel_rfl) <| .leave rfl ?_
   obtain rfl := oi hr
   exact ⟨rfl, ((Wk.gc [0, 1, 4, 5] [(0, true)] rfl trivial).to (by kernel_rfl))⟩
 ·rintro x st' hq12
  clear hL11
  obtain ⟨rfl, hq12⟩ := hq12
  refine CQ_exit _ rfl <| .wk hq12 <| .seq ?_
  rcases Bool.eq_false_or_eq_true negative with hb13 | hb13
  ·replace hr := cd_t hb13 hr
   obtain ⟨hg14, hg15, hg16, hr⟩ := gd3 hr
   refine .r0 fine <| .p0 (v := aB true) (eB hb13) <| .mu 7 <| .p0 (v := sU32 ((l.drop (0 : Int).toNat).take (n_5.toNat - (0 : Int).toNat))) (Eq.trans (b := slO (inS 0 n_5 l.length) (0 : Int).toNat n_5.toNat (fun z1 z2 => .sl true (((l.flatMap (iC .u32)).drop (z1 * 1)).take ((z2 - z1) * 1)) (z2 - z1))) (by kernel_rfl) (slO_t hg14 (sub_sl (iC_len _) (inS_le hg14)))) <| .e0 (v := .hs 2 0 ((l.drop (0 : Int).toNat).take (n_5.toNat - (0 : Int).toNat)).length 1) (ws := [(1, .dead), (2, .own (((l.drop (0 : Int).toNat).take (n_5.toNat - (0 : Int).toNat)).flatMap (iC .u32)))]) (Eq.trans (b := appS (decide (((((l.drop (0 : Int).toNat).take (n_5.toNat - (0 : Int).toNat)).flatMap (iC .u32))).length = ((l.drop (0 : Int).toNat).take (n_5.toNat - (0 : Int).toNat)).length * 1)) (((l.drop (0 : Int).toNat).take (n_5.toNat - (0 : Int).toNat)).flatMap (iC .u32)) ((l.drop (0 : Int).toNat).take (n_5.toNat - (0 : Int).toNat)).length (fun z1 z2 => guardO (decide (0 + 0 * 1 ≤ (([] : List Int).flatMap (iC .u32)).length) && decide ((0 + z2) * 4 ≤ 140737488355328) && decide (0 + z2 ≤ 4611686018427387904)) (some (.eff (.hs 2 0 (0 + z2) 1) [(1, .dead), (2, .own (((([] : List Int).flatMap (iC .u32)).drop 0).take (0 * 1) ++ z1))])))) (by kernel_rfl) (appS_t (flat_lenB (iC_len _)) rfl (app_own (l := ([] : List Int)) (xs := (l.drop (0 : Int).toNat).take (n_5.toNat - (0 : Int).toNat)) (iC_len _) rfl rfl rfl hg15 hg16))) <| .mu 2 <| .done <| .nh [4] [.own [aB (decide (n_5 > 0)), .hs 2 0 ((l.drop (0 : Int).toNat).take (n_5.toNat - (0 : Int).toNat)).length 1], .dead, .own (((l.drop (0 : Int).toNat).take (n_5.toNat - (0 : Int).toNat)).flatMap (iC .u32))] <| .ret ?_
   obtain rfl := oi hr
   exact FinQ.ret (vs := [.agg [aB (decide (n_5 > 0)), .hs 2 0 ((l.drop (0 : Int).toNat).take (n_5.toNat - (0 : Int).toNat)).length 1]]) (by kernel_rfl) (Sn.agg (SnL.cons (Sn.pure rfl) (SnL.cons (Sn.hs rfl (.inl rfl) (SnC.pure (ids_flat (iC_pure _) _)) (fun h => flat_nil0 h)) SnL.nil)))
  ·replace hr := cd_f hb13 hr
   obtain ⟨hg17, hg18, hg19, hr⟩ := gd3 hr
   refine .r0 fine <| .p0 (v := aB false) (eB hb13) <| .mu 7 <| .p0 (v := sU32 ((l.drop (0 : Int).toNat).take (n_5.toNat - (0 : Int).toNat))) (Eq.trans (b := slO (inS 0 n_5 l.length) (0 : Int).toNat n_5.toNat (fun z1 z2 => .sl true (((l.flatMap (iC .u32)).drop (z1 * 1)).take ((z2 - z1) * 1)) (z2 - z1))) (by kernel_rfl) (slO_t hg17 (sub_sl (iC_len _) (inS_le hg17)))) <| .e0 (v := .hs 2 0 ((l.drop (0 : Int).toNat).take (n_5.toNat - (0 : Int).toNat)).length 1) (ws := [(1, .dead), (2, .own (((l.drop (0 : Int).toNat).take (n_5.toNat - (0 : Int).toNat)).flatMap (iC .u32)))]) (Eq.trans (b := appS (decide (((((l.drop (0 : Int).toNat).take (n_5.toNat - (0 : Int).toNat)).flatMap (iC .u32))).length = ((l.drop (0 : Int).toNat).take (n_5.toNat - (0 : Int).toNat)).length * 1)) (((l.drop (0 : Int).toNat).take (n_5.toNat - (0 : Int).toNat)).flatMap (iC .u32)) ((l.drop (0 : Int).toNat).take (n_5.toNat - (0 : Int).toNat)).length (fun z1 z2 => guardO (decide (0 + 0 * 1 ≤ (([] : List Int).flatMap (iC .u32)).length) && decide ((0 + z2) * 4 ≤ 140737488355328) && decide (0 + z2 ≤ 4611686018427387904)) (some (.eff (.hs 2 0 (0 + z2) 1) [(1, .dead), (2, .own (((([] : List Int).flatMap (iC .u32)).drop 0).take (0 * 1) ++ z1))])))) (by kernel_rfl) (appS_t (flat_lenB (iC_len _)) rfl (app_own (l := ([] : List Int)) (xs := (l.drop (0 : Int).toNat).take (n_5.toNat - (0 : Int).toNat)) (iC_len _) rfl rfl rfl hg18 hg19))) <| .mu 2 <| .done <| .nh [4] [.own [aB false, .hs 2 0 ((l.drop (0 : Int).toNat).take (n_5.toNat - (0 : Int).toNat)).length 1], .dead, .own (((l.drop (0 : Int).toNat).take (n_5.toNat - (0 : Int).toNat)).flatMap (iC .u32))] <| .ret ?_
   obtain rfl := oi hr
   exact FinQ.ret (vs := [.agg [aB false, .hs 2 0 ((l.drop (0 : Int).toNat).take (n_5.toNat - (0 : Int).toNat)).length 1]]) (by kernel_rfl) (Sn.agg (SnL.cons (Sn.pure rfl) (SnL.cons (Sn.hs rfl (.inl rfl) (SnC.pure (ids_flat (iC_pure _) _)) (fun h => flat_nil0 h)) SnL.nil)))

theorem fiducialref01_Of_ok (n : Nat) (n' : Int) (r : api_Int) (hr : fiducialref01_Of n n' = some r) : FnOk Tryz.prog 142 [aI64 n'] (.agg (api_Int.c r)) := by
 unfold fiducialref01_Of at hr
 refine FnOk.bd fine Tryz.func142 [.cell 2 72] ?_
 unfold Tryz.f142
 simp only [Option.getD_some]
 refine .seq <| .r5 fine [0] [(2, .hp 0 0)] [.own [aB false, nS]] <| .seq <| .r4 fine [0, 2] [(3, aU64 (wrapF .u64 n'))] <| .seq <| .seq <| .r4 fine [0, 2, 3] [(8, aB (decide (n' < 0)))] ?_
 refine .cd hr (fun hb1 hr => ?_) (fun hb1 hr => ?_)
 ·refine .r0 fine <| .mu 2 <| .p0 (v := aI64 (wrapF .i64 (0 - (wrapF .i64 (n' + 1))))) (Eq.trans (b := some (.pure (aI64 (IntKind.wrap .i64 (0 - (wrapF .i64 (n' + 1))))))) (by kernel_rfl) wrap_at) <| .mu 3 <| .done <| .nh [0, 2, 3] [.own [aB false, nS]] <| .seq <| .r5 fine [0, 2, 3] [(4, .hs 1 0 0 1)] [.own [aB false, nS], .own []] <| .seq <| .block ?_
  replace hr := bd hr; obtain ⟨l_7, hL13, hr⟩ := hr
  refine .loopO (σ := fun z0 => match z0 with | (u_2, l_3) => ⟨mkS 29 0 [(0, aI64 n'), (2, .hp 0 0), (3, aU64 u_2), (4, .hs 1 0 l_3.length 1)], [.own [aB false, nS], .own (l_3.flatMap (iC .u32))]⟩) (Q := fun x st' => x = .exit 0 ∧ Wk 0 st' ⟨mkS 29 0 [(0, aI64 n'), (2, .hp 0 0), (4, .hs 1 0 l_7.length 1)], [.own [aB false, nS], .own (l_7.flatMap (iC .u32))]⟩) hL13 ((Wk.gc [0, 2, 3, 4] [(0, true), (1, false)] rfl (pKt (pKc trivial))).to (by kernel_rfl)) ?_ ?_
  ·clear hr
   rintro m ⟨u_2, l_3⟩ hr
   show CQ _ _ _ _ _ ⟨_, _⟩
   refine .seq <| .seq <| .r4 fine [0, 2, 3, 4] [(16, aB (decide (u_2 > 0)))] ?_
   refine .cd hr (fun hb9 hr => ?_) (fun hb9 hr => ?_)
   ·refine .skip <| .block <| .seq ?_
    obtain ⟨hg10, hg11, hr⟩ := gd2 hr
    refine .r0 fine <| .mu 5 <| .e0 (v := .hs 3 0 (l_3 ++ [wrapF .u32 (u_2.tmod 1000000000)]).length 1) (ws := [(1, .dead), (3, .own ((l_3 ++ [wrapF .u32 (u_2.tmod 1000000000)]).flatMap (iC .u32)))]) (tr (app_own (new := [aU32 (wrapF .u32 (u_2.tmod 1000000000))]) (l := l_3) (xs := [wrapF .u32 (u_2.tmod 1000000000)]) (iC_len .u32) rfl rfl (by kernel_rfl) hg10 hg11)) <| .mu 1 <| .done <| .nh [0, 2, 3, 4] [.own [aB false, nS], .dead, .own [aU32 (wrapF .u32 (u_2.tmod 1000000000))], .own ((l_3 ++ [wrapF .u32 (u_2.tmod 1000000000)]).flatMap (iC .u32))] <| .ru fine <| .pop ?_
    exact loopF_back (wrapF .u64 (u_2.tdiv 1000000000), l_3 ++ [wrapF .u32 (u_2.tmod 1000000000)]) hr ((Wk.gc [0, 2, 3, 4] [(0, true), (3, false)] rfl (pKt (pKo (iC .u32) (iC_pure _) (l_3 ++ [wrapF .u32 (u_2.tmod 1000000000)]) trivial))).to (by kernel_rfl))
   ·refine .leave rfl ?_
    obtain rfl := oi hr
    exact ⟨rfl, ((Wk.gc [0, 2, 4] [(0, true), (1, false)] rfl (pKt (pKo (iC .u32) (iC_pure _) l_3 trivial))).to (by kernel_rfl))⟩
  ·rintro x st' hq14
   clear hL13
   obtain ⟨rfl, hq14⟩ := hq14
   refine CQ_exit _ rfl <| .wk hq14 <| .seq ?_
   obtain ⟨v15, hc16, hr⟩ := bd hr
   refine .g1 fine (callOk_ref (args := [aB true, .hs 1 0 l_7.length 1]) (l := [1]) (SnL.cons (Sn.pure rfl) (SnL.cons (Sn.hs rfl (.inl rfl) (SnC.pure (ids_flat (iC_pure _) _)) (fun h => flat_nil0 h)) SnL.nil)) (fiducialref01_made_ok n true l_7 v15 hc16)) <| .mu 1 <| .p0 (v := aB true) (eB hb1) <| .mu 1 <| .ca cf0 <| .mu 1 <| .done <| .nh [2] [.own (api_Int.c v15), .fix (l_7.flatMap (iC .u32))] <| .ret ?_
   obtain rfl := oi hr
   exact FinQ.r1 [.agg (api_Int.c v15)]
 ·refine .skip <| .seq <| .r5 fine [0, 2, 3] [(4, .hs 1 0 0 1)] [.own [aB false, nS], .own []] <| .seq <| .block ?_
  replace hr := bd hr; obtain ⟨l_22, hL28, hr⟩ := hr
  refine .loopO (σ := fun z0 => match z0 with | (u_17, l_18) => ⟨mkS 29 0 [(0, aI64 n'), (2, .hp 0 0), (3, aU64 u_17), (4, .hs 1 0 l_18.length 1)], [.own [aB false, nS], .own (l_18.flatMap (iC .u32))]⟩) (Q := fun x st' => x = .exit 0 ∧ Wk 0 st' ⟨mkS 29 0 [(0, aI64 n'), (2, .hp 0 0), (4, .hs 1 0 l_22.length 1)], [.own [aB false, nS], .own (l_22.flatMap (iC .u32))]⟩) hL28 ((Wk.gc [0, 2, 3, 4] [(0, true), (1, false)] rfl (pKt (pKc trivial))).to (by kernel_rfl)) ?_ ?_
  ·clear hr
   rintro m ⟨u_17, l_18⟩ hr
   show CQ _ _ _ _ _ ⟨_, _⟩
   refine .seq <| .seq <| .r4 fine [0, 2, 3, 4] [(16, aB (decide (u_17 > 0)))] ?_
   refine .cd hr (fun hb24 hr => ?_) (fun hb24 hr => ?_)
   ·refine .skip <| .block <| .seq ?_
    obtain ⟨hg25, hg26, hr⟩ := gd2 hr
    refine .r0 fine <| .mu 5 <| .e0 (v := .hs 3 0 (l_18 ++ [wrapF .u32 (u_17.tmod 1000000000)]).length 1) (ws := [(1, .dead), (3, .own ((l_18 ++ [wrapF .u32 (u_17.tmod 1000000000)]).flatMap (iC .u32)))]) (tr (app_own (new := [aU32 (wrapF .u32 (u_17.tmod 1000000000))]) (l := l_18) (xs := [wrapF .u32 (u_17.tmod 1000000000)]) (iC_len .u32) rfl rfl (by kernel_rfl) hg25 hg26)) <| .mu 1 <| .done <| .nh [0, 2, 3, 4] [.own [aB false, nS], .dead, .own [aU32 (wrapF .u32 (u_17.tmod 1000000000))], .own ((l_18 ++ [wrapF .u32 (u_17.tmod 1000000000)]).flatMap (iC .u32))] <| .ru fine <| .pop ?_
    exact loopF_back (wrapF .u64 (u_17.tdiv 1000000000), l_18 ++ [wrapF .u32 (u_17.tmod 1000000000)]) hr ((Wk.gc [0, 2, 3, 4] [(0, true), (3, false)] rfl (pKt (pKo (iC .u32) (iC_pure _) (l_18 ++ [wrapF .u32 (u_17.tmod 1000000000)]) trivial))).to (by kernel_rfl))
   ·refine .leave rfl ?_
    obtain rfl := oi hr
    exact ⟨rfl, ((Wk.gc [0, 2, 4] [(0, true), (1, false)] rfl (pKt (pKo (iC .u32) (iC_pure _) l_18 trivial))).to (by kernel_rfl))⟩
  ·rintro x st' hq29
   clear hL28
   obtain ⟨rfl, hq29⟩ := hq29
   refine CQ_exit _ rfl <| .wk hq29 <| .seq ?_
   obtain ⟨v30, hc31, hr⟩ := bd hr
   refine .g1 fine (callOk_ref (args := [aB false, .hs 1 0 l_22.length 1]) (l := [1]) (SnL.cons (Sn.pure rfl) (SnL.cons (Sn.hs rfl (.inl rfl) (SnC.pure (ids_flat (iC_pure _) _)) (fun h => flat_nil0 h)) SnL.nil)) (fiducialref01_made_ok n false l_22 v30 hc31)) <| .mu 1 <| .p0 (v := aB false) (eB hb1) <| .mu 1 <| .ca cf0 <| .mu 1 <| .done <| .nh [2] [.own (api_Int.c v30), .fix (l_22.flatMap (iC .u32))] <| .ret ?_
   obtain rfl := oi hr
   exact FinQ.r1 [.agg (api_Int.c v30)]

theorem fiducialref02_whole_inj {n' : Int} {n'_ : Int} (h : ([.at (.int .i64 n')] : List AV) = [.at (.int .i64 n'_)]) : n' = n'_ := by
 simp only [List.cons.injEq, AV.agg.injEq, AV.at.injEq, Value.int.injEq, Value.bool.injEq, AV.fn.injEq, AV.pp.injEq, true_and, and_true] at h
 simp_all
theorem fiducialref02_whole_cg (n : Nat) {n' : Int} {n'_ : Int} (h : ([.at (.int .i64 n')] : List AV) = [.at (.int .i64 n'_)]) : fiducialref02_whole n n' = fiducialref02_whole n n'_ := by
 obtain rfl := fiducialref02_whole_inj h
 rfl
theorem fiducialref02_whole_ok (n : Nat) (n' : Int) (r : api_Int) (hr : fiducialref02_whole n n' = some r) : FnOk Tryz.prog 100 [aI64 n'] (.agg (api_Int.c r)) := by
 unfold fiducialref02_whole at hr
 refine FnOk.bd fine Tryz.func100 [.cell 2 72] ?_
 unfold Tryz.f100
 simp only [Option.getD_some]
 refine .seq <| .r5 fine [0] [(2, .hp 0 0)] [.own [aB false, nS]] <| .seq ?_
 obtain ⟨v1, hc2, hr⟩ := bd hr
 refine .g1 fine (ok0 (fiducialref01_Of_ok n n' v1 hc2)) <| .mu 1 <| .ca cf0 <| .mu 1 <| .done <| .nh [2] [.own (api_Int.c v1)] <| .ret ?_
 obtain rfl := oi hr
 exact FinQ.r1 [.agg (api_Int.c v1)]

theorem fiducialref02_Whole_ok (n : Nat) (n' : Int) (r : api_Rat) (hr : fiducialref02_Whole n n' = some r) : FnOk Tryz.prog 54 [aI64 n'] (.agg (api_Rat.c r)) := by
 unfold fiducialref02_Whole at hr
 refine FnOk.bd fine Tryz.func54 [.cell 2 74] ?_
 unfold Tryz.f54
 simp only [Option.getD_some]
 refine .seq <| .r5 fine [0] [(2, .hp 0 0)] [.own [aB false, nS, aB false, nS]] <| .seq ?_
 obtain ⟨v1, hc2, v3, hc4, hr⟩ := bd2 hr
 refine .gn fine (ca1 (ok0 (fiducialref02_whole_ok n n' v1 hc2)) (ca3 (ok0 (fiducialref02_whole_ok n 1 v3 hc4)))) <| .mu 1 <| .ca cf0 <| .ca (cfA (fun h => by rw [sv hc4 hc2 (fiducialref02_whole_cg n h)]) cf0) <| .mu 2 <| .done <| .nh [2] [.own [aB v1.Negative, sU32 v1.Groups, aB v3.Negative, sU32 v3.Groups]] <| .ret ?_
 obtain rfl := oi hr
 exact FinQ.r1 [.agg [aB v1.Negative, sU32 v1.Groups, aB v3.Negative, sU32 v3.Groups]]

theorem fiducialref01_Valid_inj {x' : api_Int} {x'_ : api_Int} (h : ([.agg [.at (.bool x'.Negative), slT (iC .u32) x'.Groups]] : List AV) = [.agg [.at (.bool x'_.Negative), slT (iC .u32) x'_.Groups]]) : x' = x'_ := by
 obtain ⟨_, _⟩ := x'
 obtain ⟨_, _⟩ := x'_
 simp only [List.cons.injEq, AV.agg.injEq, AV.at.injEq, Value.int.injEq, Value.bool.injEq, AV.fn.injEq, AV.pp.injEq, true_and, and_true, slT_inj_int] at h
 simp_all
theorem fiducialref01_Valid_cg (n : Nat) {x' : api_Int} {x'_ : api_Int} (h : ([.agg [.at (.bool x'.Negative), slT (iC .u32) x'.Groups]] : List AV) = [.agg [.at (.bool x'_.Negative), slT (iC .u32) x'_.Groups]]) : fiducialref01_Valid n x' = fiducialref01_Valid n x'_ := by
 obtain rfl := fiducialref01_Valid_inj h
 rfl
theorem fiducialref01_Valid_ok (n : Nat) (x' : api_Int) (r : Bool) (hr : fiducialref01_Valid n x' = some r) : FnOk Tryz.prog 136 [.agg (api_Int.c x')] (aB r) := by
 unfold fiducialref01_Valid at hr
 refine FnOk.bd fine Tryz.func136 [.tmp 2] ?_
 unfold Tryz.f136
 simp only [Option.getD_some]
 refine .seq <| .r2 fine 31 [(1, .hp 0 0)] [.own (api_Int.c x')] <| .seq <| .r4 fine [1] [(3, aI64 (x'.Groups.length : Int))] <| .seq <| .seq <| .r4 fine [1, 3] [(4, aI64 0)] <| .block ?_
 replace hr := bd hr; obtain ⟨o9, hL10, hr⟩ := hr
 refine .loopO (σ := fun z0 => match z0 with | i_1 => ⟨mkS 31 0 [(1, .hp 0 0), (3, aI64 (x'.Groups.length : Int)), (4, aI64 i_1)], [.own (api_Int.c x')]⟩) (Q := fun x st' => match (generalizing := false) o9 with | .inl _ => x = .exit 0 ∧ Wk 0 st' ⟨mkS 31 0 [(1, .hp 0 0), (3, aI64 (x'.Groups.length : Int))], [.own (api_Int.c x')]⟩ | .inr (r0) => x = .ret ∧ FinQ Tryz.prog [.tmp 2] (aB r0) .ret st') hL10 ((Wk.gc [1, 3, 4] [(0, true)] rfl trivial).to (by kernel_rfl)) ?_ ?_
 ·clear hr
  rintro m i_1 hr
  show CQ _ _ _ _ _ ⟨_, _⟩
  refine .seq <| .seq <| .r4 fine [1, 3, 4] [(10, aB (decide (i_1 < (x'.Groups.length : Int))))] ?_
  refine .cd hr (fun hb6 hr => ?_) (fun hb6 hr => ?_)
  ·refine .skip <| .seq <| .block <| .seq ?_
   obtain ⟨hg7, hr⟩ := gd hr
   refine .r0 fine <| .mu 3 <| .p0 (v := .pp (x'.Groups.flatMap (iC .u32)) (i_1.toNat * 1)) (tr (ofP_guard hg7)) <| .p0 (v := aU32 (gt x'.Groups i_1)) (tr (ofP_some (flat_get (iC_len .u32) (inR_lt hg7) (by decide : 0 < 1) (by omega : i_1.toNat * 1 = i_1.toNat * 1 + 0) (by kernel_rfl)))) <| .mu 1 <| .done <| .nh [1, 3, 4, 18] [.own (api_Int.c x')] ?_
   refine .cd hr (fun hb8 hr => ?_) (fun hb8 hr => ?_)
   ·refine .seq <| .ru fine <| .ret ?_
    obtain rfl := oi hr
    exact ⟨rfl, FinQ.ret (vs := [aB false]) (by kernel_rfl) (Sn.pure rfl)⟩
   ·refine .skip <| .pop <| .ru fine ?_
    exact loopF_back (wrapF .i64 (i_1 + 1)) hr ((Wk.gc [1, 3, 4] [(0, true)] rfl trivial).to (by kernel_rfl))
  ·refine .leave rfl ?_
   obtain rfl := oi hr
   exact ⟨rfl, ((Wk.gc [1, 3] [(0, true)] rfl trivial).to (by kernel_rfl))⟩
 ·rcases o9 with ⟨⟩ | r0
  ·rintro x st' hq11
   clear hL10
   obtain ⟨rfl, hq11⟩ := hq11
   refine CQ_exit _ rfl <| .wk hq11 <| .seq <| .seq <| .r4 fine [1, 3] [(20, aB (((x'.Groups.length : Int) : Int) == 0))] ?_
   refine .cd hr (fun hb12 hr => ?_) (fun hb12 hr => ?_)
   ·refine .seq <| .ru fine <| .ret ?_
    obtain rfl := oi hr
    exact FinQ.r1 [aB (!x'.Negative)]
   ·refine .skip <| .seq ?_
    obtain ⟨hg13, hr⟩ := gd hr
    refine .r0 fine <| .mu 4 <| .p0 (v := .pp (x'.Groups.flatMap (iC .u32)) ((wrapF .i64 ((x'.Groups.length : Int) - 1)).toNat * 1)) (tr (ofP_guard hg13)) <| .p0 (v := aU32 (gt x'.Groups (wrapF .i64 ((x'.Groups.length : Int) - 1)))) (tr (ofP_some (flat_get (iC_len .u32) (inR_lt hg13) (by decide : 0 < 1) (by omega : (wrapF .i64 ((x'.Groups.length : Int) - 1)).toNat * 1 = (wrapF .i64 ((x'.Groups.length : Int) - 1)).toNat * 1 + 0) (by kernel_rfl)))) <| .mu 2 <| .done <| .ret ?_
    obtain rfl := oi hr
    exact FinQ.r1 [aB (((gt x'.Groups (wrapF .i64 ((x'.Groups.length : Int) - 1))) : Int) != 0)]
  ·rintro x st' hq11
   clear hL10
   obtain ⟨rfl, hq11⟩ := hq11
   obtain rfl := oi hr
   exact CQ_ret _ hq11

theorem fiducialref01_Value_inj {x' : api_Int} {x'_ : api_Int} (h : ([.agg [.at (.bool x'.Negative), slT (iC .u32) x'.Groups]] : List AV) = [.agg [.at (.bool x'_.Negative), slT (iC .u32) x'_.Groups]]) : x' = x'_ := by
 obtain ⟨_, _⟩ := x'
 obtain ⟨_, _⟩ := x'_
 simp only [List.cons.injEq, AV.agg.injEq, AV.at.injEq, Value.int.injEq, Value.bool.injEq, AV.fn.injEq, AV.pp.injEq, true_and, and_true, slT_inj_int] at h
 simp_all
theorem fiducialref01_Value_cg (n : Nat) {x' : api_Int} {x'_ : api_Int} (h : ([.agg [.at (.bool x'.Negative), slT (iC .u32) x'.Groups]] : List AV) = [.agg [.at (.bool x'_.Negative), slT (iC .u32) x'_.Groups]]) : fiducialref01_Value n x' = fiducialref01_Value n x'_ := by
 obtain rfl := fiducialref01_Value_inj h
 rfl
theorem fiducialref01_Value_ok (n : Nat) (x' : api_Int) (r : api_Int) (hr : fiducialref01_Value n x' = some r) : FnOk Tryz.prog 187 [.agg (api_Int.c x')] (.agg (api_Int.c r)) := by
 unfold fiducialref01_Value at hr
 refine FnOk.bd fine Tryz.func187 [.cell 2 72] ?_
 unfold Tryz.f187
 simp only [Option.getD_some]
 refine .seq <| .r2 fine 14 [(1, .hp 0 0), (2, .hp 1 0)] [.own (api_Int.c x'), .own [aB false, nS]] <| .seq <| .seq ?_
 obtain ⟨v1, hc2, hr⟩ := bd hr
 refine .g1 fine (ok0 (fiducialref01_Valid_ok n x' v1 hc2)) <| .mu 1 <| .ca cf0 <| .mu 1 <| .done <| .nh [1, 2, 5] [.own (api_Int.c x'), .own [aB false, nS]] ?_
 refine .cd hr (fun hb3 hr => ?_) (fun hb3 hr => ?_)
 ·refine .seq <| .r4 fine [2] [] <| .ret ?_
  obtain rfl := oi hr
  exact FinQ.ret (vs := [.agg [aB false, nS]]) (by kernel_rfl) (Sn.agg (SnL.cons (Sn.pure rfl) (SnL.cons Sn.nilsl SnL.nil)))
 ·refine .skip <| .seq ?_
  obtain ⟨hg4, hg5, hr⟩ := gd2 hr
  refine .regionT fine callOf_nil <| .mu 5 <| .eff (v := .hs 3 0 x'.Groups.length 1) (ws := [(2, .dead), (3, .own (x'.Groups.flatMap (iC .u32)))]) (by kernel_rfl) (Eq.trans (b := appS (decide (((x'.Groups.flatMap (iC .u32))).length = x'.Groups.length * 1)) (x'.Groups.flatMap (iC .u32)) x'.Groups.length (fun z1 z2 => guardO (decide (0 + 0 * 1 ≤ (([] : List Int).flatMap (iC .u32)).length) && decide ((0 + z2) * 4 ≤ 140737488355328) && decide (0 + z2 ≤ 4611686018427387904)) (some (.eff (.hs 3 0 (0 + z2) 1) [(2, .dead), (3, .own (((([] : List Int).flatMap (iC .u32)).drop 0).take (0 * 1) ++ z1))])))) (by kernel_rfl) (appS_t (flat_lenB (iC_len _)) rfl (app_own (l := ([] : List Int)) (xs := x'.Groups) (iC_len _) rfl rfl rfl hg4 hg5))) (by kernel_rfl) <| .mu 2 ?_
  refine .done ⟨by kernel_rfl, ?_⟩
  refine .nh [2] [.own (api_Int.c x'), .own [aB x'.Negative, .hs 3 0 x'.Groups.length 1], .dead, .own (x'.Groups.flatMap (iC .u32))] <| .ret ?_
  obtain rfl := oi hr
  exact FinQ.ret (vs := [.agg [aB x'.Negative, .hs 3 0 x'.Groups.length 1]]) (by kernel_rfl) (Sn.agg (SnL.cons (Sn.pure rfl) (SnL.cons (Sn.hs rfl (.inl rfl) (SnC.pure (ids_flat (iC_pure _) _)) (fun h => flat_nil0 h)) SnL.nil)))

theorem fiducialref01_Sign_ok (n : Nat) (x' : api_Int) (r : Int) (hr : fiducialref01_Sign n x' = some r) : FnOk Tryz.prog 137 [.agg (api_Int.c x')] (aI64 r) := by
 unfold fiducialref01_Sign at hr
 refine FnOk.bd fine Tryz.func137 [.tmp 2] ?_
 unfold Tryz.f137
 simp only [Option.getD_some]
 refine .seq <| .r2 fine 11 [(1, .hp 0 0)] [.own (api_Int.c x')] <| .seq ?_
 obtain ⟨v1, hc2, hr⟩ := bd hr
 refine .g1 fine (ok0 (fiducialref01_Value_ok n x' v1 hc2)) <| .mu 1 <| .ca cf0 <| .mu 1 <| .done <| .nh [1] [.own (api_Int.c v1)] <| .seq <| .seq <| .r4 fine [1] [(8, aB (((v1.Groups.length : Int) : Int) == 0))] ?_
 refine .cd hr (fun hb3 hr => ?_) (fun hb3 hr => ?_)
 ·refine .seq <| .ru fine <| .ret ?_
  obtain rfl := oi hr
  exact FinQ.r1 [aI64 0]
 ·refine .skip <| .seq <| .seq <| .r3 fine 11 [(10, aB v1.Negative)] ?_
  refine .cd hr (fun hb4 hr => ?_) (fun hb4 hr => ?_)
  ·refine .seq <| .ru fine <| .ret ?_
   obtain rfl := oi hr
   exact FinQ.r1 [aI64 (-1)]
  ·refine .skip <| .seq <| .ru fine <| .ret ?_
   obtain rfl := oi hr
   exact FinQ.r1 [aI64 1]

theorem fiducialref01_short_ok (n : Nat) (a : List Int) (d : Int) (r : List Int × Int) (hr : fiducialref01_short n a d = some r) : FnOk Tryz.prog 216 [sU32 a, aU64 d] (.tup [sU32 r.1, aU64 r.2]) := by
 unfold fiducialref01_short at hr
 refine FnOk.bd fine Tryz.func216 [.tmp 4, .tmp 5] ?_
 unfold Tryz.f216
 simp only [Option.getD_some]
 refine .seq <| .r4 fine [0, 1] [] <| .seq ?_
 obtain ⟨hg1, hg2, hg3, hr⟩ := gd3 hr
 refine .r0 fine <| .mu 2 <| .e0 (v := .hs 0 0 (List.replicate (a.length : Int).toNat ((0 : Int) : Int)).length 1) (ws := [(0, .own ((List.replicate (a.length : Int).toNat ((0 : Int) : Int)).flatMap (iC .u32)))]) (tr (make_own (c := (iC .u32)) (z := (0 : Int)) (n := (a.length : Int)) (by_ := 4) rfl hg1 hg2 hg3)) <| .mu 1 <| .done <| .nh [0, 1, 6] [.own ((List.replicate (a.length : Int).toNat ((0 : Int) : Int)).flatMap (iC .u32))] <| .seq <| .r4 fine [0, 1, 6] [(7, aU64 0)] <| .seq <| .seq <| .r4 fine [0, 1, 6, 7] [(8, aI64 (wrapF .i64 ((a.length : Int) - 1)))] <| .block ?_
 replace hr := bd hr; obtain ⟨o18, hL19, hr⟩ := hr
 refine .loopO (σ := fun z0 => match z0 with | (q_4, rest_5, i_6) => ⟨mkS 42 0 [(0, sU32 a), (1, aU64 d), (6, .hs 0 0 q_4.length 1), (7, aU64 rest_5), (8, aI64 i_6)], [.own (q_4.flatMap (iC .u32))]⟩) (Q := fun x st' => match (generalizing := false) o18 with | (q_11, rest_12) => x = .exit 0 ∧ Wk 0 st' ⟨mkS 42 0 [(6, .hs 0 0 q_11.length 1), (7, aU64 rest_12)], [.own (q_11.flatMap (iC .u32))]⟩) hL19 ((Wk.gc [0, 1, 6, 7, 8] [(0, false)] rfl (pKo (iC .u32) (iC_pure _) (List.replicate (a.length : Int).toNat ((0 : Int) : Int)) trivial)).to (by kernel_rfl)) ?_ ?_
 ·clear hr
  rintro m ⟨q_4, rest_5, i_6⟩ hr
  show CQ _ _ _ _ _ ⟨_, _⟩
  refine .seq <| .seq <| .r4 fine [0, 1, 6, 7, 8] [(17, aB (decide (i_6 ≥ 0)))] ?_
  refine .cd hr (fun hb14 hr => ?_) (fun hb14 hr => ?_)
  ·refine .skip <| .seq <| .block <| .seq ?_
   obtain ⟨hg15, hr⟩ := gd hr
   refine .r0 fine <| .mu 4 <| .p0 (v := .pp (a.flatMap (iC .u32)) (i_6.toNat * 1)) (tr (ofP_guard hg15)) <| .p0 (v := aU32 (gt a i_6)) (tr (ofP_some (flat_get (iC_len .u32) (inR_lt hg15) (by decide : 0 < 1) (by omega : i_6.toNat * 1 = i_6.toNat * 1 + 0) (by kernel_rfl)))) <| .mu 3 <| .done <| .nh [0, 1, 6, 8, 9] [.own (q_4.flatMap (iC .u32))] <| .seq ?_
   obtain ⟨hg16, hg17, hr⟩ := gd2 hr
   refine .r0 fine <| .mu 4 <| .p0 (v := aU64 (wrapF .u64 ((wrapF .u64 ((wrapF .u64 (rest_5 * 1000000000)) + (wrapF .u64 (gt a i_6)))).tdiv d))) (op_quo (x := wrapF .u64 ((wrapF .u64 (rest_5 * 1000000000)) + (wrapF .u64 (gt a i_6)))) (y := d) (by kernel_rfl) (by kernel_rfl) hg16) <| .mu 1 <| .p0 (v := .hp 0 (0 + i_6.toNat * 1)) (tr (ofP_guard hg17)) <| .e0 (v := .unk) (ws := [(0, .own ((q_4.set i_6.toNat (wrapF .u32 (wrapF .u64 ((wrapF .u64 ((wrapF .u64 (rest_5 * 1000000000)) + (wrapF .u64 (gt a i_6)))).tdiv d)))).flatMap (iC .u32)))]) (tr (stO_t (and_t (flat_fits (n := 1) (iC_len .u32) (inR_lt hg17) (Nat.le_of_ble_eq_true rfl) (by omega : 0 + i_6.toNat * 1 = i_6.toNat * 1 + 0))) (congrArg Blk.own (flat_set (xs := [aU32 (wrapF .u32 (wrapF .u64 ((wrapF .u64 ((wrapF .u64 (rest_5 * 1000000000)) + (wrapF .u64 (gt a i_6)))).tdiv d)))]) (iC_len .u32) (inR_lt hg17) (Nat.le_of_ble_eq_true rfl) (by omega : 0 + i_6.toNat * 1 = i_6.toNat * 1 + 0) (by kernel_rfl))))) <| .done <| .nh [0, 1, 6, 8, 9] [.own ((q_4.set i_6.toNat (wrapF .u32 (wrapF .u64 ((wrapF .u64 ((wrapF .u64 (rest_5 * 1000000000)) + (wrapF .u64 (gt a i_6)))).tdiv d)))).flatMap (iC .u32))] <| .r0 fine <| .mu 2 <| .p0 (v := aU64 ((wrapF .u64 ((wrapF .u64 (rest_5 * 1000000000)) + (wrapF .u64 (gt a i_6)))).tmod d)) (op_rem (x := wrapF .u64 ((wrapF .u64 (rest_5 * 1000000000)) + (wrapF .u64 (gt a i_6)))) (y := d) (by kernel_rfl) (by kernel_rfl) hg16) <| .mu 1 <| .done <| .pop <| .ru fine ?_
   exact loopF_back (q_4.set i_6.toNat (wrapF .u32 (wrapF .u64 ((wrapF .u64 ((wrapF .u64 (rest_5 * 1000000000)) + (wrapF .u64 (gt a i_6)))).tdiv d))), (wrapF .u64 ((wrapF .u64 (rest_5 * 1000000000)) + (wrapF .u64 (gt a i_6)))).tmod d, wrapF .i64 (i_6 - 1)) hr ((Wk.relen 6 (b := 0) (es := 1) (len := q_4.length) (q_4.set i_6.toNat (wrapF .u32 (wrapF .u64 ((wrapF .u64 ((wrapF .u64 (rest_5 * 1000000000)) + (wrapF .u64 (gt a i_6)))).tdiv d)))).length (by kernel_rfl) (Eq.symm (List.length_set.trans rfl))).trans ((Wk.gc [0, 1, 6, 7, 8] [(0, false)] rfl (pKo (iC .u32) (iC_pure _) (q_4.set i_6.toNat (wrapF .u32 (wrapF .u64 ((wrapF .u64 ((wrapF .u64 (rest_5 * 1000000000)) + (wrapF .u64 (gt a i_6)))).tdiv d)))) trivial)).to (by kernel_rfl)))
  ·refine .leave rfl ?_
   obtain rfl := oi hr
   exact ⟨rfl, ((Wk.gc [6, 7] [(0, false)] rfl (pKo (iC .u32) (iC_pure _) q_4 trivial)).to (by kernel_rfl))⟩
 ·rcases o18 with ⟨q_11, rest_12⟩
  rintro x st' hq20
  clear hL19
  obtain ⟨rfl, hq20⟩ := hq20
  refine CQ_exit _ rfl <| .wk hq20 <| .seq ?_
  obtain ⟨v21, hc22, hr⟩ := bd hr
  refine .g1 fine (callOk_ref (args := [aB false, .hs 0 0 q_11.length 1]) (l := [0]) (SnL.cons (Sn.pure rfl) (SnL.cons (Sn.hs rfl (.inl rfl) (SnC.pure (ids_flat (iC_pure _) _)) (fun h => flat_nil0 h)) SnL.nil)) (fiducialref01_made_ok n false q_11 v21 hc22)) <| .mu 1 <| .ca cf0 <| .mu 4 <| .done <| .ret ?_
  obtain rfl := oi hr
  exact FinQ.ret (vs := [sU32 v21.Groups, aU64 rest_12]) (by kernel_rfl) (Sn.tup (SnL.cons (Sn.pure rfl) (SnL.cons (Sn.pure rfl) SnL.nil)))

theorem fiducialref01_size_ok (n : Nat) (a : List Int) (b : List Int) (r : Int) (hr : fiducialref01_size n a b = some r) : FnOk Tryz.prog 217 [sU32 a, sU32 b] (aI64 r) := by
 unfold fiducialref01_size at hr
 refine FnOk.bd fine Tryz.func217 [.tmp 4] ?_
 unfold Tryz.f217
 simp only [Option.getD_some]
 refine .seq <| .r4 fine [0, 1] [] <| .seq <| .seq <| .r4 fine [0, 1] [(10, aB (((a.length : Int) : Int) != (b.length : Int)))] ?_
 refine .cd hr (fun hb1 hr => ?_) (fun hb1 hr => ?_)
 ·refine .seq <| .seq <| .r3 fine 41 [(15, aB (decide ((a.length : Int) < (b.length : Int))))] ?_
  refine .cd hr (fun hb2 hr => ?_) (fun hb2 hr => ?_)
  ·refine .seq <| .ru fine <| .ret ?_
   obtain rfl := oi hr
   exact FinQ.r1 [aI64 (-1)]
  ·refine .skip <| .seq <| .ru fine <| .ret ?_
   obtain rfl := oi hr
   exact FinQ.r1 [aI64 1]
 ·refine .skip <| .seq <| .seq <| .r4 fine [0, 1] [(5, aI64 (wrapF .i64 ((a.length : Int) - 1)))] <| .block ?_
  replace hr := bd hr; obtain ⟨o15, hL16, hr⟩ := hr
  refine .loopO (σ := fun z0 => match z0 with | i_3 => ⟨mkS 41 0 [(0, sU32 a), (1, sU32 b), (5, aI64 i_3)], []⟩) (Q := fun x st' => match (generalizing := false) o15 with | .inl _ => x = .exit 0 ∧ Wk 0 st' ⟨mkS 41 0 [], []⟩ | .inr (r0) => x = .ret ∧ FinQ Tryz.prog [.tmp 4] (aI64 r0) .ret st') hL16 ((Wk.gc [0, 1, 5] [] rfl pK0).to (by kernel_rfl)) ?_ ?_
  ·clear hr
   rintro m i_3 hr
   show CQ _ _ _ _ _ ⟨_, _⟩
   refine .seq <| .seq <| .r4 fine [0, 1, 5] [(20, aB (decide (i_3 ≥ 0)))] ?_
   refine .cd hr (fun hb10 hr => ?_) (fun hb10 hr => ?_)
   ·refine .skip <| .seq <| .block <| .seq <| .seq ?_
    obtain ⟨hg11, hg12, hr⟩ := gd2 hr
    refine .regionT fine callOf_nil <| .mu 2 <| .pure (v := .pp (a.flatMap (iC .u32)) (i_3.toNat * 1)) (by kernel_rfl) (tr (ofP_guard hg11)) (by kernel_rfl) <| .pure (v := aU32 (gt a i_3)) (by kernel_rfl) (tr (ofP_some (flat_get (iC_len .u32) (inR_lt hg11) (by decide : 0 < 1) (by omega : i_3.toNat * 1 = i_3.toNat * 1 + 0) (by kernel_rfl)))) (by kernel_rfl) <| .mu 2 <| .pure (v := .pp (b.flatMap (iC .u32)) (i_3.toNat * 1)) (by kernel_rfl) (tr (ofP_guard hg12)) (by kernel_rfl) <| .pure (v := aU32 (gt b i_3)) (by kernel_rfl) (tr (ofP_some (flat_get (iC_len .u32) (inR_lt hg12) (by decide : 0 < 1) (by omega : i_3.toNat * 1 = i_3.toNat * 1 + 0) (by kernel_rfl)))) (by kernel_rfl) <| .mu 1 ?_
    refine .done ⟨by kernel_rfl, ?_⟩
    refine .nh [0, 1, 5, 31] [] ?_
    refine .cd hr (fun hb13 hr => ?_) (fun hb13 hr => ?_)
    ·refine .seq <| .ru fine <| .ret ?_
     obtain rfl := oi hr
     exact ⟨rfl, FinQ.ret (vs := [aI64 (-1)]) (by kernel_rfl) (Sn.pure rfl)⟩
    ·refine .skip <| .seq <| .regionT fine callOf_nil <| .mu 2 <| .pure (v := .pp (a.flatMap (iC .u32)) (i_3.toNat * 1)) (by kernel_rfl) (tr (ofP_guard hg11)) (by kernel_rfl) <| .pure (v := aU32 (gt a i_3)) (by kernel_rfl) (tr (ofP_some (flat_get (iC_len .u32) (inR_lt hg11) (by decide : 0 < 1) (by omega : i_3.toNat * 1 = i_3.toNat * 1 + 0) (by kernel_rfl)))) (by kernel_rfl) <| .mu 2 <| .pure (v := .pp (b.flatMap (iC .u32)) (i_3.toNat * 1)) (by kernel_rfl) (tr (ofP_guard hg12)) (by kernel_rfl) <| .pure (v := aU32 (gt b i_3)) (by kernel_rfl) (tr (ofP_some (flat_get (iC_len .u32) (inR_lt hg12) (by decide : 0 < 1) (by omega : i_3.toNat * 1 = i_3.toNat * 1 + 0) (by kernel_rfl)))) (by kernel_rfl) <| .mu 1 ?_
     refine .done ⟨by kernel_rfl, ?_⟩
     refine .nh [0, 1, 5, 40] [] ?_
     refine .cd hr (fun hb14 hr => ?_) (fun hb14 hr => ?_)
     ·refine .seq <| .ru fine <| .ret ?_
      obtain rfl := oi hr
      exact ⟨rfl, FinQ.ret (vs := [aI64 1]) (by kernel_rfl) (Sn.pure rfl)⟩
     ·refine .skip <| .pop <| .ru fine ?_
      exact loopF_back (wrapF .i64 (i_3 - 1)) hr ((Wk.gc [0, 1, 5] [] rfl pK0).to (by kernel_rfl))
   ·refine .leave rfl ?_
    obtain rfl := oi hr
    exact ⟨rfl, ((Wk.gc [] [] rfl pK0).to (by kernel_rfl))⟩
  ·rcases o15 with ⟨⟩ | r0
   ·rintro x st' hq17
    clear hL16
    obtain ⟨rfl, hq17⟩ := hq17
    refine CQ_exit _ rfl <| .wk hq17 <| .seq <| .ru fine <| .ret ?_
    obtain rfl := oi hr
    exact FinQ.r1 [aI64 0]
   ·rintro x st' hq17
    clear hL16
    obtain ⟨rfl, hq17⟩ := hq17
    obtain rfl := oi hr
    exact CQ_ret _ hq17

theorem fiducialref01_scaled_inj {a : List Int} {d : Int} {a_ : List Int} {d_ : Int} (h : ([slT (iC .u32) a, .at (.int .u64 d)] : List AV) = [slT (iC .u32) a_, .at (.int .u64 d_)]) : a = a_ ∧ d = d_ := by
 simp only [List.cons.injEq, AV.agg.injEq, AV.at.injEq, Value.int.injEq, Value.bool.injEq, AV.fn.injEq, AV.pp.injEq, true_and, and_true, slT_inj_int] at h
 simp_all
theorem fiducialref01_scaled_cg (n : Nat) {a : List Int} {d : Int} {a_ : List Int} {d_ : Int} (h : ([slT (iC .u32) a, .at (.int .u64 d)] : List AV) = [slT (iC .u32) a_, .at (.int .u64 d_)]) : fiducialref01_scaled n a d = fiducialref01_scaled n a_ d_ := by
 obtain ⟨rfl, rfl⟩ := fiducialref01_scaled_inj h
 rfl
theorem fiducialref01_scaled_ok (n : Nat) (a : List Int) (d : Int) (r : List Int) (hr : fiducialref01_scaled n a d = some r) : FnOk Tryz.prog 218 [sU32 a, aU64 d] (sU32 r) := by
 unfold fiducialref01_scaled at hr
 refine FnOk.bd fine Tryz.func218 [.tmp 4] ?_
 unfold Tryz.f218
 simp only [Option.getD_some]
 refine .seq <| .r4 fine [0, 1] [] <| .seq <| .r5 fine [0, 1] [(5, .hs 0 0 0 1)] [.own []] <| .seq <| .r4 fine [0, 1, 5] [(6, aU64 0)] <| .seq <| .seq <| .r4 fine [0, 1, 5, 6] [(7, aI64 0)] <| .block ?_
 replace hr := bd hr; obtain ⟨o15, hL16, hr⟩ := hr
 refine .loopO (σ := fun z0 => match z0 with | (out_1, carry_2, i_3) => ⟨mkS 40 0 [(0, sU32 a), (1, aU64 d), (5, .hs 0 0 out_1.length 1), (6, aU64 carry_2), (7, aI64 i_3)], [.own (out_1.flatMap (iC .u32))]⟩) (Q := fun x st' => match (generalizing := false) o15 with | (out_8, carry_9) => x = .exit 0 ∧ Wk 0 st' ⟨mkS 40 0 [(5, .hs 0 0 out_8.length 1), (6, aU64 carry_9)], [.own (out_8.flatMap (iC .u32))]⟩) hL16 ((Wk.gc [0, 1, 5, 6, 7] [(0, false)] rfl (pKc trivial)).to (by kernel_rfl)) ?_ ?_
 ·clear hr
  rintro m ⟨out_1, carry_2, i_3⟩ hr
  show CQ _ _ _ _ _ ⟨_, _⟩
  refine .seq <| .seq <| .r4 fine [0, 1, 5, 6, 7] [(13, aB (decide (i_3 < (a.length : Int))))] ?_
  refine .cd hr (fun hb11 hr => ?_) (fun hb11 hr => ?_)
  ·refine .skip <| .seq <| .block <| .seq ?_
   obtain ⟨hg12, hr⟩ := gd hr
   refine .r0 fine <| .mu 2 <| .p0 (v := .pp (a.flatMap (iC .u32)) (i_3.toNat * 1)) (tr (ofP_guard hg12)) <| .p0 (v := aU32 (gt a i_3)) (tr (ofP_some (flat_get (iC_len .u32) (inR_lt hg12) (by decide : 0 < 1) (by omega : i_3.toNat * 1 = i_3.toNat * 1 + 0) (by kernel_rfl)))) <| .mu 6 <| .done <| .nh [0, 1, 5, 7, 8] [.own (out_1.flatMap (iC .u32))] <| .seq ?_
   obtain ⟨hg13, hg14, hr⟩ := gd2 hr
   refine .r0 fine <| .mu 5 <| .e0 (v := .hs 2 0 (out_1 ++ [wrapF .u32 ((wrapF .u64 ((wrapF .u64 ((wrapF .u64 (gt a i_3)) * d)) + carry_2)).tmod 1000000000)]).length 1) (ws := [(0, .dead), (2, .own ((out_1 ++ [wrapF .u32 ((wrapF .u64 ((wrapF .u64 ((wrapF .u64 (gt a i_3)) * d)) + carry_2)).tmod 1000000000)]).flatMap (iC .u32)))]) (tr (app_own (new := [aU32 (wrapF .u32 ((wrapF .u64 ((wrapF .u64 ((wrapF .u64 (gt a i_3)) * d)) + carry_2)).tmod 1000000000))]) (l := out_1) (xs := [wrapF .u32 ((wrapF .u64 ((wrapF .u64 ((wrapF .u64 (gt a i_3)) * d)) + carry_2)).tmod 1000000000)]) (iC_len .u32) rfl rfl (by kernel_rfl) hg13 hg14)) <| .mu 1 <| .done <| .nh [0, 1, 5, 7, 8] [.dead, .own [aU32 (wrapF .u32 ((wrapF .u64 ((wrapF .u64 ((wrapF .u64 (gt a i_3)) * d)) + carry_2)).tmod 1000000000))], .own ((out_1 ++ [wrapF .u32 ((wrapF .u64 ((wrapF .u64 ((wrapF .u64 (gt a i_3)) * d)) + carry_2)).tmod 1000000000)]).flatMap (iC .u32))] <| .ru fine <| .pop <| .ru fine ?_
   exact loopF_back (out_1 ++ [wrapF .u32 ((wrapF .u64 ((wrapF .u64 ((wrapF .u64 (gt a i_3)) * d)) + carry_2)).tmod 1000000000)], wrapF .u64 ((wrapF .u64 ((wrapF .u64 ((wrapF .u64 (gt a i_3)) * d)) + carry_2)).tdiv 1000000000), wrapF .i64 (i_3 + 1)) hr ((Wk.gc [0, 1, 5, 6, 7] [(2, false)] rfl (pKo (iC .u32) (iC_pure _) (out_1 ++ [wrapF .u32 ((wrapF .u64 ((wrapF .u64 ((wrapF .u64 (gt a i_3)) * d)) + carry_2)).tmod 1000000000)]) trivial)).to (by kernel_rfl))
  ·refine .leave rfl ?_
   obtain rfl := oi hr
   exact ⟨rfl, ((Wk.gc [5, 6] [(0, false)] rfl (pKo (iC .u32) (iC_pure _) out_1 trivial)).to (by kernel_rfl))⟩
 ·rcases o15 with ⟨out_8, carry_9⟩
  rintro x st' hq17
  clear hL16
  obtain ⟨rfl, hq17⟩ := hq17
  refine CQ_exit _ rfl <| .wk hq17 <| .seq ?_
  obtain ⟨hg18, hg19, hr⟩ := gd2 hr
  obtain ⟨v20, hc21, hr⟩ := bd hr
  refine .gn fine (ca4 [.dead, .own [aU32 (wrapF .u32 carry_9)], .own ((out_8 ++ [wrapF .u32 carry_9]).flatMap (iC .u32))] (callOk_ref (args := [aB false, .hs 2 0 (out_8 ++ [wrapF .u32 carry_9]).length 1]) (l := [2]) (SnL.cons (Sn.pure rfl) (SnL.cons (Sn.hs rfl (.inl rfl) (SnC.pure (ids_flat (iC_pure _) _)) (fun h => flat_nil0 h)) SnL.nil)) (fiducialref01_made_ok n false (out_8 ++ [wrapF .u32 carry_9]) v20 hc21))) <| .mu 4 <| .e0 (v := .hs 2 0 (out_8 ++ [wrapF .u32 carry_9]).length 1) (ws := [(0, .dead), (2, .own ((out_8 ++ [wrapF .u32 carry_9]).flatMap (iC .u32)))]) (tr (app_own (new := [aU32 (wrapF .u32 carry_9)]) (l := out_8) (xs := [wrapF .u32 carry_9]) (iC_len .u32) rfl rfl (by kernel_rfl) hg18 hg19)) <| .ca cf0 <| .mu 2 <| .done <| .ret ?_
  obtain rfl := oi hr
  exact FinQ.r1 [sU32 v20.Groups]

theorem fiducialref01_shifted_ok (n : Nat) (a : List Int) (d : Int) (r : List Int) (hr : fiducialref01_shifted n a d = some r) : FnOk Tryz.prog 219 [sU32 a, aU32 d] (sU32 r) := by
 unfold fiducialref01_shifted at hr
 refine FnOk.bd fine Tryz.func219 [.tmp 4] ?_
 unfold Tryz.f219
 simp only [Option.getD_some]
 refine .seq <| .r4 fine [0, 1] [] <| .seq ?_
 obtain ⟨hg1, hg2, hr⟩ := gd2 hr
 obtain ⟨v3, hc4, hr⟩ := bd hr
 refine .gn fine (ca4 [.dead, .own (([d] ++ a).flatMap (iC .u32))] (callOk_ref (args := [aB false, .hs 1 0 ([d] ++ a).length 1]) (l := [1]) (SnL.cons (Sn.pure rfl) (SnL.cons (Sn.hs rfl (.inl rfl) (SnC.pure (ids_flat (iC_pure _) _)) (fun h => flat_nil0 h)) SnL.nil)) (fiducialref01_made_ok n false ([d] ++ a) v3 hc4))) <| .mu 3 <| .e0 (v := .hs 1 0 ([d] ++ a).length 1) (ws := [(0, .dead), (1, .own (([d] ++ a).flatMap (iC .u32)))]) (Eq.trans (b := appS (decide (((a.flatMap (iC .u32))).length = a.length * 1)) (a.flatMap (iC .u32)) a.length (fun z1 z2 => guardO (decide (0 + 1 * 1 ≤ ([d].flatMap (iC .u32)).length) && decide ((1 + z2) * 4 ≤ 140737488355328) && decide (1 + z2 ≤ 4611686018427387904)) (some (.eff (.hs 1 0 (1 + z2) 1) [(0, .dead), (1, .own ((([d].flatMap (iC .u32)).drop 0).take (1 * 1) ++ z1))])))) (by kernel_rfl) (appS_t (flat_lenB (iC_len _)) rfl (app_own (l := [d]) (xs := a) (iC_len _) rfl rfl rfl hg1 hg2))) <| .ca cf0 <| .mu 2 <| .done <| .ret ?_
 obtain rfl := oi hr
 exact FinQ.r1 [sU32 v3.Groups]

theorem fiducialref01_group_inj {l : List Int} {i : Int} {l_ : List Int} {i_ : Int} (h : ([slT (iC .u32) l, .at (.int .i64 i)] : List AV) = [slT (iC .u32) l_, .at (.int .i64 i_)]) : l = l_ ∧ i = i_ := by
 simp only [List.cons.injEq, AV.agg.injEq, AV.at.injEq, Value.int.injEq, Value.bool.injEq, AV.fn.injEq, AV.pp.injEq, true_and, and_true, slT_inj_int] at h
 simp_all
theorem fiducialref01_group_cg (n : Nat) {l : List Int} {i : Int} {l_ : List Int} {i_ : Int} (h : ([slT (iC .u32) l, .at (.int .i64 i)] : List AV) = [slT (iC .u32) l_, .at (.int .i64 i_)]) : fiducialref01_group n l i = fiducialref01_group n l_ i_ := by
 obtain ⟨rfl, rfl⟩ := fiducialref01_group_inj h
 rfl
theorem fiducialref01_group_ok (n : Nat) (l : List Int) (i : Int) (r : Int) (hr : fiducialref01_group n l i = some r) : FnOk Tryz.prog 220 [sU32 l, aI64 i] (aU64 r) := by
 unfold fiducialref01_group at hr
 refine FnOk.bd fine Tryz.func220 [.tmp 4] ?_
 unfold Tryz.f220
 simp only [Option.getD_some]
 refine .seq <| .r4 fine [0, 1] [] <| .seq <| .seq <| .r4 fine [0, 1] [(8, aB (decide (i < (l.length : Int))))] ?_
 refine .cd hr (fun hb1 hr => ?_) (fun hb1 hr => ?_)
 ·refine .seq ?_
  obtain ⟨hg2, hr⟩ := gd hr
  refine .r0 fine <| .mu 2 <| .p0 (v := .pp (l.flatMap (iC .u32)) (i.toNat * 1)) (tr (ofP_guard hg2)) <| .p0 (v := aU32 (gt l i)) (tr (ofP_some (flat_get (iC_len .u32) (inR_lt hg2) (by decide : 0 < 1) (by omega : i.toNat * 1 = i.toNat * 1 + 0) (by kernel_rfl)))) <| .mu 2 <| .done <| .ret ?_
  obtain rfl := oi hr
  exact FinQ.r1 [aU64 (wrapF .u64 (gt l i))]
 ·refine .skip <| .seq <| .ru fine <| .ret ?_
  obtain rfl := oi hr
  exact FinQ.r1 [aU64 0]

theorem fiducialref01_minus_ok (n : Nat) (a : List Int) (b : List Int) (r : List Int) (hr : fiducialref01_minus n a b = some r) : FnOk Tryz.prog 221 [sU32 a, sU32 b] (sU32 r) := by
 unfold fiducialref01_minus at hr
 refine FnOk.bd fine Tryz.func221 [.tmp 4] ?_
 unfold Tryz.f221
 simp only [Option.getD_some]
 refine .seq <| .r4 fine [0, 1] [] <| .seq <| .r5 fine [0, 1] [(5, .hs 0 0 0 1)] [.own []] <| .seq <| .r4 fine [0, 1, 5] [(6, aU64 0)] <| .seq <| .seq <| .r4 fine [0, 1, 5, 6] [(7, aI64 0)] <| .block ?_
 replace hr := bd hr; obtain ⟨out_11, hL21, hr⟩ := hr
 refine .loopO (σ := fun z0 => match z0 with | (out_1, borrow_2, i_3) => ⟨mkS 38 0 [(0, sU32 a), (1, sU32 b), (5, .hs 0 0 out_1.length 1), (6, aU64 borrow_2), (7, aI64 i_3)], [.own (out_1.flatMap (iC .u32))]⟩) (Q := fun x st' => x = .exit 0 ∧ Wk 0 st' ⟨mkS 38 0 [(5, .hs 0 0 out_11.length 1)], [.own (out_11.flatMap (iC .u32))]⟩) hL21 ((Wk.gc [0, 1, 5, 6, 7] [(0, false)] rfl (pKc trivial)).to (by kernel_rfl)) ?_ ?_
 ·clear hr
  rintro m ⟨out_1, borrow_2, i_3⟩ hr
  show CQ _ _ _ _ _ ⟨_, _⟩
  refine .seq <| .seq <| .r4 fine [0, 1, 5, 6, 7] [(13, aB (decide (i_3 < (a.length : Int))))] ?_
  refine .cd hr (fun hb13 hr => ?_) (fun hb13 hr => ?_)
  ·refine .skip <| .seq <| .block <| .seq ?_
   obtain ⟨v14, hc15, v16, hc17, hr⟩ := bd2 hr
   refine .gn fine (ca1 (ok0 (fiducialref01_group_ok n a i_3 v14 hc15)) (ca3 (ok0 (fiducialref01_group_ok n b i_3 v16 hc17)))) <| .mu 2 <| .ca cf0 <| .mu 3 <| .ca (cfA (fun h => by rw [sv hc17 hc15 (fiducialref01_group_cg n h)]) cf0) <| .mu 4 <| .done <| .nh [0, 1, 5, 7, 8] [.own (out_1.flatMap (iC .u32))] <| .seq ?_
   obtain ⟨hg18, hg19, hr⟩ := gd2 hr
   refine .r0 fine <| .mu 5 <| .e0 (v := .hs 2 0 (out_1 ++ [wrapF .u32 ((wrapF .u64 ((wrapF .u64 ((wrapF .u64 (1000000000 + v14)) - v16)) - borrow_2)).tmod 1000000000)]).length 1) (ws := [(0, .dead), (2, .own ((out_1 ++ [wrapF .u32 ((wrapF .u64 ((wrapF .u64 ((wrapF .u64 (1000000000 + v14)) - v16)) - borrow_2)).tmod 1000000000)]).flatMap (iC .u32)))]) (tr (app_own (new := [aU32 (wrapF .u32 ((wrapF .u64 ((wrapF .u64 ((wrapF .u64 (1000000000 + v14)) - v16)) - borrow_2)).tmod 1000000000))]) (l := out_1) (xs := [wrapF .u32 ((wrapF .u64 ((wrapF .u64 ((wrapF .u64 (1000000000 + v14)) - v16)) - borrow_2)).tmod 1000000000)]) (iC_len .u32) rfl rfl (by kernel_rfl) hg18 hg19)) <| .mu 1 <| .done <| .nh [0, 1, 5, 7, 8] [.dead, .own [aU32 (wrapF .u32 ((wrapF .u64 ((wrapF .u64 ((wrapF .u64 (1000000000 + v14)) - v16)) - borrow_2)).tmod 1000000000))], .own ((out_1 ++ [wrapF .u32 ((wrapF .u64 ((wrapF .u64 ((wrapF .u64 (1000000000 + v14)) - v16)) - borrow_2)).tmod 1000000000)]).flatMap (iC .u32))] <| .ru fine <| .pop <| .ru fine ?_
   exact loopF_back (out_1 ++ [wrapF .u32 ((wrapF .u64 ((wrapF .u64 ((wrapF .u64 (1000000000 + v14)) - v16)) - borrow_2)).tmod 1000000000)], wrapF .u64 (1 - (wrapF .u64 ((wrapF .u64 ((wrapF .u64 ((wrapF .u64 (1000000000 + v14)) - v16)) - borrow_2)).tdiv 1000000000))), wrapF .i64 (i_3 + 1)) hr ((Wk.gc [0, 1, 5, 6, 7] [(2, false)] rfl (pKo (iC .u32) (iC_pure _) (out_1 ++ [wrapF .u32 ((wrapF .u64 ((wrapF .u64 ((wrapF .u64 (1000000000 + v14)) - v16)) - borrow_2)).tmod 1000000000)]) trivial)).to (by kernel_rfl))
  ·refine .leave rfl ?_
   obtain rfl := oi hr
   exact ⟨rfl, ((Wk.gc [5] [(0, false)] rfl (pKo (iC .u32) (iC_pure _) out_1 trivial)).to (by kernel_rfl))⟩
 ·rintro x st' hq22
  clear hL21
  obtain ⟨rfl, hq22⟩ := hq22
  refine CQ_exit _ rfl <| .wk hq22 <| .seq ?_
  obtain ⟨v23, hc24, hr⟩ := bd hr
  refine .g1 fine (callOk_ref (args := [aB false, .hs 0 0 out_11.length 1]) (l := [0]) (SnL.cons (Sn.pure rfl) (SnL.cons (Sn.hs rfl (.inl rfl) (SnC.pure (ids_flat (iC_pure _) _)) (fun h => flat_nil0 h)) SnL.nil)) (fiducialref01_made_ok n false out_11 v23 hc24)) <| .mu 1 <| .ca cf0 <| .mu 2 <| .done <| .ret ?_
  obtain rfl := oi hr
  exact FinQ.r1 [sU32 v23.Groups]

theorem fiducialref01_parts_ok (n : Nat) (a : List Int) (b : List Int) (r : List Int × List Int) (hr : fiducialref01_parts n a b = some r) : FnOk Tryz.prog 189 [sU32 a, sU32 b] (.tup [sU32 r.1, sU32 r.2]) := by
 unfold fiducialref01_parts at hr
 refine FnOk.bd fine Tryz.func189 [.tmp 4, .tmp 5] ?_
 unfold Tryz.f189
 simp only [Option.getD_some]
 refine .seq <| .r4 fine [0, 1] [] <| .seq <| .r4 fine [0, 1] [(6, aI64 (b.length : Int))] <| .seq <| .seq <| .r4 fine [0, 1, 6] [(19, aB (((b.length : Int) : Int) == 1))] ?_
 refine .cd hr (fun hb1 hr => ?_) (fun hb1 hr => ?_)
 ·refine .seq ?_
  obtain ⟨hg2, hr⟩ := gd hr
  obtain ⟨v3, hc4, hr⟩ := bd hr
  refine .g1 fine (ok0 (fiducialref01_short_ok n a (wrapF .u64 (gt b 0)) v3 hc4)) <| .mu 2 <| .p0 (v := .pp (b.flatMap (iC .u32)) ((0 : Int).toNat * 1)) (tr (ofP_guard hg2)) <| .p0 (v := aU32 (gt b 0)) (tr (ofP_some (flat_get (iC_len .u32) (inR_lt hg2) (by decide : 0 < 1) (by omega : (0 : Int).toNat * 1 = (0 : Int).toNat * 1 + 0) (by kernel_rfl)))) <| .mu 1 <| .ca cf0 <| .mu 5 <| .done <| .nh [7, 8] [] <| .seq ?_
  obtain ⟨v5, hc6, hr⟩ := bd hr
  refine .gn fine (ca4 [.own [aU32 (wrapF .u32 v3.2)]] (callOk_ref (args := [aB false, .hs 0 0 1 1]) (l := [0]) (SnL.cons (Sn.pure rfl) (SnL.cons (Sn.hs rfl (.inl rfl) (SnC.cons (Sn.pure rfl) SnC.nil) (fun h => nomatch h)) SnL.nil)) (fiducialref01_made_ok n false [(wrapF .u32 v3.2)] v5 hc6))) <| .mu 4 <| .ca cf0 <| .mu 3 <| .done <| .ret ?_
  obtain rfl := oi hr
  exact FinQ.ret (vs := [sU32 v3.1, sU32 v5.Groups]) (by kernel_rfl) (Sn.tup (SnL.cons (Sn.pure rfl) (SnL.cons (Sn.pure rfl) SnL.nil)))
 ·refine .skip <| .seq <| .seq ?_
  obtain ⟨v7, hc8, hr⟩ := bd hr
  refine .g1 fine (ok0 (fiducialref01_size_ok n a b v7 hc8)) <| .mu 2 <| .ca cf0 <| .mu 1 <| .done <| .nh [0, 1, 6, 38] [] ?_
  refine .cd hr (fun hb9 hr => ?_) (fun hb9 hr => ?_)
  ·refine .seq <| .r5 fine [] [(4, .hs 0 0 0 1), (5, sU32 a)] [.own []] <| .ret ?_
   obtain rfl := oi hr
   exact FinQ.ret (vs := [.hs 0 0 0 1, sU32 a]) (by kernel_rfl) (Sn.tup (SnL.cons (Sn.hs rfl (.inl rfl) SnC.nil (fun _ => rfl)) (SnL.cons (Sn.pure rfl) SnL.nil)))
  ·refine .skip <| .seq ?_
   obtain ⟨hg10, hg11, hr⟩ := gd2 hr
   refine .r0 fine <| .mu 3 <| .p0 (v := .pp (b.flatMap (iC .u32)) ((wrapF .i64 ((b.length : Int) - 1)).toNat * 1)) (tr (ofP_guard hg10)) <| .p0 (v := aU32 (gt b (wrapF .i64 ((b.length : Int) - 1)))) (tr (ofP_some (flat_get (iC_len .u32) (inR_lt hg10) (by decide : 0 < 1) (by omega : (wrapF .i64 ((b.length : Int) - 1)).toNat * 1 = (wrapF .i64 ((b.length : Int) - 1)).toNat * 1 + 0) (by kernel_rfl)))) <| .mu 2 <| .p0 (v := aU64 (wrapF .u64 ((1000000000 : Int).tdiv (wrapF .u64 ((wrapF .u64 (gt b (wrapF .i64 ((b.length : Int) - 1)))) + 1))))) (op_quo (x := 1000000000) (y := wrapF .u64 ((wrapF .u64 (gt b (wrapF .i64 ((b.length : Int) - 1)))) + 1)) (by kernel_rfl) (by kernel_rfl) hg11) <| .mu 1 <| .done <| .nh [0, 1, 6, 9] [] <| .seq ?_
   obtain ⟨v12, hc13, v14, hc15, hr⟩ := bd2 hr
   refine .gn fine (ca1 (ok0 (fiducialref01_scaled_ok n a (wrapF .u64 ((1000000000 : Int).tdiv (wrapF .u64 ((wrapF .u64 (gt b (wrapF .i64 ((b.length : Int) - 1)))) + 1)))) v12 hc13)) (ca3 (ok0 (fiducialref01_scaled_ok n b (wrapF .u64 ((1000000000 : Int).tdiv (wrapF .u64 ((wrapF .u64 (gt b (wrapF .i64 ((b.length : Int) - 1)))) + 1)))) v14 hc15)))) <| .mu 2 <| .ca cf0 <| .mu 2 <| .ca (cfA (fun h => by rw [sv hc15 hc13 (fiducialref01_scaled_cg n h)]) cf0) <| .mu 2 <| .done <| .nh [0, 1, 6, 9] [] <| .seq ?_
   obtain ⟨hg16, hr⟩ := gd hr
   obtain ⟨v17, hc18, hr⟩ := bd hr
   refine .g1 fine (ok0 (fiducialref01_made_ok n false ((v12.drop (wrapF .i64 ((wrapF .i64 ((v12.length : Int) - (b.length : Int))) + 1)).toNat).take ((v12.length : Int).toNat - (wrapF .i64 ((wrapF .i64 ((v12.length : Int) - (b.length : Int))) + 1)).toNat)) v17 hc18)) <| .mu 6 <| .p0 (v := sU32 ((v12.drop (wrapF .i64 ((wrapF .i64 ((v12.length : Int) - (b.length : Int))) + 1)).toNat).take ((v12.length : Int).toNat - (wrapF .i64 ((wrapF .i64 ((v12.length : Int) - (b.length : Int))) + 1)).toNat))) (Eq.trans (b := slO (inS (wrapF .i64 ((wrapF .i64 ((v12.length : Int) - (b.length : Int))) + 1)) (v12.length : Int) v12.length) (wrapF .i64 ((wrapF .i64 ((v12.length : Int) - (b.length : Int))) + 1)).toNat (v12.length : Int).toNat (fun z1 z2 => .sl true (((v12.flatMap (iC .u32)).drop (z1 * 1)).take ((z2 - z1) * 1)) (z2 - z1))) (by kernel_rfl) (slO_t hg16 (sub_sl (iC_len _) (inS_le hg16)))) <| .ca cf0 <| .mu 2 <| .done <| .nh [0, 1, 6, 9, 10] [] <| .seq ?_
   obtain ⟨hg19, hg20, hg21, hr⟩ := gd3 hr
   refine .r0 fine <| .mu 5 <| .e0 (v := .hs 0 0 (List.replicate (wrapF .i64 ((wrapF .i64 ((v12.length : Int) - (b.length : Int))) + 1)).toNat ((0 : Int) : Int)).length 1) (ws := [(0, .own ((List.replicate (wrapF .i64 ((wrapF .i64 ((v12.length : Int) - (b.length : Int))) + 1)).toNat ((0 : Int) : Int)).flatMap (iC .u32)))]) (tr (make_own (c := (iC .u32)) (z := (0 : Int)) (n := wrapF .i64 ((wrapF .i64 ((v12.length : Int) - (b.length : Int))) + 1)) (by_ := 4) rfl hg19 hg20 hg21)) <| .mu 1 <| .done <| .nh [0, 1, 6, 9, 10, 11] [.own ((List.replicate (wrapF .i64 ((wrapF .i64 ((v12.length : Int) - (b.length : Int))) + 1)).toNat ((0 : Int) : Int)).flatMap (iC .u32))] <| .seq <| .seq <| .r4 fine [0, 1, 6, 9, 10, 11] [(12, aI64 (wrapF .i64 ((v12.length : Int) - (b.length : Int))))] <| .block ?_
   replace hr := bd hr; obtain ⟨o94, hL95, hr⟩ := hr
   refine .loopO (σ := fun z0 => match z0 with | (rest_22, q_23, i_24) => ⟨mkS 130 0 [(0, sU32 v12), (1, sU32 v14), (6, aI64 (b.length : Int)), (9, aU64 (wrapF .u64 ((1000000000 : Int).tdiv (wrapF .u64 ((wrapF .u64 (gt b (wrapF .i64 ((b.length : Int) - 1)))) + 1))))), (10, sU32 rest_22), (11, .hs 0 0 q_23.length 1), (12, aI64 i_24)], [.own (q_23.flatMap (iC .u32))]⟩) (Q := fun x st' => match (generalizing := false) o94 with | (rest_58, q_59) => x = .exit 0 ∧ Wk 0 st' ⟨mkS 130 0 [(9, aU64 (wrapF .u64 ((1000000000 : Int).tdiv (wrapF .u64 ((wrapF .u64 (gt b (wrapF .i64 ((b.length : Int) - 1)))) + 1))))), (10, sU32 rest_58), (11, .hs 0 0 q_59.length 1)], [.own (q_59.flatMap (iC .u32))]⟩) hL95 ((Wk.gc [0, 1, 6, 9, 10, 11, 12] [(0, false)] rfl (pKo (iC .u32) (iC_pure _) (List.replicate (wrapF .i64 ((wrapF .i64 ((v12.length : Int) - (b.length : Int))) + 1)).toNat ((0 : Int) : Int)) trivial)).to (by kernel_rfl)) ?_ ?_
   ·clear hr
    rintro m ⟨rest_22, q_23, i_24⟩ hr
    show CQ _ _ _ _ _ ⟨_, _⟩
    refine .seq <| .seq <| .r4 fine [0, 1, 6, 9, 10, 11, 12] [(75, aB (decide (i_24 ≥ 0)))] ?_
    refine .cd hr (fun hb61 hr => ?_) (fun hb61 hr => ?_)
    ·refine .skip <| .seq <| .block <| .seq ?_
     obtain ⟨hg62, hr⟩ := gd hr
     obtain ⟨v63, hc64, hr⟩ := bd hr
     refine .g1 fine (ok0 (fiducialref01_shifted_ok n rest_22 (gt v12 i_24) v63 hc64)) <| .mu 3 <| .p0 (v := .pp (v12.flatMap (iC .u32)) (i_24.toNat * 1)) (tr (ofP_guard hg62)) <| .p0 (v := aU32 (gt v12 i_24)) (tr (ofP_some (flat_get (iC_len .u32) (inR_lt hg62) (by decide : 0 < 1) (by omega : i_24.toNat * 1 = i_24.toNat * 1 + 0) (by kernel_rfl)))) <| .ca cf0 <| .mu 1 <| .done <| .nh [0, 1, 6, 9, 10, 11, 12] [.own (q_23.flatMap (iC .u32))] <| .seq ?_
     obtain ⟨v65, hc66, v67, hc68, hr⟩ := bd2 hr
     obtain ⟨hg69, hg70, hr⟩ := gd2 hr
     refine .tn fine (ca1 (ok0 (fiducialref01_group_ok n v63 (b.length : Int) v65 hc66)) (ca3 (ok0 (fiducialref01_group_ok n v63 (wrapF .i64 ((b.length : Int) - 1)) v67 hc68)))) <| .mu 2 <| .ca cf0 <| .mu 4 <| .ca (cfA (fun h => by rw [sv hc68 hc66 (fiducialref01_group_cg n h)]) cf0) <| .mu 4 <| .pure (v := .pp (v14.flatMap (iC .u32)) ((wrapF .i64 ((b.length : Int) - 1)).toNat * 1)) (by kernel_rfl) (tr (ofP_guard hg69)) (by kernel_rfl) <| .pure (v := aU32 (gt v14 (wrapF .i64 ((b.length : Int) - 1)))) (by kernel_rfl) (tr (ofP_some (flat_get (iC_len .u32) (inR_lt hg69) (by decide : 0 < 1) (by omega : (wrapF .i64 ((b.length : Int) - 1)).toNat * 1 = (wrapF .i64 ((b.length : Int) - 1)).toNat * 1 + 0) (by kernel_rfl)))) (by kernel_rfl) <| .mu 2 <| .pure (v := aU64 (wrapF .u64 ((wrapF .u64 ((wrapF .u64 (v65 * 1000000000)) + v67)).tdiv (wrapF .u64 ((wrapF .u64 (gt v14 (wrapF .i64 ((b.length : Int) - 1)))) + 1))))) (by kernel_rfl) (op_quo (x := wrapF .u64 ((wrapF .u64 (v65 * 1000000000)) + v67)) (y := wrapF .u64 ((wrapF .u64 (gt v14 (wrapF .i64 ((b.length : Int) - 1)))) + 1)) (by kernel_rfl) (by kernel_rfl) hg70) (by kernel_rfl) <| .mu 1 ?_
     refine .done ⟨by kernel_rfl, ?_⟩
     refine .nh [0, 1, 6, 9, 10, 11, 12, 13] [.own (q_23.flatMap (iC .u32))] <| .seq ?_
     obtain ⟨v71, hc72, v73, hc74, hr⟩ := bd2 hr
     refine .gn fine (ca1 (ok0 (fiducialref01_scaled_ok n v14 (wrapF .u64 ((wrapF .u64 ((wrapF .u64 (v65 * 1000000000)) + v67)).tdiv (wrapF .u64 ((wrapF .u64 (gt v14 (wrapF .i64 ((b.length : Int) - 1)))) + 1)))) v71 hc72)) (ca3 (ok0 (fiducialref01_minus_ok n v63 v71 v73 hc74)))) <| .mu 3 <| .ca cf0 <| .ca (cfF cf0) <| .mu 1 <| .done <| .nh [0, 1, 6, 9, 10, 11, 12, 13] [.own (q_23.flatMap (iC .u32))] <| .seq <| .block ?_
     replace hr := bd hr; obtain ⟨o90, hL91, hr⟩ := hr
     refine .loopO (σ := fun z0 => match z0 with | (rest_75, guess_76) => ⟨mkS 130 0 [(0, sU32 v12), (1, sU32 v14), (6, aI64 (b.length : Int)), (9, aU64 (wrapF .u64 ((1000000000 : Int).tdiv (wrapF .u64 ((wrapF .u64 (gt b (wrapF .i64 ((b.length : Int) - 1)))) + 1))))), (10, sU32 rest_75), (11, .hs 0 0 q_23.length 1), (12, aI64 i_24), (13, aU64 guess_76)], [.own (q_23.flatMap (iC .u32))]⟩) (Q := fun x st' => match (generalizing := false) o90 with | (rest_82, guess_83) => x = .exit 2 ∧ Wk 0 st' ⟨mkS 130 0 [(0, sU32 v12), (1, sU32 v14), (6, aI64 (b.length : Int)), (9, aU64 (wrapF .u64 ((1000000000 : Int).tdiv (wrapF .u64 ((wrapF .u64 (gt b (wrapF .i64 ((b.length : Int) - 1)))) + 1))))), (10, sU32 rest_82), (11, .hs 0 0 q_23.length 1), (12, aI64 i_24), (13, aU64 guess_83)], [.own (q_23.flatMap (iC .u32))]⟩) hL91 ((Wk.gc [0, 1, 6, 9, 10, 11, 12, 13] [(0, false)] rfl (pKo (iC .u32) (iC_pure _) q_23 trivial)).to (by kernel_rfl)) ?_ ?_
     ·clear hr
      rintro m ⟨rest_75, guess_76⟩ hr
      show CQ _ _ _ _ _ ⟨_, _⟩
      refine .seq <| .seq ?_
      obtain ⟨v85, hc86, hr⟩ := bd hr
      refine .g1 fine (ok0 (fiducialref01_size_ok n rest_75 v14 v85 hc86)) <| .mu 2 <| .ca cf0 <| .mu 1 <| .done <| .nh [0, 1, 6, 9, 10, 11, 12, 13, 109] [.own (q_23.flatMap (iC .u32))] ?_
      refine .cd hr (fun hb87 hr => ?_) (fun hb87 hr => ?_)
      ·refine .skip <| .block <| .seq ?_
       obtain ⟨v88, hc89, hr⟩ := bd hr
       refine .g1 fine (ok0 (fiducialref01_minus_ok n rest_75 v14 v88 hc89)) <| .mu 2 <| .ca cf0 <| .mu 1 <| .done <| .nh [0, 1, 6, 9, 10, 11, 12, 13] [.own (q_23.flatMap (iC .u32))] <| .ru fine <| .pop ?_
       exact loopF_back (v88, wrapF .u64 (guess_76 + 1)) hr ((Wk.gc [0, 1, 6, 9, 10, 11, 12, 13] [(0, false)] rfl (pKo (iC .u32) (iC_pure _) q_23 trivial)).to (by kernel_rfl))
      ·refine .leave rfl ?_
       obtain rfl := oi hr
       exact ⟨rfl, ((Wk.gc [0, 1, 6, 9, 10, 11, 12, 13] [(0, false)] rfl (pKo (iC .u32) (iC_pure _) q_23 trivial)).to (by kernel_rfl))⟩
     ·rcases o90 with ⟨rest_82, guess_83⟩
      rintro x st' hq92
      clear hL91
      obtain ⟨rfl, hq92⟩ := hq92
      refine CQ_exit _ rfl <| .wk hq92 ?_
      obtain ⟨hg93, hr⟩ := gd hr
      refine .r0 fine <| .mu 4 <| .p0 (v := .hp 0 (0 + i_24.toNat * 1)) (tr (ofP_guard hg93)) <| .e0 (v := .unk) (ws := [(0, .own ((q_23.set i_24.toNat (wrapF .u32 guess_83)).flatMap (iC .u32)))]) (tr (stO_t (and_t (flat_fits (n := 1) (iC_len .u32) (inR_lt hg93) (Nat.le_of_ble_eq_true rfl) (by omega : 0 + i_24.toNat * 1 = i_24.toNat * 1 + 0))) (congrArg Blk.own (flat_set (xs := [aU32 (wrapF .u32 guess_83)]) (iC_len .u32) (inR_lt hg93) (Nat.le_of_ble_eq_true rfl) (by omega : 0 + i_24.toNat * 1 = i_24.toNat * 1 + 0) (by kernel_rfl))))) <| .done <| .pop <| .ru fine ?_
      exact loopF_back (rest_82, q_23.set i_24.toNat (wrapF .u32 guess_83), wrapF .i64 (i_24 - 1)) hr ((Wk.relen 11 (b := 0) (es := 1) (len := q_23.length) (q_23.set i_24.toNat (wrapF .u32 guess_83)).length (by kernel_rfl) (Eq.symm (List.length_set.trans rfl))).trans ((Wk.gc [0, 1, 6, 9, 10, 11, 12] [(0, false)] rfl (pKo (iC .u32) (iC_pure _) (q_23.set i_24.toNat (wrapF .u32 guess_83)) trivial)).to (by kernel_rfl)))
    ·refine .leave rfl ?_
     obtain rfl := oi hr
     exact ⟨rfl, ((Wk.gc [9, 10, 11] [(0, false)] rfl (pKo (iC .u32) (iC_pure _) q_23 trivial)).to (by kernel_rfl))⟩
   ·rcases o94 with ⟨rest_58, q_59⟩
    rintro x st' hq96
    clear hL95
    obtain ⟨rfl, hq96⟩ := hq96
    refine CQ_exit _ rfl <| .wk hq96 <| .seq ?_
    obtain ⟨v97, hc98, hr⟩ := bd hr
    refine .g1 fine (ok0 (fiducialref01_short_ok n rest_58 (wrapF .u64 ((1000000000 : Int).tdiv (wrapF .u64 ((wrapF .u64 (gt b (wrapF .i64 ((b.length : Int) - 1)))) + 1)))) v97 hc98)) <| .mu 2 <| .ca cf0 <| .mu 5 <| .done <| .nh [11, 14] [.own (q_59.flatMap (iC .u32))] <| .seq ?_
    obtain ⟨v99, hc100, hr⟩ := bd hr
    refine .g1 fine (callOk_ref (args := [aB false, .hs 0 0 q_59.length 1]) (l := [0]) (SnL.cons (Sn.pure rfl) (SnL.cons (Sn.hs rfl (.inl rfl) (SnC.pure (ids_flat (iC_pure _) _)) (fun h => flat_nil0 h)) SnL.nil)) (fiducialref01_made_ok n false q_59 v99 hc100)) <| .mu 1 <| .ca cf0 <| .mu 4 <| .done <| .ret ?_
    obtain rfl := oi hr
    exact FinQ.ret (vs := [sU32 v99.Groups, sU32 v97.1]) (by kernel_rfl) (Sn.tup (SnL.cons (Sn.pure rfl) (SnL.cons (Sn.pure rfl) SnL.nil)))

theorem fiducialref01_pair_inj {a : List Int} {a_ : List Int} (h : ([slT (iC .u32) a] : List AV) = [slT (iC .u32) a_]) : a = a_ := by
 simp only [List.cons.injEq, AV.agg.injEq, AV.at.injEq, Value.int.injEq, Value.bool.injEq, AV.fn.injEq, AV.pp.injEq, true_and, and_true, slT_inj_int] at h
 simp_all
theorem fiducialref01_pair_cg (n : Nat) {a : List Int} {a_ : List Int} (h : ([slT (iC .u32) a] : List AV) = [slT (iC .u32) a_]) : fiducialref01_pair n a = fiducialref01_pair n a_ := by
 obtain rfl := fiducialref01_pair_inj h
 rfl
theorem fiducialref01_pair_ok (n : Nat) (a : List Int) (r : Int) (hr : fiducialref01_pair n a = some r) : FnOk Tryz.prog 191 [sU32 a] (aU64 r) := by
 unfold fiducialref01_pair at hr
 refine FnOk.bd fine Tryz.func191 [.tmp 2] ?_
 unfold Tryz.f191
 simp only [Option.getD_some]
 refine .seq <| .r4 fine [0] [] <| .seq ?_
 obtain ⟨v1, hc2, v3, hc4, hr⟩ := bd2 hr
 refine .gn fine (ca1 (ok0 (fiducialref01_group_ok n a 1 v1 hc2)) (ca3 (ok0 (fiducialref01_group_ok n a 0 v3 hc4)))) <| .mu 1 <| .ca cf0 <| .mu 2 <| .ca (cfA (fun h => by rw [sv hc4 hc2 (fiducialref01_group_cg n h)]) cf0) <| .mu 2 <| .done <| .ret ?_
 obtain rfl := oi hr
 exact FinQ.r1 [aU64 (wrapF .u64 ((wrapF .u64 (v1 * 1000000000)) + v3))]

theorem fiducialref01_Gcd_ok (n : Nat) (x' : api_Int) (y : api_Int) (r : api_Int) (hr : fiducialref01_Gcd n x' y = some r) : FnOk Tryz.prog 139 [.agg (api_Int.c x'), .agg (api_Int.c y)] (.agg (api_Int.c r)) := by
 unfold fiducialref01_Gcd at hr
 refine FnOk.bd fine Tryz.func139 [.cell 4 72] ?_
 unfold Tryz.f139
 simp only [Option.getD_some]
 refine .seq <| .r2 fine 61 [(2, .hp 0 0), (3, .hp 1 0), (4, .hp 2 0)] [.own (api_Int.c x'), .own (api_Int.c y), .own [aB false, nS]] <| .seq ?_
 obtain ⟨v1, hc2, v3, hc4, hr⟩ := bd2 hr
 refine .tn fine (ca1 (ok0 (fiducialref01_Value_ok n x' v1 hc2)) (ca3 (ok0 (fiducialref01_Value_ok n y v3 hc4)))) <| .mu 1 <| .ca cf0 <| .mu 2 <| .ca (cfA (fun h => by rw [sv hc4 hc2 (fiducialref01_Value_cg n h)]) cf0) <| .mu 3 ?_
 refine .done ⟨by kernel_rfl, ?_⟩
 refine .nh [4, 5, 6] [.own (api_Int.c x'), .own (api_Int.c y), .own [aB false, nS]] <| .seq <| .block ?_
 replace hr := bd hr; obtain ⟨o24, hL25, hr⟩ := hr
 refine .loopO (σ := fun z0 => match z0 with | (a_5, b_6) => ⟨mkS 61 0 [(4, .hp 0 0), (5, sU32 a_5), (6, sU32 b_6)], [.own [aB false, nS]]⟩) (Q := fun x st' => match (generalizing := false) o24 with | (a_14, b_15) => x = .exit 0 ∧ Wk 0 st' ⟨mkS 61 0 [(4, .hp 0 0), (5, sU32 a_14), (6, sU32 b_15)], [.own [aB false, nS]]⟩) hL25 ((Wk.gc [4, 5, 6] [(2, true)] rfl trivial).to (by kernel_rfl)) ?_ ?_
 ·clear hr
  rintro m ⟨a_5, b_6⟩ hr
  show CQ _ _ _ _ _ ⟨_, _⟩
  refine .seq <| .seq ?_
  rcases Bool.eq_false_or_eq_true (decide ((b_6.length : Int) > 0)) with hb17 | hb17
  ·replace hr := cd_t hb17 hr
   rcases Bool.eq_false_or_eq_true (decide ((a_5.length : Int) > 2)) with hb18 | hb18
   ·replace hr := cd_t hb18 hr
    refine .r0 fine <| .mu 2 <| .p0 (v := aB true) (eB hb17) <| .mu 3 <| .pure (v := aB true) (by kernel_rfl) (eB hb18) <| .mu 6 <| .done <| .nh [4, 5, 6, 29] [.own [aB false, nS]] <| .cT (by kernel_rfl) <| .skip <| .block <| .seq ?_
    obtain ⟨v19, hc20, hr⟩ := bd hr
    refine .g1 fine (ok0 (fiducialref01_parts_ok n a_5 b_6 v19 hc20)) <| .mu 2 <| .ca cf0 <| .mu 5 <| .done <| .nh [4, 6, 8] [.own [aB false, nS]] <| .ru fine <| .pop ?_
    exact loopF_back (b_6, v19.2) hr ((Wk.gc [4, 5, 6] [(0, true)] rfl trivial).to (by kernel_rfl))
   ·replace hr := cd_f hb18 hr
    refine .r0 fine <| .mu 2 <| .p0 (v := aB true) (eB hb17) <| .mu 3 <| .pure (v := aB false) (by kernel_rfl) (eB hb18) <| .mu 6 <| .done <| .nh [4, 5, 6, 29] [.own [aB false, nS]] ?_
    refine .cd hr (fun hb21 hr => ?_) (fun hb21 hr => ?_)
    ·refine .skip <| .block <| .seq ?_
     obtain ⟨v22, hc23, hr⟩ := bd hr
     refine .g1 fine (ok0 (fiducialref01_parts_ok n a_5 b_6 v22 hc23)) <| .mu 2 <| .ca cf0 <| .mu 5 <| .done <| .nh [4, 6, 8] [.own [aB false, nS]] <| .ru fine <| .pop ?_
     exact loopF_back (b_6, v22.2) hr ((Wk.gc [4, 5, 6] [(0, true)] rfl trivial).to (by kernel_rfl))
    ·refine .leave rfl ?_
     obtain rfl := oi hr
     exact ⟨rfl, ((Wk.gc [4, 5, 6] [(0, true)] rfl trivial).to (by kernel_rfl))⟩
  ·replace hr := cd_f hb17 hr
   refine .r0 fine <| .mu 2 <| .p0 (v := aB false) (eB hb17) <| .mu 10 <| .done <| .nh [4, 5, 6, 29] [.own [aB false, nS]] <| .cF (by kernel_rfl) <| .leave rfl ?_
   obtain rfl := oi hr
   exact ⟨rfl, ((Wk.gc [4, 5, 6] [(0, true)] rfl trivial).to (by kernel_rfl))⟩
 ·rcases o24 with ⟨a_14, b_15⟩
  rintro x st' hq26
  clear hL25
  obtain ⟨rfl, hq26⟩ := hq26
  refine CQ_exit _ rfl <| .wk hq26 <| .seq <| .seq <| .r4 fine [4, 5, 6] [(40, aB (((b_15.length : Int) : Int) == 0))] ?_
  refine .cd hr (fun hb27 hr => ?_) (fun hb27 hr => ?_)
  ·refine .seq ?_
   obtain ⟨v28, hc29, hr⟩ := bd hr
   refine .g1 fine (ok0 (fiducialref01_made_ok n false a_14 v28 hc29)) <| .mu 1 <| .ca cf0 <| .mu 1 <| .done <| .nh [4] [.own (api_Int.c v28)] <| .ret ?_
   obtain rfl := oi hr
   exact FinQ.r1 [.agg (api_Int.c v28)]
  ·refine .skip <| .seq ?_
   obtain ⟨v30, hc31, v32, hc33, hr⟩ := bd2 hr
   refine .gn fine (ca1 (ok0 (fiducialref01_pair_ok n a_14 v30 hc31)) (ca3 (ok0 (fiducialref01_pair_ok n b_15 v32 hc33)))) <| .mu 1 <| .ca cf0 <| .mu 1 <| .ca (cfA (fun h => by rw [sv hc33 hc31 (fiducialref01_pair_cg n h)]) cf0) <| .mu 2 <| .done <| .nh [4, 9, 10] [.own [aB false, nS]] <| .seq <| .block ?_
   replace hr := bd hr; obtain ⟨u_38, hL43, hr⟩ := hr
   refine .loopO (σ := fun z0 => match z0 with | (u_34, v_35) => ⟨mkS 61 0 [(4, .hp 0 0), (9, aU64 u_34), (10, aU64 v_35)], [.own [aB false, nS]]⟩) (Q := fun x st' => x = .exit 2 ∧ Wk 0 st' ⟨mkS 61 0 [(4, .hp 0 0), (9, aU64 u_38)], [.own [aB false, nS]]⟩) hL43 ((Wk.gc [4, 9, 10] [(0, true)] rfl trivial).to (by kernel_rfl)) ?_ ?_
   ·clear hr
    rintro m ⟨u_34, v_35⟩ hr
    show CQ _ _ _ _ _ ⟨_, _⟩
    refine .seq <| .seq <| .r4 fine [4, 9, 10] [(48, aB (decide (v_35 > 0)))] ?_
    refine .cd hr (fun hb40 hr => ?_) (fun hb40 hr => ?_)
    ·refine .skip <| .block ?_
     obtain ⟨hg41, hr⟩ := gd hr
     refine .regionT fine callOf_nil <| .mu 3 <| .pure (v := aU64 (u_34.tmod v_35)) (by kernel_rfl) (op_rem (x := u_34) (y := v_35) (by kernel_rfl) (by kernel_rfl) hg41) (by kernel_rfl) <| .mu 2 ?_
     refine .done ⟨by kernel_rfl, ?_⟩
     refine .pop ?_
     exact loopF_back (v_35, u_34.tmod v_35) hr ((Wk.gc [4, 9, 10] [(0, true)] rfl trivial).to (by kernel_rfl))
    ·refine .leave rfl ?_
     obtain rfl := oi hr
     exact ⟨rfl, ((Wk.gc [4, 9] [(0, true)] rfl trivial).to (by kernel_rfl))⟩
   ·rintro x st' hq44
    clear hL43
    obtain ⟨rfl, hq44⟩ := hq44
    refine CQ_exit _ rfl <| .wk hq44 <| .seq ?_
    obtain ⟨v45, hc46, hr⟩ := bd hr
    refine .gn fine (ca4 [.own [aB false, nS], .own [aU32 (wrapF .u32 (u_38.tmod 1000000000)), aU32 (wrapF .u32 (wrapF .u64 (u_38.tdiv 1000000000)))]] (callOk_ref (args := [aB false, .hs 1 0 2 1]) (l := [1]) (SnL.cons (Sn.pure rfl) (SnL.cons (Sn.hs rfl (.inl rfl) (SnC.cons (Sn.pure rfl) (SnC.cons (Sn.pure rfl) SnC.nil)) (fun h => nomatch h)) SnL.nil)) (fiducialref01_made_ok n false [(wrapF .u32 (u_38.tmod 1000000000)), (wrapF .u32 (wrapF .u64 (u_38.tdiv 1000000000)))] v45 hc46))) <| .mu 7 <| .ca cf0 <| .mu 1 <| .done <| .nh [4] [.own (api_Int.c v45), .fix [aU32 (wrapF .u32 (u_38.tmod 1000000000)), aU32 (wrapF .u32 (wrapF .u64 (u_38.tdiv 1000000000)))]] <| .ret ?_
    obtain rfl := oi hr
    exact FinQ.r1 [.agg (api_Int.c v45)]

theorem fiducialref01_Neg_ok (n : Nat) (x' : api_Int) (r : api_Int) (hr : fiducialref01_Neg n x' = some r) : FnOk Tryz.prog 215 [.agg (api_Int.c x')] (.agg (api_Int.c r)) := by
 unfold fiducialref01_Neg at hr
 refine FnOk.bd fine Tryz.func215 [.cell 2 72] ?_
 unfold Tryz.f215
 simp only [Option.getD_some]
 refine .seq <| .r2 fine 11 [(1, .hp 0 0), (2, .hp 1 0)] [.own (api_Int.c x'), .own [aB false, nS]] <| .seq ?_
 obtain ⟨v1, hc2, hr⟩ := bd hr
 refine .g1 fine (ok0 (fiducialref01_Value_ok n x' v1 hc2)) <| .mu 1 <| .ca cf0 <| .mu 1 <| .done <| .nh [1, 2] [.own (api_Int.c v1), .own [aB false, nS]] <| .seq ?_
 obtain ⟨v3, hc4, hr⟩ := bd hr
 refine .g1 fine (ok0 (fiducialref01_made_ok n (!v1.Negative) v1.Groups v3 hc4)) <| .mu 5 <| .ca cf0 <| .mu 1 <| .done <| .nh [2] [.own (api_Int.c v1), .own (api_Int.c v3)] <| .ret ?_
 obtain rfl := oi hr
 exact FinQ.r1 [.agg (api_Int.c v3)]

theorem fiducialref01_plus_ok (n : Nat) (a : List Int) (b : List Int) (r : List Int) (hr : fiducialref01_plus n a b = some r) : FnOk Tryz.prog 228 [sU32 a, sU32 b] (sU32 r) := by
 unfold fiducialref01_plus at hr
 refine FnOk.bd fine Tryz.func228 [.tmp 4] ?_
 unfold Tryz.f228
 simp only [Option.getD_some]
 refine .seq <| .r4 fine [0, 1] [] <| .seq <| .r5 fine [0, 1] [(5, .hs 0 0 0 1)] [.own []] <| .seq <| .r4 fine [0, 1, 5] [(6, aU64 0)] <| .seq <| .seq <| .r4 fine [0, 1, 5, 6] [(7, aI64 0)] <| .block ?_
 replace hr := bd hr; obtain ⟨o35, hL36, hr⟩ := hr
 refine .loopO (σ := fun z0 => match z0 with | (out_1, carry_2, i_3) => ⟨mkS 46 0 [(0, sU32 a), (1, sU32 b), (5, .hs 0 0 out_1.length 1), (6, aU64 carry_2), (7, aI64 i_3)], [.own (out_1.flatMap (iC .u32))]⟩) (Q := fun x st' => match (generalizing := false) o35 with | (out_18, carry_19) => x = .exit 0 ∧ Wk 0 st' ⟨mkS 46 0 [(5, .hs 0 0 out_18.length 1), (6, aU64 carry_19)], [.own (out_18.flatMap (iC .u32))]⟩) hL36 ((Wk.gc [0, 1, 5, 6, 7] [(0, false)] rfl (pKc trivial)).to (by kernel_rfl)) ?_ ?_
 ·clear hr
  rintro m ⟨out_1, carry_2, i_3⟩ hr
  show CQ _ _ _ _ _ ⟨_, _⟩
  refine .seq <| .seq ?_
  rcases Bool.eq_false_or_eq_true (decide (i_3 < (a.length : Int))) with hb21 | hb21
  ·replace hr := cd_t hb21 hr
   refine .r0 fine <| .mu 3 <| .p0 (v := aB true) (eB hb21) <| .mu 6 <| .done <| .nh [0, 1, 5, 6, 7, 19] [.own (out_1.flatMap (iC .u32))] <| .cT (by kernel_rfl) <| .skip <| .seq <| .block <| .seq ?_
   obtain ⟨v22, hc23, v24, hc25, hr⟩ := bd2 hr
   refine .gn fine (ca1 (ok0 (fiducialref01_group_ok n a i_3 v22 hc23)) (ca3 (ok0 (fiducialref01_group_ok n b i_3 v24 hc25)))) <| .mu 2 <| .ca cf0 <| .mu 2 <| .ca (cfA (fun h => by rw [sv hc25 hc23 (fiducialref01_group_cg n h)]) cf0) <| .mu 4 <| .done <| .nh [0, 1, 5, 7, 8] [.own (out_1.flatMap (iC .u32))] <| .seq ?_
   obtain ⟨hg26, hg27, hr⟩ := gd2 hr
   refine .r0 fine <| .mu 5 <| .e0 (v := .hs 2 0 (out_1 ++ [wrapF .u32 ((wrapF .u64 ((wrapF .u64 (v22 + v24)) + carry_2)).tmod 1000000000)]).length 1) (ws := [(0, .dead), (2, .own ((out_1 ++ [wrapF .u32 ((wrapF .u64 ((wrapF .u64 (v22 + v24)) + carry_2)).tmod 1000000000)]).flatMap (iC .u32)))]) (tr (app_own (new := [aU32 (wrapF .u32 ((wrapF .u64 ((wrapF .u64 (v22 + v24)) + carry_2)).tmod 1000000000))]) (l := out_1) (xs := [wrapF .u32 ((wrapF .u64 ((wrapF .u64 (v22 + v24)) + carry_2)).tmod 1000000000)]) (iC_len .u32) rfl rfl (by kernel_rfl) hg26 hg27)) <| .mu 1 <| .done <| .nh [0, 1, 5, 7, 8] [.dead, .own [aU32 (wrapF .u32 ((wrapF .u64 ((wrapF .u64 (v22 + v24)) + carry_2)).tmod 1000000000))], .own ((out_1 ++ [wrapF .u32 ((wrapF .u64 ((wrapF .u64 (v22 + v24)) + carry_2)).tmod 1000000000)]).flatMap (iC .u32))] <| .ru fine <| .pop <| .ru fine ?_
   exact loopF_back (out_1 ++ [wrapF .u32 ((wrapF .u64 ((wrapF .u64 (v22 + v24)) + carry_2)).tmod 1000000000)], wrapF .u64 ((wrapF .u64 ((wrapF .u64 (v22 + v24)) + carry_2)).tdiv 1000000000), wrapF .i64 (i_3 + 1)) hr ((Wk.gc [0, 1, 5, 6, 7] [(2, false)] rfl (pKo (iC .u32) (iC_pure _) (out_1 ++ [wrapF .u32 ((wrapF .u64 ((wrapF .u64 (v22 + v24)) + carry_2)).tmod 1000000000)]) trivial)).to (by kernel_rfl))
  ·replace hr := cd_f hb21 hr
   refine .r0 fine <| .mu 3 <| .p0 (v := aB false) (eB hb21) <| .mu 6 <| .done <| .nh [0, 1, 5, 6, 7, 19] [.own (out_1.flatMap (iC .u32))] ?_
   refine .cd hr (fun hb28 hr => ?_) (fun hb28 hr => ?_)
   ·refine .skip <| .seq <| .block <| .seq ?_
    obtain ⟨v29, hc30, v31, hc32, hr⟩ := bd2 hr
    refine .gn fine (ca1 (ok0 (fiducialref01_group_ok n a i_3 v29 hc30)) (ca3 (ok0 (fiducialref01_group_ok n b i_3 v31 hc32)))) <| .mu 2 <| .ca cf0 <| .mu 2 <| .ca (cfA (fun h => by rw [sv hc32 hc30 (fiducialref01_group_cg n h)]) cf0) <| .mu 4 <| .done <| .nh [0, 1, 5, 7, 8] [.own (out_1.flatMap (iC .u32))] <| .seq ?_
    obtain ⟨hg33, hg34, hr⟩ := gd2 hr
    refine .r0 fine <| .mu 5 <| .e0 (v := .hs 2 0 (out_1 ++ [wrapF .u32 ((wrapF .u64 ((wrapF .u64 (v29 + v31)) + carry_2)).tmod 1000000000)]).length 1) (ws := [(0, .dead), (2, .own ((out_1 ++ [wrapF .u32 ((wrapF .u64 ((wrapF .u64 (v29 + v31)) + carry_2)).tmod 1000000000)]).flatMap (iC .u32)))]) (tr (app_own (new := [aU32 (wrapF .u32 ((wrapF .u64 ((wrapF .u64 (v29 + v31)) + carry_2)).tmod 1000000000))]) (l := out_1) (xs := [wrapF .u32 ((wrapF .u64 ((wrapF .u64 (v29 + v31)) + carry_2)).tmod 1000000000)]) (iC_len .u32) rfl rfl (by kernel_rfl) hg33 hg34)) <| .mu 1 <| .done <| .nh [0, 1, 5, 7, 8] [.dead, .own [aU32 (wrapF .u32 ((wrapF .u64 ((wrapF .u64 (v29 + v31)) + carry_2)).tmod 1000000000))], .own ((out_1 ++ [wrapF .u32 ((wrapF .u64 ((wrapF .u64 (v29 + v31)) + carry_2)).tmod 1000000000)]).flatMap (iC .u32))] <| .ru fine <| .pop <| .ru fine ?_
    exact loopF_back (out_1 ++ [wrapF .u32 ((wrapF .u64 ((wrapF .u64 (v29 + v31)) + carry_2)).tmod 1000000000)], wrapF .u64 ((wrapF .u64 ((wrapF .u64 (v29 + v31)) + carry_2)).tdiv 1000000000), wrapF .i64 (i_3 + 1)) hr ((Wk.gc [0, 1, 5, 6, 7] [(2, false)] rfl (pKo (iC .u32) (iC_pure _) (out_1 ++ [wrapF .u32 ((wrapF .u64 ((wrapF .u64 (v29 + v31)) + carry_2)).tmod 1000000000)]) trivial)).to (by kernel_rfl))
   ·refine .leave rfl ?_
    obtain rfl := oi hr
    exact ⟨rfl, ((Wk.gc [5, 6] [(0, false)] rfl (pKo (iC .u32) (iC_pure _) out_1 trivial)).to (by kernel_rfl))⟩
 ·rcases o35 with ⟨out_18, carry_19⟩
  rintro x st' hq37
  clear hL36
  obtain ⟨rfl, hq37⟩ := hq37
  refine CQ_exit _ rfl <| .wk hq37 <| .seq ?_
  obtain ⟨hg38, hg39, hr⟩ := gd2 hr
  obtain ⟨v40, hc41, hr⟩ := bd hr
  refine .gn fine (ca4 [.dead, .own [aU32 (wrapF .u32 carry_19)], .own ((out_18 ++ [wrapF .u32 carry_19]).flatMap (iC .u32))] (callOk_ref (args := [aB false, .hs 2 0 (out_18 ++ [wrapF .u32 carry_19]).length 1]) (l := [2]) (SnL.cons (Sn.pure rfl) (SnL.cons (Sn.hs rfl (.inl rfl) (SnC.pure (ids_flat (iC_pure _) _)) (fun h => flat_nil0 h)) SnL.nil)) (fiducialref01_made_ok n false (out_18 ++ [wrapF .u32 carry_19]) v40 hc41))) <| .mu 4 <| .e0 (v := .hs 2 0 (out_18 ++ [wrapF .u32 carry_19]).length 1) (ws := [(0, .dead), (2, .own ((out_18 ++ [wrapF .u32 carry_19]).flatMap (iC .u32)))]) (tr (app_own (new := [aU32 (wrapF .u32 carry_19)]) (l := out_18) (xs := [wrapF .u32 carry_19]) (iC_len .u32) rfl rfl (by kernel_rfl) hg38 hg39)) <| .ca cf0 <| .mu 2 <| .done <| .ret ?_
  obtain rfl := oi hr
  exact FinQ.r1 [sU32 v40.Groups]

theorem fiducialref01_Add_ok (n : Nat) (x' : api_Int) (y : api_Int) (r : api_Int) (hr : fiducialref01_Add n x' y = some r) : FnOk Tryz.prog 214 [.agg (api_Int.c x'), .agg (api_Int.c y)] (.agg (api_Int.c r)) := by
 unfold fiducialref01_Add at hr
 refine FnOk.bd fine Tryz.func214 [.cell 4 72] ?_
 unfold Tryz.f214
 simp only [Option.getD_some]
 refine .seq <| .r2 fine 44 [(2, .hp 0 0), (3, .hp 1 0), (4, .hp 2 0)] [.own (api_Int.c x'), .own (api_Int.c y), .own [aB false, nS]] <| .seq ?_
 obtain ⟨v1, hc2, v3, hc4, hr⟩ := bd2 hr
 refine .tn fine (ca1 (ok0 (fiducialref01_Value_ok n x' v1 hc2)) (ca3 (ok0 (fiducialref01_Value_ok n y v3 hc4)))) <| .mu 1 <| .ca cf0 <| .mu 1 <| .ca (cfA (fun h => by rw [sv hc4 hc2 (fiducialref01_Value_cg n h)]) cf0) <| .mu 2 ?_
 refine .done ⟨by kernel_rfl, ?_⟩
 refine .nh [2, 3, 4] [.own (api_Int.c v1), .own (api_Int.c v3), .own [aB false, nS]] <| .seq <| .seq <| .r4 fine [2, 3, 4] [(13, aB (v1.Negative == v3.Negative))] ?_
 refine .cd hr (fun hb5 hr => ?_) (fun hb5 hr => ?_)
 ·refine .seq ?_
  obtain ⟨v6, hc7, v8, hc9, hr⟩ := bd2 hr
  refine .tn fine (ca1 (ok0 (fiducialref01_plus_ok n v1.Groups v3.Groups v6 hc7)) (ca3 (ok0 (fiducialref01_made_ok n v1.Negative v6 v8 hc9)))) <| .mu 6 <| .ca cf0 <| .ca (cfF cf0) <| .mu 1 ?_
  refine .done ⟨by kernel_rfl, ?_⟩
  refine .nh [4] [.own (api_Int.c v1), .own (api_Int.c v3), .own (api_Int.c v8)] <| .ret ?_
  obtain rfl := oi hr
  exact FinQ.r1 [.agg (api_Int.c v8)]
 ·refine .skip <| .seq <| .seq ?_
  obtain ⟨v10, hc11, hr⟩ := bd hr
  refine .g1 fine (ok0 (fiducialref01_size_ok n v1.Groups v3.Groups v10 hc11)) <| .mu 4 <| .ca cf0 <| .mu 1 <| .done <| .nh [2, 3, 4, 27] [.own (api_Int.c v1), .own (api_Int.c v3), .own [aB false, nS]] ?_
  refine .cd hr (fun hb12 hr => ?_) (fun hb12 hr => ?_)
  ·refine .seq ?_
   obtain ⟨v13, hc14, v15, hc16, hr⟩ := bd2 hr
   refine .tn fine (ca1 (ok0 (fiducialref01_minus_ok n v1.Groups v3.Groups v13 hc14)) (ca3 (ok0 (fiducialref01_made_ok n v1.Negative v13 v15 hc16)))) <| .mu 6 <| .ca cf0 <| .ca (cfF cf0) <| .mu 1 ?_
   refine .done ⟨by kernel_rfl, ?_⟩
   refine .nh [4] [.own (api_Int.c v1), .own (api_Int.c v3), .own (api_Int.c v15)] <| .ret ?_
   obtain rfl := oi hr
   exact FinQ.r1 [.agg (api_Int.c v15)]
  ·refine .skip <| .seq ?_
   obtain ⟨v17, hc18, v19, hc20, hr⟩ := bd2 hr
   refine .tn fine (ca1 (ok0 (fiducialref01_minus_ok n v3.Groups v1.Groups v17 hc18)) (ca3 (ok0 (fiducialref01_made_ok n v3.Negative v17 v19 hc20)))) <| .mu 6 <| .ca cf0 <| .ca (cfF cf0) <| .mu 1 ?_
   refine .done ⟨by kernel_rfl, ?_⟩
   refine .nh [4] [.own (api_Int.c v1), .own (api_Int.c v3), .own (api_Int.c v19)] <| .ret ?_
   obtain rfl := oi hr
   exact FinQ.r1 [.agg (api_Int.c v19)]

theorem fiducialref01_Sub_ok (n : Nat) (x' : api_Int) (y : api_Int) (r : api_Int) (hr : fiducialref01_Sub n x' y = some r) : FnOk Tryz.prog 188 [.agg (api_Int.c x'), .agg (api_Int.c y)] (.agg (api_Int.c r)) := by
 unfold fiducialref01_Sub at hr
 refine FnOk.bd fine Tryz.func188 [.cell 4 72] ?_
 unfold Tryz.f188
 simp only [Option.getD_some]
 refine .seq <| .r2 fine 9 [(2, .hp 0 0), (3, .hp 1 0), (4, .hp 2 0)] [.own (api_Int.c x'), .own (api_Int.c y), .own [aB false, nS]] <| .seq ?_
 obtain ⟨v1, hc2, v3, hc4, hr⟩ := bd2 hr
 refine .tn fine (ca1 (ok0 (fiducialref01_Neg_ok n y v1 hc2)) (ca3 (ok0 (fiducialref01_Add_ok n x' v1 v3 hc4)))) <| .mu 2 <| .ca cf0 <| .ca (cfF cf0) <| .mu 1 ?_
 refine .done ⟨by kernel_rfl, ?_⟩
 refine .nh [4] [.own (api_Int.c x'), .own (api_Int.c y), .own (api_Int.c v3)] <| .ret ?_
 obtain rfl := oi hr
 exact FinQ.r1 [.agg (api_Int.c v3)]

theorem fiducialref01_Compare_ok (n : Nat) (x' : api_Int) (y : api_Int) (r : Int) (hr : fiducialref01_Compare n x' y = some r) : FnOk Tryz.prog 138 [.agg (api_Int.c x'), .agg (api_Int.c y)] (aI64 r) := by
 unfold fiducialref01_Compare at hr
 refine FnOk.bd fine Tryz.func138 [.tmp 4] ?_
 unfold Tryz.f138
 simp only [Option.getD_some]
 refine .seq <| .r2 fine 9 [(2, .hp 0 0), (3, .hp 1 0)] [.own (api_Int.c x'), .own (api_Int.c y)] <| .seq ?_
 obtain ⟨v1, hc2, v3, hc4, hr⟩ := bd2 hr
 refine .gn fine (ca1 (ok0 (fiducialref01_Sub_ok n x' y v1 hc2)) (ca3 (ok0 (fiducialref01_Sign_ok n v1 v3 hc4)))) <| .mu 2 <| .ca cf0 <| .ca (cfF cf0) <| .mu 1 <| .done <| .ret ?_
 obtain rfl := oi hr
 exact FinQ.r1 [aI64 v3]

theorem fiducialref02_Valid_inj {x' : api_Rat} {x'_ : api_Rat} (h : ([.agg [.at (.bool x'.Num.Negative), slT (iC .u32) x'.Num.Groups, .at (.bool x'.Den.Negative), slT (iC .u32) x'.Den.Groups]] : List AV) = [.agg [.at (.bool x'_.Num.Negative), slT (iC .u32) x'_.Num.Groups, .at (.bool x'_.Den.Negative), slT (iC .u32) x'_.Den.Groups]]) : x' = x'_ := by
 obtain ⟨⟨_, _⟩, ⟨_, _⟩⟩ := x'
 obtain ⟨⟨_, _⟩, ⟨_, _⟩⟩ := x'_
 simp only [List.cons.injEq, AV.agg.injEq, AV.at.injEq, Value.int.injEq, Value.bool.injEq, AV.fn.injEq, AV.pp.injEq, true_and, and_true, slT_inj_int] at h
 simp_all
theorem fiducialref02_Valid_cg (n : Nat) {x' : api_Rat} {x'_ : api_Rat} (h : ([.agg [.at (.bool x'.Num.Negative), slT (iC .u32) x'.Num.Groups, .at (.bool x'.Den.Negative), slT (iC .u32) x'.Den.Groups]] : List AV) = [.agg [.at (.bool x'_.Num.Negative), slT (iC .u32) x'_.Num.Groups, .at (.bool x'_.Den.Negative), slT (iC .u32) x'_.Den.Groups]]) : fiducialref02_Valid n x' = fiducialref02_Valid n x'_ := by
 obtain rfl := fiducialref02_Valid_inj h
 rfl
theorem fiducialref02_Valid_ok (n : Nat) (x' : api_Rat) (r : Bool) (hr : fiducialref02_Valid n x' = some r) : FnOk Tryz.prog 98 [.agg (api_Rat.c x')] (aB r) := by
 unfold fiducialref02_Valid at hr
 refine FnOk.bd fine Tryz.func98 [.tmp 2] ?_
 unfold Tryz.f98
 simp only [Option.getD_some]
 refine .seq <| .r2 fine 27 [(1, .hp 0 0)] [.own (api_Rat.c x')] <| .seq <| .seq ?_
 obtain ⟨v1, hc2, hr⟩ := bd hr
 rcases Bool.eq_false_or_eq_true (!v1) with hb3 | hb3
 ·replace hr := cd_t hb3 hr
  refine .g1 fine (ok0 (fiducialref01_Valid_ok n x'.Num v1 hc2)) <| .mu 2 <| .ca cf0 <| .p0 (v := aB true) (eB hb3) <| .mu 12 <| .done <| .nh [1, 18] [.own (api_Rat.c x')] <| .cT (by kernel_rfl) <| .seq <| .ru fine <| .ret ?_
  obtain rfl := oi hr
  exact FinQ.r1 [aB false]
 ·replace hr := cd_f hb3 hr
  obtain ⟨v4, hc5, hr⟩ := bd hr
  rcases Bool.eq_false_or_eq_true (!v4) with hb6 | hb6
  ·replace hr := cd_t hb6 hr
   refine .gn fine (ca1 (ok0 (fiducialref01_Valid_ok n x'.Num v1 hc2)) (ca3 (ok0 (fiducialref01_Valid_ok n x'.Den v4 hc5)))) <| .mu 2 <| .ca cf0 <| .p0 (v := aB false) (eB hb3) <| .mu 3 <| .ca (cfA (fun h => by rw [sv hc5 hc2 (fiducialref01_Valid_cg n h)]) cf0) <| .pure (v := aB true) (by kernel_rfl) (eB hb6) <| .mu 7 <| .done <| .nh [1, 18] [.own (api_Rat.c x')] <| .cT (by kernel_rfl) <| .seq <| .ru fine <| .ret ?_
   obtain rfl := oi hr
   exact FinQ.r1 [aB false]
  ·replace hr := cd_f hb6 hr
   obtain ⟨v7, hc8, hr⟩ := bd hr
   refine .gn fine (ca1 (ok0 (fiducialref01_Valid_ok n x'.Num v1 hc2)) (ca1 (ok0 (fiducialref01_Valid_ok n x'.Den v4 hc5)) (ca3 (ok0 (fiducialref01_Sign_ok n x'.Den v7 hc8))))) <| .mu 2 <| .ca cf0 <| .p0 (v := aB false) (eB hb3) <| .mu 3 <| .ca (cfA (fun h => by rw [sv hc5 hc2 (fiducialref01_Valid_cg n h)]) cf0) <| .pure (v := aB false) (by kernel_rfl) (eB hb6) <| .mu 4 <| .ca (cfF (cfF cf0)) <| .mu 2 <| .done <| .nh [1, 18] [.own (api_Rat.c x')] ?_
   refine .cd hr (fun hb9 hr => ?_) (fun hb9 hr => ?_)
   ·refine .seq <| .ru fine <| .ret ?_
    obtain rfl := oi hr
    exact FinQ.r1 [aB false]
   ·refine .skip <| .seq ?_
    obtain ⟨v10, hc11, v12, hc13, v14, hc15, hr⟩ := bd3 hr
    refine .gn fine (ca1 (ok0 (fiducialref01_Gcd_ok n x'.Num x'.Den v10 hc11)) (ca1 (ok0 (fiducialref02_whole_ok n 1 v12 hc13)) (ca3 (ok0 (fiducialref01_Compare_ok n v10 v12 v14 hc15))))) <| .mu 4 <| .ca cf0 <| .ca (cfF cf0) <| .ca (cfF (cfF cf0)) <| .mu 2 <| .done <| .ret ?_
    obtain rfl := oi hr
    exact FinQ.r1 [aB ((v14 : Int) == 0)]

theorem fiducialref02_Value_ok (n : Nat) (x' : api_Rat) (r : api_Rat) (hr : fiducialref02_Value n x' = some r) : FnOk Tryz.prog 192 [.agg (api_Rat.c x')] (.agg (api_Rat.c r)) := by
 unfold fiducialref02_Value at hr
 refine FnOk.bd fine Tryz.func192 [.cell 2 74] ?_
 unfold Tryz.f192
 simp only [Option.getD_some]
 refine .seq <| .r2 fine 7 [(1, .hp 0 0), (2, .hp 1 0)] [.own (api_Rat.c x'), .own [aB false, nS, aB false, nS]] <| .seq <| .seq ?_
 obtain ⟨v1, hc2, hr⟩ := bd hr
 refine .g1 fine (ok0 (fiducialref02_Valid_ok n x' v1 hc2)) <| .mu 1 <| .ca cf0 <| .done <| .nh [1, 2, 4] [.own (api_Rat.c x'), .own [aB false, nS, aB false, nS]] ?_
 refine .cd hr (fun hb3 hr => ?_) (fun hb3 hr => ?_)
 ·refine .seq <| .r5 fine [2] [] [.own (api_Rat.c x'), .own (api_Rat.c x')] <| .ret ?_
  obtain rfl := oi hr
  exact FinQ.r1 [.agg (api_Rat.c x')]
 ·refine .skip <| .seq ?_
  obtain ⟨v4, hc5, hr⟩ := bd hr
  refine .g1 fine (ok0 (fiducialref02_Whole_ok n 0 v4 hc5)) <| .ca cf0 <| .mu 1 <| .done <| .nh [2] [.own (api_Rat.c x'), .own (api_Rat.c v4)] <| .ret ?_
  obtain rfl := oi hr
  exact FinQ.r1 [.agg (api_Rat.c v4)]

theorem fiducialref02_Neg_ok (n : Nat) (x' : api_Rat) (r : api_Rat) (hr : fiducialref02_Neg n x' = some r) : FnOk Tryz.prog 194 [.agg (api_Rat.c x')] (.agg (api_Rat.c r)) := by
 unfold fiducialref02_Neg at hr
 refine FnOk.bd fine Tryz.func194 [.cell 2 74] ?_
 unfold Tryz.f194
 simp only [Option.getD_some]
 refine .seq <| .r2 fine 12 [(1, .hp 0 0), (2, .hp 1 0)] [.own (api_Rat.c x'), .own [aB false, nS, aB false, nS]] <| .seq ?_
 obtain ⟨v1, hc2, hr⟩ := bd hr
 refine .g1 fine (ok0 (fiducialref02_Value_ok n x' v1 hc2)) <| .mu 1 <| .ca cf0 <| .mu 2 <| .done <| .nh [2, 3] [.own (api_Rat.c x'), .own [aB false, nS, aB false, nS], .own (api_Rat.c v1)] <| .seq ?_
 obtain ⟨v3, hc4, hr⟩ := bd hr
 refine .t1 fine (ok0 (fiducialref01_Neg_ok n v1.Num v3 hc4)) <| .mu 2 <| .ca cf0 <| .mu 4 ?_
 refine .done ⟨by kernel_rfl, ?_⟩
 refine .nh [2] [.own (api_Rat.c x'), .own [aB v3.Negative, sU32 v3.Groups, aB v1.Den.Negative, sU32 v1.Den.Groups], .own (api_Rat.c v1)] <| .ret ?_
 obtain rfl := oi hr
 exact FinQ.r1 [.agg [aB v3.Negative, sU32 v3.Groups, aB v1.Den.Negative, sU32 v1.Den.Groups]]

theorem fiducialref01_Mul_inj {x' : api_Int} {y : api_Int} {x'_ : api_Int} {y_ : api_Int} (h : ([.agg [.at (.bool x'.Negative), slT (iC .u32) x'.Groups], .agg [.at (.bool y.Negative), slT (iC .u32) y.Groups]] : List AV) = [.agg [.at (.bool x'_.Negative), slT (iC .u32) x'_.Groups], .agg [.at (.bool y_.Negative), slT (iC .u32) y_.Groups]]) : x' = x'_ ∧ y = y_ := by
 obtain ⟨_, _⟩ := x'
 obtain ⟨_, _⟩ := x'_
 obtain ⟨_, _⟩ := y
 obtain ⟨_, _⟩ := y_
 simp only [List.cons.injEq, AV.agg.injEq, AV.at.injEq, Value.int.injEq, Value.bool.injEq, AV.fn.injEq, AV.pp.injEq, true_and, and_true, slT_inj_int] at h
 simp_all
theorem fiducialref01_Mul_cg (n : Nat) {x' : api_Int} {y : api_Int} {x'_ : api_Int} {y_ : api_Int} (h : ([.agg [.at (.bool x'.Negative), slT (iC .u32) x'.Groups], .agg [.at (.bool y.Negative), slT (iC .u32) y.Groups]] : List AV) = [.agg [.at (.bool x'_.Negative), slT (iC .u32) x'_.Groups], .agg [.at (.bool y_.Negative), slT (iC .u32) y_.Groups]]) : fiducialref01_Mul n x' y = fiducialref01_Mul n x'_ y_ := by
 obtain ⟨rfl, rfl⟩ := fiducialref01_Mul_inj h
 rfl
theorem fiducialref01_Mul_ok (n : Nat) (x' : api_Int) (y : api_Int) (r : api_Int) (hr : fiducialref01_Mul n x' y = some r) : FnOk Tryz.prog 223 [.agg (api_Int.c x'), .agg (api_Int.c y)] (.agg (api_Int.c r)) := by
 unfold fiducialref01_Mul at hr
 refine FnOk.bd fine Tryz.func223 [.cell 4 72] ?_
 unfold Tryz.f223
 simp only [Option.getD_some]
 refine .seq <| .r2 fine 85 [(2, .hp 0 0), (3, .hp 1 0), (4, .hp 2 0)] [.own (api_Int.c x'), .own (api_Int.c y), .own [aB false, nS]] <| .seq ?_
 obtain ⟨v1, hc2, v3, hc4, hr⟩ := bd2 hr
 refine .tn fine (ca1 (ok0 (fiducialref01_Value_ok n x' v1 hc2)) (ca3 (ok0 (fiducialref01_Value_ok n y v3 hc4)))) <| .mu 1 <| .ca cf0 <| .mu 1 <| .ca (cfA (fun h => by rw [sv hc4 hc2 (fiducialref01_Value_cg n h)]) cf0) <| .mu 2 ?_
 refine .done ⟨by kernel_rfl, ?_⟩
 refine .nh [2, 3, 4] [.own (api_Int.c v1), .own (api_Int.c v3), .own [aB false, nS]] <| .seq ?_
 obtain ⟨hg5, hg6, hg7, hr⟩ := gd3 hr
 refine .r0 fine <| .mu 7 <| .e0 (v := .hs 3 0 (List.replicate (wrapF .i64 ((v1.Groups.length : Int) + (v3.Groups.length : Int))).toNat ((0 : Int) : Int)).length 1) (ws := [(3, .own ((List.replicate (wrapF .i64 ((v1.Groups.length : Int) + (v3.Groups.length : Int))).toNat ((0 : Int) : Int)).flatMap (iC .u32)))]) (tr (make_own (c := (iC .u32)) (z := (0 : Int)) (n := wrapF .i64 ((v1.Groups.length : Int) + (v3.Groups.length : Int))) (by_ := 4) rfl hg5 hg6 hg7)) <| .mu 1 <| .done <| .nh [2, 3, 4, 5] [.own (api_Int.c v1), .own (api_Int.c v3), .own [aB false, nS], .own ((List.replicate (wrapF .i64 ((v1.Groups.length : Int) + (v3.Groups.length : Int))).toNat ((0 : Int) : Int)).flatMap (iC .u32))] <| .seq <| .seq <| .r4 fine [2, 3, 4, 5] [(6, aI64 0)] <| .block ?_
 replace hr := bd hr; obtain ⟨out_29, hL51, hr⟩ := hr
 refine .loopO (σ := fun z0 => match z0 with | (out_8, i_9) => ⟨mkS 85 0 [(2, .hp 0 0), (3, .hp 1 0), (4, .hp 2 0), (5, .hs 3 0 out_8.length 1), (6, aI64 i_9)], [.own (api_Int.c v1), .own (api_Int.c v3), .own [aB false, nS], .own (out_8.flatMap (iC .u32))]⟩) (Q := fun x st' => x = .exit 0 ∧ Wk 0 st' ⟨mkS 85 0 [(2, .hp 0 0), (3, .hp 1 0), (4, .hp 2 0), (5, .hs 3 0 out_29.length 1)], [.own (api_Int.c v1), .own (api_Int.c v3), .own [aB false, nS], .own (out_29.flatMap (iC .u32))]⟩) hL51 ((Wk.gc [2, 3, 4, 5, 6] [(0, true), (1, true), (2, true), (3, false)] rfl (pKt (pKt (pKt (pKo (iC .u32) (iC_pure _) (List.replicate (wrapF .i64 ((v1.Groups.length : Int) + (v3.Groups.length : Int))).toNat ((0 : Int) : Int)) trivial))))).to (by kernel_rfl)) ?_ ?_
 ·clear hr
  rintro m ⟨out_8, i_9⟩ hr
  show CQ _ _ _ _ _ ⟨_, _⟩
  refine .seq <| .seq <| .r4 fine [2, 3, 4, 5, 6] [(26, aB (decide (i_9 < (v1.Groups.length : Int))))] ?_
  refine .cd hr (fun hb31 hr => ?_) (fun hb31 hr => ?_)
  ·refine .skip <| .seq <| .block <| .seq <| .r4 fine [2, 3, 4, 5, 6] [(7, aU64 0)] <| .seq <| .seq <| .r4 fine [2, 3, 4, 5, 6, 7] [(8, aI64 0)] <| .block ?_
   replace hr := bd hr; obtain ⟨o46, hL47, hr⟩ := hr
   refine .loopO (σ := fun z0 => match z0 with | (out_32, carry_33, j_34) => ⟨mkS 85 0 [(2, .hp 0 0), (3, .hp 1 0), (4, .hp 2 0), (5, .hs 3 0 out_32.length 1), (6, aI64 i_9), (7, aU64 carry_33), (8, aI64 j_34)], [.own (api_Int.c v1), .own (api_Int.c v3), .own [aB false, nS], .own (out_32.flatMap (iC .u32))]⟩) (Q := fun x st' => match (generalizing := false) o46 with | (out_39, carry_40) => x = .exit 2 ∧ Wk 0 st' ⟨mkS 85 0 [(2, .hp 0 0), (3, .hp 1 0), (4, .hp 2 0), (5, .hs 3 0 out_39.length 1), (6, aI64 i_9), (7, aU64 carry_40)], [.own (api_Int.c v1), .own (api_Int.c v3), .own [aB false, nS], .own (out_39.flatMap (iC .u32))]⟩) hL47 ((Wk.gc [2, 3, 4, 5, 6, 7, 8] [(0, true), (1, true), (2, true), (3, false)] rfl (pKt (pKt (pKt (pKo (iC .u32) (iC_pure _) out_8 trivial))))).to (by kernel_rfl)) ?_ ?_
   ·clear hr
    rintro m ⟨out_32, carry_33, j_34⟩ hr
    show CQ _ _ _ _ _ ⟨_, _⟩
    refine .seq <| .seq <| .r4 fine [2, 3, 4, 5, 6, 7, 8] [(33, aB (decide (j_34 < (v3.Groups.length : Int))))] ?_
    refine .cd hr (fun hb42 hr => ?_) (fun hb42 hr => ?_)
    ·refine .skip <| .seq <| .block <| .seq ?_
     obtain ⟨hg43, hg44, hg45, hr⟩ := gd3 hr
     refine .regionT fine callOf_nil <| .mu 4 <| .pure (v := .hp 3 (0 + (wrapF .i64 (i_9 + j_34)).toNat * 1)) (by kernel_rfl) (tr (ofP_guard hg43)) (by kernel_rfl) <| .pure (v := aU32 (gt out_32 (wrapF .i64 (i_9 + j_34)))) (by kernel_rfl) (tr (ofP_some (flat_get (iC_len .u32) (inR_lt hg43) (by decide : 0 < 1) (by omega : 0 + (wrapF .i64 (i_9 + j_34)).toNat * 1 = (wrapF .i64 (i_9 + j_34)).toNat * 1 + 0) (by kernel_rfl)))) (by kernel_rfl) <| .mu 4 <| .pure (v := .pp (v1.Groups.flatMap (iC .u32)) (i_9.toNat * 1)) (by kernel_rfl) (tr (ofP_guard hg44)) (by kernel_rfl) <| .pure (v := aU32 (gt v1.Groups i_9)) (by kernel_rfl) (tr (ofP_some (flat_get (iC_len .u32) (inR_lt hg44) (by decide : 0 < 1) (by omega : i_9.toNat * 1 = i_9.toNat * 1 + 0) (by kernel_rfl)))) (by kernel_rfl) <| .mu 4 <| .pure (v := .pp (v3.Groups.flatMap (iC .u32)) (j_34.toNat * 1)) (by kernel_rfl) (tr (ofP_guard hg45)) (by kernel_rfl) <| .pure (v := aU32 (gt v3.Groups j_34)) (by kernel_rfl) (tr (ofP_some (flat_get (iC_len .u32) (inR_lt hg45) (by decide : 0 < 1) (by omega : j_34.toNat * 1 = j_34.toNat * 1 + 0) (by kernel_rfl)))) (by kernel_rfl) <| .mu 6 ?_
     refine .done ⟨by kernel_rfl, ?_⟩
     refine .nh [2, 3, 4, 5, 6, 8, 9] [.own (api_Int.c v1), .own (api_Int.c v3), .own [aB false, nS], .own (out_32.flatMap (iC .u32))] <| .seq <| .r0 fine <| .mu 7 <| .p0 (v := .hp 3 (0 + (wrapF .i64 (i_9 + j_34)).toNat * 1)) (tr (ofP_guard hg43)) <| .e0 (v := .unk) (ws := [(3, .own ((out_32.set (wrapF .i64 (i_9 + j_34)).toNat (wrapF .u32 ((wrapF .u64 ((wrapF .u64 ((wrapF .u64 (gt out_32 (wrapF .i64 (i_9 + j_34)))) + (wrapF .u64 ((wrapF .u64 (gt v1.Groups i_9)) * (wrapF .u64 (gt v3.Groups j_34)))))) + carry_33)).tmod 1000000000))).flatMap (iC .u32)))]) (tr (stO_t (and_t (flat_fits (n := 1) (iC_len .u32) (inR_lt hg43) (Nat.le_of_ble_eq_true rfl) (by omega : 0 + (wrapF .i64 (i_9 + j_34)).toNat * 1 = (wrapF .i64 (i_9 + j_34)).toNat * 1 + 0))) (congrArg Blk.own (flat_set (xs := [aU32 (wrapF .u32 ((wrapF .u64 ((wrapF .u64 ((wrapF .u64 (gt out_32 (wrapF .i64 (i_9 + j_34)))) + (wrapF .u64 ((wrapF .u64 (gt v1.Groups i_9)) * (wrapF .u64 (gt v3.Groups j_34)))))) + carry_33)).tmod 1000000000))]) (iC_len .u32) (inR_lt hg43) (Nat.le_of_ble_eq_true rfl) (by omega : 0 + (wrapF .i64 (i_9 + j_34)).toNat * 1 = (wrapF .i64 (i_9 + j_34)).toNat * 1 + 0) (by kernel_rfl))))) <| .done <| .nh [2, 3, 4, 5, 6, 8, 9] [.own (api_Int.c v1), .own (api_Int.c v3), .own [aB false, nS], .own ((out_32.set (wrapF .i64 (i_9 + j_34)).toNat (wrapF .u32 ((wrapF .u64 ((wrapF .u64 ((wrapF .u64 (gt out_32 (wrapF .i64 (i_9 + j_34)))) + (wrapF .u64 ((wrapF .u64 (gt v1.Groups i_9)) * (wrapF .u64 (gt v3.Groups j_34)))))) + carry_33)).tmod 1000000000))).flatMap (iC .u32))] <| .ru fine <| .pop <| .ru fine ?_
     exact loopF_back (out_32.set (wrapF .i64 (i_9 + j_34)).toNat (wrapF .u32 ((wrapF .u64 ((wrapF .u64 ((wrapF .u64 (gt out_32 (wrapF .i64 (i_9 + j_34)))) + (wrapF .u64 ((wrapF .u64 (gt v1.Groups i_9)) * (wrapF .u64 (gt v3.Groups j_34)))))) + carry_33)).tmod 1000000000)), wrapF .u64 ((wrapF .u64 ((wrapF .u64 ((wrapF .u64 (gt out_32 (wrapF .i64 (i_9 + j_34)))) + (wrapF .u64 ((wrapF .u64 (gt v1.Groups i_9)) * (wrapF .u64 (gt v3.Groups j_34)))))) + carry_33)).tdiv 1000000000), wrapF .i64 (j_34 + 1)) hr ((Wk.relen 5 (b := 3) (es := 1) (len := out_32.length) (out_32.set (wrapF .i64 (i_9 + j_34)).toNat (wrapF .u32 ((wrapF .u64 ((wrapF .u64 ((wrapF .u64 (gt out_32 (wrapF .i64 (i_9 + j_34)))) + (wrapF .u64 ((wrapF .u64 (gt v1.Groups i_9)) * (wrapF .u64 (gt v3.Groups j_34)))))) + carry_33)).tmod 1000000000))).length (by kernel_rfl) (Eq.symm (List.length_set.trans rfl))).trans ((Wk.gc [2, 3, 4, 5, 6, 7, 8] [(0, true), (1, true), (2, true), (3, false)] rfl (pKt (pKt (pKt (pKo (iC .u32) (iC_pure _) (out_32.set (wrapF .i64 (i_9 + j_34)).toNat (wrapF .u32 ((wrapF .u64 ((wrapF .u64 ((wrapF .u64 (gt out_32 (wrapF .i64 (i_9 + j_34)))) + (wrapF .u64 ((wrapF .u64 (gt v1.Groups i_9)) * (wrapF .u64 (gt v3.Groups j_34)))))) + carry_33)).tmod 1000000000))) trivial))))).to (by kernel_rfl)))
    ·refine .leave rfl ?_
     obtain rfl := oi hr
     exact ⟨rfl, ((Wk.gc [2, 3, 4, 5, 6, 7] [(0, true), (1, true), (2, true), (3, false)] rfl (pKt (pKt (pKt (pKo (iC .u32) (iC_pure _) out_32 trivial))))).to (by kernel_rfl))⟩
   ·rcases o46 with ⟨out_39, carry_40⟩
    rintro x st' hq48
    clear hL47
    obtain ⟨rfl, hq48⟩ := hq48
    refine CQ_exit _ rfl <| .wk hq48 ?_
    obtain ⟨hg49, hr⟩ := gd hr
    refine .r0 fine <| .mu 8 <| .p0 (v := .hp 3 (0 + (wrapF .i64 (i_9 + (v3.Groups.length : Int))).toNat * 1)) (tr (ofP_guard hg49)) <| .e0 (v := .unk) (ws := [(3, .own ((out_39.set (wrapF .i64 (i_9 + (v3.Groups.length : Int))).toNat (wrapF .u32 carry_40)).flatMap (iC .u32)))]) (tr (stO_t (and_t (flat_fits (n := 1) (iC_len .u32) (inR_lt hg49) (Nat.le_of_ble_eq_true rfl) (by omega : 0 + (wrapF .i64 (i_9 + (v3.Groups.length : Int))).toNat * 1 = (wrapF .i64 (i_9 + (v3.Groups.length : Int))).toNat * 1 + 0))) (congrArg Blk.own (flat_set (xs := [aU32 (wrapF .u32 carry_40)]) (iC_len .u32) (inR_lt hg49) (Nat.le_of_ble_eq_true rfl) (by omega : 0 + (wrapF .i64 (i_9 + (v3.Groups.length : Int))).toNat * 1 = (wrapF .i64 (i_9 + (v3.Groups.length : Int))).toNat * 1 + 0) (by kernel_rfl))))) <| .done <| .pop <| .ru fine ?_
    exact loopF_back (out_39.set (wrapF .i64 (i_9 + (v3.Groups.length : Int))).toNat (wrapF .u32 carry_40), wrapF .i64 (i_9 + 1)) hr ((Wk.relen 5 (b := 3) (es := 1) (len := out_39.length) (out_39.set (wrapF .i64 (i_9 + (v3.Groups.length : Int))).toNat (wrapF .u32 carry_40)).length (by kernel_rfl) (Eq.symm (List.length_set.trans rfl))).trans ((Wk.gc [2, 3, 4, 5, 6] [(0, true), (1, true), (2, true), (3, false)] rfl (pKt (pKt (pKt (pKo (iC .u32) (iC_pure _) (out_39.set (wrapF .i64 (i_9 + (v3.Groups.length : Int))).toNat (wrapF .u32 carry_40)) trivial))))).to (by kernel_rfl)))
  ·refine .leave rfl ?_
   obtain rfl := oi hr
   exact ⟨rfl, ((Wk.gc [2, 3, 4, 5] [(0, true), (1, true), (2, true), (3, false)] rfl (pKt (pKt (pKt (pKo (iC .u32) (iC_pure _) out_8 trivial))))).to (by kernel_rfl))⟩
 ·rintro x st' hq52
  clear hL51
  obtain ⟨rfl, hq52⟩ := hq52
  refine CQ_exit _ rfl <| .wk hq52 <| .seq ?_
  obtain ⟨v53, hc54, hr⟩ := bd hr
  refine .g1 fine (callOk_ref (args := [aB (v1.Negative != v3.Negative), .hs 3 0 out_29.length 1]) (l := [3]) (SnL.cons (Sn.pure rfl) (SnL.cons (Sn.hs rfl (.inl rfl) (SnC.pure (ids_flat (iC_pure _) _)) (fun h => flat_nil0 h)) SnL.nil)) (fiducialref01_made_ok n (v1.Negative != v3.Negative) out_29 v53 hc54)) <| .mu 6 <| .ca cf0 <| .mu 1 <| .done <| .nh [4] [.own (api_Int.c v1), .own (api_Int.c v3), .own (api_Int.c v53), .fix (out_29.flatMap (iC .u32))] <| .ret ?_
  obtain rfl := oi hr
  exact FinQ.r1 [.agg (api_Int.c v53)]

theorem fiducialref01_Divide_ok (n : Nat) (x' : api_Int) (y : api_Int) (r : api_Int × api_Int × Int) (hr : fiducialref01_Divide n x' y = some r) : FnOk Tryz.prog 229 [.agg (api_Int.c x'), .agg (api_Int.c y)] (.tup [.agg (api_Int.c r.1), .agg (api_Int.c r.2.1), aI64 r.2.2]) := by
 unfold fiducialref01_Divide at hr
 refine FnOk.bd fine Tryz.func229 [.cell 4 72, .cell 5 72, .tmp 6] ?_
 unfold Tryz.f229
 simp only [Option.getD_some]
 refine .seq <| .r2 fine 54 [(2, .hp 0 0), (3, .hp 1 0), (4, .hp 2 0), (5, .hp 3 0)] [.own (api_Int.c x'), .own (api_Int.c y), .own [aB false, nS], .own [aB false, nS]] <| .seq ?_
 obtain ⟨v1, hc2, v3, hc4, hr⟩ := bd2 hr
 refine .tn fine (ca1 (ok0 (fiducialref01_Value_ok n x' v1 hc2)) (ca3 (ok0 (fiducialref01_Value_ok n y v3 hc4)))) <| .mu 1 <| .ca cf0 <| .mu 1 <| .ca (cfA (fun h => by rw [sv hc4 hc2 (fiducialref01_Value_cg n h)]) cf0) <| .mu 2 ?_
 refine .done ⟨by kernel_rfl, ?_⟩
 refine .nh [2, 3, 4, 5] [.own (api_Int.c v1), .own (api_Int.c v3), .own [aB false, nS], .own [aB false, nS]] <| .seq <| .seq <| .r4 fine [2, 3, 4, 5] [(17, aB (((v3.Groups.length : Int) : Int) == 0))] ?_
 refine .cd hr (fun hb5 hr => ?_) (fun hb5 hr => ?_)
 ·refine .seq <| .r4 fine [4, 5] [(6, aI64 14)] <| .ret ?_
  obtain rfl := oi hr
  exact FinQ.ret (vs := [.agg [aB false, nS], .agg [aB false, nS], aI64 14]) (by kernel_rfl) (Sn.tup (SnL.cons (Sn.agg (SnL.cons (Sn.pure rfl) (SnL.cons Sn.nilsl SnL.nil))) (SnL.cons (Sn.agg (SnL.cons (Sn.pure rfl) (SnL.cons Sn.nilsl SnL.nil))) (SnL.cons (Sn.pure rfl) SnL.nil))))
 ·refine .skip <| .seq ?_
  obtain ⟨v6, hc7, hr⟩ := bd hr
  refine .g1 fine (ok0 (fiducialref01_parts_ok n v1.Groups v3.Groups v6 hc7)) <| .mu 4 <| .ca cf0 <| .mu 5 <| .done <| .nh [2, 3, 4, 5, 7, 8] [.own (api_Int.c v1), .own (api_Int.c v3), .own [aB false, nS], .own [aB false, nS]] <| .seq ?_
  obtain ⟨v8, hc9, hr⟩ := bd hr
  refine .g1 fine (ok0 (fiducialref01_made_ok n (v1.Negative != v3.Negative) v6.1 v8 hc9)) <| .mu 6 <| .ca cf0 <| .mu 2 <| .done <| .nh [2, 3, 4, 5, 8, 9] [.own (api_Int.c v1), .own (api_Int.c v3), .own [aB false, nS], .own [aB false, nS], .own (api_Int.c v8)] <| .seq <| .seq ?_
  rcases Bool.eq_false_or_eq_true (v1.Negative != v3.Negative) with hb10 | hb10
  ·replace hr := cd_t hb10 hr
   refine .r0 fine <| .mu 4 <| .p0 (v := aB true) (eB hb10) <| .mu 5 <| .done <| .nh [2, 3, 4, 5, 9, 44] [.own (api_Int.c v1), .own (api_Int.c v3), .own [aB false, nS], .own [aB false, nS], .own (api_Int.c v8)] ?_
   refine .cd hr (fun hb11 hr => ?_) (fun hb11 hr => ?_)
   ·obtain ⟨v12, hc13, v14, hc15, hr⟩ := bd2 hr
    refine .tn fine (ca1 (ok0 (fiducialref01_Of_ok n 1 v12 hc13)) (ca3 (ok0 (fiducialref01_Sub_ok n v8 v12 v14 hc15)))) <| .mu 1 <| .ca cf0 <| .ca (cfF cf0) <| .mu 1 ?_
    refine .done ⟨by kernel_rfl, ?_⟩
    refine .nh [2, 3, 4, 5, 9] [.own (api_Int.c v1), .own (api_Int.c v3), .own [aB false, nS], .own [aB false, nS], .own (api_Int.c v14)] <| .seq ?_
    obtain ⟨v16, hc17, v18, hc19, hr⟩ := bd2 hr
    refine .tn fine (ca1 (ok0 (fiducialref01_Mul_ok n v14 v3 v16 hc17)) (ca3 (ok0 (fiducialref01_Sub_ok n v1 v16 v18 hc19)))) <| .mu 4 <| .ca cf0 <| .ca (cfF cf0) <| .mu 3 ?_
    refine .done ⟨by kernel_rfl, ?_⟩
    refine .nh [4, 5, 6] [.own (api_Int.c v1), .own (api_Int.c v3), .own (api_Int.c v14), .own (api_Int.c v18), .own (api_Int.c v14)] <| .ret ?_
    obtain rfl := oi hr
    exact FinQ.ret (vs := [.agg (api_Int.c v14), .agg (api_Int.c v18), aI64 0]) (by kernel_rfl) (Sn.tup (SnL.cons (Sn.pure rfl) (SnL.cons (Sn.pure rfl) (SnL.cons (Sn.pure rfl) SnL.nil))))
   ·refine .skip <| .seq ?_
    obtain ⟨v20, hc21, v22, hc23, hr⟩ := bd2 hr
    refine .tn fine (ca1 (ok0 (fiducialref01_Mul_ok n v8 v3 v20 hc21)) (ca3 (ok0 (fiducialref01_Sub_ok n v1 v20 v22 hc23)))) <| .mu 4 <| .ca cf0 <| .ca (cfF cf0) <| .mu 3 ?_
    refine .done ⟨by kernel_rfl, ?_⟩
    refine .nh [4, 5, 6] [.own (api_Int.c v1), .own (api_Int.c v3), .own (api_Int.c v8), .own (api_Int.c v22), .own (api_Int.c v8)] <| .ret ?_
    obtain rfl := oi hr
    exact FinQ.ret (vs := [.agg (api_Int.c v8), .agg (api_Int.c v22), aI64 0]) (by kernel_rfl) (Sn.tup (SnL.cons (Sn.pure rfl) (SnL.cons (Sn.pure rfl) (SnL.cons (Sn.pure rfl) SnL.nil))))
  ·replace hr := cd_f hb10 hr
   refine .r0 fine <| .mu 4 <| .p0 (v := aB false) (eB hb10) <| .mu 5 <| .done <| .nh [2, 3, 4, 5, 9, 44] [.own (api_Int.c v1), .own (api_Int.c v3), .own [aB false, nS], .own [aB false, nS], .own (api_Int.c v8)] <| .cF (by kernel_rfl) <| .skip <| .seq ?_
   obtain ⟨v24, hc25, v26, hc27, hr⟩ := bd2 hr
   refine .tn fine (ca1 (ok0 (fiducialref01_Mul_ok n v8 v3 v24 hc25)) (ca3 (ok0 (fiducialref01_Sub_ok n v1 v24 v26 hc27)))) <| .mu 4 <| .ca cf0 <| .ca (cfF cf0) <| .mu 3 ?_
   refine .done ⟨by kernel_rfl, ?_⟩
   refine .nh [4, 5, 6] [.own (api_Int.c v1), .own (api_Int.c v3), .own (api_Int.c v8), .own (api_Int.c v26), .own (api_Int.c v8)] <| .ret ?_
   obtain rfl := oi hr
   exact FinQ.ret (vs := [.agg (api_Int.c v8), .agg (api_Int.c v26), aI64 0]) (by kernel_rfl) (Sn.tup (SnL.cons (Sn.pure rfl) (SnL.cons (Sn.pure rfl) (SnL.cons (Sn.pure rfl) SnL.nil))))

theorem fiducialref02_reduced_ok (n : Nat) (num : api_Int) (den : api_Int) (r : api_Rat) (hr : fiducialref02_reduced n num den = some r) : FnOk Tryz.prog 222 [.agg (api_Int.c num), .agg (api_Int.c den)] (.agg (api_Rat.c r)) := by
 unfold fiducialref02_reduced at hr
 refine FnOk.bd fine Tryz.func222 [.cell 4 74] ?_
 unfold Tryz.f222
 simp only [Option.getD_some]
 refine .seq <| .r2 fine 37 [(2, .hp 0 0), (3, .hp 1 0), (4, .hp 2 0)] [.own (api_Int.c num), .own (api_Int.c den), .own [aB false, nS, aB false, nS]] <| .seq ?_
 obtain ⟨v1, hc2, hr⟩ := bd hr
 refine .g1 fine (ok0 (fiducialref01_Gcd_ok n num den v1 hc2)) <| .mu 2 <| .ca cf0 <| .mu 2 <| .done <| .nh [2, 3, 4, 5] [.own (api_Int.c num), .own (api_Int.c den), .own [aB false, nS, aB false, nS], .own (api_Int.c v1)] <| .seq <| .seq ?_
 obtain ⟨v3, hc4, hr⟩ := bd hr
 refine .g1 fine (ok0 (fiducialref01_Sign_ok n den v3 hc4)) <| .mu 1 <| .ca cf0 <| .mu 1 <| .done <| .nh [2, 3, 4, 5, 17] [.own (api_Int.c num), .own (api_Int.c den), .own [aB false, nS, aB false, nS], .own (api_Int.c v1)] ?_
 refine .cd hr (fun hb5 hr => ?_) (fun hb5 hr => ?_)
 ·obtain ⟨v6, hc7, hr⟩ := bd hr
  refine .g1 fine (ok0 (fiducialref01_Neg_ok n v1 v6 hc7)) <| .mu 1 <| .ca cf0 <| .mu 1 <| .done <| .nh [2, 3, 4, 5] [.own (api_Int.c num), .own (api_Int.c den), .own [aB false, nS, aB false, nS], .own (api_Int.c v6)] <| .seq ?_
  obtain ⟨v8, hc9, hr⟩ := bd hr
  refine .g1 fine (ok0 (fiducialref01_Divide_ok n num v6 v8 hc9)) <| .mu 2 <| .ca cf0 <| .mu 9 <| .done <| .nh [3, 4, 5, 6] [.own (api_Int.c num), .own (api_Int.c den), .own [aB false, nS, aB false, nS], .own (api_Int.c v6), .own (api_Int.c v8.1), .own (api_Int.c v8.2.1)] <| .seq ?_
  obtain ⟨v10, hc11, hr⟩ := bd hr
  refine .g1 fine (ok0 (fiducialref01_Divide_ok n den v6 v10 hc11)) <| .mu 2 <| .ca cf0 <| .mu 9 <| .done <| .nh [4, 6, 9] [.own (api_Int.c num), .own (api_Int.c den), .own [aB false, nS, aB false, nS], .own (api_Int.c v6), .own (api_Int.c v8.1), .own (api_Int.c v8.2.1), .own (api_Int.c v10.1), .own (api_Int.c v10.2.1)] <| .seq <| .r5 fine [4] [] [.own (api_Int.c num), .own (api_Int.c den), .own [aB v8.1.Negative, sU32 v8.1.Groups, aB v10.1.Negative, sU32 v10.1.Groups], .own (api_Int.c v6), .own (api_Int.c v8.1), .own (api_Int.c v8.2.1), .own (api_Int.c v10.1), .own (api_Int.c v10.2.1)] <| .ret ?_
  obtain rfl := oi hr
  exact FinQ.r1 [.agg [aB v8.1.Negative, sU32 v8.1.Groups, aB v10.1.Negative, sU32 v10.1.Groups]]
 ·refine .skip <| .seq ?_
  obtain ⟨v12, hc13, hr⟩ := bd hr
  refine .g1 fine (ok0 (fiducialref01_Divide_ok n num v1 v12 hc13)) <| .mu 2 <| .ca cf0 <| .mu 9 <| .done <| .nh [3, 4, 5, 6] [.own (api_Int.c num), .own (api_Int.c den), .own [aB false, nS, aB false, nS], .own (api_Int.c v1), .own (api_Int.c v12.1), .own (api_Int.c v12.2.1)] <| .seq ?_
  obtain ⟨v14, hc15, hr⟩ := bd hr
  refine .g1 fine (ok0 (fiducialref01_Divide_ok n den v1 v14 hc15)) <| .mu 2 <| .ca cf0 <| .mu 9 <| .done <| .nh [4, 6, 9] [.own (api_Int.c num), .own (api_Int.c den), .own [aB false, nS, aB false, nS], .own (api_Int.c v1), .own (api_Int.c v12.1), .own (api_Int.c v12.2.1), .own (api_Int.c v14.1), .own (api_Int.c v14.2.1)] <| .seq <| .r5 fine [4] [] [.own (api_Int.c num), .own (api_Int.c den), .own [aB v12.1.Negative, sU32 v12.1.Groups, aB v14.1.Negative, sU32 v14.1.Groups], .own (api_Int.c v1), .own (api_Int.c v12.1), .own (api_Int.c v12.2.1), .own (api_Int.c v14.1), .own (api_Int.c v14.2.1)] <| .ret ?_
  obtain rfl := oi hr
  exact FinQ.r1 [.agg [aB v12.1.Negative, sU32 v12.1.Groups, aB v14.1.Negative, sU32 v14.1.Groups]]

theorem fiducialref02_Add_ok (n : Nat) (x' : api_Rat) (y : api_Rat) (r : api_Rat) (hr : fiducialref02_Add n x' y = some r) : FnOk Tryz.prog 193 [.agg (api_Rat.c x'), .agg (api_Rat.c y)] (.agg (api_Rat.c r)) := by
 unfold fiducialref02_Add at hr
 refine FnOk.bd fine Tryz.func193 [.cell 4 74] ?_
 unfold Tryz.f193
 simp only [Option.getD_some]
 refine .seq <| .r2 fine 28 [(2, .hp 0 0), (3, .hp 1 0), (4, .hp 2 0)] [.own (api_Rat.c x'), .own (api_Rat.c y), .own [aB false, nS, aB false, nS]] <| .seq ?_
 obtain ⟨v1, hc2, hr⟩ := bd hr
 refine .g1 fine (ok0 (fiducialref02_Value_ok n x' v1 hc2)) <| .mu 1 <| .ca cf0 <| .mu 2 <| .done <| .nh [3, 4, 5] [.own (api_Rat.c x'), .own (api_Rat.c y), .own [aB false, nS, aB false, nS], .own (api_Rat.c v1)] <| .seq ?_
 obtain ⟨v3, hc4, hr⟩ := bd hr
 refine .g1 fine (ok0 (fiducialref02_Value_ok n y v3 hc4)) <| .mu 1 <| .ca cf0 <| .mu 2 <| .done <| .nh [4, 5, 6] [.own (api_Rat.c x'), .own (api_Rat.c y), .own [aB false, nS, aB false, nS], .own (api_Rat.c v1), .own (api_Rat.c v3)] <| .seq ?_
 obtain ⟨v5, hc6, v7, hc8, v9, hc10, hr⟩ := bd3 hr
 obtain ⟨v11, hc12, v13, hc14, hr⟩ := bd2 hr
 refine .tn fine (ca1 (ok0 (fiducialref01_Mul_ok n v1.Num v3.Den v5 hc6)) (ca1 (ok0 (fiducialref01_Mul_ok n v3.Num v1.Den v7 hc8)) (ca1 (ok0 (fiducialref01_Add_ok n v5 v7 v9 hc10)) (ca1 (ok0 (fiducialref01_Mul_ok n v1.Den v3.Den v11 hc12)) (ca3 (ok0 (fiducialref02_reduced_ok n v9 v11 v13 hc14))))))) <| .mu 4 <| .ca cf0 <| .mu 4 <| .ca (cfA (fun h => by rw [sv hc8 hc6 (fiducialref01_Mul_cg n h)]) cf0) <| .ca (cfF (cfF cf0)) <| .mu 4 <| .ca (cfA (fun h => by rw [sv hc12 hc6 (fiducialref01_Mul_cg n h)]) (cfA (fun h => by rw [sv hc12 hc8 (fiducialref01_Mul_cg n h)]) (cfF cf0))) <| .ca (cfF (cfF (cfF (cfF cf0)))) <| .mu 1 ?_
 refine .done ⟨by kernel_rfl, ?_⟩
 refine .nh [4] [.own (api_Rat.c x'), .own (api_Rat.c y), .own (api_Rat.c v13), .own (api_Rat.c v1), .own (api_Rat.c v3)] <| .ret ?_
 obtain rfl := oi hr
 exact FinQ.r1 [.agg (api_Rat.c v13)]

theorem fiducialref02_Sub_ok (n : Nat) (x' : api_Rat) (y : api_Rat) (r : api_Rat) (hr : fiducialref02_Sub n x' y = some r) : FnOk Tryz.prog 141 [.agg (api_Rat.c x'), .agg (api_Rat.c y)] (.agg (api_Rat.c r)) := by
 unfold fiducialref02_Sub at hr
 refine FnOk.bd fine Tryz.func141 [.cell 4 74] ?_
 unfold Tryz.f141
 simp only [Option.getD_some]
 refine .seq <| .r2 fine 9 [(2, .hp 0 0), (3, .hp 1 0), (4, .hp 2 0)] [.own (api_Rat.c x'), .own (api_Rat.c y), .own [aB false, nS, aB false, nS]] <| .seq ?_
 obtain ⟨v1, hc2, v3, hc4, hr⟩ := bd2 hr
 refine .tn fine (ca1 (ok0 (fiducialref02_Neg_ok n y v1 hc2)) (ca3 (ok0 (fiducialref02_Add_ok n x' v1 v3 hc4)))) <| .mu 2 <| .ca cf0 <| .ca (cfF cf0) <| .mu 1 ?_
 refine .done ⟨by kernel_rfl, ?_⟩
 refine .nh [4] [.own (api_Rat.c x'), .own (api_Rat.c y), .own (api_Rat.c v3)] <| .ret ?_
 obtain rfl := oi hr
 exact FinQ.r1 [.agg (api_Rat.c v3)]

theorem fiducialref02_Sign_ok (n : Nat) (x' : api_Rat) (r : Int) (hr : fiducialref02_Sign n x' = some r) : FnOk Tryz.prog 140 [.agg (api_Rat.c x')] (aI64 r) := by
 unfold fiducialref02_Sign at hr
 refine FnOk.bd fine Tryz.func140 [.tmp 2] ?_
 unfold Tryz.f140
 simp only [Option.getD_some]
 refine .seq <| .r2 fine 7 [(1, .hp 0 0)] [.own (api_Rat.c x')] <| .seq ?_
 obtain ⟨v1, hc2, v3, hc4, hr⟩ := bd2 hr
 refine .gn fine (ca1 (ok0 (fiducialref02_Value_ok n x' v1 hc2)) (ca3 (ok0 (fiducialref01_Sign_ok n v1.Num v3 hc4)))) <| .mu 1 <| .ca cf0 <| .mu 1 <| .ca (cfF cf0) <| .mu 1 <| .done <| .ret ?_
 obtain rfl := oi hr
 exact FinQ.r1 [aI64 v3]

theorem fiducialref02_Compare_ok (n : Nat) (x' : api_Rat) (y : api_Rat) (r : Int) (hr : fiducialref02_Compare n x' y = some r) : FnOk Tryz.prog 99 [.agg (api_Rat.c x'), .agg (api_Rat.c y)] (aI64 r) := by
 unfold fiducialref02_Compare at hr
 refine FnOk.bd fine Tryz.func99 [.tmp 4] ?_
 unfold Tryz.f99
 simp only [Option.getD_some]
 refine .seq <| .r2 fine 9 [(2, .hp 0 0), (3, .hp 1 0)] [.own (api_Rat.c x'), .own (api_Rat.c y)] <| .seq ?_
 obtain ⟨v1, hc2, v3, hc4, hr⟩ := bd2 hr
 refine .gn fine (ca1 (ok0 (fiducialref02_Sub_ok n x' y v1 hc2)) (ca3 (ok0 (fiducialref02_Sign_ok n v1 v3 hc4)))) <| .mu 2 <| .ca cf0 <| .ca (cfF cf0) <| .mu 1 <| .done <| .ret ?_
 obtain rfl := oi hr
 exact FinQ.r1 [aI64 v3]

theorem fiducialref02_Same_ok (n : Nat) (x' : api_Rat) (y : api_Rat) (r : Bool) (hr : fiducialref02_Same n x' y = some r) : FnOk Tryz.prog 53 [.agg (api_Rat.c x'), .agg (api_Rat.c y)] (aB r) := by
 unfold fiducialref02_Same at hr
 refine FnOk.bd fine Tryz.func53 [.tmp 4] ?_
 unfold Tryz.f53
 simp only [Option.getD_some]
 refine .seq <| .r2 fine 17 [(2, .hp 0 0), (3, .hp 1 0)] [.own (api_Rat.c x'), .own (api_Rat.c y)] <| .seq ?_
 obtain ⟨v1, hc2, hr⟩ := bd hr
 rcases Bool.eq_false_or_eq_true v1 with hb3 | hb3
 ·subst hb3
  replace hr := cd_t rfl hr
  obtain ⟨v4, hc5, hr⟩ := bd hr
  rcases Bool.eq_false_or_eq_true v4 with hb6 | hb6
  ·subst hb6
   replace hr := cd_t rfl hr
   obtain ⟨v7, hc8, hr⟩ := bd hr
   refine .gn fine (ca1 (ok0 (fiducialref02_Valid_ok n x' true hc2)) (ca1 (ok0 (fiducialref02_Valid_ok n y true hc5)) (ca3 (ok0 (fiducialref02_Compare_ok n x' y v7 hc8))))) <| .mu 1 <| .ca cf0 <| .mu 2 <| .ca (cfA (fun h => by rw [sv hc5 hc2 (fiducialref02_Valid_cg n h)]) cf0) <| .mu 4 <| .ca (cfF (cfF cf0)) <| .mu 3 <| .done <| .ret ?_
   obtain rfl := oi hr
   exact FinQ.r1 [aB ((v7 : Int) == 0)]
  ·subst hb6
   replace hr := cd_f rfl hr
   refine .gn fine (ca1 (ok0 (fiducialref02_Valid_ok n x' true hc2)) (ca3 (ok0 (fiducialref02_Valid_ok n y false hc5)))) <| .mu 1 <| .ca cf0 <| .mu 2 <| .ca (cfA (fun h => by rw [sv hc5 hc2 (fiducialref02_Valid_cg n h)]) cf0) <| .mu 8 <| .done <| .ret ?_
   obtain rfl := oi hr
   exact FinQ.r1 [aB false]
 ·subst hb3
  replace hr := cd_f rfl hr
  refine .g1 fine (ok0 (fiducialref02_Valid_ok n x' false hc2)) <| .mu 1 <| .ca cf0 <| .mu 11 <| .done <| .ret ?_
  obtain rfl := oi hr
  exact FinQ.r1 [aB false]

theorem fiduciallaw09_known_ok (n : Nat) (r : Bool) (hr : fiduciallaw09_known n = some r) : FnOk Tryz.prog 21 [] (aB r) := by
 unfold fiduciallaw09_known at hr
 refine FnOk.bd fine Tryz.func21 [.tmp 0] ?_
 unfold Tryz.f21
 simp only [Option.getD_some]
 refine .seq <| .r3 fine 64 [] <| .seq <| .r2 fine 64 [(1, .hp 0 0), (2, .hp 1 0), (3, .hp 2 0)] [.own [aI64 0, aI64 0], .own [aI64 4, aI64 0], .own [aI64 0, aI64 4]] <| .seq ?_
 obtain ⟨v1, hc2, hr⟩ := bd hr
 refine .g1 fine (ok0 (predicate_Relate_ok n (api_Pix.mk 0 0) (api_Pix.mk 4 4) (api_Pix.mk 4 0) (api_Pix.mk 0 4) v1 hc2)) <| .mu 4 <| .ca cf0 <| .mu 5 <| .done <| .nh [1, 2, 3, 4, 5] [.own [aI64 0, aI64 0], .own [aI64 4, aI64 0], .own [aI64 0, aI64 4]] <| .seq ?_
 obtain ⟨v3, hc4, hr⟩ := bd hr
 refine .g1 fine (ok0 (predicate_Meet_ok n (api_Pix.mk 0 0) (api_Pix.mk 4 4) (api_Pix.mk 4 0) (api_Pix.mk 0 4) v3 hc4)) <| .mu 4 <| .ca cf0 <| .mu 6 <| .done <| .nh [1, 2, 3, 4, 5, 6, 7] [.own [aI64 0, aI64 0], .own [aI64 4, aI64 0], .own [aI64 0, aI64 4], .own (api_Place.c v3.1)] <| .seq ?_
 obtain ⟨v5, hc6, hr⟩ := bd hr
 rcases Bool.eq_false_or_eq_true ((v5 : Int) == 1) with hb7 | hb7
 ·replace hr := cd_t hb7 hr
  obtain ⟨v8, hc9, hr⟩ := bd hr
  rcases Bool.eq_false_or_eq_true ((v8 : Int) == 1) with hb10 | hb10
  ·replace hr := cd_t hb10 hr
   rcases Bool.eq_false_or_eq_true ((v1.1 : Int) == 2) with hb11 | hb11
   ·replace hr := cd_t hb11 hr
    rcases Bool.eq_false_or_eq_true ((v1.2 : Int) == 0) with hb12 | hb12
    ·replace hr := cd_t hb12 hr
     rcases Bool.eq_false_or_eq_true ((v3.2 : Int) == 0) with hb13 | hb13
     ·replace hr := cd_t hb13 hr
      obtain ⟨v14, hc15, v16, hc17, hr⟩ := bd2 hr
      rcases Bool.eq_false_or_eq_true v16 with hb18 | hb18
      ·subst hb18
       replace hr := cd_t rfl hr
       obtain ⟨v19, hc20, hr⟩ := bd hr
       refine .tn fine (ca1 (ok0 (predicate_Orient_ok n (api_Pix.mk 0 0) (api_Pix.mk 4 0) (api_Pix.mk 0 4) v5 hc6)) (ca1 (ok0 (predicate_Circle_ok n (api_Pix.mk 0 0) (api_Pix.mk 4 0) (api_Pix.mk 0 4) (api_Pix.mk 1 1) v8 hc9)) (ca1 (ok0 (fiducialref02_Whole_ok n 2 v14 hc15)) (ca1 (ok0 (fiducialref02_Same_ok n v3.1.X v14 true hc17)) (ca4 [.own [aI64 0, aI64 0], .own [aI64 4, aI64 0], .own [aI64 0, aI64 4], .own (api_Place.c v3.1), .own [aI64 2097152, aI64 0]] (callOk_val (args := [.hs 4 0 1 2]) (l := [4]) rfl (SnL.cons (Sn.hs rfl (.inl rfl) (SnC.cons (Sn.pure rfl) (SnC.cons (Sn.pure rfl) SnC.nil)) (fun h => nomatch h)) SnL.nil) (predicate_Check_ok n [api_Pix.mk 2097152 0] v19 hc20))))))) <| .mu 3 <| .ca cf0 <| .pure (v := aB true) (by kernel_rfl) (eB hb7) (by kernel_rfl) <| .mu 5 <| .ca (cfF cf0) <| .pure (v := aB true) (by kernel_rfl) (eB hb10) (by kernel_rfl) <| .mu 3 <| .pure (v := aB true) (by kernel_rfl) (eB hb11) (by kernel_rfl) <| .mu 3 <| .pure (v := aB true) (by kernel_rfl) (eB hb12) (by kernel_rfl) <| .mu 3 <| .pure (v := aB true) (by kernel_rfl) (eB hb13) (by kernel_rfl) <| .mu 4 <| .ca (cfF (cfF cf0)) <| .ca (cfF (cfF (cfF cf0))) <| .mu 4 <| .ca (cfF (cfF (cfF (cfF cf0)))) <| .mu 3 ?_
       refine .done ⟨by kernel_rfl, ?_⟩
       refine .ret ?_
       obtain rfl := oi hr
       exact FinQ.r1 [aB ((v19 : Int) == 2)]
      ·subst hb18
       replace hr := cd_f rfl hr
       refine .tn fine (ca1 (ok0 (predicate_Orient_ok n (api_Pix.mk 0 0) (api_Pix.mk 4 0) (api_Pix.mk 0 4) v5 hc6)) (ca1 (ok0 (predicate_Circle_ok n (api_Pix.mk 0 0) (api_Pix.mk 4 0) (api_Pix.mk 0 4) (api_Pix.mk 1 1) v8 hc9)) (ca1 (ok0 (fiducialref02_Whole_ok n 2 v14 hc15)) (ca3 (ok0 (fiducialref02_Same_ok n v3.1.X v14 false hc17)))))) <| .mu 3 <| .ca cf0 <| .pure (v := aB true) (by kernel_rfl) (eB hb7) (by kernel_rfl) <| .mu 5 <| .ca (cfF cf0) <| .pure (v := aB true) (by kernel_rfl) (eB hb10) (by kernel_rfl) <| .mu 3 <| .pure (v := aB true) (by kernel_rfl) (eB hb11) (by kernel_rfl) <| .mu 3 <| .pure (v := aB true) (by kernel_rfl) (eB hb12) (by kernel_rfl) <| .mu 3 <| .pure (v := aB true) (by kernel_rfl) (eB hb13) (by kernel_rfl) <| .mu 4 <| .ca (cfF (cfF cf0)) <| .ca (cfF (cfF (cfF cf0))) <| .mu 8 ?_
       refine .done ⟨by kernel_rfl, ?_⟩
       refine .ret ?_
       obtain rfl := oi hr
       exact FinQ.r1 [aB false]
     ·replace hr := cd_f hb13 hr
      refine .tn fine (ca1 (ok0 (predicate_Orient_ok n (api_Pix.mk 0 0) (api_Pix.mk 4 0) (api_Pix.mk 0 4) v5 hc6)) (ca3 (ok0 (predicate_Circle_ok n (api_Pix.mk 0 0) (api_Pix.mk 4 0) (api_Pix.mk 0 4) (api_Pix.mk 1 1) v8 hc9)))) <| .mu 3 <| .ca cf0 <| .pure (v := aB true) (by kernel_rfl) (eB hb7) (by kernel_rfl) <| .mu 5 <| .ca (cfF cf0) <| .pure (v := aB true) (by kernel_rfl) (eB hb10) (by kernel_rfl) <| .mu 3 <| .pure (v := aB true) (by kernel_rfl) (eB hb11) (by kernel_rfl) <| .mu 3 <| .pure (v := aB true) (by kernel_rfl) (eB hb12) (by kernel_rfl) <| .mu 3 <| .pure (v := aB false) (by kernel_rfl) (eB hb13) (by kernel_rfl) <| .mu 14 ?_
      refine .done ⟨by kernel_rfl, ?_⟩
      refine .ret ?_
      obtain rfl := oi hr
      exact FinQ.r1 [aB false]
    ·replace hr := cd_f hb12 hr
     refine .tn fine (ca1 (ok0 (predicate_Orient_ok n (api_Pix.mk 0 0) (api_Pix.mk 4 0) (api_Pix.mk 0 4) v5 hc6)) (ca3 (ok0 (predicate_Circle_ok n (api_Pix.mk 0 0) (api_Pix.mk 4 0) (api_Pix.mk 0 4) (api_Pix.mk 1 1) v8 hc9)))) <| .mu 3 <| .ca cf0 <| .pure (v := aB true) (by kernel_rfl) (eB hb7) (by kernel_rfl) <| .mu 5 <| .ca (cfF cf0) <| .pure (v := aB true) (by kernel_rfl) (eB hb10) (by kernel_rfl) <| .mu 3 <| .pure (v := aB true) (by kernel_rfl) (eB hb11) (by kernel_rfl) <| .mu 3 <| .pure (v := aB false) (by kernel_rfl) (eB hb12) (by kernel_rfl) <| .mu 18 ?_
     refine .done ⟨by kernel_rfl, ?_⟩
     refine .ret ?_
     obtain rfl := oi hr
     exact FinQ.r1 [aB false]
   ·replace hr := cd_f hb11 hr
    refine .tn fine (ca1 (ok0 (predicate_Orient_ok n (api_Pix.mk 0 0) (api_Pix.mk 4 0) (api_Pix.mk 0 4) v5 hc6)) (ca3 (ok0 (predicate_Circle_ok n (api_Pix.mk 0 0) (api_Pix.mk 4 0) (api_Pix.mk 0 4) (api_Pix.mk 1 1) v8 hc9)))) <| .mu 3 <| .ca cf0 <| .pure (v := aB true) (by kernel_rfl) (eB hb7) (by kernel_rfl) <| .mu 5 <| .ca (cfF cf0) <| .pure (v := aB true) (by kernel_rfl) (eB hb10) (by kernel_rfl) <| .mu 3 <| .pure (v := aB false) (by kernel_rfl) (eB hb11) (by kernel_rfl) <| .mu 22 ?_
    refine .done ⟨by kernel_rfl, ?_⟩
    refine .ret ?_
    obtain rfl := oi hr
    exact FinQ.r1 [aB false]
  ·replace hr := cd_f hb10 hr
   refine .tn fine (ca1 (ok0 (predicate_Orient_ok n (api_Pix.mk 0 0) (api_Pix.mk 4 0) (api_Pix.mk 0 4) v5 hc6)) (ca3 (ok0 (predicate_Circle_ok n (api_Pix.mk 0 0) (api_Pix.mk 4 0) (api_Pix.mk 0 4) (api_Pix.mk 1 1) v8 hc9)))) <| .mu 3 <| .ca cf0 <| .pure (v := aB true) (by kernel_rfl) (eB hb7) (by kernel_rfl) <| .mu 5 <| .ca (cfF cf0) <| .pure (v := aB false) (by kernel_rfl) (eB hb10) (by kernel_rfl) <| .mu 26 ?_
   refine .done ⟨by kernel_rfl, ?_⟩
   refine .ret ?_
   obtain rfl := oi hr
   exact FinQ.r1 [aB false]
 ·replace hr := cd_f hb7 hr
  refine .t1 fine (ok0 (predicate_Orient_ok n (api_Pix.mk 0 0) (api_Pix.mk 4 0) (api_Pix.mk 0 4) v5 hc6)) <| .mu 3 <| .ca cf0 <| .pure (v := aB false) (by kernel_rfl) (eB hb7) (by kernel_rfl) <| .mu 33 ?_
  refine .done ⟨by kernel_rfl, ?_⟩
  refine .ret ?_
  obtain rfl := oi hr
  exact FinQ.r1 [aB false]

theorem cmp_Or_int_ok [Dr] (n : Nat) (vals : List Int) (r : Int) (hr : cmp_Or_int n vals = some r) : FnOk Tryz.prog 71 [sI64 vals] (aI64 r) := by
 unfold cmp_Or_int at hr
 refine FnOk.bd fine Tryz.func71 [.tmp 2] ?_
 unfold Tryz.f71
 simp only [Option.getD_some]
 refine .seq <| .r4 fine [0] [] <| .seq <| .r4 fine [0] [(3, aI64 0)] <| .seq <| .seq <| .r4 fine [3] [(6, sI64 vals), (7, aI64 (vals.length : Int)), (8, aI64 0)] <| .block ?_
 replace hr := bd hr; obtain ⟨o9, hL10, hr⟩ := hr
 refine .loopO (σ := fun z0 => match z0 with | x_1 => ⟨mkS 18 0 [(3, aI64 0), (6, sI64 vals), (7, aI64 (vals.length : Int)), (8, aI64 x_1)], []⟩) (Q := fun x st' => match (generalizing := false) o9 with | .inl _ => x = .exit 0 ∧ Wk 0 st' ⟨mkS 18 0 [(3, aI64 0)], []⟩ | .inr (r0) => x = .ret ∧ FinQ Tryz.prog [.tmp 2] (aI64 r0) .ret st') hL10 ((Wk.gc [3, 6, 7, 8] [] rfl pK0).to (by kernel_rfl)) ?_ ?_
 ·clear hr
  rintro m x_1 hr
  show CQ _ _ _ _ _ ⟨_, _⟩
  refine .seq <| .r4 fine [3, 6, 7, 8] [(9, aB (decide (x_1 < (vals.length : Int))))] <| .seq ?_
  refine .cd hr (fun hb6 hr => ?_) (fun hb6 hr => ?_)
  ·refine .skip <| .seq <| .block <| .seq ?_
   obtain ⟨hg7, hr⟩ := gd hr
   refine .r0 fine <| .p0 (v := .pp (vals.flatMap (iC .i64)) (x_1.toNat * 1)) (tr (ofP_guard hg7)) <| .p0 (v := aI64 (gt vals x_1)) (tr (ofP_some (flat_get (iC_len .i64) (inR_lt hg7) (by decide : 0 < 1) (by omega : x_1.toNat * 1 = x_1.toNat * 1 + 0) (by kernel_rfl)))) <| .mu 1 <| .done <| .nh [3, 5, 6, 7, 8] [] <| .seq <| .r4 fine [3, 5, 6, 7, 8] [(14, aB (((gt vals x_1) : Int) != 0))] ?_
   refine .cd hr (fun hb8 hr => ?_) (fun hb8 hr => ?_)
   ·refine .seq <| .ru fine <| .ret ?_
    obtain rfl := oi hr
    exact ⟨rfl, FinQ.ret (vs := [aI64 (gt vals x_1)]) (by kernel_rfl) (Sn.pure rfl)⟩
   ·refine .skip <| .pop <| .ru fine ?_
    exact loopF_back (wrapF .i64 (x_1 + 1)) hr ((Wk.gc [3, 6, 7, 8] [] rfl pK0).to (by kernel_rfl))
  ·refine .leave rfl ?_
   obtain rfl := oi hr
   exact ⟨rfl, ((Wk.gc [3] [] rfl pK0).to (by kernel_rfl))⟩
 ·rcases o9 with ⟨⟩ | r0
  ·rintro x st' hq11
   clear hL10
   obtain ⟨rfl, hq11⟩ := hq11
   refine CQ_exit _ rfl <| .wk hq11 <| .seq <| .ru fine <| .ret ?_
   obtain rfl := oi hr
   exact FinQ.r1 [aI64 0]
  ·rintro x st' hq11
   clear hL10
   obtain ⟨rfl, hq11⟩ := hq11
   obtain rfl := oi hr
   exact CQ_ret _ hq11

theorem predicate_Hull_1_ok [Dr] (n : Nat) (i : Int) (j : Int) (p : List api_Pix) (r : Int) (hr : predicate_Hull_1 n i j p = some r) : FnOk Tryz.prog 70 [aI64 i, aI64 j, .pp [slT api_Pix.c p] 0] (aI64 r) := by
 unfold predicate_Hull_1 at hr
 refine FnOk.bd fine Tryz.func70 [.tmp 5] ?_
 unfold Tryz.f70
 simp only [Option.getD_some]
 refine .seq <| .r4 fine [0, 1, 2] [] <| .seq ?_
 obtain ⟨hg1, hg2, hr⟩ := gd2 hr
 obtain ⟨v3, hc4, v5, hc6, v7, hc8, hr⟩ := bd3 hr
 obtain ⟨v9, hc10, hr⟩ := bd hr
 refine .tn fine (ca1 (ok0 (cmp_Compare_int_ok n (gt p i).X (gt p j).X v3 hc4)) (ca1 (ok0 (cmp_Compare_int_ok n (gt p i).Y (gt p j).Y v5 hc6)) (ca1 (ok0 (cmp_Compare_int_ok n i j v7 hc8)) (ca4 [.own [aI64 v3, aI64 v5, aI64 v7]] (callOk_val (args := [.hs 0 0 3 1]) (l := [0]) rfl (SnL.cons (Sn.hs rfl (.inl rfl) (SnC.cons (Sn.pure rfl) (SnC.cons (Sn.pure rfl) (SnC.cons (Sn.pure rfl) SnC.nil))) (fun h => nomatch h)) SnL.nil) (cmp_Or_int_ok n [v3, v5, v7] v9 hc10)))))) <| .mu 2 <| .pure (v := .pp (p.flatMap api_Pix.c) (i.toNat * 2)) (by kernel_rfl) (tr (ofP_guard hg1)) (by kernel_rfl) <| .mu 1 <| .pure (v := aI64 (gt p i).X) (by kernel_rfl) (tr (ofP_some (flat_get api_Pix.len (inR_lt hg1) (by decide : 0 < 2) (by omega : i.toNat * 2 + 0 = i.toNat * 2 + 0) (by kernel_rfl)))) (by kernel_rfl) <| .mu 2 <| .pure (v := .pp (p.flatMap api_Pix.c) (j.toNat * 2)) (by kernel_rfl) (tr (ofP_guard hg2)) (by kernel_rfl) <| .mu 1 <| .pure (v := aI64 (gt p j).X) (by kernel_rfl) (tr (ofP_some (flat_get api_Pix.len (inR_lt hg2) (by decide : 0 < 2) (by omega : j.toNat * 2 + 0 = j.toNat * 2 + 0) (by kernel_rfl)))) (by kernel_rfl) <| .ca cf0 <| .mu 2 <| .pure (v := .pp (p.flatMap api_Pix.c) (i.toNat * 2)) (by kernel_rfl) (tr (ofP_guard hg1)) (by kernel_rfl) <| .mu 1 <| .pure (v := aI64 (gt p i).Y) (by kernel_rfl) (tr (ofP_some (flat_get api_Pix.len (inR_lt hg1) (by decide : 1 < 2) (by omega : i.toNat * 2 + 1 = i.toNat * 2 + 1) (by kernel_rfl)))) (by kernel_rfl) <| .mu 2 <| .pure (v := .pp (p.flatMap api_Pix.c) (j.toNat * 2)) (by kernel_rfl) (tr (ofP_guard hg2)) (by kernel_rfl) <| .mu 1 <| .pure (v := aI64 (gt p j).Y) (by kernel_rfl) (tr (ofP_some (flat_get api_Pix.len (inR_lt hg2) (by decide : 1 < 2) (by omega : j.toNat * 2 + 1 = j.toNat * 2 + 1) (by kernel_rfl)))) (by kernel_rfl) <| .ca (cfA (fun h => by rw [sv hc6 hc4 (cmp_Compare_int_cg n h)]) cf0) <| .mu 2 <| .ca (cfA (fun h => by rw [sv hc8 hc4 (cmp_Compare_int_cg n h)]) (cfA (fun h => by rw [sv hc8 hc6 (cmp_Compare_int_cg n h)]) cf0)) <| .mu 1 <| .ca (cfF (cfF (cfF cf0))) <| .mu 1 ?_
 refine .done ⟨by kernel_rfl, ?_⟩
 refine .ret ?_
 obtain rfl := oi hr
 exact FinQ.r1 [aI64 v9]

theorem slices_SortFunc_int_int_w_of_predicate_Hull_1_ok (n : Nat) (x' : List Int) (c : List api_Pix) (r : List Int) (hr : slices_SortFunc_int_int_w_of_predicate_Hull_1 n x' c = some r) : FnMut 2 Tryz.prog 69 [.hs 0 0 x'.length 1, .fn 70 [] [.hp 1 0]] [.own (x'.flatMap (iC .i64)), .own [slT api_Pix.c c]] (.tup []) [.own (r.flatMap (iC .i64)), .own [slT api_Pix.c c]] := by
 unfold slices_SortFunc_int_int_w_of_predicate_Hull_1 at hr
 obtain ⟨h1, hr⟩ := gd hr
 exact FnMut.sortI (caps' := [.pp [slT api_Pix.c c] 0]) (Go.Proofs.YtkhmlbchphhokaaGreat.contractSortI (enters_of Tryz.func70 (by kernel_rfl) rfl)) Go.Proofs.YtkhmlbchphhokaaGreat.noneSortI hr (of_decide_eq_true h1) (SnL.cons (Sn.hp rfl (.inl rfl) (SnC.cons (Sn.pure rfl) SnC.nil)) SnL.nil) (fun x y r hc => @predicate_Hull_1_ok ⟨true⟩ n x y c r hc)

theorem predicate_Hull_2_ok (n : Nat) (i : Int) (j : Int) (p : List api_Pix) (r : Bool) (hr : predicate_Hull_2 n i j p = some r) : FnOk Tryz.prog 74 [aI64 i, aI64 j, .pp [slT api_Pix.c p] 0] (aB r) := by
 unfold predicate_Hull_2 at hr
 refine FnOk.bd fine Tryz.func74 [.tmp 5] ?_
 unfold Tryz.f74
 simp only [Option.getD_some]
 refine .seq <| .r4 fine [0, 1, 2] [] <| .seq ?_
 obtain ⟨hg1, hg2, hr⟩ := gd2 hr
 refine .regionT fine callOf_nil <| .mu 2 <| .pure (v := .pp (p.flatMap api_Pix.c) (i.toNat * 2)) (by kernel_rfl) (tr (ofP_guard hg1)) (by kernel_rfl) <| .pure (v := .agg (api_Pix.c (gt p i))) (by kernel_rfl) (Eq.trans (b := ORes.ofP (guardV (decide (2 ≤ ((p.flatMap api_Pix.c).drop (i.toNat * 2)).length)) (.agg (((p.flatMap api_Pix.c).drop (i.toNat * 2)).take 2)))) (by kernel_rfl) (flat_load api_Pix.len (inR_lt hg1) (by decide) (by omega : i.toNat * 2 = i.toNat * 2 + 0) (by kernel_rfl))) (by kernel_rfl) <| .mu 2 <| .pure (v := .pp (p.flatMap api_Pix.c) (j.toNat * 2)) (by kernel_rfl) (tr (ofP_guard hg2)) (by kernel_rfl) <| .pure (v := .agg (api_Pix.c (gt p j))) (by kernel_rfl) (Eq.trans (b := ORes.ofP (guardV (decide (2 ≤ ((p.flatMap api_Pix.c).drop (j.toNat * 2)).length)) (.agg (((p.flatMap api_Pix.c).drop (j.toNat * 2)).take 2)))) (by kernel_rfl) (flat_load api_Pix.len (inR_lt hg2) (by decide) (by omega : j.toNat * 2 = j.toNat * 2 + 0) (by kernel_rfl))) (by kernel_rfl) <| .mu 2 ?_
 refine .done ⟨by kernel_rfl, ?_⟩
 refine .ret ?_
 obtain rfl := oi hr
 exact FinQ.r1 [aB ((((gt p i).X : Int) == (gt p j).X) && ((((gt p i).Y : Int) == (gt p j).Y) && true))]

theorem slices_CompactFunc_int_int_w_of_predicate_Hull_2_ok (n : Nat) (s : List Int) (c : List api_Pix) (r : List Int) (hr : slices_CompactFunc_int_int_w_of_predicate_Hull_2 n s c = some r) : FnMut 2 Tryz.prog 73 [.hs 0 0 s.length 1, .fn 74 [] [.hp 1 0]] [.own (s.flatMap (iC .i64)), .own [slT api_Pix.c c]] (.hs 0 0 r.length 1) [.own (r.flatMap (iC .i64)), .own [slT api_Pix.c c]] := by
 unfold slices_CompactFunc_int_int_w_of_predicate_Hull_2 at hr
 refine FnMut.bodyW fine Tryz.func73 (c := (Tryz.f73.body).getD .skip) rfl (us := [.hs 0 0 r.length 1]) (s := mkS 66 0 [(0, .hs 0 0 s.length 1), (1, .fn 74 [] [.hp 1 0])]) (by kernel_rfl) (rs := [.tmp 4]) rfl ?_
 unfold Tryz.f73
 simp only [Option.getD_some]
 refine .seq <| .r4 fine [0, 1] [] <| .seq <| .seq <| .r4 fine [0, 1] [(10, aB (decide ((s.length : Int) < 2)))] ?_
 refine .cd hr (fun hb80 hr => ?_) (fun hb80 hr => ?_)
 ·refine .seq <| .r3 fine 66 [(4, .hs 0 0 s.length 1)] <| .ret ?_
  obtain rfl := oi hr
  exact FinMW.ret [.hs 0 0 s.length 1] ((Wk.gc [0] [(0, false), (1, true)] rfl (pKo (iC .i64) (iC_pure _) s trivial)).to (by kernel_rfl))
 ·refine .skip <| .seq <| .seq <| .r4 fine [0, 1] [(5, aI64 1)] <| .block ?_
  replace hr := bd hr; obtain ⟨o155, hL156, hr⟩ := hr
  refine .loopO (σ := fun z0 => match z0 with | k_81 => ⟨mkS 66 0 [(0, .hs 0 0 s.length 1), (1, .fn 74 [] [.hp 1 0]), (5, aI64 k_81)], [.own (s.flatMap (iC .i64)), .own [slT api_Pix.c c]]⟩) (Q := fun x st' => match (generalizing := false) o155 with | .inl _ => x = .exit 0 ∧ Wk 2 st' ⟨mkS 66 0 [(0, .hs 0 0 s.length 1)], [.own (s.flatMap (iC .i64)), .own [slT api_Pix.c c]]⟩ | .inr (r0) => x = .ret ∧ FinMW 2 Tryz.prog [.tmp 4] [.hs 0 0 r0.length 1] [.own (r0.flatMap (iC .i64)), .own [slT api_Pix.c c]] .ret st') hL156 ((Wk.gc [0, 1, 5] [(0, false), (1, true)] rfl (pKo (iC .i64) (iC_pure _) s trivial)).to (by kernel_rfl)) ?_ ?_
  ·clear hr
   rintro m k_81 hr
   show CQ _ _ _ _ _ ⟨_, _⟩
   refine .seq <| .seq <| .r4 fine [0, 1, 5] [(15, aB (decide (k_81 < (s.length : Int))))] ?_
   refine .cd hr (fun hb119 hr => ?_) (fun hb119 hr => ?_)
   ·refine .skip <| .seq <| .block <| .seq ?_
    obtain ⟨hg120, hg121, hr⟩ := gd2 hr
    obtain ⟨v122, hc123, hr⟩ := bd hr
    refine .t1 fine (callOk_val (args := [aI64 (gt s k_81), aI64 (gt s (wrapF .i64 (k_81 - 1))), .hp 1 0]) (l := [1]) rfl (SnL.cons (Sn.pure rfl) (SnL.cons (Sn.pure rfl) (SnL.cons (Sn.hp rfl (.inl rfl) (SnC.cons (Sn.pure rfl) SnC.nil)) SnL.nil))) (predicate_Hull_2_ok n (gt s k_81) (gt s (wrapF .i64 (k_81 - 1))) c v122 hc123)) <| .mu 3 <| .pure (v := .hp 0 (0 + k_81.toNat * 1)) (by kernel_rfl) (tr (ofP_guard hg120)) (by kernel_rfl) <| .pure (v := aI64 (gt s k_81)) (by kernel_rfl) (tr (ofP_some (flat_get (iC_len .i64) (inR_lt hg120) (by decide : 0 < 1) (by omega : 0 + k_81.toNat * 1 = k_81.toNat * 1 + 0) (by kernel_rfl)))) (by kernel_rfl) <| .mu 3 <| .pure (v := .hp 0 (0 + (wrapF .i64 (k_81 - 1)).toNat * 1)) (by kernel_rfl) (tr (ofP_guard hg121)) (by kernel_rfl) <| .pure (v := aI64 (gt s (wrapF .i64 (k_81 - 1)))) (by kernel_rfl) (tr (ofP_some (flat_get (iC_len .i64) (inR_lt hg121) (by decide : 0 < 1) (by omega : 0 + (wrapF .i64 (k_81 - 1)).toNat * 1 = (wrapF .i64 (k_81 - 1)).toNat * 1 + 0) (by kernel_rfl)))) (by kernel_rfl) <| .ca cf0 ?_
    refine .done ⟨by kernel_rfl, ?_⟩
    refine .nh [0, 1, 5, 28] [.own (s.flatMap (iC .i64)), .own [slT api_Pix.c c]] ?_
    refine .cd hr (fun hb124 hr => ?_) (fun hb124 hr => ?_)
    ·refine .seq ?_
     obtain ⟨hg125, hr⟩ := gd hr
     refine .r0 fine <| .mu 2 <| .p0 (v := .hs 0 (0 + k_81.toNat * 1) (s.length - k_81.toNat) 1) (Eq.trans (b := slH (inS k_81 (s.length : Int) s.length) true (k_81.toNat) ((s.length : Int).toNat) (fun z1 z2 => .hs 0 (0 + z1 * 1) (z2 - z1) 1)) (by kernel_rfl) (slH_t hg125 (by kernel_rfl))) <| .mu 1 <| .done <| .nh [0, 1, 5, 6] [.own (s.flatMap (iC .i64)), .own [slT api_Pix.c c]] <| .seq <| .seq <| .r4 fine [0, 1, 5, 6] [(7, aI64 1)] <| .block ?_
     replace hr := bd hr; obtain ⟨o150, hL151, hr⟩ := hr
     refine .loopO (σ := fun z0 => match z0 with | (s_126, k_127, k2_128) => ⟨mkS 66 0 [(0, .hs 0 0 s_126.length 1), (1, .fn 74 [] [.hp 1 0]), (5, aI64 k_127), (6, .hs 0 (0 + k_81.toNat * 1) (s.length - k_81.toNat) 1), (7, aI64 k2_128)], [.own (s_126.flatMap (iC .i64)), .own [slT api_Pix.c c]]⟩) (Q := fun x st' => match (generalizing := false) o150 with | (s_138, k_139) => x = .exit 2 ∧ Wk 2 st' ⟨mkS 66 0 [(0, .hs 0 0 s_138.length 1), (5, aI64 k_139)], [.own (s_138.flatMap (iC .i64)), .own [slT api_Pix.c c]]⟩) hL151 ((Wk.gc [0, 1, 5, 6, 7] [(0, false), (1, true)] rfl (pKo (iC .i64) (iC_pure _) s trivial)).to (by kernel_rfl)) ?_ ?_
     ·clear hr
      rintro m ⟨s_126, k_127, k2_128⟩ hr
      show CQ _ _ _ _ _ ⟨_, _⟩
      refine .seq <| .seq <| .r4 fine [0, 1, 5, 6, 7] [(35, aB (decide (k2_128 < ((s.length - k_81.toNat : Nat) : Int))))] ?_
      refine .cd hr (fun hb141 hr => ?_) (fun hb141 hr => ?_)
      ·refine .skip <| .seq <| .block <| .seq ?_
       obtain ⟨hg142, hg143, hg144, hr⟩ := gd3 hr
       obtain ⟨hg145, hr⟩ := gd hr
       obtain ⟨v146, hc147, hr⟩ := bd hr
       refine .t1 fine (callOk_val (args := [aI64 (gt s_126 ((k_81.toNat + k2_128.toNat : Nat) : Int)), aI64 (gt s_126 ((k_81.toNat + (wrapF .i64 (k2_128 - 1)).toNat : Nat) : Int)), .hp 1 0]) (l := [1]) rfl (SnL.cons (Sn.pure rfl) (SnL.cons (Sn.pure rfl) (SnL.cons (Sn.hp rfl (.inl rfl) (SnC.cons (Sn.pure rfl) SnC.nil)) SnL.nil))) (predicate_Hull_2_ok n (gt s_126 ((k_81.toNat + k2_128.toNat : Nat) : Int)) (gt s_126 ((k_81.toNat + (wrapF .i64 (k2_128 - 1)).toNat : Nat) : Int)) c v146 hc147)) <| .mu 3 <| .pure (v := .hp 0 (0 + k_81.toNat * 1 + k2_128.toNat * 1)) (by kernel_rfl) (tr (ofP_guard hg142)) (by kernel_rfl) <| .pure (v := aI64 (gt s_126 ((k_81.toNat + k2_128.toNat : Nat) : Int))) (by kernel_rfl) (tr (ofP_some (flat_get (iC_len .i64) (inR_lt hg143) (by decide : 0 < 1) (by omega : 0 + k_81.toNat * 1 + k2_128.toNat * 1 = ((k_81.toNat + k2_128.toNat : Nat) : Int).toNat * 1 + 0) (by kernel_rfl)))) (by kernel_rfl) <| .mu 3 <| .pure (v := .hp 0 (0 + k_81.toNat * 1 + (wrapF .i64 (k2_128 - 1)).toNat * 1)) (by kernel_rfl) (tr (ofP_guard hg144)) (by kernel_rfl) <| .pure (v := aI64 (gt s_126 ((k_81.toNat + (wrapF .i64 (k2_128 - 1)).toNat : Nat) : Int))) (by kernel_rfl) (tr (ofP_some (flat_get (iC_len .i64) (inR_lt hg145) (by decide : 0 < 1) (by omega : 0 + k_81.toNat * 1 + (wrapF .i64 (k2_128 - 1)).toNat * 1 = ((k_81.toNat + (wrapF .i64 (k2_128 - 1)).toNat : Nat) : Int).toNat * 1 + 0) (by kernel_rfl)))) (by kernel_rfl) <| .ca cf0 <| .mu 1 ?_
       refine .done ⟨by kernel_rfl, ?_⟩
       refine .nh [0, 1, 5, 6, 7, 49] [.own (s_126.flatMap (iC .i64)), .own [slT api_Pix.c c]] ?_
       refine .cd hr (fun hb148 hr => ?_) (fun hb148 hr => ?_)
       ·refine .seq ?_
        obtain ⟨hg149, hr⟩ := gd hr
        refine .r0 fine <| .mu 4 <| .p0 (v := .hp 0 (0 + k_81.toNat * 1 + k2_128.toNat * 1)) (tr (ofP_guard hg142)) <| .p0 (v := aI64 (gt s_126 ((k_81.toNat + k2_128.toNat : Nat) : Int))) (tr (ofP_some (flat_get (iC_len .i64) (inR_lt hg143) (by decide : 0 < 1) (by omega : 0 + k_81.toNat * 1 + k2_128.toNat * 1 = ((k_81.toNat + k2_128.toNat : Nat) : Int).toNat * 1 + 0) (by kernel_rfl)))) <| .p0 (v := .hp 0 (0 + k_127.toNat * 1)) (tr (ofP_guard hg149)) <| .e0 (v := .unk) (ws := [(0, .own ((s_126.set k_127.toNat (gt s_126 ((k_81.toNat + k2_128.toNat : Nat) : Int))).flatMap (iC .i64)))]) (tr (stO_t (and_t (flat_fits (n := 1) (iC_len .i64) (inR_lt hg149) (Nat.le_of_ble_eq_true rfl) (by omega : 0 + k_127.toNat * 1 = k_127.toNat * 1 + 0))) (congrArg Blk.own (flat_set (xs := [aI64 (gt s_126 ((k_81.toNat + k2_128.toNat : Nat) : Int))]) (iC_len .i64) (inR_lt hg149) (Nat.le_of_ble_eq_true rfl) (by omega : 0 + k_127.toNat * 1 = k_127.toNat * 1 + 0) (by kernel_rfl))))) <| .done <| .nh [0, 1, 5, 6, 7] [.own ((s_126.set k_127.toNat (gt s_126 ((k_81.toNat + k2_128.toNat : Nat) : Int))).flatMap (iC .i64)), .own [slT api_Pix.c c]] <| .ru fine <| .pop <| .ru fine ?_
        exact loopF_back (s_126.set k_127.toNat (gt s_126 ((k_81.toNat + k2_128.toNat : Nat) : Int)), wrapF .i64 (k_127 + 1), wrapF .i64 (k2_128 + 1)) hr ((Wk.relen 0 (b := 0) (es := 1) (len := s_126.length) (s_126.set k_127.toNat (gt s_126 ((k_81.toNat + k2_128.toNat : Nat) : Int))).length (by kernel_rfl) (Eq.symm (List.length_set.trans rfl))).trans ((Wk.gc [0, 1, 5, 6, 7] [(0, false), (1, true)] rfl (pKo (iC .i64) (iC_pure _) (s_126.set k_127.toNat (gt s_126 ((k_81.toNat + k2_128.toNat : Nat) : Int))) trivial)).to (by kernel_rfl)))
       ·refine .skip <| .pop <| .ru fine ?_
        exact loopF_back (s_126, k_127, wrapF .i64 (k2_128 + 1)) hr ((Wk.gc [0, 1, 5, 6, 7] [(0, false), (1, true)] rfl (pKo (iC .i64) (iC_pure _) s_126 trivial)).to (by kernel_rfl))
      ·refine .leave rfl ?_
       obtain rfl := oi hr
       exact ⟨rfl, ((Wk.gc [0, 5] [(0, false), (1, true)] rfl (pKo (iC .i64) (iC_pure _) s_126 trivial)).to (by kernel_rfl))⟩
     ·rcases o150 with ⟨s_138, k_139⟩
      rintro x st' hq152
      clear hL151
      obtain ⟨rfl, hq152⟩ := hq152
      refine CQ_exit _ rfl <| .wk hq152 <| .seq ?_
      obtain ⟨hg153, hr⟩ := gd hr
      refine .r0 fine <| .mu 2 <| .p0 (v := .hs 0 (0 + k_139.toNat * 1) (s_138.length - k_139.toNat) 1) (Eq.trans (b := slH (inS k_139 (s_138.length : Int) s_138.length) true (k_139.toNat) ((s_138.length : Int).toNat) (fun z1 z2 => .hs 0 (0 + z1 * 1) (z2 - z1) 1)) (by kernel_rfl) (slH_t hg153 (by kernel_rfl))) <| .e0 (v := .at (.tuple #[])) (ws := [(0, .own ((overT s_138 k_139.toNat (List.replicate (s_138.length - k_139.toNat) ((0 : Int) : Int))).flatMap (iC .i64)))]) (tr (cl_t (a := k_139.toNat) (z := ((0 : Int) : Int)) (iC_len .i64) rfl (Nat.zero_add _) (inS_lo hg153))) <| .done <| .nh [0, 5] [.own ((overT s_138 k_139.toNat (List.replicate (s_138.length - k_139.toNat) ((0 : Int) : Int))).flatMap (iC .i64)), .own [slT api_Pix.c c]] <| .seq ?_
      obtain ⟨hg154, hr⟩ := gd hr
      refine .r0 fine <| .mu 2 <| .p0 (v := .hs 0 0 k_139.toNat 1) (Eq.trans (b := slH (inS 0 k_139 s_138.length) true ((0 : Int).toNat) (k_139.toNat) (fun z1 z2 => .hs 0 (0 + z1 * 1) (z2 - z1) 1)) (by kernel_rfl) (slH_t hg154 (by kernel_rfl))) <| .mu 1 <| .done <| .nh [4] [.own ((overT s_138 k_139.toNat (List.replicate (s_138.length - k_139.toNat) ((0 : Int) : Int))).flatMap (iC .i64)), .own [slT api_Pix.c c]] <| .wk ((Wk.cutS (c := (iC .i64)) (es := 1) 4 0 (iC_len _) (overT s_138 k_139.toNat (List.replicate (s_138.length - k_139.toNat) ((0 : Int) : Int))) k_139.toNat (Nat.le_trans (inS_le hg154) (Nat.le_of_eq (Eq.symm ((overT_len _ _ _).trans rfl)))) (by kernel_rfl) (by kernel_rfl)).to (c := ⟨mkS 66 0 [(4, .hs 0 0 ((overT s_138 k_139.toNat (List.replicate (s_138.length - k_139.toNat) ((0 : Int) : Int))).take k_139.toNat).length 1)], [.own (((overT s_138 k_139.toNat (List.replicate (s_138.length - k_139.toNat) ((0 : Int) : Int))).take k_139.toNat).flatMap (iC .i64)), .own [slT api_Pix.c c]]⟩) (by kernel_rfl)) <| .ret ?_
      obtain rfl := oi hr
      exact ⟨rfl, FinMW.ret [.hs 0 0 ((overT s_138 k_139.toNat (List.replicate (s_138.length - k_139.toNat) ((0 : Int) : Int))).take k_139.toNat).length 1] ((Wk.gc [0] [(0, false), (1, true)] rfl (pKo (iC .i64) (iC_pure _) ((overT s_138 k_139.toNat (List.replicate (s_138.length - k_139.toNat) ((0 : Int) : Int))).take k_139.toNat) trivial)).to (by kernel_rfl))⟩
    ·refine .skip <| .pop <| .ru fine ?_
     exact loopF_back (wrapF .i64 (k_81 + 1)) hr ((Wk.gc [0, 1, 5] [(0, false), (1, true)] rfl (pKo (iC .i64) (iC_pure _) s trivial)).to (by kernel_rfl))
   ·refine .leave rfl ?_
    obtain rfl := oi hr
    exact ⟨rfl, ((Wk.gc [0] [(0, false), (1, true)] rfl (pKo (iC .i64) (iC_pure _) s trivial)).to (by kernel_rfl))⟩
  ·rcases o155 with ⟨⟩ | r0
   ·rintro x st' hq157
    clear hL156
    obtain ⟨rfl, hq157⟩ := hq157
    refine CQ_exit _ rfl <| .wk hq157 <| .seq <| .r3 fine 66 [(4, .hs 0 0 s.length 1)] <| .ret ?_
    obtain rfl := oi hr
    exact FinMW.ret [.hs 0 0 s.length 1] ((Wk.gc [0] [(0, false), (1, true)] rfl (pKo (iC .i64) (iC_pure _) s trivial)).to (by kernel_rfl))
   ·rintro x st' hq157
    clear hL156
    obtain ⟨rfl, hq157⟩ := hq157
    obtain rfl := oi hr
    exact CQ_ret _ hq157

theorem predicate_Hull_3_w_ok (n : Nat) (p : List Int) (p' : List api_Pix) (r : List Int) (hr : predicate_Hull_3_w n p p' = some r) : FnMut 2 Tryz.prog 75 [.hp 0 0, .hp 1 0] [.own [.hs 2 0 p.length 1], .own [slT api_Pix.c p'], .own (p.flatMap (iC .i64))] (.hs 3 0 r.length 1) [.own [.hs 2 0 p.length 1], .own [slT api_Pix.c p'], .own (p.flatMap (iC .i64)), .own (r.flatMap (iC .i64))] := by
 unfold predicate_Hull_3_w at hr
 refine FnMut.bodyW fine Tryz.func75 (c := (Tryz.f75.body).getD .skip) rfl (us := [.hs 3 0 r.length 1]) (s := mkS 56 0 [(0, .hp 0 0), (1, .hp 1 0)]) (by kernel_rfl) (rs := [.tmp 2]) rfl ?_
 unfold Tryz.f75
 simp only [Option.getD_some]
 refine .seq <| .r4 fine [0, 1] [] <| .seq <| .r4 fine [0, 1] [(3, nS)] <| .seq <| .seq <| .r4 fine [1, 3] [(6, .hs 2 0 p.length 1), (7, aI64 (p.length : Int)), (8, aI64 0)] <| .block ?_
 replace hr := bd hr; obtain ⟨out_102, hL135, hr⟩ := hr
 refine .loopO (σ := fun z0 => match z0 with | (out_70, x_71) => ⟨mkS 56 0 [(1, .hp 1 0), (3, .hs 3 0 out_70.length 1), (6, .hs 2 0 p.length 1), (7, aI64 (p.length : Int)), (8, aI64 x_71)], [.own [.hs 2 0 p.length 1], .own [slT api_Pix.c p'], .own (p.flatMap (iC .i64)), .own (out_70.flatMap (iC .i64))]⟩) (Q := fun x st' => x = .exit 0 ∧ Wk 2 st' ⟨mkS 56 0 [(3, .hs 3 0 out_102.length 1)], [.own [.hs 2 0 p.length 1], .own [slT api_Pix.c p'], .own (p.flatMap (iC .i64)), .own (out_102.flatMap (iC .i64))]⟩) hL135 ((Wk.nil 3 1 (by kernel_rfl)).trans ((Wk.gc [1, 3, 6, 7, 8] [(0, true), (1, true), (2, false), (3, false)] rfl (pKt (pKt (pKo (iC .i64) (iC_pure _) p (pKc trivial))))).to (by kernel_rfl))) ?_ ?_
 ·clear hr
  rintro m ⟨out_70, x_71⟩ hr
  show CQ _ _ _ _ _ ⟨_, _⟩
  refine .seq <| .r4 fine [1, 3, 6, 7, 8] [(9, aB (decide (x_71 < (p.length : Int))))] <| .seq ?_
  refine .cd hr (fun hb104 hr => ?_) (fun hb104 hr => ?_)
  ·refine .skip <| .seq <| .block <| .seq ?_
   obtain ⟨hg105, hr⟩ := gd hr
   refine .r0 fine <| .p0 (v := .hp 2 (0 + x_71.toNat * 1)) (tr (ofP_guard hg105)) <| .p0 (v := aI64 (gt p x_71)) (tr (ofP_some (flat_get (iC_len .i64) (inR_lt hg105) (by decide : 0 < 1) (by omega : 0 + x_71.toNat * 1 = x_71.toNat * 1 + 0) (by kernel_rfl)))) <| .mu 1 <| .done <| .nh [1, 3, 5, 6, 7, 8] [.own [.hs 2 0 p.length 1], .own [slT api_Pix.c p'], .own (p.flatMap (iC .i64)), .own (out_70.flatMap (iC .i64))] <| .seq <| .block ?_
   replace hr := bd hr; obtain ⟨out_117, hL130, hr⟩ := hr
   refine .loopO (σ := fun z0 => match z0 with | out_106 => ⟨mkS 56 0 [(1, .hp 1 0), (3, .hs 3 0 out_106.length 1), (5, aI64 (gt p x_71)), (6, .hs 2 0 p.length 1), (7, aI64 (p.length : Int)), (8, aI64 x_71)], [.own [.hs 2 0 p.length 1], .own [slT api_Pix.c p'], .own (p.flatMap (iC .i64)), .own (out_106.flatMap (iC .i64))]⟩) (Q := fun x st' => x = .exit 2 ∧ Wk 2 st' ⟨mkS 56 0 [(1, .hp 1 0), (3, .hs 3 0 out_117.length 1), (5, aI64 (gt p x_71)), (6, .hs 2 0 p.length 1), (7, aI64 (p.length : Int)), (8, aI64 x_71)], [.own [.hs 2 0 p.length 1], .own [slT api_Pix.c p'], .own (p.flatMap (iC .i64)), .own (out_117.flatMap (iC .i64))]⟩) hL130 ((Wk.gc [1, 3, 5, 6, 7, 8] [(0, true), (1, true), (2, false), (3, false)] rfl (pKt (pKt (pKo (iC .i64) (iC_pure _) p (pKo (iC .i64) (iC_pure _) out_70 trivial))))).to (by kernel_rfl)) ?_ ?_
   ·clear hr
    rintro m out_106 hr
    show CQ _ _ _ _ _ ⟨_, _⟩
    refine .seq <| .seq ?_
    rcases Bool.eq_false_or_eq_true (decide ((out_106.length : Int) > 1)) with hb119 | hb119
    ·replace hr := cd_t hb119 hr
     obtain ⟨hg120, hg121, hg122, hr⟩ := gd3 hr
     obtain ⟨hg123, hg124, hr⟩ := gd2 hr
     obtain ⟨v125, hc126, hr⟩ := bd hr
     refine .t1 fine (ok0 (predicate_cross_ok n (gt p' (gt out_106 (wrapF .i64 ((out_106.length : Int) - 2)))) (gt p' (gt out_106 (wrapF .i64 ((out_106.length : Int) - 1)))) (gt p' (gt p x_71)) v125 hc126)) <| .mu 2 <| .pure (v := aB true) (by kernel_rfl) (eB hb119) (by kernel_rfl) <| .mu 6 <| .pure (v := .hp 3 (0 + (wrapF .i64 ((out_106.length : Int) - 2)).toNat * 1)) (by kernel_rfl) (tr (ofP_guard hg120)) (by kernel_rfl) <| .pure (v := aI64 (gt out_106 (wrapF .i64 ((out_106.length : Int) - 2)))) (by kernel_rfl) (tr (ofP_some (flat_get (iC_len .i64) (inR_lt hg120) (by decide : 0 < 1) (by omega : 0 + (wrapF .i64 ((out_106.length : Int) - 2)).toNat * 1 = (wrapF .i64 ((out_106.length : Int) - 2)).toNat * 1 + 0) (by kernel_rfl)))) (by kernel_rfl) <| .pure (v := .pp (p'.flatMap api_Pix.c) ((gt out_106 (wrapF .i64 ((out_106.length : Int) - 2))).toNat * 2)) (by kernel_rfl) (tr (ofP_guard hg121)) (by kernel_rfl) <| .pure (v := .agg [aI64 (gt p' (gt out_106 (wrapF .i64 ((out_106.length : Int) - 2)))).X, aI64 (gt p' (gt out_106 (wrapF .i64 ((out_106.length : Int) - 2)))).Y]) (by kernel_rfl) (Eq.trans (b := ORes.ofP (guardV (decide (2 ≤ ((p'.flatMap api_Pix.c).drop ((gt out_106 (wrapF .i64 ((out_106.length : Int) - 2))).toNat * 2)).length)) (.agg (((p'.flatMap api_Pix.c).drop ((gt out_106 (wrapF .i64 ((out_106.length : Int) - 2))).toNat * 2)).take 2)))) (by kernel_rfl) (flat_load api_Pix.len (inR_lt hg121) (by decide) (by omega : (gt out_106 (wrapF .i64 ((out_106.length : Int) - 2))).toNat * 2 = (gt out_106 (wrapF .i64 ((out_106.length : Int) - 2))).toNat * 2 + 0) (by kernel_rfl))) (by kernel_rfl) <| .mu 5 <| .pure (v := .hp 3 (0 + (wrapF .i64 ((out_106.length : Int) - 1)).toNat * 1)) (by kernel_rfl) (tr (ofP_guard hg122)) (by kernel_rfl) <| .pure (v := aI64 (gt out_106 (wrapF .i64 ((out_106.length : Int) - 1)))) (by kernel_rfl) (tr (ofP_some (flat_get (iC_len .i64) (inR_lt hg122) (by decide : 0 < 1) (by omega : 0 + (wrapF .i64 ((out_106.length : Int) - 1)).toNat * 1 = (wrapF .i64 ((out_106.length : Int) - 1)).toNat * 1 + 0) (by kernel_rfl)))) (by kernel_rfl) <| .pure (v := .pp (p'.flatMap api_Pix.c) ((gt out_106 (wrapF .i64 ((out_106.length : Int) - 1))).toNat * 2)) (by kernel_rfl) (tr (ofP_guard hg123)) (by kernel_rfl) <| .pure (v := .agg [aI64 (gt p' (gt out_106 (wrapF .i64 ((out_106.length : Int) - 1)))).X, aI64 (gt p' (gt out_106 (wrapF .i64 ((out_106.length : Int) - 1)))).Y]) (by kernel_rfl) (Eq.trans (b := ORes.ofP (guardV (decide (2 ≤ ((p'.flatMap api_Pix.c).drop ((gt out_106 (wrapF .i64 ((out_106.length : Int) - 1))).toNat * 2)).length)) (.agg (((p'.flatMap api_Pix.c).drop ((gt out_106 (wrapF .i64 ((out_106.length : Int) - 1))).toNat * 2)).take 2)))) (by kernel_rfl) (flat_load api_Pix.len (inR_lt hg123) (by decide) (by omega : (gt out_106 (wrapF .i64 ((out_106.length : Int) - 1))).toNat * 2 = (gt out_106 (wrapF .i64 ((out_106.length : Int) - 1))).toNat * 2 + 0) (by kernel_rfl))) (by kernel_rfl) <| .mu 2 <| .pure (v := .pp (p'.flatMap api_Pix.c) ((gt p x_71).toNat * 2)) (by kernel_rfl) (tr (ofP_guard hg124)) (by kernel_rfl) <| .pure (v := .agg (api_Pix.c (gt p' (gt p x_71)))) (by kernel_rfl) (Eq.trans (b := ORes.ofP (guardV (decide (2 ≤ ((p'.flatMap api_Pix.c).drop ((gt p x_71).toNat * 2)).length)) (.agg (((p'.flatMap api_Pix.c).drop ((gt p x_71).toNat * 2)).take 2)))) (by kernel_rfl) (flat_load api_Pix.len (inR_lt hg124) (by decide) (by omega : (gt p x_71).toNat * 2 = (gt p x_71).toNat * 2 + 0) (by kernel_rfl))) (by kernel_rfl) <| .ca cf0 <| .mu 2 ?_
     refine .done ⟨by kernel_rfl, ?_⟩
     refine .nh [1, 3, 5, 6, 7, 8, 40] [.own [.hs 2 0 p.length 1], .own [slT api_Pix.c p'], .own (p.flatMap (iC .i64)), .own (out_106.flatMap (iC .i64))] ?_
     refine .cd hr (fun hb127 hr => ?_) (fun hb127 hr => ?_)
     ·refine .skip <| .block ?_
      obtain ⟨hg128, hr⟩ := gd hr
      refine .r0 fine <| .mu 4 <| .p0 (v := .hs 3 0 (wrapF .i64 ((out_106.length : Int) - 1)).toNat 1) (Eq.trans (b := slH (inS 0 (wrapF .i64 ((out_106.length : Int) - 1)) out_106.length) true ((0 : Int).toNat) ((wrapF .i64 ((out_106.length : Int) - 1)).toNat) (fun z1 z2 => .hs 3 (0 + z1 * 1) (z2 - z1) 1)) (by kernel_rfl) (slH_t hg128 (by kernel_rfl))) <| .mu 1 <| .done <| .pop ?_
      exact loopF_back (out_106.take (wrapF .i64 ((out_106.length : Int) - 1)).toNat) hr ((Wk.cutS (c := (iC .i64)) (es := 1) 3 3 (iC_len _) out_106 (wrapF .i64 ((out_106.length : Int) - 1)).toNat (inS_le hg128) (by kernel_rfl) (by kernel_rfl)).trans ((Wk.gc [1, 3, 5, 6, 7, 8] [(0, true), (1, true), (2, false), (3, false)] rfl (pKt (pKt (pKo (iC .i64) (iC_pure _) p (pKo (iC .i64) (iC_pure _) (out_106.take (wrapF .i64 ((out_106.length : Int) - 1)).toNat) trivial))))).to (by kernel_rfl)))
     ·refine .leave rfl ?_
      obtain rfl := oi hr
      exact ⟨rfl, ((Wk.gc [1, 3, 5, 6, 7, 8] [(0, true), (1, true), (2, false), (3, false)] rfl (pKt (pKt (pKo (iC .i64) (iC_pure _) p (pKo (iC .i64) (iC_pure _) out_106 trivial))))).to (by kernel_rfl))⟩
    ·replace hr := cd_f hb119 hr
     refine .regionT fine callOf_nil <| .mu 2 <| .pure (v := aB false) (by kernel_rfl) (eB hb119) (by kernel_rfl) <| .mu 26 ?_
     refine .done ⟨by kernel_rfl, ?_⟩
     refine .nh [1, 3, 5, 6, 7, 8, 40] [.own [.hs 2 0 p.length 1], .own [slT api_Pix.c p'], .own (p.flatMap (iC .i64)), .own (out_106.flatMap (iC .i64))] <| .cF (by kernel_rfl) <| .leave rfl ?_
     obtain rfl := oi hr
     exact ⟨rfl, ((Wk.gc [1, 3, 5, 6, 7, 8] [(0, true), (1, true), (2, false), (3, false)] rfl (pKt (pKt (pKo (iC .i64) (iC_pure _) p (pKo (iC .i64) (iC_pure _) out_106 trivial))))).to (by kernel_rfl))⟩
   ·rintro x st' hq131
    clear hL130
    obtain ⟨rfl, hq131⟩ := hq131
    refine CQ_exit _ rfl <| .wk hq131 ?_
    obtain ⟨hg132, hg133, hr⟩ := gd2 hr
    refine .r0 fine <| .mu 3 <| .e0 (v := .hs 5 0 (out_117 ++ [(gt p x_71)]).length 1) (ws := [(3, .dead), (5, .own ((out_117 ++ [(gt p x_71)]).flatMap (iC .i64)))]) (tr (app_own (new := [aI64 (gt p x_71)]) (l := out_117) (xs := [(gt p x_71)]) (iC_len .i64) rfl rfl (by kernel_rfl) hg132 hg133)) <| .mu 1 <| .done <| .pop <| .ru fine ?_
    exact loopF_back (out_117 ++ [(gt p x_71)], wrapF .i64 (x_71 + 1)) hr ((Wk.gc [1, 3, 6, 7, 8] [(0, true), (1, true), (2, false), (5, false)] rfl (pKt (pKt (pKo (iC .i64) (iC_pure _) p (pKo (iC .i64) (iC_pure _) (out_117 ++ [(gt p x_71)]) trivial))))).to (by kernel_rfl))
  ·refine .leave rfl ?_
   obtain rfl := oi hr
   exact ⟨rfl, ((Wk.gc [3] [(0, true), (1, true), (2, false), (3, false)] rfl (pKt (pKt (pKo (iC .i64) (iC_pure _) p (pKo (iC .i64) (iC_pure _) out_70 trivial))))).to (by kernel_rfl))⟩
 ·rintro x st' hq136
  clear hL135
  obtain ⟨rfl, hq136⟩ := hq136
  refine CQ_exit _ rfl <| .wk hq136 <| .seq ?_
  obtain ⟨hg137, hr⟩ := gd hr
  refine .r0 fine <| .mu 4 <| .p0 (v := .hs 3 0 (wrapF .i64 ((out_102.length : Int) - 1)).toNat 1) (Eq.trans (b := slH (inS 0 (wrapF .i64 ((out_102.length : Int) - 1)) out_102.length) true ((0 : Int).toNat) ((wrapF .i64 ((out_102.length : Int) - 1)).toNat) (fun z1 z2 => .hs 3 (0 + z1 * 1) (z2 - z1) 1)) (by kernel_rfl) (slH_t hg137 (by kernel_rfl))) <| .mu 1 <| .done <| .nh [2] [.own [.hs 2 0 p.length 1], .own [slT api_Pix.c p'], .own (p.flatMap (iC .i64)), .own (out_102.flatMap (iC .i64))] <| .wk ((Wk.cutS (c := (iC .i64)) (es := 1) 2 3 (iC_len _) out_102 (wrapF .i64 ((out_102.length : Int) - 1)).toNat (inS_le hg137) (by kernel_rfl) (by kernel_rfl)).to (c := ⟨mkS 56 0 [(2, .hs 3 0 (out_102.take (wrapF .i64 ((out_102.length : Int) - 1)).toNat).length 1)], [.own [.hs 2 0 p.length 1], .own [slT api_Pix.c p'], .own (p.flatMap (iC .i64)), .own ((out_102.take (wrapF .i64 ((out_102.length : Int) - 1)).toNat).flatMap (iC .i64))]⟩) (by kernel_rfl)) <| .ret ?_
  obtain rfl := oi hr
  exact FinMW.ret [.hs 3 0 (out_102.take (wrapF .i64 ((out_102.length : Int) - 1)).toNat).length 1] ((Wk.gc [0] [(0, true), (1, true), (2, false), (3, false)] rfl (pKt (pKt (pKo (iC .i64) (iC_pure _) p (pKo (iC .i64) (iC_pure _) (out_102.take (wrapF .i64 ((out_102.length : Int) - 1)).toNat) trivial))))).to (by kernel_rfl))

theorem slices_Reverse_int_int_w_2_ok (n : Nat) (s : List Int) (r : List Int) (hr : slices_Reverse_int_int_w_2 n s = some r) : FnMut 1 Tryz.prog 77 [.hs 0 0 s.length 1] [.own (s.flatMap (iC .i64))] (.tup []) [.own (r.flatMap (iC .i64))] := by
 unfold slices_Reverse_int_int_w_2 at hr
 refine FnMut.bodyW fine Tryz.func77 (c := (Tryz.f77.body).getD .skip) rfl (us := []) (s := mkS 28 0 [(0, .hs 0 0 s.length 1)]) (by kernel_rfl) (rs := []) rfl ?_
 unfold Tryz.f77
 simp only [Option.getD_some]
 refine .seq <| .r4 fine [0] [(2, aI64 0), (3, aI64 (wrapF .i64 ((s.length : Int) - 1)))] <| .block ?_
 replace hr := bd hr; obtain ⟨s_22, hL28, hr⟩ := hr
 refine .loopO (σ := fun z0 => match z0 with | (s_16, i_17, j_18) => ⟨mkS 28 0 [(0, .hs 0 0 s_16.length 1), (2, aI64 i_17), (3, aI64 j_18)], [.own (s_16.flatMap (iC .i64))]⟩) (Q := fun x st' => x = .exit 0 ∧ Wk 1 st' ⟨mkS 28 0 [], [.own (s_22.flatMap (iC .i64))]⟩) hL28 ((Wk.gc [0, 2, 3] [(0, false)] rfl (pKo (iC .i64) (iC_pure _) s trivial)).to (by kernel_rfl)) ?_ ?_
 ·clear hr
  rintro m ⟨s_16, i_17, j_18⟩ hr
  show CQ _ _ _ _ _ ⟨_, _⟩
  refine .seq <| .seq <| .r4 fine [0, 2, 3] [(9, aB (decide (i_17 < j_18)))] ?_
  refine .cd hr (fun hb24 hr => ?_) (fun hb24 hr => ?_)
  ·refine .skip <| .seq <| .block ?_
   obtain ⟨hg25, hg26, hr⟩ := gd2 hr
   refine .regionT fine callOf_nil <| .mu 6 <| .pure (v := .hp 0 (0 + j_18.toNat * 1)) (by kernel_rfl) (tr (ofP_guard hg25)) (by kernel_rfl) <| .pure (v := aI64 (gt s_16 j_18)) (by kernel_rfl) (tr (ofP_some (flat_get (iC_len .i64) (inR_lt hg25) (by decide : 0 < 1) (by omega : 0 + j_18.toNat * 1 = j_18.toNat * 1 + 0) (by kernel_rfl)))) (by kernel_rfl) <| .mu 2 <| .pure (v := .hp 0 (0 + i_17.toNat * 1)) (by kernel_rfl) (tr (ofP_guard hg26)) (by kernel_rfl) <| .pure (v := aI64 (gt s_16 i_17)) (by kernel_rfl) (tr (ofP_some (flat_get (iC_len .i64) (inR_lt hg26) (by decide : 0 < 1) (by omega : 0 + i_17.toNat * 1 = i_17.toNat * 1 + 0) (by kernel_rfl)))) (by kernel_rfl) <| .pure (v := .hp 0 (0 + i_17.toNat * 1)) (by kernel_rfl) (tr (ofP_guard hg26)) (by kernel_rfl) <| .eff (v := .unk) (ws := [(0, .own ((s_16.set i_17.toNat (gt s_16 j_18)).flatMap (iC .i64)))]) (by kernel_rfl) (tr (stO_t (and_t (flat_fits (n := 1) (iC_len .i64) (inR_lt hg26) (Nat.le_of_ble_eq_true rfl) (by omega : 0 + i_17.toNat * 1 = i_17.toNat * 1 + 0))) (congrArg Blk.own (flat_set (xs := [aI64 (gt s_16 j_18)]) (iC_len .i64) (inR_lt hg26) (Nat.le_of_ble_eq_true rfl) (by omega : 0 + i_17.toNat * 1 = i_17.toNat * 1 + 0) (by kernel_rfl))))) (by kernel_rfl) <| .pure (v := .hp 0 (0 + j_18.toNat * 1)) (by kernel_rfl) (tr (ofP_guard hg25)) (by kernel_rfl) <| .eff (v := .unk) (ws := [(0, .own (((s_16.set i_17.toNat (gt s_16 j_18)).set j_18.toNat (gt s_16 i_17)).flatMap (iC .i64)))]) (by kernel_rfl) (Eq.trans (b := stO (decide ((0 + j_18.toNat * 1) + 1 ≤ ((s_16.set i_17.toNat (gt s_16 j_18)).flatMap (iC .i64)).length) && true) [(0, .own (setCells ((s_16.set i_17.toNat (gt s_16 j_18)).flatMap (iC .i64)) (0 + j_18.toNat * 1) [aI64 (gt s_16 i_17)]))]) (by kernel_rfl) (stO_t (and_t (flat_fits (iC_len _) (inR_lt (inR_set hg25)) (Nat.le_of_ble_eq_true rfl) (by omega : 0 + j_18.toNat * 1 = j_18.toNat * 1 + 0))) (congrArg Blk.own (flat_set (iC_len _) (inR_lt (inR_set hg25)) (Nat.le_of_ble_eq_true rfl) (by omega : 0 + j_18.toNat * 1 = j_18.toNat * 1 + 0) (by kernel_rfl))))) (by kernel_rfl) ?_
   refine .done ⟨by kernel_rfl, ?_⟩
   refine .pop <| .ru fine ?_
   exact loopF_back ((s_16.set i_17.toNat (gt s_16 j_18)).set j_18.toNat (gt s_16 i_17), wrapF .i64 (i_17 + 1), wrapF .i64 (j_18 - 1)) hr ((Wk.relen 0 (b := 0) (es := 1) (len := s_16.length) ((s_16.set i_17.toNat (gt s_16 j_18)).set j_18.toNat (gt s_16 i_17)).length (by kernel_rfl) (Eq.symm (List.length_set.trans (List.length_set.trans rfl)))).trans ((Wk.gc [0, 2, 3] [(0, false)] rfl (pKo (iC .i64) (iC_pure _) ((s_16.set i_17.toNat (gt s_16 j_18)).set j_18.toNat (gt s_16 i_17)) trivial)).to (by kernel_rfl)))
  ·refine .leave rfl ?_
   obtain rfl := oi hr
   exact ⟨rfl, ((Wk.gc [] [(0, false)] rfl (pKo (iC .i64) (iC_pure _) s_16 trivial)).to (by kernel_rfl))⟩
 ·rintro x st' hq29
  clear hL28
  obtain ⟨rfl, hq29⟩ := hq29
  refine CQ_exit _ rfl ?_
  obtain rfl := oi hr
  exact FinMW.wk hq29 (FinMW.normal [] ((Wk.gc [] [(0, false)] rfl (pKo (iC .i64) (iC_pure _) s_22 trivial)).to (by kernel_rfl)))

theorem predicate_Hull_ok (n : Nat) (l : List api_Pix) (r : List Int × Int) (hr : predicate_Hull n l = some r) : FnOk Tryz.prog 22 [slT api_Pix.c l] (.tup [sI64 r.1, aI64 r.2]) := by
 unfold predicate_Hull at hr
 refine FnOk.bd fine Tryz.func22 [.tmp 2, .tmp 3] ?_
 unfold Tryz.f22
 simp only [Option.getD_some]
 refine .seq <| .r2 fine 52 [(1, .hp 0 0)] [.own [slT api_Pix.c l]] <| .seq <| .block <| .seq <| .r4 fine [1] [(8, aB (((l.length : Int) : Int) == 0))] ?_
 refine .cd hr (fun hb1 hr => ?_) (fun hb1 hr => ?_)
 ·refine .seq <| .r3 fine 52 [(2, nS), (3, aI64 1)] <| .ret ?_
  obtain rfl := oi hr
  exact FinQ.ret (vs := [nS, aI64 1]) (by kernel_rfl) (Sn.tup (SnL.cons Sn.nilsl (SnL.cons (Sn.pure rfl) SnL.nil)))
 ·refine .seq <| .r4 fine [1] [(12, aB (decide ((l.length : Int) > 1024)))] ?_
  refine .cd hr (fun hb2 hr => ?_) (fun hb2 hr => ?_)
  ·refine .seq <| .r3 fine 52 [(2, nS), (3, aI64 3)] <| .ret ?_
   obtain rfl := oi hr
   exact FinQ.ret (vs := [nS, aI64 3]) (by kernel_rfl) (Sn.tup (SnL.cons Sn.nilsl (SnL.cons (Sn.pure rfl) SnL.nil)))
  ·refine .seq ?_
   obtain ⟨v3, hc4, hr⟩ := bd hr
   refine .g1 fine (ok0 (predicate_Check_ok n l v3 hc4)) <| .mu 1 <| .ca cf0 <| .mu 2 <| .done <| .nh [1, 16] [.own [slT api_Pix.c l]] ?_
   refine .cd hr (fun hb5 hr => ?_) (fun hb5 hr => ?_)
   ·refine .seq <| .r3 fine 52 [(2, nS), (3, aI64 2)] <| .ret ?_
    obtain rfl := oi hr
    exact FinQ.ret (vs := [nS, aI64 2]) (by kernel_rfl) (Sn.tup (SnL.cons Sn.nilsl (SnL.cons (Sn.pure rfl) SnL.nil)))
   ·refine .skip <| .pop <| .seq ?_
    obtain ⟨hg6, hg7, hg8, hr⟩ := gd3 hr
    refine .r0 fine <| .mu 2 <| .e0 (v := .hs 1 0 (List.replicate (l.length : Int).toNat ((0 : Int) : Int)).length 1) (ws := [(1, .own ((List.replicate (l.length : Int).toNat ((0 : Int) : Int)).flatMap (iC .i64)))]) (tr (make_own (c := (iC .i64)) (z := (0 : Int)) (n := (l.length : Int)) (by_ := 8) rfl hg6 hg7 hg8)) <| .mu 2 <| .done <| .nh [1, 4] [.own [slT api_Pix.c l], .own ((List.replicate (l.length : Int).toNat ((0 : Int) : Int)).flatMap (iC .i64)), .own [.hs 1 0 (List.replicate (l.length : Int).toNat ((0 : Int) : Int)).length 1]] <| .seq <| .seq <| .r4 fine [1, 4] [(24, aI64 ((List.replicate (l.length : Int).toNat ((0 : Int) : Int)).length : Int)), (25, aI64 0)] <| .block ?_
    replace hr := bd hr; obtain ⟨order_13, hL18, hr⟩ := hr
    refine .loopO (σ := fun z0 => match z0 with | (order_9, x_10) => ⟨mkS 52 0 [(1, .hp 0 0), (4, .hp 1 0), (24, aI64 ((List.replicate (l.length : Int).toNat ((0 : Int) : Int)).length : Int)), (25, aI64 x_10)], [.own [slT api_Pix.c l], .own [.hs 2 0 order_9.length 1], .own (order_9.flatMap (iC .i64))]⟩) (Q := fun x st' => x = .exit 1 ∧ Wk 0 st' ⟨mkS 52 0 [(1, .hp 0 0), (4, .hp 1 0)], [.own [slT api_Pix.c l], .own [.hs 2 0 order_13.length 1], .own (order_13.flatMap (iC .i64))]⟩) hL18 ((Wk.gc [1, 4, 24, 25] [(0, true), (2, true), (1, false)] rfl (pKt (pKt (pKo (iC .i64) (iC_pure _) (List.replicate (l.length : Int).toNat ((0 : Int) : Int)) trivial)))).to (by kernel_rfl)) ?_ ?_
    ·clear hr
     rintro m ⟨order_9, x_10⟩ hr
     show CQ _ _ _ _ _ ⟨_, _⟩
     refine .seq <| .r4 fine [1, 4, 24, 25] [(26, aB (decide (x_10 < ((List.replicate (l.length : Int).toNat ((0 : Int) : Int)).length : Int))))] <| .seq ?_
     refine .cd hr (fun hb15 hr => ?_) (fun hb15 hr => ?_)
     ·refine .skip <| .seq <| .block <| .seq <| .r4 fine [1, 4, 24, 25] [(5, aI64 x_10)] ?_
      obtain ⟨hg16, hr⟩ := gd hr
      refine .r0 fine <| .mu 3 <| .p0 (v := .hp 2 (0 + x_10.toNat * 1)) (tr (ofP_guard hg16)) <| .e0 (v := .unk) (ws := [(2, .own ((order_9.set x_10.toNat x_10).flatMap (iC .i64)))]) (tr (stO_t (and_t (flat_fits (n := 1) (iC_len .i64) (inR_lt hg16) (Nat.le_of_ble_eq_true rfl) (by omega : 0 + x_10.toNat * 1 = x_10.toNat * 1 + 0))) (congrArg Blk.own (flat_set (xs := [aI64 x_10]) (iC_len .i64) (inR_lt hg16) (Nat.le_of_ble_eq_true rfl) (by omega : 0 + x_10.toNat * 1 = x_10.toNat * 1 + 0) (by kernel_rfl))))) <| .done <| .pop <| .ru fine ?_
      exact loopF_back (order_9.set x_10.toNat x_10, wrapF .i64 (x_10 + 1)) hr ((Wk.recell 1 0 (b := 2) (es := 1) (len := order_9.length) (cs := [.hs 2 0 order_9.length 1]) (order_9.set x_10.toNat x_10).length (by kernel_rfl) (by kernel_rfl) (by simp)).trans ((Wk.gc [1, 4, 24, 25] [(0, true), (1, true), (2, false)] rfl (pKt (pKt (pKo (iC .i64) (iC_pure _) (order_9.set x_10.toNat x_10) trivial)))).to (by kernel_rfl)))
     ·refine .leave rfl ?_
      obtain rfl := oi hr
      exact ⟨rfl, ((Wk.gc [1, 4] [(0, true), (1, true), (2, false)] rfl (pKt (pKt (pKo (iC .i64) (iC_pure _) order_9 trivial)))).to (by kernel_rfl))⟩
    ·rintro x st' hq19
     clear hL18
     obtain ⟨rfl, hq19⟩ := hq19
     refine CQ_exit _ rfl <| .wk hq19 <| .seq ?_
     obtain ⟨v20, hc21, hr⟩ := bd hr
     obtain ⟨hg22, hr⟩ := gd hr
     refine .g1 fine (callOk_mutU (args := [.hs 2 0 order_13.length 1, .fn 70 [] [.hp 0 0]]) 2 0 [(2, false), (0, true)] [false, true] (slices_SortFunc_int_int_w_of_predicate_Hull_1_ok n order_13 l v20 hc21) (by exact ⟨ids_flat (iC_pure _) _, trivial⟩) (by exact ⟨ids_flat (iC_pure _) _, trivial⟩) rfl rfl (by kernel_rfl) (by kernel_rfl)) <| .mu 2 <| .ca cf0 <| .done <| .nh [1, 4] [.own [slT api_Pix.c l], .own [.hs 2 0 order_13.length 1], .own (v20.flatMap (iC .i64))] <| .seq ?_
     obtain ⟨v23, hc24, hr⟩ := bd hr
     refine .g1 fine (callOk_mutU (args := [.hs 2 0 order_13.length 1, .fn 74 [] [.hp 0 0]]) 2 0 [(2, false), (0, true)] [false, true] (slices_CompactFunc_int_int_w_of_predicate_Hull_2_ok n v20 l v23 hc24) (by exact ⟨ids_flat (iC_pure _) _, trivial⟩) (by exact ⟨ids_flat (iC_pure _) _, trivial⟩) rfl rfl (by rw [(of_decide_eq_true hg22)]; kernel_rfl) (by kernel_rfl)) <| .mu 2 <| .ca cf0 <| .mu 1 <| .done <| .nh [1, 4] [.own [slT api_Pix.c l], .own [.hs 2 0 v23.length 1], .own (v23.flatMap (iC .i64))] <| .seq <| .r4 fine [4] [(6, .fn 75 [] [.hp 1 0, .hp 0 0])] <| .seq <| .seq <| .r4 fine [4, 6] [(42, aB (((v23.length : Int) : Int) == 1))] ?_
     refine .cd hr (fun hb25 hr => ?_) (fun hb25 hr => ?_)
     ·refine .seq <| .r3 fine 52 [(2, .hs 2 0 v23.length 1), (3, aI64 0)] <| .ret ?_
      obtain rfl := oi hr
      exact FinQ.ret (vs := [.hs 2 0 v23.length 1, aI64 0]) (by kernel_rfl) (Sn.tup (SnL.cons (Sn.hs rfl (.inl rfl) (SnC.pure (ids_flat (iC_pure _) _)) (fun h => flat_nil0 h)) (SnL.cons (Sn.pure rfl) SnL.nil)))
     ·refine .skip <| .seq ?_
      obtain ⟨v26, hc27, hr⟩ := bd hr
      refine .g1 fine (callOk_mutU (args := [.hp 1 0, .hp 0 0]) 2 2 [(1, true), (0, true), (2, false)] [true, true, false, false] (predicate_Hull_3_w_ok n v23 l v26 hc27) (by exact ⟨ids_flat (iC_pure _) _, trivial⟩) (by exact ⟨ids_flat (iC_pure _) _, ⟨ids_flat (iC_pure _) _, trivial⟩⟩) rfl rfl (by kernel_rfl) (by kernel_rfl)) <| .mu 1 <| .ca cf0 <| .mu 1 <| .done <| .nh [4, 6, 7] [.own [slT api_Pix.c l], .own [.hs 3 0 v23.length 1], .dead, .own (v23.flatMap (iC .i64)), .own (v26.flatMap (iC .i64))] <| .seq ?_
      obtain ⟨v28, hc29, hr⟩ := bd hr
      obtain ⟨hg30, hr⟩ := gd hr
      refine .g1 fine (callOk_mutU (args := [.hs 3 0 v23.length 1]) 1 0 [(3, false)] [false] (slices_Reverse_int_int_w_2_ok n v23 v28 hc29) (by exact ⟨ids_flat (iC_pure _) _, trivial⟩) (by exact ⟨ids_flat (iC_pure _) _, trivial⟩) rfl rfl (by kernel_rfl) (by kernel_rfl)) <| .mu 1 <| .ca cf0 <| .done <| .nh [6, 7] [.own [slT api_Pix.c l], .own [.hs 3 0 v23.length 1], .dead, .own (v28.flatMap (iC .i64)), .own (v26.flatMap (iC .i64))] <| .seq ?_
      obtain ⟨v31, hc32, hr⟩ := bd hr
      obtain ⟨hg33, hg34, hr⟩ := gd2 hr
      refine .g1 fine (callOk_mutU (args := [.hp 1 0, .hp 0 0]) 2 2 [(1, true), (0, true), (3, false)] [true, true, false, false] (predicate_Hull_3_w_ok n v28 l v31 hc32) (by exact ⟨ids_flat (iC_pure _) _, trivial⟩) (by exact ⟨ids_flat (iC_pure _) _, ⟨ids_flat (iC_pure _) _, trivial⟩⟩) rfl rfl (by kernel_rfl) (by rw [(of_decide_eq_true hg30)]; kernel_rfl)) <| .mu 2 <| .ca cf0 <| .e0 (v := .hs 7 0 (v26 ++ v31).length 1) (ws := [(4, .dead), (7, .own ((v26 ++ v31).flatMap (iC .i64)))]) (Eq.trans (b := appS (decide (0 + v31.length * 1 ≤ (v31.flatMap (iC .i64)).length)) (((v31.flatMap (iC .i64)).drop 0).take (v31.length * 1)) v31.length (fun z1 z2 => guardO (decide (0 + v26.length * 1 ≤ (v26.flatMap (iC .i64)).length) && decide ((v26.length + z2) * 8 ≤ 140737488355328) && decide (v26.length + z2 ≤ 4611686018427387904)) (some (.eff (.hs 7 0 (v26.length + z2) 1) [(4, .dead), (7, .own (((v26.flatMap (iC .i64)).drop 0).take (v26.length * 1) ++ z1))])))) (by kernel_rfl) (appS_t (flat_lenO (iC_len _)) (flat_all (iC_len _)) (app_own (l := v26) (xs := v31) (iC_len _) rfl rfl rfl hg33 hg34))) <| .mu 2 <| .done <| .nh [2, 3] [.own [slT api_Pix.c l], .own [.hs 5 0 v28.length 1], .dead, .dead, .dead, .own (v28.flatMap (iC .i64)), .own (v31.flatMap (iC .i64)), .own ((v26 ++ v31).flatMap (iC .i64))] <| .ret ?_
      obtain rfl := oi hr
      exact FinQ.ret (vs := [.hs 7 0 (v26 ++ v31).length 1, aI64 0]) (by kernel_rfl) (Sn.tup (SnL.cons (Sn.hs rfl (.inl rfl) (SnC.pure (ids_flat (iC_pure _) _)) (fun h => flat_nil0 h)) (SnL.cons (Sn.pure rfl) SnL.nil)))

theorem fiducialref09_Valid_ok (n : Nat) (p : api_Pix) (r : Bool) (hr : fiducialref09_Valid n p = some r) : FnOk Tryz.prog 123 [.agg (api_Pix.c p)] (aB r) := by
 unfold fiducialref09_Valid at hr
 refine FnOk.bd fine Tryz.func123 [.tmp 2] ?_
 unfold Tryz.f123
 simp only [Option.getD_some]
 refine .seq <| .r2 fine 21 [(1, .hp 0 0)] [.own (api_Pix.c p)] <| .seq ?_
 rcases Bool.eq_false_or_eq_true (decide (p.X ≥ (-1048576))) with hb1 | hb1
 ·replace hr := cd_t hb1 hr
  rcases Bool.eq_false_or_eq_true (decide (p.X ≤ 1048576)) with hb2 | hb2
  ·replace hr := cd_t hb2 hr
   rcases Bool.eq_false_or_eq_true (decide (p.Y ≥ (-1048576))) with hb3 | hb3
   ·replace hr := cd_t hb3 hr
    refine .r0 fine <| .mu 2 <| .p0 (v := aB true) (eB hb1) <| .mu 3 <| .pure (v := aB true) (by kernel_rfl) (eB hb2) <| .mu 4 <| .pure (v := aB true) (by kernel_rfl) (eB hb3) <| .mu 7 <| .done <| .ret ?_
    obtain rfl := oi hr
    exact FinQ.r1 [aB (decide (p.Y ≤ 1048576))]
   ·replace hr := cd_f hb3 hr
    refine .r0 fine <| .mu 2 <| .p0 (v := aB true) (eB hb1) <| .mu 3 <| .pure (v := aB true) (by kernel_rfl) (eB hb2) <| .mu 4 <| .pure (v := aB false) (by kernel_rfl) (eB hb3) <| .mu 7 <| .done <| .ret ?_
    obtain rfl := oi hr
    exact FinQ.r1 [aB false]
  ·replace hr := cd_f hb2 hr
   refine .r0 fine <| .mu 2 <| .p0 (v := aB true) (eB hb1) <| .mu 3 <| .pure (v := aB false) (by kernel_rfl) (eB hb2) <| .mu 12 <| .done <| .ret ?_
   obtain rfl := oi hr
   exact FinQ.r1 [aB false]
 ·replace hr := cd_f hb1 hr
  refine .r0 fine <| .mu 2 <| .p0 (v := aB false) (eB hb1) <| .mu 16 <| .done <| .ret ?_
  obtain rfl := oi hr
  exact FinQ.r1 [aB false]

theorem fiducialref09_All_ok (n : Nat) (l : List api_Pix) (r : Bool) (hr : fiducialref09_All n l = some r) : FnOk Tryz.prog 78 [slT api_Pix.c l] (aB r) := by
 unfold fiducialref09_All at hr
 refine FnOk.bd fine Tryz.func78 [.tmp 2] ?_
 unfold Tryz.f78
 simp only [Option.getD_some]
 refine .seq <| .r4 fine [0] [] <| .seq <| .seq <| .r4 fine [0] [(3, aI64 0)] <| .block ?_
 replace hr := bd hr; obtain ⟨o13, hL14, hr⟩ := hr
 refine .loopO (σ := fun z0 => match z0 with | i_1 => ⟨mkS 16 0 [(0, slT api_Pix.c l), (3, aI64 i_1)], []⟩) (Q := fun x st' => match (generalizing := false) o13 with | .inl _ => x = .exit 0 ∧ Wk 0 st' ⟨mkS 16 0 [], []⟩ | .inr (r0) => x = .ret ∧ FinQ Tryz.prog [.tmp 2] (aB r0) .ret st') hL14 ((Wk.gc [0, 3] [] rfl pK0).to (by kernel_rfl)) ?_ ?_
 ·clear hr
  rintro m i_1 hr
  show CQ _ _ _ _ _ ⟨_, _⟩
  refine .seq <| .seq <| .r4 fine [0, 3] [(7, aB (decide (i_1 < (l.length : Int))))] ?_
  refine .cd hr (fun hb8 hr => ?_) (fun hb8 hr => ?_)
  ·refine .skip <| .seq <| .block <| .seq ?_
   obtain ⟨hg9, hr⟩ := gd hr
   obtain ⟨v10, hc11, hr⟩ := bd hr
   refine .g1 fine (ok0 (fiducialref09_Valid_ok n (gt l i_1) v10 hc11)) <| .mu 2 <| .p0 (v := .pp (l.flatMap api_Pix.c) (i_1.toNat * 2)) (tr (ofP_guard hg9)) <| .p0 (v := .agg (api_Pix.c (gt l i_1))) (Eq.trans (b := ORes.ofP (guardV (decide (2 ≤ ((l.flatMap api_Pix.c).drop (i_1.toNat * 2)).length)) (.agg (((l.flatMap api_Pix.c).drop (i_1.toNat * 2)).take 2)))) (by kernel_rfl) (flat_load api_Pix.len (inR_lt hg9) (by decide) (by omega : i_1.toNat * 2 = i_1.toNat * 2 + 0) (by kernel_rfl))) <| .ca cf0 <| .mu 1 <| .done <| .nh [0, 3, 15] [] ?_
   refine .cd hr (fun hb12 hr => ?_) (fun hb12 hr => ?_)
   ·refine .seq <| .ru fine <| .ret ?_
    obtain rfl := oi hr
    exact ⟨rfl, FinQ.ret (vs := [aB false]) (by kernel_rfl) (Sn.pure rfl)⟩
   ·refine .skip <| .pop <| .ru fine ?_
    exact loopF_back (wrapF .i64 (i_1 + 1)) hr ((Wk.gc [0, 3] [] rfl pK0).to (by kernel_rfl))
  ·refine .leave rfl ?_
   obtain rfl := oi hr
   exact ⟨rfl, ((Wk.gc [] [] rfl pK0).to (by kernel_rfl))⟩
 ·rcases o13 with ⟨⟩ | r0
  ·rintro x st' hq15
   clear hL14
   obtain ⟨rfl, hq15⟩ := hq15
   refine CQ_exit _ rfl <| .wk hq15 <| .seq <| .ru fine <| .ret ?_
   obtain rfl := oi hr
   exact FinQ.r1 [aB true]
  ·rintro x st' hq15
   clear hL14
   obtain ⟨rfl, hq15⟩ := hq15
   obtain rfl := oi hr
   exact CQ_ret _ hq15

theorem fiducialref09_before_ok (n : Nat) (a : api_Pix) (b : api_Pix) (r : Bool) (hr : fiducialref09_before n a b = some r) : FnOk Tryz.prog 79 [.agg (api_Pix.c a), .agg (api_Pix.c b)] (aB r) := by
 unfold fiducialref09_before at hr
 refine FnOk.bd fine Tryz.func79 [.tmp 4] ?_
 unfold Tryz.f79
 simp only [Option.getD_some]
 refine .seq <| .r2 fine 24 [(2, .hp 0 0), (3, .hp 1 0)] [.own (api_Pix.c a), .own (api_Pix.c b)] <| .seq ?_
 rcases Bool.eq_false_or_eq_true (decide (a.X < b.X)) with hb1 | hb1
 ·replace hr := cd_t hb1 hr
  refine .r0 fine <| .mu 4 <| .p0 (v := aB true) (eB hb1) <| .mu 15 <| .done <| .ret ?_
  obtain rfl := oi hr
  exact FinQ.r1 [aB true]
 ·replace hr := cd_f hb1 hr
  rcases Bool.eq_false_or_eq_true ((a.X : Int) == b.X) with hb2 | hb2
  ·replace hr := cd_t hb2 hr
   refine .r0 fine <| .mu 4 <| .p0 (v := aB false) (eB hb1) <| .mu 5 <| .pure (v := aB true) (by kernel_rfl) (eB hb2) <| .mu 9 <| .done <| .ret ?_
   obtain rfl := oi hr
   exact FinQ.r1 [aB (decide (a.Y < b.Y))]
  ·replace hr := cd_f hb2 hr
   refine .r0 fine <| .mu 4 <| .p0 (v := aB false) (eB hb1) <| .mu 5 <| .pure (v := aB false) (by kernel_rfl) (eB hb2) <| .mu 9 <| .done <| .ret ?_
   obtain rfl := oi hr
   exact FinQ.r1 [aB false]

theorem fiducialref09_first_ok (n : Nat) (l : List api_Pix) (i : Int) (r : Int) (hr : fiducialref09_first n l i = some r) : FnOk Tryz.prog 124 [slT api_Pix.c l, aI64 i] (aI64 r) := by
 unfold fiducialref09_first at hr
 refine FnOk.bd fine Tryz.func124 [.tmp 4] ?_
 unfold Tryz.f124
 simp only [Option.getD_some]
 refine .seq <| .r4 fine [0, 1] [] <| .seq <| .seq <| .r4 fine [0, 1] [(5, aI64 0)] <| .block ?_
 replace hr := bd hr; obtain ⟨o11, hL12, hr⟩ := hr
 refine .loopO (σ := fun z0 => match z0 with | k_1 => ⟨mkS 22 0 [(0, slT api_Pix.c l), (1, aI64 i), (5, aI64 k_1)], []⟩) (Q := fun x st' => match (generalizing := false) o11 with | .inl _ => x = .exit 0 ∧ Wk 0 st' ⟨mkS 22 0 [(1, aI64 i)], []⟩ | .inr (r0) => x = .ret ∧ FinQ Tryz.prog [.tmp 4] (aI64 r0) .ret st') hL12 ((Wk.gc [0, 1, 5] [] rfl pK0).to (by kernel_rfl)) ?_ ?_
 ·clear hr
  rintro m k_1 hr
  show CQ _ _ _ _ _ ⟨_, _⟩
  refine .seq <| .seq <| .r4 fine [0, 1, 5] [(8, aB (decide (k_1 < i)))] ?_
  refine .cd hr (fun hb7 hr => ?_) (fun hb7 hr => ?_)
  ·refine .skip <| .seq <| .block <| .seq ?_
   obtain ⟨hg8, hg9, hr⟩ := gd2 hr
   refine .regionT fine callOf_nil <| .mu 2 <| .pure (v := .pp (l.flatMap api_Pix.c) (k_1.toNat * 2)) (by kernel_rfl) (tr (ofP_guard hg8)) (by kernel_rfl) <| .pure (v := .agg (api_Pix.c (gt l k_1))) (by kernel_rfl) (Eq.trans (b := ORes.ofP (guardV (decide (2 ≤ ((l.flatMap api_Pix.c).drop (k_1.toNat * 2)).length)) (.agg (((l.flatMap api_Pix.c).drop (k_1.toNat * 2)).take 2)))) (by kernel_rfl) (flat_load api_Pix.len (inR_lt hg8) (by decide) (by omega : k_1.toNat * 2 = k_1.toNat * 2 + 0) (by kernel_rfl))) (by kernel_rfl) <| .mu 2 <| .pure (v := .pp (l.flatMap api_Pix.c) (i.toNat * 2)) (by kernel_rfl) (tr (ofP_guard hg9)) (by kernel_rfl) <| .pure (v := .agg (api_Pix.c (gt l i))) (by kernel_rfl) (Eq.trans (b := ORes.ofP (guardV (decide (2 ≤ ((l.flatMap api_Pix.c).drop (i.toNat * 2)).length)) (.agg (((l.flatMap api_Pix.c).drop (i.toNat * 2)).take 2)))) (by kernel_rfl) (flat_load api_Pix.len (inR_lt hg9) (by decide) (by omega : i.toNat * 2 = i.toNat * 2 + 0) (by kernel_rfl))) (by kernel_rfl) <| .mu 1 ?_
   refine .done ⟨by kernel_rfl, ?_⟩
   refine .nh [0, 1, 5, 19] [] ?_
   refine .cd hr (fun hb10 hr => ?_) (fun hb10 hr => ?_)
   ·refine .seq <| .ru fine <| .ret ?_
    obtain rfl := oi hr
    exact ⟨rfl, FinQ.ret (vs := [aI64 k_1]) (by kernel_rfl) (Sn.pure rfl)⟩
   ·refine .skip <| .pop <| .ru fine ?_
    exact loopF_back (wrapF .i64 (k_1 + 1)) hr ((Wk.gc [0, 1, 5] [] rfl pK0).to (by kernel_rfl))
  ·refine .leave rfl ?_
   obtain rfl := oi hr
   exact ⟨rfl, ((Wk.gc [1] [] rfl pK0).to (by kernel_rfl))⟩
 ·rcases o11 with ⟨⟩ | r0
  ·rintro x st' hq13
   clear hL12
   obtain ⟨rfl, hq13⟩ := hq13
   refine CQ_exit _ rfl <| .wk hq13 <| .seq <| .ru fine <| .ret ?_
   obtain rfl := oi hr
   exact FinQ.r1 [aI64 i]
  ·rintro x st' hq13
   clear hL12
   obtain ⟨rfl, hq13⟩ := hq13
   obtain rfl := oi hr
   exact CQ_ret _ hq13

theorem fiducialref09_sign_ok (n : Nat) (n' : Int) (r : Int) (hr : fiducialref09_sign n n' = some r) : FnOk Tryz.prog 81 [aI64 n'] (aI64 r) := by
 unfold fiducialref09_sign at hr
 refine FnOk.bd fine Tryz.func81 [.tmp 2] ?_
 unfold Tryz.f81
 simp only [Option.getD_some]
 refine .seq <| .r4 fine [0] [] <| .seq <| .seq <| .r4 fine [0] [(4, aB (decide (n' < 0)))] ?_
 refine .cd hr (fun hb1 hr => ?_) (fun hb1 hr => ?_)
 ·refine .seq <| .ru fine <| .ret ?_
  obtain rfl := oi hr
  exact FinQ.r1 [aI64 (-1)]
 ·refine .skip <| .seq <| .seq <| .r3 fine 7 [(6, aB (decide (n' > 0)))] ?_
  refine .cd hr (fun hb2 hr => ?_) (fun hb2 hr => ?_)
  ·refine .seq <| .ru fine <| .ret ?_
   obtain rfl := oi hr
   exact FinQ.r1 [aI64 1]
  ·refine .skip <| .seq <| .ru fine <| .ret ?_
   obtain rfl := oi hr
   exact FinQ.r1 [aI64 0]

theorem fiducialref09_Orient_ok (n : Nat) (a : api_Pix) (b : api_Pix) (c : api_Pix) (r : Int) (hr : fiducialref09_Orient n a b c = some r) : FnOk Tryz.prog 24 [.agg (api_Pix.c a), .agg (api_Pix.c b), .agg (api_Pix.c c)] (aI64 r) := by
 unfold fiducialref09_Orient at hr
 refine FnOk.bd fine Tryz.func24 [.tmp 6] ?_
 unfold Tryz.f24
 simp only [Option.getD_some]
 refine .seq <| .r2 fine 37 [(3, .hp 0 0), (4, .hp 1 0), (5, .hp 2 0)] [.own (api_Pix.c a), .own (api_Pix.c b), .own (api_Pix.c c)] <| .seq <| .seq ?_
 obtain ⟨v1, hc2, hr⟩ := bd hr
 refine .gn fine (ca4 [.own (api_Pix.c a), .own (api_Pix.c b), .own (api_Pix.c c), .own [aI64 a.X, aI64 a.Y, aI64 b.X, aI64 b.Y, aI64 c.X, aI64 c.Y]] (callOk_val (args := [.hs 3 0 3 2]) (l := [3]) rfl (SnL.cons (Sn.hs rfl (.inl rfl) (SnC.cons (Sn.pure rfl) (SnC.cons (Sn.pure rfl) (SnC.cons (Sn.pure rfl) (SnC.cons (Sn.pure rfl) (SnC.cons (Sn.pure rfl) (SnC.cons (Sn.pure rfl) SnC.nil)))))) (fun h => nomatch h)) SnL.nil) (fiducialref09_All_ok n [a, b, c] v1 hc2))) <| .mu 4 <| .ca cf0 <| .mu 1 <| .done <| .nh [3, 4, 5, 12] [.own (api_Pix.c a), .own (api_Pix.c b), .own (api_Pix.c c), .own [aI64 a.X, aI64 a.Y, aI64 b.X, aI64 b.Y, aI64 c.X, aI64 c.Y]] ?_
 refine .cd hr (fun hb3 hr => ?_) (fun hb3 hr => ?_)
 ·refine .seq <| .ru fine <| .ret ?_
  obtain rfl := oi hr
  exact FinQ.r1 [aI64 0]
 ·refine .skip <| .seq ?_
  obtain ⟨v4, hc5, hr⟩ := bd hr
  refine .g1 fine (ok0 (fiducialref09_sign_ok n (wrapF .i64 ((wrapF .i64 ((wrapF .i64 (b.X - a.X)) * (wrapF .i64 (c.Y - a.Y)))) - (wrapF .i64 ((wrapF .i64 (b.Y - a.Y)) * (wrapF .i64 (c.X - a.X)))))) v4 hc5)) <| .mu 23 <| .ca cf0 <| .mu 1 <| .done <| .ret ?_
  obtain rfl := oi hr
  exact FinQ.r1 [aI64 v4]

theorem fiducialref09_least_inj {a : Int} {b : Int} {a_ : Int} {b_ : Int} (h : ([.at (.int .i64 a), .at (.int .i64 b)] : List AV) = [.at (.int .i64 a_), .at (.int .i64 b_)]) : a = a_ ∧ b = b_ := by
 simp only [List.cons.injEq, AV.agg.injEq, AV.at.injEq, Value.int.injEq, Value.bool.injEq, AV.fn.injEq, AV.pp.injEq, true_and, and_true] at h
 simp_all
theorem fiducialref09_least_cg (n : Nat) {a : Int} {b : Int} {a_ : Int} {b_ : Int} (h : ([.at (.int .i64 a), .at (.int .i64 b)] : List AV) = [.at (.int .i64 a_), .at (.int .i64 b_)]) : fiducialref09_least n a b = fiducialref09_least n a_ b_ := by
 obtain ⟨rfl, rfl⟩ := fiducialref09_least_inj h
 rfl
theorem fiducialref09_least_ok (n : Nat) (a : Int) (b : Int) (r : Int) (hr : fiducialref09_least n a b = some r) : FnOk Tryz.prog 161 [aI64 a, aI64 b] (aI64 r) := by
 unfold fiducialref09_least at hr
 refine FnOk.bd fine Tryz.func161 [.tmp 4] ?_
 unfold Tryz.f161
 simp only [Option.getD_some]
 refine .seq <| .r4 fine [0, 1] [] <| .seq <| .seq <| .r4 fine [0, 1] [(7, aB (decide (a < b)))] ?_
 refine .cd hr (fun hb1 hr => ?_) (fun hb1 hr => ?_)
 ·refine .seq <| .ru fine <| .ret ?_
  obtain rfl := oi hr
  exact FinQ.r1 [aI64 a]
 ·refine .skip <| .seq <| .ru fine <| .ret ?_
  obtain rfl := oi hr
  exact FinQ.r1 [aI64 b]

theorem fiducialref09_most_inj {a : Int} {b : Int} {a_ : Int} {b_ : Int} (h : ([.at (.int .i64 a), .at (.int .i64 b)] : List AV) = [.at (.int .i64 a_), .at (.int .i64 b_)]) : a = a_ ∧ b = b_ := by
 simp only [List.cons.injEq, AV.agg.injEq, AV.at.injEq, Value.int.injEq, Value.bool.injEq, AV.fn.injEq, AV.pp.injEq, true_and, and_true] at h
 simp_all
theorem fiducialref09_most_cg (n : Nat) {a : Int} {b : Int} {a_ : Int} {b_ : Int} (h : ([.at (.int .i64 a), .at (.int .i64 b)] : List AV) = [.at (.int .i64 a_), .at (.int .i64 b_)]) : fiducialref09_most n a b = fiducialref09_most n a_ b_ := by
 obtain ⟨rfl, rfl⟩ := fiducialref09_most_inj h
 rfl
theorem fiducialref09_most_ok (n : Nat) (a : Int) (b : Int) (r : Int) (hr : fiducialref09_most n a b = some r) : FnOk Tryz.prog 162 [aI64 a, aI64 b] (aI64 r) := by
 unfold fiducialref09_most at hr
 refine FnOk.bd fine Tryz.func162 [.tmp 4] ?_
 unfold Tryz.f162
 simp only [Option.getD_some]
 refine .seq <| .r4 fine [0, 1] [] <| .seq <| .seq <| .r4 fine [0, 1] [(7, aB (decide (a > b)))] ?_
 refine .cd hr (fun hb1 hr => ?_) (fun hb1 hr => ?_)
 ·refine .seq <| .ru fine <| .ret ?_
  obtain rfl := oi hr
  exact FinQ.r1 [aI64 a]
 ·refine .skip <| .seq <| .ru fine <| .ret ?_
  obtain rfl := oi hr
  exact FinQ.r1 [aI64 b]

theorem fiducialref09_Between_ok (n : Nat) (a : api_Pix) (b : api_Pix) (c : api_Pix) (r : Bool) (hr : fiducialref09_Between n a b c = some r) : FnOk Tryz.prog 125 [.agg (api_Pix.c a), .agg (api_Pix.c b), .agg (api_Pix.c c)] (aB r) := by
 unfold fiducialref09_Between at hr
 refine FnOk.bd fine Tryz.func125 [.tmp 6] ?_
 unfold Tryz.f125
 simp only [Option.getD_some]
 refine .seq <| .r2 fine 58 [(3, .hp 0 0), (4, .hp 1 0), (5, .hp 2 0)] [.own (api_Pix.c a), .own (api_Pix.c b), .own (api_Pix.c c)] <| .seq <| .seq ?_
 obtain ⟨v1, hc2, hr⟩ := bd hr
 rcases Bool.eq_false_or_eq_true (!v1) with hb3 | hb3
 ·replace hr := cd_t hb3 hr
  refine .gn fine (ca4 [.own (api_Pix.c a), .own (api_Pix.c b), .own (api_Pix.c c), .own [aI64 a.X, aI64 a.Y, aI64 b.X, aI64 b.Y, aI64 c.X, aI64 c.Y]] (callOk_val (args := [.hs 3 0 3 2]) (l := [3]) rfl (SnL.cons (Sn.hs rfl (.inl rfl) (SnC.cons (Sn.pure rfl) (SnC.cons (Sn.pure rfl) (SnC.cons (Sn.pure rfl) (SnC.cons (Sn.pure rfl) (SnC.cons (Sn.pure rfl) (SnC.cons (Sn.pure rfl) SnC.nil)))))) (fun h => nomatch h)) SnL.nil) (fiducialref09_All_ok n [a, b, c] v1 hc2))) <| .mu 4 <| .ca cf0 <| .p0 (v := aB true) (eB hb3) <| .mu 7 <| .done <| .nh [3, 4, 5, 19] [.own (api_Pix.c a), .own (api_Pix.c b), .own (api_Pix.c c), .own [aI64 a.X, aI64 a.Y, aI64 b.X, aI64 b.Y, aI64 c.X, aI64 c.Y]] <| .cT (by kernel_rfl) <| .seq <| .ru fine <| .ret ?_
  obtain rfl := oi hr
  exact FinQ.r1 [aB false]
 ·replace hr := cd_f hb3 hr
  obtain ⟨v4, hc5, hr⟩ := bd hr
  refine .gn fine (ca2 [.own (api_Pix.c a), .own (api_Pix.c b), .own (api_Pix.c c), .own [aI64 a.X, aI64 a.Y, aI64 b.X, aI64 b.Y, aI64 c.X, aI64 c.Y]] (callOk_val (args := [.hs 3 0 3 2]) (l := [3]) rfl (SnL.cons (Sn.hs rfl (.inl rfl) (SnC.cons (Sn.pure rfl) (SnC.cons (Sn.pure rfl) (SnC.cons (Sn.pure rfl) (SnC.cons (Sn.pure rfl) (SnC.cons (Sn.pure rfl) (SnC.cons (Sn.pure rfl) SnC.nil)))))) (fun h => nomatch h)) SnL.nil) (fiducialref09_All_ok n [a, b, c] v1 hc2)) (ca4 [.own (api_Pix.c a), .own (api_Pix.c b), .own (api_Pix.c c), .own [aI64 a.X, aI64 a.Y, aI64 b.X, aI64 b.Y, aI64 c.X, aI64 c.Y]] (ok0 (fiducialref09_Orient_ok n a b c v4 hc5)))) <| .mu 4 <| .ca cf0 <| .p0 (v := aB false) (eB hb3) <| .mu 4 <| .ca (cfF cf0) <| .mu 2 <| .done <| .nh [3, 4, 5, 19] [.own (api_Pix.c a), .own (api_Pix.c b), .own (api_Pix.c c), .own [aI64 a.X, aI64 a.Y, aI64 b.X, aI64 b.Y, aI64 c.X, aI64 c.Y]] ?_
  refine .cd hr (fun hb6 hr => ?_) (fun hb6 hr => ?_)
  ·refine .seq <| .ru fine <| .ret ?_
   obtain rfl := oi hr
   exact FinQ.r1 [aB false]
  ·refine .skip <| .seq ?_
   obtain ⟨v7, hc8, hr⟩ := bd hr
   rcases Bool.eq_false_or_eq_true (decide (c.X ≥ v7)) with hb9 | hb9
   ·replace hr := cd_t hb9 hr
    obtain ⟨v10, hc11, hr⟩ := bd hr
    rcases Bool.eq_false_or_eq_true (decide (c.X ≤ v10)) with hb12 | hb12
    ·replace hr := cd_t hb12 hr
     obtain ⟨v13, hc14, hr⟩ := bd hr
     rcases Bool.eq_false_or_eq_true (decide (c.Y ≥ v13)) with hb15 | hb15
     ·replace hr := cd_t hb15 hr
      obtain ⟨v16, hc17, hr⟩ := bd hr
      refine .tn fine (ca1 (ok0 (fiducialref09_least_ok n a.X b.X v7 hc8)) (ca1 (ok0 (fiducialref09_most_ok n a.X b.X v10 hc11)) (ca1 (ok0 (fiducialref09_least_ok n a.Y b.Y v13 hc14)) (ca3 (ok0 (fiducialref09_most_ok n a.Y b.Y v16 hc17)))))) <| .mu 6 <| .ca cf0 <| .pure (v := aB true) (by kernel_rfl) (eB hb9) (by kernel_rfl) <| .mu 7 <| .ca (cfF cf0) <| .pure (v := aB true) (by kernel_rfl) (eB hb12) (by kernel_rfl) <| .mu 8 <| .ca (cfA (fun h => by rw [sv hc14 hc8 (fiducialref09_least_cg n h)]) (cfF cf0)) <| .pure (v := aB true) (by kernel_rfl) (eB hb15) (by kernel_rfl) <| .mu 8 <| .ca (cfF (cfA (fun h => by rw [sv hc17 hc11 (fiducialref09_most_cg n h)]) (cfF cf0))) <| .mu 3 ?_
      refine .done ⟨by kernel_rfl, ?_⟩
      refine .ret ?_
      obtain rfl := oi hr
      exact FinQ.r1 [aB (decide (c.Y ≤ v16))]
     ·replace hr := cd_f hb15 hr
      refine .tn fine (ca1 (ok0 (fiducialref09_least_ok n a.X b.X v7 hc8)) (ca1 (ok0 (fiducialref09_most_ok n a.X b.X v10 hc11)) (ca3 (ok0 (fiducialref09_least_ok n a.Y b.Y v13 hc14))))) <| .mu 6 <| .ca cf0 <| .pure (v := aB true) (by kernel_rfl) (eB hb9) (by kernel_rfl) <| .mu 7 <| .ca (cfF cf0) <| .pure (v := aB true) (by kernel_rfl) (eB hb12) (by kernel_rfl) <| .mu 8 <| .ca (cfA (fun h => by rw [sv hc14 hc8 (fiducialref09_least_cg n h)]) (cfF cf0)) <| .pure (v := aB false) (by kernel_rfl) (eB hb15) (by kernel_rfl) <| .mu 12 ?_
      refine .done ⟨by kernel_rfl, ?_⟩
      refine .ret ?_
      obtain rfl := oi hr
      exact FinQ.r1 [aB false]
    ·replace hr := cd_f hb12 hr
     refine .tn fine (ca1 (ok0 (fiducialref09_least_ok n a.X b.X v7 hc8)) (ca3 (ok0 (fiducialref09_most_ok n a.X b.X v10 hc11)))) <| .mu 6 <| .ca cf0 <| .pure (v := aB true) (by kernel_rfl) (eB hb9) (by kernel_rfl) <| .mu 7 <| .ca (cfF cf0) <| .pure (v := aB false) (by kernel_rfl) (eB hb12) (by kernel_rfl) <| .mu 22 ?_
     refine .done ⟨by kernel_rfl, ?_⟩
     refine .ret ?_
     obtain rfl := oi hr
     exact FinQ.r1 [aB false]
   ·replace hr := cd_f hb9 hr
    refine .t1 fine (ok0 (fiducialref09_least_ok n a.X b.X v7 hc8)) <| .mu 6 <| .ca cf0 <| .pure (v := aB false) (by kernel_rfl) (eB hb9) (by kernel_rfl) <| .mu 31 ?_
    refine .done ⟨by kernel_rfl, ?_⟩
    refine .ret ?_
    obtain rfl := oi hr
    exact FinQ.r1 [aB false]

theorem fiducialref09_next_ok (n : Nat) (l : List api_Pix) (i : Int) (r : Int) (hr : fiducialref09_next n l i = some r) : FnOk Tryz.prog 80 [slT api_Pix.c l, aI64 i] (aI64 r) := by
 unfold fiducialref09_next at hr
 refine FnOk.bd fine Tryz.func80 [.tmp 4] ?_
 unfold Tryz.f80
 simp only [Option.getD_some]
 refine .seq <| .r4 fine [0, 1] [] <| .seq <| .r4 fine [0, 1] [(5, aI64 i)] <| .seq <| .seq <| .r4 fine [0, 1, 5] [(6, aI64 0)] <| .block ?_
 replace hr := bd hr; obtain ⟨at_19, hL38, hr⟩ := hr
 refine .loopO (σ := fun z0 => match z0 with | (at_1, k_2) => ⟨mkS 65 0 [(0, slT api_Pix.c l), (1, aI64 i), (5, aI64 at_1), (6, aI64 k_2)], []⟩) (Q := fun x st' => x = .exit 0 ∧ Wk 0 st' ⟨mkS 65 0 [(5, aI64 at_19)], []⟩) hL38 ((Wk.gc [0, 1, 5, 6] [] rfl pK0).to (by kernel_rfl)) ?_ ?_
 ·clear hr
  rintro m ⟨at_1, k_2⟩ hr
  show CQ _ _ _ _ _ ⟨_, _⟩
  refine .seq <| .seq <| .r4 fine [0, 1, 5, 6] [(12, aB (decide (k_2 < (l.length : Int))))] ?_
  refine .cd hr (fun hb21 hr => ?_) (fun hb21 hr => ?_)
  ·refine .skip <| .seq <| .block <| .seq <| .seq ?_
   obtain ⟨v22, hc23, hr⟩ := bd hr
   rcases Bool.eq_false_or_eq_true ((v22 : Int) != k_2) with hb24 | hb24
   ·replace hr := cd_t hb24 hr
    refine .g1 fine (ok0 (fiducialref09_first_ok n l k_2 v22 hc23)) <| .mu 2 <| .ca cf0 <| .mu 1 <| .p0 (v := aB true) (eB hb24) <| .mu 5 <| .done <| .nh [0, 1, 5, 6, 24] [] <| .cT (by kernel_rfl) <| .exit rfl <| .ru fine ?_
    exact loopF_back (at_1, wrapF .i64 (k_2 + 1)) hr ((Wk.gc [0, 1, 5, 6] [] rfl pK0).to (by kernel_rfl))
   ·replace hr := cd_f hb24 hr
    refine .g1 fine (ok0 (fiducialref09_first_ok n l k_2 v22 hc23)) <| .mu 2 <| .ca cf0 <| .mu 1 <| .p0 (v := aB false) (eB hb24) <| .mu 5 <| .done <| .nh [0, 1, 5, 6, 24] [] ?_
    refine .cd hr (fun hb25 hr => ?_) (fun hb25 hr => ?_)
    ·refine .exit rfl <| .ru fine ?_
     exact loopF_back (at_1, wrapF .i64 (k_2 + 1)) hr ((Wk.gc [0, 1, 5, 6] [] rfl pK0).to (by kernel_rfl))
    ·refine .skip <| .seq <| .seq <| .r4 fine [0, 1, 5, 6] [(27, aB ((at_1 : Int) == i))] ?_
     refine .cd hr (fun hb26 hr => ?_) (fun hb26 hr => ?_)
     ·refine .seq <| .r4 fine [0, 1, 6] [(5, aI64 k_2)] <| .exit rfl <| .ru fine ?_
      exact loopF_back (k_2, wrapF .i64 (k_2 + 1)) hr ((Wk.gc [0, 1, 5, 6] [] rfl pK0).to (by kernel_rfl))
     ·refine .skip <| .seq ?_
      obtain ⟨hg27, hg28, hg29, hr⟩ := gd3 hr
      obtain ⟨v30, hc31, hr⟩ := bd hr
      refine .t1 fine (ok0 (fiducialref09_Orient_ok n (gt l i) (gt l at_1) (gt l k_2) v30 hc31)) <| .mu 2 <| .pure (v := .pp (l.flatMap api_Pix.c) (i.toNat * 2)) (by kernel_rfl) (tr (ofP_guard hg27)) (by kernel_rfl) <| .pure (v := .agg (api_Pix.c (gt l i))) (by kernel_rfl) (Eq.trans (b := ORes.ofP (guardV (decide (2 ≤ ((l.flatMap api_Pix.c).drop (i.toNat * 2)).length)) (.agg (((l.flatMap api_Pix.c).drop (i.toNat * 2)).take 2)))) (by kernel_rfl) (flat_load api_Pix.len (inR_lt hg27) (by decide) (by omega : i.toNat * 2 = i.toNat * 2 + 0) (by kernel_rfl))) (by kernel_rfl) <| .mu 2 <| .pure (v := .pp (l.flatMap api_Pix.c) (at_1.toNat * 2)) (by kernel_rfl) (tr (ofP_guard hg28)) (by kernel_rfl) <| .pure (v := .agg (api_Pix.c (gt l at_1))) (by kernel_rfl) (Eq.trans (b := ORes.ofP (guardV (decide (2 ≤ ((l.flatMap api_Pix.c).drop (at_1.toNat * 2)).length)) (.agg (((l.flatMap api_Pix.c).drop (at_1.toNat * 2)).take 2)))) (by kernel_rfl) (flat_load api_Pix.len (inR_lt hg28) (by decide) (by omega : at_1.toNat * 2 = at_1.toNat * 2 + 0) (by kernel_rfl))) (by kernel_rfl) <| .mu 2 <| .pure (v := .pp (l.flatMap api_Pix.c) (k_2.toNat * 2)) (by kernel_rfl) (tr (ofP_guard hg29)) (by kernel_rfl) <| .pure (v := .agg (api_Pix.c (gt l k_2))) (by kernel_rfl) (Eq.trans (b := ORes.ofP (guardV (decide (2 ≤ ((l.flatMap api_Pix.c).drop (k_2.toNat * 2)).length)) (.agg (((l.flatMap api_Pix.c).drop (k_2.toNat * 2)).take 2)))) (by kernel_rfl) (flat_load api_Pix.len (inR_lt hg29) (by decide) (by omega : k_2.toNat * 2 = k_2.toNat * 2 + 0) (by kernel_rfl))) (by kernel_rfl) <| .ca cf0 <| .mu 1 ?_
      refine .done ⟨by kernel_rfl, ?_⟩
      refine .nh [0, 1, 5, 6, 7] [] <| .seq ?_
      rcases Bool.eq_false_or_eq_true (decide (v30 < 0)) with hb32 | hb32
      ·replace hr := cd_t hb32 hr
       refine .regionT fine callOf_nil <| .mu 1 <| .pure (v := aB true) (by kernel_rfl) (eB hb32) (by kernel_rfl) <| .mu 19 ?_
       refine .done ⟨by kernel_rfl, ?_⟩
       refine .nh [0, 1, 5, 6, 62] [] <| .cT (by kernel_rfl) <| .ru fine <| .pop <| .ru fine ?_
       exact loopF_back (k_2, wrapF .i64 (k_2 + 1)) hr ((Wk.gc [0, 1, 5, 6] [] rfl pK0).to (by kernel_rfl))
      ·replace hr := cd_f hb32 hr
       rcases Bool.eq_false_or_eq_true ((v30 : Int) == 0) with hb33 | hb33
       ·replace hr := cd_t hb33 hr
        obtain ⟨v34, hc35, hr⟩ := bd hr
        refine .t1 fine (ok0 (fiducialref09_Between_ok n (gt l i) (gt l k_2) (gt l at_1) v34 hc35)) <| .mu 1 <| .pure (v := aB false) (by kernel_rfl) (eB hb32) (by kernel_rfl) <| .mu 2 <| .pure (v := aB true) (by kernel_rfl) (eB hb33) (by kernel_rfl) <| .mu 3 <| .pure (v := .pp (l.flatMap api_Pix.c) (i.toNat * 2)) (by kernel_rfl) (tr (ofP_guard hg27)) (by kernel_rfl) <| .pure (v := .agg (api_Pix.c (gt l i))) (by kernel_rfl) (Eq.trans (b := ORes.ofP (guardV (decide (2 ≤ ((l.flatMap api_Pix.c).drop (i.toNat * 2)).length)) (.agg (((l.flatMap api_Pix.c).drop (i.toNat * 2)).take 2)))) (by kernel_rfl) (flat_load api_Pix.len (inR_lt hg27) (by decide) (by omega : i.toNat * 2 = i.toNat * 2 + 0) (by kernel_rfl))) (by kernel_rfl) <| .mu 2 <| .pure (v := .pp (l.flatMap api_Pix.c) (k_2.toNat * 2)) (by kernel_rfl) (tr (ofP_guard hg29)) (by kernel_rfl) <| .pure (v := .agg (api_Pix.c (gt l k_2))) (by kernel_rfl) (Eq.trans (b := ORes.ofP (guardV (decide (2 ≤ ((l.flatMap api_Pix.c).drop (k_2.toNat * 2)).length)) (.agg (((l.flatMap api_Pix.c).drop (k_2.toNat * 2)).take 2)))) (by kernel_rfl) (flat_load api_Pix.len (inR_lt hg29) (by decide) (by omega : k_2.toNat * 2 = k_2.toNat * 2 + 0) (by kernel_rfl))) (by kernel_rfl) <| .mu 2 <| .pure (v := .pp (l.flatMap api_Pix.c) (at_1.toNat * 2)) (by kernel_rfl) (tr (ofP_guard hg28)) (by kernel_rfl) <| .pure (v := .agg (api_Pix.c (gt l at_1))) (by kernel_rfl) (Eq.trans (b := ORes.ofP (guardV (decide (2 ≤ ((l.flatMap api_Pix.c).drop (at_1.toNat * 2)).length)) (.agg (((l.flatMap api_Pix.c).drop (at_1.toNat * 2)).take 2)))) (by kernel_rfl) (flat_load api_Pix.len (inR_lt hg28) (by decide) (by omega : at_1.toNat * 2 = at_1.toNat * 2 + 0) (by kernel_rfl))) (by kernel_rfl) <| .ca cf0 <| .mu 2 ?_
        refine .done ⟨by kernel_rfl, ?_⟩
        refine .nh [0, 1, 5, 6, 62] [] ?_
        refine .cd hr (fun hb36 hr => ?_) (fun hb36 hr => ?_)
        ·refine .ru fine <| .pop <| .ru fine ?_
         exact loopF_back (k_2, wrapF .i64 (k_2 + 1)) hr ((Wk.gc [0, 1, 5, 6] [] rfl pK0).to (by kernel_rfl))
        ·refine .skip <| .pop <| .ru fine ?_
         exact loopF_back (at_1, wrapF .i64 (k_2 + 1)) hr ((Wk.gc [0, 1, 5, 6] [] rfl pK0).to (by kernel_rfl))
       ·replace hr := cd_f hb33 hr
        refine .regionT fine callOf_nil <| .mu 1 <| .pure (v := aB false) (by kernel_rfl) (eB hb32) (by kernel_rfl) <| .mu 2 <| .pure (v := aB false) (by kernel_rfl) (eB hb33) (by kernel_rfl) <| .mu 16 ?_
        refine .done ⟨by kernel_rfl, ?_⟩
        refine .nh [0, 1, 5, 6, 62] [] <| .cF (by kernel_rfl) <| .skip <| .pop <| .ru fine ?_
        exact loopF_back (at_1, wrapF .i64 (k_2 + 1)) hr ((Wk.gc [0, 1, 5, 6] [] rfl pK0).to (by kernel_rfl))
  ·refine .leave rfl ?_
   obtain rfl := oi hr
   exact ⟨rfl, ((Wk.gc [5] [] rfl pK0).to (by kernel_rfl))⟩
 ·rintro x st' hq39
  clear hL38
  obtain ⟨rfl, hq39⟩ := hq39
  refine CQ_exit _ rfl <| .wk hq39 <| .seq <| .ru fine <| .ret ?_
  obtain rfl := oi hr
  exact FinQ.r1 [aI64 at_19]
end Go.L
