/- The program's functions compute what the plain Lean programs compute, part 3; printed by a program. -/
import Derived.Test.YtiicieaabeamoaaGreatVerLP2
import Derived.Test.YtiicieaabeamoaaGreatL0keihabgp
import Derived.Test.YtiicieaabeamoaaGreatSortndaamkao
import Derived.Test.YtiicieaabeamoaaGreatSortRklogiogm
import Derived.Test.YtiicieaabeamoaaGreatChecked
import Derived.KernelRfl
set_option linter.all false
set_option maxRecDepth 100000
set_option maxHeartbeats 4000000
namespace Go.L
open Go Go.Eng Go.Proofs
theorem slices_CompactFunc_fiducial_api_Rat_fiducial_api_Rat_w_of_fiducialref02_Same_ok (n : Nat) (s : List api_Rat) (r : List api_Rat) (hr : slices_CompactFunc_fiducial_api_Rat_fiducial_api_Rat_w_of_fiducialref02_Same n s = some r) : FnMut 1 Tryz.prog 84 [.hs 0 0 s.length 4, .fn 24 [] []] [.own (s.flatMap api_Rat.c)] (.hs 0 0 r.length 4) [.own (r.flatMap api_Rat.c)] := by
 unfold slices_CompactFunc_fiducial_api_Rat_fiducial_api_Rat_w_of_fiducialref02_Same at hr
 refine FnMut.bodyW G Tryz.func84 (c := (Tryz.f84.body).getD .skip) rfl (us := [.hs 0 0 r.length 4]) (s := mkS 66 0 [(0, .hs 0 0 s.length 4), (1, .fn 24 [] [])]) (by kernel_rfl) (rs := [.tmp 4]) rfl ?_
 unfold Tryz.f84
 simp only [Option.getD_some]
 refine .seq (.r4 G [0, 1] [] (.seq (.seq (.r4 G [0, 1] [(10, aB (decide ((s.length : Int) < 2)))] ?_))))
 refine .cd hr (fun hb80 hr => ?_) (fun hb80 hr => ?_)
 ·refine .seq (.r3 G 66 [(4, .hs 0 0 s.length 4)] (.ret ?_))
  obtain rfl := oi hr
  exact FinMW.ret [.hs 0 0 s.length 4] ((Wk.gc [0] [(0, false)] rfl (pKo api_Rat.c api_Rat.pure s trivial)).to)
 ·refine .skip (.seq (.seq (.r4 G [0, 1] [(5, aI64 1)] (.block ?_))))
  replace hr := bd hr; obtain ⟨o155, hL156, hr⟩ := hr
  refine .loopO (σ := fun z0 => match z0 with | k_81 => ⟨mkS 66 0 [(0, .hs 0 0 s.length 4), (1, .fn 24 [] []), (5, aI64 k_81)], [.own (s.flatMap api_Rat.c)]⟩) (Q := fun x st' => match (generalizing := false) o155 with | .inl _ => x = .exit 0 ∧ Wk 1 st' ⟨mkS 66 0 [(0, .hs 0 0 s.length 4)], [.own (s.flatMap api_Rat.c)]⟩ | .inr (r0) => x = .ret ∧ FinMW 1 Tryz.prog [.tmp 4] [.hs 0 0 r0.length 4] [.own (r0.flatMap api_Rat.c)] .ret st') hL156 ((Wk.gc [0, 1, 5] [(0, false)] rfl (pKo api_Rat.c api_Rat.pure s trivial)).to) ?_ ?_
  ·clear hr
   rintro m k_81 hr
   show CQ _ _ _ _ _ ⟨_, _⟩
   refine .seq (.seq (.r4 G [0, 1, 5] [(15, aB (decide (k_81 < (s.length : Int))))] ?_))
   refine .cd hr (fun hb119 hr => ?_) (fun hb119 hr => ?_)
   ·refine .skip (.seq (.block (.seq ?_)))
    obtain ⟨hg120, hg121, hr⟩ := gd2 hr
    obtain ⟨v122, hc123, hr⟩ := bd hr
    refine .t1 G (ok0 (fiducialref02_Same_ok n (gt s k_81) (gt s (wrapF .i64 (k_81 - 1))) v122 hc123)) (.mu 3 (.pure (v := .hp 0 (0 + k_81.toNat * 4)) (by kernel_rfl) (tr (ofP_guard hg120)) (by kernel_rfl) (.pure (v := .agg (api_Rat.c (gt s k_81))) (by kernel_rfl) (Eq.trans (b := ORes.ofP (guardV (decide (4 ≤ ((s.flatMap api_Rat.c).drop (0 + k_81.toNat * 4)).length)) (.agg (((s.flatMap api_Rat.c).drop (0 + k_81.toNat * 4)).take 4)))) (by kernel_rfl) (flat_load api_Rat.len (inR_lt hg120) (by decide) (by omega : 0 + k_81.toNat * 4 = k_81.toNat * 4 + 0) (by kernel_rfl))) (by kernel_rfl) (.mu 3 (.pure (v := .hp 0 (0 + (wrapF .i64 (k_81 - 1)).toNat * 4)) (by kernel_rfl) (tr (ofP_guard hg121)) (by kernel_rfl) (.pure (v := .agg (api_Rat.c (gt s (wrapF .i64 (k_81 - 1))))) (by kernel_rfl) (Eq.trans (b := ORes.ofP (guardV (decide (4 ≤ ((s.flatMap api_Rat.c).drop (0 + (wrapF .i64 (k_81 - 1)).toNat * 4)).length)) (.agg (((s.flatMap api_Rat.c).drop (0 + (wrapF .i64 (k_81 - 1)).toNat * 4)).take 4)))) (by kernel_rfl) (flat_load api_Rat.len (inR_lt hg121) (by decide) (by omega : 0 + (wrapF .i64 (k_81 - 1)).toNat * 4 = (wrapF .i64 (k_81 - 1)).toNat * 4 + 0) (by kernel_rfl))) (by kernel_rfl) (.ca cf0 ?_)))))))
    refine .done ⟨by kernel_rfl, ?_⟩
    refine .nh [0, 1, 5, 28] [.own (s.flatMap api_Rat.c)] ?_
    refine .cd hr (fun hb124 hr => ?_) (fun hb124 hr => ?_)
    ·refine .seq ?_
     obtain ⟨hg125, hr⟩ := gd hr
     refine .r0 G (.mu 2 (.p0 (v := .hs 0 (0 + k_81.toNat * 4) (s.length - k_81.toNat) 4) (Eq.trans (b := slH (inS k_81 (s.length : Int) s.length) true (k_81.toNat) ((s.length : Int).toNat) (fun z1 z2 => .hs 0 (0 + z1 * 4) (z2 - z1) 4)) (by kernel_rfl) (slH_t hg125 (by kernel_rfl))) (.mu 1 (.done (.nh [0, 1, 5, 6] [.own (s.flatMap api_Rat.c)] (.seq (.seq (.r4 G [0, 1, 5, 6] [(7, aI64 1)] (.block ?_)))))))))
     replace hr := bd hr; obtain ⟨o150, hL151, hr⟩ := hr
     refine .loopO (σ := fun z0 => match z0 with | (s_126, k_127, k2_128) => ⟨mkS 66 0 [(0, .hs 0 0 s_126.length 4), (1, .fn 24 [] []), (5, aI64 k_127), (6, .hs 0 (0 + k_81.toNat * 4) (s.length - k_81.toNat) 4), (7, aI64 k2_128)], [.own (s_126.flatMap api_Rat.c)]⟩) (Q := fun x st' => match (generalizing := false) o150 with | (s_138, k_139) => x = .exit 2 ∧ Wk 1 st' ⟨mkS 66 0 [(0, .hs 0 0 s_138.length 4), (5, aI64 k_139)], [.own (s_138.flatMap api_Rat.c)]⟩) hL151 ((Wk.gc [0, 1, 5, 6, 7] [(0, false)] rfl (pKo api_Rat.c api_Rat.pure s trivial)).to) ?_ ?_
     ·clear hr
      rintro m ⟨s_126, k_127, k2_128⟩ hr
      show CQ _ _ _ _ _ ⟨_, _⟩
      refine .seq (.seq (.r4 G [0, 1, 5, 6, 7] [(35, aB (decide (k2_128 < ((s.length - k_81.toNat : Nat) : Int))))] ?_))
      refine .cd hr (fun hb141 hr => ?_) (fun hb141 hr => ?_)
      ·refine .skip (.seq (.block (.seq ?_)))
       obtain ⟨hg142, hg143, hg144, hr⟩ := gd3 hr
       obtain ⟨hg145, hr⟩ := gd hr
       obtain ⟨v146, hc147, hr⟩ := bd hr
       refine .t1 G (ok0 (fiducialref02_Same_ok n (gt s_126 ((k_81.toNat + k2_128.toNat : Nat) : Int)) (gt s_126 ((k_81.toNat + (wrapF .i64 (k2_128 - 1)).toNat : Nat) : Int)) v146 hc147)) (.mu 3 (.pure (v := .hp 0 (0 + k_81.toNat * 4 + k2_128.toNat * 4)) (by kernel_rfl) (tr (ofP_guard hg142)) (by kernel_rfl) (.pure (v := .agg (api_Rat.c (gt s_126 ((k_81.toNat + k2_128.toNat : Nat) : Int)))) (by kernel_rfl) (Eq.trans (b := ORes.ofP (guardV (decide (4 ≤ ((s_126.flatMap api_Rat.c).drop (0 + k_81.toNat * 4 + k2_128.toNat * 4)).length)) (.agg (((s_126.flatMap api_Rat.c).drop (0 + k_81.toNat * 4 + k2_128.toNat * 4)).take 4)))) (by kernel_rfl) (flat_load api_Rat.len (inR_lt hg143) (by decide) (by omega : 0 + k_81.toNat * 4 + k2_128.toNat * 4 = ((k_81.toNat + k2_128.toNat : Nat) : Int).toNat * 4 + 0) (by kernel_rfl))) (by kernel_rfl) (.mu 3 (.pure (v := .hp 0 (0 + k_81.toNat * 4 + (wrapF .i64 (k2_128 - 1)).toNat * 4)) (by kernel_rfl) (tr (ofP_guard hg144)) (by kernel_rfl) (.pure (v := .agg [aB (gt s_126 ((k_81.toNat + (wrapF .i64 (k2_128 - 1)).toNat : Nat) : Int)).Num.Negative, sU32 (gt s_126 ((k_81.toNat + (wrapF .i64 (k2_128 - 1)).toNat : Nat) : Int)).Num.Groups, aB (gt s_126 ((k_81.toNat + (wrapF .i64 (k2_128 - 1)).toNat : Nat) : Int)).Den.Negative, sU32 (gt s_126 ((k_81.toNat + (wrapF .i64 (k2_128 - 1)).toNat : Nat) : Int)).Den.Groups]) (by kernel_rfl) (Eq.trans (b := ORes.ofP (guardV (decide (4 ≤ ((s_126.flatMap api_Rat.c).drop (0 + k_81.toNat * 4 + (wrapF .i64 (k2_128 - 1)).toNat * 4)).length)) (.agg (((s_126.flatMap api_Rat.c).drop (0 + k_81.toNat * 4 + (wrapF .i64 (k2_128 - 1)).toNat * 4)).take 4)))) (by kernel_rfl) (flat_load api_Rat.len (inR_lt hg145) (by decide) (by omega : 0 + k_81.toNat * 4 + (wrapF .i64 (k2_128 - 1)).toNat * 4 = ((k_81.toNat + (wrapF .i64 (k2_128 - 1)).toNat : Nat) : Int).toNat * 4 + 0) (by kernel_rfl))) (by kernel_rfl) (.ca cf0 (.mu 1 ?_))))))))
       refine .done ⟨by kernel_rfl, ?_⟩
       refine .nh [0, 1, 5, 6, 7, 49] [.own (s_126.flatMap api_Rat.c)] ?_
       refine .cd hr (fun hb148 hr => ?_) (fun hb148 hr => ?_)
       ·refine .seq ?_
        obtain ⟨hg149, hr⟩ := gd hr
        refine .r0 G (.mu 4 (.p0 (v := .hp 0 (0 + k_81.toNat * 4 + k2_128.toNat * 4)) (tr (ofP_guard hg142)) (.p0 (v := .agg (api_Rat.c (gt s_126 ((k_81.toNat + k2_128.toNat : Nat) : Int)))) (Eq.trans (b := ORes.ofP (guardV (decide (4 ≤ ((s_126.flatMap api_Rat.c).drop (0 + k_81.toNat * 4 + k2_128.toNat * 4)).length)) (.agg (((s_126.flatMap api_Rat.c).drop (0 + k_81.toNat * 4 + k2_128.toNat * 4)).take 4)))) (by kernel_rfl) (flat_load api_Rat.len (inR_lt hg143) (by decide) (by omega : 0 + k_81.toNat * 4 + k2_128.toNat * 4 = ((k_81.toNat + k2_128.toNat : Nat) : Int).toNat * 4 + 0) (by kernel_rfl))) (.p0 (v := .hp 0 (0 + k_127.toNat * 4)) (tr (ofP_guard hg149)) (.e0 (v := .unk) (ws := [(0, .own ((s_126.set k_127.toNat (gt s_126 ((k_81.toNat + k2_128.toNat : Nat) : Int))).flatMap api_Rat.c))]) (tr (stO_t (and_t (flat_fits (n := 4) api_Rat.len (inR_lt hg149) (Nat.le_of_ble_eq_true rfl) (by omega : 0 + k_127.toNat * 4 = k_127.toNat * 4 + 0))) (congrArg Blk.own (flat_set (xs := (api_Rat.c (gt s_126 ((k_81.toNat + k2_128.toNat : Nat) : Int)))) api_Rat.len (inR_lt hg149) (Nat.le_of_ble_eq_true rfl) (by omega : 0 + k_127.toNat * 4 = k_127.toNat * 4 + 0) (by kernel_rfl))))) (.done (.nh [0, 1, 5, 6, 7] [.own ((s_126.set k_127.toNat (gt s_126 ((k_81.toNat + k2_128.toNat : Nat) : Int))).flatMap api_Rat.c)] (.ru G (.pop (.ru G ?_))))))))))
        exact loopF_back (s_126.set k_127.toNat (gt s_126 ((k_81.toNat + k2_128.toNat : Nat) : Int)), wrapF .i64 (k_127 + 1), wrapF .i64 (k2_128 + 1)) hr ((Wk.relen 0 (b := 0) (es := 4) (len := s_126.length) (s_126.set k_127.toNat (gt s_126 ((k_81.toNat + k2_128.toNat : Nat) : Int))).length (by kernel_rfl) (Eq.symm (List.length_set.trans rfl))).trans ((Wk.gc [0, 1, 5, 6, 7] [(0, false)] rfl (pKo api_Rat.c api_Rat.pure (s_126.set k_127.toNat (gt s_126 ((k_81.toNat + k2_128.toNat : Nat) : Int))) trivial)).to))
       ·refine .skip (.pop (.ru G ?_))
        exact loopF_back (s_126, k_127, wrapF .i64 (k2_128 + 1)) hr ((Wk.gc [0, 1, 5, 6, 7] [(0, false)] rfl (pKo api_Rat.c api_Rat.pure s_126 trivial)).to)
      ·refine .leave rfl ?_
       obtain rfl := oi hr
       exact ⟨rfl, ((Wk.gc [0, 5] [(0, false)] rfl (pKo api_Rat.c api_Rat.pure s_126 trivial)).to)⟩
     ·rcases o150 with ⟨s_138, k_139⟩
      rintro x st' hq152
      clear hL151
      obtain ⟨rfl, hq152⟩ := hq152
      refine CQ_exit _ rfl (.wk hq152 (.seq ?_))
      obtain ⟨hg153, hr⟩ := gd hr
      refine .r0 G (.mu 2 (.p0 (v := .hs 0 (0 + k_139.toNat * 4) (s_138.length - k_139.toNat) 4) (Eq.trans (b := slH (inS k_139 (s_138.length : Int) s_138.length) true (k_139.toNat) ((s_138.length : Int).toNat) (fun z1 z2 => .hs 0 (0 + z1 * 4) (z2 - z1) 4)) (by kernel_rfl) (slH_t hg153 (by kernel_rfl))) (.e0 (v := .at (.tuple #[])) (ws := [(0, .own ((overT s_138 k_139.toNat (List.replicate (s_138.length - k_139.toNat) (api_Rat.mk (api_Int.mk false []) (api_Int.mk false [])))).flatMap api_Rat.c))]) (tr (cl_t (a := k_139.toNat) (z := (api_Rat.mk (api_Int.mk false []) (api_Int.mk false []))) api_Rat.len rfl (Nat.zero_add _) (inS_lo hg153))) (.done (.nh [0, 5] [.own ((overT s_138 k_139.toNat (List.replicate (s_138.length - k_139.toNat) (api_Rat.mk (api_Int.mk false []) (api_Int.mk false [])))).flatMap api_Rat.c)] (.seq ?_))))))
      obtain ⟨hg154, hr⟩ := gd hr
      refine .r0 G (.mu 2 (.p0 (v := .hs 0 0 k_139.toNat 4) (Eq.trans (b := slH (inS 0 k_139 s_138.length) true ((0 : Int).toNat) (k_139.toNat) (fun z1 z2 => .hs 0 (0 + z1 * 4) (z2 - z1) 4)) (by kernel_rfl) (slH_t hg154 (by kernel_rfl))) (.mu 1 (.done (.nh [4] [.own ((overT s_138 k_139.toNat (List.replicate (s_138.length - k_139.toNat) (api_Rat.mk (api_Int.mk false []) (api_Int.mk false [])))).flatMap api_Rat.c)] (.wk ((Wk.cutS (c := api_Rat.c) (es := 4) 4 0 api_Rat.len (overT s_138 k_139.toNat (List.replicate (s_138.length - k_139.toNat) (api_Rat.mk (api_Int.mk false []) (api_Int.mk false [])))) k_139.toNat (Nat.le_trans (inS_le hg154) (Nat.le_of_eq (Eq.symm ((overT_len _ _ _).trans rfl)))) (by kernel_rfl) (by kernel_rfl)).to (c := ⟨mkS 66 0 [(4, .hs 0 0 ((overT s_138 k_139.toNat (List.replicate (s_138.length - k_139.toNat) (api_Rat.mk (api_Int.mk false []) (api_Int.mk false [])))).take k_139.toNat).length 4)], [.own (((overT s_138 k_139.toNat (List.replicate (s_138.length - k_139.toNat) (api_Rat.mk (api_Int.mk false []) (api_Int.mk false [])))).take k_139.toNat).flatMap api_Rat.c)]⟩) (by kernel_rfl)) (.ret ?_)))))))
      obtain rfl := oi hr
      exact ⟨rfl, FinMW.ret [.hs 0 0 ((overT s_138 k_139.toNat (List.replicate (s_138.length - k_139.toNat) (api_Rat.mk (api_Int.mk false []) (api_Int.mk false [])))).take k_139.toNat).length 4] ((Wk.gc [0] [(0, false)] rfl (pKo api_Rat.c api_Rat.pure ((overT s_138 k_139.toNat (List.replicate (s_138.length - k_139.toNat) (api_Rat.mk (api_Int.mk false []) (api_Int.mk false [])))).take k_139.toNat) trivial)).to)⟩
    ·refine .skip (.pop (.ru G ?_))
     exact loopF_back (wrapF .i64 (k_81 + 1)) hr ((Wk.gc [0, 1, 5] [(0, false)] rfl (pKo api_Rat.c api_Rat.pure s trivial)).to)
   ·refine .leave rfl ?_
    obtain rfl := oi hr
    exact ⟨rfl, ((Wk.gc [0] [(0, false)] rfl (pKo api_Rat.c api_Rat.pure s trivial)).to)⟩
  ·rcases o155 with ⟨⟩ | r0
   ·rintro x st' hq157
    clear hL156
    obtain ⟨rfl, hq157⟩ := hq157
    refine CQ_exit _ rfl (.wk hq157 (.seq (.r3 G 66 [(4, .hs 0 0 s.length 4)] (.ret ?_))))
    obtain rfl := oi hr
    exact FinMW.ret [.hs 0 0 s.length 4] ((Wk.gc [0] [(0, false)] rfl (pKo api_Rat.c api_Rat.pure s trivial)).to)
   ·rintro x st' hq157
    clear hL156
    obtain ⟨rfl, hq157⟩ := hq157
    obtain rfl := oi hr
    exact CQ_ret _ hq157

theorem fiduciallaw55_candidates_ok (n : Nat) (n' : Int) (at' : List Int) (length : api_Rat) (r : List api_Rat) (hr : fiduciallaw55_candidates n n' at' length = some r) : FnOk Tryz.prog 56 [aI64 n', sI64 at', .agg (api_Rat.c length)] (slT api_Rat.c r) := by
 unfold fiduciallaw55_candidates at hr
 refine FnOk.bd G Tryz.func56 [.tmp 6] ?_
 unfold Tryz.f56
 simp only [Option.getD_some]
 refine .seq (.r5 G [0, 1] [(5, .hp 0 0)] [.own (api_Rat.c length)] (.seq ?_))
 obtain ⟨v1, hc2, hr⟩ := bd hr
 refine .g1 G (ok0 (fiducialref02_Of_ok n 1 2 v1 hc2)) (.ca cf0 (.mu 6 (.done (.nh [0, 1, 5, 7] [.own (api_Rat.c length), .own (api_Rat.c v1.1)] (.seq ?_)))))
 obtain ⟨v3, hc4, v5, hc6, hr⟩ := bd2 hr
 refine .gn G (ca1 (ok0 (fiducialref02_Whole_ok n 0 v3 hc4)) (ca3 (ok0 (fiducialref02_Whole_ok n n' v5 hc6)))) (.ca cf0 (.mu 1 (.ca (cfA (fun h => by rw [sv hc6 hc4 (fiducialref02_Whole_cg n h)]) cf0) (.mu 2 (.done (.nh [0, 1, 5, 7, 9] [.own (api_Rat.c length), .own (api_Rat.c v1.1), .own [aB v3.Num.Negative, sU32 v3.Num.Groups, aB v3.Den.Negative, sU32 v3.Den.Groups, aB v5.Num.Negative, sU32 v5.Num.Groups, aB v5.Den.Negative, sU32 v5.Den.Groups]] (.seq (.seq (.r4 G [0, 5, 7, 9] [(26, sI64 at'), (27, aI64 (at'.length : Int)), (28, aI64 0)] (.block ?_))))))))))
 replace hr := bd hr; obtain ⟨l_184, hL243, hr⟩ := hr
 refine .loopO (σ := fun z0 => match z0 with | (l_126, x_127) => ⟨mkS 95 0 [(0, aI64 n'), (5, .hp 0 0), (7, .hp 1 0), (9, .hs 2 0 l_126.length 4), (26, sI64 at'), (27, aI64 (at'.length : Int)), (28, aI64 x_127)], [.own (api_Rat.c length), .own (api_Rat.c v1.1), .own (l_126.flatMap api_Rat.c)]⟩) (Q := fun x st' => x = .exit 0 ∧ Wk 0 st' ⟨mkS 95 0 [(7, .hp 0 0), (9, .hs 1 0 l_184.length 4)], [.own (api_Rat.c v1.1), .own (l_184.flatMap api_Rat.c)]⟩) hL243 ((Wk.gc [0, 5, 7, 9, 26, 27, 28] [(0, true), (1, true), (2, false)] rfl (pKt (pKt (pKc trivial)))).to) ?_ ?_
 ·clear hr
  rintro m ⟨l_126, x_127⟩ hr
  show CQ _ _ _ _ _ ⟨_, _⟩
  refine .seq (.r4 G [0, 5, 7, 9, 26, 27, 28] [(29, aB (decide (x_127 < (at'.length : Int))))] (.seq ?_))
  refine .cd hr (fun hb187 hr => ?_) (fun hb187 hr => ?_)
  ·refine .skip (.seq (.block (.seq ?_)))
   obtain ⟨hg188, hr⟩ := gd hr
   refine .r0 G (.p0 (v := .pp (at'.flatMap (iC .i64)) (x_127.toNat * 1)) (tr (ofP_guard hg188)) (.p0 (v := aI64 (gt at' x_127)) (tr (ofP_some (flat_get (iC_len .i64) (inR_lt hg188) (by decide : 0 < 1) (by omega : x_127.toNat * 1 = x_127.toNat * 1 + 0) (by kernel_rfl)))) (.mu 1 (.done (.nh [0, 5, 7, 9, 11, 26, 27, 28] [.own (api_Rat.c length), .own (api_Rat.c v1.1), .own (l_126.flatMap api_Rat.c)] (.seq (.r5 G [0, 5, 7, 9, 11, 26, 27, 28] [(32, .hs 3 0 2 1), (33, aI64 2), (34, aI64 0)] [.own (api_Rat.c length), .own (api_Rat.c v1.1), .own (l_126.flatMap api_Rat.c), .own [aI64 (-1), aI64 1]] (.block ?_))))))))
   replace hr := bd hr; obtain ⟨l_214, hL240, hr⟩ := hr
   refine .loopO (σ := fun z0 => match z0 with | (l_189, x_190) => ⟨mkS 95 0 [(0, aI64 n'), (5, .hp 0 0), (7, .hp 1 0), (9, .hs 2 0 l_189.length 4), (11, aI64 (gt at' x_127)), (26, sI64 at'), (27, aI64 (at'.length : Int)), (28, aI64 x_127), (32, .hs 3 0 ([((-1) : Int), (1 : Int)].length) 1), (33, aI64 2), (34, aI64 x_190)], [.own (api_Rat.c length), .own (api_Rat.c v1.1), .own (l_189.flatMap api_Rat.c), .own ([((-1) : Int), (1 : Int)].flatMap (iC .i64))]⟩) (Q := fun x st' => x = .exit 2 ∧ Wk 0 st' ⟨mkS 95 0 [(0, aI64 n'), (5, .hp 0 0), (7, .hp 1 0), (9, .hs 2 0 l_214.length 4), (26, sI64 at'), (27, aI64 (at'.length : Int)), (28, aI64 x_127)], [.own (api_Rat.c length), .own (api_Rat.c v1.1), .own (l_214.flatMap api_Rat.c)]⟩) hL240 ((Wk.gc [0, 5, 7, 9, 11, 26, 27, 28, 32, 33, 34] [(0, true), (1, true), (2, false), (3, false)] rfl (pKt (pKt (pKo api_Rat.c api_Rat.pure l_126 (pKc trivial))))).to) ?_ ?_
   ·clear hr
    rintro m ⟨l_189, x_190⟩ hr
    show CQ _ _ _ _ _ ⟨_, _⟩
    refine .seq (.r4 G [0, 5, 7, 9, 11, 26, 27, 28, 32, 33, 34] [(35, aB (decide (x_190 < 2)))] (.seq ?_))
    refine .cd hr (fun hb217 hr => ?_) (fun hb217 hr => ?_)
    ·refine .skip (.seq (.block (.seq ?_)))
     obtain ⟨hg218, hr⟩ := gd hr
     refine .r0 G (.p0 (v := .hp 3 (0 + x_190.toNat * 1)) (tr (ofP_guard hg218)) (.p0 (v := aI64 (gt [((-1) : Int), (1 : Int)] x_190)) (tr (ofP_some (flat_get (iC_len .i64) (inR_lt hg218) (by decide : 0 < 1) (by omega : 0 + x_190.toNat * 1 = x_190.toNat * 1 + 0) (by kernel_rfl)))) (.mu 1 (.done (.nh [0, 5, 7, 9, 11, 13, 26, 27, 28, 32, 33, 34] [.own (api_Rat.c length), .own (api_Rat.c v1.1), .own (l_189.flatMap api_Rat.c), .own ([((-1) : Int), (1 : Int)].flatMap (iC .i64))] (.seq ?_))))))
     obtain ⟨v219, hc220, v221, hc222, v223, hc224, hr⟩ := bd3 hr
     obtain ⟨v225, hc226, v227, hc228, hr⟩ := bd2 hr
     refine .tn G (ca1 (ok0 (fiducialref02_Whole_ok n (gt at' x_127) v219 hc220)) (ca1 (ok0 (fiducialref02_Whole_ok n (gt [((-1) : Int), (1 : Int)] x_190) v221 hc222)) (ca1 (ok0 (fiducialref02_Mul_ok n v1.1 v221 v223 hc224)) (ca1 (ok0 (fiducialref02_Mul_ok n v223 length v225 hc226)) (ca3 (ok0 (fiducialref02_Add_ok n v219 v225 v227 hc228))))))) (.mu 1 (.ca cf0 (.mu 2 (.ca (cfA (fun h => by rw [sv hc222 hc220 (fiducialref02_Whole_cg n h)]) cf0) (.ca (cfF (cfF cf0)) (.mu 1 (.ca (cfF (cfF (cfA (fun h => by rw [sv hc226 hc224 (fiducialref02_Mul_cg n h)]) cf0))) (.ca (cfF (cfF (cfF (cfF cf0)))) (.mu 2 ?_)))))))))
     refine .done ⟨by kernel_rfl, ?_⟩
     refine .nh [0, 5, 7, 9, 11, 14, 26, 27, 28, 32, 33, 34] [.own (api_Rat.c length), .own (api_Rat.c v1.1), .own (l_189.flatMap api_Rat.c), .own ([((-1) : Int), (1 : Int)].flatMap (iC .i64)), .own (api_Rat.c v227)] (.seq ?_)
     obtain ⟨v229, hc230, hr⟩ := bd hr
     rcases Bool.eq_false_or_eq_true (decide (v229 > 0)) with hb231 | hb231
     ·replace hr := cd_t hb231 hr
      obtain ⟨v232, hc233, v234, hc235, hr⟩ := bd2 hr
      refine .tn G (ca1 (ok0 (fiducialref02_Sign_ok n v227 v229 hc230)) (ca1 (ok0 (fiducialref02_Whole_ok n n' v232 hc233)) (ca3 (ok0 (fiducialref02_Compare_ok n v227 v232 v234 hc235))))) (.mu 1 (.ca cf0 (.pure (v := aB true) (by kernel_rfl) (eB hb231) (by kernel_rfl) (.mu 3 (.ca (cfF cf0) (.ca (cfF (cfF cf0)) (.mu 2 ?_)))))))
      refine .done ⟨by kernel_rfl, ?_⟩
      refine .nh [0, 5, 7, 9, 11, 14, 26, 27, 28, 32, 33, 34, 56] [.own (api_Rat.c length), .own (api_Rat.c v1.1), .own (l_189.flatMap api_Rat.c), .own ([((-1) : Int), (1 : Int)].flatMap (iC .i64)), .own (api_Rat.c v227)] ?_
      refine .cd hr (fun hb236 hr => ?_) (fun hb236 hr => ?_)
      ·obtain ⟨hg237, hg238, hr⟩ := gd2 hr
       refine .r0 G (.mu 3 (.e0 (v := .hs 6 0 (l_189 ++ [v227]).length 4) (ws := [(2, .dead), (6, .own ((l_189 ++ [v227]).flatMap api_Rat.c))]) (tr (app_own (new := (api_Rat.c v227)) (l := l_189) (xs := [v227]) api_Rat.len rfl rfl (by kernel_rfl) hg237 hg238)) (.mu 1 (.done (.pop (.ru G ?_))))))
       exact loopF_back (l_189 ++ [v227], wrapF .i64 (x_190 + 1)) hr ((Wk.gc [0, 5, 7, 9, 11, 26, 27, 28, 32, 33, 34] [(0, true), (1, true), (6, false), (3, false)] rfl (pKt (pKt (pKo api_Rat.c api_Rat.pure (l_189 ++ [v227]) (pKo (iC .i64) (iC_pure _) [((-1) : Int), (1 : Int)] trivial))))).to)
      ·refine .skip (.pop (.ru G ?_))
       exact loopF_back (l_189, wrapF .i64 (x_190 + 1)) hr ((Wk.gc [0, 5, 7, 9, 11, 26, 27, 28, 32, 33, 34] [(0, true), (1, true), (2, false), (3, false)] rfl (pKt (pKt (pKo api_Rat.c api_Rat.pure l_189 (pKo (iC .i64) (iC_pure _) [((-1) : Int), (1 : Int)] trivial))))).to)
     ·replace hr := cd_f hb231 hr
      refine .t1 G (ok0 (fiducialref02_Sign_ok n v227 v229 hc230)) (.mu 1 (.ca cf0 (.pure (v := aB false) (by kernel_rfl) (eB hb231) (by kernel_rfl) (.mu 7 ?_))))
      refine .done ⟨by kernel_rfl, ?_⟩
      refine .nh [0, 5, 7, 9, 11, 14, 26, 27, 28, 32, 33, 34, 56] [.own (api_Rat.c length), .own (api_Rat.c v1.1), .own (l_189.flatMap api_Rat.c), .own ([((-1) : Int), (1 : Int)].flatMap (iC .i64)), .own (api_Rat.c v227)] (.cF (by kernel_rfl) (.skip (.pop (.ru G ?_))))
      exact loopF_back (l_189, wrapF .i64 (x_190 + 1)) hr ((Wk.gc [0, 5, 7, 9, 11, 26, 27, 28, 32, 33, 34] [(0, true), (1, true), (2, false), (3, false)] rfl (pKt (pKt (pKo api_Rat.c api_Rat.pure l_189 (pKo (iC .i64) (iC_pure _) [((-1) : Int), (1 : Int)] trivial))))).to)
    ·refine .leave rfl ?_
     obtain rfl := oi hr
     exact ⟨rfl, ((Wk.gc [0, 5, 7, 9, 26, 27, 28] [(0, true), (1, true), (2, false)] rfl (pKt (pKt (pKo api_Rat.c api_Rat.pure l_189 trivial)))).to)⟩
   ·rintro x st' hq241
    clear hL240
    obtain ⟨rfl, hq241⟩ := hq241
    refine CQ_exit _ rfl (.pop (.wk hq241 (.ru G ?_)))
    exact loopF_back (l_214, wrapF .i64 (x_127 + 1)) hr ((Wk.gc [0, 5, 7, 9, 26, 27, 28] [(0, true), (1, true), (2, false)] rfl (pKt (pKt (pKo api_Rat.c api_Rat.pure l_214 trivial)))).to)
  ·refine .leave rfl ?_
   obtain rfl := oi hr
   exact ⟨rfl, ((Wk.gc [7, 9] [(1, true), (2, false)] rfl (pKt (pKo api_Rat.c api_Rat.pure l_126 trivial))).to)⟩
 ·rintro x st' hq244
  clear hL243
  obtain ⟨rfl, hq244⟩ := hq244
  refine CQ_exit _ rfl (.wk hq244 (.seq ?_))
  obtain ⟨v245, hc246, hr⟩ := bd hr
  obtain ⟨hg247, hr⟩ := gd hr
  refine .g1 G (callOk_mutU (args := [.hs 1 0 l_184.length 4, .fn 20 [] []]) 1 0 [(1, false)] [false] (slices_SortFunc_fiducial_api_Rat_fiducial_api_Rat_w_of_fiducialref02_Compare_ok n l_184 v245 hc246) (by exact ⟨ids_flat api_Rat.pure _, trivial⟩) (by exact ⟨ids_flat api_Rat.pure _, trivial⟩) rfl rfl (by kernel_rfl) (by kernel_rfl)) (.mu 1 (.ca cf0 (.done (.nh [7, 9] [.own (api_Rat.c v1.1), .own (v245.flatMap api_Rat.c)] (.seq ?_)))))
  obtain ⟨v248, hc249, hr⟩ := bd hr
  refine .g1 G (callOk_mutU (args := [.hs 1 0 l_184.length 4, .fn 24 [] []]) 1 0 [(1, false)] [false] (slices_CompactFunc_fiducial_api_Rat_fiducial_api_Rat_w_of_fiducialref02_Same_ok n v245 v248 hc249) (by exact ⟨ids_flat api_Rat.pure _, trivial⟩) (by exact ⟨ids_flat api_Rat.pure _, trivial⟩) rfl rfl (by rw [(of_decide_eq_true hg247)]; kernel_rfl) (by kernel_rfl)) <| .mu 1 <| .ca cf0 <| .mu 1 <| .done <| .nh [7, 9] [.own (api_Rat.c v1.1), .own (v248.flatMap api_Rat.c)] <| .seq <| .r5 G [7, 9] [(15, .hs 2 0 0 4)] [.own (api_Rat.c v1.1), .own (v248.flatMap api_Rat.c), .own []] <| .seq <| .seq <| .r4 G [7, 9, 15] [(68, .hs 1 0 v248.length 4), (69, aI64 (v248.length : Int)), (70, aI64 0)] <| .block ?_
  replace hr := bd hr; obtain ⟨all_267, hL285, hr⟩ := hr
  refine .loopO (σ := fun z0 => match z0 with | (all_250, x_251) => ⟨mkS 95 0 [(7, .hp 0 0), (9, .hs 1 0 v248.length 4), (15, .hs 2 0 all_250.length 4), (68, .hs 1 0 v248.length 4), (69, aI64 (v248.length : Int)), (70, aI64 x_251)], [.own (api_Rat.c v1.1), .own (v248.flatMap api_Rat.c), .own (all_250.flatMap api_Rat.c)]⟩) (Q := fun x st' => x = .exit 4 ∧ Wk 0 st' ⟨mkS 95 0 [(15, .hs 0 0 all_267.length 4)], [.own (all_267.flatMap api_Rat.c)]⟩) hL285 ((Wk.gc [7, 9, 15, 68, 69, 70] [(0, true), (1, false), (2, false)] rfl (pKt (pKo api_Rat.c api_Rat.pure v248 (pKc trivial)))).to) ?_ ?_
  ·clear hr
   rintro m ⟨all_250, x_251⟩ hr
   show CQ _ _ _ _ _ ⟨_, _⟩
   refine .seq (.r4 G [7, 9, 15, 68, 69, 70] [(71, aB (decide (x_251 < (v248.length : Int))))] (.seq ?_))
   refine .cd hr (fun hb270 hr => ?_) (fun hb270 hr => ?_)
   ·refine .skip (.seq (.block (.seq ?_)))
    obtain ⟨hg271, hr⟩ := gd hr
    refine .r0 G (.mu 1 (.p0 (v := .hp 1 (0 + x_251.toNat * 4)) (tr (ofP_guard hg271)) (.p0 (v := .agg (api_Rat.c (gt v248 x_251))) (Eq.trans (b := ORes.ofP (guardV (decide (4 ≤ ((v248.flatMap api_Rat.c).drop (0 + x_251.toNat * 4)).length)) (.agg (((v248.flatMap api_Rat.c).drop (0 + x_251.toNat * 4)).take 4)))) (by kernel_rfl) (flat_load api_Rat.len (inR_lt hg271) (by decide) (by omega : 0 + x_251.toNat * 4 = x_251.toNat * 4 + 0) (by kernel_rfl))) (.mu 3 (.done (.nh [7, 9, 15, 16, 17, 68, 69, 70] [.own (api_Rat.c v1.1), .own (v248.flatMap api_Rat.c), .own (all_250.flatMap api_Rat.c), .own (api_Rat.c (gt v248 x_251))] (.seq (.seq (.r4 G [7, 9, 15, 16, 17, 68, 69, 70] [(76, aB (decide (x_251 > 0)))] ?_)))))))))
    refine .cd hr (fun hb272 hr => ?_) (fun hb272 hr => ?_)
    ·obtain ⟨hg273, hr⟩ := gd hr
     obtain ⟨v274, hc275, v276, hc277, hr⟩ := bd2 hr
     obtain ⟨hg278, hg279, hr⟩ := gd2 hr
     refine .tn G (ca1 (ok0 (fiducialref02_Add_ok n (gt v248 (wrapF .i64 (x_251 - 1))) (gt v248 x_251) v274 hc275)) (ca3 (ok0 (fiducialref02_Mul_ok n v1.1 v274 v276 hc277)))) (.mu 5 (.pure (v := .hp 1 (0 + (wrapF .i64 (x_251 - 1)).toNat * 4)) (by kernel_rfl) (tr (ofP_guard hg273)) (by kernel_rfl) (.pure (v := .agg (api_Rat.c (gt v248 (wrapF .i64 (x_251 - 1))))) (by kernel_rfl) (Eq.trans (b := ORes.ofP (guardV (decide (4 ≤ ((v248.flatMap api_Rat.c).drop (0 + (wrapF .i64 (x_251 - 1)).toNat * 4)).length)) (.agg (((v248.flatMap api_Rat.c).drop (0 + (wrapF .i64 (x_251 - 1)).toNat * 4)).take 4)))) (by kernel_rfl) (flat_load api_Rat.len (inR_lt hg273) (by decide) (by omega : 0 + (wrapF .i64 (x_251 - 1)).toNat * 4 = (wrapF .i64 (x_251 - 1)).toNat * 4 + 0) (by kernel_rfl))) (by kernel_rfl) (.mu 1 (.ca cf0 (.ca (cfF cf0) (.mu 1 (.eff (v := .hs 5 0 (all_250 ++ [v276]).length 4) (ws := [(2, .dead), (5, .own ((all_250 ++ [v276]).flatMap api_Rat.c))]) (by kernel_rfl) (tr (app_own (new := (api_Rat.c v276)) (l := all_250) (xs := [v276]) api_Rat.len rfl rfl (by kernel_rfl) hg278 hg279)) (by kernel_rfl) (.mu 1 ?_)))))))))
     refine .done ⟨by kernel_rfl, ?_⟩
     refine .nh [7, 9, 15, 17, 68, 69, 70] [.own (api_Rat.c v1.1), .own (v248.flatMap api_Rat.c), .dead, .own (api_Rat.c (gt v248 x_251)), .own (api_Rat.c v276), .own ((all_250 ++ [v276]).flatMap api_Rat.c)] ?_
     obtain ⟨hg280, hg281, hr⟩ := gd2 hr
     refine .r0 G (.mu 3 (.e0 (v := .hs 7 0 ((all_250 ++ [v276]) ++ [(gt v248 x_251)]).length 4) (ws := [(5, .dead), (7, .own (((all_250 ++ [v276]) ++ [(gt v248 x_251)]).flatMap api_Rat.c))]) (tr (app_own (new := (api_Rat.c (gt v248 x_251))) (l := all_250 ++ [v276]) (xs := [(gt v248 x_251)]) api_Rat.len rfl rfl (by kernel_rfl) hg280 hg281)) (.mu 1 (.done (.pop (.ru G ?_))))))
     exact loopF_back ((all_250 ++ [v276]) ++ [(gt v248 x_251)], wrapF .i64 (x_251 + 1)) hr ((Wk.gc [7, 9, 15, 68, 69, 70] [(0, true), (1, false), (7, false)] rfl (pKt (pKo api_Rat.c api_Rat.pure v248 (pKo api_Rat.c api_Rat.pure ((all_250 ++ [v276]) ++ [(gt v248 x_251)]) trivial)))).to)
    ·refine .skip ?_
     obtain ⟨hg282, hg283, hr⟩ := gd2 hr
     refine .r0 G (.mu 3 (.e0 (v := .hs 5 0 (all_250 ++ [(gt v248 x_251)]).length 4) (ws := [(2, .dead), (5, .own ((all_250 ++ [(gt v248 x_251)]).flatMap api_Rat.c))]) (tr (app_own (new := (api_Rat.c (gt v248 x_251))) (l := all_250) (xs := [(gt v248 x_251)]) api_Rat.len rfl rfl (by kernel_rfl) hg282 hg283)) (.mu 1 (.done (.pop (.ru G ?_))))))
     exact loopF_back (all_250 ++ [(gt v248 x_251)], wrapF .i64 (x_251 + 1)) hr ((Wk.gc [7, 9, 15, 68, 69, 70] [(0, true), (1, false), (5, false)] rfl (pKt (pKo api_Rat.c api_Rat.pure v248 (pKo api_Rat.c api_Rat.pure (all_250 ++ [(gt v248 x_251)]) trivial)))).to)
   ·refine .leave rfl ?_
    obtain rfl := oi hr
    exact ⟨rfl, ((Wk.gc [15] [(2, false)] rfl (pKo api_Rat.c api_Rat.pure all_250 trivial)).to)⟩
  ·rintro x st' hq286
   clear hL285
   obtain ⟨rfl, hq286⟩ := hq286
   refine CQ_exit _ rfl (.wk hq286 (.seq (.r3 G 95 [(6, .hs 0 0 all_267.length 4)] (.ret ?_))))
   obtain rfl := oi hr
   exact FinQ.ret (vs := [.hs 0 0 all_267.length 4]) (by kernel_rfl) (Sn.hs rfl (.inl rfl) (SnC.pure (ids_flat api_Rat.pure _)) (fun h => flat_nil0 h))

theorem fiducialref02_Abs_ok (n : Nat) (x' : api_Rat) (r : api_Rat) (hr : fiducialref02_Abs n x' = some r) : FnOk Tryz.prog 85 [.agg (api_Rat.c x')] (.agg (api_Rat.c r)) := by
 unfold fiducialref02_Abs at hr
 refine FnOk.bd G Tryz.func85 [.cell 2 51] ?_
 unfold Tryz.f85
 simp only [Option.getD_some]
 refine .seq (.r2 G 10 [(1, .hp 0 0), (2, .hp 1 0)] [.own (api_Rat.c x'), .own [aB false, nS, aB false, nS]] (.seq (.seq ?_)))
 obtain ⟨v1, hc2, hr⟩ := bd hr
 refine .g1 G (ok0 (fiducialref02_Sign_ok n x' v1 hc2)) (.mu 1 (.ca cf0 (.mu 1 (.done (.nh [1, 2, 5] [.own (api_Rat.c x'), .own [aB false, nS, aB false, nS]] ?_)))))
 refine .cd hr (fun hb3 hr => ?_) (fun hb3 hr => ?_)
 ·refine .seq ?_
  obtain ⟨v4, hc5, hr⟩ := bd hr
  refine .g1 G (ok0 (fiducialref02_Neg_ok n x' v4 hc5)) (.mu 1 (.ca cf0 (.mu 1 (.done (.nh [2] [.own (api_Rat.c x'), .own (api_Rat.c v4)] (.ret ?_))))))
  obtain rfl := oi hr
  exact FinQ.r1 [.agg (api_Rat.c v4)]
 ·refine .skip (.seq ?_)
  obtain ⟨v6, hc7, hr⟩ := bd hr
  refine .g1 G (ok0 (fiducialref02_Value_ok n x' v6 hc7)) (.mu 1 (.ca cf0 (.mu 1 (.done (.nh [2] [.own (api_Rat.c x'), .own (api_Rat.c v6)] (.ret ?_))))))
  obtain rfl := oi hr
  exact FinQ.r1 [.agg (api_Rat.c v6)]

theorem fiduciallaw55_near_inj {x' : api_Rat} {at' : Int} {length : api_Rat} {x'_ : api_Rat} {at'_ : Int} {length_ : api_Rat} (h : ([.agg [.at (.bool x'.Num.Negative), slT (iC .u32) x'.Num.Groups, .at (.bool x'.Den.Negative), slT (iC .u32) x'.Den.Groups], .at (.int .i64 at'), .agg [.at (.bool length.Num.Negative), slT (iC .u32) length.Num.Groups, .at (.bool length.Den.Negative), slT (iC .u32) length.Den.Groups]] : List AV) = [.agg [.at (.bool x'_.Num.Negative), slT (iC .u32) x'_.Num.Groups, .at (.bool x'_.Den.Negative), slT (iC .u32) x'_.Den.Groups], .at (.int .i64 at'_), .agg [.at (.bool length_.Num.Negative), slT (iC .u32) length_.Num.Groups, .at (.bool length_.Den.Negative), slT (iC .u32) length_.Den.Groups]]) : x' = x'_ ∧ at' = at'_ ∧ length = length_ := by
 obtain ⟨⟨_, _⟩, ⟨_, _⟩⟩ := x'
 obtain ⟨⟨_, _⟩, ⟨_, _⟩⟩ := x'_
 obtain ⟨⟨_, _⟩, ⟨_, _⟩⟩ := length
 obtain ⟨⟨_, _⟩, ⟨_, _⟩⟩ := length_
 simp only [List.cons.injEq, AV.agg.injEq, AV.at.injEq, Value.int.injEq, Value.bool.injEq, AV.fn.injEq, AV.pp.injEq, true_and, and_true, slT_inj_int] at h
 simp_all
theorem fiduciallaw55_near_cg (n : Nat) {x' : api_Rat} {at' : Int} {length : api_Rat} {x'_ : api_Rat} {at'_ : Int} {length_ : api_Rat} (h : ([.agg [.at (.bool x'.Num.Negative), slT (iC .u32) x'.Num.Groups, .at (.bool x'.Den.Negative), slT (iC .u32) x'.Den.Groups], .at (.int .i64 at'), .agg [.at (.bool length.Num.Negative), slT (iC .u32) length.Num.Groups, .at (.bool length.Den.Negative), slT (iC .u32) length.Den.Groups]] : List AV) = [.agg [.at (.bool x'_.Num.Negative), slT (iC .u32) x'_.Num.Groups, .at (.bool x'_.Den.Negative), slT (iC .u32) x'_.Den.Groups], .at (.int .i64 at'_), .agg [.at (.bool length_.Num.Negative), slT (iC .u32) length_.Num.Groups, .at (.bool length_.Den.Negative), slT (iC .u32) length_.Den.Groups]]) : fiduciallaw55_near n x' at' length = fiduciallaw55_near n x'_ at'_ length_ := by
 obtain ⟨rfl, rfl, rfl⟩ := fiduciallaw55_near_inj h
 rfl
theorem fiduciallaw55_near_ok (n : Nat) (x' : api_Rat) (at' : Int) (length : api_Rat) (r : Bool) (hr : fiduciallaw55_near n x' at' length = some r) : FnOk Tryz.prog 57 [.agg (api_Rat.c x'), aI64 at', .agg (api_Rat.c length)] (aB r) := by
 unfold fiduciallaw55_near at hr
 refine FnOk.bd G Tryz.func57 [.tmp 6] ?_
 unfold Tryz.f57
 simp only [Option.getD_some]
 refine .seq (.r5 G [1] [(3, .hp 0 0), (5, .hp 1 0)] [.own (api_Rat.c x'), .own (api_Rat.c length)] (.seq ?_))
 obtain ⟨v1, hc2, v3, hc4, v5, hc6, hr⟩ := bd3 hr
 refine .tn G (ca1 (ok0 (fiducialref02_Whole_ok n at' v1 hc2)) (ca1 (ok0 (fiducialref02_Sub_ok n x' v1 v3 hc4)) (ca3 (ok0 (fiducialref02_Abs_ok n v3 v5 hc6))))) (.mu 2 (.ca cf0 (.ca (cfF cf0) (.ca (cfF (cfF cf0)) (.mu 2 ?_)))))
 refine .done ⟨by kernel_rfl, ?_⟩
 refine .nh [5, 7] [.own (api_Rat.c x'), .own (api_Rat.c length), .own (api_Rat.c v5)] (.seq ?_)
 obtain ⟨v7, hc8, v9, hc10, hr⟩ := bd2 hr
 refine .tn G (ca1 (ok0 (fiducialref02_Add_ok n v5 v5 v7 hc8)) (ca3 (ok0 (fiducialref02_Compare_ok n v7 length v9 hc10)))) (.mu 2 (.ca cf0 (.mu 1 (.ca (cfF cf0) (.mu 2 ?_)))))
 refine .done ⟨by kernel_rfl, ?_⟩
 refine .ret ?_
 obtain rfl := oi hr
 exact FinQ.r1 [aB (decide (v9 ≤ 0))]

theorem fiduciallaw55_seen_ok (n : Nat) (s : api_Survey) (f : api_Flight) (ground : Int) (p : api_Place) (r : Int) (hr : fiduciallaw55_seen n s f ground p = some r) : FnOk Tryz.prog 25 [.agg (api_Survey.c s), .agg (api_Flight.c f), aI64 ground, .agg (api_Place.c p)] (aI64 r) := by
 unfold fiduciallaw55_seen at hr
 refine FnOk.bd G Tryz.func25 [.tmp 8] ?_
 unfold Tryz.f25
 simp only [Option.getD_some]
 refine .seq (.r5 G [2] [(4, .hp 0 0), (5, .hp 1 0), (7, .hp 2 0)] [.own (api_Survey.c s), .own (api_Flight.c f), .own (api_Place.c p)] (.seq ?_))
 obtain ⟨v1, hc2, hr⟩ := bd hr
 refine .g1 G (ok0 (fiduciallaw55_size_ok n s f.Height ground v1 hc2)) (.mu 4 (.ca cf0 (.mu 7 (.done (.nh [5, 7, 9, 10] [.own (api_Survey.c s), .own (api_Flight.c f), .own (api_Place.c p), .own (api_Rat.c v1.1), .own (api_Rat.c v1.2)] (.seq (.r4 G [5, 7, 9, 10] [(11, aI64 0)] (.seq (.seq ?_)))))))))
 obtain ⟨v3, hc4, hr⟩ := bd hr
 refine .g1 G (ok0 (fiduciallaw55_positions_ok n f v3 hc4)) (.mu 1 (.ca cf0 (.mu 2 (.done (.nh [7, 9, 10, 11, 23, 24, 25] [.own (api_Survey.c s), .own (api_Flight.c f), .own (api_Place.c p), .own (api_Rat.c v1.1), .own (api_Rat.c v1.2)] (.block ?_))))))
 replace hr := bd hr; obtain ⟨n_16, hL28, hr⟩ := hr
 refine .loopO (σ := fun z0 => match z0 with | (n_5, x_6) => ⟨mkS 47 0 [(7, .hp 0 0), (9, .hp 1 0), (10, .hp 2 0), (11, aI64 n_5), (23, slT api_Pix.c v3), (24, aI64 (v3.length : Int)), (25, aI64 x_6)], [.own (api_Place.c p), .own (api_Rat.c v1.1), .own (api_Rat.c v1.2)]⟩) (Q := fun x st' => x = .exit 0 ∧ Wk 0 st' ⟨mkS 47 0 [(11, aI64 n_16)], []⟩) hL28 ((Wk.gc [7, 9, 10, 11, 23, 24, 25] [(2, true), (3, true), (4, true)] rfl trivial).to) ?_ ?_
 ·clear hr
  rintro m ⟨n_5, x_6⟩ hr
  show CQ _ _ _ _ _ ⟨_, _⟩
  refine .seq (.r4 G [7, 9, 10, 11, 23, 24, 25] [(26, aB (decide (x_6 < (v3.length : Int))))] (.seq ?_))
  refine .cd hr (fun hb19 hr => ?_) (fun hb19 hr => ?_)
  ·refine .skip (.seq (.block (.seq ?_)))
   obtain ⟨hg20, hr⟩ := gd hr
   refine .r0 G (.p0 (v := .pp (v3.flatMap api_Pix.c) (x_6.toNat * 2)) (tr (ofP_guard hg20)) (.p0 (v := .agg (api_Pix.c (gt v3 x_6))) (Eq.trans (b := ORes.ofP (guardV (decide (2 ≤ ((v3.flatMap api_Pix.c).drop (x_6.toNat * 2)).length)) (.agg (((v3.flatMap api_Pix.c).drop (x_6.toNat * 2)).take 2)))) (by kernel_rfl) (flat_load api_Pix.len (inR_lt hg20) (by decide) (by omega : x_6.toNat * 2 = x_6.toNat * 2 + 0) (by kernel_rfl))) (.mu 2 (.done (.nh [7, 9, 10, 11, 13, 23, 24, 25] [.own (api_Place.c p), .own (api_Rat.c v1.1), .own (api_Rat.c v1.2), .own (api_Pix.c (gt v3 x_6))] (.seq ?_))))))
   obtain ⟨v21, hc22, hr⟩ := bd hr
   rcases Bool.eq_false_or_eq_true v21 with hb23 | hb23
   ·subst hb23
    replace hr := cd_t rfl hr
    obtain ⟨v24, hc25, hr⟩ := bd hr
    refine .gn G (ca1 (ok0 (fiduciallaw55_near_ok n p.X (gt v3 x_6).X v1.1 true hc22)) (ca3 (ok0 (fiduciallaw55_near_ok n p.Y (gt v3 x_6).Y v1.2 v24 hc25)))) (.mu 5 (.ca cf0 (.mu 6 (.ca (cfA (fun h => by rw [sv hc25 hc22 (fiduciallaw55_near_cg n h)]) cf0) (.mu 1 (.done (.nh [7, 9, 10, 11, 23, 24, 25, 42] [.own (api_Place.c p), .own (api_Rat.c v1.1), .own (api_Rat.c v1.2), .own (api_Pix.c (gt v3 x_6))] ?_)))))))
    refine .cd hr (fun hb26 hr => ?_) (fun hb26 hr => ?_)
    ·refine .ru G (.pop (.ru G ?_))
     exact loopF_back (wrapF .i64 (n_5 + 1), wrapF .i64 (x_6 + 1)) hr ((Wk.gc [7, 9, 10, 11, 23, 24, 25] [(0, true), (1, true), (2, true)] rfl trivial).to)
    ·refine .skip (.pop (.ru G ?_))
     exact loopF_back (n_5, wrapF .i64 (x_6 + 1)) hr ((Wk.gc [7, 9, 10, 11, 23, 24, 25] [(0, true), (1, true), (2, true)] rfl trivial).to)
   ·subst hb23
    replace hr := cd_f rfl hr
    refine .g1 G (ok0 (fiduciallaw55_near_ok n p.X (gt v3 x_6).X v1.1 false hc22)) (.mu 5 (.ca cf0 (.mu 8 (.done (.nh [7, 9, 10, 11, 23, 24, 25, 42] [.own (api_Place.c p), .own (api_Rat.c v1.1), .own (api_Rat.c v1.2), .own (api_Pix.c (gt v3 x_6))] (.cF (by kernel_rfl) (.skip (.pop (.ru G ?_)))))))))
    exact loopF_back (n_5, wrapF .i64 (x_6 + 1)) hr ((Wk.gc [7, 9, 10, 11, 23, 24, 25] [(0, true), (1, true), (2, true)] rfl trivial).to)
  ·refine .leave rfl ?_
   obtain rfl := oi hr
   exact ⟨rfl, ((Wk.gc [11] [] rfl pK0).to)⟩
 ·rintro x st' hq29
  clear hL28
  obtain ⟨rfl, hq29⟩ := hq29
  refine CQ_exit _ rfl (.wk hq29 (.seq (.ru G (.ret ?_))))
  obtain rfl := oi hr
  exact FinQ.r1 [aI64 n_16]

theorem fiduciallaw55_cover_ok (n : Nat) (s : api_Survey) (f : api_Flight) (ground : Int) (r : Int × api_Place) (hr : fiduciallaw55_cover n s f ground = some r) : FnOk Tryz.prog 23 [.agg (api_Survey.c s), .agg (api_Flight.c f), aI64 ground] (.tup [aI64 r.1, .agg (api_Place.c r.2)]) := by
 unfold fiduciallaw55_cover at hr
 refine FnOk.bd G Tryz.func23 [.tmp 6, .cell 7 59] ?_
 unfold Tryz.f23
 simp only [Option.getD_some]
 refine .seq (.r5 G [2] [(3, .hp 0 0), (4, .hp 1 0), (7, .hp 2 0)] [.own (api_Survey.c s), .own (api_Flight.c f), .own [aB false, nS, aB false, nS, aB false, nS, aB false, nS]] (.seq ?_))
 obtain ⟨v1, hc2, hr⟩ := bd hr
 refine .g1 G (ok0 (fiduciallaw55_size_ok n s f.Height ground v1 hc2)) (.mu 4 (.ca cf0 (.mu 7 (.done (.nh [2, 3, 4, 7, 8, 9] [.own (api_Survey.c s), .own (api_Flight.c f), .own [aB false, nS, aB false, nS, aB false, nS, aB false, nS], .own (api_Rat.c v1.1), .own (api_Rat.c v1.2)] (.seq (.r5 G [2, 3, 4, 7, 8, 9] [(10, .hs 5 0 0 1), (11, .hs 6 0 0 1)] [.own (api_Survey.c s), .own (api_Flight.c f), .own [aB false, nS, aB false, nS, aB false, nS, aB false, nS], .own (api_Rat.c v1.1), .own (api_Rat.c v1.2), .own [], .own []] (.seq (.seq ?_)))))))))
 obtain ⟨v3, hc4, hr⟩ := bd hr
 refine .g1 G (ok0 (fiduciallaw55_positions_ok n f v3 hc4)) (.mu 1 (.ca cf0 (.mu 2 (.done (.nh [2, 3, 4, 7, 8, 9, 10, 11, 33, 34, 35] [.own (api_Survey.c s), .own (api_Flight.c f), .own [aB false, nS, aB false, nS, aB false, nS, aB false, nS], .own (api_Rat.c v1.1), .own (api_Rat.c v1.2), .own [], .own []] (.block ?_))))))
 replace hr := bd hr; obtain ⟨o48, hL49, hr⟩ := hr
 refine .loopO (σ := fun z0 => match z0 with | (xs_28, ys_29, x_30) => ⟨mkS 92 0 [(2, aI64 ground), (3, .hp 0 0), (4, .hp 1 0), (7, .hp 2 0), (8, .hp 3 0), (9, .hp 4 0), (10, .hs 5 0 xs_28.length 1), (11, .hs 6 0 ys_29.length 1), (33, slT api_Pix.c v3), (34, aI64 (v3.length : Int)), (35, aI64 x_30)], [.own (api_Survey.c s), .own (api_Flight.c f), .own [aB false, nS, aB false, nS, aB false, nS, aB false, nS], .own (api_Rat.c v1.1), .own (api_Rat.c v1.2), .own (xs_28.flatMap (iC .i64)), .own (ys_29.flatMap (iC .i64))]⟩) (Q := fun x st' => match (generalizing := false) o48 with | (xs_38, ys_39) => x = .exit 0 ∧ Wk 0 st' ⟨mkS 92 0 [(2, aI64 ground), (3, .hp 0 0), (4, .hp 1 0), (7, .hp 2 0), (8, .hp 3 0), (9, .hp 4 0), (10, .hs 5 0 xs_38.length 1), (11, .hs 6 0 ys_39.length 1)], [.own (api_Survey.c s), .own (api_Flight.c f), .own [aB false, nS, aB false, nS, aB false, nS, aB false, nS], .own (api_Rat.c v1.1), .own (api_Rat.c v1.2), .own (xs_38.flatMap (iC .i64)), .own (ys_39.flatMap (iC .i64))]⟩) hL49 ((Wk.gc [2, 3, 4, 7, 8, 9, 10, 11, 33, 34, 35] [(0, true), (1, true), (2, true), (3, true), (4, true), (5, false), (6, false)] rfl (pKt (pKt (pKt (pKt (pKt (pKc (pKc trivial)))))))).to) ?_ ?_
 ·clear hr
  rintro m ⟨xs_28, ys_29, x_30⟩ hr
  show CQ _ _ _ _ _ ⟨_, _⟩
  refine .seq (.r4 G [2, 3, 4, 7, 8, 9, 10, 11, 33, 34, 35] [(36, aB (decide (x_30 < (v3.length : Int))))] (.seq ?_))
  refine .cd hr (fun hb42 hr => ?_) (fun hb42 hr => ?_)
  ·refine .skip (.seq (.block (.seq ?_)))
   obtain ⟨hg43, hr⟩ := gd hr
   refine .r0 G (.p0 (v := .pp (v3.flatMap api_Pix.c) (x_30.toNat * 2)) (tr (ofP_guard hg43)) (.p0 (v := .agg (api_Pix.c (gt v3 x_30))) (Eq.trans (b := ORes.ofP (guardV (decide (2 ≤ ((v3.flatMap api_Pix.c).drop (x_30.toNat * 2)).length)) (.agg (((v3.flatMap api_Pix.c).drop (x_30.toNat * 2)).take 2)))) (by kernel_rfl) (flat_load api_Pix.len (inR_lt hg43) (by decide) (by omega : x_30.toNat * 2 = x_30.toNat * 2 + 0) (by kernel_rfl))) (.mu 2 (.done (.nh [2, 3, 4, 7, 8, 9, 10, 11, 13, 33, 34, 35] [.own (api_Survey.c s), .own (api_Flight.c f), .own [aB false, nS, aB false, nS, aB false, nS, aB false, nS], .own (api_Rat.c v1.1), .own (api_Rat.c v1.2), .own (xs_28.flatMap (iC .i64)), .own (ys_29.flatMap (iC .i64)), .own (api_Pix.c (gt v3 x_30))] ?_)))))
   obtain ⟨hg44, hg45, hg46, hr⟩ := gd3 hr
   obtain ⟨hg47, hr⟩ := gd hr
   refine .regionT G callOf_nil (.mu 4 (.eff (v := .hs 9 0 (xs_28 ++ [(gt v3 x_30).X]).length 1) (ws := [(5, .dead), (9, .own ((xs_28 ++ [(gt v3 x_30).X]).flatMap (iC .i64)))]) (by kernel_rfl) (tr (app_own (new := [aI64 (gt v3 x_30).X]) (l := xs_28) (xs := [(gt v3 x_30).X]) (iC_len .i64) rfl rfl (by kernel_rfl) hg44 hg45)) (by kernel_rfl) (.mu 4 (.eff (v := .hs 11 0 (ys_29 ++ [(gt v3 x_30).Y]).length 1) (ws := [(6, .dead), (11, .own ((ys_29 ++ [(gt v3 x_30).Y]).flatMap (iC .i64)))]) (by kernel_rfl) (tr (app_own (new := [aI64 (gt v3 x_30).Y]) (l := ys_29) (xs := [(gt v3 x_30).Y]) (iC_len .i64) rfl rfl (by kernel_rfl) hg46 hg47)) (by kernel_rfl) (.mu 2 ?_)))))
   refine .done ⟨by kernel_rfl, ?_⟩
   refine .pop (.ru G ?_)
   exact loopF_back (xs_28 ++ [(gt v3 x_30).X], ys_29 ++ [(gt v3 x_30).Y], wrapF .i64 (x_30 + 1)) hr ((Wk.gc [2, 3, 4, 7, 8, 9, 10, 11, 33, 34, 35] [(0, true), (1, true), (2, true), (3, true), (4, true), (9, false), (11, false)] rfl (pKt (pKt (pKt (pKt (pKt (pKo (iC .i64) (iC_pure _) (xs_28 ++ [(gt v3 x_30).X]) (pKo (iC .i64) (iC_pure _) (ys_29 ++ [(gt v3 x_30).Y]) trivial)))))))).to)
  ·refine .leave rfl ?_
   obtain rfl := oi hr
   exact ⟨rfl, ((Wk.gc [2, 3, 4, 7, 8, 9, 10, 11] [(0, true), (1, true), (2, true), (3, true), (4, true), (5, false), (6, false)] rfl (pKt (pKt (pKt (pKt (pKt (pKo (iC .i64) (iC_pure _) xs_28 (pKo (iC .i64) (iC_pure _) ys_29 trivial)))))))).to)⟩
 ·rcases o48 with ⟨xs_38, ys_39⟩
  rintro x st' hq50
  clear hL49
  obtain ⟨rfl, hq50⟩ := hq50
  refine CQ_exit _ rfl (.wk hq50 (.seq (.r5 G [2, 3, 4, 7, 8, 9, 10, 11] [(14, aI64 (-1)), (15, .hp 7 0)] [.own (api_Survey.c s), .own (api_Flight.c f), .own [aB false, nS, aB false, nS, aB false, nS, aB false, nS], .own (api_Rat.c v1.1), .own (api_Rat.c v1.2), .own (xs_38.flatMap (iC .i64)), .own (ys_39.flatMap (iC .i64)), .own [aB false, nS, aB false, nS, aB false, nS, aB false, nS]] (.seq (.seq ?_)))))
  obtain ⟨v51, hc52, hr⟩ := bd hr
  refine .g1 G (callOk_ref (args := [aI64 s.Width, .hs 5 0 xs_38.length 1, .agg (api_Rat.c v1.1)]) (l := [5]) (SnL.cons (Sn.pure rfl) (SnL.cons (Sn.hs rfl (.inl rfl) (SnC.pure (ids_flat (iC_pure _) _)) (fun h => flat_nil0 h)) (SnL.cons (Sn.pure rfl) SnL.nil))) (fiduciallaw55_candidates_ok n s.Width xs_38 v1.1 v51 hc52)) (.mu 4 (.ca cf0 (.mu 2 (.done (.nh [2, 3, 4, 7, 9, 11, 14, 15, 55, 56, 57] [.own (api_Survey.c s), .own (api_Flight.c f), .own [aB false, nS, aB false, nS, aB false, nS, aB false, nS], .own (api_Rat.c v1.1), .own (api_Rat.c v1.2), .fix (xs_38.flatMap (iC .i64)), .own (ys_39.flatMap (iC .i64)), .own [aB false, nS, aB false, nS, aB false, nS, aB false, nS]] (.block (.wk ((Wk.fix 6 (cs := (ys_39.flatMap (iC .i64))) (by kernel_rfl)).to (c := ⟨mkS 92 0 [(2, aI64 ground), (3, .hp 0 0), (4, .hp 1 0), (7, .hp 2 0), (9, .hp 4 0), (11, .hs 6 0 ys_39.length 1), (14, aI64 (-1)), (15, .hp 7 0), (55, slT api_Rat.c v51), (56, aI64 (v51.length : Int)), (57, aI64 0)], [.own (api_Survey.c s), .own (api_Flight.c f), .own [aB false, nS, aB false, nS, aB false, nS, aB false, nS], .own (api_Rat.c v1.1), .own (api_Rat.c v1.2), .fix (xs_38.flatMap (iC .i64)), .fix (ys_39.flatMap (iC .i64)), .own [aB false, nS, aB false, nS, aB false, nS, aB false, nS]]⟩) (by kernel_rfl)) ?_)))))))
  replace hr := bd hr; obtain ⟨o157, hL158, hr⟩ := hr
  refine .loopO (σ := fun z0 => match z0 with | (least_53, at_54, at_55, at_56, at_57, at_58, at_59, at_60, at_61, x_62) => ⟨mkS 92 0 [(2, aI64 ground), (3, .hp 0 0), (4, .hp 1 0), (7, .hp 2 0), (9, .hp 3 0), (11, .hs 4 0 ys_39.length 1), (14, aI64 least_53), (15, .hp 5 0), (55, slT api_Rat.c v51), (56, aI64 (v51.length : Int)), (57, aI64 x_62)], [.own (api_Survey.c s), .own (api_Flight.c f), .own [aB false, nS, aB false, nS, aB false, nS, aB false, nS], .own (api_Rat.c v1.2), .fix (ys_39.flatMap (iC .i64)), .own [aB at_54, sU32 at_55, aB at_56, sU32 at_57, aB at_58, sU32 at_59, aB at_60, sU32 at_61]]⟩) (Q := fun x st' => match (generalizing := false) o157 with | (least_105, at_106, at_107, at_108, at_109, at_110, at_111, at_112, at_113) => x = .exit 2 ∧ Wk 0 st' ⟨mkS 92 0 [(7, .hp 0 0), (14, aI64 least_105), (15, .hp 1 0)], [.own [aB false, nS, aB false, nS, aB false, nS, aB false, nS], .own [aB at_106, sU32 at_107, aB at_108, sU32 at_109, aB at_110, sU32 at_111, aB at_112, sU32 at_113]]⟩) hL158 ((Wk.nilTcell 7 1 (cs := [aB false, nS, aB false, nS, aB false, nS, aB false, nS]) (by kernel_rfl) (by kernel_rfl)).trans ((Wk.nilTcell 7 3 (cs := [aB false, .sl true [] 0, aB false, nS, aB false, nS, aB false, nS]) (by kernel_rfl) (by kernel_rfl)).trans ((Wk.nilTcell 7 5 (cs := [aB false, .sl true [] 0, aB false, .sl true [] 0, aB false, nS, aB false, nS]) (by kernel_rfl) (by kernel_rfl)).trans ((Wk.nilTcell 7 7 (cs := [aB false, .sl true [] 0, aB false, .sl true [] 0, aB false, .sl true [] 0, aB false, nS]) (by kernel_rfl) (by kernel_rfl)).trans ((Wk.gc [2, 3, 4, 7, 9, 11, 14, 15, 55, 56, 57] [(0, true), (1, true), (2, true), (4, true), (6, false), (7, true)] rfl (pKt (pKt (pKt (pKt (pKf (iC .i64) (iC_pure _) ys_39 trivial)))))).to))))) ?_ ?_
  ·clear hr
   rintro m ⟨least_53, at_54, at_55, at_56, at_57, at_58, at_59, at_60, at_61, x_62⟩ hr
   show CQ _ _ _ _ _ ⟨_, _⟩
   refine .seq (.r4 G [2, 3, 4, 7, 9, 11, 14, 15, 55, 56, 57] [(58, aB (decide (x_62 < (v51.length : Int))))] (.seq ?_))
   refine .cd hr (fun hb116 hr => ?_) (fun hb116 hr => ?_)
   ·refine .skip (.seq (.block (.seq ?_)))
    obtain ⟨hg117, hr⟩ := gd hr
    refine .r0 G (.p0 (v := .pp (v51.flatMap api_Rat.c) (x_62.toNat * 4)) (tr (ofP_guard hg117)) (.p0 (v := .agg (api_Rat.c (gt v51 x_62))) (Eq.trans (b := ORes.ofP (guardV (decide (4 ≤ ((v51.flatMap api_Rat.c).drop (x_62.toNat * 4)).length)) (.agg (((v51.flatMap api_Rat.c).drop (x_62.toNat * 4)).take 4)))) (by kernel_rfl) (flat_load api_Rat.len (inR_lt hg117) (by decide) (by omega : x_62.toNat * 4 = x_62.toNat * 4 + 0) (by kernel_rfl))) (.mu 2 (.done (.nh [2, 3, 4, 7, 9, 11, 14, 15, 17, 55, 56, 57] [.own (api_Survey.c s), .own (api_Flight.c f), .own [aB false, nS, aB false, nS, aB false, nS, aB false, nS], .own (api_Rat.c v1.2), .fix (ys_39.flatMap (iC .i64)), .own [aB at_54, sU32 at_55, aB at_56, sU32 at_57, aB at_58, sU32 at_59, aB at_60, sU32 at_61], .own (api_Rat.c (gt v51 x_62))] (.seq ?_))))))
    obtain ⟨v118, hc119, hr⟩ := bd hr
    refine .g1 G (callOk_ref (args := [aI64 s.Height, .hs 4 0 ys_39.length 1, .agg (api_Rat.c v1.2)]) (l := [4]) (SnL.cons (Sn.pure rfl) (SnL.cons (Sn.hs rfl (.inr rfl) (SnC.pure (ids_flat (iC_pure _) _)) (fun h => flat_nil0 h)) (SnL.cons (Sn.pure rfl) SnL.nil))) (fiduciallaw55_candidates_ok n s.Height ys_39 v1.2 v118 hc119)) (.mu 4 (.ca cf0 (.mu 2 (.done (.nh [2, 3, 4, 7, 9, 11, 14, 15, 17, 55, 56, 57, 65, 66, 67] [.own (api_Survey.c s), .own (api_Flight.c f), .own [aB false, nS, aB false, nS, aB false, nS, aB false, nS], .own (api_Rat.c v1.2), .fix (ys_39.flatMap (iC .i64)), .own [aB at_54, sU32 at_55, aB at_56, sU32 at_57, aB at_58, sU32 at_59, aB at_60, sU32 at_61], .own (api_Rat.c (gt v51 x_62))] (.block ?_))))))
    replace hr := bd hr; obtain ⟨o154, hL155, hr⟩ := hr
    refine .loopO (σ := fun z0 => match z0 with | (least_120, at_121, at_122, at_123, at_124, at_125, at_126, at_127, at_128, x_129) => ⟨mkS 92 0 [(2, aI64 ground), (3, .hp 0 0), (4, .hp 1 0), (7, .hp 2 0), (9, .hp 3 0), (11, .hs 4 0 ys_39.length 1), (14, aI64 least_120), (15, .hp 5 0), (17, .hp 6 0), (55, slT api_Rat.c v51), (56, aI64 (v51.length : Int)), (57, aI64 x_62), (65, slT api_Rat.c v118), (66, aI64 (v118.length : Int)), (67, aI64 x_129)], [.own (api_Survey.c s), .own (api_Flight.c f), .own [aB false, nS, aB false, nS, aB false, nS, aB false, nS], .own (api_Rat.c v1.2), .fix (ys_39.flatMap (iC .i64)), .own [aB at_121, sU32 at_122, aB at_123, sU32 at_124, aB at_125, sU32 at_126, aB at_127, sU32 at_128], .own (api_Rat.c (gt v51 x_62))]⟩) (Q := fun x st' => match (generalizing := false) o154 with | (least_137, at_138, at_139, at_140, at_141, at_142, at_143, at_144, at_145) => x = .exit 4 ∧ Wk 0 st' ⟨mkS 92 0 [(2, aI64 ground), (3, .hp 0 0), (4, .hp 1 0), (7, .hp 2 0), (9, .hp 3 0), (11, .hs 4 0 ys_39.length 1), (14, aI64 least_137), (15, .hp 5 0), (55, slT api_Rat.c v51), (56, aI64 (v51.length : Int)), (57, aI64 x_62)], [.own (api_Survey.c s), .own (api_Flight.c f), .own [aB false, nS, aB false, nS, aB false, nS, aB false, nS], .own (api_Rat.c v1.2), .fix (ys_39.flatMap (iC .i64)), .own [aB at_138, sU32 at_139, aB at_140, sU32 at_141, aB at_142, sU32 at_143, aB at_144, sU32 at_145]]⟩) hL155 ((Wk.gc [2, 3, 4, 7, 9, 11, 14, 15, 17, 55, 56, 57, 65, 66, 67] [(0, true), (1, true), (2, true), (3, true), (4, false), (5, true), (6, true)] rfl (pKt (pKt (pKt (pKt (pKf (iC .i64) (iC_pure _) ys_39 trivial)))))).to) ?_ ?_
    ·clear hr
     rintro m ⟨least_120, at_121, at_122, at_123, at_124, at_125, at_126, at_127, at_128, x_129⟩ hr
     show CQ _ _ _ _ _ ⟨_, _⟩
     refine .seq (.r4 G [2, 3, 4, 7, 9, 11, 14, 15, 17, 55, 56, 57, 65, 66, 67] [(68, aB (decide (x_129 < (v118.length : Int))))] (.seq ?_))
     refine .cd hr (fun hb148 hr => ?_) (fun hb148 hr => ?_)
     ·refine .skip (.seq (.block (.seq ?_)))
      obtain ⟨hg149, hr⟩ := gd hr
      refine .r0 G (.p0 (v := .pp (v118.flatMap api_Rat.c) (x_129.toNat * 4)) (tr (ofP_guard hg149)) (.p0 (v := .agg (api_Rat.c (gt v118 x_129))) (Eq.trans (b := ORes.ofP (guardV (decide (4 ≤ ((v118.flatMap api_Rat.c).drop (x_129.toNat * 4)).length)) (.agg (((v118.flatMap api_Rat.c).drop (x_129.toNat * 4)).take 4)))) (by kernel_rfl) (flat_load api_Rat.len (inR_lt hg149) (by decide) (by omega : x_129.toNat * 4 = x_129.toNat * 4 + 0) (by kernel_rfl))) (.mu 2 (.done (.nh [2, 3, 4, 7, 9, 11, 14, 15, 17, 19, 55, 56, 57, 65, 66, 67] [.own (api_Survey.c s), .own (api_Flight.c f), .own [aB false, nS, aB false, nS, aB false, nS, aB false, nS], .own (api_Rat.c v1.2), .fix (ys_39.flatMap (iC .i64)), .own [aB at_121, sU32 at_122, aB at_123, sU32 at_124, aB at_125, sU32 at_126, aB at_127, sU32 at_128], .own (api_Rat.c (gt v51 x_62)), .own (api_Rat.c (gt v118 x_129))] (.seq (.r5 G [2, 3, 4, 7, 9, 11, 14, 15, 17, 55, 56, 57, 65, 66, 67] [(20, .hp 8 0)] [.own (api_Survey.c s), .own (api_Flight.c f), .own [aB false, nS, aB false, nS, aB false, nS, aB false, nS], .own (api_Rat.c v1.2), .fix (ys_39.flatMap (iC .i64)), .own [aB at_121, sU32 at_122, aB at_123, sU32 at_124, aB at_125, sU32 at_126, aB at_127, sU32 at_128], .own (api_Rat.c (gt v51 x_62)), .own (api_Rat.c (gt v118 x_129)), .own [aB (gt v51 x_62).Num.Negative, sU32 (gt v51 x_62).Num.Groups, aB (gt v51 x_62).Den.Negative, sU32 (gt v51 x_62).Den.Groups, aB (gt v118 x_129).Num.Negative, sU32 (gt v118 x_129).Num.Groups, aB (gt v118 x_129).Den.Negative, sU32 (gt v118 x_129).Den.Groups]] (.seq ?_))))))))
      obtain ⟨v150, hc151, hr⟩ := bd hr
      refine .g1 G (ok0 (fiduciallaw55_seen_ok n s f ground (api_Place.mk (gt v51 x_62) (gt v118 x_129)) v150 hc151)) (.mu 4 (.ca cf0 (.mu 1 (.done (.nh [2, 3, 4, 7, 9, 11, 14, 15, 17, 20, 21, 55, 56, 57, 65, 66, 67] [.own (api_Survey.c s), .own (api_Flight.c f), .own [aB false, nS, aB false, nS, aB false, nS, aB false, nS], .own (api_Rat.c v1.2), .fix (ys_39.flatMap (iC .i64)), .own [aB at_121, sU32 at_122, aB at_123, sU32 at_124, aB at_125, sU32 at_126, aB at_127, sU32 at_128], .own (api_Rat.c (gt v51 x_62)), .own (api_Rat.c (gt v118 x_129)), .own [aB (gt v51 x_62).Num.Negative, sU32 (gt v51 x_62).Num.Groups, aB (gt v51 x_62).Den.Negative, sU32 (gt v51 x_62).Den.Groups, aB (gt v118 x_129).Num.Negative, sU32 (gt v118 x_129).Num.Groups, aB (gt v118 x_129).Den.Negative, sU32 (gt v118 x_129).Den.Groups]] (.seq ?_))))))
      rcases Bool.eq_false_or_eq_true (decide (least_120 < 0)) with hb152 | hb152
      ·replace hr := cd_t hb152 hr
       refine .r0 G (.mu 1 (.p0 (v := aB true) (eB hb152) (.mu 5 (.done (.nh [2, 3, 4, 7, 9, 11, 14, 15, 17, 20, 21, 55, 56, 57, 65, 66, 67, 85] [.own (api_Survey.c s), .own (api_Flight.c f), .own [aB false, nS, aB false, nS, aB false, nS, aB false, nS], .own (api_Rat.c v1.2), .fix (ys_39.flatMap (iC .i64)), .own [aB at_121, sU32 at_122, aB at_123, sU32 at_124, aB at_125, sU32 at_126, aB at_127, sU32 at_128], .own (api_Rat.c (gt v51 x_62)), .own (api_Rat.c (gt v118 x_129)), .own [aB (gt v51 x_62).Num.Negative, sU32 (gt v51 x_62).Num.Groups, aB (gt v51 x_62).Den.Negative, sU32 (gt v51 x_62).Den.Groups, aB (gt v118 x_129).Num.Negative, sU32 (gt v118 x_129).Num.Groups, aB (gt v118 x_129).Den.Negative, sU32 (gt v118 x_129).Den.Groups]] (.cT (by kernel_rfl) (.regionT G callOf_nil (.mu 4 ?_))))))))
       refine .done ⟨by kernel_rfl, ?_⟩
       refine .pop (.ru G ?_)
       exact loopF_back (v150, (gt v51 x_62).Num.Negative, (gt v51 x_62).Num.Groups, (gt v51 x_62).Den.Negative, (gt v51 x_62).Den.Groups, (gt v118 x_129).Num.Negative, (gt v118 x_129).Num.Groups, (gt v118 x_129).Den.Negative, (gt v118 x_129).Den.Groups, wrapF .i64 (x_129 + 1)) hr ((Wk.gc [2, 3, 4, 7, 9, 11, 14, 15, 17, 55, 56, 57, 65, 66, 67] [(0, true), (1, true), (2, true), (3, true), (4, false), (5, true), (6, true)] rfl (pKt (pKt (pKt (pKt (pKf (iC .i64) (iC_pure _) ys_39 trivial)))))).to)
      ·replace hr := cd_f hb152 hr
       refine .r0 G (.mu 1 (.p0 (v := aB false) (eB hb152) (.mu 5 (.done (.nh [2, 3, 4, 7, 9, 11, 14, 15, 17, 20, 21, 55, 56, 57, 65, 66, 67, 85] [.own (api_Survey.c s), .own (api_Flight.c f), .own [aB false, nS, aB false, nS, aB false, nS, aB false, nS], .own (api_Rat.c v1.2), .fix (ys_39.flatMap (iC .i64)), .own [aB at_121, sU32 at_122, aB at_123, sU32 at_124, aB at_125, sU32 at_126, aB at_127, sU32 at_128], .own (api_Rat.c (gt v51 x_62)), .own (api_Rat.c (gt v118 x_129)), .own [aB (gt v51 x_62).Num.Negative, sU32 (gt v51 x_62).Num.Groups, aB (gt v51 x_62).Den.Negative, sU32 (gt v51 x_62).Den.Groups, aB (gt v118 x_129).Num.Negative, sU32 (gt v118 x_129).Num.Groups, aB (gt v118 x_129).Den.Negative, sU32 (gt v118 x_129).Den.Groups]] ?_)))))
       refine .cd hr (fun hb153 hr => ?_) (fun hb153 hr => ?_)
       ·refine .regionT G callOf_nil (.mu 4 ?_)
        refine .done ⟨by kernel_rfl, ?_⟩
        refine .pop (.ru G ?_)
        exact loopF_back (v150, (gt v51 x_62).Num.Negative, (gt v51 x_62).Num.Groups, (gt v51 x_62).Den.Negative, (gt v51 x_62).Den.Groups, (gt v118 x_129).Num.Negative, (gt v118 x_129).Num.Groups, (gt v118 x_129).Den.Negative, (gt v118 x_129).Den.Groups, wrapF .i64 (x_129 + 1)) hr ((Wk.gc [2, 3, 4, 7, 9, 11, 14, 15, 17, 55, 56, 57, 65, 66, 67] [(0, true), (1, true), (2, true), (3, true), (4, false), (5, true), (6, true)] rfl (pKt (pKt (pKt (pKt (pKf (iC .i64) (iC_pure _) ys_39 trivial)))))).to)
       ·refine .skip (.pop (.ru G ?_))
        exact loopF_back (least_120, at_121, at_122, at_123, at_124, at_125, at_126, at_127, at_128, wrapF .i64 (x_129 + 1)) hr ((Wk.gc [2, 3, 4, 7, 9, 11, 14, 15, 17, 55, 56, 57, 65, 66, 67] [(0, true), (1, true), (2, true), (3, true), (4, false), (5, true), (6, true)] rfl (pKt (pKt (pKt (pKt (pKf (iC .i64) (iC_pure _) ys_39 trivial)))))).to)
     ·refine .leave rfl ?_
      obtain rfl := oi hr
      exact ⟨rfl, ((Wk.gc [2, 3, 4, 7, 9, 11, 14, 15, 55, 56, 57] [(0, true), (1, true), (2, true), (3, true), (4, false), (5, true)] rfl (pKt (pKt (pKt (pKt (pKf (iC .i64) (iC_pure _) ys_39 trivial)))))).to)⟩
    ·rcases o154 with ⟨least_137, at_138, at_139, at_140, at_141, at_142, at_143, at_144, at_145⟩
     rintro x st' hq156
     clear hL155
     obtain ⟨rfl, hq156⟩ := hq156
     refine CQ_exit _ rfl (.pop (.wk hq156 (.ru G ?_)))
     exact loopF_back (least_137, at_138, at_139, at_140, at_141, at_142, at_143, at_144, at_145, wrapF .i64 (x_62 + 1)) hr ((Wk.gc [2, 3, 4, 7, 9, 11, 14, 15, 55, 56, 57] [(0, true), (1, true), (2, true), (3, true), (4, false), (5, true)] rfl (pKt (pKt (pKt (pKt (pKf (iC .i64) (iC_pure _) ys_39 trivial)))))).to)
   ·refine .leave rfl ?_
    obtain rfl := oi hr
    exact ⟨rfl, ((Wk.gc [7, 14, 15] [(2, true), (5, true)] rfl trivial).to)⟩
  ·rcases o157 with ⟨least_105, at_106, at_107, at_108, at_109, at_110, at_111, at_112, at_113⟩
   rintro x st' hq159
   clear hL158
   obtain ⟨rfl, hq159⟩ := hq159
   refine CQ_exit _ rfl (.wk hq159 (.seq (.regionT G callOf_nil (.mu 4 ?_))))
   refine .done ⟨by kernel_rfl, ?_⟩
   refine .nh [6, 7] [.own [aB at_106, sU32 at_107, aB at_108, sU32 at_109, aB at_110, sU32 at_111, aB at_112, sU32 at_113], .own [aB at_106, sU32 at_107, aB at_108, sU32 at_109, aB at_110, sU32 at_111, aB at_112, sU32 at_113]] (.ret ?_)
   obtain rfl := oi hr
   exact FinQ.ret (vs := [aI64 least_105, .agg [aB at_106, sU32 at_107, aB at_108, sU32 at_109, aB at_110, sU32 at_111, aB at_112, sU32 at_113]]) (by kernel_rfl) (Sn.tup (SnL.cons (Sn.pure rfl) (SnL.cons (Sn.pure rfl) SnL.nil)))

theorem fiduciallaw55_PlanVerifies_ok (n : Nat) (s : api_Survey) (f : api_Flight) (at' : A3 Int) (r : Bool) (hr : fiduciallaw55_PlanVerifies n s f at' = some r) : FnOk Tryz.prog 6 [.agg (api_Survey.c s), .agg (api_Flight.c f), .agg [.at (.int .u16 at'.e0), .at (.int .u16 at'.e1), .at (.int .u16 at'.e2)]] (aB r) := by
 unfold fiduciallaw55_PlanVerifies at hr
 refine FnOk.bd G Tryz.func6 [.tmp 6] ?_
 unfold Tryz.f6
 simp only [Option.getD_some]
 refine .seq (.r2 G 91 [(3, .hp 0 0), (4, .hp 1 0), (5, .hp 2 0)] [.own (api_Survey.c s), .own (api_Flight.c f), .own [.at (.int .u16 at'.e0), .at (.int .u16 at'.e1), .at (.int .u16 at'.e2)]] (.seq (.seq ?_)))
 obtain ⟨v1, hc2, hr⟩ := bd hr
 refine .g1 G (ok0 (fiduciallaw55_known_ok n v1 hc2)) (.ca cf0 (.mu 1 (.done (.nh [3, 4, 5, 17] [.own (api_Survey.c s), .own (api_Flight.c f), .own [.at (.int .u16 at'.e0), .at (.int .u16 at'.e1), .at (.int .u16 at'.e2)]] ?_))))
 refine .cd hr (fun hb4 hr => ?_) (fun hb4 hr => ?_)
 ·refine .seq (.ru G (.ret ?_))
  obtain rfl := oi hr
  exact FinQ.r1 [aB false]
 ·refine .skip (.seq (.seq ?_))
  obtain ⟨v5, hc6, hr⟩ := bd hr
  refine .g1 G (ok0 (fiduciallaw55_few_ok n f 8 v5 hc6)) (.mu 1 (.ca cf0 (.mu 1 (.done (.nh [3, 4, 5, 20] [.own (api_Survey.c s), .own (api_Flight.c f), .own [.at (.int .u16 at'.e0), .at (.int .u16 at'.e1), .at (.int .u16 at'.e2)]] ?_)))))
  refine .cd hr (fun hb8 hr => ?_) (fun hb8 hr => ?_)
  ·refine .seq (.ru G (.ret ?_))
   obtain rfl := oi hr
   exact FinQ.r1 [aB true]
  ·refine .skip (.seq ?_)
   obtain ⟨v9, hc10, hr⟩ := bd hr
   refine .g1 G (ok0 (plan_Verify_ok n s f v9 hc10)) (.mu 2 (.ca cf0 (.mu 1 (.done (.nh [3, 4, 5, 7] [.own (api_Survey.c s), .own (api_Flight.c f), .own [.at (.int .u16 at'.e0), .at (.int .u16 at'.e1), .at (.int .u16 at'.e2)]] (.seq ?_))))))
   obtain ⟨v11, hc12, hr⟩ := bd hr
   refine .g1 G (ok0 (fiduciallaw55_asked_ok n s f s.High v11 hc12)) (.mu 4 (.ca cf0 (.mu 1 (.done (.nh [3, 4, 5, 7, 8] [.own (api_Survey.c s), .own (api_Flight.c f), .own [.at (.int .u16 at'.e0), .at (.int .u16 at'.e1), .at (.int .u16 at'.e2)]] (.seq (.seq (.r4 G [3, 4, 5, 7, 8] [(30, aB ((v11 : Int) == 0))] ?_))))))))
   replace hr := bd hr; obtain ⟨c_13, hL19, hr⟩ := hr
   refine .app1 (Q := fun x st' => x = .normal ∧ Wk 0 st' ⟨mkS 91 0 [(3, .hp 0 0), (4, .hp 1 0), (5, .hp 2 0), (7, aI64 v9), (8, aI64 c_13)], [.own (api_Survey.c s), .own (api_Flight.c f), .own [.at (.int .u16 at'.e0), .at (.int .u16 at'.e1), .at (.int .u16 at'.e2)]]⟩) ?_ ?_
   ·clear hr
    have hr := hL19
    clear hL19
    refine .cd hr (fun hb14 hr => ?_) (fun hb14 hr => ?_)
    ·refine .seq ?_
     obtain ⟨v15, hc16, hr⟩ := bd hr
     refine .g1 G (ok0 (fiduciallaw55_cover_ok n s f s.High v15 hc16)) (.mu 4 (.ca cf0 (.mu 6 (.done (.nh [3, 4, 5, 7, 8, 9] [.own (api_Survey.c s), .own (api_Flight.c f), .own [.at (.int .u16 at'.e0), .at (.int .u16 at'.e1), .at (.int .u16 at'.e2)], .own (api_Place.c v15.2)] (.seq (.r4 G [3, 4, 5, 7, 8] [(42, aB (decide (v15.1 < s.Views)))] ?_)))))))
     refine .cd hr (fun hb17 hr => ?_) (fun hb17 hr => ?_)
     ·refine .ru G ?_
      obtain rfl := oi hr
      exact ⟨rfl, ((Wk.gc [3, 4, 5, 7, 8] [(0, true), (1, true), (2, true)] rfl trivial).to)⟩
     ·refine .skip ?_
      obtain rfl := oi hr
      exact ⟨rfl, ((Wk.gc [3, 4, 5, 7, 8] [(0, true), (1, true), (2, true)] rfl trivial).to)⟩
    ·refine .skip ?_
     obtain rfl := oi hr
     exact ⟨rfl, ((Wk.gc [3, 4, 5, 7, 8] [(0, true), (1, true), (2, true)] rfl trivial).to)⟩
   ·rintro x st' hq20
    clear hL19
    obtain ⟨rfl, hq20⟩ := hq20
    refine .wk hq20 (.seq (.seq (.r4 G [3, 4, 5, 7] [(45, aB ((v9 : Int) != c_13))] ?_)))
    refine .cd hr (fun hb22 hr => ?_) (fun hb22 hr => ?_)
    ·refine .seq (.ru G (.ret ?_))
     obtain rfl := oi hr
     exact FinQ.r1 [aB false]
    ·refine .skip (.seq (.seq (.r4 G [3, 4, 5] [(47, aB ((v9 : Int) != 0))] ?_)))
     refine .cd hr (fun hb24 hr => ?_) (fun hb24 hr => ?_)
     ·refine .seq (.ru G (.ret ?_))
      obtain rfl := oi hr
      exact FinQ.r1 [aB true]
     ·refine .skip (.seq ?_)
      obtain ⟨v25, hc26, hr⟩ := bd hr
      refine .g1 G (ok0 (fiducialref02_Of_ok n (wrapF .i64 (s.Width * (wrapF .i64 at'.e0))) 65535 v25 hc26)) (.mu 6 (.ca cf0 (.mu 6 (.done (.nh [3, 4, 5, 11] [.own (api_Survey.c s), .own (api_Flight.c f), .own [.at (.int .u16 at'.e0), .at (.int .u16 at'.e1), .at (.int .u16 at'.e2)], .own (api_Rat.c v25.1)] (.seq ?_))))))
      obtain ⟨v27, hc28, hr⟩ := bd hr
      refine .g1 G (ok0 (fiducialref02_Of_ok n (wrapF .i64 (s.Height * (wrapF .i64 at'.e1))) 65535 v27 hc28)) (.mu 6 (.ca cf0 (.mu 6 (.done (.nh [3, 4, 5, 11, 13] [.own (api_Survey.c s), .own (api_Flight.c f), .own [.at (.int .u16 at'.e0), .at (.int .u16 at'.e1), .at (.int .u16 at'.e2)], .own (api_Rat.c v25.1), .own (api_Rat.c v27.1)] (.seq (.r4 G [3, 4, 11, 13] [(15, aI64 (wrapF .i64 (s.Low + (wrapF .i64 ((wrapF .i64 ((wrapF .i64 (s.High - s.Low)) * (wrapF .i64 at'.e2))).tdiv 65535)))))] (.seq ?_))))))))
      obtain ⟨v29, hc30, hr⟩ := bd hr
      refine .t1 G (ok0 (fiduciallaw55_seen_ok n s f (wrapF .i64 (s.Low + (wrapF .i64 ((wrapF .i64 ((wrapF .i64 (s.High - s.Low)) * (wrapF .i64 at'.e2))).tdiv 65535)))) (api_Place.mk v25.1 v27.1) v29 hc30)) (.mu 6 (.ca cf0 (.mu 4 ?_)))
      refine .done ⟨by kernel_rfl, ?_⟩
      refine .ret ?_
      obtain rfl := oi hr
      exact FinQ.r1 [aB (decide (v29 ≥ s.Views))]
end Go.L
