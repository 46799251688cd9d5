/- The program's functions compute what the plain Lean programs compute, part 2; printed by a program. -/
import Derived.Test.YtndahnebnggdmaaGreatConLP1
import Derived.Test.YtndahnebnggdmaaGreatL0dpbdclmj
import Derived.Test.YtndahnebnggdmaaGreatSortlkejhobd
import Derived.Test.YtndahnebnggdmaaGreatChecked
import Derived.KernelRfl
set_option linter.all false
set_option maxRecDepth 100000
set_option maxHeartbeats 4000000
namespace Go.L
open Go Go.Eng Go.Proofs
theorem integer_plus_ok (n : Nat) (a : List Int) (b : List Int) (r : List Int) (hr : integer_plus n a b = some r) : FnOk Tryz.prog 124 [sU32 a, sU32 b] (sU32 r) := by
 unfold integer_plus at hr
 refine FnOk.bd G Tryz.func124 [.tmp 4] ?_
 unfold Tryz.f124
 simp only [Option.getD_some]
 refine .seq (.r4 G [0, 1] [] (.seq ?_))
 obtain ⟨hg1, hg2, hg3, hr⟩ := gd3 hr
 refine .r0 G (.mu 6 (.e0 (v := .hs 0 0 (List.replicate (wrapF .i64 ((mx (a.length : Int) (b.length : Int)) + 1)).toNat ((0 : Int) : Int)).length 1) (ws := [(0, .own ((List.replicate (wrapF .i64 ((mx (a.length : Int) (b.length : Int)) + 1)).toNat ((0 : Int) : Int)).flatMap (iC .u32)))]) (tr (make_own (c := (iC .u32)) (z := (0 : Int)) (n := wrapF .i64 ((mx (a.length : Int) (b.length : Int)) + 1)) (by_ := 4) rfl hg1 hg2 hg3)) (.mu 1 (.done (.nh [0, 1, 5] [.own ((List.replicate (wrapF .i64 ((mx (a.length : Int) (b.length : Int)) + 1)).toNat ((0 : Int) : Int)).flatMap (iC .u32))] (.seq (.r4 G [0, 1, 5] [(6, aU32 0)] (.seq (.seq (.r4 G [0, 1, 5, 6] [(17, aI64 ((List.replicate (wrapF .i64 ((mx (a.length : Int) (b.length : Int)) + 1)).toNat ((0 : Int) : Int)).length : Int)), (18, aI64 0)] (.block ?_)))))))))))
 replace hr := bd hr; obtain ⟨out_15, hL26, hr⟩ := hr
 refine .loopO (σ := fun z0 => match z0 with | (out_4, carry_5, x_6) => ⟨mkS 41 0 [(0, sU32 a), (1, sU32 b), (5, .hs 0 0 out_4.length 1), (6, aU32 carry_5), (17, aI64 ((List.replicate (wrapF .i64 ((mx (a.length : Int) (b.length : Int)) + 1)).toNat ((0 : Int) : Int)).length : Int)), (18, aI64 x_6)], [.own (out_4.flatMap (iC .u32))]⟩) (Q := fun x st' => x = .exit 0 ∧ Wk 0 st' ⟨mkS 41 0 [(5, .hs 0 0 out_15.length 1)], [.own (out_15.flatMap (iC .u32))]⟩) hL26 ((Wk.gc [0, 1, 5, 6, 17, 18] [(0, false)] rfl (pKo (iC .u32) (iC_pure _) (List.replicate (wrapF .i64 ((mx (a.length : Int) (b.length : Int)) + 1)).toNat ((0 : Int) : Int)) trivial)).to) ?_ ?_
 ·clear hr
  rintro m ⟨out_4, carry_5, x_6⟩ hr
  show CQ _ _ _ _ _ ⟨_, _⟩
  refine .seq (.r4 G [0, 1, 5, 6, 17, 18] [(19, aB (decide (x_6 < ((List.replicate (wrapF .i64 ((mx (a.length : Int) (b.length : Int)) + 1)).toNat ((0 : Int) : Int)).length : Int))))] (.seq ?_))
  refine .cd hr (fun hb17 hr => ?_) (fun hb17 hr => ?_)
  ·refine .skip (.seq (.block (.seq (.r4 G [0, 1, 5, 6, 17, 18] [(7, aI64 x_6)] (.seq ?_)))))
   obtain ⟨v18, hc19, v20, hc21, hr⟩ := bd2 hr
   refine .gn G (ca1 (ok0 (integer_at_ok n a x_6 v18 hc19)) (ca3 (ok0 (integer_at_ok n b x_6 v20 hc21)))) (.mu 2 (.ca cf0 (.mu 2 (.ca (cfA (fun h => by rw [sv hc21 hc19 (integer_at_cg n h)]) cf0) (.mu 4 (.done (.nh [0, 1, 5, 7, 8, 17, 18] [.own (out_4.flatMap (iC .u32))] (.seq (.r4 G [0, 1, 5, 7, 8, 17, 18] [(6, aU32 0)] (.seq (.seq (.r4 G [0, 1, 5, 6, 7, 8, 17, 18] [(31, aB (decide ((wrapF .u32 ((wrapF .u32 (v18 + v20)) + carry_5)) ≥ 1000000000)))] ?_))))))))))))
   refine .cd hr (fun hb22 hr => ?_) (fun hb22 hr => ?_)
   ·refine .r4 G [0, 1, 5, 7, 17, 18] [(6, aU32 1), (8, aU32 (wrapF .u32 ((wrapF .u32 ((wrapF .u32 (v18 + v20)) + carry_5)) - 1000000000)))] ?_
    obtain ⟨hg23, hr⟩ := gd hr
    refine .r0 G (.mu 3 (.p0 (v := .hp 0 (0 + x_6.toNat * 1)) (tr (ofP_guard hg23)) (.e0 (v := .unk) (ws := [(0, .own ((out_4.set x_6.toNat (wrapF .u32 ((wrapF .u32 ((wrapF .u32 (v18 + v20)) + carry_5)) - 1000000000))).flatMap (iC .u32)))]) (tr (stO_t (and_t (flat_fits (n := 1) (iC_len .u32) (inR_lt hg23) (Nat.le_of_ble_eq_true rfl) (by omega : 0 + x_6.toNat * 1 = x_6.toNat * 1 + 0))) (congrArg Blk.own (flat_set (xs := [aU32 (wrapF .u32 ((wrapF .u32 ((wrapF .u32 (v18 + v20)) + carry_5)) - 1000000000))]) (iC_len .u32) (inR_lt hg23) (Nat.le_of_ble_eq_true rfl) (by omega : 0 + x_6.toNat * 1 = x_6.toNat * 1 + 0) (by kernel_rfl))))) (.done (.pop (.ru G ?_))))))
    exact loopF_back (out_4.set x_6.toNat (wrapF .u32 ((wrapF .u32 ((wrapF .u32 (v18 + v20)) + carry_5)) - 1000000000)), 1, wrapF .i64 (x_6 + 1)) hr ((Wk.relen 5 (b := 0) (es := 1) (len := out_4.length) (out_4.set x_6.toNat (wrapF .u32 ((wrapF .u32 ((wrapF .u32 (v18 + v20)) + carry_5)) - 1000000000))).length (by kernel_rfl) (Eq.symm (List.length_set.trans rfl))).trans ((Wk.gc [0, 1, 5, 6, 17, 18] [(0, false)] rfl (pKo (iC .u32) (iC_pure _) (out_4.set x_6.toNat (wrapF .u32 ((wrapF .u32 ((wrapF .u32 (v18 + v20)) + carry_5)) - 1000000000))) trivial)).to))
   ·refine .skip ?_
    obtain ⟨hg24, hr⟩ := gd hr
    refine .r0 G (.mu 3 (.p0 (v := .hp 0 (0 + x_6.toNat * 1)) (tr (ofP_guard hg24)) (.e0 (v := .unk) (ws := [(0, .own ((out_4.set x_6.toNat (wrapF .u32 ((wrapF .u32 (v18 + v20)) + carry_5))).flatMap (iC .u32)))]) (tr (stO_t (and_t (flat_fits (n := 1) (iC_len .u32) (inR_lt hg24) (Nat.le_of_ble_eq_true rfl) (by omega : 0 + x_6.toNat * 1 = x_6.toNat * 1 + 0))) (congrArg Blk.own (flat_set (xs := [aU32 (wrapF .u32 ((wrapF .u32 (v18 + v20)) + carry_5))]) (iC_len .u32) (inR_lt hg24) (Nat.le_of_ble_eq_true rfl) (by omega : 0 + x_6.toNat * 1 = x_6.toNat * 1 + 0) (by kernel_rfl))))) (.done (.pop (.ru G ?_))))))
    exact loopF_back (out_4.set x_6.toNat (wrapF .u32 ((wrapF .u32 (v18 + v20)) + carry_5)), 0, wrapF .i64 (x_6 + 1)) hr ((Wk.relen 5 (b := 0) (es := 1) (len := out_4.length) (out_4.set x_6.toNat (wrapF .u32 ((wrapF .u32 (v18 + v20)) + carry_5))).length (by kernel_rfl) (Eq.symm (List.length_set.trans rfl))).trans ((Wk.gc [0, 1, 5, 6, 17, 18] [(0, false)] rfl (pKo (iC .u32) (iC_pure _) (out_4.set x_6.toNat (wrapF .u32 ((wrapF .u32 (v18 + v20)) + carry_5))) trivial)).to))
  ·refine .leave rfl ?_
   obtain rfl := oi hr
   exact ⟨rfl, ((Wk.gc [5] [(0, false)] rfl (pKo (iC .u32) (iC_pure _) out_4 trivial)).to)⟩
 ·rintro x st' hq27
  clear hL26
  obtain ⟨rfl, hq27⟩ := hq27
  refine CQ_exit _ rfl (.wk hq27 (.seq ?_))
  obtain ⟨v28, hc29, hr⟩ := bd hr
  refine .g1 G (callOk_ref (args := [.hs 0 0 out_15.length 1]) (l := [0]) (SnL.cons (Sn.hs rfl (.inl rfl) (SnC.pure (ids_flat (iC_pure _) _)) (fun h => flat_nil0 h)) SnL.nil) (integer_trim_ok n out_15 v28 hc29)) (.mu 1 (.ca cf0 (.mu 1 (.done (.ret ?_)))))
  obtain rfl := oi hr
  exact FinQ.r1 [sU32 v28]

theorem integer_minus_ok (n : Nat) (a : List Int) (b : List Int) (r : List Int) (hr : integer_minus n a b = some r) : FnOk Tryz.prog 125 [sU32 a, sU32 b] (sU32 r) := by
 unfold integer_minus at hr
 refine FnOk.bd G Tryz.func125 [.tmp 4] ?_
 unfold Tryz.f125
 simp only [Option.getD_some]
 refine .seq (.r4 G [0, 1] [] (.seq ?_))
 obtain ⟨hg1, hg2, hg3, hr⟩ := gd3 hr
 refine .r0 G (.mu 2 (.e0 (v := .hs 0 0 (List.replicate (a.length : Int).toNat ((0 : Int) : Int)).length 1) (ws := [(0, .own ((List.replicate (a.length : Int).toNat ((0 : Int) : Int)).flatMap (iC .u32)))]) (tr (make_own (c := (iC .u32)) (z := (0 : Int)) (n := (a.length : Int)) (by_ := 4) rfl hg1 hg2 hg3)) (.mu 1 (.done (.nh [0, 1, 5] [.own ((List.replicate (a.length : Int).toNat ((0 : Int) : Int)).flatMap (iC .u32))] (.seq (.r4 G [0, 1, 5] [(6, aU32 0)] (.seq (.seq (.r4 G [0, 1, 5, 6] [(13, aI64 ((List.replicate (a.length : Int).toNat ((0 : Int) : Int)).length : Int)), (14, aI64 0)] (.block ?_)))))))))))
 replace hr := bd hr; obtain ⟨out_14, hL24, hr⟩ := hr
 refine .loopO (σ := fun z0 => match z0 with | (out_4, borrow_5, x_6) => ⟨mkS 50 0 [(0, sU32 a), (1, sU32 b), (5, .hs 0 0 out_4.length 1), (6, aU32 borrow_5), (13, aI64 ((List.replicate (a.length : Int).toNat ((0 : Int) : Int)).length : Int)), (14, aI64 x_6)], [.own (out_4.flatMap (iC .u32))]⟩) (Q := fun x st' => x = .exit 0 ∧ Wk 0 st' ⟨mkS 50 0 [(5, .hs 0 0 out_14.length 1)], [.own (out_14.flatMap (iC .u32))]⟩) hL24 ((Wk.gc [0, 1, 5, 6, 13, 14] [(0, false)] rfl (pKo (iC .u32) (iC_pure _) (List.replicate (a.length : Int).toNat ((0 : Int) : Int)) trivial)).to) ?_ ?_
 ·clear hr
  rintro m ⟨out_4, borrow_5, x_6⟩ hr
  show CQ _ _ _ _ _ ⟨_, _⟩
  refine .seq (.r4 G [0, 1, 5, 6, 13, 14] [(15, aB (decide (x_6 < ((List.replicate (a.length : Int).toNat ((0 : Int) : Int)).length : Int))))] (.seq ?_))
  refine .cd hr (fun hb16 hr => ?_) (fun hb16 hr => ?_)
  ·refine .skip (.seq (.block (.seq (.r4 G [0, 1, 5, 6, 13, 14] [(7, aI64 x_6)] (.seq ?_)))))
   obtain ⟨v17, hc18, hr⟩ := bd hr
   refine .g1 G (ok0 (integer_at_ok n b x_6 v17 hc18)) (.mu 2 (.ca cf0 (.mu 3 (.done (.nh [0, 1, 5, 7, 8, 13, 14] [.own (out_4.flatMap (iC .u32))] (.seq (.r4 G [0, 1, 5, 7, 8, 13, 14] [(6, aU32 0)] (.seq ?_))))))))
   obtain ⟨hg19, hr⟩ := gd hr
   refine .r0 G (.mu 2 (.p0 (v := .pp (a.flatMap (iC .u32)) (x_6.toNat * 1)) (tr (ofP_guard hg19)) (.p0 (v := aU32 (gt a x_6)) (tr (ofP_some (flat_get (iC_len .u32) (inR_lt hg19) (by decide : 0 < 1) (by omega : x_6.toNat * 1 = x_6.toNat * 1 + 0) (by kernel_rfl)))) (.mu 2 (.done (.nh [0, 1, 5, 6, 7, 8, 13, 14, 27] [.own (out_4.flatMap (iC .u32))] ?_))))))
   refine .cd hr (fun hb20 hr => ?_) (fun hb20 hr => ?_)
   ·obtain ⟨hg21, hr⟩ := gd hr
    refine .r0 G (.mu 4 (.p0 (v := .pp (a.flatMap (iC .u32)) (x_6.toNat * 1)) (tr (ofP_guard hg19)) (.p0 (v := aU32 (gt a x_6)) (tr (ofP_some (flat_get (iC_len .u32) (inR_lt hg19) (by decide : 0 < 1) (by omega : x_6.toNat * 1 = x_6.toNat * 1 + 0) (by kernel_rfl)))) (.mu 3 (.p0 (v := .hp 0 (0 + x_6.toNat * 1)) (tr (ofP_guard hg21)) (.e0 (v := .unk) (ws := [(0, .own ((out_4.set x_6.toNat (wrapF .u32 ((wrapF .u32 ((gt a x_6) + 1000000000)) - (wrapF .u32 (v17 + borrow_5))))).flatMap (iC .u32)))]) (tr (stO_t (and_t (flat_fits (n := 1) (iC_len .u32) (inR_lt hg21) (Nat.le_of_ble_eq_true rfl) (by omega : 0 + x_6.toNat * 1 = x_6.toNat * 1 + 0))) (congrArg Blk.own (flat_set (xs := [aU32 (wrapF .u32 ((wrapF .u32 ((gt a x_6) + 1000000000)) - (wrapF .u32 (v17 + borrow_5))))]) (iC_len .u32) (inR_lt hg21) (Nat.le_of_ble_eq_true rfl) (by omega : 0 + x_6.toNat * 1 = x_6.toNat * 1 + 0) (by kernel_rfl))))) (.mu 1 (.done (.pop (.ru G ?_))))))))))
    exact loopF_back (out_4.set x_6.toNat (wrapF .u32 ((wrapF .u32 ((gt a x_6) + 1000000000)) - (wrapF .u32 (v17 + borrow_5)))), 1, wrapF .i64 (x_6 + 1)) hr ((Wk.relen 5 (b := 0) (es := 1) (len := out_4.length) (out_4.set x_6.toNat (wrapF .u32 ((wrapF .u32 ((gt a x_6) + 1000000000)) - (wrapF .u32 (v17 + borrow_5))))).length (by kernel_rfl) (Eq.symm (List.length_set.trans rfl))).trans ((Wk.gc [0, 1, 5, 6, 13, 14] [(0, false)] rfl (pKo (iC .u32) (iC_pure _) (out_4.set x_6.toNat (wrapF .u32 ((wrapF .u32 ((gt a x_6) + 1000000000)) - (wrapF .u32 (v17 + borrow_5))))) trivial)).to))
   ·obtain ⟨hg22, hr⟩ := gd hr
    refine .r0 G (.mu 4 (.p0 (v := .pp (a.flatMap (iC .u32)) (x_6.toNat * 1)) (tr (ofP_guard hg19)) (.p0 (v := aU32 (gt a x_6)) (tr (ofP_some (flat_get (iC_len .u32) (inR_lt hg19) (by decide : 0 < 1) (by omega : x_6.toNat * 1 = x_6.toNat * 1 + 0) (by kernel_rfl)))) (.mu 2 (.p0 (v := .hp 0 (0 + x_6.toNat * 1)) (tr (ofP_guard hg22)) (.e0 (v := .unk) (ws := [(0, .own ((out_4.set x_6.toNat (wrapF .u32 ((gt a x_6) - (wrapF .u32 (v17 + borrow_5))))).flatMap (iC .u32)))]) (tr (stO_t (and_t (flat_fits (n := 1) (iC_len .u32) (inR_lt hg22) (Nat.le_of_ble_eq_true rfl) (by omega : 0 + x_6.toNat * 1 = x_6.toNat * 1 + 0))) (congrArg Blk.own (flat_set (xs := [aU32 (wrapF .u32 ((gt a x_6) - (wrapF .u32 (v17 + borrow_5))))]) (iC_len .u32) (inR_lt hg22) (Nat.le_of_ble_eq_true rfl) (by omega : 0 + x_6.toNat * 1 = x_6.toNat * 1 + 0) (by kernel_rfl))))) (.done (.pop (.ru G ?_)))))))))
    exact loopF_back (out_4.set x_6.toNat (wrapF .u32 ((gt a x_6) - (wrapF .u32 (v17 + borrow_5)))), 0, wrapF .i64 (x_6 + 1)) hr ((Wk.relen 5 (b := 0) (es := 1) (len := out_4.length) (out_4.set x_6.toNat (wrapF .u32 ((gt a x_6) - (wrapF .u32 (v17 + borrow_5))))).length (by kernel_rfl) (Eq.symm (List.length_set.trans rfl))).trans ((Wk.gc [0, 1, 5, 6, 13, 14] [(0, false)] rfl (pKo (iC .u32) (iC_pure _) (out_4.set x_6.toNat (wrapF .u32 ((gt a x_6) - (wrapF .u32 (v17 + borrow_5))))) trivial)).to))
  ·refine .leave rfl ?_
   obtain rfl := oi hr
   exact ⟨rfl, ((Wk.gc [5] [(0, false)] rfl (pKo (iC .u32) (iC_pure _) out_4 trivial)).to)⟩
 ·rintro x st' hq25
  clear hL24
  obtain ⟨rfl, hq25⟩ := hq25
  refine CQ_exit _ rfl (.wk hq25 (.seq ?_))
  obtain ⟨v26, hc27, hr⟩ := bd hr
  refine .g1 G (callOk_ref (args := [.hs 0 0 out_14.length 1]) (l := [0]) (SnL.cons (Sn.hs rfl (.inl rfl) (SnC.pure (ids_flat (iC_pure _) _)) (fun h => flat_nil0 h)) SnL.nil) (integer_trim_ok n out_14 v26 hc27)) (.mu 1 (.ca cf0 (.mu 1 (.done (.ret ?_)))))
  obtain rfl := oi hr
  exact FinQ.r1 [sU32 v26]

theorem integer_Divide_ok (n : Nat) (x' : api_Int) (y : api_Int) (r : api_Int × api_Int × Int) (hr : integer_Divide n x' y = some r) : FnOk Tryz.prog 112 [.agg (api_Int.c x'), .agg (api_Int.c y)] (.tup [.agg (api_Int.c r.1), .agg (api_Int.c r.2.1), aI64 r.2.2]) := by
 unfold integer_Divide at hr
 refine FnOk.bd G Tryz.func112 [.cell 4 50, .cell 5 50, .tmp 6] ?_
 unfold Tryz.f112
 simp only [Option.getD_some]
 refine .seq (.r2 G 55 [(2, .hp 0 0), (3, .hp 1 0), (4, .hp 2 0), (5, .hp 3 0)] [.own (api_Int.c x'), .own (api_Int.c y), .own [aB false, nS], .own [aB false, nS]] (.seq ?_))
 obtain ⟨v1, hc2, v3, hc4, hr⟩ := bd2 hr
 refine .tn G (ca1 (ok0 (integer_groups_ok n x' v1 hc2)) (ca3 (ok0 (integer_groups_ok n y v3 hc4)))) (.mu 1 (.ca cf0 (.mu 1 (.ca (cfA (fun h => by rw [sv hc4 hc2 (integer_groups_cg n h)]) cf0) (.mu 2 ?_)))))
 refine .done ⟨by kernel_rfl, ?_⟩
 refine .nh [2, 3, 4, 5, 7, 8] [.own (api_Int.c x'), .own (api_Int.c y), .own [aB false, nS], .own [aB false, nS]] (.seq (.seq (.r4 G [2, 3, 4, 5, 7, 8] [(17, aB (((v3.length : Int) : Int) == 0))] ?_)))
 refine .cd hr (fun hb5 hr => ?_) (fun hb5 hr => ?_)
 ·refine .seq (.r4 G [4, 5] [(6, aI64 14)] (.ret ?_))
  obtain rfl := oi hr
  exact FinQ.ret (vs := [.agg [aB false, nS], .agg [aB false, nS], aI64 14]) (by kernel_rfl) (Sn.tup (SnL.cons (Sn.agg (SnL.cons (Sn.pure rfl) (SnL.cons Sn.nilsl SnL.nil))) (SnL.cons (Sn.agg (SnL.cons (Sn.pure rfl) (SnL.cons Sn.nilsl SnL.nil))) (SnL.cons (Sn.pure rfl) SnL.nil))))
 ·refine .skip (.seq ?_)
  obtain ⟨v6, hc7, hr⟩ := bd hr
  refine .g1 G (ok0 (integer_over_ok n v1 v3 v6 hc7)) (.mu 2 (.ca cf0 (.mu 5 (.done (.nh [2, 3, 4, 5, 8, 9, 10] [.own (api_Int.c x'), .own (api_Int.c y), .own [aB false, nS], .own [aB false, nS]] (.seq ?_))))))
  obtain ⟨v8, hc9, hr⟩ := bd hr
  refine .g1 G (ok0 (slices_Clone_uint32_uint32_ok n v6.2 v8 hc9)) (.mu 1 (.ca cf0 (.mu 1 (.done (.nh [2, 3, 4, 5, 8, 9, 10] [.own (api_Int.c x'), .own (api_Int.c y), .own [aB false, nS], .own [aB false, nS]] (.seq (.seq ?_)))))))
  rcases Bool.eq_false_or_eq_true (decide ((v8.length : Int) > 0)) with hb10 | hb10
  ·replace hr := cd_t hb10 hr
   refine .r0 G (.mu 2 (.p0 (v := aB true) (eB hb10) (.mu 7 (.done (.nh [2, 3, 4, 5, 8, 9, 10, 37] [.own (api_Int.c x'), .own (api_Int.c y), .own [aB false, nS], .own [aB false, nS]] ?_)))))
   refine .cd hr (fun hb11 hr => ?_) (fun hb11 hr => ?_)
   ·obtain ⟨v12, hc13, v14, hc15, hr⟩ := bd2 hr
    refine .gn G (ca2 [.own (api_Int.c x'), .own (api_Int.c y), .own [aB false, nS], .own [aB false, nS], .own [aU32 1]] (callOk_ref (args := [sU32 v6.1, .hs 4 0 1 1]) (l := [4]) (SnL.cons (Sn.pure rfl) (SnL.cons (Sn.hs rfl (.inl rfl) (SnC.cons (Sn.pure rfl) SnC.nil) (fun h => nomatch h)) SnL.nil)) (integer_plus_ok n v6.1 [(1 : Int)] v12 hc13)) (ca4 [.own (api_Int.c x'), .own (api_Int.c y), .own [aB false, nS], .own [aB false, nS], .fix [aU32 1]] (ok0 (integer_minus_ok n v3 v8 v14 hc15)))) (.mu 2 (.ca cf0 (.mu 2 (.ca (cfF cf0) (.mu 2 (.done (.nh [2, 3, 4, 5, 9, 10] [.own (api_Int.c x'), .own (api_Int.c y), .own [aB false, nS], .own [aB false, nS], .fix [aU32 1]] (.seq ?_))))))))
    obtain ⟨v16, hc17, v18, hc19, hr⟩ := bd2 hr
    refine .tn G (ca1 (ok0 (integer_made_ok n true v12 v16 hc17)) (ca3 (ok0 (integer_made_ok n y.Negative v14 v18 hc19)))) (.mu 4 (.pure (v := aB true) (by kernel_rfl) (eB hb11) (by kernel_rfl) (.mu 1 (.ca cf0 (.mu 3 (.ca (cfA (fun h => by rw [sv hc19 hc17 (integer_made_cg n h)]) cf0) (.mu 3 ?_)))))))
    refine .done ⟨by kernel_rfl, ?_⟩
    refine .nh [4, 5, 6] [.own (api_Int.c x'), .own (api_Int.c y), .own (api_Int.c v16), .own (api_Int.c v18), .fix [aU32 1]] (.ret ?_)
    obtain rfl := oi hr
    exact FinQ.ret (vs := [.agg (api_Int.c v16), .agg (api_Int.c v18), aI64 0]) (by kernel_rfl) (Sn.tup (SnL.cons (Sn.pure rfl) (SnL.cons (Sn.pure rfl) (SnL.cons (Sn.pure rfl) SnL.nil))))
   ·refine .skip (.seq ?_)
    obtain ⟨v20, hc21, v22, hc23, hr⟩ := bd2 hr
    refine .tn G (ca1 (ok0 (integer_made_ok n false v6.1 v20 hc21)) (ca3 (ok0 (integer_made_ok n y.Negative v8 v22 hc23)))) (.mu 4 (.pure (v := aB false) (by kernel_rfl) (eB hb11) (by kernel_rfl) (.mu 1 (.ca cf0 (.mu 3 (.ca (cfA (fun h => by rw [sv hc23 hc21 (integer_made_cg n h)]) cf0) (.mu 3 ?_)))))))
    refine .done ⟨by kernel_rfl, ?_⟩
    refine .nh [4, 5, 6] [.own (api_Int.c x'), .own (api_Int.c y), .own (api_Int.c v20), .own (api_Int.c v22)] (.ret ?_)
    obtain rfl := oi hr
    exact FinQ.ret (vs := [.agg (api_Int.c v20), .agg (api_Int.c v22), aI64 0]) (by kernel_rfl) (Sn.tup (SnL.cons (Sn.pure rfl) (SnL.cons (Sn.pure rfl) (SnL.cons (Sn.pure rfl) SnL.nil))))
  ·replace hr := cd_f hb10 hr
   refine .r0 G (.mu 2 (.p0 (v := aB false) (eB hb10) (.mu 7 (.done (.nh [2, 3, 4, 5, 8, 9, 10, 37] [.own (api_Int.c x'), .own (api_Int.c y), .own [aB false, nS], .own [aB false, nS]] (.cF (by kernel_rfl) (.skip (.seq ?_))))))))
   obtain ⟨v24, hc25, v26, hc27, hr⟩ := bd2 hr
   refine .tn G (ca1 (ok0 (integer_made_ok n (x'.Negative != y.Negative) v6.1 v24 hc25)) (ca3 (ok0 (integer_made_ok n y.Negative v8 v26 hc27)))) (.mu 6 (.ca cf0 (.mu 3 (.ca (cfA (fun h => by rw [sv hc27 hc25 (integer_made_cg n h)]) cf0) (.mu 3 ?_)))))
   refine .done ⟨by kernel_rfl, ?_⟩
   refine .nh [4, 5, 6] [.own (api_Int.c x'), .own (api_Int.c y), .own (api_Int.c v24), .own (api_Int.c v26)] (.ret ?_)
   obtain rfl := oi hr
   exact FinQ.ret (vs := [.agg (api_Int.c v24), .agg (api_Int.c v26), aI64 0]) (by kernel_rfl) (Sn.tup (SnL.cons (Sn.pure rfl) (SnL.cons (Sn.pure rfl) (SnL.cons (Sn.pure rfl) SnL.nil))))

theorem fraction_reduced_ok (n : Nat) (num : api_Int) (den : api_Int) (r : api_Rat) (hr : fraction_reduced n num den = some r) : FnOk Tryz.prog 92 [.agg (api_Int.c num), .agg (api_Int.c den)] (.agg (api_Rat.c r)) := by
 unfold fraction_reduced at hr
 refine FnOk.bd G Tryz.func92 [.cell 4 52] ?_
 unfold Tryz.f92
 simp only [Option.getD_some]
 refine .seq (.r2 G 33 [(2, .hp 0 0), (3, .hp 1 0), (4, .hp 2 0)] [.own (api_Int.c num), .own (api_Int.c den), .own [aB false, nS, aB false, nS]] (.seq (.seq ?_)))
 obtain ⟨v1, hc2, hr⟩ := bd hr
 refine .g1 G (ok0 (integer_Sign_ok n den v1 hc2)) (.mu 1 (.ca cf0 (.mu 1 (.done (.nh [2, 3, 4, 8] [.own (api_Int.c num), .own (api_Int.c den), .own [aB false, nS, aB false, nS]] ?_)))))
 refine .cd hr (fun hb3 hr => ?_) (fun hb3 hr => ?_)
 ·obtain ⟨v4, hc5, v6, hc7, hr⟩ := bd2 hr
  refine .tn G (ca1 (ok0 (integer_Neg_ok n num v4 hc5)) (ca3 (ok0 (integer_Neg_ok n den v6 hc7)))) (.mu 1 (.ca cf0 (.mu 1 (.ca (cfA (fun h => by rw [sv hc7 hc5 (integer_Neg_cg n h)]) cf0) (.mu 2 ?_)))))
  refine .done ⟨by kernel_rfl, ?_⟩
  refine .nh [2, 3, 4] [.own (api_Int.c v4), .own (api_Int.c v6), .own [aB false, nS, aB false, nS]] (.seq ?_)
  obtain ⟨v8, hc9, hr⟩ := bd hr
  refine .g1 G (ok0 (integer_Gcd_ok n v4 v6 v8 hc9)) (.mu 2 (.ca cf0 (.mu 2 (.done (.nh [2, 3, 4, 5] [.own (api_Int.c v4), .own (api_Int.c v6), .own [aB false, nS, aB false, nS], .own (api_Int.c v8)] (.seq ?_))))))
  obtain ⟨v10, hc11, hr⟩ := bd hr
  refine .g1 G (ok0 (integer_Divide_ok n v4 v8 v10 hc11)) (.mu 2 (.ca cf0 (.mu 5 (.done (.nh [2, 3, 4, 5] [.own (api_Int.c v10.1), .own (api_Int.c v6), .own [aB false, nS, aB false, nS], .own (api_Int.c v8)] (.seq ?_))))))
  obtain ⟨v12, hc13, hr⟩ := bd hr
  refine .g1 G (ok0 (integer_Divide_ok n v6 v8 v12 hc13)) (.mu 2 (.ca cf0 (.mu 5 (.done (.nh [2, 3, 4] [.own (api_Int.c v10.1), .own (api_Int.c v12.1), .own [aB false, nS, aB false, nS], .own (api_Int.c v8)] (.seq (.r5 G [4] [] [.own (api_Int.c v10.1), .own (api_Int.c v12.1), .own [aB v10.1.Negative, sU32 v10.1.Groups, aB v12.1.Negative, sU32 v12.1.Groups], .own (api_Int.c v8)] (.ret ?_))))))))
  obtain rfl := oi hr
  exact FinQ.r1 [.agg [aB v10.1.Negative, sU32 v10.1.Groups, aB v12.1.Negative, sU32 v12.1.Groups]]
 ·refine .skip (.seq ?_)
  obtain ⟨v14, hc15, hr⟩ := bd hr
  refine .g1 G (ok0 (integer_Gcd_ok n num den v14 hc15)) (.mu 2 (.ca cf0 (.mu 2 (.done (.nh [2, 3, 4, 5] [.own (api_Int.c num), .own (api_Int.c den), .own [aB false, nS, aB false, nS], .own (api_Int.c v14)] (.seq ?_))))))
  obtain ⟨v16, hc17, hr⟩ := bd hr
  refine .g1 G (ok0 (integer_Divide_ok n num v14 v16 hc17)) (.mu 2 (.ca cf0 (.mu 5 (.done (.nh [2, 3, 4, 5] [.own (api_Int.c v16.1), .own (api_Int.c den), .own [aB false, nS, aB false, nS], .own (api_Int.c v14)] (.seq ?_))))))
  obtain ⟨v18, hc19, hr⟩ := bd hr
  refine .g1 G (ok0 (integer_Divide_ok n den v14 v18 hc19)) (.mu 2 (.ca cf0 (.mu 5 (.done (.nh [2, 3, 4] [.own (api_Int.c v16.1), .own (api_Int.c v18.1), .own [aB false, nS, aB false, nS], .own (api_Int.c v14)] (.seq (.r5 G [4] [] [.own (api_Int.c v16.1), .own (api_Int.c v18.1), .own [aB v16.1.Negative, sU32 v16.1.Groups, aB v18.1.Negative, sU32 v18.1.Groups], .own (api_Int.c v14)] (.ret ?_))))))))
  obtain rfl := oi hr
  exact FinQ.r1 [.agg [aB v16.1.Negative, sU32 v16.1.Groups, aB v18.1.Negative, sU32 v18.1.Groups]]

theorem fraction_New_ok (n : Nat) (num : api_Int) (den : api_Int) (r : api_Rat × Int) (hr : fraction_New n num den = some r) : FnOk Tryz.prog 74 [.agg (api_Int.c num), .agg (api_Int.c den)] (.tup [.agg (api_Rat.c r.1), aI64 r.2]) := by
 unfold fraction_New at hr
 refine FnOk.bd G Tryz.func74 [.cell 4 52, .tmp 5] ?_
 unfold Tryz.f74
 simp only [Option.getD_some]
 refine .seq (.r2 G 17 [(2, .hp 0 0), (3, .hp 1 0), (4, .hp 2 0)] [.own (api_Int.c num), .own (api_Int.c den), .own [aB false, nS, aB false, nS]] (.seq ?_))
 obtain ⟨v1, hc2, v3, hc4, hr⟩ := bd2 hr
 refine .tn G (ca1 (ok0 (fraction_counted_ok n num v1 hc2)) (ca3 (ok0 (fraction_counted_ok n den v3 hc4)))) (.mu 1 (.ca cf0 (.mu 1 (.ca (cfA (fun h => by rw [sv hc4 hc2 (fraction_counted_cg n h)]) cf0) (.mu 2 ?_)))))
 refine .done ⟨by kernel_rfl, ?_⟩
 refine .nh [2, 3, 4] [.own (api_Int.c v1), .own (api_Int.c v3), .own [aB false, nS, aB false, nS]] (.seq (.seq ?_))
 obtain ⟨v5, hc6, hr⟩ := bd hr
 refine .g1 G (ok0 (integer_Sign_ok n v3 v5 hc6)) (.mu 1 (.ca cf0 (.mu 1 (.done (.nh [2, 3, 4, 12] [.own (api_Int.c v1), .own (api_Int.c v3), .own [aB false, nS, aB false, nS]] ?_)))))
 refine .cd hr (fun hb7 hr => ?_) (fun hb7 hr => ?_)
 ·refine .seq (.r4 G [4] [(5, aI64 14)] (.ret ?_))
  obtain rfl := oi hr
  exact FinQ.ret (vs := [.agg [aB false, nS, aB false, nS], aI64 14]) (by kernel_rfl) (Sn.tup (SnL.cons (Sn.agg (SnL.cons (Sn.pure rfl) (SnL.cons Sn.nilsl (SnL.cons (Sn.pure rfl) (SnL.cons Sn.nilsl SnL.nil))))) (SnL.cons (Sn.pure rfl) SnL.nil)))
 ·refine .skip (.seq ?_)
  obtain ⟨v8, hc9, hr⟩ := bd hr
  refine .g1 G (ok0 (fraction_reduced_ok n v1 v3 v8 hc9)) (.mu 2 (.ca cf0 (.mu 2 (.done (.nh [4, 5] [.own (api_Int.c v1), .own (api_Int.c v3), .own (api_Rat.c v8)] (.ret ?_))))))
  obtain rfl := oi hr
  exact FinQ.ret (vs := [.agg (api_Rat.c v8), aI64 0]) (by kernel_rfl) (Sn.tup (SnL.cons (Sn.pure rfl) (SnL.cons (Sn.pure rfl) SnL.nil)))

theorem fraction_Of_ok (n : Nat) (n' : Int) (d : Int) (r : api_Rat × Int) (hr : fraction_Of n n' d = some r) : FnOk Tryz.prog 57 [aI64 n', aI64 d] (.tup [.agg (api_Rat.c r.1), aI64 r.2]) := by
 unfold fraction_Of at hr
 refine FnOk.bd G Tryz.func57 [.cell 4 52, .tmp 5] ?_
 unfold Tryz.f57
 simp only [Option.getD_some]
 refine .seq (.r5 G [0, 1] [(4, .hp 0 0)] [.own [aB false, nS, aB false, nS]] (.seq ?_))
 obtain ⟨v1, hc2, v3, hc4, v5, hc6, hr⟩ := bd3 hr
 refine .gn G (ca1 (ok0 (integer_Of_ok n n' v1 hc2)) (ca1 (ok0 (integer_Of_ok n d v3 hc4)) (ca3 (ok0 (fraction_New_ok n v1 v3 v5 hc6))))) (.mu 1 (.ca cf0 (.mu 1 (.ca (cfA (fun h => by rw [sv hc4 hc2 (integer_Of_cg n h)]) cf0) (.ca (cfF (cfF cf0)) (.mu 4 (.done (.nh [4, 5] [.own (api_Rat.c v5.1)] (.ret ?_)))))))))
 obtain rfl := oi hr
 exact FinQ.ret (vs := [.agg (api_Rat.c v5.1), aI64 v5.2]) (by kernel_rfl) (Sn.tup (SnL.cons (Sn.pure rfl) (SnL.cons (Sn.pure rfl) SnL.nil)))

theorem plan_cover_ok (n : Nat) (s : api_Survey) (f : api_Flight) (ground : Int) (r : Int × api_Place) (hr : plan_cover n s f ground = some r) : FnOk Tryz.prog 37 [.agg (api_Survey.c s), .agg (api_Flight.c f), aI64 ground] (.tup [aI64 r.1, .agg (api_Place.c r.2)]) := by
 unfold plan_cover at hr
 refine FnOk.bd G Tryz.func37 [.tmp 6, .cell 7 54] ?_
 unfold Tryz.f37
 simp only [Option.getD_some]
 refine .seq (.r5 G [2] [(3, .hp 0 0), (4, .hp 1 0), (7, .hp 2 0)] [.own (api_Survey.c s), .own (api_Flight.c f), .own [aB false, nS, aB false, nS, aB false, nS, aB false, nS]] (.seq (.r4 G [2, 3, 4, 7] [(8, nS), (9, nS)] (.seq (.seq ?_)))))
 obtain ⟨v1, hc2, hr⟩ := bd hr
 refine .g1 G (ok0 (slices_Concat_fiducial_api_Pix_fiducial_api_Pix_ok n f.Strips v1 hc2)) (.mu 2 (.ca cf0 (.mu 2 (.done (.nh [2, 3, 4, 7, 8, 9, 28, 29, 30] [.own (api_Survey.c s), .own (api_Flight.c f), .own [aB false, nS, aB false, nS, aB false, nS, aB false, nS]] (.block ?_))))))
 replace hr := bd hr; obtain ⟨o46, hL47, hr⟩ := hr
 refine .loopO (σ := fun z0 => match z0 with | (xs_26, ys_27, x_28) => ⟨mkS 128 0 [(2, aI64 ground), (3, .hp 0 0), (4, .hp 1 0), (7, .hp 2 0), (8, .hs 3 0 xs_26.length 1), (9, .hs 4 0 ys_27.length 1), (28, slT api_Pix.c v1), (29, aI64 (v1.length : Int)), (30, aI64 x_28)], [.own (api_Survey.c s), .own (api_Flight.c f), .own [aB false, nS, aB false, nS, aB false, nS, aB false, nS], .own (xs_26.flatMap (iC .i64)), .own (ys_27.flatMap (iC .i64))]⟩) (Q := fun x st' => match (generalizing := false) o46 with | (xs_36, ys_37) => x = .exit 0 ∧ Wk 0 st' ⟨mkS 128 0 [(2, aI64 ground), (3, .hp 0 0), (4, .hp 1 0), (7, .hp 2 0), (8, .hs 3 0 xs_36.length 1), (9, .hs 4 0 ys_37.length 1)], [.own (api_Survey.c s), .own (api_Flight.c f), .own [aB false, nS, aB false, nS, aB false, nS, aB false, nS], .own (xs_36.flatMap (iC .i64)), .own (ys_37.flatMap (iC .i64))]⟩) hL47 ((Wk.nil 8 1 (by kernel_rfl)).trans ((Wk.nil 9 1 (by kernel_rfl)).trans ((Wk.gc [2, 3, 4, 7, 8, 9, 28, 29, 30] [(0, true), (1, true), (2, true), (3, false), (4, false)] rfl (pKt (pKt (pKt (pKc (pKc trivial)))))).to))) ?_ ?_
 ·clear hr
  rintro m ⟨xs_26, ys_27, x_28⟩ hr
  show CQ _ _ _ _ _ ⟨_, _⟩
  refine .seq (.r4 G [2, 3, 4, 7, 8, 9, 28, 29, 30] [(31, aB (decide (x_28 < (v1.length : Int))))] (.seq ?_))
  refine .cd hr (fun hb40 hr => ?_) (fun hb40 hr => ?_)
  ·refine .skip (.seq (.block (.seq ?_)))
   obtain ⟨hg41, hr⟩ := gd hr
   refine .r0 G (.p0 (v := .pp (v1.flatMap api_Pix.c) (x_28.toNat * 2)) (tr (ofP_guard hg41)) (.p0 (v := .agg (api_Pix.c (gt v1 x_28))) (Eq.trans (b := ORes.ofP (guardV (decide (2 ≤ ((v1.flatMap api_Pix.c).drop (x_28.toNat * 2)).length)) (.agg (((v1.flatMap api_Pix.c).drop (x_28.toNat * 2)).take 2)))) (by kernel_rfl) (flat_load api_Pix.len (inR_lt hg41) (by decide) (by omega : x_28.toNat * 2 = x_28.toNat * 2 + 0) (by kernel_rfl))) (.mu 2 (.done (.nh [2, 3, 4, 7, 8, 9, 11, 28, 29, 30] [.own (api_Survey.c s), .own (api_Flight.c f), .own [aB false, nS, aB false, nS, aB false, nS, aB false, nS], .own (xs_26.flatMap (iC .i64)), .own (ys_27.flatMap (iC .i64)), .own (api_Pix.c (gt v1 x_28))] ?_)))))
   obtain ⟨hg42, hg43, hg44, hr⟩ := gd3 hr
   obtain ⟨hg45, hr⟩ := gd hr
   refine .regionT G callOf_nil (.mu 4 (.eff (v := .hs 7 0 (xs_26 ++ [(gt v1 x_28).X]).length 1) (ws := [(3, .dead), (7, .own ((xs_26 ++ [(gt v1 x_28).X]).flatMap (iC .i64)))]) (by kernel_rfl) (tr (app_own (new := [aI64 (gt v1 x_28).X]) (l := xs_26) (xs := [(gt v1 x_28).X]) (iC_len .i64) rfl rfl (by kernel_rfl) hg42 hg43)) (by kernel_rfl) (.mu 4 (.eff (v := .hs 9 0 (ys_27 ++ [(gt v1 x_28).Y]).length 1) (ws := [(4, .dead), (9, .own ((ys_27 ++ [(gt v1 x_28).Y]).flatMap (iC .i64)))]) (by kernel_rfl) (tr (app_own (new := [aI64 (gt v1 x_28).Y]) (l := ys_27) (xs := [(gt v1 x_28).Y]) (iC_len .i64) rfl rfl (by kernel_rfl) hg44 hg45)) (by kernel_rfl) (.mu 2 ?_)))))
   refine .done ⟨by kernel_rfl, ?_⟩
   refine .pop (.ru G ?_)
   exact loopF_back (xs_26 ++ [(gt v1 x_28).X], ys_27 ++ [(gt v1 x_28).Y], wrapF .i64 (x_28 + 1)) hr ((Wk.gc [2, 3, 4, 7, 8, 9, 28, 29, 30] [(0, true), (1, true), (2, true), (7, false), (9, false)] rfl (pKt (pKt (pKt (pKo (iC .i64) (iC_pure _) (xs_26 ++ [(gt v1 x_28).X]) (pKo (iC .i64) (iC_pure _) (ys_27 ++ [(gt v1 x_28).Y]) trivial)))))).to)
  ·refine .leave rfl ?_
   obtain rfl := oi hr
   exact ⟨rfl, ((Wk.gc [2, 3, 4, 7, 8, 9] [(0, true), (1, true), (2, true), (3, false), (4, false)] rfl (pKt (pKt (pKt (pKo (iC .i64) (iC_pure _) xs_26 (pKo (iC .i64) (iC_pure _) ys_27 trivial)))))).to)⟩
 ·rcases o46 with ⟨xs_36, ys_37⟩
  rintro x st' hq48
  clear hL47
  obtain ⟨rfl, hq48⟩ := hq48
  refine CQ_exit _ rfl (.wk hq48 (.seq ?_))
  obtain ⟨v49, hc50, hr⟩ := bd hr
  refine .g1 G (callOk_ref (args := [aI64 s.Width, aI64 s.Focal, aI64 (wrapF .i64 (s.Along * (wrapF .i64 (f.Height - ground)))), .hs 3 0 xs_36.length 1]) (l := [3]) (SnL.cons (Sn.pure rfl) (SnL.cons (Sn.pure rfl) (SnL.cons (Sn.pure rfl) (SnL.cons (Sn.hs rfl (.inl rfl) (SnC.pure (ids_flat (iC_pure _) _)) (fun h => flat_nil0 h)) SnL.nil)))) (plan_axis_ok n s.Width s.Focal (wrapF .i64 (s.Along * (wrapF .i64 (f.Height - ground)))) xs_36 v49 hc50)) (.mu 12 (.ca cf0 (.mu 5 (.done (.nh [2, 3, 4, 7, 9, 12, 13] [.own (api_Survey.c s), .own (api_Flight.c f), .own [aB false, nS, aB false, nS, aB false, nS, aB false, nS], .fix (xs_36.flatMap (iC .i64)), .own (ys_37.flatMap (iC .i64))] (.seq ?_))))))
  obtain ⟨v51, hc52, hr⟩ := bd hr
  refine .g1 G (callOk_ref (args := [aI64 s.Height, aI64 s.Focal, aI64 (wrapF .i64 (s.Across * (wrapF .i64 (f.Height - ground)))), .hs 4 0 ys_37.length 1]) (l := [4]) (SnL.cons (Sn.pure rfl) (SnL.cons (Sn.pure rfl) (SnL.cons (Sn.pure rfl) (SnL.cons (Sn.hs rfl (.inl rfl) (SnC.pure (ids_flat (iC_pure _) _)) (fun h => flat_nil0 h)) SnL.nil)))) (plan_axis_ok n s.Height s.Focal (wrapF .i64 (s.Across * (wrapF .i64 (f.Height - ground)))) ys_37 v51 hc52)) (.mu 12 (.ca cf0 (.mu 5 (.done (.nh [3, 7, 12, 13, 14, 15] [.own (api_Survey.c s), .own (api_Flight.c f), .own [aB false, nS, aB false, nS, aB false, nS, aB false, nS], .fix (xs_36.flatMap (iC .i64)), .fix (ys_37.flatMap (iC .i64))] (.seq (.r4 G [3, 7, 12, 13, 14, 15] [(16, aI64 257), (17, aI64 0), (18, aI64 0)] (.seq (.seq (.r4 G [3, 7, 12, 13, 14, 15, 16, 17, 18] [(78, aI64 (v49.1.length : Int)), (79, aI64 0)] (.block ?_)))))))))))
  replace hr := bd hr; obtain ⟨o196, hL197, hr⟩ := hr
  refine .loopO (σ := fun z0 => match z0 with | (least_126, x_127, y_128, x_129) => ⟨mkS 128 0 [(3, .hp 0 0), (7, .hp 1 0), (12, sI64 v49.1), (13, slT A4_plan_set.c v49.2), (14, sI64 v51.1), (15, slT A4_plan_set.c v51.2), (16, aI64 least_126), (17, aI64 x_127), (18, aI64 y_128), (78, aI64 (v49.1.length : Int)), (79, aI64 x_129)], [.own (api_Survey.c s), .own [aB false, nS, aB false, nS, aB false, nS, aB false, nS]]⟩) (Q := fun x st' => match (generalizing := false) o196 with | (least_161, x_162, y_163) => x = .exit 2 ∧ Wk 0 st' ⟨mkS 128 0 [(3, .hp 0 0), (7, .hp 1 0), (16, aI64 least_161), (17, aI64 x_162), (18, aI64 y_163)], [.own (api_Survey.c s), .own [aB false, nS, aB false, nS, aB false, nS, aB false, nS]]⟩) hL197 ((Wk.gc [3, 7, 12, 13, 14, 15, 16, 17, 18, 78, 79] [(0, true), (2, true)] rfl trivial).to) ?_ ?_
  ·clear hr
   rintro m ⟨least_126, x_127, y_128, x_129⟩ hr
   show CQ _ _ _ _ _ ⟨_, _⟩
   refine .seq (.r4 G [3, 7, 12, 13, 14, 15, 16, 17, 18, 78, 79] [(80, aB (decide (x_129 < (v49.1.length : Int))))] (.seq ?_))
   refine .cd hr (fun hb166 hr => ?_) (fun hb166 hr => ?_)
   ·refine .skip (.seq (.block (.seq (.r4 G [3, 7, 12, 13, 14, 15, 16, 17, 18, 78, 79] [(19, aI64 x_129)] (.seq (.r4 G [3, 7, 12, 13, 14, 15, 16, 17, 18, 19, 78, 79] [(83, aI64 (v51.1.length : Int)), (84, aI64 0)] (.block ?_)))))))
    replace hr := bd hr; obtain ⟨o193, hL194, hr⟩ := hr
    refine .loopO (σ := fun z0 => match z0 with | (least_167, x_168, y_169, x_170) => ⟨mkS 128 0 [(3, .hp 0 0), (7, .hp 1 0), (12, sI64 v49.1), (13, slT A4_plan_set.c v49.2), (14, sI64 v51.1), (15, slT A4_plan_set.c v51.2), (16, aI64 least_167), (17, aI64 x_168), (18, aI64 y_169), (19, aI64 x_129), (78, aI64 (v49.1.length : Int)), (79, aI64 x_129), (83, aI64 (v51.1.length : Int)), (84, aI64 x_170)], [.own (api_Survey.c s), .own [aB false, nS, aB false, nS, aB false, nS, aB false, nS]]⟩) (Q := fun x st' => match (generalizing := false) o193 with | (least_180, x_181, y_182) => x = .exit 4 ∧ Wk 0 st' ⟨mkS 128 0 [(3, .hp 0 0), (7, .hp 1 0), (12, sI64 v49.1), (13, slT A4_plan_set.c v49.2), (14, sI64 v51.1), (15, slT A4_plan_set.c v51.2), (16, aI64 least_180), (17, aI64 x_181), (18, aI64 y_182), (78, aI64 (v49.1.length : Int)), (79, aI64 x_129)], [.own (api_Survey.c s), .own [aB false, nS, aB false, nS, aB false, nS, aB false, nS]]⟩) hL194 ((Wk.gc [3, 7, 12, 13, 14, 15, 16, 17, 18, 19, 78, 79, 83, 84] [(0, true), (1, true)] rfl trivial).to) ?_ ?_
    ·clear hr
     rintro m ⟨least_167, x_168, y_169, x_170⟩ hr
     show CQ _ _ _ _ _ ⟨_, _⟩
     refine .seq (.r4 G [3, 7, 12, 13, 14, 15, 16, 17, 18, 19, 78, 79, 83, 84] [(85, aB (decide (x_170 < (v51.1.length : Int))))] (.seq ?_))
     refine .cd hr (fun hb185 hr => ?_) (fun hb185 hr => ?_)
     ·refine .skip (.seq (.block (.seq (.r4 G [3, 7, 12, 13, 14, 15, 16, 17, 18, 19, 78, 79, 83, 84] [(20, aI64 x_170)] (.seq ?_)))))
      obtain ⟨hg186, hg187, hr⟩ := gd2 hr
      obtain ⟨v188, hc189, hr⟩ := bd hr
      refine .t1 G (callOk_val (args := [.pp (v49.2.flatMap A4_plan_set.c) (x_129.toNat * 4), .pp (v51.2.flatMap A4_plan_set.c) (x_170.toNat * 4)]) (l := []) rfl (SnL.cons (Sn.ppE A4_plan_set.len hg186 rfl) (SnL.cons (Sn.ppE A4_plan_set.len hg187 rfl) SnL.nil)) (plan_shared_ok n (gt v49.2 x_129) (gt v51.2 x_170) v188 hc189)) (.mu 2 (.pure (v := .pp (v49.2.flatMap A4_plan_set.c) (x_129.toNat * 4)) (by kernel_rfl) (tr (ofP_guard hg186)) (by kernel_rfl) (.mu 2 (.pure (v := .pp (v51.2.flatMap A4_plan_set.c) (x_170.toNat * 4)) (by kernel_rfl) (tr (ofP_guard hg187)) (by kernel_rfl) (.ca cf0 (.mu 1 ?_))))))
      refine .done ⟨by kernel_rfl, ?_⟩
      refine .nh [3, 7, 12, 13, 14, 15, 16, 17, 18, 19, 20, 21, 78, 79, 83, 84] [.own (api_Survey.c s), .own [aB false, nS, aB false, nS, aB false, nS, aB false, nS]] (.seq (.r4 G [3, 7, 12, 13, 14, 15, 16, 17, 18, 19, 20, 21, 78, 79, 83, 84] [(96, aB (decide (v188 < least_167)))] ?_))
      refine .cd hr (fun hb190 hr => ?_) (fun hb190 hr => ?_)
      ·obtain ⟨hg191, hg192, hr⟩ := gd2 hr
       refine .regionT G callOf_nil (.mu 3 (.pure (v := .pp (v49.1.flatMap (iC .i64)) (x_129.toNat * 1)) (by kernel_rfl) (tr (ofP_guard hg191)) (by kernel_rfl) (.pure (v := aI64 (gt v49.1 x_129)) (by kernel_rfl) (tr (ofP_some (flat_get (iC_len .i64) (inR_lt hg191) (by decide : 0 < 1) (by omega : x_129.toNat * 1 = x_129.toNat * 1 + 0) (by kernel_rfl)))) (by kernel_rfl) (.mu 2 (.pure (v := .pp (v51.1.flatMap (iC .i64)) (x_170.toNat * 1)) (by kernel_rfl) (tr (ofP_guard hg192)) (by kernel_rfl) (.pure (v := aI64 (gt v51.1 x_170)) (by kernel_rfl) (tr (ofP_some (flat_get (iC_len .i64) (inR_lt hg192) (by decide : 0 < 1) (by omega : x_170.toNat * 1 = x_170.toNat * 1 + 0) (by kernel_rfl)))) (by kernel_rfl) (.mu 3 ?_)))))))
       refine .done ⟨by kernel_rfl, ?_⟩
       refine .pop (.ru G ?_)
       exact loopF_back (v188, (gt v49.1 x_129), (gt v51.1 x_170), wrapF .i64 (x_170 + 1)) hr ((Wk.gc [3, 7, 12, 13, 14, 15, 16, 17, 18, 19, 78, 79, 83, 84] [(0, true), (1, true)] rfl trivial).to)
      ·refine .skip (.pop (.ru G ?_))
       exact loopF_back (least_167, x_168, y_169, wrapF .i64 (x_170 + 1)) hr ((Wk.gc [3, 7, 12, 13, 14, 15, 16, 17, 18, 19, 78, 79, 83, 84] [(0, true), (1, true)] rfl trivial).to)
     ·refine .leave rfl ?_
      obtain rfl := oi hr
      exact ⟨rfl, ((Wk.gc [3, 7, 12, 13, 14, 15, 16, 17, 18, 78, 79] [(0, true), (1, true)] rfl trivial).to)⟩
    ·rcases o193 with ⟨least_180, x_181, y_182⟩
     rintro x st' hq195
     clear hL194
     obtain ⟨rfl, hq195⟩ := hq195
     refine CQ_exit _ rfl (.pop (.wk hq195 (.ru G ?_)))
     exact loopF_back (least_180, x_181, y_182, wrapF .i64 (x_129 + 1)) hr ((Wk.gc [3, 7, 12, 13, 14, 15, 16, 17, 18, 78, 79] [(0, true), (1, true)] rfl trivial).to)
   ·refine .leave rfl ?_
    obtain rfl := oi hr
    exact ⟨rfl, ((Wk.gc [3, 7, 16, 17, 18] [(0, true), (1, true)] rfl trivial).to)⟩
  ·rcases o196 with ⟨least_161, x_162, y_163⟩
   rintro x st' hq198
   clear hL197
   obtain ⟨rfl, hq198⟩ := hq198
   refine CQ_exit _ rfl (.wk hq198 (.seq ?_))
   obtain ⟨v199, hc200, hr⟩ := bd hr
   refine .g1 G (ok0 (fraction_Of_ok n x_162 (wrapF .i64 (4 * s.Focal)) v199 hc200)) (.mu 4 (.ca cf0 (.mu 6 (.done (.nh [3, 7, 16, 18, 22] [.own (api_Survey.c s), .own [aB false, nS, aB false, nS, aB false, nS, aB false, nS], .own (api_Rat.c v199.1)] (.seq ?_))))))
   obtain ⟨v201, hc202, hr⟩ := bd hr
   refine .g1 G (ok0 (fraction_Of_ok n y_163 (wrapF .i64 (4 * s.Focal)) v201 hc202)) (.mu 4 (.ca cf0 (.mu 6 (.done (.nh [7, 16, 22, 24] [.own (api_Survey.c s), .own [aB false, nS, aB false, nS, aB false, nS, aB false, nS], .own (api_Rat.c v199.1), .own (api_Rat.c v201.1)] (.seq (.regionT G callOf_nil (.mu 6 ?_))))))))
   refine .done ⟨by kernel_rfl, ?_⟩
   refine .nh [6, 7] [.own (api_Survey.c s), .own [aB v199.1.Num.Negative, sU32 v199.1.Num.Groups, aB v199.1.Den.Negative, sU32 v199.1.Den.Groups, aB v201.1.Num.Negative, sU32 v201.1.Num.Groups, aB v201.1.Den.Negative, sU32 v201.1.Den.Groups], .own (api_Rat.c v199.1), .own (api_Rat.c v201.1)] (.ret ?_)
   obtain rfl := oi hr
   exact FinQ.ret (vs := [aI64 least_161, .agg [aB v199.1.Num.Negative, sU32 v199.1.Num.Groups, aB v199.1.Den.Negative, sU32 v199.1.Den.Groups, aB v201.1.Num.Negative, sU32 v201.1.Num.Groups, aB v201.1.Den.Negative, sU32 v201.1.Den.Groups]]) (by kernel_rfl) (Sn.tup (SnL.cons (Sn.pure rfl) (SnL.cons (Sn.pure rfl) SnL.nil)))

theorem plan_Cover_ok (n : Nat) (s : api_Survey) (f : api_Flight) (ground : Int) (r : Int × api_Place × Int) (hr : plan_Cover n s f ground = some r) : FnOk Tryz.prog 16 [.agg (api_Survey.c s), .agg (api_Flight.c f), aI64 ground] (.tup [aI64 r.1, .agg (api_Place.c r.2.1), aI64 r.2.2]) := by
 unfold plan_Cover at hr
 refine FnOk.bd G Tryz.func16 [.tmp 6, .cell 7 54, .tmp 8] ?_
 unfold Tryz.f16
 simp only [Option.getD_some]
 refine .seq (.r5 G [2] [(3, .hp 0 0), (4, .hp 1 0), (7, .hp 2 0)] [.own (api_Survey.c s), .own (api_Flight.c f), .own [aB false, nS, aB false, nS, aB false, nS, aB false, nS]] (.seq (.seq ?_)))
 obtain ⟨v1, hc2, hr⟩ := bd hr
 refine .g1 G (ok0 (plan_asked_ok n s f ground true v1 hc2)) (.mu 3 (.ca cf0 (.mu 1 (.done (.nh [2, 3, 4, 7, 9] [.own (api_Survey.c s), .own (api_Flight.c f), .own [aB false, nS, aB false, nS, aB false, nS, aB false, nS]] (.seq (.r4 G [2, 3, 4, 7, 9] [(17, aB ((v1 : Int) != 0))] ?_)))))))
 refine .cd hr (fun hb4 hr => ?_) (fun hb4 hr => ?_)
 ·refine .seq (.r4 G [7] [(6, aI64 0), (8, aI64 v1)] (.ret ?_))
  obtain rfl := oi hr
  exact FinQ.ret (vs := [aI64 0, .agg [aB false, nS, aB false, nS, aB false, nS, aB false, nS], aI64 v1]) (by kernel_rfl) (Sn.tup (SnL.cons (Sn.pure rfl) (SnL.cons (Sn.agg (SnL.cons (Sn.pure rfl) (SnL.cons Sn.nilsl (SnL.cons (Sn.pure rfl) (SnL.cons Sn.nilsl (SnL.cons (Sn.pure rfl) (SnL.cons Sn.nilsl (SnL.cons (Sn.pure rfl) (SnL.cons Sn.nilsl SnL.nil))))))))) (SnL.cons (Sn.pure rfl) SnL.nil))))
 ·refine .skip (.seq ?_)
  obtain ⟨v5, hc6, hr⟩ := bd hr
  refine .g1 G (ok0 (plan_cover_ok n s f ground v5 hc6)) (.mu 3 (.ca cf0 (.mu 6 (.done (.nh [7, 10, 11] [.own (api_Survey.c s), .own (api_Flight.c f), .own [aB false, nS, aB false, nS, aB false, nS, aB false, nS], .own (api_Place.c v5.2)] (.seq (.regionT G callOf_nil (.mu 5 ?_))))))))
  refine .done ⟨by kernel_rfl, ?_⟩
  refine .nh [6, 7, 8] [.own (api_Survey.c s), .own (api_Flight.c f), .own (api_Place.c v5.2), .own (api_Place.c v5.2)] (.ret ?_)
  obtain rfl := oi hr
  exact FinQ.ret (vs := [aI64 v5.1, .agg (api_Place.c v5.2), aI64 0]) (by kernel_rfl) (Sn.tup (SnL.cons (Sn.pure rfl) (SnL.cons (Sn.pure rfl) (SnL.cons (Sn.pure rfl) SnL.nil))))

theorem plan_Height_ok (n : Nat) (s : api_Survey) (pixel : Int) (r : Int × Int) (hr : plan_Height n s pixel = some r) : FnOk Tryz.prog 17 [.agg (api_Survey.c s), aI64 pixel] (.tup [aI64 r.1, aI64 r.2]) := by
 unfold plan_Height at hr
 refine FnOk.bd G Tryz.func17 [.tmp 4, .tmp 5] ?_
 unfold Tryz.f17
 simp only [Option.getD_some]
 refine .seq (.r5 G [1] [(2, .hp 0 0)] [.own (api_Survey.c s)] (.seq (.seq ?_)))
 obtain ⟨v1, hc2, hr⟩ := bd hr
 refine .g1 G (ok0 (plan_Check_ok n s v1 hc2)) (.mu 1 (.ca cf0 (.mu 1 (.done (.nh [1, 2, 6] [.own (api_Survey.c s)] (.seq (.r4 G [1, 2, 6] [(11, aB ((v1 : Int) != 0))] ?_)))))))
 refine .cd hr (fun hb4 hr => ?_) (fun hb4 hr => ?_)
 ·refine .seq (.ru G (.ret ?_))
  obtain rfl := oi hr
  exact FinQ.ret (vs := [aI64 0, aI64 v1]) (by kernel_rfl) (Sn.tup (SnL.cons (Sn.pure rfl) (SnL.cons (Sn.pure rfl) SnL.nil)))
 ·refine .skip (.seq (.seq ?_))
  rcases Bool.eq_false_or_eq_true (decide (pixel < 1)) with hb5 | hb5
  ·replace hr := cd_t hb5 hr
   refine .r0 G (.mu 1 (.p0 (v := aB true) (eB hb5) (.mu 4 (.done (.nh [1, 2, 18] [.own (api_Survey.c s)] (.cT (by kernel_rfl) (.seq (.ru G (.ret ?_)))))))))
   obtain rfl := oi hr
   exact FinQ.ret (vs := [aI64 0, aI64 2]) (by kernel_rfl) (Sn.tup (SnL.cons (Sn.pure rfl) (SnL.cons (Sn.pure rfl) SnL.nil)))
  ·replace hr := cd_f hb5 hr
   refine .r0 G (.mu 1 (.p0 (v := aB false) (eB hb5) (.mu 4 (.done (.nh [1, 2, 18] [.own (api_Survey.c s)] ?_)))))
   refine .cd hr (fun hb7 hr => ?_) (fun hb7 hr => ?_)
   ·refine .seq (.ru G (.ret ?_))
    obtain rfl := oi hr
    exact FinQ.ret (vs := [aI64 0, aI64 2]) (by kernel_rfl) (Sn.tup (SnL.cons (Sn.pure rfl) (SnL.cons (Sn.pure rfl) SnL.nil)))
   ·refine .skip (.seq (.r4 G [2] [(7, aI64 (wrapF .i64 (s.Low + (wrapF .i64 ((wrapF .i64 (pixel * s.Focal)).tdiv 64)))))] (.seq (.seq (.r4 G [7] [(30, aB (decide ((wrapF .i64 (s.Low + (wrapF .i64 ((wrapF .i64 (pixel * s.Focal)).tdiv 64)))) ≤ s.High)))] ?_)))))
    refine .cd hr (fun hb8 hr => ?_) (fun hb8 hr => ?_)
    ·refine .seq (.ru G (.ret ?_))
     obtain rfl := oi hr
     exact FinQ.ret (vs := [aI64 0, aI64 15]) (by kernel_rfl) (Sn.tup (SnL.cons (Sn.pure rfl) (SnL.cons (Sn.pure rfl) SnL.nil)))
    ·refine .skip (.seq (.seq (.r4 G [7] [(32, aB (decide ((wrapF .i64 (s.Low + (wrapF .i64 ((wrapF .i64 (pixel * s.Focal)).tdiv 64)))) > 1048576)))] ?_)))
     refine .cd hr (fun hb9 hr => ?_) (fun hb9 hr => ?_)
     ·refine .seq (.ru G (.ret ?_))
      obtain rfl := oi hr
      exact FinQ.ret (vs := [aI64 0, aI64 3]) (by kernel_rfl) (Sn.tup (SnL.cons (Sn.pure rfl) (SnL.cons (Sn.pure rfl) SnL.nil)))
     ·refine .skip (.seq (.ru G (.ret ?_)))
      obtain rfl := oi hr
      exact FinQ.ret (vs := [aI64 (wrapF .i64 (s.Low + (wrapF .i64 ((wrapF .i64 (pixel * s.Focal)).tdiv 64)))), aI64 0]) (by kernel_rfl) (Sn.tup (SnL.cons (Sn.pure rfl) (SnL.cons (Sn.pure rfl) SnL.nil)))

theorem fiducialref01_Valid_cg (n : Nat) {x' : api_Int} {x'_ : api_Int} (h : ([.agg [.at (.bool x'.Negative), slT (iC .u32) x'.Groups]] : List AV) = [.agg [.at (.bool x'_.Negative), slT (iC .u32) x'_.Groups]]) : fiducialref01_Valid n x' = fiducialref01_Valid n x'_ := by
 obtain rfl := fraction_counted_inj h
 rfl
theorem fiducialref01_Valid_ok (n : Nat) (x' : api_Int) (r : Bool) (hr : fiducialref01_Valid n x' = some r) : FnOk Tryz.prog 40 [.agg (api_Int.c x')] (aB r) := by
 unfold fiducialref01_Valid at hr
 refine FnOk.bd G Tryz.func40 [.tmp 2] ?_
 unfold Tryz.f40
 simp only [Option.getD_some]
 refine .seq (.r2 G 31 [(1, .hp 0 0)] [.own (api_Int.c x')] (.seq (.r4 G [1] [(3, aI64 (x'.Groups.length : Int))] (.seq (.seq (.r4 G [1, 3] [(4, aI64 0)] (.block ?_)))))))
 replace hr := bd hr; obtain ⟨o9, hL10, hr⟩ := hr
 refine .loopO (σ := fun z0 => match z0 with | i_1 => ⟨mkS 31 0 [(1, .hp 0 0), (3, aI64 (x'.Groups.length : Int)), (4, aI64 i_1)], [.own (api_Int.c x')]⟩) (Q := fun x st' => match (generalizing := false) o9 with | .inl _ => x = .exit 0 ∧ Wk 0 st' ⟨mkS 31 0 [(1, .hp 0 0), (3, aI64 (x'.Groups.length : Int))], [.own (api_Int.c x')]⟩ | .inr (r0) => x = .ret ∧ FinQ Tryz.prog [.tmp 2] (aB r0) .ret st') hL10 ((Wk.gc [1, 3, 4] [(0, true)] rfl trivial).to) ?_ ?_
 ·clear hr
  rintro m i_1 hr
  show CQ _ _ _ _ _ ⟨_, _⟩
  refine .seq (.seq (.r4 G [1, 3, 4] [(10, aB (decide (i_1 < (x'.Groups.length : Int))))] ?_))
  refine .cd hr (fun hb6 hr => ?_) (fun hb6 hr => ?_)
  ·refine .skip (.seq (.block (.seq ?_)))
   obtain ⟨hg7, hr⟩ := gd hr
   refine .r0 G (.mu 3 (.p0 (v := .pp (x'.Groups.flatMap (iC .u32)) (i_1.toNat * 1)) (tr (ofP_guard hg7)) (.p0 (v := aU32 (gt x'.Groups i_1)) (tr (ofP_some (flat_get (iC_len .u32) (inR_lt hg7) (by decide : 0 < 1) (by omega : i_1.toNat * 1 = i_1.toNat * 1 + 0) (by kernel_rfl)))) (.mu 1 (.done (.nh [1, 3, 4, 18] [.own (api_Int.c x')] ?_))))))
   refine .cd hr (fun hb8 hr => ?_) (fun hb8 hr => ?_)
   ·refine .seq (.ru G (.ret ?_))
    obtain rfl := oi hr
    exact ⟨rfl, FinQ.ret (vs := [aB false]) (by kernel_rfl) (Sn.pure rfl)⟩
   ·refine .skip (.pop (.ru G ?_))
    exact loopF_back (wrapF .i64 (i_1 + 1)) hr ((Wk.gc [1, 3, 4] [(0, true)] rfl trivial).to)
  ·refine .leave rfl ?_
   obtain rfl := oi hr
   exact ⟨rfl, ((Wk.gc [1, 3] [(0, true)] rfl trivial).to)⟩
 ·rcases o9 with ⟨⟩ | r0
  ·rintro x st' hq11
   clear hL10
   obtain ⟨rfl, hq11⟩ := hq11
   refine CQ_exit _ rfl (.wk hq11 (.seq (.seq (.r4 G [1, 3] [(20, aB (((x'.Groups.length : Int) : Int) == 0))] ?_))))
   refine .cd hr (fun hb12 hr => ?_) (fun hb12 hr => ?_)
   ·refine .seq (.ru G (.ret ?_))
    obtain rfl := oi hr
    exact FinQ.r1 [aB (!x'.Negative)]
   ·refine .skip (.seq ?_)
    obtain ⟨hg13, hr⟩ := gd hr
    refine .r0 G (.mu 4 (.p0 (v := .pp (x'.Groups.flatMap (iC .u32)) ((wrapF .i64 ((x'.Groups.length : Int) - 1)).toNat * 1)) (tr (ofP_guard hg13)) (.p0 (v := aU32 (gt x'.Groups (wrapF .i64 ((x'.Groups.length : Int) - 1)))) (tr (ofP_some (flat_get (iC_len .u32) (inR_lt hg13) (by decide : 0 < 1) (by omega : (wrapF .i64 ((x'.Groups.length : Int) - 1)).toNat * 1 = (wrapF .i64 ((x'.Groups.length : Int) - 1)).toNat * 1 + 0) (by kernel_rfl)))) (.mu 2 (.done (.ret ?_))))))
    obtain rfl := oi hr
    exact FinQ.r1 [aB (((gt x'.Groups (wrapF .i64 ((x'.Groups.length : Int) - 1))) : Int) != 0)]
  ·rintro x st' hq11
   clear hL10
   obtain ⟨rfl, hq11⟩ := hq11
   obtain rfl := oi hr
   exact CQ_ret _ hq11

theorem fiducialref01_Value_cg (n : Nat) {x' : api_Int} {x'_ : api_Int} (h : ([.agg [.at (.bool x'.Negative), slT (iC .u32) x'.Groups]] : List AV) = [.agg [.at (.bool x'_.Negative), slT (iC .u32) x'_.Groups]]) : fiducialref01_Value n x' = fiducialref01_Value n x'_ := by
 obtain rfl := fraction_counted_inj h
 rfl
theorem fiducialref01_Value_ok (n : Nat) (x' : api_Int) (r : api_Int) (hr : fiducialref01_Value n x' = some r) : FnOk Tryz.prog 58 [.agg (api_Int.c x')] (.agg (api_Int.c r)) := by
 unfold fiducialref01_Value at hr
 refine FnOk.bd G Tryz.func58 [.cell 2 50] ?_
 unfold Tryz.f58
 simp only [Option.getD_some]
 refine .seq (.r2 G 14 [(1, .hp 0 0), (2, .hp 1 0)] [.own (api_Int.c x'), .own [aB false, nS]] (.seq (.seq ?_)))
 obtain ⟨v1, hc2, hr⟩ := bd hr
 refine .g1 G (ok0 (fiducialref01_Valid_ok n x' v1 hc2)) (.mu 1 (.ca cf0 (.mu 1 (.done (.nh [1, 2, 5] [.own (api_Int.c x'), .own [aB false, nS]] ?_)))))
 refine .cd hr (fun hb3 hr => ?_) (fun hb3 hr => ?_)
 ·refine .seq (.r4 G [2] [] (.ret ?_))
  obtain rfl := oi hr
  exact FinQ.ret (vs := [.agg [aB false, nS]]) (by kernel_rfl) (Sn.agg (SnL.cons (Sn.pure rfl) (SnL.cons Sn.nilsl SnL.nil)))
 ·refine .skip (.seq ?_)
  obtain ⟨hg4, hg5, hr⟩ := gd2 hr
  refine .regionT G callOf_nil (.mu 5 (.eff (v := .hs 3 0 x'.Groups.length 1) (ws := [(2, .dead), (3, .own (x'.Groups.flatMap (iC .u32)))]) (by kernel_rfl) (Eq.trans (b := appS (decide (((x'.Groups.flatMap (iC .u32))).length = x'.Groups.length * 1)) (x'.Groups.flatMap (iC .u32)) x'.Groups.length (fun z1 z2 => guardO (decide (0 + 0 * 1 ≤ (([] : List Int).flatMap (iC .u32)).length) && decide ((0 + z2) * 4 ≤ 140737488355328) && decide (0 + z2 ≤ 4611686018427387904)) (some (.eff (.hs 3 0 (0 + z2) 1) [(2, .dead), (3, .own (((([] : List Int).flatMap (iC .u32)).drop 0).take (0 * 1) ++ z1))])))) (by kernel_rfl) (appS_t (flat_lenB (iC_len _)) rfl (app_own (l := ([] : List Int)) (xs := x'.Groups) (iC_len _) rfl rfl rfl hg4 hg5))) (by kernel_rfl) (.mu 2 ?_)))
  refine .done ⟨by kernel_rfl, ?_⟩
  refine .nh [2] [.own (api_Int.c x'), .own [aB x'.Negative, .hs 3 0 x'.Groups.length 1], .dead, .own (x'.Groups.flatMap (iC .u32))] (.ret ?_)
  obtain rfl := oi hr
  exact FinQ.ret (vs := [.agg [aB x'.Negative, .hs 3 0 x'.Groups.length 1]]) (by kernel_rfl) (Sn.agg (SnL.cons (Sn.pure rfl) (SnL.cons (Sn.hs rfl (.inl rfl) (SnC.pure (ids_flat (iC_pure _) _)) (fun h => flat_nil0 h)) SnL.nil)))

theorem fiducialref01_Sign_ok (n : Nat) (x' : api_Int) (r : Int) (hr : fiducialref01_Sign n x' = some r) : FnOk Tryz.prog 38 [.agg (api_Int.c x')] (aI64 r) := by
 unfold fiducialref01_Sign at hr
 refine FnOk.bd G Tryz.func38 [.tmp 2] ?_
 unfold Tryz.f38
 simp only [Option.getD_some]
 refine .seq (.r2 G 11 [(1, .hp 0 0)] [.own (api_Int.c x')] (.seq ?_))
 obtain ⟨v1, hc2, hr⟩ := bd hr
 refine .g1 G (ok0 (fiducialref01_Value_ok n x' v1 hc2)) (.mu 1 (.ca cf0 (.mu 1 (.done (.nh [1] [.own (api_Int.c v1)] (.seq (.seq (.r4 G [1] [(8, aB (((v1.Groups.length : Int) : Int) == 0))] ?_))))))))
 refine .cd hr (fun hb3 hr => ?_) (fun hb3 hr => ?_)
 ·refine .seq (.ru G (.ret ?_))
  obtain rfl := oi hr
  exact FinQ.r1 [aI64 0]
 ·refine .skip (.seq (.seq (.r3 G 11 [(10, aB v1.Negative)] ?_)))
  refine .cd hr (fun hb4 hr => ?_) (fun hb4 hr => ?_)
  ·refine .seq (.ru G (.ret ?_))
   obtain rfl := oi hr
   exact FinQ.r1 [aI64 (-1)]
  ·refine .skip (.seq (.ru G (.ret ?_)))
   obtain rfl := oi hr
   exact FinQ.r1 [aI64 1]

theorem fiducialref01_made_ok (n : Nat) (negative : Bool) (l : List Int) (r : api_Int) (hr : fiducialref01_made n negative l = some r) : FnOk Tryz.prog 61 [aB negative, sU32 l] (.agg (api_Int.c r)) := by
 unfold fiducialref01_made at hr
 refine FnOk.bd G Tryz.func61 [.cell 4 50] ?_
 unfold Tryz.f61
 simp only [Option.getD_some]
 refine .seq (.r5 G [0, 1] [(4, .hp 0 0)] [.own [aB false, nS]] (.seq (.r4 G [0, 1, 4] [(5, aI64 (l.length : Int))] (.seq (.block ?_)))))
 replace hr := bd hr; obtain ⟨n_5, hL11, hr⟩ := hr
 refine .loopO (σ := fun z0 => match z0 with | n_1 => ⟨mkS 31 0 [(0, aB negative), (1, sU32 l), (4, .hp 0 0), (5, aI64 n_1)], [.own [aB false, nS]]⟩) (Q := fun x st' => x = .exit 0 ∧ Wk 0 st' ⟨mkS 31 0 [(0, aB negative), (1, sU32 l), (4, .hp 0 0), (5, aI64 n_5)], [.own [aB false, nS]]⟩) hL11 ((Wk.gc [0, 1, 4, 5] [(0, true)] rfl trivial).to) ?_ ?_
 ·clear hr
  rintro m n_1 hr
  show CQ _ _ _ _ _ ⟨_, _⟩
  refine .seq (.seq ?_)
  rcases Bool.eq_false_or_eq_true (decide (n_1 > 0)) with hb7 | hb7
  ·replace hr := cd_t hb7 hr
   obtain ⟨hg8, hr⟩ := gd hr
   refine .r0 G (.mu 1 (.p0 (v := aB true) (eB hb7) (.mu 4 (.pure (v := .pp (l.flatMap (iC .u32)) ((wrapF .i64 (n_1 - 1)).toNat * 1)) (by kernel_rfl) (tr (ofP_guard hg8)) (.pure (v := aU32 (gt l (wrapF .i64 (n_1 - 1)))) (by kernel_rfl) (tr (ofP_some (flat_get (iC_len .u32) (inR_lt hg8) (by decide : 0 < 1) (by omega : (wrapF .i64 (n_1 - 1)).toNat * 1 = (wrapF .i64 (n_1 - 1)).toNat * 1 + 0) (by kernel_rfl)))) (.mu 2 (.done (.nh [0, 1, 4, 5, 17] [.own [aB false, nS]] ?_))))))))
   refine .cd hr (fun hb9 hr => ?_) (fun hb9 hr => ?_)
   ·refine .skip (.block (.ru G (.pop ?_)))
    exact loopF_back (wrapF .i64 (n_1 - 1)) hr ((Wk.gc [0, 1, 4, 5] [(0, true)] rfl trivial).to)
   ·refine .leave rfl ?_
    obtain rfl := oi hr
    exact ⟨rfl, ((Wk.gc [0, 1, 4, 5] [(0, true)] rfl trivial).to)⟩
  ·replace hr := cd_f hb7 hr
   refine .r0 G (.mu 1 (.p0 (v := aB false) (eB hb7) (.mu 8 (.done (.nh [0, 1, 4, 5, 17] [.own [aB false, nS]] (.cF (by kernel_rfl) (.leave rfl ?_)))))))
   obtain rfl := oi hr
   exact ⟨rfl, ((Wk.gc [0, 1, 4, 5] [(0, true)] rfl trivial).to)⟩
 ·rintro x st' hq12
  clear hL11
  obtain ⟨rfl, hq12⟩ := hq12
  refine CQ_exit _ rfl (.wk hq12 (.seq ?_))
  rcases Bool.eq_false_or_eq_true negative with hb13 | hb13
  ·replace hr := cd_t hb13 hr
   obtain ⟨hg14, hg15, hg16, hr⟩ := gd3 hr
   refine .r0 G (.p0 (v := aB true) (eB hb13) (.mu 7 (.p0 (v := sU32 ((l.drop (0 : Int).toNat).take (n_5.toNat - (0 : Int).toNat))) (Eq.trans (b := slO (inS 0 n_5 l.length) (0 : Int).toNat n_5.toNat (fun z1 z2 => .sl true (((l.flatMap (iC .u32)).drop (z1 * 1)).take ((z2 - z1) * 1)) (z2 - z1))) (by kernel_rfl) (slO_t hg14 (sub_sl (iC_len _) (inS_le hg14)))) (.e0 (v := .hs 2 0 ((l.drop (0 : Int).toNat).take (n_5.toNat - (0 : Int).toNat)).length 1) (ws := [(1, .dead), (2, .own (((l.drop (0 : Int).toNat).take (n_5.toNat - (0 : Int).toNat)).flatMap (iC .u32)))]) (Eq.trans (b := appS (decide (((((l.drop (0 : Int).toNat).take (n_5.toNat - (0 : Int).toNat)).flatMap (iC .u32))).length = ((l.drop (0 : Int).toNat).take (n_5.toNat - (0 : Int).toNat)).length * 1)) (((l.drop (0 : Int).toNat).take (n_5.toNat - (0 : Int).toNat)).flatMap (iC .u32)) ((l.drop (0 : Int).toNat).take (n_5.toNat - (0 : Int).toNat)).length (fun z1 z2 => guardO (decide (0 + 0 * 1 ≤ (([] : List Int).flatMap (iC .u32)).length) && decide ((0 + z2) * 4 ≤ 140737488355328) && decide (0 + z2 ≤ 4611686018427387904)) (some (.eff (.hs 2 0 (0 + z2) 1) [(1, .dead), (2, .own (((([] : List Int).flatMap (iC .u32)).drop 0).take (0 * 1) ++ z1))])))) (by kernel_rfl) (appS_t (flat_lenB (iC_len _)) rfl (app_own (l := ([] : List Int)) (xs := (l.drop (0 : Int).toNat).take (n_5.toNat - (0 : Int).toNat)) (iC_len _) rfl rfl rfl hg15 hg16))) (.mu 2 (.done (.nh [4] [.own [aB (decide (n_5 > 0)), .hs 2 0 ((l.drop (0 : Int).toNat).take (n_5.toNat - (0 : Int).toNat)).length 1], .dead, .own (((l.drop (0 : Int).toNat).take (n_5.toNat - (0 : Int).toNat)).flatMap (iC .u32))] (.ret ?_))))))))
   obtain rfl := oi hr
   exact FinQ.ret (vs := [.agg [aB (decide (n_5 > 0)), .hs 2 0 ((l.drop (0 : Int).toNat).take (n_5.toNat - (0 : Int).toNat)).length 1]]) (by kernel_rfl) (Sn.agg (SnL.cons (Sn.pure rfl) (SnL.cons (Sn.hs rfl (.inl rfl) (SnC.pure (ids_flat (iC_pure _) _)) (fun h => flat_nil0 h)) SnL.nil)))
  ·replace hr := cd_f hb13 hr
   obtain ⟨hg17, hg18, hg19, hr⟩ := gd3 hr
   refine .r0 G (.p0 (v := aB false) (eB hb13) (.mu 7 (.p0 (v := sU32 ((l.drop (0 : Int).toNat).take (n_5.toNat - (0 : Int).toNat))) (Eq.trans (b := slO (inS 0 n_5 l.length) (0 : Int).toNat n_5.toNat (fun z1 z2 => .sl true (((l.flatMap (iC .u32)).drop (z1 * 1)).take ((z2 - z1) * 1)) (z2 - z1))) (by kernel_rfl) (slO_t hg17 (sub_sl (iC_len _) (inS_le hg17)))) (.e0 (v := .hs 2 0 ((l.drop (0 : Int).toNat).take (n_5.toNat - (0 : Int).toNat)).length 1) (ws := [(1, .dead), (2, .own (((l.drop (0 : Int).toNat).take (n_5.toNat - (0 : Int).toNat)).flatMap (iC .u32)))]) (Eq.trans (b := appS (decide (((((l.drop (0 : Int).toNat).take (n_5.toNat - (0 : Int).toNat)).flatMap (iC .u32))).length = ((l.drop (0 : Int).toNat).take (n_5.toNat - (0 : Int).toNat)).length * 1)) (((l.drop (0 : Int).toNat).take (n_5.toNat - (0 : Int).toNat)).flatMap (iC .u32)) ((l.drop (0 : Int).toNat).take (n_5.toNat - (0 : Int).toNat)).length (fun z1 z2 => guardO (decide (0 + 0 * 1 ≤ (([] : List Int).flatMap (iC .u32)).length) && decide ((0 + z2) * 4 ≤ 140737488355328) && decide (0 + z2 ≤ 4611686018427387904)) (some (.eff (.hs 2 0 (0 + z2) 1) [(1, .dead), (2, .own (((([] : List Int).flatMap (iC .u32)).drop 0).take (0 * 1) ++ z1))])))) (by kernel_rfl) (appS_t (flat_lenB (iC_len _)) rfl (app_own (l := ([] : List Int)) (xs := (l.drop (0 : Int).toNat).take (n_5.toNat - (0 : Int).toNat)) (iC_len _) rfl rfl rfl hg18 hg19))) (.mu 2 (.done (.nh [4] [.own [aB false, .hs 2 0 ((l.drop (0 : Int).toNat).take (n_5.toNat - (0 : Int).toNat)).length 1], .dead, .own (((l.drop (0 : Int).toNat).take (n_5.toNat - (0 : Int).toNat)).flatMap (iC .u32))] (.ret ?_))))))))
   obtain rfl := oi hr
   exact FinQ.ret (vs := [.agg [aB false, .hs 2 0 ((l.drop (0 : Int).toNat).take (n_5.toNat - (0 : Int).toNat)).length 1]]) (by kernel_rfl) (Sn.agg (SnL.cons (Sn.pure rfl) (SnL.cons (Sn.hs rfl (.inl rfl) (SnC.pure (ids_flat (iC_pure _) _)) (fun h => flat_nil0 h)) SnL.nil)))

theorem fiducialref01_short_ok (n : Nat) (a : List Int) (d : Int) (r : List Int × Int) (hr : fiducialref01_short n a d = some r) : FnOk Tryz.prog 78 [sU32 a, aU64 d] (.tup [sU32 r.1, aU64 r.2]) := by
 unfold fiducialref01_short at hr
 refine FnOk.bd G Tryz.func78 [.tmp 4, .tmp 5] ?_
 unfold Tryz.f78
 simp only [Option.getD_some]
 refine .seq (.r4 G [0, 1] [] (.seq ?_))
 obtain ⟨hg1, hg2, hg3, hr⟩ := gd3 hr
 refine .r0 G (.mu 2 (.e0 (v := .hs 0 0 (List.replicate (a.length : Int).toNat ((0 : Int) : Int)).length 1) (ws := [(0, .own ((List.replicate (a.length : Int).toNat ((0 : Int) : Int)).flatMap (iC .u32)))]) (tr (make_own (c := (iC .u32)) (z := (0 : Int)) (n := (a.length : Int)) (by_ := 4) rfl hg1 hg2 hg3)) (.mu 1 (.done (.nh [0, 1, 6] [.own ((List.replicate (a.length : Int).toNat ((0 : Int) : Int)).flatMap (iC .u32))] (.seq (.r4 G [0, 1, 6] [(7, aU64 0)] (.seq (.seq (.r4 G [0, 1, 6, 7] [(8, aI64 (wrapF .i64 ((a.length : Int) - 1)))] (.block ?_)))))))))))
 replace hr := bd hr; obtain ⟨o18, hL19, hr⟩ := hr
 refine .loopO (σ := fun z0 => match z0 with | (q_4, rest_5, i_6) => ⟨mkS 42 0 [(0, sU32 a), (1, aU64 d), (6, .hs 0 0 q_4.length 1), (7, aU64 rest_5), (8, aI64 i_6)], [.own (q_4.flatMap (iC .u32))]⟩) (Q := fun x st' => match (generalizing := false) o18 with | (q_11, rest_12) => x = .exit 0 ∧ Wk 0 st' ⟨mkS 42 0 [(6, .hs 0 0 q_11.length 1), (7, aU64 rest_12)], [.own (q_11.flatMap (iC .u32))]⟩) hL19 ((Wk.gc [0, 1, 6, 7, 8] [(0, false)] rfl (pKo (iC .u32) (iC_pure _) (List.replicate (a.length : Int).toNat ((0 : Int) : Int)) trivial)).to) ?_ ?_
 ·clear hr
  rintro m ⟨q_4, rest_5, i_6⟩ hr
  show CQ _ _ _ _ _ ⟨_, _⟩
  refine .seq (.seq (.r4 G [0, 1, 6, 7, 8] [(17, aB (decide (i_6 ≥ 0)))] ?_))
  refine .cd hr (fun hb14 hr => ?_) (fun hb14 hr => ?_)
  ·refine .skip (.seq (.block (.seq ?_)))
   obtain ⟨hg15, hr⟩ := gd hr
   refine .r0 G (.mu 4 (.p0 (v := .pp (a.flatMap (iC .u32)) (i_6.toNat * 1)) (tr (ofP_guard hg15)) (.p0 (v := aU32 (gt a i_6)) (tr (ofP_some (flat_get (iC_len .u32) (inR_lt hg15) (by decide : 0 < 1) (by omega : i_6.toNat * 1 = i_6.toNat * 1 + 0) (by kernel_rfl)))) (.mu 3 (.done (.nh [0, 1, 6, 8, 9] [.own (q_4.flatMap (iC .u32))] (.seq ?_)))))))
   obtain ⟨hg16, hg17, hr⟩ := gd2 hr
   refine .r0 G (.mu 4 (.p0 (v := aU64 (wrapF .u64 ((wrapF .u64 ((wrapF .u64 (rest_5 * 1000000000)) + (wrapF .u64 (gt a i_6)))).tdiv d))) (op_quo (x := wrapF .u64 ((wrapF .u64 (rest_5 * 1000000000)) + (wrapF .u64 (gt a i_6)))) (y := d) (by kernel_rfl) (by kernel_rfl) hg16) (.mu 1 (.p0 (v := .hp 0 (0 + i_6.toNat * 1)) (tr (ofP_guard hg17)) (.e0 (v := .unk) (ws := [(0, .own ((q_4.set i_6.toNat (wrapF .u32 (wrapF .u64 ((wrapF .u64 ((wrapF .u64 (rest_5 * 1000000000)) + (wrapF .u64 (gt a i_6)))).tdiv d)))).flatMap (iC .u32)))]) (tr (stO_t (and_t (flat_fits (n := 1) (iC_len .u32) (inR_lt hg17) (Nat.le_of_ble_eq_true rfl) (by omega : 0 + i_6.toNat * 1 = i_6.toNat * 1 + 0))) (congrArg Blk.own (flat_set (xs := [aU32 (wrapF .u32 (wrapF .u64 ((wrapF .u64 ((wrapF .u64 (rest_5 * 1000000000)) + (wrapF .u64 (gt a i_6)))).tdiv d)))]) (iC_len .u32) (inR_lt hg17) (Nat.le_of_ble_eq_true rfl) (by omega : 0 + i_6.toNat * 1 = i_6.toNat * 1 + 0) (by kernel_rfl))))) (.done (.nh [0, 1, 6, 8, 9] [.own ((q_4.set i_6.toNat (wrapF .u32 (wrapF .u64 ((wrapF .u64 ((wrapF .u64 (rest_5 * 1000000000)) + (wrapF .u64 (gt a i_6)))).tdiv d)))).flatMap (iC .u32))] (.r0 G (.mu 2 (.p0 (v := aU64 ((wrapF .u64 ((wrapF .u64 (rest_5 * 1000000000)) + (wrapF .u64 (gt a i_6)))).tmod d)) (op_rem (x := wrapF .u64 ((wrapF .u64 (rest_5 * 1000000000)) + (wrapF .u64 (gt a i_6)))) (y := d) (by kernel_rfl) (by kernel_rfl) hg16) (.mu 1 (.done (.pop (.ru G ?_))))))))))))))
   exact loopF_back (q_4.set i_6.toNat (wrapF .u32 (wrapF .u64 ((wrapF .u64 ((wrapF .u64 (rest_5 * 1000000000)) + (wrapF .u64 (gt a i_6)))).tdiv d))), (wrapF .u64 ((wrapF .u64 (rest_5 * 1000000000)) + (wrapF .u64 (gt a i_6)))).tmod d, wrapF .i64 (i_6 - 1)) hr ((Wk.relen 6 (b := 0) (es := 1) (len := q_4.length) (q_4.set i_6.toNat (wrapF .u32 (wrapF .u64 ((wrapF .u64 ((wrapF .u64 (rest_5 * 1000000000)) + (wrapF .u64 (gt a i_6)))).tdiv d)))).length (by kernel_rfl) (Eq.symm (List.length_set.trans rfl))).trans ((Wk.gc [0, 1, 6, 7, 8] [(0, false)] rfl (pKo (iC .u32) (iC_pure _) (q_4.set i_6.toNat (wrapF .u32 (wrapF .u64 ((wrapF .u64 ((wrapF .u64 (rest_5 * 1000000000)) + (wrapF .u64 (gt a i_6)))).tdiv d)))) trivial)).to))
  ·refine .leave rfl ?_
   obtain rfl := oi hr
   exact ⟨rfl, ((Wk.gc [6, 7] [(0, false)] rfl (pKo (iC .u32) (iC_pure _) q_4 trivial)).to)⟩
 ·rcases o18 with ⟨q_11, rest_12⟩
  rintro x st' hq20
  clear hL19
  obtain ⟨rfl, hq20⟩ := hq20
  refine CQ_exit _ rfl (.wk hq20 (.seq ?_))
  obtain ⟨v21, hc22, hr⟩ := bd hr
  refine .g1 G (callOk_ref (args := [aB false, .hs 0 0 q_11.length 1]) (l := [0]) (SnL.cons (Sn.pure rfl) (SnL.cons (Sn.hs rfl (.inl rfl) (SnC.pure (ids_flat (iC_pure _) _)) (fun h => flat_nil0 h)) SnL.nil)) (fiducialref01_made_ok n false q_11 v21 hc22)) (.mu 1 (.ca cf0 (.mu 4 (.done (.ret ?_)))))
  obtain rfl := oi hr
  exact FinQ.ret (vs := [sU32 v21.Groups, aU64 rest_12]) (by kernel_rfl) (Sn.tup (SnL.cons (Sn.pure rfl) (SnL.cons (Sn.pure rfl) SnL.nil)))

theorem fiducialref01_size_ok (n : Nat) (a : List Int) (b : List Int) (r : Int) (hr : fiducialref01_size n a b = some r) : FnOk Tryz.prog 79 [sU32 a, sU32 b] (aI64 r) := by
 unfold fiducialref01_size at hr
 refine FnOk.bd G Tryz.func79 [.tmp 4] ?_
 unfold Tryz.f79
 simp only [Option.getD_some]
 refine .seq (.r4 G [0, 1] [] (.seq (.seq (.r4 G [0, 1] [(10, aB (((a.length : Int) : Int) != (b.length : Int)))] ?_))))
 refine .cd hr (fun hb1 hr => ?_) (fun hb1 hr => ?_)
 ·refine .seq (.seq (.r3 G 41 [(15, aB (decide ((a.length : Int) < (b.length : Int))))] ?_))
  refine .cd hr (fun hb2 hr => ?_) (fun hb2 hr => ?_)
  ·refine .seq (.ru G (.ret ?_))
   obtain rfl := oi hr
   exact FinQ.r1 [aI64 (-1)]
  ·refine .skip (.seq (.ru G (.ret ?_)))
   obtain rfl := oi hr
   exact FinQ.r1 [aI64 1]
 ·refine .skip (.seq (.seq (.r4 G [0, 1] [(5, aI64 (wrapF .i64 ((a.length : Int) - 1)))] (.block ?_))))
  replace hr := bd hr; obtain ⟨o15, hL16, hr⟩ := hr
  refine .loopO (σ := fun z0 => match z0 with | i_3 => ⟨mkS 41 0 [(0, sU32 a), (1, sU32 b), (5, aI64 i_3)], []⟩) (Q := fun x st' => match (generalizing := false) o15 with | .inl _ => x = .exit 0 ∧ Wk 0 st' ⟨mkS 41 0 [], []⟩ | .inr (r0) => x = .ret ∧ FinQ Tryz.prog [.tmp 4] (aI64 r0) .ret st') hL16 ((Wk.gc [0, 1, 5] [] rfl pK0).to) ?_ ?_
  ·clear hr
   rintro m i_3 hr
   show CQ _ _ _ _ _ ⟨_, _⟩
   refine .seq (.seq (.r4 G [0, 1, 5] [(20, aB (decide (i_3 ≥ 0)))] ?_))
   refine .cd hr (fun hb10 hr => ?_) (fun hb10 hr => ?_)
   ·refine .skip (.seq (.block (.seq (.seq ?_))))
    obtain ⟨hg11, hg12, hr⟩ := gd2 hr
    refine .regionT G callOf_nil (.mu 2 (.pure (v := .pp (a.flatMap (iC .u32)) (i_3.toNat * 1)) (by kernel_rfl) (tr (ofP_guard hg11)) (by kernel_rfl) (.pure (v := aU32 (gt a i_3)) (by kernel_rfl) (tr (ofP_some (flat_get (iC_len .u32) (inR_lt hg11) (by decide : 0 < 1) (by omega : i_3.toNat * 1 = i_3.toNat * 1 + 0) (by kernel_rfl)))) (by kernel_rfl) (.mu 2 (.pure (v := .pp (b.flatMap (iC .u32)) (i_3.toNat * 1)) (by kernel_rfl) (tr (ofP_guard hg12)) (by kernel_rfl) (.pure (v := aU32 (gt b i_3)) (by kernel_rfl) (tr (ofP_some (flat_get (iC_len .u32) (inR_lt hg12) (by decide : 0 < 1) (by omega : i_3.toNat * 1 = i_3.toNat * 1 + 0) (by kernel_rfl)))) (by kernel_rfl) (.mu 1 ?_)))))))
    refine .done ⟨by kernel_rfl, ?_⟩
    refine .nh [0, 1, 5, 31] [] ?_
    refine .cd hr (fun hb13 hr => ?_) (fun hb13 hr => ?_)
    ·refine .seq (.ru G (.ret ?_))
     obtain rfl := oi hr
     exact ⟨rfl, FinQ.ret (vs := [aI64 (-1)]) (by kernel_rfl) (Sn.pure rfl)⟩
    ·refine .skip (.seq (.regionT G callOf_nil (.mu 2 (.pure (v := .pp (a.flatMap (iC .u32)) (i_3.toNat * 1)) (by kernel_rfl) (tr (ofP_guard hg11)) (by kernel_rfl) (.pure (v := aU32 (gt a i_3)) (by kernel_rfl) (tr (ofP_some (flat_get (iC_len .u32) (inR_lt hg11) (by decide : 0 < 1) (by omega : i_3.toNat * 1 = i_3.toNat * 1 + 0) (by kernel_rfl)))) (by kernel_rfl) (.mu 2 (.pure (v := .pp (b.flatMap (iC .u32)) (i_3.toNat * 1)) (by kernel_rfl) (tr (ofP_guard hg12)) (by kernel_rfl) (.pure (v := aU32 (gt b i_3)) (by kernel_rfl) (tr (ofP_some (flat_get (iC_len .u32) (inR_lt hg12) (by decide : 0 < 1) (by omega : i_3.toNat * 1 = i_3.toNat * 1 + 0) (by kernel_rfl)))) (by kernel_rfl) (.mu 1 ?_)))))))))
     refine .done ⟨by kernel_rfl, ?_⟩
     refine .nh [0, 1, 5, 40] [] ?_
     refine .cd hr (fun hb14 hr => ?_) (fun hb14 hr => ?_)
     ·refine .seq (.ru G (.ret ?_))
      obtain rfl := oi hr
      exact ⟨rfl, FinQ.ret (vs := [aI64 1]) (by kernel_rfl) (Sn.pure rfl)⟩
     ·refine .skip (.pop (.ru G ?_))
      exact loopF_back (wrapF .i64 (i_3 - 1)) hr ((Wk.gc [0, 1, 5] [] rfl pK0).to)
   ·refine .leave rfl ?_
    obtain rfl := oi hr
    exact ⟨rfl, ((Wk.gc [] [] rfl pK0).to)⟩
  ·rcases o15 with ⟨⟩ | r0
   ·rintro x st' hq17
    clear hL16
    obtain ⟨rfl, hq17⟩ := hq17
    refine CQ_exit _ rfl (.wk hq17 (.seq (.ru G (.ret ?_))))
    obtain rfl := oi hr
    exact FinQ.r1 [aI64 0]
   ·rintro x st' hq17
    clear hL16
    obtain ⟨rfl, hq17⟩ := hq17
    obtain rfl := oi hr
    exact CQ_ret _ hq17

theorem fiducialref01_scaled_inj {a : List Int} {d : Int} {a_ : List Int} {d_ : Int} (h : ([slT (iC .u32) a, .at (.int .u64 d)] : List AV) = [slT (iC .u32) a_, .at (.int .u64 d_)]) : a = a_ ∧ d = d_ := by
 simp only [List.cons.injEq, AV.agg.injEq, AV.at.injEq, Value.int.injEq, Value.bool.injEq, AV.fn.injEq, AV.pp.injEq, true_and, and_true, slT_inj_int] at h
 simp_all
theorem fiducialref01_scaled_cg (n : Nat) {a : List Int} {d : Int} {a_ : List Int} {d_ : Int} (h : ([slT (iC .u32) a, .at (.int .u64 d)] : List AV) = [slT (iC .u32) a_, .at (.int .u64 d_)]) : fiducialref01_scaled n a d = fiducialref01_scaled n a_ d_ := by
 obtain ⟨rfl, rfl⟩ := fiducialref01_scaled_inj h
 rfl
theorem fiducialref01_scaled_ok (n : Nat) (a : List Int) (d : Int) (r : List Int) (hr : fiducialref01_scaled n a d = some r) : FnOk Tryz.prog 80 [sU32 a, aU64 d] (sU32 r) := by
 unfold fiducialref01_scaled at hr
 refine FnOk.bd G Tryz.func80 [.tmp 4] ?_
 unfold Tryz.f80
 simp only [Option.getD_some]
 refine .seq (.r4 G [0, 1] [] (.seq (.r5 G [0, 1] [(5, .hs 0 0 0 1)] [.own []] (.seq (.r4 G [0, 1, 5] [(6, aU64 0)] (.seq (.seq (.r4 G [0, 1, 5, 6] [(7, aI64 0)] (.block ?_)))))))))
 replace hr := bd hr; obtain ⟨o15, hL16, hr⟩ := hr
 refine .loopO (σ := fun z0 => match z0 with | (out_1, carry_2, i_3) => ⟨mkS 40 0 [(0, sU32 a), (1, aU64 d), (5, .hs 0 0 out_1.length 1), (6, aU64 carry_2), (7, aI64 i_3)], [.own (out_1.flatMap (iC .u32))]⟩) (Q := fun x st' => match (generalizing := false) o15 with | (out_8, carry_9) => x = .exit 0 ∧ Wk 0 st' ⟨mkS 40 0 [(5, .hs 0 0 out_8.length 1), (6, aU64 carry_9)], [.own (out_8.flatMap (iC .u32))]⟩) hL16 ((Wk.gc [0, 1, 5, 6, 7] [(0, false)] rfl (pKc trivial)).to) ?_ ?_
 ·clear hr
  rintro m ⟨out_1, carry_2, i_3⟩ hr
  show CQ _ _ _ _ _ ⟨_, _⟩
  refine .seq (.seq (.r4 G [0, 1, 5, 6, 7] [(13, aB (decide (i_3 < (a.length : Int))))] ?_))
  refine .cd hr (fun hb11 hr => ?_) (fun hb11 hr => ?_)
  ·refine .skip (.seq (.block (.seq ?_)))
   obtain ⟨hg12, hr⟩ := gd hr
   refine .r0 G (.mu 2 (.p0 (v := .pp (a.flatMap (iC .u32)) (i_3.toNat * 1)) (tr (ofP_guard hg12)) (.p0 (v := aU32 (gt a i_3)) (tr (ofP_some (flat_get (iC_len .u32) (inR_lt hg12) (by decide : 0 < 1) (by omega : i_3.toNat * 1 = i_3.toNat * 1 + 0) (by kernel_rfl)))) (.mu 6 (.done (.nh [0, 1, 5, 7, 8] [.own (out_1.flatMap (iC .u32))] (.seq ?_)))))))
   obtain ⟨hg13, hg14, hr⟩ := gd2 hr
   refine .r0 G (.mu 5 (.e0 (v := .hs 2 0 (out_1 ++ [wrapF .u32 ((wrapF .u64 ((wrapF .u64 ((wrapF .u64 (gt a i_3)) * d)) + carry_2)).tmod 1000000000)]).length 1) (ws := [(0, .dead), (2, .own ((out_1 ++ [wrapF .u32 ((wrapF .u64 ((wrapF .u64 ((wrapF .u64 (gt a i_3)) * d)) + carry_2)).tmod 1000000000)]).flatMap (iC .u32)))]) (tr (app_own (new := [aU32 (wrapF .u32 ((wrapF .u64 ((wrapF .u64 ((wrapF .u64 (gt a i_3)) * d)) + carry_2)).tmod 1000000000))]) (l := out_1) (xs := [wrapF .u32 ((wrapF .u64 ((wrapF .u64 ((wrapF .u64 (gt a i_3)) * d)) + carry_2)).tmod 1000000000)]) (iC_len .u32) rfl rfl (by kernel_rfl) hg13 hg14)) (.mu 1 (.done (.nh [0, 1, 5, 7, 8] [.dead, .own [aU32 (wrapF .u32 ((wrapF .u64 ((wrapF .u64 ((wrapF .u64 (gt a i_3)) * d)) + carry_2)).tmod 1000000000))], .own ((out_1 ++ [wrapF .u32 ((wrapF .u64 ((wrapF .u64 ((wrapF .u64 (gt a i_3)) * d)) + carry_2)).tmod 1000000000)]).flatMap (iC .u32))] (.ru G (.pop (.ru G ?_))))))))
   exact loopF_back (out_1 ++ [wrapF .u32 ((wrapF .u64 ((wrapF .u64 ((wrapF .u64 (gt a i_3)) * d)) + carry_2)).tmod 1000000000)], wrapF .u64 ((wrapF .u64 ((wrapF .u64 ((wrapF .u64 (gt a i_3)) * d)) + carry_2)).tdiv 1000000000), wrapF .i64 (i_3 + 1)) hr ((Wk.gc [0, 1, 5, 6, 7] [(2, false)] rfl (pKo (iC .u32) (iC_pure _) (out_1 ++ [wrapF .u32 ((wrapF .u64 ((wrapF .u64 ((wrapF .u64 (gt a i_3)) * d)) + carry_2)).tmod 1000000000)]) trivial)).to)
  ·refine .leave rfl ?_
   obtain rfl := oi hr
   exact ⟨rfl, ((Wk.gc [5, 6] [(0, false)] rfl (pKo (iC .u32) (iC_pure _) out_1 trivial)).to)⟩
 ·rcases o15 with ⟨out_8, carry_9⟩
  rintro x st' hq17
  clear hL16
  obtain ⟨rfl, hq17⟩ := hq17
  refine CQ_exit _ rfl (.wk hq17 (.seq ?_))
  obtain ⟨hg18, hg19, hr⟩ := gd2 hr
  obtain ⟨v20, hc21, hr⟩ := bd hr
  refine .gn G (ca4 [.dead, .own [aU32 (wrapF .u32 carry_9)], .own ((out_8 ++ [wrapF .u32 carry_9]).flatMap (iC .u32))] (callOk_ref (args := [aB false, .hs 2 0 (out_8 ++ [wrapF .u32 carry_9]).length 1]) (l := [2]) (SnL.cons (Sn.pure rfl) (SnL.cons (Sn.hs rfl (.inl rfl) (SnC.pure (ids_flat (iC_pure _) _)) (fun h => flat_nil0 h)) SnL.nil)) (fiducialref01_made_ok n false (out_8 ++ [wrapF .u32 carry_9]) v20 hc21))) (.mu 4 (.e0 (v := .hs 2 0 (out_8 ++ [wrapF .u32 carry_9]).length 1) (ws := [(0, .dead), (2, .own ((out_8 ++ [wrapF .u32 carry_9]).flatMap (iC .u32)))]) (tr (app_own (new := [aU32 (wrapF .u32 carry_9)]) (l := out_8) (xs := [wrapF .u32 carry_9]) (iC_len .u32) rfl rfl (by kernel_rfl) hg18 hg19)) (.ca cf0 (.mu 2 (.done (.ret ?_))))))
  obtain rfl := oi hr
  exact FinQ.r1 [sU32 v20.Groups]

theorem fiducialref01_shifted_ok (n : Nat) (a : List Int) (d : Int) (r : List Int) (hr : fiducialref01_shifted n a d = some r) : FnOk Tryz.prog 81 [sU32 a, aU32 d] (sU32 r) := by
 unfold fiducialref01_shifted at hr
 refine FnOk.bd G Tryz.func81 [.tmp 4] ?_
 unfold Tryz.f81
 simp only [Option.getD_some]
 refine .seq (.r4 G [0, 1] [] (.seq ?_))
 obtain ⟨hg1, hg2, hr⟩ := gd2 hr
 obtain ⟨v3, hc4, hr⟩ := bd hr
 refine .gn G (ca4 [.dead, .own (([d] ++ a).flatMap (iC .u32))] (callOk_ref (args := [aB false, .hs 1 0 ([d] ++ a).length 1]) (l := [1]) (SnL.cons (Sn.pure rfl) (SnL.cons (Sn.hs rfl (.inl rfl) (SnC.pure (ids_flat (iC_pure _) _)) (fun h => flat_nil0 h)) SnL.nil)) (fiducialref01_made_ok n false ([d] ++ a) v3 hc4))) (.mu 3 (.e0 (v := .hs 1 0 ([d] ++ a).length 1) (ws := [(0, .dead), (1, .own (([d] ++ a).flatMap (iC .u32)))]) (Eq.trans (b := appS (decide (((a.flatMap (iC .u32))).length = a.length * 1)) (a.flatMap (iC .u32)) a.length (fun z1 z2 => guardO (decide (0 + 1 * 1 ≤ ([d].flatMap (iC .u32)).length) && decide ((1 + z2) * 4 ≤ 140737488355328) && decide (1 + z2 ≤ 4611686018427387904)) (some (.eff (.hs 1 0 (1 + z2) 1) [(0, .dead), (1, .own ((([d].flatMap (iC .u32)).drop 0).take (1 * 1) ++ z1))])))) (by kernel_rfl) (appS_t (flat_lenB (iC_len _)) rfl (app_own (l := [d]) (xs := a) (iC_len _) rfl rfl rfl hg1 hg2))) (.ca cf0 (.mu 2 (.done (.ret ?_))))))
 obtain rfl := oi hr
 exact FinQ.r1 [sU32 v3.Groups]

theorem fiducialref01_group_cg (n : Nat) {l : List Int} {i : Int} {l_ : List Int} {i_ : Int} (h : ([slT (iC .u32) l, .at (.int .i64 i)] : List AV) = [slT (iC .u32) l_, .at (.int .i64 i_)]) : fiducialref01_group n l i = fiducialref01_group n l_ i_ := by
 obtain ⟨rfl, rfl⟩ := integer_at_inj h
 rfl
theorem fiducialref01_group_ok (n : Nat) (l : List Int) (i : Int) (r : Int) (hr : fiducialref01_group n l i = some r) : FnOk Tryz.prog 82 [sU32 l, aI64 i] (aU64 r) := by
 unfold fiducialref01_group at hr
 refine FnOk.bd G Tryz.func82 [.tmp 4] ?_
 unfold Tryz.f82
 simp only [Option.getD_some]
 refine .seq (.r4 G [0, 1] [] (.seq (.seq (.r4 G [0, 1] [(8, aB (decide (i < (l.length : Int))))] ?_))))
 refine .cd hr (fun hb1 hr => ?_) (fun hb1 hr => ?_)
 ·refine .seq ?_
  obtain ⟨hg2, hr⟩ := gd hr
  refine .r0 G (.mu 2 (.p0 (v := .pp (l.flatMap (iC .u32)) (i.toNat * 1)) (tr (ofP_guard hg2)) (.p0 (v := aU32 (gt l i)) (tr (ofP_some (flat_get (iC_len .u32) (inR_lt hg2) (by decide : 0 < 1) (by omega : i.toNat * 1 = i.toNat * 1 + 0) (by kernel_rfl)))) (.mu 2 (.done (.ret ?_))))))
  obtain rfl := oi hr
  exact FinQ.r1 [aU64 (wrapF .u64 (gt l i))]
 ·refine .skip (.seq (.ru G (.ret ?_)))
  obtain rfl := oi hr
  exact FinQ.r1 [aU64 0]

theorem fiducialref01_minus_ok (n : Nat) (a : List Int) (b : List Int) (r : List Int) (hr : fiducialref01_minus n a b = some r) : FnOk Tryz.prog 83 [sU32 a, sU32 b] (sU32 r) := by
 unfold fiducialref01_minus at hr
 refine FnOk.bd G Tryz.func83 [.tmp 4] ?_
 unfold Tryz.f83
 simp only [Option.getD_some]
 refine .seq (.r4 G [0, 1] [] (.seq (.r5 G [0, 1] [(5, .hs 0 0 0 1)] [.own []] (.seq (.r4 G [0, 1, 5] [(6, aU64 0)] (.seq (.seq (.r4 G [0, 1, 5, 6] [(7, aI64 0)] (.block ?_)))))))))
 replace hr := bd hr; obtain ⟨out_11, hL21, hr⟩ := hr
 refine .loopO (σ := fun z0 => match z0 with | (out_1, borrow_2, i_3) => ⟨mkS 38 0 [(0, sU32 a), (1, sU32 b), (5, .hs 0 0 out_1.length 1), (6, aU64 borrow_2), (7, aI64 i_3)], [.own (out_1.flatMap (iC .u32))]⟩) (Q := fun x st' => x = .exit 0 ∧ Wk 0 st' ⟨mkS 38 0 [(5, .hs 0 0 out_11.length 1)], [.own (out_11.flatMap (iC .u32))]⟩) hL21 ((Wk.gc [0, 1, 5, 6, 7] [(0, false)] rfl (pKc trivial)).to) ?_ ?_
 ·clear hr
  rintro m ⟨out_1, borrow_2, i_3⟩ hr
  show CQ _ _ _ _ _ ⟨_, _⟩
  refine .seq (.seq (.r4 G [0, 1, 5, 6, 7] [(13, aB (decide (i_3 < (a.length : Int))))] ?_))
  refine .cd hr (fun hb13 hr => ?_) (fun hb13 hr => ?_)
  ·refine .skip (.seq (.block (.seq ?_)))
   obtain ⟨v14, hc15, v16, hc17, hr⟩ := bd2 hr
   refine .gn G (ca1 (ok0 (fiducialref01_group_ok n a i_3 v14 hc15)) (ca3 (ok0 (fiducialref01_group_ok n b i_3 v16 hc17)))) (.mu 2 (.ca cf0 (.mu 3 (.ca (cfA (fun h => by rw [sv hc17 hc15 (fiducialref01_group_cg n h)]) cf0) (.mu 4 (.done (.nh [0, 1, 5, 7, 8] [.own (out_1.flatMap (iC .u32))] (.seq ?_))))))))
   obtain ⟨hg18, hg19, hr⟩ := gd2 hr
   refine .r0 G (.mu 5 (.e0 (v := .hs 2 0 (out_1 ++ [wrapF .u32 ((wrapF .u64 ((wrapF .u64 ((wrapF .u64 (1000000000 + v14)) - v16)) - borrow_2)).tmod 1000000000)]).length 1) (ws := [(0, .dead), (2, .own ((out_1 ++ [wrapF .u32 ((wrapF .u64 ((wrapF .u64 ((wrapF .u64 (1000000000 + v14)) - v16)) - borrow_2)).tmod 1000000000)]).flatMap (iC .u32)))]) (tr (app_own (new := [aU32 (wrapF .u32 ((wrapF .u64 ((wrapF .u64 ((wrapF .u64 (1000000000 + v14)) - v16)) - borrow_2)).tmod 1000000000))]) (l := out_1) (xs := [wrapF .u32 ((wrapF .u64 ((wrapF .u64 ((wrapF .u64 (1000000000 + v14)) - v16)) - borrow_2)).tmod 1000000000)]) (iC_len .u32) rfl rfl (by kernel_rfl) hg18 hg19)) (.mu 1 (.done (.nh [0, 1, 5, 7, 8] [.dead, .own [aU32 (wrapF .u32 ((wrapF .u64 ((wrapF .u64 ((wrapF .u64 (1000000000 + v14)) - v16)) - borrow_2)).tmod 1000000000))], .own ((out_1 ++ [wrapF .u32 ((wrapF .u64 ((wrapF .u64 ((wrapF .u64 (1000000000 + v14)) - v16)) - borrow_2)).tmod 1000000000)]).flatMap (iC .u32))] (.ru G (.pop (.ru G ?_))))))))
   exact loopF_back (out_1 ++ [wrapF .u32 ((wrapF .u64 ((wrapF .u64 ((wrapF .u64 (1000000000 + v14)) - v16)) - borrow_2)).tmod 1000000000)], wrapF .u64 (1 - (wrapF .u64 ((wrapF .u64 ((wrapF .u64 ((wrapF .u64 (1000000000 + v14)) - v16)) - borrow_2)).tdiv 1000000000))), wrapF .i64 (i_3 + 1)) hr ((Wk.gc [0, 1, 5, 6, 7] [(2, false)] rfl (pKo (iC .u32) (iC_pure _) (out_1 ++ [wrapF .u32 ((wrapF .u64 ((wrapF .u64 ((wrapF .u64 (1000000000 + v14)) - v16)) - borrow_2)).tmod 1000000000)]) trivial)).to)
  ·refine .leave rfl ?_
   obtain rfl := oi hr
   exact ⟨rfl, ((Wk.gc [5] [(0, false)] rfl (pKo (iC .u32) (iC_pure _) out_1 trivial)).to)⟩
 ·rintro x st' hq22
  clear hL21
  obtain ⟨rfl, hq22⟩ := hq22
  refine CQ_exit _ rfl (.wk hq22 (.seq ?_))
  obtain ⟨v23, hc24, hr⟩ := bd hr
  refine .g1 G (callOk_ref (args := [aB false, .hs 0 0 out_11.length 1]) (l := [0]) (SnL.cons (Sn.pure rfl) (SnL.cons (Sn.hs rfl (.inl rfl) (SnC.pure (ids_flat (iC_pure _) _)) (fun h => flat_nil0 h)) SnL.nil)) (fiducialref01_made_ok n false out_11 v23 hc24)) (.mu 1 (.ca cf0 (.mu 2 (.done (.ret ?_)))))
  obtain rfl := oi hr
  exact FinQ.r1 [sU32 v23.Groups]

theorem fiducialref01_parts_ok (n : Nat) (a : List Int) (b : List Int) (r : List Int × List Int) (hr : fiducialref01_parts n a b = some r) : FnOk Tryz.prog 60 [sU32 a, sU32 b] (.tup [sU32 r.1, sU32 r.2]) := by
 unfold fiducialref01_parts at hr
 refine FnOk.bd G Tryz.func60 [.tmp 4, .tmp 5] ?_
 unfold Tryz.f60
 simp only [Option.getD_some]
 refine .seq (.r4 G [0, 1] [] (.seq (.r4 G [0, 1] [(6, aI64 (b.length : Int))] (.seq (.seq (.r4 G [0, 1, 6] [(19, aB (((b.length : Int) : Int) == 1))] ?_))))))
 refine .cd hr (fun hb1 hr => ?_) (fun hb1 hr => ?_)
 ·refine .seq ?_
  obtain ⟨hg2, hr⟩ := gd hr
  obtain ⟨v3, hc4, hr⟩ := bd hr
  refine .g1 G (ok0 (fiducialref01_short_ok n a (wrapF .u64 (gt b 0)) v3 hc4)) (.mu 2 (.p0 (v := .pp (b.flatMap (iC .u32)) ((0 : Int).toNat * 1)) (tr (ofP_guard hg2)) (.p0 (v := aU32 (gt b 0)) (tr (ofP_some (flat_get (iC_len .u32) (inR_lt hg2) (by decide : 0 < 1) (by omega : (0 : Int).toNat * 1 = (0 : Int).toNat * 1 + 0) (by kernel_rfl)))) (.mu 1 (.ca cf0 (.mu 5 (.done (.nh [7, 8] [] (.seq ?_)))))))))
  obtain ⟨v5, hc6, hr⟩ := bd hr
  refine .gn G (ca4 [.own [aU32 (wrapF .u32 v3.2)]] (callOk_ref (args := [aB false, .hs 0 0 1 1]) (l := [0]) (SnL.cons (Sn.pure rfl) (SnL.cons (Sn.hs rfl (.inl rfl) (SnC.cons (Sn.pure rfl) SnC.nil) (fun h => nomatch h)) SnL.nil)) (fiducialref01_made_ok n false [(wrapF .u32 v3.2)] v5 hc6))) (.mu 4 (.ca cf0 (.mu 3 (.done (.ret ?_)))))
  obtain rfl := oi hr
  exact FinQ.ret (vs := [sU32 v3.1, sU32 v5.Groups]) (by kernel_rfl) (Sn.tup (SnL.cons (Sn.pure rfl) (SnL.cons (Sn.pure rfl) SnL.nil)))
 ·refine .skip (.seq (.seq ?_))
  obtain ⟨v7, hc8, hr⟩ := bd hr
  refine .g1 G (ok0 (fiducialref01_size_ok n a b v7 hc8)) (.mu 2 (.ca cf0 (.mu 1 (.done (.nh [0, 1, 6, 38] [] ?_)))))
  refine .cd hr (fun hb9 hr => ?_) (fun hb9 hr => ?_)
  ·refine .seq (.r5 G [] [(4, .hs 0 0 0 1), (5, sU32 a)] [.own []] (.ret ?_))
   obtain rfl := oi hr
   exact FinQ.ret (vs := [.hs 0 0 0 1, sU32 a]) (by kernel_rfl) (Sn.tup (SnL.cons (Sn.hs rfl (.inl rfl) SnC.nil (fun _ => rfl)) (SnL.cons (Sn.pure rfl) SnL.nil)))
  ·refine .skip (.seq ?_)
   obtain ⟨hg10, hg11, hr⟩ := gd2 hr
   refine .r0 G (.mu 3 (.p0 (v := .pp (b.flatMap (iC .u32)) ((wrapF .i64 ((b.length : Int) - 1)).toNat * 1)) (tr (ofP_guard hg10)) (.p0 (v := aU32 (gt b (wrapF .i64 ((b.length : Int) - 1)))) (tr (ofP_some (flat_get (iC_len .u32) (inR_lt hg10) (by decide : 0 < 1) (by omega : (wrapF .i64 ((b.length : Int) - 1)).toNat * 1 = (wrapF .i64 ((b.length : Int) - 1)).toNat * 1 + 0) (by kernel_rfl)))) (.mu 2 (.p0 (v := aU64 (wrapF .u64 ((1000000000 : Int).tdiv (wrapF .u64 ((wrapF .u64 (gt b (wrapF .i64 ((b.length : Int) - 1)))) + 1))))) (op_quo (x := 1000000000) (y := wrapF .u64 ((wrapF .u64 (gt b (wrapF .i64 ((b.length : Int) - 1)))) + 1)) (by kernel_rfl) (by kernel_rfl) hg11) (.mu 1 (.done (.nh [0, 1, 6, 9] [] (.seq ?_)))))))))
   obtain ⟨v12, hc13, v14, hc15, hr⟩ := bd2 hr
   refine .gn G (ca1 (ok0 (fiducialref01_scaled_ok n a (wrapF .u64 ((1000000000 : Int).tdiv (wrapF .u64 ((wrapF .u64 (gt b (wrapF .i64 ((b.length : Int) - 1)))) + 1)))) v12 hc13)) (ca3 (ok0 (fiducialref01_scaled_ok n b (wrapF .u64 ((1000000000 : Int).tdiv (wrapF .u64 ((wrapF .u64 (gt b (wrapF .i64 ((b.length : Int) - 1)))) + 1)))) v14 hc15)))) (.mu 2 (.ca cf0 (.mu 2 (.ca (cfA (fun h => by rw [sv hc15 hc13 (fiducialref01_scaled_cg n h)]) cf0) (.mu 2 (.done (.nh [0, 1, 6, 9] [] (.seq ?_))))))))
   obtain ⟨hg16, hr⟩ := gd hr
   obtain ⟨v17, hc18, hr⟩ := bd hr
   refine .g1 G (ok0 (fiducialref01_made_ok n false ((v12.drop (wrapF .i64 ((wrapF .i64 ((v12.length : Int) - (b.length : Int))) + 1)).toNat).take ((v12.length : Int).toNat - (wrapF .i64 ((wrapF .i64 ((v12.length : Int) - (b.length : Int))) + 1)).toNat)) v17 hc18)) (.mu 6 (.p0 (v := sU32 ((v12.drop (wrapF .i64 ((wrapF .i64 ((v12.length : Int) - (b.length : Int))) + 1)).toNat).take ((v12.length : Int).toNat - (wrapF .i64 ((wrapF .i64 ((v12.length : Int) - (b.length : Int))) + 1)).toNat))) (Eq.trans (b := slO (inS (wrapF .i64 ((wrapF .i64 ((v12.length : Int) - (b.length : Int))) + 1)) (v12.length : Int) v12.length) (wrapF .i64 ((wrapF .i64 ((v12.length : Int) - (b.length : Int))) + 1)).toNat (v12.length : Int).toNat (fun z1 z2 => .sl true (((v12.flatMap (iC .u32)).drop (z1 * 1)).take ((z2 - z1) * 1)) (z2 - z1))) (by kernel_rfl) (slO_t hg16 (sub_sl (iC_len _) (inS_le hg16)))) (.ca cf0 (.mu 2 (.done (.nh [0, 1, 6, 9, 10] [] (.seq ?_)))))))
   obtain ⟨hg19, hg20, hg21, hr⟩ := gd3 hr
   refine .r0 G (.mu 5 (.e0 (v := .hs 0 0 (List.replicate (wrapF .i64 ((wrapF .i64 ((v12.length : Int) - (b.length : Int))) + 1)).toNat ((0 : Int) : Int)).length 1) (ws := [(0, .own ((List.replicate (wrapF .i64 ((wrapF .i64 ((v12.length : Int) - (b.length : Int))) + 1)).toNat ((0 : Int) : Int)).flatMap (iC .u32)))]) (tr (make_own (c := (iC .u32)) (z := (0 : Int)) (n := wrapF .i64 ((wrapF .i64 ((v12.length : Int) - (b.length : Int))) + 1)) (by_ := 4) rfl hg19 hg20 hg21)) (.mu 1 (.done (.nh [0, 1, 6, 9, 10, 11] [.own ((List.replicate (wrapF .i64 ((wrapF .i64 ((v12.length : Int) - (b.length : Int))) + 1)).toNat ((0 : Int) : Int)).flatMap (iC .u32))] (.seq (.seq (.r4 G [0, 1, 6, 9, 10, 11] [(12, aI64 (wrapF .i64 ((v12.length : Int) - (b.length : Int))))] (.block ?_)))))))))
   replace hr := bd hr; obtain ⟨o94, hL95, hr⟩ := hr
   refine .loopO (σ := fun z0 => match z0 with | (rest_22, q_23, i_24) => ⟨mkS 130 0 [(0, sU32 v12), (1, sU32 v14), (6, aI64 (b.length : Int)), (9, aU64 (wrapF .u64 ((1000000000 : Int).tdiv (wrapF .u64 ((wrapF .u64 (gt b (wrapF .i64 ((b.length : Int) - 1)))) + 1))))), (10, sU32 rest_22), (11, .hs 0 0 q_23.length 1), (12, aI64 i_24)], [.own (q_23.flatMap (iC .u32))]⟩) (Q := fun x st' => match (generalizing := false) o94 with | (rest_58, q_59) => x = .exit 0 ∧ Wk 0 st' ⟨mkS 130 0 [(9, aU64 (wrapF .u64 ((1000000000 : Int).tdiv (wrapF .u64 ((wrapF .u64 (gt b (wrapF .i64 ((b.length : Int) - 1)))) + 1))))), (10, sU32 rest_58), (11, .hs 0 0 q_59.length 1)], [.own (q_59.flatMap (iC .u32))]⟩) hL95 ((Wk.gc [0, 1, 6, 9, 10, 11, 12] [(0, false)] rfl (pKo (iC .u32) (iC_pure _) (List.replicate (wrapF .i64 ((wrapF .i64 ((v12.length : Int) - (b.length : Int))) + 1)).toNat ((0 : Int) : Int)) trivial)).to) ?_ ?_
   ·clear hr
    rintro m ⟨rest_22, q_23, i_24⟩ hr
    show CQ _ _ _ _ _ ⟨_, _⟩
    refine .seq (.seq (.r4 G [0, 1, 6, 9, 10, 11, 12] [(75, aB (decide (i_24 ≥ 0)))] ?_))
    refine .cd hr (fun hb61 hr => ?_) (fun hb61 hr => ?_)
    ·refine .skip (.seq (.block (.seq ?_)))
     obtain ⟨hg62, hr⟩ := gd hr
     obtain ⟨v63, hc64, hr⟩ := bd hr
     refine .g1 G (ok0 (fiducialref01_shifted_ok n rest_22 (gt v12 i_24) v63 hc64)) (.mu 3 (.p0 (v := .pp (v12.flatMap (iC .u32)) (i_24.toNat * 1)) (tr (ofP_guard hg62)) (.p0 (v := aU32 (gt v12 i_24)) (tr (ofP_some (flat_get (iC_len .u32) (inR_lt hg62) (by decide : 0 < 1) (by omega : i_24.toNat * 1 = i_24.toNat * 1 + 0) (by kernel_rfl)))) (.ca cf0 (.mu 1 (.done (.nh [0, 1, 6, 9, 10, 11, 12] [.own (q_23.flatMap (iC .u32))] (.seq ?_))))))))
     obtain ⟨v65, hc66, v67, hc68, hr⟩ := bd2 hr
     obtain ⟨hg69, hg70, hr⟩ := gd2 hr
     refine .tn G (ca1 (ok0 (fiducialref01_group_ok n v63 (b.length : Int) v65 hc66)) (ca3 (ok0 (fiducialref01_group_ok n v63 (wrapF .i64 ((b.length : Int) - 1)) v67 hc68)))) (.mu 2 (.ca cf0 (.mu 4 (.ca (cfA (fun h => by rw [sv hc68 hc66 (fiducialref01_group_cg n h)]) cf0) (.mu 4 (.pure (v := .pp (v14.flatMap (iC .u32)) ((wrapF .i64 ((b.length : Int) - 1)).toNat * 1)) (by kernel_rfl) (tr (ofP_guard hg69)) (by kernel_rfl) (.pure (v := aU32 (gt v14 (wrapF .i64 ((b.length : Int) - 1)))) (by kernel_rfl) (tr (ofP_some (flat_get (iC_len .u32) (inR_lt hg69) (by decide : 0 < 1) (by omega : (wrapF .i64 ((b.length : Int) - 1)).toNat * 1 = (wrapF .i64 ((b.length : Int) - 1)).toNat * 1 + 0) (by kernel_rfl)))) (by kernel_rfl) (.mu 2 (.pure (v := aU64 (wrapF .u64 ((wrapF .u64 ((wrapF .u64 (v65 * 1000000000)) + v67)).tdiv (wrapF .u64 ((wrapF .u64 (gt v14 (wrapF .i64 ((b.length : Int) - 1)))) + 1))))) (by kernel_rfl) (op_quo (x := wrapF .u64 ((wrapF .u64 (v65 * 1000000000)) + v67)) (y := wrapF .u64 ((wrapF .u64 (gt v14 (wrapF .i64 ((b.length : Int) - 1)))) + 1)) (by kernel_rfl) (by kernel_rfl) hg70) (by kernel_rfl) (.mu 1 ?_))))))))))
     refine .done ⟨by kernel_rfl, ?_⟩
     refine .nh [0, 1, 6, 9, 10, 11, 12, 13] [.own (q_23.flatMap (iC .u32))] (.seq ?_)
     obtain ⟨v71, hc72, v73, hc74, hr⟩ := bd2 hr
     refine .gn G (ca1 (ok0 (fiducialref01_scaled_ok n v14 (wrapF .u64 ((wrapF .u64 ((wrapF .u64 (v65 * 1000000000)) + v67)).tdiv (wrapF .u64 ((wrapF .u64 (gt v14 (wrapF .i64 ((b.length : Int) - 1)))) + 1)))) v71 hc72)) (ca3 (ok0 (fiducialref01_minus_ok n v63 v71 v73 hc74)))) (.mu 3 (.ca cf0 (.ca (cfF cf0) (.mu 1 (.done (.nh [0, 1, 6, 9, 10, 11, 12, 13] [.own (q_23.flatMap (iC .u32))] (.seq (.block ?_))))))))
     replace hr := bd hr; obtain ⟨o90, hL91, hr⟩ := hr
     refine .loopO (σ := fun z0 => match z0 with | (rest_75, guess_76) => ⟨mkS 130 0 [(0, sU32 v12), (1, sU32 v14), (6, aI64 (b.length : Int)), (9, aU64 (wrapF .u64 ((1000000000 : Int).tdiv (wrapF .u64 ((wrapF .u64 (gt b (wrapF .i64 ((b.length : Int) - 1)))) + 1))))), (10, sU32 rest_75), (11, .hs 0 0 q_23.length 1), (12, aI64 i_24), (13, aU64 guess_76)], [.own (q_23.flatMap (iC .u32))]⟩) (Q := fun x st' => match (generalizing := false) o90 with | (rest_82, guess_83) => x = .exit 2 ∧ Wk 0 st' ⟨mkS 130 0 [(0, sU32 v12), (1, sU32 v14), (6, aI64 (b.length : Int)), (9, aU64 (wrapF .u64 ((1000000000 : Int).tdiv (wrapF .u64 ((wrapF .u64 (gt b (wrapF .i64 ((b.length : Int) - 1)))) + 1))))), (10, sU32 rest_82), (11, .hs 0 0 q_23.length 1), (12, aI64 i_24), (13, aU64 guess_83)], [.own (q_23.flatMap (iC .u32))]⟩) hL91 ((Wk.gc [0, 1, 6, 9, 10, 11, 12, 13] [(0, false)] rfl (pKo (iC .u32) (iC_pure _) q_23 trivial)).to) ?_ ?_
     ·clear hr
      rintro m ⟨rest_75, guess_76⟩ hr
      show CQ _ _ _ _ _ ⟨_, _⟩
      refine .seq (.seq ?_)
      obtain ⟨v85, hc86, hr⟩ := bd hr
      refine .g1 G (ok0 (fiducialref01_size_ok n rest_75 v14 v85 hc86)) (.mu 2 (.ca cf0 (.mu 1 (.done (.nh [0, 1, 6, 9, 10, 11, 12, 13, 109] [.own (q_23.flatMap (iC .u32))] ?_)))))
      refine .cd hr (fun hb87 hr => ?_) (fun hb87 hr => ?_)
      ·refine .skip (.block (.seq ?_))
       obtain ⟨v88, hc89, hr⟩ := bd hr
       refine .g1 G (ok0 (fiducialref01_minus_ok n rest_75 v14 v88 hc89)) (.mu 2 (.ca cf0 (.mu 1 (.done (.nh [0, 1, 6, 9, 10, 11, 12, 13] [.own (q_23.flatMap (iC .u32))] (.ru G (.pop ?_)))))))
       exact loopF_back (v88, wrapF .u64 (guess_76 + 1)) hr ((Wk.gc [0, 1, 6, 9, 10, 11, 12, 13] [(0, false)] rfl (pKo (iC .u32) (iC_pure _) q_23 trivial)).to)
      ·refine .leave rfl ?_
       obtain rfl := oi hr
       exact ⟨rfl, ((Wk.gc [0, 1, 6, 9, 10, 11, 12, 13] [(0, false)] rfl (pKo (iC .u32) (iC_pure _) q_23 trivial)).to)⟩
     ·rcases o90 with ⟨rest_82, guess_83⟩
      rintro x st' hq92
      clear hL91
      obtain ⟨rfl, hq92⟩ := hq92
      refine CQ_exit _ rfl (.wk hq92 ?_)
      obtain ⟨hg93, hr⟩ := gd hr
      refine .r0 G (.mu 4 (.p0 (v := .hp 0 (0 + i_24.toNat * 1)) (tr (ofP_guard hg93)) (.e0 (v := .unk) (ws := [(0, .own ((q_23.set i_24.toNat (wrapF .u32 guess_83)).flatMap (iC .u32)))]) (tr (stO_t (and_t (flat_fits (n := 1) (iC_len .u32) (inR_lt hg93) (Nat.le_of_ble_eq_true rfl) (by omega : 0 + i_24.toNat * 1 = i_24.toNat * 1 + 0))) (congrArg Blk.own (flat_set (xs := [aU32 (wrapF .u32 guess_83)]) (iC_len .u32) (inR_lt hg93) (Nat.le_of_ble_eq_true rfl) (by omega : 0 + i_24.toNat * 1 = i_24.toNat * 1 + 0) (by kernel_rfl))))) (.done (.pop (.ru G ?_))))))
      exact loopF_back (rest_82, q_23.set i_24.toNat (wrapF .u32 guess_83), wrapF .i64 (i_24 - 1)) hr ((Wk.relen 11 (b := 0) (es := 1) (len := q_23.length) (q_23.set i_24.toNat (wrapF .u32 guess_83)).length (by kernel_rfl) (Eq.symm (List.length_set.trans rfl))).trans ((Wk.gc [0, 1, 6, 9, 10, 11, 12] [(0, false)] rfl (pKo (iC .u32) (iC_pure _) (q_23.set i_24.toNat (wrapF .u32 guess_83)) trivial)).to))
    ·refine .leave rfl ?_
     obtain rfl := oi hr
     exact ⟨rfl, ((Wk.gc [9, 10, 11] [(0, false)] rfl (pKo (iC .u32) (iC_pure _) q_23 trivial)).to)⟩
   ·rcases o94 with ⟨rest_58, q_59⟩
    rintro x st' hq96
    clear hL95
    obtain ⟨rfl, hq96⟩ := hq96
    refine CQ_exit _ rfl (.wk hq96 (.seq ?_))
    obtain ⟨v97, hc98, hr⟩ := bd hr
    refine .g1 G (ok0 (fiducialref01_short_ok n rest_58 (wrapF .u64 ((1000000000 : Int).tdiv (wrapF .u64 ((wrapF .u64 (gt b (wrapF .i64 ((b.length : Int) - 1)))) + 1)))) v97 hc98)) (.mu 2 (.ca cf0 (.mu 5 (.done (.nh [11, 14] [.own (q_59.flatMap (iC .u32))] (.seq ?_))))))
    obtain ⟨v99, hc100, hr⟩ := bd hr
    refine .g1 G (callOk_ref (args := [aB false, .hs 0 0 q_59.length 1]) (l := [0]) (SnL.cons (Sn.pure rfl) (SnL.cons (Sn.hs rfl (.inl rfl) (SnC.pure (ids_flat (iC_pure _) _)) (fun h => flat_nil0 h)) SnL.nil)) (fiducialref01_made_ok n false q_59 v99 hc100)) (.mu 1 (.ca cf0 (.mu 4 (.done (.ret ?_)))))
    obtain rfl := oi hr
    exact FinQ.ret (vs := [sU32 v99.Groups, sU32 v97.1]) (by kernel_rfl) (Sn.tup (SnL.cons (Sn.pure rfl) (SnL.cons (Sn.pure rfl) SnL.nil)))

theorem fiducialref01_pair_inj {a : List Int} {a_ : List Int} (h : ([slT (iC .u32) a] : List AV) = [slT (iC .u32) a_]) : a = a_ := by
 simp only [List.cons.injEq, AV.agg.injEq, AV.at.injEq, Value.int.injEq, Value.bool.injEq, AV.fn.injEq, AV.pp.injEq, true_and, and_true, slT_inj_int] at h
 simp_all
theorem fiducialref01_pair_cg (n : Nat) {a : List Int} {a_ : List Int} (h : ([slT (iC .u32) a] : List AV) = [slT (iC .u32) a_]) : fiducialref01_pair n a = fiducialref01_pair n a_ := by
 obtain rfl := fiducialref01_pair_inj h
 rfl
theorem fiducialref01_pair_ok (n : Nat) (a : List Int) (r : Int) (hr : fiducialref01_pair n a = some r) : FnOk Tryz.prog 62 [sU32 a] (aU64 r) := by
 unfold fiducialref01_pair at hr
 refine FnOk.bd G Tryz.func62 [.tmp 2] ?_
 unfold Tryz.f62
 simp only [Option.getD_some]
 refine .seq (.r4 G [0] [] (.seq ?_))
 obtain ⟨v1, hc2, v3, hc4, hr⟩ := bd2 hr
 refine .gn G (ca1 (ok0 (fiducialref01_group_ok n a 1 v1 hc2)) (ca3 (ok0 (fiducialref01_group_ok n a 0 v3 hc4)))) (.mu 1 (.ca cf0 (.mu 2 (.ca (cfA (fun h => by rw [sv hc4 hc2 (fiducialref01_group_cg n h)]) cf0) (.mu 2 (.done (.ret ?_)))))))
 obtain rfl := oi hr
 exact FinQ.r1 [aU64 (wrapF .u64 ((wrapF .u64 (v1 * 1000000000)) + v3))]

theorem fiducialref01_Gcd_ok (n : Nat) (x' : api_Int) (y : api_Int) (r : api_Int) (hr : fiducialref01_Gcd n x' y = some r) : FnOk Tryz.prog 42 [.agg (api_Int.c x'), .agg (api_Int.c y)] (.agg (api_Int.c r)) := by
 unfold fiducialref01_Gcd at hr
 refine FnOk.bd G Tryz.func42 [.cell 4 50] ?_
 unfold Tryz.f42
 simp only [Option.getD_some]
 refine .seq (.r2 G 61 [(2, .hp 0 0), (3, .hp 1 0), (4, .hp 2 0)] [.own (api_Int.c x'), .own (api_Int.c y), .own [aB false, nS]] (.seq ?_))
 obtain ⟨v1, hc2, v3, hc4, hr⟩ := bd2 hr
 refine .tn G (ca1 (ok0 (fiducialref01_Value_ok n x' v1 hc2)) (ca3 (ok0 (fiducialref01_Value_ok n y v3 hc4)))) (.mu 1 (.ca cf0 (.mu 2 (.ca (cfA (fun h => by rw [sv hc4 hc2 (fiducialref01_Value_cg n h)]) cf0) (.mu 3 ?_)))))
 refine .done ⟨by kernel_rfl, ?_⟩
 refine .nh [4, 5, 6] [.own (api_Int.c x'), .own (api_Int.c y), .own [aB false, nS]] (.seq (.block ?_))
 replace hr := bd hr; obtain ⟨o24, hL25, hr⟩ := hr
 refine .loopO (σ := fun z0 => match z0 with | (a_5, b_6) => ⟨mkS 61 0 [(4, .hp 0 0), (5, sU32 a_5), (6, sU32 b_6)], [.own [aB false, nS]]⟩) (Q := fun x st' => match (generalizing := false) o24 with | (a_14, b_15) => x = .exit 0 ∧ Wk 0 st' ⟨mkS 61 0 [(4, .hp 0 0), (5, sU32 a_14), (6, sU32 b_15)], [.own [aB false, nS]]⟩) hL25 ((Wk.gc [4, 5, 6] [(2, true)] rfl trivial).to) ?_ ?_
 ·clear hr
  rintro m ⟨a_5, b_6⟩ hr
  show CQ _ _ _ _ _ ⟨_, _⟩
  refine .seq (.seq ?_)
  rcases Bool.eq_false_or_eq_true (decide ((b_6.length : Int) > 0)) with hb17 | hb17
  ·replace hr := cd_t hb17 hr
   rcases Bool.eq_false_or_eq_true (decide ((a_5.length : Int) > 2)) with hb18 | hb18
   ·replace hr := cd_t hb18 hr
    refine .r0 G (.mu 2 (.p0 (v := aB true) (eB hb17) (.mu 3 (.pure (v := aB true) (by kernel_rfl) (eB hb18) (.mu 6 (.done (.nh [4, 5, 6, 29] [.own [aB false, nS]] (.cT (by kernel_rfl) (.skip (.block (.seq ?_)))))))))))
    obtain ⟨v19, hc20, hr⟩ := bd hr
    refine .g1 G (ok0 (fiducialref01_parts_ok n a_5 b_6 v19 hc20)) (.mu 2 (.ca cf0 (.mu 5 (.done (.nh [4, 6, 8] [.own [aB false, nS]] (.ru G (.pop ?_)))))))
    exact loopF_back (b_6, v19.2) hr ((Wk.gc [4, 5, 6] [(0, true)] rfl trivial).to)
   ·replace hr := cd_f hb18 hr
    refine .r0 G (.mu 2 (.p0 (v := aB true) (eB hb17) (.mu 3 (.pure (v := aB false) (by kernel_rfl) (eB hb18) (.mu 6 (.done (.nh [4, 5, 6, 29] [.own [aB false, nS]] ?_)))))))
    refine .cd hr (fun hb21 hr => ?_) (fun hb21 hr => ?_)
    ·refine .skip (.block (.seq ?_))
     obtain ⟨v22, hc23, hr⟩ := bd hr
     refine .g1 G (ok0 (fiducialref01_parts_ok n a_5 b_6 v22 hc23)) (.mu 2 (.ca cf0 (.mu 5 (.done (.nh [4, 6, 8] [.own [aB false, nS]] (.ru G (.pop ?_)))))))
     exact loopF_back (b_6, v22.2) hr ((Wk.gc [4, 5, 6] [(0, true)] rfl trivial).to)
    ·refine .leave rfl ?_
     obtain rfl := oi hr
     exact ⟨rfl, ((Wk.gc [4, 5, 6] [(0, true)] rfl trivial).to)⟩
  ·replace hr := cd_f hb17 hr
   refine .r0 G (.mu 2 (.p0 (v := aB false) (eB hb17) (.mu 10 (.done (.nh [4, 5, 6, 29] [.own [aB false, nS]] (.cF (by kernel_rfl) (.leave rfl ?_)))))))
   obtain rfl := oi hr
   exact ⟨rfl, ((Wk.gc [4, 5, 6] [(0, true)] rfl trivial).to)⟩
 ·rcases o24 with ⟨a_14, b_15⟩
  rintro x st' hq26
  clear hL25
  obtain ⟨rfl, hq26⟩ := hq26
  refine CQ_exit _ rfl (.wk hq26 (.seq (.seq (.r4 G [4, 5, 6] [(40, aB (((b_15.length : Int) : Int) == 0))] ?_))))
  refine .cd hr (fun hb27 hr => ?_) (fun hb27 hr => ?_)
  ·refine .seq ?_
   obtain ⟨v28, hc29, hr⟩ := bd hr
   refine .g1 G (ok0 (fiducialref01_made_ok n false a_14 v28 hc29)) (.mu 1 (.ca cf0 (.mu 1 (.done (.nh [4] [.own (api_Int.c v28)] (.ret ?_))))))
   obtain rfl := oi hr
   exact FinQ.r1 [.agg (api_Int.c v28)]
  ·refine .skip (.seq ?_)
   obtain ⟨v30, hc31, v32, hc33, hr⟩ := bd2 hr
   refine .gn G (ca1 (ok0 (fiducialref01_pair_ok n a_14 v30 hc31)) (ca3 (ok0 (fiducialref01_pair_ok n b_15 v32 hc33)))) (.mu 1 (.ca cf0 (.mu 1 (.ca (cfA (fun h => by rw [sv hc33 hc31 (fiducialref01_pair_cg n h)]) cf0) (.mu 2 (.done (.nh [4, 9, 10] [.own [aB false, nS]] (.seq (.block ?_)))))))))
   replace hr := bd hr; obtain ⟨u_38, hL43, hr⟩ := hr
   refine .loopO (σ := fun z0 => match z0 with | (u_34, v_35) => ⟨mkS 61 0 [(4, .hp 0 0), (9, aU64 u_34), (10, aU64 v_35)], [.own [aB false, nS]]⟩) (Q := fun x st' => x = .exit 2 ∧ Wk 0 st' ⟨mkS 61 0 [(4, .hp 0 0), (9, aU64 u_38)], [.own [aB false, nS]]⟩) hL43 ((Wk.gc [4, 9, 10] [(0, true)] rfl trivial).to) ?_ ?_
   ·clear hr
    rintro m ⟨u_34, v_35⟩ hr
    show CQ _ _ _ _ _ ⟨_, _⟩
    refine .seq (.seq (.r4 G [4, 9, 10] [(48, aB (decide (v_35 > 0)))] ?_))
    refine .cd hr (fun hb40 hr => ?_) (fun hb40 hr => ?_)
    ·refine .skip (.block ?_)
     obtain ⟨hg41, hr⟩ := gd hr
     refine .regionT G callOf_nil (.mu 3 (.pure (v := aU64 (u_34.tmod v_35)) (by kernel_rfl) (op_rem (x := u_34) (y := v_35) (by kernel_rfl) (by kernel_rfl) hg41) (by kernel_rfl) (.mu 2 ?_)))
     refine .done ⟨by kernel_rfl, ?_⟩
     refine .pop ?_
     exact loopF_back (v_35, u_34.tmod v_35) hr ((Wk.gc [4, 9, 10] [(0, true)] rfl trivial).to)
    ·refine .leave rfl ?_
     obtain rfl := oi hr
     exact ⟨rfl, ((Wk.gc [4, 9] [(0, true)] rfl trivial).to)⟩
   ·rintro x st' hq44
    clear hL43
    obtain ⟨rfl, hq44⟩ := hq44
    refine CQ_exit _ rfl (.wk hq44 (.seq ?_))
    obtain ⟨v45, hc46, hr⟩ := bd hr
    refine .gn G (ca4 [.own [aB false, nS], .own [aU32 (wrapF .u32 (u_38.tmod 1000000000)), aU32 (wrapF .u32 (wrapF .u64 (u_38.tdiv 1000000000)))]] (callOk_ref (args := [aB false, .hs 1 0 2 1]) (l := [1]) (SnL.cons (Sn.pure rfl) (SnL.cons (Sn.hs rfl (.inl rfl) (SnC.cons (Sn.pure rfl) (SnC.cons (Sn.pure rfl) SnC.nil)) (fun h => nomatch h)) SnL.nil)) (fiducialref01_made_ok n false [(wrapF .u32 (u_38.tmod 1000000000)), (wrapF .u32 (wrapF .u64 (u_38.tdiv 1000000000)))] v45 hc46))) (.mu 7 (.ca cf0 (.mu 1 (.done (.nh [4] [.own (api_Int.c v45), .fix [aU32 (wrapF .u32 (u_38.tmod 1000000000)), aU32 (wrapF .u32 (wrapF .u64 (u_38.tdiv 1000000000)))]] (.ret ?_))))))
    obtain rfl := oi hr
    exact FinQ.r1 [.agg (api_Int.c v45)]

theorem fiducialref01_Of_ok (n : Nat) (n' : Int) (r : api_Int) (hr : fiducialref01_Of n n' = some r) : FnOk Tryz.prog 63 [aI64 n'] (.agg (api_Int.c r)) := by
 unfold fiducialref01_Of at hr
 refine FnOk.bd G Tryz.func63 [.cell 2 50] ?_
 unfold Tryz.f63
 simp only [Option.getD_some]
 refine .seq (.r5 G [0] [(2, .hp 0 0)] [.own [aB false, nS]] (.seq (.r4 G [0, 2] [(3, aU64 (wrapF .u64 n'))] (.seq (.seq (.r4 G [0, 2, 3] [(8, aB (decide (n' < 0)))] ?_))))))
 refine .cd hr (fun hb1 hr => ?_) (fun hb1 hr => ?_)
 ·refine .r0 G (.mu 2 (.p0 (v := aI64 (wrapF .i64 (0 - (wrapF .i64 (n' + 1))))) (Eq.trans (b := some (.pure (aI64 (IntKind.wrap .i64 (0 - (wrapF .i64 (n' + 1))))))) (by kernel_rfl) wrap_at) (.mu 3 (.done (.nh [0, 2, 3] [.own [aB false, nS]] (.seq (.r5 G [0, 2, 3] [(4, .hs 1 0 0 1)] [.own [aB false, nS], .own []] (.seq (.block ?_)))))))))
  replace hr := bd hr; obtain ⟨l_7, hL13, hr⟩ := hr
  refine .loopO (σ := fun z0 => match z0 with | (u_2, l_3) => ⟨mkS 29 0 [(0, aI64 n'), (2, .hp 0 0), (3, aU64 u_2), (4, .hs 1 0 l_3.length 1)], [.own [aB false, nS], .own (l_3.flatMap (iC .u32))]⟩) (Q := fun x st' => x = .exit 0 ∧ Wk 0 st' ⟨mkS 29 0 [(0, aI64 n'), (2, .hp 0 0), (4, .hs 1 0 l_7.length 1)], [.own [aB false, nS], .own (l_7.flatMap (iC .u32))]⟩) hL13 ((Wk.gc [0, 2, 3, 4] [(0, true), (1, false)] rfl (pKt (pKc trivial))).to) ?_ ?_
  ·clear hr
   rintro m ⟨u_2, l_3⟩ hr
   show CQ _ _ _ _ _ ⟨_, _⟩
   refine .seq (.seq (.r4 G [0, 2, 3, 4] [(16, aB (decide (u_2 > 0)))] ?_))
   refine .cd hr (fun hb9 hr => ?_) (fun hb9 hr => ?_)
   ·refine .skip (.block (.seq ?_))
    obtain ⟨hg10, hg11, hr⟩ := gd2 hr
    refine .r0 G (.mu 5 (.e0 (v := .hs 3 0 (l_3 ++ [wrapF .u32 (u_2.tmod 1000000000)]).length 1) (ws := [(1, .dead), (3, .own ((l_3 ++ [wrapF .u32 (u_2.tmod 1000000000)]).flatMap (iC .u32)))]) (tr (app_own (new := [aU32 (wrapF .u32 (u_2.tmod 1000000000))]) (l := l_3) (xs := [wrapF .u32 (u_2.tmod 1000000000)]) (iC_len .u32) rfl rfl (by kernel_rfl) hg10 hg11)) (.mu 1 (.done (.nh [0, 2, 3, 4] [.own [aB false, nS], .dead, .own [aU32 (wrapF .u32 (u_2.tmod 1000000000))], .own ((l_3 ++ [wrapF .u32 (u_2.tmod 1000000000)]).flatMap (iC .u32))] (.ru G (.pop ?_)))))))
    exact loopF_back (wrapF .u64 (u_2.tdiv 1000000000), l_3 ++ [wrapF .u32 (u_2.tmod 1000000000)]) hr ((Wk.gc [0, 2, 3, 4] [(0, true), (3, false)] rfl (pKt (pKo (iC .u32) (iC_pure _) (l_3 ++ [wrapF .u32 (u_2.tmod 1000000000)]) trivial))).to)
   ·refine .leave rfl ?_
    obtain rfl := oi hr
    exact ⟨rfl, ((Wk.gc [0, 2, 4] [(0, true), (1, false)] rfl (pKt (pKo (iC .u32) (iC_pure _) l_3 trivial))).to)⟩
  ·rintro x st' hq14
   clear hL13
   obtain ⟨rfl, hq14⟩ := hq14
   refine CQ_exit _ rfl (.wk hq14 (.seq ?_))
   obtain ⟨v15, hc16, hr⟩ := bd hr
   refine .g1 G (callOk_ref (args := [aB true, .hs 1 0 l_7.length 1]) (l := [1]) (SnL.cons (Sn.pure rfl) (SnL.cons (Sn.hs rfl (.inl rfl) (SnC.pure (ids_flat (iC_pure _) _)) (fun h => flat_nil0 h)) SnL.nil)) (fiducialref01_made_ok n true l_7 v15 hc16)) (.mu 1 (.p0 (v := aB true) (eB hb1) (.mu 1 (.ca cf0 (.mu 1 (.done (.nh [2] [.own (api_Int.c v15), .fix (l_7.flatMap (iC .u32))] (.ret ?_))))))))
   obtain rfl := oi hr
   exact FinQ.r1 [.agg (api_Int.c v15)]
 ·refine .skip (.seq (.r5 G [0, 2, 3] [(4, .hs 1 0 0 1)] [.own [aB false, nS], .own []] (.seq (.block ?_))))
  replace hr := bd hr; obtain ⟨l_22, hL28, hr⟩ := hr
  refine .loopO (σ := fun z0 => match z0 with | (u_17, l_18) => ⟨mkS 29 0 [(0, aI64 n'), (2, .hp 0 0), (3, aU64 u_17), (4, .hs 1 0 l_18.length 1)], [.own [aB false, nS], .own (l_18.flatMap (iC .u32))]⟩) (Q := fun x st' => x = .exit 0 ∧ Wk 0 st' ⟨mkS 29 0 [(0, aI64 n'), (2, .hp 0 0), (4, .hs 1 0 l_22.length 1)], [.own [aB false, nS], .own (l_22.flatMap (iC .u32))]⟩) hL28 ((Wk.gc [0, 2, 3, 4] [(0, true), (1, false)] rfl (pKt (pKc trivial))).to) ?_ ?_
  ·clear hr
   rintro m ⟨u_17, l_18⟩ hr
   show CQ _ _ _ _ _ ⟨_, _⟩
   refine .seq (.seq (.r4 G [0, 2, 3, 4] [(16, aB (decide (u_17 > 0)))] ?_))
   refine .cd hr (fun hb24 hr => ?_) (fun hb24 hr => ?_)
   ·refine .skip (.block (.seq ?_))
    obtain ⟨hg25, hg26, hr⟩ := gd2 hr
    refine .r0 G (.mu 5 (.e0 (v := .hs 3 0 (l_18 ++ [wrapF .u32 (u_17.tmod 1000000000)]).length 1) (ws := [(1, .dead), (3, .own ((l_18 ++ [wrapF .u32 (u_17.tmod 1000000000)]).flatMap (iC .u32)))]) (tr (app_own (new := [aU32 (wrapF .u32 (u_17.tmod 1000000000))]) (l := l_18) (xs := [wrapF .u32 (u_17.tmod 1000000000)]) (iC_len .u32) rfl rfl (by kernel_rfl) hg25 hg26)) (.mu 1 (.done (.nh [0, 2, 3, 4] [.own [aB false, nS], .dead, .own [aU32 (wrapF .u32 (u_17.tmod 1000000000))], .own ((l_18 ++ [wrapF .u32 (u_17.tmod 1000000000)]).flatMap (iC .u32))] (.ru G (.pop ?_)))))))
    exact loopF_back (wrapF .u64 (u_17.tdiv 1000000000), l_18 ++ [wrapF .u32 (u_17.tmod 1000000000)]) hr ((Wk.gc [0, 2, 3, 4] [(0, true), (3, false)] rfl (pKt (pKo (iC .u32) (iC_pure _) (l_18 ++ [wrapF .u32 (u_17.tmod 1000000000)]) trivial))).to)
   ·refine .leave rfl ?_
    obtain rfl := oi hr
    exact ⟨rfl, ((Wk.gc [0, 2, 4] [(0, true), (1, false)] rfl (pKt (pKo (iC .u32) (iC_pure _) l_18 trivial))).to)⟩
  ·rintro x st' hq29
   clear hL28
   obtain ⟨rfl, hq29⟩ := hq29
   refine CQ_exit _ rfl (.wk hq29 (.seq ?_))
   obtain ⟨v30, hc31, hr⟩ := bd hr
   refine .g1 G (callOk_ref (args := [aB false, .hs 1 0 l_22.length 1]) (l := [1]) (SnL.cons (Sn.pure rfl) (SnL.cons (Sn.hs rfl (.inl rfl) (SnC.pure (ids_flat (iC_pure _) _)) (fun h => flat_nil0 h)) SnL.nil)) (fiducialref01_made_ok n false l_22 v30 hc31)) (.mu 1 (.p0 (v := aB false) (eB hb1) (.mu 1 (.ca cf0 (.mu 1 (.done (.nh [2] [.own (api_Int.c v30), .fix (l_22.flatMap (iC .u32))] (.ret ?_))))))))
   obtain rfl := oi hr
   exact FinQ.r1 [.agg (api_Int.c v30)]

theorem fiducialref02_whole_cg (n : Nat) {n' : Int} {n'_ : Int} (h : ([.at (.int .i64 n')] : List AV) = [.at (.int .i64 n'_)]) : fiducialref02_whole n n' = fiducialref02_whole n n'_ := by
 obtain rfl := plan_within_inj h
 rfl
theorem fiducialref02_whole_ok (n : Nat) (n' : Int) (r : api_Int) (hr : fiducialref02_whole n n' = some r) : FnOk Tryz.prog 43 [aI64 n'] (.agg (api_Int.c r)) := by
 unfold fiducialref02_whole at hr
 refine FnOk.bd G Tryz.func43 [.cell 2 50] ?_
 unfold Tryz.f43
 simp only [Option.getD_some]
 refine .seq (.r5 G [0] [(2, .hp 0 0)] [.own [aB false, nS]] (.seq ?_))
 obtain ⟨v1, hc2, hr⟩ := bd hr
 refine .g1 G (ok0 (fiducialref01_Of_ok n n' v1 hc2)) (.mu 1 (.ca cf0 (.mu 1 (.done (.nh [2] [.own (api_Int.c v1)] (.ret ?_))))))
 obtain rfl := oi hr
 exact FinQ.r1 [.agg (api_Int.c v1)]

theorem fiducialref01_Neg_ok (n : Nat) (x' : api_Int) (r : api_Int) (hr : fiducialref01_Neg n x' = some r) : FnOk Tryz.prog 77 [.agg (api_Int.c x')] (.agg (api_Int.c r)) := by
 unfold fiducialref01_Neg at hr
 refine FnOk.bd G Tryz.func77 [.cell 2 50] ?_
 unfold Tryz.f77
 simp only [Option.getD_some]
 refine .seq (.r2 G 11 [(1, .hp 0 0), (2, .hp 1 0)] [.own (api_Int.c x'), .own [aB false, nS]] (.seq ?_))
 obtain ⟨v1, hc2, hr⟩ := bd hr
 refine .g1 G (ok0 (fiducialref01_Value_ok n x' v1 hc2)) (.mu 1 (.ca cf0 (.mu 1 (.done (.nh [1, 2] [.own (api_Int.c v1), .own [aB false, nS]] (.seq ?_))))))
 obtain ⟨v3, hc4, hr⟩ := bd hr
 refine .g1 G (ok0 (fiducialref01_made_ok n (!v1.Negative) v1.Groups v3 hc4)) (.mu 5 (.ca cf0 (.mu 1 (.done (.nh [2] [.own (api_Int.c v1), .own (api_Int.c v3)] (.ret ?_))))))
 obtain rfl := oi hr
 exact FinQ.r1 [.agg (api_Int.c v3)]

theorem fiducialref01_plus_ok (n : Nat) (a : List Int) (b : List Int) (r : List Int) (hr : fiducialref01_plus n a b = some r) : FnOk Tryz.prog 95 [sU32 a, sU32 b] (sU32 r) := by
 unfold fiducialref01_plus at hr
 refine FnOk.bd G Tryz.func95 [.tmp 4] ?_
 unfold Tryz.f95
 simp only [Option.getD_some]
 refine .seq (.r4 G [0, 1] [] (.seq (.r5 G [0, 1] [(5, .hs 0 0 0 1)] [.own []] (.seq (.r4 G [0, 1, 5] [(6, aU64 0)] (.seq (.seq (.r4 G [0, 1, 5, 6] [(7, aI64 0)] (.block ?_)))))))))
 replace hr := bd hr; obtain ⟨o35, hL36, hr⟩ := hr
 refine .loopO (σ := fun z0 => match z0 with | (out_1, carry_2, i_3) => ⟨mkS 46 0 [(0, sU32 a), (1, sU32 b), (5, .hs 0 0 out_1.length 1), (6, aU64 carry_2), (7, aI64 i_3)], [.own (out_1.flatMap (iC .u32))]⟩) (Q := fun x st' => match (generalizing := false) o35 with | (out_18, carry_19) => x = .exit 0 ∧ Wk 0 st' ⟨mkS 46 0 [(5, .hs 0 0 out_18.length 1), (6, aU64 carry_19)], [.own (out_18.flatMap (iC .u32))]⟩) hL36 ((Wk.gc [0, 1, 5, 6, 7] [(0, false)] rfl (pKc trivial)).to) ?_ ?_
 ·clear hr
  rintro m ⟨out_1, carry_2, i_3⟩ hr
  show CQ _ _ _ _ _ ⟨_, _⟩
  refine .seq (.seq ?_)
  rcases Bool.eq_false_or_eq_true (decide (i_3 < (a.length : Int))) with hb21 | hb21
  ·replace hr := cd_t hb21 hr
   refine .r0 G (.mu 3 (.p0 (v := aB true) (eB hb21) (.mu 6 (.done (.nh [0, 1, 5, 6, 7, 19] [.own (out_1.flatMap (iC .u32))] (.cT (by kernel_rfl) (.skip (.seq (.block (.seq ?_))))))))))
   obtain ⟨v22, hc23, v24, hc25, hr⟩ := bd2 hr
   refine .gn G (ca1 (ok0 (fiducialref01_group_ok n a i_3 v22 hc23)) (ca3 (ok0 (fiducialref01_group_ok n b i_3 v24 hc25)))) (.mu 2 (.ca cf0 (.mu 2 (.ca (cfA (fun h => by rw [sv hc25 hc23 (fiducialref01_group_cg n h)]) cf0) (.mu 4 (.done (.nh [0, 1, 5, 7, 8] [.own (out_1.flatMap (iC .u32))] (.seq ?_))))))))
   obtain ⟨hg26, hg27, hr⟩ := gd2 hr
   refine .r0 G (.mu 5 (.e0 (v := .hs 2 0 (out_1 ++ [wrapF .u32 ((wrapF .u64 ((wrapF .u64 (v22 + v24)) + carry_2)).tmod 1000000000)]).length 1) (ws := [(0, .dead), (2, .own ((out_1 ++ [wrapF .u32 ((wrapF .u64 ((wrapF .u64 (v22 + v24)) + carry_2)).tmod 1000000000)]).flatMap (iC .u32)))]) (tr (app_own (new := [aU32 (wrapF .u32 ((wrapF .u64 ((wrapF .u64 (v22 + v24)) + carry_2)).tmod 1000000000))]) (l := out_1) (xs := [wrapF .u32 ((wrapF .u64 ((wrapF .u64 (v22 + v24)) + carry_2)).tmod 1000000000)]) (iC_len .u32) rfl rfl (by kernel_rfl) hg26 hg27)) (.mu 1 (.done (.nh [0, 1, 5, 7, 8] [.dead, .own [aU32 (wrapF .u32 ((wrapF .u64 ((wrapF .u64 (v22 + v24)) + carry_2)).tmod 1000000000))], .own ((out_1 ++ [wrapF .u32 ((wrapF .u64 ((wrapF .u64 (v22 + v24)) + carry_2)).tmod 1000000000)]).flatMap (iC .u32))] (.ru G (.pop (.ru G ?_))))))))
   exact loopF_back (out_1 ++ [wrapF .u32 ((wrapF .u64 ((wrapF .u64 (v22 + v24)) + carry_2)).tmod 1000000000)], wrapF .u64 ((wrapF .u64 ((wrapF .u64 (v22 + v24)) + carry_2)).tdiv 1000000000), wrapF .i64 (i_3 + 1)) hr ((Wk.gc [0, 1, 5, 6, 7] [(2, false)] rfl (pKo (iC .u32) (iC_pure _) (out_1 ++ [wrapF .u32 ((wrapF .u64 ((wrapF .u64 (v22 + v24)) + carry_2)).tmod 1000000000)]) trivial)).to)
  ·replace hr := cd_f hb21 hr
   refine .r0 G (.mu 3 (.p0 (v := aB false) (eB hb21) (.mu 6 (.done (.nh [0, 1, 5, 6, 7, 19] [.own (out_1.flatMap (iC .u32))] ?_)))))
   refine .cd hr (fun hb28 hr => ?_) (fun hb28 hr => ?_)
   ·refine .skip (.seq (.block (.seq ?_)))
    obtain ⟨v29, hc30, v31, hc32, hr⟩ := bd2 hr
    refine .gn G (ca1 (ok0 (fiducialref01_group_ok n a i_3 v29 hc30)) (ca3 (ok0 (fiducialref01_group_ok n b i_3 v31 hc32)))) (.mu 2 (.ca cf0 (.mu 2 (.ca (cfA (fun h => by rw [sv hc32 hc30 (fiducialref01_group_cg n h)]) cf0) (.mu 4 (.done (.nh [0, 1, 5, 7, 8] [.own (out_1.flatMap (iC .u32))] (.seq ?_))))))))
    obtain ⟨hg33, hg34, hr⟩ := gd2 hr
    refine .r0 G (.mu 5 (.e0 (v := .hs 2 0 (out_1 ++ [wrapF .u32 ((wrapF .u64 ((wrapF .u64 (v29 + v31)) + carry_2)).tmod 1000000000)]).length 1) (ws := [(0, .dead), (2, .own ((out_1 ++ [wrapF .u32 ((wrapF .u64 ((wrapF .u64 (v29 + v31)) + carry_2)).tmod 1000000000)]).flatMap (iC .u32)))]) (tr (app_own (new := [aU32 (wrapF .u32 ((wrapF .u64 ((wrapF .u64 (v29 + v31)) + carry_2)).tmod 1000000000))]) (l := out_1) (xs := [wrapF .u32 ((wrapF .u64 ((wrapF .u64 (v29 + v31)) + carry_2)).tmod 1000000000)]) (iC_len .u32) rfl rfl (by kernel_rfl) hg33 hg34)) (.mu 1 (.done (.nh [0, 1, 5, 7, 8] [.dead, .own [aU32 (wrapF .u32 ((wrapF .u64 ((wrapF .u64 (v29 + v31)) + carry_2)).tmod 1000000000))], .own ((out_1 ++ [wrapF .u32 ((wrapF .u64 ((wrapF .u64 (v29 + v31)) + carry_2)).tmod 1000000000)]).flatMap (iC .u32))] (.ru G (.pop (.ru G ?_))))))))
    exact loopF_back (out_1 ++ [wrapF .u32 ((wrapF .u64 ((wrapF .u64 (v29 + v31)) + carry_2)).tmod 1000000000)], wrapF .u64 ((wrapF .u64 ((wrapF .u64 (v29 + v31)) + carry_2)).tdiv 1000000000), wrapF .i64 (i_3 + 1)) hr ((Wk.gc [0, 1, 5, 6, 7] [(2, false)] rfl (pKo (iC .u32) (iC_pure _) (out_1 ++ [wrapF .u32 ((wrapF .u64 ((wrapF .u64 (v29 + v31)) + carry_2)).tmod 1000000000)]) trivial)).to)
   ·refine .leave rfl ?_
    obtain rfl := oi hr
    exact ⟨rfl, ((Wk.gc [5, 6] [(0, false)] rfl (pKo (iC .u32) (iC_pure _) out_1 trivial)).to)⟩
 ·rcases o35 with ⟨out_18, carry_19⟩
  rintro x st' hq37
  clear hL36
  obtain ⟨rfl, hq37⟩ := hq37
  refine CQ_exit _ rfl (.wk hq37 (.seq ?_))
  obtain ⟨hg38, hg39, hr⟩ := gd2 hr
  obtain ⟨v40, hc41, hr⟩ := bd hr
  refine .gn G (ca4 [.dead, .own [aU32 (wrapF .u32 carry_19)], .own ((out_18 ++ [wrapF .u32 carry_19]).flatMap (iC .u32))] (callOk_ref (args := [aB false, .hs 2 0 (out_18 ++ [wrapF .u32 carry_19]).length 1]) (l := [2]) (SnL.cons (Sn.pure rfl) (SnL.cons (Sn.hs rfl (.inl rfl) (SnC.pure (ids_flat (iC_pure _) _)) (fun h => flat_nil0 h)) SnL.nil)) (fiducialref01_made_ok n false (out_18 ++ [wrapF .u32 carry_19]) v40 hc41))) (.mu 4 (.e0 (v := .hs 2 0 (out_18 ++ [wrapF .u32 carry_19]).length 1) (ws := [(0, .dead), (2, .own ((out_18 ++ [wrapF .u32 carry_19]).flatMap (iC .u32)))]) (tr (app_own (new := [aU32 (wrapF .u32 carry_19)]) (l := out_18) (xs := [wrapF .u32 carry_19]) (iC_len .u32) rfl rfl (by kernel_rfl) hg38 hg39)) (.ca cf0 (.mu 2 (.done (.ret ?_))))))
  obtain rfl := oi hr
  exact FinQ.r1 [sU32 v40.Groups]

theorem fiducialref01_Add_ok (n : Nat) (x' : api_Int) (y : api_Int) (r : api_Int) (hr : fiducialref01_Add n x' y = some r) : FnOk Tryz.prog 76 [.agg (api_Int.c x'), .agg (api_Int.c y)] (.agg (api_Int.c r)) := by
 unfold fiducialref01_Add at hr
 refine FnOk.bd G Tryz.func76 [.cell 4 50] ?_
 unfold Tryz.f76
 simp only [Option.getD_some]
 refine .seq (.r2 G 44 [(2, .hp 0 0), (3, .hp 1 0), (4, .hp 2 0)] [.own (api_Int.c x'), .own (api_Int.c y), .own [aB false, nS]] (.seq ?_))
 obtain ⟨v1, hc2, v3, hc4, hr⟩ := bd2 hr
 refine .tn G (ca1 (ok0 (fiducialref01_Value_ok n x' v1 hc2)) (ca3 (ok0 (fiducialref01_Value_ok n y v3 hc4)))) (.mu 1 (.ca cf0 (.mu 1 (.ca (cfA (fun h => by rw [sv hc4 hc2 (fiducialref01_Value_cg n h)]) cf0) (.mu 2 ?_)))))
 refine .done ⟨by kernel_rfl, ?_⟩
 refine .nh [2, 3, 4] [.own (api_Int.c v1), .own (api_Int.c v3), .own [aB false, nS]] (.seq (.seq (.r4 G [2, 3, 4] [(13, aB (v1.Negative == v3.Negative))] ?_)))
 refine .cd hr (fun hb5 hr => ?_) (fun hb5 hr => ?_)
 ·refine .seq ?_
  obtain ⟨v6, hc7, v8, hc9, hr⟩ := bd2 hr
  refine .tn G (ca1 (ok0 (fiducialref01_plus_ok n v1.Groups v3.Groups v6 hc7)) (ca3 (ok0 (fiducialref01_made_ok n v1.Negative v6 v8 hc9)))) (.mu 6 (.ca cf0 (.ca (cfF cf0) (.mu 1 ?_))))
  refine .done ⟨by kernel_rfl, ?_⟩
  refine .nh [4] [.own (api_Int.c v1), .own (api_Int.c v3), .own (api_Int.c v8)] (.ret ?_)
  obtain rfl := oi hr
  exact FinQ.r1 [.agg (api_Int.c v8)]
 ·refine .skip (.seq (.seq ?_))
  obtain ⟨v10, hc11, hr⟩ := bd hr
  refine .g1 G (ok0 (fiducialref01_size_ok n v1.Groups v3.Groups v10 hc11)) (.mu 4 (.ca cf0 (.mu 1 (.done (.nh [2, 3, 4, 27] [.own (api_Int.c v1), .own (api_Int.c v3), .own [aB false, nS]] ?_)))))
  refine .cd hr (fun hb12 hr => ?_) (fun hb12 hr => ?_)
  ·refine .seq ?_
   obtain ⟨v13, hc14, v15, hc16, hr⟩ := bd2 hr
   refine .tn G (ca1 (ok0 (fiducialref01_minus_ok n v1.Groups v3.Groups v13 hc14)) (ca3 (ok0 (fiducialref01_made_ok n v1.Negative v13 v15 hc16)))) (.mu 6 (.ca cf0 (.ca (cfF cf0) (.mu 1 ?_))))
   refine .done ⟨by kernel_rfl, ?_⟩
   refine .nh [4] [.own (api_Int.c v1), .own (api_Int.c v3), .own (api_Int.c v15)] (.ret ?_)
   obtain rfl := oi hr
   exact FinQ.r1 [.agg (api_Int.c v15)]
  ·refine .skip (.seq ?_)
   obtain ⟨v17, hc18, v19, hc20, hr⟩ := bd2 hr
   refine .tn G (ca1 (ok0 (fiducialref01_minus_ok n v3.Groups v1.Groups v17 hc18)) (ca3 (ok0 (fiducialref01_made_ok n v3.Negative v17 v19 hc20)))) (.mu 6 (.ca cf0 (.ca (cfF cf0) (.mu 1 ?_))))
   refine .done ⟨by kernel_rfl, ?_⟩
   refine .nh [4] [.own (api_Int.c v1), .own (api_Int.c v3), .own (api_Int.c v19)] (.ret ?_)
   obtain rfl := oi hr
   exact FinQ.r1 [.agg (api_Int.c v19)]

theorem fiducialref01_Sub_ok (n : Nat) (x' : api_Int) (y : api_Int) (r : api_Int) (hr : fiducialref01_Sub n x' y = some r) : FnOk Tryz.prog 59 [.agg (api_Int.c x'), .agg (api_Int.c y)] (.agg (api_Int.c r)) := by
 unfold fiducialref01_Sub at hr
 refine FnOk.bd G Tryz.func59 [.cell 4 50] ?_
 unfold Tryz.f59
 simp only [Option.getD_some]
 refine .seq (.r2 G 9 [(2, .hp 0 0), (3, .hp 1 0), (4, .hp 2 0)] [.own (api_Int.c x'), .own (api_Int.c y), .own [aB false, nS]] (.seq ?_))
 obtain ⟨v1, hc2, v3, hc4, hr⟩ := bd2 hr
 refine .tn G (ca1 (ok0 (fiducialref01_Neg_ok n y v1 hc2)) (ca3 (ok0 (fiducialref01_Add_ok n x' v1 v3 hc4)))) (.mu 2 (.ca cf0 (.ca (cfF cf0) (.mu 1 ?_))))
 refine .done ⟨by kernel_rfl, ?_⟩
 refine .nh [4] [.own (api_Int.c x'), .own (api_Int.c y), .own (api_Int.c v3)] (.ret ?_)
 obtain rfl := oi hr
 exact FinQ.r1 [.agg (api_Int.c v3)]

theorem fiducialref01_Compare_ok (n : Nat) (x' : api_Int) (y : api_Int) (r : Int) (hr : fiducialref01_Compare n x' y = some r) : FnOk Tryz.prog 41 [.agg (api_Int.c x'), .agg (api_Int.c y)] (aI64 r) := by
 unfold fiducialref01_Compare at hr
 refine FnOk.bd G Tryz.func41 [.tmp 4] ?_
 unfold Tryz.f41
 simp only [Option.getD_some]
 refine .seq (.r2 G 9 [(2, .hp 0 0), (3, .hp 1 0)] [.own (api_Int.c x'), .own (api_Int.c y)] (.seq ?_))
 obtain ⟨v1, hc2, v3, hc4, hr⟩ := bd2 hr
 refine .gn G (ca1 (ok0 (fiducialref01_Sub_ok n x' y v1 hc2)) (ca3 (ok0 (fiducialref01_Sign_ok n v1 v3 hc4)))) (.mu 2 (.ca cf0 (.ca (cfF cf0) (.mu 1 (.done (.ret ?_))))))
 obtain rfl := oi hr
 exact FinQ.r1 [aI64 v3]

theorem fiducialref02_Valid_ok (n : Nat) (x' : api_Rat) (r : Bool) (hr : fiducialref02_Valid n x' = some r) : FnOk Tryz.prog 19 [.agg (api_Rat.c x')] (aB r) := by
 unfold fiducialref02_Valid at hr
 refine FnOk.bd G Tryz.func19 [.tmp 2] ?_
 unfold Tryz.f19
 simp only [Option.getD_some]
 refine .seq (.r2 G 27 [(1, .hp 0 0)] [.own (api_Rat.c x')] (.seq (.seq ?_)))
 obtain ⟨v1, hc2, hr⟩ := bd hr
 rcases Bool.eq_false_or_eq_true (!v1) with hb3 | hb3
 ·replace hr := cd_t hb3 hr
  refine .g1 G (ok0 (fiducialref01_Valid_ok n x'.Num v1 hc2)) (.mu 2 (.ca cf0 (.p0 (v := aB true) (eB hb3) (.mu 12 (.done (.nh [1, 18] [.own (api_Rat.c x')] (.cT (by kernel_rfl) (.seq (.ru G (.ret ?_))))))))))
  obtain rfl := oi hr
  exact FinQ.r1 [aB false]
 ·replace hr := cd_f hb3 hr
  obtain ⟨v4, hc5, hr⟩ := bd hr
  rcases Bool.eq_false_or_eq_true (!v4) with hb6 | hb6
  ·replace hr := cd_t hb6 hr
   refine .gn G (ca1 (ok0 (fiducialref01_Valid_ok n x'.Num v1 hc2)) (ca3 (ok0 (fiducialref01_Valid_ok n x'.Den v4 hc5)))) (.mu 2 (.ca cf0 (.p0 (v := aB false) (eB hb3) (.mu 3 (.ca (cfA (fun h => by rw [sv hc5 hc2 (fiducialref01_Valid_cg n h)]) cf0) (.pure (v := aB true) (by kernel_rfl) (eB hb6) (.mu 7 (.done (.nh [1, 18] [.own (api_Rat.c x')] (.cT (by kernel_rfl) (.seq (.ru G (.ret ?_)))))))))))))
   obtain rfl := oi hr
   exact FinQ.r1 [aB false]
  ·replace hr := cd_f hb6 hr
   obtain ⟨v7, hc8, hr⟩ := bd hr
   refine .gn G (ca1 (ok0 (fiducialref01_Valid_ok n x'.Num v1 hc2)) (ca1 (ok0 (fiducialref01_Valid_ok n x'.Den v4 hc5)) (ca3 (ok0 (fiducialref01_Sign_ok n x'.Den v7 hc8))))) (.mu 2 (.ca cf0 (.p0 (v := aB false) (eB hb3) (.mu 3 (.ca (cfA (fun h => by rw [sv hc5 hc2 (fiducialref01_Valid_cg n h)]) cf0) (.pure (v := aB false) (by kernel_rfl) (eB hb6) (.mu 4 (.ca (cfF (cfF cf0)) (.mu 2 (.done (.nh [1, 18] [.own (api_Rat.c x')] ?_)))))))))))
   refine .cd hr (fun hb9 hr => ?_) (fun hb9 hr => ?_)
   ·refine .seq (.ru G (.ret ?_))
    obtain rfl := oi hr
    exact FinQ.r1 [aB false]
   ·refine .skip (.seq ?_)
    obtain ⟨v10, hc11, v12, hc13, v14, hc15, hr⟩ := bd3 hr
    refine .gn G (ca1 (ok0 (fiducialref01_Gcd_ok n x'.Num x'.Den v10 hc11)) (ca1 (ok0 (fiducialref02_whole_ok n 1 v12 hc13)) (ca3 (ok0 (fiducialref01_Compare_ok n v10 v12 v14 hc15))))) (.mu 4 (.ca cf0 (.ca (cfF cf0) (.ca (cfF (cfF cf0)) (.mu 2 (.done (.ret ?_)))))))
    obtain rfl := oi hr
    exact FinQ.r1 [aB ((v14 : Int) == 0)]

theorem fiducialref02_Whole_cg (n : Nat) {n' : Int} {n'_ : Int} (h : ([.at (.int .i64 n')] : List AV) = [.at (.int .i64 n'_)]) : fiducialref02_Whole n n' = fiducialref02_Whole n n'_ := by
 obtain rfl := plan_within_inj h
 rfl
theorem fiducialref02_Whole_ok (n : Nat) (n' : Int) (r : api_Rat) (hr : fiducialref02_Whole n n' = some r) : FnOk Tryz.prog 52 [aI64 n'] (.agg (api_Rat.c r)) := by
 unfold fiducialref02_Whole at hr
 refine FnOk.bd G Tryz.func52 [.cell 2 52] ?_
 unfold Tryz.f52
 simp only [Option.getD_some]
 refine .seq (.r5 G [0] [(2, .hp 0 0)] [.own [aB false, nS, aB false, nS]] (.seq ?_))
 obtain ⟨v1, hc2, v3, hc4, hr⟩ := bd2 hr
 refine .gn G (ca1 (ok0 (fiducialref02_whole_ok n n' v1 hc2)) (ca3 (ok0 (fiducialref02_whole_ok n 1 v3 hc4)))) (.mu 1 (.ca cf0 (.ca (cfA (fun h => by rw [sv hc4 hc2 (fiducialref02_whole_cg n h)]) cf0) (.mu 2 (.done (.nh [2] [.own [aB v1.Negative, sU32 v1.Groups, aB v3.Negative, sU32 v3.Groups]] (.ret ?_)))))))
 obtain rfl := oi hr
 exact FinQ.r1 [.agg [aB v1.Negative, sU32 v1.Groups, aB v3.Negative, sU32 v3.Groups]]

theorem fiducialref02_Value_ok (n : Nat) (x' : api_Rat) (r : api_Rat) (hr : fiducialref02_Value n x' = some r) : FnOk Tryz.prog 39 [.agg (api_Rat.c x')] (.agg (api_Rat.c r)) := by
 unfold fiducialref02_Value at hr
 refine FnOk.bd G Tryz.func39 [.cell 2 52] ?_
 unfold Tryz.f39
 simp only [Option.getD_some]
 refine .seq (.r2 G 7 [(1, .hp 0 0), (2, .hp 1 0)] [.own (api_Rat.c x'), .own [aB false, nS, aB false, nS]] (.seq (.seq ?_)))
 obtain ⟨v1, hc2, hr⟩ := bd hr
 refine .g1 G (ok0 (fiducialref02_Valid_ok n x' v1 hc2)) (.mu 1 (.ca cf0 (.done (.nh [1, 2, 4] [.own (api_Rat.c x'), .own [aB false, nS, aB false, nS]] ?_))))
 refine .cd hr (fun hb3 hr => ?_) (fun hb3 hr => ?_)
 ·refine .seq (.r5 G [2] [] [.own (api_Rat.c x'), .own (api_Rat.c x')] (.ret ?_))
  obtain rfl := oi hr
  exact FinQ.r1 [.agg (api_Rat.c x')]
 ·refine .skip (.seq ?_)
  obtain ⟨v4, hc5, hr⟩ := bd hr
  refine .g1 G (ok0 (fiducialref02_Whole_ok n 0 v4 hc5)) (.ca cf0 (.mu 1 (.done (.nh [2] [.own (api_Rat.c x'), .own (api_Rat.c v4)] (.ret ?_)))))
  obtain rfl := oi hr
  exact FinQ.r1 [.agg (api_Rat.c v4)]

theorem fiducialref02_Sign_ok (n : Nat) (x' : api_Rat) (r : Int) (hr : fiducialref02_Sign n x' = some r) : FnOk Tryz.prog 18 [.agg (api_Rat.c x')] (aI64 r) := by
 unfold fiducialref02_Sign at hr
 refine FnOk.bd G Tryz.func18 [.tmp 2] ?_
 unfold Tryz.f18
 simp only [Option.getD_some]
 refine .seq (.r2 G 7 [(1, .hp 0 0)] [.own (api_Rat.c x')] (.seq ?_))
 obtain ⟨v1, hc2, v3, hc4, hr⟩ := bd2 hr
 refine .gn G (ca1 (ok0 (fiducialref02_Value_ok n x' v1 hc2)) (ca3 (ok0 (fiducialref01_Sign_ok n v1.Num v3 hc4)))) (.mu 1 (.ca cf0 (.mu 1 (.ca (cfF cf0) (.mu 1 (.done (.ret ?_)))))))
 obtain rfl := oi hr
 exact FinQ.r1 [aI64 v3]

theorem plan_Verify_ok (n : Nat) (s : api_Survey) (f : api_Flight) (r : Int) (hr : plan_Verify n s f = some r) : FnOk Tryz.prog 20 [.agg (api_Survey.c s), .agg (api_Flight.c f)] (aI64 r) := by
 unfold plan_Verify at hr
 refine FnOk.bd G Tryz.func20 [.tmp 4] ?_
 unfold Tryz.f20
 simp only [Option.getD_some]
 refine .seq (.r2 G 28 [(2, .hp 0 0), (3, .hp 1 0)] [.own (api_Survey.c s), .own (api_Flight.c f)] (.seq (.seq ?_)))
 obtain ⟨v1, hc2, hr⟩ := bd hr
 refine .g1 G (ok0 (plan_asked_ok n s f s.High true v1 hc2)) (.mu 4 (.ca cf0 (.mu 1 (.done (.nh [2, 3, 5] [.own (api_Survey.c s), .own (api_Flight.c f)] (.seq (.r4 G [2, 3, 5] [(14, aB ((v1 : Int) != 0))] ?_)))))))
 refine .cd hr (fun hb4 hr => ?_) (fun hb4 hr => ?_)
 ·refine .seq (.ru G (.ret ?_))
  obtain rfl := oi hr
  exact FinQ.r1 [aI64 v1]
 ·refine .skip (.seq (.seq ?_))
  obtain ⟨v5, hc6, hr⟩ := bd hr
  refine .g1 G (ok0 (plan_cover_ok n s f s.High v5 hc6)) (.mu 4 (.ca cf0 (.mu 6 (.done (.nh [2, 6] [.own (api_Survey.c s), .own (api_Flight.c f), .own (api_Place.c v5.2)] (.seq (.r3 G 28 [(27, aB (decide (v5.1 < s.Views)))] ?_)))))))
  refine .cd hr (fun hb7 hr => ?_) (fun hb7 hr => ?_)
  ·refine .seq (.ru G (.ret ?_))
   obtain rfl := oi hr
   exact FinQ.r1 [aI64 12]
  ·refine .skip (.seq (.ru G (.ret ?_)))
   obtain rfl := oi hr
   exact FinQ.r1 [aI64 0]

theorem fiduciallaw55_known_ok (n : Nat) (r : Bool) (hr : fiduciallaw55_known n = some r) : FnOk Tryz.prog 4 [] (aB r) := by
 unfold fiduciallaw55_known at hr
 refine FnOk.bd G Tryz.func4 [.tmp 0] ?_
 unfold Tryz.f4
 simp only [Option.getD_some]
 refine .seq (.r3 G 77 [] (.seq ?_))
 obtain ⟨v1, hc2, v3, hc4, hr⟩ := bd2 hr
 refine .gn G (ca1 (ok0 (fiduciallaw55_example_ok n v1 hc2)) (ca3 (ok0 (plan_Make_ok n v1 40 v3 hc4)))) (.ca cf0 (.ca (cfF cf0) (.mu 6 (.done (.nh [1, 2] [.own (api_Flight.c v3.1)] (.seq (.seq ?_)))))))
 rcases Bool.eq_false_or_eq_true ((v3.2 : Int) != 0) with hb5 | hb5
 ·replace hr := cd_t hb5 hr
  refine .r0 G (.mu 1 (.p0 (v := aB true) (eB hb5) (.mu 20 (.done (.nh [1, 33] [.own (api_Flight.c v3.1)] (.cT (by kernel_rfl) (.seq (.ru G (.ret ?_)))))))))
  obtain rfl := oi hr
  exact FinQ.r1 [aB false]
 ·replace hr := cd_f hb5 hr
  rcases Bool.eq_false_or_eq_true (((v3.1.Strips.length : Int) : Int) != 2) with hb6 | hb6
  ·replace hr := cd_t hb6 hr
   refine .r0 G (.mu 1 (.p0 (v := aB false) (eB hb5) (.mu 4 (.pure (v := aB true) (by kernel_rfl) (eB hb6) (.mu 15 (.done (.nh [1, 33] [.own (api_Flight.c v3.1)] (.cT (by kernel_rfl) (.seq (.ru G (.ret ?_)))))))))))
   obtain rfl := oi hr
   exact FinQ.r1 [aB false]
  ·replace hr := cd_f hb6 hr
   obtain ⟨hg7, hr⟩ := gd hr
   obtain ⟨v8, hc9, hr⟩ := bd hr
   refine .gn G (ca4 [.own (api_Flight.c v3.1), .own [aI64 20, aI64 18, aI64 36, aI64 18, aI64 52, aI64 18, aI64 68, aI64 18, aI64 80, aI64 18]] (callOk_val (args := [slT api_Pix.c (gt v3.1.Strips 1), .hs 1 0 5 2]) (l := [1]) rfl (SnL.cons (Sn.pure rfl) (SnL.cons (Sn.hs rfl (.inl rfl) (SnC.cons (Sn.pure rfl) (SnC.cons (Sn.pure rfl) (SnC.cons (Sn.pure rfl) (SnC.cons (Sn.pure rfl) (SnC.cons (Sn.pure rfl) (SnC.cons (Sn.pure rfl) (SnC.cons (Sn.pure rfl) (SnC.cons (Sn.pure rfl) (SnC.cons (Sn.pure rfl) (SnC.cons (Sn.pure rfl) SnC.nil)))))))))) (fun h => nomatch h)) SnL.nil)) (slices_Equal_fiducial_api_Pix_fiducial_api_Pix_ok n (gt v3.1.Strips 1) [api_Pix.mk 20 18, api_Pix.mk 36 18, api_Pix.mk 52 18, api_Pix.mk 68 18, api_Pix.mk 80 18] v8 hc9))) (.mu 1 (.p0 (v := aB false) (eB hb5) (.mu 4 (.pure (v := aB false) (by kernel_rfl) (eB hb6) (.mu 4 (.pure (v := .pp (v3.1.Strips.flatMap (slC api_Pix.c)) ((1 : Int).toNat * 1)) (by kernel_rfl) (tr (ofP_guard hg7)) (.pure (v := slT api_Pix.c (gt v3.1.Strips 1)) (by kernel_rfl) (tr (ofP_some (flat_get (slC_len api_Pix.c) (inR_lt hg7) (by decide : 0 < 1) (by omega : (1 : Int).toNat * 1 = (1 : Int).toNat * 1 + 0) (by kernel_rfl)))) (.mu 6 (.ca cf0 (.mu 2 (.done (.nh [1, 33] [.own (api_Flight.c v3.1), .own [aI64 20, aI64 18, aI64 36, aI64 18, aI64 52, aI64 18, aI64 68, aI64 18, aI64 80, aI64 18]] ?_))))))))))))
   refine .cd hr (fun hb11 hr => ?_) (fun hb11 hr => ?_)
   ·refine .seq (.ru G (.ret ?_))
    obtain rfl := oi hr
    exact FinQ.r1 [aB false]
   ·refine .skip (.seq ?_)
    obtain ⟨v12, hc13, v14, hc15, hr⟩ := bd2 hr
    refine .tn G (ca1 (ok0 (fiduciallaw55_example_ok n v12 hc13)) (ca3 (ok0 (plan_Cover_ok n v12 v3.1 0 v14 hc15)))) (.ca cf0 (.mu 1 (.ca (cfF cf0) (.mu 8 ?_))))
    refine .done ⟨by kernel_rfl, ?_⟩
    refine .nh [1, 2, 3, 4] [.own (api_Flight.c v3.1), .own [aI64 20, aI64 18, aI64 36, aI64 18, aI64 52, aI64 18, aI64 68, aI64 18, aI64 80, aI64 18], .own (api_Place.c v14.2.1)] (.seq ?_)
    obtain ⟨v16, hc17, v18, hc19, hr⟩ := bd2 hr
    refine .gn G (ca1 (ok0 (fiduciallaw55_example_ok n v16 hc17)) (ca3 (ok0 (plan_Height_ok n v16 2 v18 hc19)))) (.ca cf0 (.ca (cfF cf0) (.mu 5 (.done (.nh [1, 2, 3, 4, 5, 6] [.own (api_Flight.c v3.1), .own [aI64 20, aI64 18, aI64 36, aI64 18, aI64 52, aI64 18, aI64 68, aI64 18, aI64 80, aI64 18], .own (api_Place.c v14.2.1)] (.seq ?_))))))
    rcases Bool.eq_false_or_eq_true ((v14.2.2 : Int) == 0) with hb20 | hb20
    ·replace hr := cd_t hb20 hr
     rcases Bool.eq_false_or_eq_true ((v18.2 : Int) == 0) with hb21 | hb21
     ·replace hr := cd_t hb21 hr
      rcases Bool.eq_false_or_eq_true ((v14.1 : Int) == 1) with hb22 | hb22
      ·replace hr := cd_t hb22 hr
       rcases Bool.eq_false_or_eq_true ((v18.1 : Int) == 2) with hb23 | hb23
       ·replace hr := cd_t hb23 hr
        obtain ⟨v24, hc25, hr⟩ := bd hr
        rcases Bool.eq_false_or_eq_true ((v24 : Int) == 0) with hb26 | hb26
        ·replace hr := cd_t hb26 hr
         obtain ⟨v27, hc28, hr⟩ := bd hr
         rcases Bool.eq_false_or_eq_true v27 with hb29 | hb29
         ·subst hb29
          replace hr := cd_t rfl hr
          obtain ⟨v30, hc31, v32, hc33, hr⟩ := bd2 hr
          refine .tn G (ca1 (ok0 (fiducialref02_Sign_ok n v14.2.1.X v24 hc25)) (ca1 (ok0 (fiducialref02_Valid_ok n v14.2.1.X true hc28)) (ca1 (ok0 (fiduciallaw55_example_ok n v30 hc31)) (ca3 (ok0 (plan_Verify_ok n v30 v3.1 v32 hc33)))))) (.mu 1 (.pure (v := aB true) (by kernel_rfl) (eB hb20) (by kernel_rfl) (.mu 2 (.pure (v := aB true) (by kernel_rfl) (eB hb21) (by kernel_rfl) (.mu 3 (.pure (v := aB true) (by kernel_rfl) (eB hb22) (by kernel_rfl) (.mu 3 (.pure (v := aB true) (by kernel_rfl) (eB hb23) (by kernel_rfl) (.mu 4 (.ca cf0 (.pure (v := aB true) (by kernel_rfl) (eB hb26) (by kernel_rfl) (.mu 4 (.ca (cfF cf0) (.mu 2 (.ca (cfF (cfF cf0)) (.mu 1 (.ca (cfF (cfF (cfF cf0))) (.mu 3 ?_))))))))))))))))))
          refine .done ⟨by kernel_rfl, ?_⟩
          refine .ret ?_
          obtain rfl := oi hr
          exact FinQ.r1 [aB ((v32 : Int) == 0)]
         ·subst hb29
          replace hr := cd_f rfl hr
          refine .tn G (ca1 (ok0 (fiducialref02_Sign_ok n v14.2.1.X v24 hc25)) (ca3 (ok0 (fiducialref02_Valid_ok n v14.2.1.X false hc28)))) (.mu 1 (.pure (v := aB true) (by kernel_rfl) (eB hb20) (by kernel_rfl) (.mu 2 (.pure (v := aB true) (by kernel_rfl) (eB hb21) (by kernel_rfl) (.mu 3 (.pure (v := aB true) (by kernel_rfl) (eB hb22) (by kernel_rfl) (.mu 3 (.pure (v := aB true) (by kernel_rfl) (eB hb23) (by kernel_rfl) (.mu 4 (.ca cf0 (.pure (v := aB true) (by kernel_rfl) (eB hb26) (by kernel_rfl) (.mu 4 (.ca (cfF cf0) (.mu 8 ?_))))))))))))))
          refine .done ⟨by kernel_rfl, ?_⟩
          refine .ret ?_
          obtain rfl := oi hr
          exact FinQ.r1 [aB false]
        ·replace hr := cd_f hb26 hr
         refine .t1 G (ok0 (fiducialref02_Sign_ok n v14.2.1.X v24 hc25)) (.mu 1 (.pure (v := aB true) (by kernel_rfl) (eB hb20) (by kernel_rfl) (.mu 2 (.pure (v := aB true) (by kernel_rfl) (eB hb21) (by kernel_rfl) (.mu 3 (.pure (v := aB true) (by kernel_rfl) (eB hb22) (by kernel_rfl) (.mu 3 (.pure (v := aB true) (by kernel_rfl) (eB hb23) (by kernel_rfl) (.mu 4 (.ca cf0 (.pure (v := aB false) (by kernel_rfl) (eB hb26) (by kernel_rfl) (.mu 13 ?_))))))))))))
         refine .done ⟨by kernel_rfl, ?_⟩
         refine .ret ?_
         obtain rfl := oi hr
         exact FinQ.r1 [aB false]
       ·replace hr := cd_f hb23 hr
        refine .regionT G callOf_nil (.mu 1 (.pure (v := aB true) (by kernel_rfl) (eB hb20) (by kernel_rfl) (.mu 2 (.pure (v := aB true) (by kernel_rfl) (eB hb21) (by kernel_rfl) (.mu 3 (.pure (v := aB true) (by kernel_rfl) (eB hb22) (by kernel_rfl) (.mu 3 (.pure (v := aB false) (by kernel_rfl) (eB hb23) (by kernel_rfl) (.mu 19 ?_)))))))))
        refine .done ⟨by kernel_rfl, ?_⟩
        refine .ret ?_
        obtain rfl := oi hr
        exact FinQ.r1 [aB false]
      ·replace hr := cd_f hb22 hr
       refine .regionT G callOf_nil (.mu 1 (.pure (v := aB true) (by kernel_rfl) (eB hb20) (by kernel_rfl) (.mu 2 (.pure (v := aB true) (by kernel_rfl) (eB hb21) (by kernel_rfl) (.mu 3 (.pure (v := aB false) (by kernel_rfl) (eB hb22) (by kernel_rfl) (.mu 23 ?_)))))))
       refine .done ⟨by kernel_rfl, ?_⟩
       refine .ret ?_
       obtain rfl := oi hr
       exact FinQ.r1 [aB false]
     ·replace hr := cd_f hb21 hr
      refine .regionT G callOf_nil (.mu 1 (.pure (v := aB true) (by kernel_rfl) (eB hb20) (by kernel_rfl) (.mu 2 (.pure (v := aB false) (by kernel_rfl) (eB hb21) (by kernel_rfl) (.mu 27 ?_)))))
      refine .done ⟨by kernel_rfl, ?_⟩
      refine .ret ?_
      obtain rfl := oi hr
      exact FinQ.r1 [aB false]
    ·replace hr := cd_f hb20 hr
     refine .regionT G callOf_nil (.mu 1 (.pure (v := aB false) (by kernel_rfl) (eB hb20) (by kernel_rfl) (.mu 30 ?_)))
     refine .done ⟨by kernel_rfl, ?_⟩
     refine .ret ?_
     obtain rfl := oi hr
     exact FinQ.r1 [aB false]

theorem fiduciallaw55_positions_ok (n : Nat) (f : api_Flight) (r : List api_Pix) (hr : fiduciallaw55_positions n f = some r) : FnOk Tryz.prog 21 [.agg (api_Flight.c f)] (slT api_Pix.c r) := by
 unfold fiduciallaw55_positions at hr
 refine FnOk.bd G Tryz.func21 [.tmp 2] ?_
 unfold Tryz.f21
 simp only [Option.getD_some]
 refine .seq (.r2 G 19 [(1, .hp 0 0)] [.own (api_Flight.c f)] (.seq (.r5 G [1] [(3, .hs 1 0 0 2)] [.own (api_Flight.c f), .own []] (.seq (.seq (.r4 G [3] [(8, slT (slC api_Pix.c) f.Strips), (9, aI64 (f.Strips.length : Int)), (10, aI64 0)] (.block ?_)))))))
 replace hr := bd hr; obtain ⟨l_7, hL14, hr⟩ := hr
 refine .loopO (σ := fun z0 => match z0 with | (l_1, x_2) => ⟨mkS 19 0 [(3, .hs 0 0 l_1.length 2), (8, slT (slC api_Pix.c) f.Strips), (9, aI64 (f.Strips.length : Int)), (10, aI64 x_2)], [.own (l_1.flatMap api_Pix.c)]⟩) (Q := fun x st' => x = .exit 0 ∧ Wk 0 st' ⟨mkS 19 0 [(3, .hs 0 0 l_7.length 2)], [.own (l_7.flatMap api_Pix.c)]⟩) hL14 ((Wk.gc [3, 8, 9, 10] [(1, false)] rfl (pKc trivial)).to) ?_ ?_
 ·clear hr
  rintro m ⟨l_1, x_2⟩ hr
  show CQ _ _ _ _ _ ⟨_, _⟩
  refine .seq (.r4 G [3, 8, 9, 10] [(11, aB (decide (x_2 < (f.Strips.length : Int))))] (.seq ?_))
  refine .cd hr (fun hb9 hr => ?_) (fun hb9 hr => ?_)
  ·refine .skip (.seq (.block (.seq ?_)))
   obtain ⟨hg10, hr⟩ := gd hr
   refine .r0 G (.p0 (v := .pp (f.Strips.flatMap (slC api_Pix.c)) (x_2.toNat * 1)) (tr (ofP_guard hg10)) (.p0 (v := slT api_Pix.c (gt f.Strips x_2)) (tr (ofP_some (flat_get (slC_len api_Pix.c) (inR_lt hg10) (by decide : 0 < 1) (by omega : x_2.toNat * 1 = x_2.toNat * 1 + 0) (by kernel_rfl)))) (.mu 1 (.done (.nh [3, 5, 8, 9, 10] [.own (l_1.flatMap api_Pix.c)] ?_)))))
   obtain ⟨hg11, hg12, hr⟩ := gd2 hr
   refine .r0 G (.mu 2 (.e0 (v := .hs 1 0 (l_1 ++ (gt f.Strips x_2)).length 2) (ws := [(0, .dead), (1, .own ((l_1 ++ (gt f.Strips x_2)).flatMap api_Pix.c))]) (Eq.trans (b := appS (decide ((((gt f.Strips x_2).flatMap api_Pix.c)).length = (gt f.Strips x_2).length * 2)) ((gt f.Strips x_2).flatMap api_Pix.c) (gt f.Strips x_2).length (fun z1 z2 => guardO (decide (0 + l_1.length * 2 ≤ (l_1.flatMap api_Pix.c).length) && decide ((l_1.length + z2) * 16 ≤ 140737488355328) && decide (l_1.length + z2 ≤ 4611686018427387904)) (some (.eff (.hs 1 0 (l_1.length + z2) 2) [(0, .dead), (1, .own (((l_1.flatMap api_Pix.c).drop 0).take (l_1.length * 2) ++ z1))])))) (by kernel_rfl) (appS_t (flat_lenB api_Pix.len) rfl (app_own (l := l_1) (xs := (gt f.Strips x_2)) api_Pix.len rfl rfl rfl hg11 hg12))) (.mu 1 (.done (.pop (.ru G ?_))))))
   exact loopF_back (l_1 ++ (gt f.Strips x_2), wrapF .i64 (x_2 + 1)) hr ((Wk.gc [3, 8, 9, 10] [(1, false)] rfl (pKo api_Pix.c api_Pix.pure (l_1 ++ (gt f.Strips x_2)) trivial)).to)
  ·refine .leave rfl ?_
   obtain rfl := oi hr
   exact ⟨rfl, ((Wk.gc [3] [(0, false)] rfl (pKo api_Pix.c api_Pix.pure l_1 trivial)).to)⟩
 ·rintro x st' hq15
  clear hL14
  obtain ⟨rfl, hq15⟩ := hq15
  refine CQ_exit _ rfl (.wk hq15 (.seq (.r3 G 19 [(2, .hs 0 0 l_7.length 2)] (.ret ?_))))
  obtain rfl := oi hr
  exact FinQ.ret (vs := [.hs 0 0 l_7.length 2]) (by kernel_rfl) (Sn.hs rfl (.inl rfl) (SnC.pure (ids_flat api_Pix.pure _)) (fun h => flat_nil0 h))

theorem fiduciallaw55_few_ok (n : Nat) (f : api_Flight) (most : Int) (r : Bool) (hr : fiduciallaw55_few n f most = some r) : FnOk Tryz.prog 5 [.agg (api_Flight.c f), aI64 most] (aB r) := by
 unfold fiduciallaw55_few at hr
 refine FnOk.bd G Tryz.func5 [.tmp 4] ?_
 unfold Tryz.f5
 simp only [Option.getD_some]
 refine .seq (.r5 G [1] [(2, .hp 0 0)] [.own (api_Flight.c f)] (.seq ?_))
 rcases Bool.eq_false_or_eq_true (decide ((f.Strips.length : Int) ≤ 20)) with hb1 | hb1
 ·replace hr := cd_t hb1 hr
  obtain ⟨v2, hc3, hr⟩ := bd hr
  refine .g1 G (ok0 (fiduciallaw55_positions_ok n f v2 hc3)) (.mu 3 (.p0 (v := aB true) (eB hb1) (.mu 2 (.ca cf0 (.mu 5 (.done (.ret ?_)))))))
  obtain rfl := oi hr
  exact FinQ.r1 [aB (decide ((v2.length : Int) ≤ most))]
 ·replace hr := cd_f hb1 hr
  refine .r0 G (.mu 3 (.p0 (v := aB false) (eB hb1) (.mu 8 (.done (.ret ?_)))))
  obtain rfl := oi hr
  exact FinQ.r1 [aB false]

theorem plan_Control_1_1_ok (n : Nat) (m' : Int) (p : Int) (r : Bool) (hr : plan_Control_1_1 n m' p = some r) : FnOk Tryz.prog 27 [aI64 m', .pp [aI64 p] 0] (aB r) := by
 unfold plan_Control_1_1 at hr
 refine FnOk.bd G Tryz.func27 [.tmp 3] ?_
 unfold Tryz.f27
 simp only [Option.getD_some]
 refine .seq (.r4 G [0, 1] [] (.seq (.ru G (.ret ?_))))
 obtain rfl := oi hr
 exact FinQ.r1 [aB (((bitO .and .i64 m' p) : Int) == 0)]

theorem slices_IndexFunc_int_int_of_plan_Control_1_1_ok (n : Nat) (s : List Int) (c : Int) (r : Int) (hr : slices_IndexFunc_int_int_of_plan_Control_1_1 n s c = some r) : FnOk Tryz.prog 48 [sI64 s, .fn 27 [] [.pp [aI64 c] 0]] (aI64 r) := by
 unfold slices_IndexFunc_int_int_of_plan_Control_1_1 at hr
 refine FnOk.bd G Tryz.func48 [.tmp 4] ?_
 unfold Tryz.f48
 simp only [Option.getD_some]
 refine .seq (.r4 G [0, 1] [] (.seq (.seq (.r4 G [0, 1] [(7, aI64 (s.length : Int)), (8, aI64 0)] (.block ?_)))))
 replace hr := bd hr; obtain ⟨o13, hL14, hr⟩ := hr
 refine .loopO (σ := fun z0 => match z0 with | x_1 => ⟨mkS 19 0 [(0, sI64 s), (1, .fn 27 [] [.pp [aI64 c] 0]), (7, aI64 (s.length : Int)), (8, aI64 x_1)], []⟩) (Q := fun x st' => match (generalizing := false) o13 with | .inl _ => x = .exit 0 ∧ Wk 0 st' ⟨mkS 19 0 [], []⟩ | .inr (r0) => x = .ret ∧ FinQ Tryz.prog [.tmp 4] (aI64 r0) .ret st') hL14 ((Wk.gc [0, 1, 7, 8] [] rfl pK0).to) ?_ ?_
 ·clear hr
  rintro m x_1 hr
  show CQ _ _ _ _ _ ⟨_, _⟩
  refine .seq (.r4 G [0, 1, 7, 8] [(9, aB (decide (x_1 < (s.length : Int))))] (.seq ?_))
  refine .cd hr (fun hb8 hr => ?_) (fun hb8 hr => ?_)
  ·refine .skip (.seq (.block (.seq (.r4 G [0, 1, 7, 8] [(5, aI64 x_1)] (.seq ?_)))))
   obtain ⟨hg9, hr⟩ := gd hr
   obtain ⟨v10, hc11, hr⟩ := bd hr
   refine .g1 G (ok0 (plan_Control_1_1_ok n (gt s x_1) c v10 hc11)) (.mu 3 (.p0 (v := .pp (s.flatMap (iC .i64)) (x_1.toNat * 1)) (tr (ofP_guard hg9)) (.p0 (v := aI64 (gt s x_1)) (tr (ofP_some (flat_get (iC_len .i64) (inR_lt hg9) (by decide : 0 < 1) (by omega : x_1.toNat * 1 = x_1.toNat * 1 + 0) (by kernel_rfl)))) (.ca cf0 (.done (.nh [0, 1, 5, 7, 8, 16] [] ?_))))))
   refine .cd hr (fun hb12 hr => ?_) (fun hb12 hr => ?_)
   ·refine .seq (.ru G (.ret ?_))
    obtain rfl := oi hr
    exact ⟨rfl, FinQ.ret (vs := [aI64 x_1]) (by kernel_rfl) (Sn.pure rfl)⟩
   ·refine .skip (.pop (.ru G ?_))
    exact loopF_back (wrapF .i64 (x_1 + 1)) hr ((Wk.gc [0, 1, 7, 8] [] rfl pK0).to)
  ·refine .leave rfl ?_
   obtain rfl := oi hr
   exact ⟨rfl, ((Wk.gc [] [] rfl pK0).to)⟩
 ·rcases o13 with ⟨⟩ | r0
  ·rintro x st' hq15
   clear hL14
   obtain ⟨rfl, hq15⟩ := hq15
   refine CQ_exit _ rfl (.wk hq15 (.seq (.ru G (.ret ?_))))
   obtain rfl := oi hr
   exact FinQ.r1 [aI64 (-1)]
  ·rintro x st' hq15
   clear hL14
   obtain ⟨rfl, hq15⟩ := hq15
   obtain rfl := oi hr
   exact CQ_ret _ hq15

theorem slices_ContainsFunc_int_int_of_plan_Control_1_1_ok (n : Nat) (s : List Int) (c : Int) (r : Bool) (hr : slices_ContainsFunc_int_int_of_plan_Control_1_1 n s c = some r) : FnOk Tryz.prog 26 [sI64 s, .fn 27 [] [.pp [aI64 c] 0]] (aB r) := by
 unfold slices_ContainsFunc_int_int_of_plan_Control_1_1 at hr
 refine FnOk.bd G Tryz.func26 [.tmp 4] ?_
 unfold Tryz.f26
 simp only [Option.getD_some]
 refine .seq (.r4 G [0, 1] [] (.seq ?_))
 obtain ⟨v1, hc2, hr⟩ := bd hr
 refine .g1 G (callOk_val (args := [sI64 s, .fn 27 [] [.pp [aI64 c] 0]]) (l := []) rfl (SnL.cons (Sn.pure rfl) (SnL.cons (Sn.fn SnL.nil (SnL.cons (Sn.pure rfl) SnL.nil)) SnL.nil)) (slices_IndexFunc_int_int_of_plan_Control_1_1_ok n s c v1 hc2)) (.mu 2 (.ca cf0 (.mu 2 (.done (.ret ?_)))))
 obtain rfl := oi hr
 exact FinQ.r1 [aB (decide (v1 ≥ 0))]

theorem plan_choose_body (n : Nat) (sees : List Int) (cs : List api_Pix) (d : Nat)
  (ih : ∀ l mask start left r, plan_choose n sees (cs.length : Int) d l mask start left = some r → FnMut 5 Tryz.prog 25 [.hs 4 0 l.length 1, aI64 mask, aI64 start, aI64 left, .hp 1 0, .hp 3 0, .hp 0 0] [.own [.fn 25 [] [.hp 1 0, .hp 3 0, .hp 0 0]], .own [.hs 2 0 sees.length 1], .own (sees.flatMap (iC .i64)), .own [slT api_Pix.c cs], .own (l.flatMap (iC .i64))] (nlA r) [.own [.fn 25 [] [.hp 1 0, .hp 3 0, .hp 0 0]], .own [.hs 2 0 sees.length 1], .own (sees.flatMap (iC .i64)), .own [slT api_Pix.c cs], .own (l.flatMap (iC .i64))])
  (l : List Int) (mask start left : Int) (r : Option (List Int)) (hr : plan_choose n sees (cs.length : Int) (d + 1) l mask start left = some r) (ls : AV) (hls : (ls = nS ∧ l.length = 0) ∨ ∃ cap, ls = .hc 4 0 l.length cap 1) :
  CQ 5 Tryz.prog [.c ((Tryz.f25.body).getD .skip)] (FinMW 5 Tryz.prog [.tmp 11] [nlA r] [.own [.fn 25 [] [.hp 1 0, .hp 3 0, .hp 0 0]], .own [.hs 2 0 sees.length 1], .own (sees.flatMap (iC .i64)), .own [slT api_Pix.c cs], .own (l.flatMap (iC .i64))]) .normal ⟨mkS 48 0 [(0, ls), (1, aI64 mask), (2, aI64 start), (3, aI64 left), (4, .hp 1 0), (5, .hp 3 0), (6, .hp 0 0)], [.own [.fn 25 [] [.hp 1 0, .hp 3 0, .hp 0 0]], .own [.hs 2 0 sees.length 1], .own (sees.flatMap (iC .i64)), .own [slT api_Pix.c cs], .own (l.flatMap (iC .i64))]⟩ := by
 unfold plan_choose at hr
 obtain ⟨hg, hr⟩ := gd hr
 have hg := of_decide_eq_true hg
 unfold Tryz.f25
 simp only [Option.getD_some]
 refine .seq (.r5 G [0, 2, 3, 4, 5, 6] [(8, .hp 5 0), (11, nS)] [.own [.fn 25 [] [.hp 1 0, .hp 3 0, .hp 0 0]], .own [.hs 2 0 sees.length 1], .own (sees.flatMap (iC .i64)), .own [slT api_Pix.c cs], .own (l.flatMap (iC .i64)), .own [aI64 mask]] (.seq (.seq (.r4 G [0, 2, 3, 4, 5, 6, 8, 11] [(15, aB ((left : Int) == 0))] ?_))))
 refine .cd hr (fun hb hr => ?_) (fun hb hr => ?_)
 ·obtain ⟨b, hc, hr⟩ := bd hr
  refine .seq (.seq (.g1 G (callOk_val (args := [.hs 2 0 sees.length 1, .fn 27 [] [.hp 5 0]]) (l := [2, 5]) rfl (SnL.cons (Sn.hs rfl (.inl rfl) (SnC.pure (ids_flat (iC_pure _) _)) (fun h => flat_nil0 h)) (SnL.cons (Sn.fn SnL.nil (SnL.cons (Sn.hp rfl (.inl rfl) (SnC.cons (Sn.pure rfl) SnC.nil)) SnL.nil)) SnL.nil)) (slices_ContainsFunc_int_int_of_plan_Control_1_1_ok n sees mask b hc)) (.mu 2 (.ca cf0 (.done (.nh [0, 11, 18] [.own [.fn 25 [] [.hp 1 0, .hp 3 0, .hp 0 0]], .own [.hs 2 0 sees.length 1], .own (sees.flatMap (iC .i64)), .own [slT api_Pix.c cs], .own (l.flatMap (iC .i64)), .own [aI64 mask]] ?_))))))
  refine .cd hr (fun hb2 hr => ?_) (fun hb2 hr => ?_)
  ·refine .seq (.ru G (.ret ?_))
   obtain rfl := oi hr
   exact FinMW.ret [nS] ((Wk.gc [0] [(0, true), (1, true), (2, false), (3, false), (4, false)] rfl (pKt (pKt (pKo (iC .i64) (iC_pure _) sees (pKc (pKo (iC .i64) (iC_pure _) l pK0)))))).to)
  ·obtain rfl := oi hr
   rcases l with _ | ⟨y, l⟩
   ·rcases hls with ⟨rfl, _⟩ | ⟨cap, rfl⟩
    ·refine .skip (.seq ?_)
     refine .emptyS G (e := 3) (n := 1) (z := [aI64 0]) (by kernel_rfl) (by kernel_rfl) (by kernel_rfl) rfl rfl (.mu 3 (.done (.ret ?_)))
     exact FinMW.ret [.sl false [] 0] ((Wk.gc [0] [(0, true), (1, true), (2, false), (3, false), (4, false)] rfl (pKt (pKt (pKo (iC .i64) (iC_pure _) sees (pKc (pKo (iC .i64) (iC_pure _) ([] : List Int) pK0)))))).to)
    ·refine .skip (.wk (Wk.hcs 0 (b := 4) (off := 0) (len := ([] : List Int).length) (cap := cap) (es := 1)) (.seq ?_))
     refine .emptyS G (e := 3) (n := 1) (z := [aI64 0]) (by kernel_rfl) (by kernel_rfl) (by kernel_rfl) rfl rfl (.mu 3 (.done (.ret ?_)))
     exact FinMW.ret [.sl false [] 0] ((Wk.gc [0] [(0, true), (1, true), (2, false), (3, false), (4, false)] rfl (pKt (pKt (pKo (iC .i64) (iC_pure _) sees (pKc (pKo (iC .i64) (iC_pure _) ([] : List Int) pK0)))))).to)
   have hl : 0 < (y :: l).length := by simp
   generalize y :: l = l at *
   rcases hls with ⟨_, h0⟩ | ⟨cap, rfl⟩
   ·omega
   refine .skip (.wk (Wk.hcs 0 (b := 4) (off := 0) (len := l.length) (cap := cap) (es := 1)) (.seq ?_))
   refine .r0 G (.mu 2 (.e0 (v := .hs 7 0 (([] : List Int) ++ l).length 1) (ws := [(6, .dead), (7, .own ((([] : List Int) ++ l).flatMap (iC .i64)))]) (Eq.trans (b := appS (decide (0 + l.length * 1 ≤ (l.flatMap (iC .i64)).length)) (((l.flatMap (iC .i64)).drop 0).take (l.length * 1)) l.length (fun z1 z2 => guardO (decide (0 + 0 * 1 ≤ (([] : List Int).flatMap (iC .i64)).length) && decide ((0 + z2) * 8 ≤ 140737488355328) && decide (0 + z2 ≤ 4611686018427387904)) (some (.eff (.hs 7 0 (0 + z2) 1) [(6, .dead), (7, .own (((([] : List Int).flatMap (iC .i64)).drop 0).take (0 * 1) ++ z1))])))) (by kernel_rfl) (appS_t (flat_lenO (iC_len _)) (flat_all (iC_len _)) (app_own (by_ := 8) (l := ([] : List Int)) (xs := l) (iC_len _) rfl rfl rfl (decide_eq_true (by simp; omega)) (decide_eq_true (by simp; omega))))) (.mu 1 (.done (.ret ?_)))))
   refine FinMW.wk (((Wk.fix 7 (cs := l.flatMap (iC .i64)) (by kernel_rfl)).trans (Wk.purify 11 (b := 7) (len := l.length) (es := 1) (cs := l.flatMap (iC .i64)) (by kernel_rfl) (by kernel_rfl) (ids_flat (iC_pure _) _) (fun h => flat_nil0 h))).trans (Wk.nn 11 (cs := l.flatMap (iC .i64)) hl)) (FinMW.ret [.sl false (l.flatMap (iC .i64)) l.length] ?_)
   exact (Wk.gc [0] [(0, true), (1, true), (2, false), (3, false), (4, false)] rfl (pKt (pKt (pKo (iC .i64) (iC_pure _) sees (pKc (pKo (iC .i64) (iC_pure _) l pK0)))))).to
 ·refine .skip (.seq (.seq (.r4 G [0, 3, 4, 5, 6, 8] [(12, aI64 start)] (.block ?_))))
  refine .loopO (σ := fun i => ⟨mkS 48 0 [(0, ls), (3, aI64 left), (4, .hp 1 0), (5, .hp 3 0), (6, .hp 0 0), (8, .hp 5 0), (12, aI64 i)], [.own [.fn 25 [] [.hp 1 0, .hp 3 0, .hp 0 0]], .own [.hs 2 0 sees.length 1], .own (sees.flatMap (iC .i64)), .own [slT api_Pix.c cs], .own (l.flatMap (iC .i64)), .own [aI64 mask]]⟩) (Q := fun x st' => (x = .exit 0 ∧ r = none ∧ Wk 5 st' ⟨mkS 48 0 [], [.own [.fn 25 [] [.hp 1 0, .hp 3 0, .hp 0 0]], .own [.hs 2 0 sees.length 1], .own (sees.flatMap (iC .i64)), .own [slT api_Pix.c cs], .own (l.flatMap (iC .i64))]⟩) ∨ (x = .ret ∧ FinMW 5 Tryz.prog [.tmp 11] [nlA r] [.own [.fn 25 [] [.hp 1 0, .hp 3 0, .hp 0 0]], .own [.hs 2 0 sees.length 1], .own (sees.flatMap (iC .i64)), .own [slT api_Pix.c cs], .own (l.flatMap (iC .i64))] .ret st')) hr ((Wk.refl _).to) ?_ ?_
  ·clear hr
   rintro m i hr
   show CQ _ _ _ _ _ ⟨_, _⟩
   refine .seq (.seq (.r4 G [0, 3, 4, 5, 6, 8, 12] [(28, aB (decide ((wrapF .i64 (i + left)) ≤ (cs.length : Int))))] ?_))
   refine .cd hr (fun hb2 hr => ?_) (fun hb2 hr => ?_)
   ·obtain ⟨hi, hr⟩ := gd hr; obtain ⟨v, hv, hr⟩ := bd hr
    refine .skip (.seq (.block (.seq (.fork ⟨mkS 48 0 [(0, ls), (3, aI64 left), (4, .hp 1 0), (5, .hp 3 0), (6, .hp 0 0), (8, .hp 5 0), (12, aI64 i), (13, nlA v)], [.own [.fn 25 [] [.hp 1 0, .hp 3 0, .hp 0 0]], .own [.hs 2 0 sees.length 1], .own (sees.flatMap (iC .i64)), .own [slT api_Pix.c cs], .own (l.flatMap (iC .i64)), .own [aI64 mask]]⟩ ?_ (fun k F cont => ?_)))))
    ·rcases Bool.eq_false_or_eq_true v.isNone with hn | hn
     ·replace hr := cd_t hn hr; rw [nlA_t hn]
      refine .seq (.r4 G [0, 3, 4, 5, 6, 8, 12] [(46, aB false)] (CQ.cond (t := false) (by kernel_rfl) (fun h => nomatch h) (fun _ => .skip (.pop (.ru G ?_)))))
      exact loopF_back (wrapF .i64 (i + 1)) hr ((Wk.gc [0, 3, 4, 5, 6, 8, 12] [(0, true), (1, true), (2, false), (3, false), (4, false), (5, false)] rfl (pKt (pKt (pKo (iC .i64) (iC_pure _) sees (pKc (pKo (iC .i64) (iC_pure _) l (pKc pK0))))))).to (by rcases hls with ⟨rfl, _⟩ | ⟨cap, rfl⟩ <;> kernel_rfl))
     ·replace hr := cd_f hn hr; obtain rfl := oi hr; rw [nlA_f hn]
      refine .seq (.r4 G [13] [(46, aB true)] (CQ.cond (t := true) (by kernel_rfl) (fun _ => .seq (.ru G (.ret ?_))) (fun h => nomatch h)))
      exact .inr ⟨rfl, FinMW.ret [.sl false ((v.getD []).flatMap (iC .i64)) (v.getD []).length] ((Wk.gc [0] [(0, true), (1, true), (2, false), (3, false), (4, false)] rfl (pKt (pKt (pKo (iC .i64) (iC_pure _) sees (pKc (pKo (iC .i64) (iC_pure _) l pK0)))))).to)⟩
    ·clear hr
     have hA : decide ((l.length + 1) * 8 ≤ 140737488355328) = true := decide_eq_true (by omega)
     have hB : decide (l.length + 1 ≤ 4611686018427387904) = true := decide_eq_true (by omega)
     rcases hls with ⟨rfl, h0⟩ | ⟨cap, rfl⟩
     ·refine .tn G (ca4 [.own [.fn 25 [] [.hp 1 0, .hp 3 0, .hp 0 0]], .own [.hs 2 0 sees.length 1], .own (sees.flatMap (iC .i64)), .own [slT api_Pix.c cs], .own (l.flatMap (iC .i64)), .own [aI64 mask], .own [aI64 i], .own ((l ++ [i]).flatMap (iC .i64))] (callOk_mut 5 [(0, true), (1, true), (2, false), (3, false), (7, false)] [true, true, false, false, false] (ih (l ++ [i]) (bitO .or .i64 mask (shlF .i64 (1 : Int) i)) (wrapF .i64 (i + 1)) (wrapF .i64 (left - 1)) v hv) (pKt (pKt (pKo (iC .i64) (iC_pure _) sees (pKc (pKo (iC .i64) (iC_pure _) (l ++ [i]) pK0))))) (by exact ⟨ids_flat (iC_pure _) _, rfl, ids_flat (iC_pure _) _, trivial⟩) rfl rfl (m := 0) (hv := nlA_rf _ v) (args := [.hs 7 0 (l ++ [i]).length 1, aI64 (bitO .or .i64 mask (shlF .i64 (1 : Int) i)), aI64 (wrapF .i64 (i + 1)), aI64 (wrapF .i64 (left - 1)), .hp 1 0, .hp 3 0, .hp 0 0]) (H := [.own [.fn 25 [] [.hp 1 0, .hp 3 0, .hp 0 0]], .own [.hs 2 0 sees.length 1], .own (sees.flatMap (iC .i64)), .own [slT api_Pix.c cs], .own (l.flatMap (iC .i64)), .own [aI64 mask], .own [aI64 i], .own ((l ++ [i]).flatMap (iC .i64))]) (ws := [(0, .own [.fn 25 [] [.hp 1 0, .hp 3 0, .hp 0 0]]), (1, .own [.hs 2 0 sees.length 1]), (2, .own (sees.flatMap (iC .i64))), (3, .own [slT api_Pix.c cs]), (7, .own ((l ++ [i]).flatMap (iC .i64)))]) (rd := [0, 1, 2, 3, 7]))) ?_
      refine .mu 4 (.eff (v := .hs 7 0 (l ++ [i]).length 1) (ws := [(7, .own ((l ++ [i]).flatMap (iC .i64)))]) (by kernel_rfl) (tr (app_nilN (c := iC .i64) (l := l) (x := i) (X := .hs 6 0 1 1) (nid := 7) (H := [.own [.fn 25 [] [.hp 1 0, .hp 3 0, .hp 0 0]], .own [.hs 2 0 sees.length 1], .own (sees.flatMap (iC .i64)), .own [slT api_Pix.c cs], .own (l.flatMap (iC .i64)), .own [aI64 mask], .own [aI64 i]]) h0 hA)) (by kernel_rfl) (.mu 2 (.pure (v := aI64 (shlF .i64 (1 : Int) i)) (by kernel_rfl) (op_shl (k := .i64) (k' := .i64) (x := 1) (y := i) (by kernel_rfl) (by kernel_rfl) hi) (by kernel_rfl) (.mu 5 (.ca cf0 (.mu 1 (.done ⟨by kernel_rfl, ?_⟩)))))))
      exact .wk (((Wk.gc [0, 3, 4, 5, 6, 8, 12, 13] [(0, true), (1, true), (2, false), (3, false), (4, false), (5, false)] rfl (pKt (pKt (pKo (iC .i64) (iC_pure _) sees (pKc (pKo (iC .i64) (iC_pure _) l (pKc pK0)))))))).to (by cases v <;> kernel_rfl)) cont
     by_cases hin : l.length + 1 ≤ cap
     ·refine .tn G (ca4 [.own [.fn 25 [] [.hp 1 0, .hp 3 0, .hp 0 0]], .own [.hs 2 0 sees.length 1], .own (sees.flatMap (iC .i64)), .own [slT api_Pix.c cs], .own ((l ++ [i]).flatMap (iC .i64)), .own [aI64 mask], .own [aI64 i]] (callOk_mut 5 [(0, true), (1, true), (2, false), (3, false), (4, false)] [true, true, false, false, false] (ih (l ++ [i]) (bitO .or .i64 mask (shlF .i64 (1 : Int) i)) (wrapF .i64 (i + 1)) (wrapF .i64 (left - 1)) v hv) (pKt (pKt (pKo (iC .i64) (iC_pure _) sees (pKc (pKo (iC .i64) (iC_pure _) (l ++ [i]) pK0))))) (by exact ⟨ids_flat (iC_pure _) _, rfl, ids_flat (iC_pure _) _, trivial⟩) rfl rfl (m := 0) (hv := nlA_rf _ v) (args := [.hs 4 0 (l ++ [i]).length 1, aI64 (bitO .or .i64 mask (shlF .i64 (1 : Int) i)), aI64 (wrapF .i64 (i + 1)), aI64 (wrapF .i64 (left - 1)), .hp 1 0, .hp 3 0, .hp 0 0]) (H := [.own [.fn 25 [] [.hp 1 0, .hp 3 0, .hp 0 0]], .own [.hs 2 0 sees.length 1], .own (sees.flatMap (iC .i64)), .own [slT api_Pix.c cs], .own ((l ++ [i]).flatMap (iC .i64)), .own [aI64 mask], .own [aI64 i]]) (ws := [(0, .own [.fn 25 [] [.hp 1 0, .hp 3 0, .hp 0 0]]), (1, .own [.hs 2 0 sees.length 1]), (2, .own (sees.flatMap (iC .i64))), (3, .own [slT api_Pix.c cs]), (4, .own ((l ++ [i]).flatMap (iC .i64)))]) (rd := [0, 1, 2, 3, 4]))) ?_
      refine .mu 4 (.eff (v := .hs 4 0 (l ++ [i]).length 1) (ws := [(4, .own ((l ++ [i]).flatMap (iC .i64)))]) (by kernel_rfl) (tr (app_hcI (c := iC .i64) (l := l) (x := i) (X := .hs 6 0 1 1) (nid := 7) (H := [.own [.fn 25 [] [.hp 1 0, .hp 3 0, .hp 0 0]], .own [.hs 2 0 sees.length 1], .own (sees.flatMap (iC .i64)), .own [slT api_Pix.c cs], .own (l.flatMap (iC .i64)), .own [aI64 mask], .own [aI64 i]]) (iC_len .i64) hin hA hB)) (by kernel_rfl) (.mu 2 (.pure (v := aI64 (shlF .i64 (1 : Int) i)) (by kernel_rfl) (op_shl (k := .i64) (k' := .i64) (x := 1) (y := i) (by kernel_rfl) (by kernel_rfl) hi) (by kernel_rfl) (.mu 5 (.ca cf0 (.mu 1 (.done ⟨by kernel_rfl, ?_⟩)))))))
      refine .wk (((Wk.gc [0, 3, 4, 5, 6, 8, 12, 13] [(0, true), (1, true), (2, false), (3, false), (4, false), (5, false)] rfl (pKt (pKt (pKo (iC .i64) (iC_pure _) sees (pKc (pKo (iC .i64) (iC_pure _) (l ++ [i]) (pKc pK0)))))))).trans ((Wk.cut 4 (cs := (l ++ [i]).flatMap (iC .i64)) l.length (by kernel_rfl)).to (c := ⟨mkS 48 0 [(0, .hc 4 0 l.length cap 1), (3, aI64 left), (4, .hp 1 0), (5, .hp 3 0), (6, .hp 0 0), (8, .hp 5 0), (12, aI64 i), (13, nlA v)], [.own [.fn 25 [] [.hp 1 0, .hp 3 0, .hp 0 0]], .own [.hs 2 0 sees.length 1], .own (sees.flatMap (iC .i64)), .own [slT api_Pix.c cs], .own (l.flatMap (iC .i64)), .own [aI64 mask]]⟩) ?_)) cont
      rw [show ((l ++ [i]).flatMap (iC .i64)).take l.length = l.flatMap (iC .i64) from by rw [List.flatMap_append]; exact List.take_left' (by rw [flat_len (iC_len _), Nat.mul_one])]
      cases v <;> kernel_rfl
     ·refine .tn G (ca4 [.own [.fn 25 [] [.hp 1 0, .hp 3 0, .hp 0 0]], .own [.hs 2 0 sees.length 1], .own (sees.flatMap (iC .i64)), .own [slT api_Pix.c cs], .own (l.flatMap (iC .i64)), .own [aI64 mask], .own [aI64 i], .own ((l ++ [i]).flatMap (iC .i64))] (callOk_mut 5 [(0, true), (1, true), (2, false), (3, false), (7, false)] [true, true, false, false, false] (ih (l ++ [i]) (bitO .or .i64 mask (shlF .i64 (1 : Int) i)) (wrapF .i64 (i + 1)) (wrapF .i64 (left - 1)) v hv) (pKt (pKt (pKo (iC .i64) (iC_pure _) sees (pKc (pKo (iC .i64) (iC_pure _) (l ++ [i]) pK0))))) (by exact ⟨ids_flat (iC_pure _) _, rfl, ids_flat (iC_pure _) _, trivial⟩) rfl rfl (m := 0) (hv := nlA_rf _ v) (args := [.hs 7 0 (l ++ [i]).length 1, aI64 (bitO .or .i64 mask (shlF .i64 (1 : Int) i)), aI64 (wrapF .i64 (i + 1)), aI64 (wrapF .i64 (left - 1)), .hp 1 0, .hp 3 0, .hp 0 0]) (H := [.own [.fn 25 [] [.hp 1 0, .hp 3 0, .hp 0 0]], .own [.hs 2 0 sees.length 1], .own (sees.flatMap (iC .i64)), .own [slT api_Pix.c cs], .own (l.flatMap (iC .i64)), .own [aI64 mask], .own [aI64 i], .own ((l ++ [i]).flatMap (iC .i64))]) (ws := [(0, .own [.fn 25 [] [.hp 1 0, .hp 3 0, .hp 0 0]]), (1, .own [.hs 2 0 sees.length 1]), (2, .own (sees.flatMap (iC .i64))), (3, .own [slT api_Pix.c cs]), (7, .own ((l ++ [i]).flatMap (iC .i64)))]) (rd := [0, 1, 2, 3, 7]))) ?_
      refine .mu 4 (.eff (v := .hs 7 0 (l ++ [i]).length 1) (ws := [(7, .own ((l ++ [i]).flatMap (iC .i64)))]) (by kernel_rfl) (tr (app_hcN (b := 4) (c := iC .i64) (l := l) (x := i) (X := .hs 6 0 1 1) (nid := 7) (H := [.own [.fn 25 [] [.hp 1 0, .hp 3 0, .hp 0 0]], .own [.hs 2 0 sees.length 1], .own (sees.flatMap (iC .i64)), .own [slT api_Pix.c cs], .own (l.flatMap (iC .i64)), .own [aI64 mask], .own [aI64 i]]) (iC_len .i64) hin hA hB)) (by kernel_rfl) (.mu 2 (.pure (v := aI64 (shlF .i64 (1 : Int) i)) (by kernel_rfl) (op_shl (k := .i64) (k' := .i64) (x := 1) (y := i) (by kernel_rfl) (by kernel_rfl) hi) (by kernel_rfl) (.mu 5 (.ca cf0 (.mu 1 (.done ⟨by kernel_rfl, ?_⟩)))))))
      exact .wk (((Wk.gc [0, 3, 4, 5, 6, 8, 12, 13] [(0, true), (1, true), (2, false), (3, false), (4, false), (5, false)] rfl (pKt (pKt (pKo (iC .i64) (iC_pure _) sees (pKc (pKo (iC .i64) (iC_pure _) l (pKc pK0)))))))).to (by cases v <;> kernel_rfl)) cont
   ·refine .leave rfl ?_
    obtain rfl := oi hr
    exact .inl ⟨rfl, rfl, (Wk.gc [] [(0, true), (1, true), (2, false), (3, false), (4, false)] rfl (pKt (pKt (pKo (iC .i64) (iC_pure _) sees (pKc (pKo (iC .i64) (iC_pure _) l pK0)))))).to⟩
  ·rintro x st' (⟨rfl, rfl, hq⟩ | ⟨rfl, hq⟩)
   ·refine CQ_exit _ rfl (.wk hq (.seq (.ru G (.ret ?_))))
    exact FinMW.ret [nS] ((Wk.gc [0] [(0, true), (1, true), (2, false), (3, false), (4, false)] rfl (pKt (pKt (pKo (iC .i64) (iC_pure _) sees (pKc (pKo (iC .i64) (iC_pure _) l pK0)))))).to)
   ·exact CQ_ret _ hq

theorem plan_choose_ok (n : Nat) (sees : List Int) (cs : List api_Pix) : ∀ (d : Nat) (l : List Int) (mask start left : Int) (r : Option (List Int)), plan_choose n sees (cs.length : Int) d l mask start left = some r →
    FnMut 5 Tryz.prog 25 [.hs 4 0 l.length 1, aI64 mask, aI64 start, aI64 left, .hp 1 0, .hp 3 0, .hp 0 0] [.own [.fn 25 [] [.hp 1 0, .hp 3 0, .hp 0 0]], .own [.hs 2 0 sees.length 1], .own (sees.flatMap (iC .i64)), .own [slT api_Pix.c cs], .own (l.flatMap (iC .i64))] (nlA r) [.own [.fn 25 [] [.hp 1 0, .hp 3 0, .hp 0 0]], .own [.hs 2 0 sees.length 1], .own (sees.flatMap (iC .i64)), .own [slT api_Pix.c cs], .own (l.flatMap (iC .i64))]
 | 0, l, mask, start, left, r, hr => by cases hr
 | d + 1, l, mask, start, left, r, hr => by
  refine FnMut.bodyW G Tryz.func25 (c := (Tryz.f25.body).getD .skip) rfl (us := [nlA r]) (s := mkS 48 0 [(0, .hs 4 0 l.length 1), (1, aI64 mask), (2, aI64 start), (3, aI64 left), (4, .hp 1 0), (5, .hp 3 0), (6, .hp 0 0)]) (by kernel_rfl) (rs := [.tmp 11]) rfl (.reveal 0 (b := 4) (len := l.length) (es := 1) (fun h0 => ?_) (fun cap => ?_))
  ·exact plan_choose_body n sees cs d (plan_choose_ok n sees cs d) l mask start left r hr nS (.inl ⟨rfl, h0⟩)
  ·exact plan_choose_body n sees cs d (plan_choose_ok n sees cs d) l mask start left r hr _ (.inr ⟨cap, rfl⟩)

theorem plan_choose_call (n : Nat) (sees : List Int) (cs : List api_Pix) (d : Nat) (mask start left : Int) (r : Option (List Int)) (hr : plan_choose n sees (cs.length : Int) d [] mask start left = some r) :
    CallOk Tryz.prog 25 [nS, aI64 mask, aI64 start, aI64 left, .hp 1 0, .hp 3 0, .hp 0 0] [.own [.fn 25 [] [.hp 1 0, .hp 3 0, .hp 0 0]], .own [.hs 2 0 sees.length 1], .own (sees.flatMap (iC .i64)), .own [slT api_Pix.c cs]] (.loc (nlA r) [(0, .own [.fn 25 [] [.hp 1 0, .hp 3 0, .hp 0 0]]), (1, .own [.hs 2 0 sees.length 1]), (2, .own (sees.flatMap (iC .i64))), (3, .own [slT api_Pix.c cs])] [0, 1, 2, 3] 0) := by
 cases d with
 | zero => cases hr
 | succ d =>
  refine callOk_mut 4 [(0, true), (1, true), (2, false), (3, false)] [true, true, false, false] (?_ : FnMut 4 Tryz.prog 25 [nS, aI64 mask, aI64 start, aI64 left, .hp 1 0, .hp 3 0, .hp 0 0] [.own [.fn 25 [] [.hp 1 0, .hp 3 0, .hp 0 0]], .own [.hs 2 0 sees.length 1], .own (sees.flatMap (iC .i64)), .own [slT api_Pix.c cs]] (nlA r) [.own [.fn 25 [] [.hp 1 0, .hp 3 0, .hp 0 0]], .own [.hs 2 0 sees.length 1], .own (sees.flatMap (iC .i64)), .own [slT api_Pix.c cs]]) (by exact ⟨ids_flat (iC_pure _) _, rfl, trivial⟩) (by exact ⟨ids_flat (iC_pure _) _, rfl, trivial⟩) rfl rfl (m := 0) (hv := nlA_rf _ r)
  refine FnMut.bodyW G Tryz.func25 (c := (Tryz.f25.body).getD .skip) rfl (us := [nlA r]) (s := mkS 48 0 [(0, nS), (1, aI64 mask), (2, aI64 start), (3, aI64 left), (4, .hp 1 0), (5, .hp 3 0), (6, .hp 0 0)]) (by kernel_rfl) (rs := [.tmp 11]) rfl (.wk (Wk.fresh (.own [])) ?_)
  refine SC.lessK (K := 5) (by omega) (SC.mono (plan_choose_body n sees cs d (plan_choose_ok n sees cs d) [] mask start left r hr nS (.inl ⟨rfl, rfl⟩)) fun x st' h => h.lessK (by omega) ?_)
  exact (Wk.gc [0] [(0, true), (1, true), (2, false), (3, false)] rfl (pKt (pKt (pKo (iC .i64) (iC_pure _) sees (pKc pK0))))).to (by cases r <;> kernel_rfl)

theorem plan_Control_ok (n : Nat) (s : api_Survey) (f : api_Flight) (candidates : List api_Pix) (r : List Int × Int) (hr : plan_Control n s f candidates = some r) : FnOk Tryz.prog 6 [.agg (api_Survey.c s), .agg (api_Flight.c f), slT api_Pix.c candidates] (.tup [sI64 r.1, aI64 r.2]) := by
 unfold plan_Control at hr
 refine FnOk.bd G Tryz.func6 [.tmp 6, .tmp 7] ?_
 unfold Tryz.f6
 simp only [Option.getD_some]
 refine .seq (.r5 G [] [(3, .hp 0 0), (4, .hp 1 0), (5, .hp 2 0)] [.own (api_Survey.c s), .own (api_Flight.c f), .own [slT api_Pix.c candidates]] (.seq (.seq ?_)))
 obtain ⟨v1, hc2, hr⟩ := bd hr
 refine .g1 G (ok0 (plan_asked_ok n s f s.High true v1 hc2)) (.mu 4 (.ca cf0 (.mu 1 (.done (.nh [3, 4, 5, 8] [.own (api_Survey.c s), .own (api_Flight.c f), .own [slT api_Pix.c candidates]] (.seq (.r4 G [3, 4, 5, 8] [(29, aB ((v1 : Int) != 0))] ?_)))))))
 refine .cd hr (fun hb4 hr => ?_) (fun hb4 hr => ?_)
 ·refine .seq (.r4 G [] [(6, nS), (7, aI64 v1)] (.ret ?_))
  obtain rfl := oi hr
  exact FinQ.ret (vs := [nS, aI64 v1]) (by kernel_rfl) (Sn.tup (SnL.cons Sn.nilsl (SnL.cons (Sn.pure rfl) SnL.nil)))
 ·refine .skip (.seq (.seq (.r4 G [3, 4, 5] [(31, slT api_Pix.c candidates), (32, aI64 (candidates.length : Int)), (33, aI64 0)] (.block ?_))))
  replace hr := bd hr; obtain ⟨o48, hL49, hr⟩ := hr
  refine .loopO (σ := fun z0 => match z0 with | x_28 => ⟨mkS 133 0 [(3, .hp 0 0), (4, .hp 1 0), (5, .hp 2 0), (31, slT api_Pix.c candidates), (32, aI64 (candidates.length : Int)), (33, aI64 x_28)], [.own (api_Survey.c s), .own (api_Flight.c f), .own [slT api_Pix.c candidates]]⟩) (Q := fun x st' => match (generalizing := false) o48 with | .inl _ => x = .exit 0 ∧ Wk 0 st' ⟨mkS 133 0 [(3, .hp 0 0), (4, .hp 1 0), (5, .hp 2 0)], [.own (api_Survey.c s), .own (api_Flight.c f), .own [slT api_Pix.c candidates]]⟩ | .inr (r0) => x = .ret ∧ FinQ Tryz.prog [.tmp 6, .tmp 7] (.tup [sI64 r0.1, aI64 r0.2]) .ret st') hL49 ((Wk.gc [3, 4, 5, 31, 32, 33] [(0, true), (1, true), (2, true)] rfl trivial).to) ?_ ?_
  ·clear hr
   rintro m x_28 hr
   show CQ _ _ _ _ _ ⟨_, _⟩
   refine .seq (.r4 G [3, 4, 5, 31, 32, 33] [(34, aB (decide (x_28 < (candidates.length : Int))))] (.seq ?_))
   refine .cd hr (fun hb40 hr => ?_) (fun hb40 hr => ?_)
   ·refine .skip (.seq (.block (.seq ?_)))
    obtain ⟨hg41, hr⟩ := gd hr
    refine .r0 G (.p0 (v := .pp (candidates.flatMap api_Pix.c) (x_28.toNat * 2)) (tr (ofP_guard hg41)) (.p0 (v := .agg (api_Pix.c (gt candidates x_28))) (Eq.trans (b := ORes.ofP (guardV (decide (2 ≤ ((candidates.flatMap api_Pix.c).drop (x_28.toNat * 2)).length)) (.agg (((candidates.flatMap api_Pix.c).drop (x_28.toNat * 2)).take 2)))) (by kernel_rfl) (flat_load api_Pix.len (inR_lt hg41) (by decide) (by omega : x_28.toNat * 2 = x_28.toNat * 2 + 0) (by kernel_rfl))) (.mu 2 (.done (.nh [3, 4, 5, 10, 31, 32, 33] [.own (api_Survey.c s), .own (api_Flight.c f), .own [slT api_Pix.c candidates], .own (api_Pix.c (gt candidates x_28))] (.seq ?_))))))
    obtain ⟨v42, hc43, hr⟩ := bd hr
    rcases Bool.eq_false_or_eq_true (!v42) with hb44 | hb44
    ·replace hr := cd_t hb44 hr
     refine .g1 G (ok0 (plan_within_ok n (gt candidates x_28).X v42 hc43)) (.mu 2 (.ca cf0 (.p0 (v := aB true) (eB hb44) (.mu 6 (.done (.nh [3, 4, 5, 31, 32, 33, 46] [.own (api_Survey.c s), .own (api_Flight.c f), .own [slT api_Pix.c candidates], .own (api_Pix.c (gt candidates x_28))] (.cT (by kernel_rfl) (.seq (.r4 G [] [(6, nS), (7, aI64 2)] (.ret ?_))))))))))
     obtain rfl := oi hr
     exact ⟨rfl, FinQ.ret (vs := [nS, aI64 2]) (by kernel_rfl) (Sn.tup (SnL.cons Sn.nilsl (SnL.cons (Sn.pure rfl) SnL.nil)))⟩
    ·replace hr := cd_f hb44 hr
     obtain ⟨v45, hc46, hr⟩ := bd hr
     refine .gn G (ca1 (ok0 (plan_within_ok n (gt candidates x_28).X v42 hc43)) (ca3 (ok0 (plan_within_ok n (gt candidates x_28).Y v45 hc46)))) (.mu 2 (.ca cf0 (.p0 (v := aB false) (eB hb44) (.mu 3 (.ca (cfA (fun h => by rw [sv hc46 hc43 (plan_within_cg n h)]) cf0) (.mu 2 (.done (.nh [3, 4, 5, 31, 32, 33, 46] [.own (api_Survey.c s), .own (api_Flight.c f), .own [slT api_Pix.c candidates], .own (api_Pix.c (gt candidates x_28))] ?_))))))))
     refine .cd hr (fun hb47 hr => ?_) (fun hb47 hr => ?_)
     ·refine .seq (.r4 G [] [(6, nS), (7, aI64 2)] (.ret ?_))
      obtain rfl := oi hr
      exact ⟨rfl, FinQ.ret (vs := [nS, aI64 2]) (by kernel_rfl) (Sn.tup (SnL.cons Sn.nilsl (SnL.cons (Sn.pure rfl) SnL.nil)))⟩
     ·refine .skip (.pop (.ru G ?_))
      exact loopF_back (wrapF .i64 (x_28 + 1)) hr ((Wk.gc [3, 4, 5, 31, 32, 33] [(0, true), (1, true), (2, true)] rfl trivial).to)
   ·refine .leave rfl ?_
    obtain rfl := oi hr
    exact ⟨rfl, ((Wk.gc [3, 4, 5] [(0, true), (1, true), (2, true)] rfl trivial).to)⟩
  ·rcases o48 with ⟨⟩ | r0
   ·rintro x st' hq50
    clear hL49
    obtain ⟨rfl, hq50⟩ := hq50
    refine CQ_exit _ rfl (.wk hq50 (.seq (.seq (.r4 G [3, 4, 5] [(50, aB (decide ((candidates.length : Int) > 16)))] ?_))))
    refine .cd hr (fun hb52 hr => ?_) (fun hb52 hr => ?_)
    ·refine .seq (.r4 G [] [(6, nS), (7, aI64 3)] (.ret ?_))
     obtain rfl := oi hr
     exact FinQ.ret (vs := [nS, aI64 3]) (by kernel_rfl) (Sn.tup (SnL.cons Sn.nilsl (SnL.cons (Sn.pure rfl) SnL.nil)))
    ·refine .skip (.seq (.r4 G [3, 4, 5] [(11, aI64 (wrapF .i64 (f.Height - s.High)))] (.seq (.r5 G [3, 4, 5, 11] [(12, .hp 3 0)] [.own (api_Survey.c s), .own (api_Flight.c f), .own [slT api_Pix.c candidates], .own [nS]] (.seq (.seq ?_))))))
     obtain ⟨v53, hc54, hr⟩ := bd hr
     refine .g1 G (ok0 (slices_Concat_fiducial_api_Pix_fiducial_api_Pix_ok n f.Strips v53 hc54)) (.mu 2 (.ca cf0 (.mu 2 (.done (.nh [3, 5, 11, 12, 58, 59, 60] [.own (api_Survey.c s), .own (api_Flight.c f), .own [slT api_Pix.c candidates], .own [nS]] (.block ?_))))))
     replace hr := bd hr; obtain ⟨sees_136, hL163, hr⟩ := hr
     refine .loopO (σ := fun z0 => match z0 with | (sees_110, x_111) => ⟨mkS 133 0 [(3, .hp 0 0), (5, .hp 1 0), (11, aI64 (wrapF .i64 (f.Height - s.High))), (12, .hp 2 0), (58, slT api_Pix.c v53), (59, aI64 (v53.length : Int)), (60, aI64 x_111)], [.own (api_Survey.c s), .own [slT api_Pix.c candidates], .own [.hs 3 0 sees_110.length 1], .own (sees_110.flatMap (iC .i64))]⟩) (Q := fun x st' => x = .exit 2 ∧ Wk 0 st' ⟨mkS 133 0 [(5, .hp 0 0), (12, .hp 1 0)], [.own [slT api_Pix.c candidates], .own [.hs 2 0 sees_136.length 1], .own (sees_136.flatMap (iC .i64))]⟩) hL163 ((Wk.nilcell 3 0 1 (cs := [nS]) (by kernel_rfl) (by kernel_rfl)).trans ((Wk.gc [3, 5, 11, 12, 58, 59, 60] [(0, true), (2, true), (3, true), (4, false)] rfl (pKt (pKt (pKt (pKc trivial))))).to)) ?_ ?_
     ·clear hr
      rintro m ⟨sees_110, x_111⟩ hr
      show CQ _ _ _ _ _ ⟨_, _⟩
      refine .seq (.r4 G [3, 5, 11, 12, 58, 59, 60] [(61, aB (decide (x_111 < (v53.length : Int))))] (.seq ?_))
      refine .cd hr (fun hb139 hr => ?_) (fun hb139 hr => ?_)
      ·refine .skip (.seq (.block (.seq ?_)))
       obtain ⟨hg140, hr⟩ := gd hr
       refine .r0 G (.p0 (v := .pp (v53.flatMap api_Pix.c) (x_111.toNat * 2)) (tr (ofP_guard hg140)) (.p0 (v := .agg (api_Pix.c (gt v53 x_111))) (Eq.trans (b := ORes.ofP (guardV (decide (2 ≤ ((v53.flatMap api_Pix.c).drop (x_111.toNat * 2)).length)) (.agg (((v53.flatMap api_Pix.c).drop (x_111.toNat * 2)).take 2)))) (by kernel_rfl) (flat_load api_Pix.len (inR_lt hg140) (by decide) (by omega : x_111.toNat * 2 = x_111.toNat * 2 + 0) (by kernel_rfl))) (.mu 2 (.done (.nh [3, 5, 11, 12, 14, 58, 59, 60] [.own (api_Survey.c s), .own [slT api_Pix.c candidates], .own [.hs 3 0 sees_110.length 1], .own (sees_110.flatMap (iC .i64)), .own (api_Pix.c (gt v53 x_111))] (.seq (.r4 G [3, 5, 11, 12, 14, 58, 59, 60] [(15, aI64 0)] (.seq (.seq (.r4 G [3, 5, 11, 12, 14, 15, 58, 59, 60] [(64, slT api_Pix.c candidates), (65, aI64 (candidates.length : Int)), (66, aI64 0)] (.block ?_)))))))))))
       replace hr := bd hr; obtain ⟨mask_149, hL158, hr⟩ := hr
       refine .loopO (σ := fun z0 => match z0 with | (mask_141, x_142) => ⟨mkS 133 0 [(3, .hp 0 0), (5, .hp 1 0), (11, aI64 (wrapF .i64 (f.Height - s.High))), (12, .hp 2 0), (14, .hp 4 0), (15, aI64 mask_141), (58, slT api_Pix.c v53), (59, aI64 (v53.length : Int)), (60, aI64 x_111), (64, slT api_Pix.c candidates), (65, aI64 (candidates.length : Int)), (66, aI64 x_142)], [.own (api_Survey.c s), .own [slT api_Pix.c candidates], .own [.hs 3 0 sees_110.length 1], .own (sees_110.flatMap (iC .i64)), .own (api_Pix.c (gt v53 x_111))]⟩) (Q := fun x st' => x = .exit 4 ∧ Wk 0 st' ⟨mkS 133 0 [(3, .hp 0 0), (5, .hp 1 0), (11, aI64 (wrapF .i64 (f.Height - s.High))), (12, .hp 2 0), (15, aI64 mask_149), (58, slT api_Pix.c v53), (59, aI64 (v53.length : Int)), (60, aI64 x_111)], [.own (api_Survey.c s), .own [slT api_Pix.c candidates], .own [.hs 3 0 sees_110.length 1], .own (sees_110.flatMap (iC .i64))]⟩) hL158 ((Wk.gc [3, 5, 11, 12, 14, 15, 58, 59, 60, 64, 65, 66] [(0, true), (1, true), (2, true), (3, false), (4, true)] rfl (pKt (pKt (pKt (pKo (iC .i64) (iC_pure _) sees_110 trivial))))).to) ?_ ?_
       ·clear hr
        rintro m ⟨mask_141, x_142⟩ hr
        show CQ _ _ _ _ _ ⟨_, _⟩
        refine .seq (.r4 G [3, 5, 11, 12, 14, 15, 58, 59, 60, 64, 65, 66] [(67, aB (decide (x_142 < (candidates.length : Int))))] (.seq ?_))
        refine .cd hr (fun hb152 hr => ?_) (fun hb152 hr => ?_)
        ·refine .skip (.seq (.block (.seq ?_)))
         obtain ⟨hg153, hr⟩ := gd hr
         refine .r0 G (.mu 1 (.p0 (v := .pp (candidates.flatMap api_Pix.c) (x_142.toNat * 2)) (tr (ofP_guard hg153)) (.p0 (v := .agg (api_Pix.c (gt candidates x_142))) (Eq.trans (b := ORes.ofP (guardV (decide (2 ≤ ((candidates.flatMap api_Pix.c).drop (x_142.toNat * 2)).length)) (.agg (((candidates.flatMap api_Pix.c).drop (x_142.toNat * 2)).take 2)))) (by kernel_rfl) (flat_load api_Pix.len (inR_lt hg153) (by decide) (by omega : x_142.toNat * 2 = x_142.toNat * 2 + 0) (by kernel_rfl))) (.mu 3 (.done (.nh [3, 5, 11, 12, 14, 15, 16, 17, 58, 59, 60, 64, 65, 66] [.own (api_Survey.c s), .own [slT api_Pix.c candidates], .own [.hs 3 0 sees_110.length 1], .own (sees_110.flatMap (iC .i64)), .own (api_Pix.c (gt v53 x_111)), .own (api_Pix.c (gt candidates x_142))] (.seq (.regionT G callOf_nil (.mu 12 ?_)))))))))
         refine .done ⟨by kernel_rfl, ?_⟩
         refine .nh [3, 5, 11, 12, 14, 15, 16, 18, 19, 58, 59, 60, 64, 65, 66] [.own (api_Survey.c s), .own [slT api_Pix.c candidates], .own [.hs 3 0 sees_110.length 1], .own (sees_110.flatMap (iC .i64)), .own (api_Pix.c (gt v53 x_111)), .own (api_Pix.c (gt candidates x_142))] (.seq ?_)
         rcases Bool.eq_false_or_eq_true (decide ((wrapF .i64 ((wrapF .i64 ((mx (wrapF .i64 ((gt candidates x_142).X - (gt v53 x_111).X)) (wrapF .i64 (0 - (wrapF .i64 ((gt candidates x_142).X - (gt v53 x_111).X))))) * 2)) * s.Focal)) ≤ (wrapF .i64 (s.Along * (wrapF .i64 (f.Height - s.High)))))) with hb154 | hb154
         ·replace hr := cd_t hb154 hr
          refine .r0 G (.mu 2 (.p0 (v := aI64 (wrapF .i64 (0 - (wrapF .i64 ((gt candidates x_142).X - (gt v53 x_111).X))))) (Eq.trans (b := some (.pure (aI64 (IntKind.wrap .i64 (0 - (wrapF .i64 ((gt candidates x_142).X - (gt v53 x_111).X))))))) (by kernel_rfl) wrap_at) (.mu 9 (.p0 (v := aB true) (eB hb154) (.mu 3 (.pure (v := aI64 (wrapF .i64 (0 - (wrapF .i64 ((gt candidates x_142).Y - (gt v53 x_111).Y))))) (by kernel_rfl) (Eq.trans (b := some (.pure (aI64 (IntKind.wrap .i64 (0 - (wrapF .i64 ((gt candidates x_142).Y - (gt v53 x_111).Y))))))) (by kernel_rfl) wrap_at) (.mu 11 (.done (.nh [3, 5, 11, 12, 14, 15, 16, 58, 59, 60, 64, 65, 66, 108] [.own (api_Survey.c s), .own [slT api_Pix.c candidates], .own [.hs 3 0 sees_110.length 1], .own (sees_110.flatMap (iC .i64)), .own (api_Pix.c (gt v53 x_111)), .own (api_Pix.c (gt candidates x_142))] ?_)))))))))
          refine .cd hr (fun hb155 hr => ?_) (fun hb155 hr => ?_)
          ·obtain ⟨hg156, hr⟩ := gd hr
           refine .r0 G (.mu 2 (.p0 (v := aI64 (shlF .i64 (1 : Int) x_142)) (op_shl (k := .i64) (k' := .i64) (x := 1) (y := x_142) (by kernel_rfl) (by kernel_rfl) hg156) (.mu 2 (.done (.pop (.ru G ?_))))))
           exact loopF_back (bitO .or .i64 mask_141 (shlF .i64 (1 : Int) x_142), wrapF .i64 (x_142 + 1)) hr ((Wk.gc [3, 5, 11, 12, 14, 15, 58, 59, 60, 64, 65, 66] [(0, true), (1, true), (2, true), (3, false), (4, true)] rfl (pKt (pKt (pKt (pKo (iC .i64) (iC_pure _) sees_110 trivial))))).to)
          ·refine .skip (.pop (.ru G ?_))
           exact loopF_back (mask_141, wrapF .i64 (x_142 + 1)) hr ((Wk.gc [3, 5, 11, 12, 14, 15, 58, 59, 60, 64, 65, 66] [(0, true), (1, true), (2, true), (3, false), (4, true)] rfl (pKt (pKt (pKt (pKo (iC .i64) (iC_pure _) sees_110 trivial))))).to)
         ·replace hr := cd_f hb154 hr
          refine .r0 G (.mu 2 (.p0 (v := aI64 (wrapF .i64 (0 - (wrapF .i64 ((gt candidates x_142).X - (gt v53 x_111).X))))) (Eq.trans (b := some (.pure (aI64 (IntKind.wrap .i64 (0 - (wrapF .i64 ((gt candidates x_142).X - (gt v53 x_111).X))))))) (by kernel_rfl) wrap_at) (.mu 9 (.p0 (v := aB false) (eB hb154) (.mu 15 (.done (.nh [3, 5, 11, 12, 14, 15, 16, 58, 59, 60, 64, 65, 66, 108] [.own (api_Survey.c s), .own [slT api_Pix.c candidates], .own [.hs 3 0 sees_110.length 1], .own (sees_110.flatMap (iC .i64)), .own (api_Pix.c (gt v53 x_111)), .own (api_Pix.c (gt candidates x_142))] (.cF (by kernel_rfl) (.skip (.pop (.ru G ?_)))))))))))
          exact loopF_back (mask_141, wrapF .i64 (x_142 + 1)) hr ((Wk.gc [3, 5, 11, 12, 14, 15, 58, 59, 60, 64, 65, 66] [(0, true), (1, true), (2, true), (3, false), (4, true)] rfl (pKt (pKt (pKt (pKo (iC .i64) (iC_pure _) sees_110 trivial))))).to)
        ·refine .leave rfl ?_
         obtain rfl := oi hr
         exact ⟨rfl, ((Wk.gc [3, 5, 11, 12, 15, 58, 59, 60] [(0, true), (1, true), (2, true), (3, false)] rfl (pKt (pKt (pKt (pKo (iC .i64) (iC_pure _) sees_110 trivial))))).to)⟩
       ·rintro x st' hq159
        clear hL158
        obtain ⟨rfl, hq159⟩ := hq159
        refine CQ_exit _ rfl (.wk hq159 ?_)
        obtain ⟨hg160, hg161, hr⟩ := gd2 hr
        refine .r0 G (.mu 3 (.e0 (v := .hs 5 0 (sees_110 ++ [mask_149]).length 1) (ws := [(3, .dead), (5, .own ((sees_110 ++ [mask_149]).flatMap (iC .i64)))]) (tr (app_own (new := [aI64 mask_149]) (l := sees_110) (xs := [mask_149]) (iC_len .i64) rfl rfl (by kernel_rfl) hg160 hg161)) (.mu 1 (.done (.pop (.ru G ?_))))))
        exact loopF_back (sees_110 ++ [mask_149], wrapF .i64 (x_111 + 1)) hr ((Wk.gc [3, 5, 11, 12, 58, 59, 60] [(0, true), (1, true), (2, true), (5, false)] rfl (pKt (pKt (pKt (pKo (iC .i64) (iC_pure _) (sees_110 ++ [mask_149]) trivial))))).to)
      ·refine .leave rfl ?_
       obtain rfl := oi hr
       exact ⟨rfl, ((Wk.gc [5, 12] [(1, true), (2, true), (3, false)] rfl (pKt (pKt (pKo (iC .i64) (iC_pure _) sees_110 trivial)))).to)⟩
     ·rintro x st' hq164
      clear hL163
      obtain ⟨rfl, hq164⟩ := hq164
      refine CQ_exit _ rfl (.wk hq164 (.seq (.r5 G [5, 12] [(20, .hp 3 0)] [.own [slT api_Pix.c candidates], .own [.hs 2 0 sees_136.length 1], .own (sees_136.flatMap (iC .i64)), .own [.at .nilFunc]] (.seq (.r5 G [5, 20] [] [.own [slT api_Pix.c candidates], .own [.hs 2 0 sees_136.length 1], .own (sees_136.flatMap (iC .i64)), .own [.fn 25 [] [.hp 1 0, .hp 0 0, .hp 3 0]]] (.seq (.seq (.r4 G [20] [(122, aI64 (wrapF .i64 ((candidates.length : Int) + 1))), (123, aI64 0)] (.block ?_)))))))))
      replace hr := bd hr; obtain ⟨o177, hL178, hr⟩ := hr
      refine .loopO (σ := fun z0 => match z0 with | x_165 => ⟨mkS 133 0 [(20, .hp 0 0), (122, aI64 (wrapF .i64 ((candidates.length : Int) + 1))), (123, aI64 x_165)], [.own [.fn 25 [] [.hp 1 0, .hp 3 0, .hp 0 0]], .own [.hs 2 0 sees_136.length 1], .own (sees_136.flatMap (iC .i64)), .own [slT api_Pix.c candidates]]⟩) (Q := fun x st' => match (generalizing := false) o177 with | .inl _ => x = .exit 6 ∧ Wk 0 st' ⟨mkS 133 0 [], []⟩ | .inr (r0) => x = .ret ∧ FinQ Tryz.prog [.tmp 6, .tmp 7] (.tup [sI64 r0.1, aI64 r0.2]) .ret st') hL178 ((Wk.gc [20, 122, 123] [(3, true), (1, true), (2, false), (0, true)] rfl (pKt (pKt (pKo (iC .i64) (iC_pure _) sees_136 trivial)))).to) ?_ ?_
      ·clear hr
       rintro m x_165 hr
       show CQ _ _ _ _ _ ⟨_, _⟩
       refine .seq (.r4 G [20, 122, 123] [(124, aB (decide (x_165 < (wrapF .i64 ((candidates.length : Int) + 1)))))] (.seq ?_))
       refine .cd hr (fun hb173 hr => ?_) (fun hb173 hr => ?_)
       ·refine .skip (.seq (.block (.seq (.r4 G [20, 122, 123] [(21, aI64 x_165)] (.seq ?_)))))
        obtain ⟨v174, hc175, hr⟩ := bd hr
        refine .g1 G (plan_choose_call n sees_136 candidates n 0 0 x_165 v174 hc175) (.mu 2 (.ca cf0 (.mu 1 (.done (.nh [20, 22, 122, 123] [.own [.fn 25 [] [.hp 1 0, .hp 3 0, .hp 0 0]], .own [.hs 2 0 sees_136.length 1], .own (sees_136.flatMap (iC .i64)), .own [slT api_Pix.c candidates]] (.seq ?_))))))
        rcases Bool.eq_false_or_eq_true v174.isNone with hn176 | hn176
        ·replace hr := cd_t hn176 hr
         rw [nlA_t hn176]
         refine .r4 G [20, 22, 122, 123] [(130, aB false)] (.cF (by kernel_rfl) (.skip (.pop (.ru G ?_))))
         exact loopF_back (wrapF .i64 (x_165 + 1)) hr ((Wk.gc [20, 122, 123] [(0, true), (1, true), (2, false), (3, true)] rfl (pKt (pKt (pKo (iC .i64) (iC_pure _) sees_136 trivial)))).to)
        ·replace hr := cd_f hn176 hr
         rw [nlA_f hn176]
         refine .r4 G [20, 22, 122, 123] [(130, aB true)] (.cT (by kernel_rfl) (.seq (.ru G (.ret ?_))))
         obtain rfl := oi hr
         exact ⟨rfl, FinQ.ret (vs := [.sl false ((v174.getD []).flatMap (iC .i64)) (v174.getD []).length, aI64 0]) (by kernel_rfl) (Sn.tup (SnL.cons Sn.slw (SnL.cons (Sn.pure rfl) SnL.nil)))⟩
       ·refine .leave rfl ?_
        obtain rfl := oi hr
        exact ⟨rfl, ((Wk.gc [] [] rfl pK0).to)⟩
      ·rcases o177 with ⟨⟩ | r0
       ·rintro x st' hq179
        clear hL178
        obtain ⟨rfl, hq179⟩ := hq179
        refine CQ_exit _ rfl (.wk hq179 (.seq (.r4 G [] [(6, nS), (7, aI64 6)] (.ret ?_))))
        obtain rfl := oi hr
        exact FinQ.ret (vs := [nS, aI64 6]) (by kernel_rfl) (Sn.tup (SnL.cons Sn.nilsl (SnL.cons (Sn.pure rfl) SnL.nil)))
       ·rintro x st' hq179
        clear hL178
        obtain ⟨rfl, hq179⟩ := hq179
        obtain rfl := oi hr
        exact CQ_ret _ hq179
   ·rintro x st' hq50
    clear hL49
    obtain ⟨rfl, hq50⟩ := hq50
    obtain rfl := oi hr
    exact CQ_ret _ hq50

theorem fiduciallaw55_out_ok (n : Nat) (l : List Int) (r : Bool) (hr : fiduciallaw55_out n l = some r) : FnOk Tryz.prog 10 [sI64 l] (aB r) := by
 unfold fiduciallaw55_out at hr
 refine FnOk.bd G Tryz.func10 [.tmp 2] ?_
 unfold Tryz.f10
 simp only [Option.getD_some]
 refine .seq (.r4 G [0] [] (.seq (.seq (.r3 G 18 [(5, sI64 l), (6, aI64 (l.length : Int)), (7, aI64 0)] (.block ?_)))))
 replace hr := bd hr; obtain ⟨o13, hL14, hr⟩ := hr
 refine .loopO (σ := fun z0 => match z0 with | x_1 => ⟨mkS 18 0 [(5, sI64 l), (6, aI64 (l.length : Int)), (7, aI64 x_1)], []⟩) (Q := fun x st' => match (generalizing := false) o13 with | .inl _ => x = .exit 0 ∧ Wk 0 st' ⟨mkS 18 0 [], []⟩ | .inr (r0) => x = .ret ∧ FinQ Tryz.prog [.tmp 2] (aB r0) .ret st') hL14 ((Wk.gc [5, 6, 7] [] rfl pK0).to) ?_ ?_
 ·clear hr
  rintro m x_1 hr
  show CQ _ _ _ _ _ ⟨_, _⟩
  refine .seq (.r4 G [5, 6, 7] [(8, aB (decide (x_1 < (l.length : Int))))] (.seq ?_))
  refine .cd hr (fun hb9 hr => ?_) (fun hb9 hr => ?_)
  ·refine .skip (.seq (.block (.seq ?_)))
   obtain ⟨hg10, hr⟩ := gd hr
   refine .r0 G (.p0 (v := .pp (l.flatMap (iC .i64)) (x_1.toNat * 1)) (tr (ofP_guard hg10)) (.p0 (v := aI64 (gt l x_1)) (tr (ofP_some (flat_get (iC_len .i64) (inR_lt hg10) (by decide : 0 < 1) (by omega : x_1.toNat * 1 = x_1.toNat * 1 + 0) (by kernel_rfl)))) (.mu 1 (.done (.nh [4, 5, 6, 7] [] (.seq ?_))))))
   rcases Bool.eq_false_or_eq_true (decide ((gt l x_1) < (-1048576))) with hb11 | hb11
   ·replace hr := cd_t hb11 hr
    refine .r0 G (.mu 1 (.p0 (v := aB true) (eB hb11) (.mu 4 (.done (.nh [5, 6, 7, 16] [] (.cT (by kernel_rfl) (.seq (.ru G (.ret ?_)))))))))
    obtain rfl := oi hr
    exact ⟨rfl, FinQ.ret (vs := [aB true]) (by kernel_rfl) (Sn.pure rfl)⟩
   ·replace hr := cd_f hb11 hr
    refine .r0 G (.mu 1 (.p0 (v := aB false) (eB hb11) (.mu 4 (.done (.nh [5, 6, 7, 16] [] ?_)))))
    refine .cd hr (fun hb12 hr => ?_) (fun hb12 hr => ?_)
    ·refine .seq (.ru G (.ret ?_))
     obtain rfl := oi hr
     exact ⟨rfl, FinQ.ret (vs := [aB true]) (by kernel_rfl) (Sn.pure rfl)⟩
    ·refine .skip (.pop (.ru G ?_))
     exact loopF_back (wrapF .i64 (x_1 + 1)) hr ((Wk.gc [5, 6, 7] [] rfl pK0).to)
  ·refine .leave rfl ?_
   obtain rfl := oi hr
   exact ⟨rfl, ((Wk.gc [] [] rfl pK0).to)⟩
 ·rcases o13 with ⟨⟩ | r0
  ·rintro x st' hq15
   clear hL14
   obtain ⟨rfl, hq15⟩ := hq15
   refine CQ_exit _ rfl (.wk hq15 (.seq (.ru G (.ret ?_))))
   obtain rfl := oi hr
   exact FinQ.r1 [aB false]
  ·rintro x st' hq15
   clear hL14
   obtain ⟨rfl, hq15⟩ := hq15
   obtain rfl := oi hr
   exact CQ_ret _ hq15

theorem fiduciallaw55_check_ok (n : Nat) (s : api_Survey) (r : Int) (hr : fiduciallaw55_check n s = some r) : FnOk Tryz.prog 28 [.agg (api_Survey.c s)] (aI64 r) := by
 unfold fiduciallaw55_check at hr
 refine FnOk.bd G Tryz.func28 [.tmp 2] ?_
 unfold Tryz.f28
 simp only [Option.getD_some]
 refine .seq (.r2 G 80 [(1, .hp 0 0)] [.own (api_Survey.c s)] (.seq (.seq ?_)))
 rcases Bool.eq_false_or_eq_true (decide (s.Width < 1)) with hb1 | hb1
 ·replace hr := cd_t hb1 hr
  refine .r0 G (.mu 2 (.p0 (v := aB true) (eB hb1) (.mu 41 (.done (.nh [1, 46] [.own (api_Survey.c s)] (.cT (by kernel_rfl) (.seq (.ru G (.ret ?_)))))))))
  obtain rfl := oi hr
  exact FinQ.r1 [aI64 2]
 ·replace hr := cd_f hb1 hr
  rcases Bool.eq_false_or_eq_true (decide (s.Height < 1)) with hb2 | hb2
  ·replace hr := cd_t hb2 hr
   refine .r0 G (.mu 2 (.p0 (v := aB false) (eB hb1) (.mu 3 (.pure (v := aB true) (by kernel_rfl) (eB hb2) (.mu 37 (.done (.nh [1, 46] [.own (api_Survey.c s)] (.cT (by kernel_rfl) (.seq (.ru G (.ret ?_)))))))))))
   obtain rfl := oi hr
   exact FinQ.r1 [aI64 2]
  ·replace hr := cd_f hb2 hr
   obtain ⟨v3, hc4, hr⟩ := bd hr
   rcases Bool.eq_false_or_eq_true v3 with hb5 | hb5
   ·subst hb5
    replace hr := cd_t rfl hr
    refine .gn G (ca4 [.own (api_Survey.c s), .own [aI64 s.Width, aI64 s.Height, aI64 s.Low, aI64 s.High, aI64 s.Across, aI64 s.Along]] (callOk_val (args := [.hs 1 0 6 1]) (l := [1]) rfl (SnL.cons (Sn.hs rfl (.inl rfl) (SnC.cons (Sn.pure rfl) (SnC.cons (Sn.pure rfl) (SnC.cons (Sn.pure rfl) (SnC.cons (Sn.pure rfl) (SnC.cons (Sn.pure rfl) (SnC.cons (Sn.pure rfl) SnC.nil)))))) (fun h => nomatch h)) SnL.nil) (fiduciallaw55_out_ok n [s.Width, s.Height, s.Low, s.High, s.Across, s.Along] true hc4))) (.mu 2 (.p0 (v := aB false) (eB hb1) (.mu 3 (.pure (v := aB false) (by kernel_rfl) (eB hb2) (.mu 15 (.ca cf0 (.mu 21 (.done (.nh [1, 46] [.own (api_Survey.c s), .own [aI64 s.Width, aI64 s.Height, aI64 s.Low, aI64 s.High, aI64 s.Across, aI64 s.Along]] (.cT (by kernel_rfl) (.seq (.ru G (.ret ?_)))))))))))))
    obtain rfl := oi hr
    exact FinQ.r1 [aI64 2]
   ·subst hb5
    replace hr := cd_f rfl hr
    rcases Bool.eq_false_or_eq_true (decide (s.Across < 1)) with hb6 | hb6
    ·replace hr := cd_t hb6 hr
     refine .gn G (ca4 [.own (api_Survey.c s), .own [aI64 s.Width, aI64 s.Height, aI64 s.Low, aI64 s.High, aI64 s.Across, aI64 s.Along]] (callOk_val (args := [.hs 1 0 6 1]) (l := [1]) rfl (SnL.cons (Sn.hs rfl (.inl rfl) (SnC.cons (Sn.pure rfl) (SnC.cons (Sn.pure rfl) (SnC.cons (Sn.pure rfl) (SnC.cons (Sn.pure rfl) (SnC.cons (Sn.pure rfl) (SnC.cons (Sn.pure rfl) SnC.nil)))))) (fun h => nomatch h)) SnL.nil) (fiduciallaw55_out_ok n [s.Width, s.Height, s.Low, s.High, s.Across, s.Along] false hc4))) (.mu 2 (.p0 (v := aB false) (eB hb1) (.mu 3 (.pure (v := aB false) (by kernel_rfl) (eB hb2) (.mu 15 (.ca cf0 (.mu 4 (.pure (v := aB true) (by kernel_rfl) (eB hb6) (.mu 16 (.done (.nh [1, 46] [.own (api_Survey.c s), .own [aI64 s.Width, aI64 s.Height, aI64 s.Low, aI64 s.High, aI64 s.Across, aI64 s.Along]] (.cT (by kernel_rfl) (.seq (.ru G (.ret ?_)))))))))))))))
     obtain rfl := oi hr
     exact FinQ.r1 [aI64 2]
    ·replace hr := cd_f hb6 hr
     rcases Bool.eq_false_or_eq_true (decide (s.Along < 1)) with hb7 | hb7
     ·replace hr := cd_t hb7 hr
      refine .gn G (ca4 [.own (api_Survey.c s), .own [aI64 s.Width, aI64 s.Height, aI64 s.Low, aI64 s.High, aI64 s.Across, aI64 s.Along]] (callOk_val (args := [.hs 1 0 6 1]) (l := [1]) rfl (SnL.cons (Sn.hs rfl (.inl rfl) (SnC.cons (Sn.pure rfl) (SnC.cons (Sn.pure rfl) (SnC.cons (Sn.pure rfl) (SnC.cons (Sn.pure rfl) (SnC.cons (Sn.pure rfl) (SnC.cons (Sn.pure rfl) SnC.nil)))))) (fun h => nomatch h)) SnL.nil) (fiduciallaw55_out_ok n [s.Width, s.Height, s.Low, s.High, s.Across, s.Along] false hc4))) (.mu 2 (.p0 (v := aB false) (eB hb1) (.mu 3 (.pure (v := aB false) (by kernel_rfl) (eB hb2) (.mu 15 (.ca cf0 (.mu 4 (.pure (v := aB false) (by kernel_rfl) (eB hb6) (.mu 4 (.pure (v := aB true) (by kernel_rfl) (eB hb7) (.mu 11 (.done (.nh [1, 46] [.own (api_Survey.c s), .own [aI64 s.Width, aI64 s.Height, aI64 s.Low, aI64 s.High, aI64 s.Across, aI64 s.Along]] (.cT (by kernel_rfl) (.seq (.ru G (.ret ?_)))))))))))))))))
      obtain rfl := oi hr
      exact FinQ.r1 [aI64 2]
     ·replace hr := cd_f hb7 hr
      rcases Bool.eq_false_or_eq_true (decide (s.Focal < 1)) with hb8 | hb8
      ·replace hr := cd_t hb8 hr
       refine .gn G (ca4 [.own (api_Survey.c s), .own [aI64 s.Width, aI64 s.Height, aI64 s.Low, aI64 s.High, aI64 s.Across, aI64 s.Along]] (callOk_val (args := [.hs 1 0 6 1]) (l := [1]) rfl (SnL.cons (Sn.hs rfl (.inl rfl) (SnC.cons (Sn.pure rfl) (SnC.cons (Sn.pure rfl) (SnC.cons (Sn.pure rfl) (SnC.cons (Sn.pure rfl) (SnC.cons (Sn.pure rfl) (SnC.cons (Sn.pure rfl) SnC.nil)))))) (fun h => nomatch h)) SnL.nil) (fiduciallaw55_out_ok n [s.Width, s.Height, s.Low, s.High, s.Across, s.Along] false hc4))) (.mu 2 (.p0 (v := aB false) (eB hb1) (.mu 3 (.pure (v := aB false) (by kernel_rfl) (eB hb2) (.mu 15 (.ca cf0 (.mu 4 (.pure (v := aB false) (by kernel_rfl) (eB hb6) (.mu 4 (.pure (v := aB false) (by kernel_rfl) (eB hb7) (.mu 4 (.pure (v := aB true) (by kernel_rfl) (eB hb8) (.mu 6 (.done (.nh [1, 46] [.own (api_Survey.c s), .own [aI64 s.Width, aI64 s.Height, aI64 s.Low, aI64 s.High, aI64 s.Across, aI64 s.Along]] (.cT (by kernel_rfl) (.seq (.ru G (.ret ?_)))))))))))))))))))
       obtain rfl := oi hr
       exact FinQ.r1 [aI64 2]
      ·replace hr := cd_f hb8 hr
       refine .gn G (ca4 [.own (api_Survey.c s), .own [aI64 s.Width, aI64 s.Height, aI64 s.Low, aI64 s.High, aI64 s.Across, aI64 s.Along]] (callOk_val (args := [.hs 1 0 6 1]) (l := [1]) rfl (SnL.cons (Sn.hs rfl (.inl rfl) (SnC.cons (Sn.pure rfl) (SnC.cons (Sn.pure rfl) (SnC.cons (Sn.pure rfl) (SnC.cons (Sn.pure rfl) (SnC.cons (Sn.pure rfl) (SnC.cons (Sn.pure rfl) SnC.nil)))))) (fun h => nomatch h)) SnL.nil) (fiduciallaw55_out_ok n [s.Width, s.Height, s.Low, s.High, s.Across, s.Along] false hc4))) (.mu 2 (.p0 (v := aB false) (eB hb1) (.mu 3 (.pure (v := aB false) (by kernel_rfl) (eB hb2) (.mu 15 (.ca cf0 (.mu 4 (.pure (v := aB false) (by kernel_rfl) (eB hb6) (.mu 4 (.pure (v := aB false) (by kernel_rfl) (eB hb7) (.mu 4 (.pure (v := aB false) (by kernel_rfl) (eB hb8) (.mu 6 (.done (.nh [1, 46] [.own (api_Survey.c s), .own [aI64 s.Width, aI64 s.Height, aI64 s.Low, aI64 s.High, aI64 s.Across, aI64 s.Along]] ?_)))))))))))))))
       refine .cd hr (fun hb10 hr => ?_) (fun hb10 hr => ?_)
       ·refine .seq (.ru G (.ret ?_))
        obtain rfl := oi hr
        exact FinQ.r1 [aI64 2]
       ·refine .skip (.seq (.seq ?_))
        rcases Bool.eq_false_or_eq_true (decide (s.Overlap < 0)) with hb11 | hb11
        ·replace hr := cd_t hb11 hr
         refine .r0 G (.mu 2 (.p0 (v := aB true) (eB hb11) (.mu 25 (.done (.nh [1, 74] [.own (api_Survey.c s), .own [aI64 s.Width, aI64 s.Height, aI64 s.Low, aI64 s.High, aI64 s.Across, aI64 s.Along]] (.cT (by kernel_rfl) (.seq (.ru G (.ret ?_)))))))))
         obtain rfl := oi hr
         exact FinQ.r1 [aI64 2]
        ·replace hr := cd_f hb11 hr
         rcases Bool.eq_false_or_eq_true (decide (s.Overlap > 95)) with hb12 | hb12
         ·replace hr := cd_t hb12 hr
          refine .r0 G (.mu 2 (.p0 (v := aB false) (eB hb11) (.mu 3 (.pure (v := aB true) (by kernel_rfl) (eB hb12) (.mu 21 (.done (.nh [1, 74] [.own (api_Survey.c s), .own [aI64 s.Width, aI64 s.Height, aI64 s.Low, aI64 s.High, aI64 s.Across, aI64 s.Along]] (.cT (by kernel_rfl) (.seq (.ru G (.ret ?_)))))))))))
          obtain rfl := oi hr
          exact FinQ.r1 [aI64 2]
         ·replace hr := cd_f hb12 hr
          rcases Bool.eq_false_or_eq_true (decide (s.Sidelap < 0)) with hb13 | hb13
          ·replace hr := cd_t hb13 hr
           refine .r0 G (.mu 2 (.p0 (v := aB false) (eB hb11) (.mu 3 (.pure (v := aB false) (by kernel_rfl) (eB hb12) (.mu 4 (.pure (v := aB true) (by kernel_rfl) (eB hb13) (.mu 16 (.done (.nh [1, 74] [.own (api_Survey.c s), .own [aI64 s.Width, aI64 s.Height, aI64 s.Low, aI64 s.High, aI64 s.Across, aI64 s.Along]] (.cT (by kernel_rfl) (.seq (.ru G (.ret ?_)))))))))))))
           obtain rfl := oi hr
           exact FinQ.r1 [aI64 2]
          ·replace hr := cd_f hb13 hr
           rcases Bool.eq_false_or_eq_true (decide (s.Sidelap > 95)) with hb14 | hb14
           ·replace hr := cd_t hb14 hr
            refine .r0 G (.mu 2 (.p0 (v := aB false) (eB hb11) (.mu 3 (.pure (v := aB false) (by kernel_rfl) (eB hb12) (.mu 4 (.pure (v := aB false) (by kernel_rfl) (eB hb13) (.mu 4 (.pure (v := aB true) (by kernel_rfl) (eB hb14) (.mu 11 (.done (.nh [1, 74] [.own (api_Survey.c s), .own [aI64 s.Width, aI64 s.Height, aI64 s.Low, aI64 s.High, aI64 s.Across, aI64 s.Along]] (.cT (by kernel_rfl) (.seq (.ru G (.ret ?_)))))))))))))))
            obtain rfl := oi hr
            exact FinQ.r1 [aI64 2]
           ·replace hr := cd_f hb14 hr
            rcases Bool.eq_false_or_eq_true (decide (s.Views < 1)) with hb15 | hb15
            ·replace hr := cd_t hb15 hr
             refine .r0 G (.mu 2 (.p0 (v := aB false) (eB hb11) (.mu 3 (.pure (v := aB false) (by kernel_rfl) (eB hb12) (.mu 4 (.pure (v := aB false) (by kernel_rfl) (eB hb13) (.mu 4 (.pure (v := aB false) (by kernel_rfl) (eB hb14) (.mu 4 (.pure (v := aB true) (by kernel_rfl) (eB hb15) (.mu 6 (.done (.nh [1, 74] [.own (api_Survey.c s), .own [aI64 s.Width, aI64 s.Height, aI64 s.Low, aI64 s.High, aI64 s.Across, aI64 s.Along]] (.cT (by kernel_rfl) (.seq (.ru G (.ret ?_)))))))))))))))))
             obtain rfl := oi hr
             exact FinQ.r1 [aI64 2]
            ·replace hr := cd_f hb15 hr
             refine .r0 G (.mu 2 (.p0 (v := aB false) (eB hb11) (.mu 3 (.pure (v := aB false) (by kernel_rfl) (eB hb12) (.mu 4 (.pure (v := aB false) (by kernel_rfl) (eB hb13) (.mu 4 (.pure (v := aB false) (by kernel_rfl) (eB hb14) (.mu 4 (.pure (v := aB false) (by kernel_rfl) (eB hb15) (.mu 6 (.done (.nh [1, 74] [.own (api_Survey.c s), .own [aI64 s.Width, aI64 s.Height, aI64 s.Low, aI64 s.High, aI64 s.Across, aI64 s.Along]] ?_)))))))))))))
             refine .cd hr (fun hb16 hr => ?_) (fun hb16 hr => ?_)
             ·refine .seq (.ru G (.ret ?_))
              obtain rfl := oi hr
              exact FinQ.r1 [aI64 2]
             ·refine .skip (.seq (.seq (.r3 G 80 [(79, aB (decide (s.Low > s.High)))] ?_)))
              refine .cd hr (fun hb17 hr => ?_) (fun hb17 hr => ?_)
              ·refine .seq (.ru G (.ret ?_))
               obtain rfl := oi hr
               exact FinQ.r1 [aI64 5]
              ·refine .skip (.seq (.ru G (.ret ?_)))
               obtain rfl := oi hr
               exact FinQ.r1 [aI64 0]

theorem fiduciallaw55_flight_ok (n : Nat) (f : api_Flight) (r : Int) (hr : fiduciallaw55_flight n f = some r) : FnOk Tryz.prog 29 [.agg (api_Flight.c f)] (aI64 r) := by
 unfold fiduciallaw55_flight at hr
 refine FnOk.bd G Tryz.func29 [.tmp 2] ?_
 unfold Tryz.f29
 simp only [Option.getD_some]
 refine .seq (.r2 G 42 [(1, .hp 0 0)] [.own (api_Flight.c f)] (.seq (.r4 G [1] [(3, aI64 0)] (.seq ?_))))
 obtain ⟨v1, hc2, hr⟩ := bd hr
 refine .gn G (ca4 [.own (api_Flight.c f), .own [aI64 f.Height]] (callOk_val (args := [.hs 1 0 1 1]) (l := [1]) rfl (SnL.cons (Sn.hs rfl (.inl rfl) (SnC.cons (Sn.pure rfl) SnC.nil) (fun h => nomatch h)) SnL.nil) (fiduciallaw55_out_ok n [f.Height] v1 hc2))) (.mu 3 (.ca cf0 (.mu 1 (.done (.nh [1, 3, 4] [.own (api_Flight.c f), .own [aI64 f.Height]] (.seq (.seq (.r4 G [3, 4] [(14, slT (slC api_Pix.c) f.Strips), (15, aI64 (f.Strips.length : Int)), (16, aI64 0)] (.block ?_)))))))))
 replace hr := bd hr; obtain ⟨o57, hL58, hr⟩ := hr
 refine .loopO (σ := fun z0 => match z0 with | (n_3, bad_4, x_5) => ⟨mkS 42 0 [(3, aI64 n_3), (4, aB bad_4), (14, slT (slC api_Pix.c) f.Strips), (15, aI64 (f.Strips.length : Int)), (16, aI64 x_5)], []⟩) (Q := fun x st' => match (generalizing := false) o57 with | (n_30, bad_31) => x = .exit 0 ∧ Wk 0 st' ⟨mkS 42 0 [(3, aI64 n_30), (4, aB bad_31)], []⟩) hL58 ((Wk.gc [3, 4, 14, 15, 16] [] rfl pK0).to) ?_ ?_
 ·clear hr
  rintro m ⟨n_3, bad_4, x_5⟩ hr
  show CQ _ _ _ _ _ ⟨_, _⟩
  refine .seq (.r4 G [3, 4, 14, 15, 16] [(17, aB (decide (x_5 < (f.Strips.length : Int))))] (.seq ?_))
  refine .cd hr (fun hb34 hr => ?_) (fun hb34 hr => ?_)
  ·refine .skip (.seq (.block (.seq ?_)))
   obtain ⟨hg35, hr⟩ := gd hr
   refine .r0 G (.p0 (v := .pp (f.Strips.flatMap (slC api_Pix.c)) (x_5.toNat * 1)) (tr (ofP_guard hg35)) (.p0 (v := slT api_Pix.c (gt f.Strips x_5)) (tr (ofP_some (flat_get (slC_len api_Pix.c) (inR_lt hg35) (by decide : 0 < 1) (by omega : x_5.toNat * 1 = x_5.toNat * 1 + 0) (by kernel_rfl)))) (.mu 1 (.done (.nh [3, 4, 6, 14, 15, 16] [] (.seq (.r4 G [3, 4, 14, 15, 16] [(20, slT api_Pix.c (gt f.Strips x_5)), (21, aI64 ((gt f.Strips x_5).length : Int)), (22, aI64 0)] (.block ?_))))))))
   replace hr := bd hr; obtain ⟨o54, hL55, hr⟩ := hr
   refine .loopO (σ := fun z0 => match z0 with | (n_36, bad_37, x_38) => ⟨mkS 42 0 [(3, aI64 n_36), (4, aB bad_37), (14, slT (slC api_Pix.c) f.Strips), (15, aI64 (f.Strips.length : Int)), (16, aI64 x_5), (20, slT api_Pix.c (gt f.Strips x_5)), (21, aI64 ((gt f.Strips x_5).length : Int)), (22, aI64 x_38)], []⟩) (Q := fun x st' => match (generalizing := false) o54 with | (n_45, bad_46) => x = .exit 2 ∧ Wk 0 st' ⟨mkS 42 0 [(3, aI64 n_45), (4, aB bad_46), (14, slT (slC api_Pix.c) f.Strips), (15, aI64 (f.Strips.length : Int)), (16, aI64 x_5)], []⟩) hL55 ((Wk.gc [3, 4, 14, 15, 16, 20, 21, 22] [] rfl pK0).to) ?_ ?_
   ·clear hr
    rintro m ⟨n_36, bad_37, x_38⟩ hr
    show CQ _ _ _ _ _ ⟨_, _⟩
    refine .seq (.r4 G [3, 4, 14, 15, 16, 20, 21, 22] [(23, aB (decide (x_38 < ((gt f.Strips x_5).length : Int))))] (.seq ?_))
    refine .cd hr (fun hb49 hr => ?_) (fun hb49 hr => ?_)
    ·refine .skip (.seq (.block (.seq ?_)))
     obtain ⟨hg50, hr⟩ := gd hr
     refine .r0 G (.p0 (v := .pp ((gt f.Strips x_5).flatMap api_Pix.c) (x_38.toNat * 2)) (tr (ofP_guard hg50)) (.p0 (v := .agg (api_Pix.c (gt (gt f.Strips x_5) x_38))) (Eq.trans (b := ORes.ofP (guardV (decide (2 ≤ (((gt f.Strips x_5).flatMap api_Pix.c).drop (x_38.toNat * 2)).length)) (.agg ((((gt f.Strips x_5).flatMap api_Pix.c).drop (x_38.toNat * 2)).take 2)))) (by kernel_rfl) (flat_load api_Pix.len (inR_lt hg50) (by decide) (by omega : x_38.toNat * 2 = x_38.toNat * 2 + 0) (by kernel_rfl))) (.mu 2 (.done (.nh [3, 4, 8, 14, 15, 16, 20, 21, 22] [.own (api_Pix.c (gt (gt f.Strips x_5) x_38))] (.seq (.r4 G [4, 8, 14, 15, 16, 20, 21, 22] [(3, aI64 (wrapF .i64 (n_36 + 1)))] ?_)))))))
     rcases Bool.eq_false_or_eq_true bad_37 with hb51 | hb51
     ·replace hr := cd_t hb51 hr
      refine .r0 G (.p0 (v := aB true) (eB hb51) (.mu 9 (.done (.pop (.ru G ?_)))))
      exact loopF_back (wrapF .i64 (n_36 + 1), true, wrapF .i64 (x_38 + 1)) hr ((Wk.gc [3, 4, 14, 15, 16, 20, 21, 22] [] rfl pK0).to)
     ·replace hr := cd_f hb51 hr
      obtain ⟨v52, hc53, hr⟩ := bd hr
      refine .gn G (ca4 [.own (api_Pix.c (gt (gt f.Strips x_5) x_38)), .own (api_Pix.c (gt (gt f.Strips x_5) x_38))] (callOk_val (args := [.hs 1 0 2 1]) (l := [1]) rfl (SnL.cons (Sn.hs rfl (.inl rfl) (SnC.cons (Sn.pure rfl) (SnC.cons (Sn.pure rfl) SnC.nil)) (fun h => nomatch h)) SnL.nil) (fiduciallaw55_out_ok n [(gt (gt f.Strips x_5) x_38).X, (gt (gt f.Strips x_5) x_38).Y] v52 hc53))) (.p0 (v := aB false) (eB hb51) (.mu 6 (.ca cf0 (.mu 2 (.done (.pop (.ru G ?_)))))))
      exact loopF_back (wrapF .i64 (n_36 + 1), v52, wrapF .i64 (x_38 + 1)) hr ((Wk.gc [3, 4, 14, 15, 16, 20, 21, 22] [] rfl pK0).to)
    ·refine .leave rfl ?_
     obtain rfl := oi hr
     exact ⟨rfl, ((Wk.gc [3, 4, 14, 15, 16] [] rfl pK0).to)⟩
   ·rcases o54 with ⟨n_45, bad_46⟩
    rintro x st' hq56
    clear hL55
    obtain ⟨rfl, hq56⟩ := hq56
    refine CQ_exit _ rfl (.pop (.wk hq56 (.ru G ?_)))
    exact loopF_back (n_45, bad_46, wrapF .i64 (x_5 + 1)) hr ((Wk.gc [3, 4, 14, 15, 16] [] rfl pK0).to)
  ·refine .leave rfl ?_
   obtain rfl := oi hr
   exact ⟨rfl, ((Wk.gc [3, 4] [] rfl pK0).to)⟩
 ·rcases o57 with ⟨n_30, bad_31⟩
  rintro x st' hq59
  clear hL58
  obtain ⟨rfl, hq59⟩ := hq59
  refine CQ_exit _ rfl (.wk hq59 (.seq (.seq (.r4 G [3] [(39, aB bad_31)] ?_))))
  refine .cd hr (fun hb60 hr => ?_) (fun hb60 hr => ?_)
  ·refine .seq (.ru G (.ret ?_))
   obtain rfl := oi hr
   exact FinQ.r1 [aI64 2]
  ·refine .skip (.seq (.seq (.r3 G 42 [(41, aB (decide (n_30 > 256)))] ?_)))
   refine .cd hr (fun hb61 hr => ?_) (fun hb61 hr => ?_)
   ·refine .seq (.ru G (.ret ?_))
    obtain rfl := oi hr
    exact FinQ.r1 [aI64 3]
   ·refine .skip (.seq (.ru G (.ret ?_)))
    obtain rfl := oi hr
    exact FinQ.r1 [aI64 0]

theorem fiduciallaw55_asked_ok (n : Nat) (s : api_Survey) (f : api_Flight) (ground : Int) (r : Int) (hr : fiduciallaw55_asked n s f ground = some r) : FnOk Tryz.prog 7 [.agg (api_Survey.c s), .agg (api_Flight.c f), aI64 ground] (aI64 r) := by
 unfold fiduciallaw55_asked at hr
 refine FnOk.bd G Tryz.func7 [.tmp 6] ?_
 unfold Tryz.f7
 simp only [Option.getD_some]
 refine .seq (.r5 G [2] [(3, .hp 0 0), (4, .hp 1 0)] [.own (api_Survey.c s), .own (api_Flight.c f)] (.seq (.seq ?_)))
 obtain ⟨v1, hc2, hr⟩ := bd hr
 refine .g1 G (ok0 (fiduciallaw55_check_ok n s v1 hc2)) (.mu 1 (.ca cf0 (.mu 1 (.done (.nh [2, 4, 7] [.own (api_Survey.c s), .own (api_Flight.c f)] (.seq (.r4 G [2, 4, 7] [(12, aB ((v1 : Int) != 0))] ?_)))))))
 refine .cd hr (fun hb4 hr => ?_) (fun hb4 hr => ?_)
 ·refine .seq (.ru G (.ret ?_))
  obtain rfl := oi hr
  exact FinQ.r1 [aI64 v1]
 ·refine .skip (.seq (.seq ?_))
  obtain ⟨v5, hc6, hr⟩ := bd hr
  refine .g1 G (ok0 (fiduciallaw55_flight_ok n f v5 hc6)) (.mu 1 (.ca cf0 (.mu 1 (.done (.nh [2, 4, 8] [.own (api_Survey.c s), .own (api_Flight.c f)] (.seq (.r4 G [2, 4, 8] [(17, aB ((v5 : Int) != 0))] ?_)))))))
  refine .cd hr (fun hb8 hr => ?_) (fun hb8 hr => ?_)
  ·refine .seq (.ru G (.ret ?_))
   obtain rfl := oi hr
   exact FinQ.r1 [aI64 v5]
  ·refine .skip (.seq (.seq ?_))
   obtain ⟨v9, hc10, hr⟩ := bd hr
   refine .gn G (ca4 [.own (api_Survey.c s), .own (api_Flight.c f), .own [aI64 ground]] (callOk_val (args := [.hs 2 0 1 1]) (l := [2]) rfl (SnL.cons (Sn.hs rfl (.inl rfl) (SnC.cons (Sn.pure rfl) SnC.nil) (fun h => nomatch h)) SnL.nil) (fiduciallaw55_out_ok n [ground] v9 hc10))) (.mu 2 (.ca cf0 (.done (.nh [2, 4, 21] [.own (api_Survey.c s), .own (api_Flight.c f), .own [aI64 ground]] ?_))))
   refine .cd hr (fun hb11 hr => ?_) (fun hb11 hr => ?_)
   ·refine .seq (.ru G (.ret ?_))
    obtain rfl := oi hr
    exact FinQ.r1 [aI64 2]
   ·refine .skip (.seq (.seq (.r3 G 26 [(25, aB (decide (f.Height ≤ ground)))] ?_)))
    refine .cd hr (fun hb12 hr => ?_) (fun hb12 hr => ?_)
    ·refine .seq (.ru G (.ret ?_))
     obtain rfl := oi hr
     exact FinQ.r1 [aI64 20]
    ·refine .skip (.seq (.ru G (.ret ?_)))
     obtain rfl := oi hr
     exact FinQ.r1 [aI64 0]

theorem fiduciallaw55_PlanControls_1_ok (n : Nat) (p : api_Pix) (r : Bool) (hr : fiduciallaw55_PlanControls_1 n p = some r) : FnOk Tryz.prog 9 [.agg (api_Pix.c p)] (aB r) := by
 unfold fiduciallaw55_PlanControls_1 at hr
 refine FnOk.bd G Tryz.func9 [.tmp 2] ?_
 unfold Tryz.f9
 simp only [Option.getD_some]
 refine .seq (.r2 G 9 [(1, .hp 0 0)] [.own (api_Pix.c p)] (.seq ?_))
 obtain ⟨v1, hc2, hr⟩ := bd hr
 refine .gn G (ca4 [.own (api_Pix.c p), .own (api_Pix.c p)] (callOk_val (args := [.hs 1 0 2 1]) (l := [1]) rfl (SnL.cons (Sn.hs rfl (.inl rfl) (SnC.cons (Sn.pure rfl) (SnC.cons (Sn.pure rfl) SnC.nil)) (fun h => nomatch h)) SnL.nil) (fiduciallaw55_out_ok n [p.X, p.Y] v1 hc2))) (.mu 5 (.ca cf0 (.mu 1 (.done (.ret ?_)))))
 obtain rfl := oi hr
 exact FinQ.r1 [aB v1]
end Go.L
