/- The program's functions compute what the plain Lean programs compute, part 3; printed by a program. -/
import Derived.Test.YtlajgmapmocpbabGreatTriaLP2
import Derived.Test.YtlajgmapmocpbabGreatL0c
import Derived.Test.YtlajgmapmocpbabGreatChecked
import Derived.KernelRfl
set_option linter.unusedVariables false
set_option linter.unusedSimpArgs false
set_option maxRecDepth 100000
set_option maxHeartbeats 4000000
namespace Go.L
open Go Go.Eng Go.Proofs
theorem fiducialref01_size_ok (n : Nat) (a : List Int) (b : List Int) (r : Int) (hr : fiducialref01_size n a b = some r) : FnOk Tryz.prog 144 [slT (iC .u32) a, slT (iC .u32) b] (.at (.int .i64 r)) := by
 unfold fiducialref01_size at hr
 refine FnOk.body fine Tryz.func144 (c := (Tryz.f144.body).getD .skip) rfl (s := mkS 41 0 [(0, sU32 a), (1, sU32 b)]) (by kernel_rfl) (rs := [.tmp 4]) rfl ?_
 unfold Tryz.f144
 simp only [Option.getD_some]
 refine CQ.seq ?_
 refine CQ.r0 fine ?_
 refine EVO.p1 (aI64 0) ?_
 refine EVO.done ?_
 refine CQ.n1 [0, 1] (mkS 41 0 [(0, sU32 a), (1, sU32 b)]) [] ?_
 refine CQ.seq ?_
 refine CQ.seq ?_
 refine CQ.r0 fine ?_
 refine EVO.p1 (sU32 a) ?_
 refine EVO.p1 (aI64 (a.length : Int)) ?_
 refine EVO.p1 (sU32 b) ?_
 refine EVO.p1 (aI64 (b.length : Int)) ?_
 refine EVO.p1 (aB (((a.length : Int) : Int) != (b.length : Int))) ?_
 refine EVO.done ?_
 refine CQ.n1 [0, 1, 10] (mkS 41 0 [(0, sU32 a), (1, sU32 b), (10, aB (((a.length : Int) : Int) != (b.length : Int)))]) [] ?_
 refine CQ.cond (t := ((a.length : Int) : Int) != (b.length : Int)) (by kernel_rfl) (fun hb1 => ?_) (fun hb1 => ?_)
 ·replace hr := cd_t hb1 hr
  refine CQ.seq ?_
  refine CQ.seq ?_
  refine CQ.r0 fine ?_
  refine EVO.p1 (sU32 a) ?_
  refine EVO.p1 (aI64 (a.length : Int)) ?_
  refine EVO.p1 (sU32 b) ?_
  refine EVO.p1 (aI64 (b.length : Int)) ?_
  refine EVO.p1 (aB (decide ((a.length : Int) < (b.length : Int)))) ?_
  refine EVO.done ?_
  refine CQ.n1 [15] (mkS 41 0 [(15, aB (decide ((a.length : Int) < (b.length : Int))))]) [] ?_
  refine CQ.cond (t := decide ((a.length : Int) < (b.length : Int))) (by kernel_rfl) (fun hb2 => ?_) (fun hb2 => ?_)
  ·replace hr := cd_t hb2 hr
   refine CQ.seq ?_
   refine CQ.r0 fine ?_
   refine EVO.p1 (aI64 (-1)) ?_
   refine EVO.done ?_
   refine CQ.ret ?_
   obtain rfl := Option.some.inj hr
   exact FinQ.r1 [aI64 (-1)]
  ·replace hr := cd_f hb2 hr
   refine CQ.skip ?_
   refine CQ.seq ?_
   refine CQ.r0 fine ?_
   refine EVO.p1 (aI64 1) ?_
   refine EVO.done ?_
   refine CQ.ret ?_
   obtain rfl := Option.some.inj hr
   exact FinQ.r1 [aI64 1]
 ·replace hr := cd_f hb1 hr
  refine CQ.skip ?_
  refine CQ.seq ?_
  refine CQ.seq ?_
  refine CQ.r0 fine ?_
  refine EVO.p1 (sU32 a) ?_
  refine EVO.p1 (aI64 (a.length : Int)) ?_
  refine EVO.p1 (aI64 (wrapF .i64 ((a.length : Int) - 1))) ?_
  refine EVO.p1 (aI64 (wrapF .i64 ((a.length : Int) - 1))) ?_
  refine EVO.done ?_
  refine CQ.n1 [0, 1, 5] (mkS 41 0 [(0, sU32 a), (1, sU32 b), (5, aI64 (wrapF .i64 ((a.length : Int) - 1)))]) [] ?_
  refine CQ.block ?_
  replace hr := bd hr; obtain ⟨o15, hL16, hr⟩ := hr
  refine CQ.loopO (σ := fun z0 => match z0 with | i_3 => ⟨mkS 41 0 [(0, sU32 a), (1, sU32 b), (5, aI64 i_3)], []⟩) (Q := fun x st' => match (generalizing := false) o15 with | .inl _ => x = .exit 0 ∧ Wk 0 st' ⟨mkS 41 0 [], []⟩ | .inr (r0) => x = .ret ∧ FinQ Tryz.prog [.tmp 4] (aI64 r0) .ret st') hL16 ((Wk.gc [0, 1, 5] [] rfl trivial).to (by kernel_rfl)) ?_ ?_
  ·clear hr
   rintro m i_3 hr
   show CQ _ _ _ _ _ ⟨_, _⟩
   refine CQ.seq ?_
   refine CQ.seq ?_
   refine CQ.r0 fine ?_
   refine EVO.p1 (aI64 i_3) ?_
   refine EVO.p1 (aB (decide (i_3 ≥ 0))) ?_
   refine EVO.done ?_
   refine CQ.n1 [0, 1, 5, 20] (mkS 41 0 [(0, sU32 a), (1, sU32 b), (5, aI64 i_3), (20, aB (decide (i_3 ≥ 0)))]) [] ?_
   refine CQ.cond (t := decide (i_3 ≥ 0)) (by kernel_rfl) (fun hb10 => ?_) (fun hb10 => ?_)
   ·replace hr := cd_t hb10 hr
    refine CQ.skip ?_
    refine CQ.seq ?_
    refine CQ.block ?_
    refine CQ.seq ?_
    refine CQ.seq ?_
    replace hr := gd hr; obtain ⟨hg11, hr⟩ := hr
    replace hr := gd hr; obtain ⟨hg12, hr⟩ := hr
    refine CQ.regionT fine callOf_nil ?_
    refine EVT.p1 (sU32 a) ?_
    refine EVT.p1 (aI64 i_3) ?_
    refine EVT.pure (v := .pp (a.flatMap (iC .u32)) (i_3.toNat * 1)) (by kernel_rfl) (Eq.trans (b := ORes.ofP (guardV (inR i_3 a.length) (.pp (a.flatMap (iC .u32)) (i_3.toNat * 1)))) (by kernel_rfl) (ofP_guard hg11)) (by kernel_rfl) ?_
    refine EVT.pure (v := aU32 (gt a i_3)) (by kernel_rfl) (Eq.trans (b := ORes.ofP ((a.flatMap (iC .u32))[i_3.toNat * 1]?)) (by kernel_rfl) (ofP_some (flat_get (iC_len _) (inR_lt hg11) (by decide : 0 < 1) (by omega : i_3.toNat * 1 = i_3.toNat * 1 + 0) (by kernel_rfl)))) (by kernel_rfl) ?_
    refine EVT.p1 (sU32 b) ?_
    refine EVT.p1 (aI64 i_3) ?_
    refine EVT.pure (v := .pp (b.flatMap (iC .u32)) (i_3.toNat * 1)) (by kernel_rfl) (Eq.trans (b := ORes.ofP (guardV (inR i_3 b.length) (.pp (b.flatMap (iC .u32)) (i_3.toNat * 1)))) (by kernel_rfl) (ofP_guard hg12)) (by kernel_rfl) ?_
    refine EVT.pure (v := aU32 (gt b i_3)) (by kernel_rfl) (Eq.trans (b := ORes.ofP ((b.flatMap (iC .u32))[i_3.toNat * 1]?)) (by kernel_rfl) (ofP_some (flat_get (iC_len _) (inR_lt hg12) (by decide : 0 < 1) (by omega : i_3.toNat * 1 = i_3.toNat * 1 + 0) (by kernel_rfl)))) (by kernel_rfl) ?_
    refine EVT.p1 (aB (decide ((gt a i_3) < (gt b i_3)))) ?_
    refine EVT.done ⟨by kernel_rfl, ?_⟩
    refine CQ.n1 [0, 1, 5, 31] (mkS 41 0 [(0, sU32 a), (1, sU32 b), (5, aI64 i_3), (31, aB (decide ((gt a i_3) < (gt b i_3))))]) [] ?_
    refine CQ.cond (t := decide ((gt a i_3) < (gt b i_3))) (by kernel_rfl) (fun hb13 => ?_) (fun hb13 => ?_)
    ·replace hr := cd_t hb13 hr
     refine CQ.seq ?_
     refine CQ.r0 fine ?_
     refine EVO.p1 (aI64 (-1)) ?_
     refine EVO.done ?_
     refine CQ.ret ?_
     obtain rfl := Option.some.inj hr
     exact ⟨rfl, FinQ.ret (vs := [aI64 (-1)]) (by kernel_rfl) (Sn.pure rfl)⟩
    ·replace hr := cd_f hb13 hr
     refine CQ.skip ?_
     refine CQ.seq ?_
     refine CQ.regionT fine callOf_nil ?_
     refine EVT.p1 (sU32 a) ?_
     refine EVT.p1 (aI64 i_3) ?_
     refine EVT.pure (v := .pp (a.flatMap (iC .u32)) (i_3.toNat * 1)) (by kernel_rfl) (Eq.trans (b := ORes.ofP (guardV (inR i_3 a.length) (.pp (a.flatMap (iC .u32)) (i_3.toNat * 1)))) (by kernel_rfl) (ofP_guard hg11)) (by kernel_rfl) ?_
     refine EVT.pure (v := aU32 (gt a i_3)) (by kernel_rfl) (Eq.trans (b := ORes.ofP ((a.flatMap (iC .u32))[i_3.toNat * 1]?)) (by kernel_rfl) (ofP_some (flat_get (iC_len _) (inR_lt hg11) (by decide : 0 < 1) (by omega : i_3.toNat * 1 = i_3.toNat * 1 + 0) (by kernel_rfl)))) (by kernel_rfl) ?_
     refine EVT.p1 (sU32 b) ?_
     refine EVT.p1 (aI64 i_3) ?_
     refine EVT.pure (v := .pp (b.flatMap (iC .u32)) (i_3.toNat * 1)) (by kernel_rfl) (Eq.trans (b := ORes.ofP (guardV (inR i_3 b.length) (.pp (b.flatMap (iC .u32)) (i_3.toNat * 1)))) (by kernel_rfl) (ofP_guard hg12)) (by kernel_rfl) ?_
     refine EVT.pure (v := aU32 (gt b i_3)) (by kernel_rfl) (Eq.trans (b := ORes.ofP ((b.flatMap (iC .u32))[i_3.toNat * 1]?)) (by kernel_rfl) (ofP_some (flat_get (iC_len _) (inR_lt hg12) (by decide : 0 < 1) (by omega : i_3.toNat * 1 = i_3.toNat * 1 + 0) (by kernel_rfl)))) (by kernel_rfl) ?_
     refine EVT.p1 (aB (decide ((gt a i_3) > (gt b i_3)))) ?_
     refine EVT.done ⟨by kernel_rfl, ?_⟩
     refine CQ.n1 [0, 1, 5, 40] (mkS 41 0 [(0, sU32 a), (1, sU32 b), (5, aI64 i_3), (40, aB (decide ((gt a i_3) > (gt b i_3))))]) [] ?_
     refine CQ.cond (t := decide ((gt a i_3) > (gt b i_3))) (by kernel_rfl) (fun hb14 => ?_) (fun hb14 => ?_)
     ·replace hr := cd_t hb14 hr
      refine CQ.seq ?_
      refine CQ.r0 fine ?_
      refine EVO.p1 (aI64 1) ?_
      refine EVO.done ?_
      refine CQ.ret ?_
      obtain rfl := Option.some.inj hr
      exact ⟨rfl, FinQ.ret (vs := [aI64 1]) (by kernel_rfl) (Sn.pure rfl)⟩
     ·replace hr := cd_f hb14 hr
      refine CQ.skip ?_
      refine CQ.pop ?_
      refine CQ.r0 fine ?_
      refine EVO.p1 (aI64 i_3) ?_
      refine EVO.p1 (aI64 (wrapF .i64 (i_3 - 1))) ?_
      refine EVO.p1 (aI64 (wrapF .i64 (i_3 - 1))) ?_
      refine EVO.done ?_
      exact loopF_back (wrapF .i64 (i_3 - 1)) hr ((Wk.gc [0, 1, 5] [] rfl trivial).to (by kernel_rfl))
   ·replace hr := cd_f hb10 hr
    refine CQ.leave rfl ?_
    obtain rfl := Option.some.inj hr
    exact ⟨rfl, ((Wk.gc [] [] rfl trivial).to (by kernel_rfl))⟩
  ·rcases o15 with ⟨⟩ | r0
   ·rintro x st' hq17
    clear hL16
    obtain ⟨rfl, hq17⟩ := hq17
    refine CQ_exit _ rfl ?_
    refine CQ.wk hq17 ?_
    refine CQ.seq ?_
    refine CQ.r0 fine ?_
    refine EVO.p1 (aI64 0) ?_
    refine EVO.done ?_
    refine CQ.ret ?_
    obtain rfl := Option.some.inj hr
    exact FinQ.r1 [aI64 0]
   ·rintro x st' hq17
    clear hL16
    obtain ⟨rfl, hq17⟩ := hq17
    obtain rfl := Option.some.inj hr
    exact CQ_ret _ hq17

theorem fiducialref01_scaled_inj {a : List Int} {d : Int} {a_ : List Int} {d_ : Int} (h : ([slT (iC .u32) a, .at (.int .u64 d)] : List AV) = [slT (iC .u32) a_, .at (.int .u64 d_)]) : a = a_ ∧ d = d_ := by
 simp only [List.cons.injEq, AV.agg.injEq, AV.at.injEq, Value.int.injEq, Value.bool.injEq, AV.fn.injEq, AV.pp.injEq, true_and, and_true, slT_inj_int] at h
 simp_all
theorem fiducialref01_scaled_ok (n : Nat) (a : List Int) (d : Int) (r : List Int) (hr : fiducialref01_scaled n a d = some r) : FnOk Tryz.prog 181 [slT (iC .u32) a, .at (.int .u64 d)] (slT (iC .u32) r) := by
 unfold fiducialref01_scaled at hr
 refine FnOk.body fine Tryz.func181 (c := (Tryz.f181.body).getD .skip) rfl (s := mkS 40 0 [(0, sU32 a), (1, aU64 d)]) (by kernel_rfl) (rs := [.tmp 4]) rfl ?_
 unfold Tryz.f181
 simp only [Option.getD_some]
 refine CQ.seq ?_
 refine CQ.r0 fine ?_
 refine EVO.p1 (.at (.slice none 0 0)) ?_
 refine EVO.done ?_
 refine CQ.n1 [0, 1] (mkS 40 0 [(0, sU32 a), (1, aU64 d)]) [] ?_
 refine CQ.seq ?_
 refine CQ.r0 fine ?_
 refine EVO.e1 (.hs 0 0 0 1) [(0, .own [])] ?_
 refine EVO.p1 (.hs 0 0 0 1) ?_
 refine EVO.done ?_
 refine CQ.n1 [0, 1, 5] (mkS 40 0 [(0, sU32 a), (1, aU64 d), (5, .hs 0 0 0 1)]) [.own []] ?_
 refine CQ.seq ?_
 refine CQ.r0 fine ?_
 refine EVO.p1 (aU64 0) ?_
 refine EVO.done ?_
 refine CQ.seq ?_
 refine CQ.seq ?_
 refine CQ.r0 fine ?_
 refine EVO.p1 (aI64 0) ?_
 refine EVO.done ?_
 refine CQ.block ?_
 replace hr := bd hr; obtain ⟨o15, hL16, hr⟩ := hr
 refine CQ.loopO (σ := fun z0 => match z0 with | (out_1, carry_2, i_3) => ⟨mkS 40 0 [(0, sU32 a), (1, aU64 d), (5, .hs 0 0 out_1.length 1), (6, aU64 carry_2), (7, aI64 i_3)], [.own (out_1.flatMap (iC .u32))]⟩) (Q := fun x st' => match (generalizing := false) o15 with | (out_8, carry_9) => x = .exit 0 ∧ Wk 0 st' ⟨mkS 40 0 [(5, .hs 0 0 out_8.length 1), (6, aU64 carry_9)], [.own (out_8.flatMap (iC .u32))]⟩) hL16 ((Wk.gc [0, 1, 5, 6, 7] [(0, false)] rfl (by exact ⟨rfl, trivial⟩)).to (by kernel_rfl)) ?_ ?_
 ·clear hr
  rintro m ⟨out_1, carry_2, i_3⟩ hr
  show CQ _ _ _ _ _ ⟨_, _⟩
  refine CQ.seq ?_
  refine CQ.seq ?_
  refine CQ.r0 fine ?_
  refine EVO.p1 (aI64 i_3) ?_
  refine EVO.p1 (sU32 a) ?_
  refine EVO.p1 (aI64 (a.length : Int)) ?_
  refine EVO.p1 (aB (decide (i_3 < (a.length : Int)))) ?_
  refine EVO.done ?_
  refine CQ.n1 [0, 1, 5, 6, 7, 13] (mkS 40 0 [(0, sU32 a), (1, aU64 d), (5, .hs 0 0 out_1.length 1), (6, aU64 carry_2), (7, aI64 i_3), (13, aB (decide (i_3 < (a.length : Int))))]) [.own (out_1.flatMap (iC .u32))] ?_
  refine CQ.cond (t := decide (i_3 < (a.length : Int))) (by kernel_rfl) (fun hb11 => ?_) (fun hb11 => ?_)
  ·replace hr := cd_t hb11 hr
   refine CQ.skip ?_
   refine CQ.seq ?_
   refine CQ.block ?_
   refine CQ.seq ?_
   replace hr := gd hr; obtain ⟨hg12, hr⟩ := hr
   refine CQ.r0 fine ?_
   refine EVO.p1 (sU32 a) ?_
   refine EVO.p1 (aI64 i_3) ?_
   refine EVO.p0 (v := .pp (a.flatMap (iC .u32)) (i_3.toNat * 1)) (Eq.trans (b := ORes.ofP (guardV (inR i_3 a.length) (.pp (a.flatMap (iC .u32)) (i_3.toNat * 1)))) (by kernel_rfl) (ofP_guard hg12)) ?_
   refine EVO.p0 (v := aU32 (gt a i_3)) (Eq.trans (b := ORes.ofP ((a.flatMap (iC .u32))[i_3.toNat * 1]?)) (by kernel_rfl) (ofP_some (flat_get (iC_len _) (inR_lt hg12) (by decide : 0 < 1) (by omega : i_3.toNat * 1 = i_3.toNat * 1 + 0) (by kernel_rfl)))) ?_
   refine EVO.p1 (aU64 (wrapF .u64 (gt a i_3))) ?_
   refine EVO.p1 (aU64 d) ?_
   refine EVO.p1 (aU64 (wrapF .u64 ((wrapF .u64 (gt a i_3)) * d))) ?_
   refine EVO.p1 (aU64 carry_2) ?_
   refine EVO.p1 (aU64 (wrapF .u64 ((wrapF .u64 ((wrapF .u64 (gt a i_3)) * d)) + carry_2))) ?_
   refine EVO.p1 (aU64 (wrapF .u64 ((wrapF .u64 ((wrapF .u64 (gt a i_3)) * d)) + carry_2))) ?_
   refine EVO.done ?_
   refine CQ.n1 [0, 1, 5, 7, 8] (mkS 40 0 [(0, sU32 a), (1, aU64 d), (5, .hs 0 0 out_1.length 1), (7, aI64 i_3), (8, aU64 (wrapF .u64 ((wrapF .u64 ((wrapF .u64 (gt a i_3)) * d)) + carry_2)))]) [.own (out_1.flatMap (iC .u32))] ?_
   refine CQ.seq ?_
   replace hr := gd hr; obtain ⟨hg13, hr⟩ := hr
   replace hr := gd hr; obtain ⟨hg14, hr⟩ := hr
   refine CQ.r0 fine ?_
   refine EVO.p1 (.hs 0 0 out_1.length 1) ?_
   refine EVO.p1 (aU64 (wrapF .u64 ((wrapF .u64 ((wrapF .u64 (gt a i_3)) * d)) + carry_2))) ?_
   refine EVO.p1 (aU64 ((wrapF .u64 ((wrapF .u64 ((wrapF .u64 (gt a i_3)) * d)) + carry_2)).tmod 1000000000)) ?_
   refine EVO.p1 (aU32 (wrapF .u32 ((wrapF .u64 ((wrapF .u64 ((wrapF .u64 (gt a i_3)) * d)) + carry_2)).tmod 1000000000))) ?_
   refine EVO.e1 (.hs 1 0 1 1) [(1, .own [aU32 (wrapF .u32 ((wrapF .u64 ((wrapF .u64 ((wrapF .u64 (gt a i_3)) * d)) + carry_2)).tmod 1000000000))])] ?_
   refine EVO.e0 (v := .hs 2 0 (out_1 ++ [wrapF .u32 ((wrapF .u64 ((wrapF .u64 ((wrapF .u64 (gt a i_3)) * d)) + carry_2)).tmod 1000000000)]).length 1) (ws := [(0, .dead), (2, .own ((out_1 ++ [wrapF .u32 ((wrapF .u64 ((wrapF .u64 ((wrapF .u64 (gt a i_3)) * d)) + carry_2)).tmod 1000000000)]).flatMap (iC .u32)))]) (Eq.trans (b := guardO (decide (0 + out_1.length * 1 ≤ (out_1.flatMap (iC .u32)).length) && decide ((out_1.length + 1) * 4 ≤ 140737488355328) && decide (out_1.length + 1 ≤ 4611686018427387904)) (some (.eff (.hs 2 0 (out_1.length + 1) 1) [(0, .dead), (2, .own (((out_1.flatMap (iC .u32)).drop 0).take (out_1.length * 1) ++ [aU32 (wrapF .u32 ((wrapF .u64 ((wrapF .u64 ((wrapF .u64 (gt a i_3)) * d)) + carry_2)).tmod 1000000000))]))]))) (by kernel_rfl) (app_own (l := out_1) (xs := [wrapF .u32 ((wrapF .u64 ((wrapF .u64 ((wrapF .u64 (gt a i_3)) * d)) + carry_2)).tmod 1000000000)]) (iC_len _) rfl rfl (by kernel_rfl) hg13 hg14)) ?_
   refine EVO.p1 (.hs 2 0 (out_1 ++ [wrapF .u32 ((wrapF .u64 ((wrapF .u64 ((wrapF .u64 (gt a i_3)) * d)) + carry_2)).tmod 1000000000)]).length 1) ?_
   refine EVO.done ?_
   refine CQ.n1 [0, 1, 5, 7, 8] (mkS 40 0 [(0, sU32 a), (1, aU64 d), (5, .hs 2 0 (out_1 ++ [wrapF .u32 ((wrapF .u64 ((wrapF .u64 ((wrapF .u64 (gt a i_3)) * d)) + carry_2)).tmod 1000000000)]).length 1), (7, aI64 i_3), (8, aU64 (wrapF .u64 ((wrapF .u64 ((wrapF .u64 (gt a i_3)) * d)) + carry_2)))]) [.dead, .own [aU32 (wrapF .u32 ((wrapF .u64 ((wrapF .u64 ((wrapF .u64 (gt a i_3)) * d)) + carry_2)).tmod 1000000000))], .own ((out_1 ++ [wrapF .u32 ((wrapF .u64 ((wrapF .u64 ((wrapF .u64 (gt a i_3)) * d)) + carry_2)).tmod 1000000000)]).flatMap (iC .u32))] ?_
   refine CQ.r0 fine ?_
   refine EVO.p1 (aU64 (wrapF .u64 ((wrapF .u64 ((wrapF .u64 (gt a i_3)) * d)) + carry_2))) ?_
   refine EVO.p1 (aU64 (wrapF .u64 ((wrapF .u64 ((wrapF .u64 ((wrapF .u64 (gt a i_3)) * d)) + carry_2)).tdiv 1000000000))) ?_
   refine EVO.p1 (aU64 (wrapF .u64 ((wrapF .u64 ((wrapF .u64 ((wrapF .u64 (gt a i_3)) * d)) + carry_2)).tdiv 1000000000))) ?_
   refine EVO.done ?_
   refine CQ.pop ?_
   refine CQ.r0 fine ?_
   refine EVO.p1 (aI64 i_3) ?_
   refine EVO.p1 (aI64 (wrapF .i64 (i_3 + 1))) ?_
   refine EVO.p1 (aI64 (wrapF .i64 (i_3 + 1))) ?_
   refine EVO.done ?_
   exact loopF_back (out_1 ++ [wrapF .u32 ((wrapF .u64 ((wrapF .u64 ((wrapF .u64 (gt a i_3)) * d)) + carry_2)).tmod 1000000000)], wrapF .u64 ((wrapF .u64 ((wrapF .u64 ((wrapF .u64 (gt a i_3)) * d)) + carry_2)).tdiv 1000000000), wrapF .i64 (i_3 + 1)) hr ((Wk.gc [0, 1, 5, 6, 7] [(2, false)] rfl (by exact ⟨ids_flat (iC_pure _) _, trivial⟩)).to (by kernel_rfl))
  ·replace hr := cd_f hb11 hr
   refine CQ.leave rfl ?_
   obtain rfl := Option.some.inj hr
   exact ⟨rfl, ((Wk.gc [5, 6] [(0, false)] rfl (by exact ⟨ids_flat (iC_pure _) _, trivial⟩)).to (by kernel_rfl))⟩
 ·rcases o15 with ⟨out_8, carry_9⟩
  rintro x st' hq17
  clear hL16
  obtain ⟨rfl, hq17⟩ := hq17
  refine CQ_exit _ rfl ?_
  refine CQ.wk hq17 ?_
  refine CQ.seq ?_
  replace hr := gd hr; obtain ⟨hg18, hr⟩ := hr
  replace hr := gd hr; obtain ⟨hg19, hr⟩ := hr
  replace hr := bd hr; obtain ⟨v20, hc21, hr⟩ := hr
  refine CQ.region fine (callOf_1 139 [aB false, .hs 2 0 (out_8 ++ [wrapF .u32 carry_9]).length 1] [.dead, .own [aU32 (wrapF .u32 carry_9)], .own ((out_8 ++ [wrapF .u32 carry_9]).flatMap (iC .u32))] (.loc (.agg (api_Int.c v20)) [(2, .fix ((out_8 ++ [wrapF .u32 carry_9]).flatMap (iC .u32)))] [2] 0) (callOk_ref (l := [2]) (args' := [aB false, sU32 (out_8 ++ [wrapF .u32 carry_9])]) (SnL.cons (Sn.pure rfl) (SnL.cons (Sn.hs rfl (.inl rfl) (SnC.pure (ids_flat (iC_pure _) _)) (fun h => flat_nil0 h)) SnL.nil)) (fiducialref01_made_ok n false (out_8 ++ [wrapF .u32 carry_9]) v20 hc21))) ?_
  refine EVO.p1 (.hs 0 0 out_8.length 1) ?_
  refine EVO.p1 (aU64 carry_9) ?_
  refine EVO.p1 (aU32 (wrapF .u32 carry_9)) ?_
  refine EVO.e1 (.hs 1 0 1 1) [(1, .own [aU32 (wrapF .u32 carry_9)])] ?_
  refine EVO.e0 (v := .hs 2 0 (out_8 ++ [wrapF .u32 carry_9]).length 1) (ws := [(0, .dead), (2, .own ((out_8 ++ [wrapF .u32 carry_9]).flatMap (iC .u32)))]) (Eq.trans (b := guardO (decide (0 + out_8.length * 1 ≤ (out_8.flatMap (iC .u32)).length) && decide ((out_8.length + 1) * 4 ≤ 140737488355328) && decide (out_8.length + 1 ≤ 4611686018427387904)) (some (.eff (.hs 2 0 (out_8.length + 1) 1) [(0, .dead), (2, .own (((out_8.flatMap (iC .u32)).drop 0).take (out_8.length * 1) ++ [aU32 (wrapF .u32 carry_9)]))]))) (by kernel_rfl) (app_own (l := out_8) (xs := [wrapF .u32 carry_9]) (iC_len _) rfl rfl (by kernel_rfl) hg18 hg19)) ?_
  refine EVO.c0 (by kernel_rfl) (callOf_at (by kernel_rfl)) ?_
  refine EVO.p1 (sU32 v20.Groups) ?_
  refine EVO.p1 (sU32 v20.Groups) ?_
  refine EVO.done ?_
  refine CQ.ret ?_
  obtain rfl := Option.some.inj hr
  exact FinQ.r1 [sU32 v20.Groups]

theorem fiducialref01_shifted_ok (n : Nat) (a : List Int) (d : Int) (r : List Int) (hr : fiducialref01_shifted n a d = some r) : FnOk Tryz.prog 182 [slT (iC .u32) a, .at (.int .u32 d)] (slT (iC .u32) r) := by
 unfold fiducialref01_shifted at hr
 refine FnOk.body fine Tryz.func182 (c := (Tryz.f182.body).getD .skip) rfl (s := mkS 11 0 [(0, sU32 a), (1, aU32 d)]) (by kernel_rfl) (rs := [.tmp 4]) rfl ?_
 unfold Tryz.f182
 simp only [Option.getD_some]
 refine CQ.seq ?_
 refine CQ.r0 fine ?_
 refine EVO.p1 (.at (.slice none 0 0)) ?_
 refine EVO.done ?_
 refine CQ.n1 [0, 1] (mkS 11 0 [(0, sU32 a), (1, aU32 d)]) [] ?_
 refine CQ.seq ?_
 replace hr := gd hr; obtain ⟨hg1, hr⟩ := hr
 replace hr := gd hr; obtain ⟨hg2, hr⟩ := hr
 replace hr := bd hr; obtain ⟨v3, hc4, hr⟩ := hr
 refine CQ.region fine (callOf_1 139 [aB false, .hs 1 0 ([d] ++ a).length 1] [.dead, .own (([d] ++ a).flatMap (iC .u32))] (.loc (.agg (api_Int.c v3)) [(1, .fix (([d] ++ a).flatMap (iC .u32)))] [1] 0) (callOk_ref (l := [1]) (args' := [aB false, sU32 ([d] ++ a)]) (SnL.cons (Sn.pure rfl) (SnL.cons (Sn.hs rfl (.inl rfl) (SnC.pure (ids_flat (iC_pure _) _)) (fun h => flat_nil0 h)) SnL.nil)) (fiducialref01_made_ok n false ([d] ++ a) v3 hc4))) ?_
 refine EVO.p1 (aU32 d) ?_
 refine EVO.e1 (.hs 0 0 1 1) [(0, .own [aU32 d])] ?_
 refine EVO.p1 (sU32 a) ?_
 refine EVO.e0 (v := .hs 1 0 ([d] ++ a).length 1) (ws := [(0, .dead), (1, .own (([d] ++ a).flatMap (iC .u32)))]) (Eq.trans (b := appS (decide (((a.flatMap (iC .u32))).length = a.length * 1)) (a.flatMap (iC .u32)) a.length (fun z1 z2 => guardO (decide (0 + 1 * 1 ≤ ([d].flatMap (iC .u32)).length) && decide ((1 + z2) * 4 ≤ 140737488355328) && decide (1 + z2 ≤ 4611686018427387904)) (some (.eff (.hs 1 0 (1 + z2) 1) [(0, .dead), (1, .own ((([d].flatMap (iC .u32)).drop 0).take (1 * 1) ++ z1))])))) (by kernel_rfl) (appS_t (flat_lenB (iC_len _)) rfl (app_own (l := [d]) (xs := a) (iC_len _) rfl rfl rfl hg1 hg2))) ?_
 refine EVO.c0 (by kernel_rfl) (callOf_at (by kernel_rfl)) ?_
 refine EVO.p1 (sU32 v3.Groups) ?_
 refine EVO.p1 (sU32 v3.Groups) ?_
 refine EVO.done ?_
 refine CQ.ret ?_
 obtain rfl := Option.some.inj hr
 exact FinQ.r1 [sU32 v3.Groups]

theorem fiducialref01_group_inj {l : List Int} {i : Int} {l_ : List Int} {i_ : Int} (h : ([slT (iC .u32) l, .at (.int .i64 i)] : List AV) = [slT (iC .u32) l_, .at (.int .i64 i_)]) : l = l_ ∧ i = i_ := by
 simp only [List.cons.injEq, AV.agg.injEq, AV.at.injEq, Value.int.injEq, Value.bool.injEq, AV.fn.injEq, AV.pp.injEq, true_and, and_true, slT_inj_int] at h
 simp_all
theorem fiducialref01_group_ok (n : Nat) (l : List Int) (i : Int) (r : Int) (hr : fiducialref01_group n l i = some r) : FnOk Tryz.prog 183 [slT (iC .u32) l, .at (.int .i64 i)] (.at (.int .u64 r)) := by
 unfold fiducialref01_group at hr
 refine FnOk.body fine Tryz.func183 (c := (Tryz.f183.body).getD .skip) rfl (s := mkS 14 0 [(0, sU32 l), (1, aI64 i)]) (by kernel_rfl) (rs := [.tmp 4]) rfl ?_
 unfold Tryz.f183
 simp only [Option.getD_some]
 refine CQ.seq ?_
 refine CQ.r0 fine ?_
 refine EVO.p1 (aU64 0) ?_
 refine EVO.done ?_
 refine CQ.n1 [0, 1] (mkS 14 0 [(0, sU32 l), (1, aI64 i)]) [] ?_
 refine CQ.seq ?_
 refine CQ.seq ?_
 refine CQ.r0 fine ?_
 refine EVO.p1 (aI64 i) ?_
 refine EVO.p1 (sU32 l) ?_
 refine EVO.p1 (aI64 (l.length : Int)) ?_
 refine EVO.p1 (aB (decide (i < (l.length : Int)))) ?_
 refine EVO.done ?_
 refine CQ.n1 [0, 1, 8] (mkS 14 0 [(0, sU32 l), (1, aI64 i), (8, aB (decide (i < (l.length : Int))))]) [] ?_
 refine CQ.cond (t := decide (i < (l.length : Int))) (by kernel_rfl) (fun hb1 => ?_) (fun hb1 => ?_)
 ·replace hr := cd_t hb1 hr
  refine CQ.seq ?_
  replace hr := gd hr; obtain ⟨hg2, hr⟩ := hr
  refine CQ.r0 fine ?_
  refine EVO.p1 (sU32 l) ?_
  refine EVO.p1 (aI64 i) ?_
  refine EVO.p0 (v := .pp (l.flatMap (iC .u32)) (i.toNat * 1)) (Eq.trans (b := ORes.ofP (guardV (inR i l.length) (.pp (l.flatMap (iC .u32)) (i.toNat * 1)))) (by kernel_rfl) (ofP_guard hg2)) ?_
  refine EVO.p0 (v := aU32 (gt l i)) (Eq.trans (b := ORes.ofP ((l.flatMap (iC .u32))[i.toNat * 1]?)) (by kernel_rfl) (ofP_some (flat_get (iC_len _) (inR_lt hg2) (by decide : 0 < 1) (by omega : i.toNat * 1 = i.toNat * 1 + 0) (by kernel_rfl)))) ?_
  refine EVO.p1 (aU64 (wrapF .u64 (gt l i))) ?_
  refine EVO.p1 (aU64 (wrapF .u64 (gt l i))) ?_
  refine EVO.done ?_
  refine CQ.ret ?_
  obtain rfl := Option.some.inj hr
  exact FinQ.r1 [aU64 (wrapF .u64 (gt l i))]
 ·replace hr := cd_f hb1 hr
  refine CQ.skip ?_
  refine CQ.seq ?_
  refine CQ.r0 fine ?_
  refine EVO.p1 (aU64 0) ?_
  refine EVO.done ?_
  refine CQ.ret ?_
  obtain rfl := Option.some.inj hr
  exact FinQ.r1 [aU64 0]

theorem fiducialref01_minus_ok (n : Nat) (a : List Int) (b : List Int) (r : List Int) (hr : fiducialref01_minus n a b = some r) : FnOk Tryz.prog 145 [slT (iC .u32) a, slT (iC .u32) b] (slT (iC .u32) r) := by
 unfold fiducialref01_minus at hr
 refine FnOk.body fine Tryz.func145 (c := (Tryz.f145.body).getD .skip) rfl (s := mkS 38 0 [(0, sU32 a), (1, sU32 b)]) (by kernel_rfl) (rs := [.tmp 4]) rfl ?_
 unfold Tryz.f145
 simp only [Option.getD_some]
 refine CQ.seq ?_
 refine CQ.r0 fine ?_
 refine EVO.p1 (.at (.slice none 0 0)) ?_
 refine EVO.done ?_
 refine CQ.n1 [0, 1] (mkS 38 0 [(0, sU32 a), (1, sU32 b)]) [] ?_
 refine CQ.seq ?_
 refine CQ.r0 fine ?_
 refine EVO.e1 (.hs 0 0 0 1) [(0, .own [])] ?_
 refine EVO.p1 (.hs 0 0 0 1) ?_
 refine EVO.done ?_
 refine CQ.n1 [0, 1, 5] (mkS 38 0 [(0, sU32 a), (1, sU32 b), (5, .hs 0 0 0 1)]) [.own []] ?_
 refine CQ.seq ?_
 refine CQ.r0 fine ?_
 refine EVO.p1 (aU64 0) ?_
 refine EVO.done ?_
 refine CQ.seq ?_
 refine CQ.seq ?_
 refine CQ.r0 fine ?_
 refine EVO.p1 (aI64 0) ?_
 refine EVO.done ?_
 refine CQ.block ?_
 replace hr := bd hr; obtain ⟨out_11, hL21, hr⟩ := hr
 refine CQ.loopO (σ := fun z0 => match z0 with | (out_1, borrow_2, i_3) => ⟨mkS 38 0 [(0, sU32 a), (1, sU32 b), (5, .hs 0 0 out_1.length 1), (6, aU64 borrow_2), (7, aI64 i_3)], [.own (out_1.flatMap (iC .u32))]⟩) (Q := fun x st' => x = .exit 0 ∧ Wk 0 st' ⟨mkS 38 0 [(5, .hs 0 0 out_11.length 1)], [.own (out_11.flatMap (iC .u32))]⟩) hL21 ((Wk.gc [0, 1, 5, 6, 7] [(0, false)] rfl (by exact ⟨rfl, trivial⟩)).to (by kernel_rfl)) ?_ ?_
 ·clear hr
  rintro m ⟨out_1, borrow_2, i_3⟩ hr
  show CQ _ _ _ _ _ ⟨_, _⟩
  refine CQ.seq ?_
  refine CQ.seq ?_
  refine CQ.r0 fine ?_
  refine EVO.p1 (aI64 i_3) ?_
  refine EVO.p1 (sU32 a) ?_
  refine EVO.p1 (aI64 (a.length : Int)) ?_
  refine EVO.p1 (aB (decide (i_3 < (a.length : Int)))) ?_
  refine EVO.done ?_
  refine CQ.n1 [0, 1, 5, 6, 7, 13] (mkS 38 0 [(0, sU32 a), (1, sU32 b), (5, .hs 0 0 out_1.length 1), (6, aU64 borrow_2), (7, aI64 i_3), (13, aB (decide (i_3 < (a.length : Int))))]) [.own (out_1.flatMap (iC .u32))] ?_
  refine CQ.cond (t := decide (i_3 < (a.length : Int))) (by kernel_rfl) (fun hb13 => ?_) (fun hb13 => ?_)
  ·replace hr := cd_t hb13 hr
   refine CQ.skip ?_
   refine CQ.seq ?_
   refine CQ.block ?_
   refine CQ.seq ?_
   replace hr := bd hr; obtain ⟨v14, hc15, hr⟩ := hr
   replace hr := bd hr; obtain ⟨v16, hc17, hr⟩ := hr
   refine CQ.region fine (callOf_ok [{ f := 183, args := [sU32 a, aI64 i_3], H := [.own (out_1.flatMap (iC .u32))], r := .loc (aU64 v14) [] [] 0 : CE }, { f := 183, args := [sU32 b, aI64 i_3], H := [.own (out_1.flatMap (iC .u32))], r := .loc (aU64 v16) [] [] 0 : CE }] (List.forall_mem_cons.2 ⟨(callOk_val (l := []) (args' := [sU32 a, aI64 i_3]) rfl (SnL.cons (Sn.pure rfl) (SnL.cons (Sn.pure rfl) SnL.nil)) (fiducialref01_group_ok n a i_3 v14 hc15)), (List.forall_mem_cons.2 ⟨(callOk_val (l := []) (args' := [sU32 b, aI64 i_3]) rfl (SnL.cons (Sn.pure rfl) (SnL.cons (Sn.pure rfl) SnL.nil)) (fiducialref01_group_ok n b i_3 v16 hc17)), ce0⟩)⟩)) ?_
   refine EVO.p1 (sU32 a) ?_
   refine EVO.p1 (aI64 i_3) ?_
   refine EVO.c0 (by kernel_rfl) (callOf_at (by kernel_rfl)) ?_
   refine EVO.p1 (aU64 (wrapF .u64 (1000000000 + v14))) ?_
   refine EVO.p1 (sU32 b) ?_
   refine EVO.p1 (aI64 i_3) ?_
   refine EVO.c0 (by kernel_rfl) (callOf_skip (fun _ h => by obtain ⟨e0, e1⟩ := fiducialref01_group_inj h; rw [show v16 = v14 from Option.some.inj (hc17.symm.trans ((show fiducialref01_group n b i_3 = fiducialref01_group n a i_3 from (congr (congr rfl e0) e1)).trans hc15))]) (callOf_at (by kernel_rfl))) ?_
   refine EVO.p1 (aU64 (wrapF .u64 ((wrapF .u64 (1000000000 + v14)) - v16))) ?_
   refine EVO.p1 (aU64 borrow_2) ?_
   refine EVO.p1 (aU64 (wrapF .u64 ((wrapF .u64 ((wrapF .u64 (1000000000 + v14)) - v16)) - borrow_2))) ?_
   refine EVO.p1 (aU64 (wrapF .u64 ((wrapF .u64 ((wrapF .u64 (1000000000 + v14)) - v16)) - borrow_2))) ?_
   refine EVO.done ?_
   refine CQ.n1 [0, 1, 5, 7, 8] (mkS 38 0 [(0, sU32 a), (1, sU32 b), (5, .hs 0 0 out_1.length 1), (7, aI64 i_3), (8, aU64 (wrapF .u64 ((wrapF .u64 ((wrapF .u64 (1000000000 + v14)) - v16)) - borrow_2)))]) [.own (out_1.flatMap (iC .u32))] ?_
   refine CQ.seq ?_
   replace hr := gd hr; obtain ⟨hg18, hr⟩ := hr
   replace hr := gd hr; obtain ⟨hg19, hr⟩ := hr
   refine CQ.r0 fine ?_
   refine EVO.p1 (.hs 0 0 out_1.length 1) ?_
   refine EVO.p1 (aU64 (wrapF .u64 ((wrapF .u64 ((wrapF .u64 (1000000000 + v14)) - v16)) - borrow_2))) ?_
   refine EVO.p1 (aU64 ((wrapF .u64 ((wrapF .u64 ((wrapF .u64 (1000000000 + v14)) - v16)) - borrow_2)).tmod 1000000000)) ?_
   refine EVO.p1 (aU32 (wrapF .u32 ((wrapF .u64 ((wrapF .u64 ((wrapF .u64 (1000000000 + v14)) - v16)) - borrow_2)).tmod 1000000000))) ?_
   refine EVO.e1 (.hs 1 0 1 1) [(1, .own [aU32 (wrapF .u32 ((wrapF .u64 ((wrapF .u64 ((wrapF .u64 (1000000000 + v14)) - v16)) - borrow_2)).tmod 1000000000))])] ?_
   refine EVO.e0 (v := .hs 2 0 (out_1 ++ [wrapF .u32 ((wrapF .u64 ((wrapF .u64 ((wrapF .u64 (1000000000 + v14)) - v16)) - borrow_2)).tmod 1000000000)]).length 1) (ws := [(0, .dead), (2, .own ((out_1 ++ [wrapF .u32 ((wrapF .u64 ((wrapF .u64 ((wrapF .u64 (1000000000 + v14)) - v16)) - borrow_2)).tmod 1000000000)]).flatMap (iC .u32)))]) (Eq.trans (b := guardO (decide (0 + out_1.length * 1 ≤ (out_1.flatMap (iC .u32)).length) && decide ((out_1.length + 1) * 4 ≤ 140737488355328) && decide (out_1.length + 1 ≤ 4611686018427387904)) (some (.eff (.hs 2 0 (out_1.length + 1) 1) [(0, .dead), (2, .own (((out_1.flatMap (iC .u32)).drop 0).take (out_1.length * 1) ++ [aU32 (wrapF .u32 ((wrapF .u64 ((wrapF .u64 ((wrapF .u64 (1000000000 + v14)) - v16)) - borrow_2)).tmod 1000000000))]))]))) (by kernel_rfl) (app_own (l := out_1) (xs := [wrapF .u32 ((wrapF .u64 ((wrapF .u64 ((wrapF .u64 (1000000000 + v14)) - v16)) - borrow_2)).tmod 1000000000)]) (iC_len _) rfl rfl (by kernel_rfl) hg18 hg19)) ?_
   refine EVO.p1 (.hs 2 0 (out_1 ++ [wrapF .u32 ((wrapF .u64 ((wrapF .u64 ((wrapF .u64 (1000000000 + v14)) - v16)) - borrow_2)).tmod 1000000000)]).length 1) ?_
   refine EVO.done ?_
   refine CQ.n1 [0, 1, 5, 7, 8] (mkS 38 0 [(0, sU32 a), (1, sU32 b), (5, .hs 2 0 (out_1 ++ [wrapF .u32 ((wrapF .u64 ((wrapF .u64 ((wrapF .u64 (1000000000 + v14)) - v16)) - borrow_2)).tmod 1000000000)]).length 1), (7, aI64 i_3), (8, aU64 (wrapF .u64 ((wrapF .u64 ((wrapF .u64 (1000000000 + v14)) - v16)) - borrow_2)))]) [.dead, .own [aU32 (wrapF .u32 ((wrapF .u64 ((wrapF .u64 ((wrapF .u64 (1000000000 + v14)) - v16)) - borrow_2)).tmod 1000000000))], .own ((out_1 ++ [wrapF .u32 ((wrapF .u64 ((wrapF .u64 ((wrapF .u64 (1000000000 + v14)) - v16)) - borrow_2)).tmod 1000000000)]).flatMap (iC .u32))] ?_
   refine CQ.r0 fine ?_
   refine EVO.p1 (aU64 (wrapF .u64 ((wrapF .u64 ((wrapF .u64 (1000000000 + v14)) - v16)) - borrow_2))) ?_
   refine EVO.p1 (aU64 (wrapF .u64 ((wrapF .u64 ((wrapF .u64 ((wrapF .u64 (1000000000 + v14)) - v16)) - borrow_2)).tdiv 1000000000))) ?_
   refine EVO.p1 (aU64 (wrapF .u64 (1 - (wrapF .u64 ((wrapF .u64 ((wrapF .u64 ((wrapF .u64 (1000000000 + v14)) - v16)) - borrow_2)).tdiv 1000000000))))) ?_
   refine EVO.p1 (aU64 (wrapF .u64 (1 - (wrapF .u64 ((wrapF .u64 ((wrapF .u64 ((wrapF .u64 (1000000000 + v14)) - v16)) - borrow_2)).tdiv 1000000000))))) ?_
   refine EVO.done ?_
   refine CQ.pop ?_
   refine CQ.r0 fine ?_
   refine EVO.p1 (aI64 i_3) ?_
   refine EVO.p1 (aI64 (wrapF .i64 (i_3 + 1))) ?_
   refine EVO.p1 (aI64 (wrapF .i64 (i_3 + 1))) ?_
   refine EVO.done ?_
   exact loopF_back (out_1 ++ [wrapF .u32 ((wrapF .u64 ((wrapF .u64 ((wrapF .u64 (1000000000 + v14)) - v16)) - borrow_2)).tmod 1000000000)], wrapF .u64 (1 - (wrapF .u64 ((wrapF .u64 ((wrapF .u64 ((wrapF .u64 (1000000000 + v14)) - v16)) - borrow_2)).tdiv 1000000000))), wrapF .i64 (i_3 + 1)) hr ((Wk.gc [0, 1, 5, 6, 7] [(2, false)] rfl (by exact ⟨ids_flat (iC_pure _) _, trivial⟩)).to (by kernel_rfl))
  ·replace hr := cd_f hb13 hr
   refine CQ.leave rfl ?_
   obtain rfl := Option.some.inj hr
   exact ⟨rfl, ((Wk.gc [5] [(0, false)] rfl (by exact ⟨ids_flat (iC_pure _) _, trivial⟩)).to (by kernel_rfl))⟩
 ·rintro x st' hq22
  clear hL21
  obtain ⟨rfl, hq22⟩ := hq22
  refine CQ_exit _ rfl ?_
  refine CQ.wk hq22 ?_
  refine CQ.seq ?_
  replace hr := bd hr; obtain ⟨v23, hc24, hr⟩ := hr
  refine CQ.region fine (callOf_1 139 [aB false, .hs 0 0 out_11.length 1] [.own (out_11.flatMap (iC .u32))] (.loc (.agg (api_Int.c v23)) [(0, .fix (out_11.flatMap (iC .u32)))] [0] 0) (callOk_ref (l := [0]) (args' := [aB false, sU32 out_11]) (SnL.cons (Sn.pure rfl) (SnL.cons (Sn.hs rfl (.inl rfl) (SnC.pure (ids_flat (iC_pure _) _)) (fun h => flat_nil0 h)) SnL.nil)) (fiducialref01_made_ok n false out_11 v23 hc24))) ?_
  refine EVO.p1 (.hs 0 0 out_11.length 1) ?_
  refine EVO.c0 (by kernel_rfl) (callOf_at (by kernel_rfl)) ?_
  refine EVO.p1 (sU32 v23.Groups) ?_
  refine EVO.p1 (sU32 v23.Groups) ?_
  refine EVO.done ?_
  refine CQ.ret ?_
  obtain rfl := Option.some.inj hr
  exact FinQ.r1 [sU32 v23.Groups]

theorem fiducialref01_parts_ok (n : Nat) (a : List Int) (b : List Int) (r : List Int × List Int) (hr : fiducialref01_parts n a b = some r) : FnOk Tryz.prog 141 [slT (iC .u32) a, slT (iC .u32) b] (.tup [slT (iC .u32) r.1, slT (iC .u32) r.2]) := by
 unfold fiducialref01_parts at hr
 refine FnOk.body fine Tryz.func141 (c := (Tryz.f141.body).getD .skip) rfl (s := mkS 130 0 [(0, sU32 a), (1, sU32 b)]) (by kernel_rfl) (rs := [.tmp 4, .tmp 5]) rfl ?_
 unfold Tryz.f141
 simp only [Option.getD_some]
 refine CQ.seq ?_
 refine CQ.r0 fine ?_
 refine EVO.p1 (.at (.slice none 0 0)) ?_
 refine EVO.p1 (.at (.slice none 0 0)) ?_
 refine EVO.done ?_
 refine CQ.n1 [0, 1] (mkS 130 0 [(0, sU32 a), (1, sU32 b)]) [] ?_
 refine CQ.seq ?_
 refine CQ.r0 fine ?_
 refine EVO.p1 (sU32 b) ?_
 refine EVO.p1 (aI64 (b.length : Int)) ?_
 refine EVO.p1 (aI64 (b.length : Int)) ?_
 refine EVO.done ?_
 refine CQ.n1 [0, 1, 6] (mkS 130 0 [(0, sU32 a), (1, sU32 b), (6, aI64 (b.length : Int))]) [] ?_
 refine CQ.seq ?_
 refine CQ.seq ?_
 refine CQ.r0 fine ?_
 refine EVO.p1 (aI64 (b.length : Int)) ?_
 refine EVO.p1 (aB (((b.length : Int) : Int) == 1)) ?_
 refine EVO.done ?_
 refine CQ.n1 [0, 1, 6, 19] (mkS 130 0 [(0, sU32 a), (1, sU32 b), (6, aI64 (b.length : Int)), (19, aB (((b.length : Int) : Int) == 1))]) [] ?_
 refine CQ.cond (t := ((b.length : Int) : Int) == 1) (by kernel_rfl) (fun hb1 => ?_) (fun hb1 => ?_)
 ·replace hr := cd_t hb1 hr
  refine CQ.seq ?_
  replace hr := gd hr; obtain ⟨hg2, hr⟩ := hr
  replace hr := bd hr; obtain ⟨v3, hc4, hr⟩ := hr
  refine CQ.region fine (callOf_1 180 [sU32 a, aU64 (wrapF .u64 (gt b 0))] [] (.loc (.tup [sU32 v3.1, aU64 v3.2]) [] [] 0) (callOk_ref (l := []) (args' := [sU32 a, aU64 (wrapF .u64 (gt b 0))]) (SnL.cons (Sn.pure rfl) (SnL.cons (Sn.pure rfl) SnL.nil)) (fiducialref01_short_ok n a (wrapF .u64 (gt b 0)) v3 hc4))) ?_
  refine EVO.p1 (sU32 a) ?_
  refine EVO.p1 (sU32 b) ?_
  refine EVO.p0 (v := .pp (b.flatMap (iC .u32)) ((0 : Int).toNat * 1)) (Eq.trans (b := ORes.ofP (guardV (inR 0 b.length) (.pp (b.flatMap (iC .u32)) ((0 : Int).toNat * 1)))) (by kernel_rfl) (ofP_guard hg2)) ?_
  refine EVO.p0 (v := aU32 (gt b 0)) (Eq.trans (b := ORes.ofP ((b.flatMap (iC .u32))[(0 : Int).toNat * 1]?)) (by kernel_rfl) (ofP_some (flat_get (iC_len _) (inR_lt hg2) (by decide : 0 < 1) (by omega : (0 : Int).toNat * 1 = (0 : Int).toNat * 1 + 0) (by kernel_rfl)))) ?_
  refine EVO.p1 (aU64 (wrapF .u64 (gt b 0))) ?_
  refine EVO.c0 (by kernel_rfl) (callOf_at (by kernel_rfl)) ?_
  refine EVO.p1 (.tup [sU32 v3.1, aU64 v3.2]) ?_
  refine EVO.p1 (sU32 v3.1) ?_
  refine EVO.p1 (aU64 v3.2) ?_
  refine EVO.p1 (sU32 v3.1) ?_
  refine EVO.p1 (aU64 v3.2) ?_
  refine EVO.done ?_
  refine CQ.n1 [7, 8] (mkS 130 0 [(7, sU32 v3.1), (8, aU64 v3.2)]) [] ?_
  refine CQ.seq ?_
  replace hr := bd hr; obtain ⟨v5, hc6, hr⟩ := hr
  refine CQ.region fine (callOf_1 139 [aB false, .hs 0 0 1 1] [.own [aU32 (wrapF .u32 v3.2)]] (.loc (.agg (api_Int.c v5)) [(0, .fix [aU32 (wrapF .u32 v3.2)])] [0] 0) (callOk_ref (l := [0]) (args' := [aB false, sU32 [(wrapF .u32 v3.2)]]) (SnL.cons (Sn.pure rfl) (SnL.cons (Sn.hs rfl (.inl rfl) (SnC.cons (Sn.pure rfl) SnC.nil) (fun h => nomatch h)) SnL.nil)) (fiducialref01_made_ok n false [(wrapF .u32 v3.2)] v5 hc6))) ?_
  refine EVO.p1 (sU32 v3.1) ?_
  refine EVO.p1 (aU64 v3.2) ?_
  refine EVO.p1 (aU32 (wrapF .u32 v3.2)) ?_
  refine EVO.e1 (.hs 0 0 1 1) [(0, .own [aU32 (wrapF .u32 v3.2)])] ?_
  refine EVO.c0 (by kernel_rfl) (callOf_at (by kernel_rfl)) ?_
  refine EVO.p1 (sU32 v5.Groups) ?_
  refine EVO.p1 (sU32 v3.1) ?_
  refine EVO.p1 (sU32 v5.Groups) ?_
  refine EVO.done ?_
  refine CQ.ret ?_
  obtain rfl := Option.some.inj hr
  exact FinQ.ret (vs := [sU32 v3.1, sU32 v5.Groups]) (by kernel_rfl) (Sn.tup (SnL.cons (Sn.pure rfl) (SnL.cons (Sn.pure rfl) SnL.nil)))
 ·replace hr := cd_f hb1 hr
  refine CQ.skip ?_
  refine CQ.seq ?_
  refine CQ.seq ?_
  replace hr := bd hr; obtain ⟨v7, hc8, hr⟩ := hr
  refine CQ.region fine (callOf_1 144 [sU32 a, sU32 b] [] (.loc (aI64 v7) [] [] 0) (callOk_val (l := []) (args' := [sU32 a, sU32 b]) rfl (SnL.cons (Sn.pure rfl) (SnL.cons (Sn.pure rfl) SnL.nil)) (fiducialref01_size_ok n a b v7 hc8))) ?_
  refine EVO.p1 (sU32 a) ?_
  refine EVO.p1 (sU32 b) ?_
  refine EVO.c0 (by kernel_rfl) (callOf_at (by kernel_rfl)) ?_
  refine EVO.p1 (aB (decide (v7 < 0))) ?_
  refine EVO.done ?_
  refine CQ.n1 [0, 1, 6, 38] (mkS 130 0 [(0, sU32 a), (1, sU32 b), (6, aI64 (b.length : Int)), (38, aB (decide (v7 < 0)))]) [] ?_
  refine CQ.cond (t := decide (v7 < 0)) (by kernel_rfl) (fun hb9 => ?_) (fun hb9 => ?_)
  ·replace hr := cd_t hb9 hr
   refine CQ.seq ?_
   refine CQ.r0 fine ?_
   refine EVO.e1 (.hs 0 0 0 1) [(0, .own [])] ?_
   refine EVO.p1 (sU32 a) ?_
   refine EVO.p1 (.hs 0 0 0 1) ?_
   refine EVO.p1 (sU32 a) ?_
   refine EVO.done ?_
   refine CQ.ret ?_
   obtain rfl := Option.some.inj hr
   exact FinQ.ret (vs := [.hs 0 0 0 1, sU32 a]) (by kernel_rfl) (Sn.tup (SnL.cons (Sn.hs rfl (.inl rfl) SnC.nil (fun _ => rfl)) (SnL.cons (Sn.pure rfl) SnL.nil)))
  ·replace hr := cd_f hb9 hr
   refine CQ.skip ?_
   refine CQ.seq ?_
   replace hr := gd hr; obtain ⟨hg10, hr⟩ := hr
   replace hr := gd hr; obtain ⟨hg11, hr⟩ := hr
   refine CQ.r0 fine ?_
   refine EVO.p1 (sU32 b) ?_
   refine EVO.p1 (aI64 (b.length : Int)) ?_
   refine EVO.p1 (aI64 (wrapF .i64 ((b.length : Int) - 1))) ?_
   refine EVO.p0 (v := .pp (b.flatMap (iC .u32)) ((wrapF .i64 ((b.length : Int) - 1)).toNat * 1)) (Eq.trans (b := ORes.ofP (guardV (inR (wrapF .i64 ((b.length : Int) - 1)) b.length) (.pp (b.flatMap (iC .u32)) ((wrapF .i64 ((b.length : Int) - 1)).toNat * 1)))) (by kernel_rfl) (ofP_guard hg10)) ?_
   refine EVO.p0 (v := aU32 (gt b (wrapF .i64 ((b.length : Int) - 1)))) (Eq.trans (b := ORes.ofP ((b.flatMap (iC .u32))[(wrapF .i64 ((b.length : Int) - 1)).toNat * 1]?)) (by kernel_rfl) (ofP_some (flat_get (iC_len _) (inR_lt hg10) (by decide : 0 < 1) (by omega : (wrapF .i64 ((b.length : Int) - 1)).toNat * 1 = (wrapF .i64 ((b.length : Int) - 1)).toNat * 1 + 0) (by kernel_rfl)))) ?_
   refine EVO.p1 (aU64 (wrapF .u64 (gt b (wrapF .i64 ((b.length : Int) - 1))))) ?_
   refine EVO.p1 (aU64 (wrapF .u64 ((wrapF .u64 (gt b (wrapF .i64 ((b.length : Int) - 1)))) + 1))) ?_
   refine EVO.p0 (v := aU64 (wrapF .u64 ((1000000000 : Int).tdiv (wrapF .u64 ((wrapF .u64 (gt b (wrapF .i64 ((b.length : Int) - 1)))) + 1))))) (op_quo (x := 1000000000) (y := wrapF .u64 ((wrapF .u64 (gt b (wrapF .i64 ((b.length : Int) - 1)))) + 1)) (by kernel_rfl) (by kernel_rfl) hg11) ?_
   refine EVO.p1 (aU64 (wrapF .u64 ((1000000000 : Int).tdiv (wrapF .u64 ((wrapF .u64 (gt b (wrapF .i64 ((b.length : Int) - 1)))) + 1))))) ?_
   refine EVO.done ?_
   refine CQ.n1 [0, 1, 6, 9] (mkS 130 0 [(0, sU32 a), (1, sU32 b), (6, aI64 (b.length : Int)), (9, aU64 (wrapF .u64 ((1000000000 : Int).tdiv (wrapF .u64 ((wrapF .u64 (gt b (wrapF .i64 ((b.length : Int) - 1)))) + 1)))))]) [] ?_
   refine CQ.seq ?_
   replace hr := bd hr; obtain ⟨v12, hc13, hr⟩ := hr
   replace hr := bd hr; obtain ⟨v14, hc15, hr⟩ := hr
   refine CQ.region fine (callOf_ok [{ f := 181, args := [sU32 a, aU64 (wrapF .u64 ((1000000000 : Int).tdiv (wrapF .u64 ((wrapF .u64 (gt b (wrapF .i64 ((b.length : Int) - 1)))) + 1))))], H := [], r := .loc (sU32 v12) [] [] 0 : CE }, { f := 181, args := [sU32 b, aU64 (wrapF .u64 ((1000000000 : Int).tdiv (wrapF .u64 ((wrapF .u64 (gt b (wrapF .i64 ((b.length : Int) - 1)))) + 1))))], H := [], r := .loc (sU32 v14) [] [] 0 : CE }] (List.forall_mem_cons.2 ⟨(callOk_ref (l := []) (args' := [sU32 a, aU64 (wrapF .u64 ((1000000000 : Int).tdiv (wrapF .u64 ((wrapF .u64 (gt b (wrapF .i64 ((b.length : Int) - 1)))) + 1))))]) (SnL.cons (Sn.pure rfl) (SnL.cons (Sn.pure rfl) SnL.nil)) (fiducialref01_scaled_ok n a (wrapF .u64 ((1000000000 : Int).tdiv (wrapF .u64 ((wrapF .u64 (gt b (wrapF .i64 ((b.length : Int) - 1)))) + 1)))) v12 hc13)), (List.forall_mem_cons.2 ⟨(callOk_ref (l := []) (args' := [sU32 b, aU64 (wrapF .u64 ((1000000000 : Int).tdiv (wrapF .u64 ((wrapF .u64 (gt b (wrapF .i64 ((b.length : Int) - 1)))) + 1))))]) (SnL.cons (Sn.pure rfl) (SnL.cons (Sn.pure rfl) SnL.nil)) (fiducialref01_scaled_ok n b (wrapF .u64 ((1000000000 : Int).tdiv (wrapF .u64 ((wrapF .u64 (gt b (wrapF .i64 ((b.length : Int) - 1)))) + 1)))) v14 hc15)), ce0⟩)⟩)) ?_
   refine EVO.p1 (sU32 a) ?_
   refine EVO.p1 (aU64 (wrapF .u64 ((1000000000 : Int).tdiv (wrapF .u64 ((wrapF .u64 (gt b (wrapF .i64 ((b.length : Int) - 1)))) + 1))))) ?_
   refine EVO.c0 (by kernel_rfl) (callOf_at (by kernel_rfl)) ?_
   refine EVO.p1 (sU32 b) ?_
   refine EVO.p1 (aU64 (wrapF .u64 ((1000000000 : Int).tdiv (wrapF .u64 ((wrapF .u64 (gt b (wrapF .i64 ((b.length : Int) - 1)))) + 1))))) ?_
   refine EVO.c0 (by kernel_rfl) (callOf_skip (fun _ h => by obtain ⟨e0, e1⟩ := fiducialref01_scaled_inj h; rw [show v14 = v12 from Option.some.inj (hc15.symm.trans ((show fiducialref01_scaled n b (wrapF .u64 ((1000000000 : Int).tdiv (wrapF .u64 ((wrapF .u64 (gt b (wrapF .i64 ((b.length : Int) - 1)))) + 1)))) = fiducialref01_scaled n a (wrapF .u64 ((1000000000 : Int).tdiv (wrapF .u64 ((wrapF .u64 (gt b (wrapF .i64 ((b.length : Int) - 1)))) + 1)))) from (congr (congr rfl e0) e1)).trans hc13))]) (callOf_at (by kernel_rfl))) ?_
   refine EVO.p1 (sU32 v12) ?_
   refine EVO.p1 (sU32 v14) ?_
   refine EVO.done ?_
   refine CQ.n1 [0, 1, 6, 9] (mkS 130 0 [(0, sU32 v12), (1, sU32 v14), (6, aI64 (b.length : Int)), (9, aU64 (wrapF .u64 ((1000000000 : Int).tdiv (wrapF .u64 ((wrapF .u64 (gt b (wrapF .i64 ((b.length : Int) - 1)))) + 1)))))]) [] ?_
   refine CQ.seq ?_
   replace hr := gd hr; obtain ⟨hg16, hr⟩ := hr
   replace hr := bd hr; obtain ⟨v17, hc18, hr⟩ := hr
   refine CQ.region fine (callOf_1 139 [aB false, sU32 ((v12.drop (wrapF .i64 ((wrapF .i64 ((v12.length : Int) - (b.length : Int))) + 1)).toNat).take ((v12.length : Int).toNat - (wrapF .i64 ((wrapF .i64 ((v12.length : Int) - (b.length : Int))) + 1)).toNat))] [] (.loc (.agg (api_Int.c v17)) [] [] 0) (callOk_ref (l := []) (args' := [aB false, sU32 ((v12.drop (wrapF .i64 ((wrapF .i64 ((v12.length : Int) - (b.length : Int))) + 1)).toNat).take ((v12.length : Int).toNat - (wrapF .i64 ((wrapF .i64 ((v12.length : Int) - (b.length : Int))) + 1)).toNat))]) (SnL.cons (Sn.pure rfl) (SnL.cons (Sn.pure rfl) SnL.nil)) (fiducialref01_made_ok n false ((v12.drop (wrapF .i64 ((wrapF .i64 ((v12.length : Int) - (b.length : Int))) + 1)).toNat).take ((v12.length : Int).toNat - (wrapF .i64 ((wrapF .i64 ((v12.length : Int) - (b.length : Int))) + 1)).toNat)) v17 hc18))) ?_
   refine EVO.p1 (sU32 v12) ?_
   refine EVO.p1 (sU32 v12) ?_
   refine EVO.p1 (aI64 (v12.length : Int)) ?_
   refine EVO.p1 (aI64 (b.length : Int)) ?_
   refine EVO.p1 (aI64 (wrapF .i64 ((v12.length : Int) - (b.length : Int)))) ?_
   refine EVO.p1 (aI64 (wrapF .i64 ((wrapF .i64 ((v12.length : Int) - (b.length : Int))) + 1))) ?_
   refine EVO.p0 (v := sU32 ((v12.drop (wrapF .i64 ((wrapF .i64 ((v12.length : Int) - (b.length : Int))) + 1)).toNat).take ((v12.length : Int).toNat - (wrapF .i64 ((wrapF .i64 ((v12.length : Int) - (b.length : Int))) + 1)).toNat))) (Eq.trans (b := slO (inS (wrapF .i64 ((wrapF .i64 ((v12.length : Int) - (b.length : Int))) + 1)) (v12.length : Int) v12.length) (wrapF .i64 ((wrapF .i64 ((v12.length : Int) - (b.length : Int))) + 1)).toNat (v12.length : Int).toNat (fun z1 z2 => .sl true (((v12.flatMap (iC .u32)).drop (z1 * 1)).take ((z2 - z1) * 1)) (z2 - z1))) (by kernel_rfl) (slO_t hg16 (sub_sl (iC_len _) (inS_le hg16)))) ?_
   refine EVO.c0 (by kernel_rfl) (callOf_at (by kernel_rfl)) ?_
   refine EVO.p1 (sU32 v17.Groups) ?_
   refine EVO.p1 (sU32 v17.Groups) ?_
   refine EVO.done ?_
   refine CQ.n1 [0, 1, 6, 9, 10] (mkS 130 0 [(0, sU32 v12), (1, sU32 v14), (6, aI64 (b.length : Int)), (9, aU64 (wrapF .u64 ((1000000000 : Int).tdiv (wrapF .u64 ((wrapF .u64 (gt b (wrapF .i64 ((b.length : Int) - 1)))) + 1))))), (10, sU32 v17.Groups)]) [] ?_
   refine CQ.seq ?_
   replace hr := gd hr; obtain ⟨hg19, hr⟩ := hr
   replace hr := gd hr; obtain ⟨hg20, hr⟩ := hr
   replace hr := gd hr; obtain ⟨hg21, hr⟩ := hr
   refine CQ.r0 fine ?_
   refine EVO.p1 (sU32 v12) ?_
   refine EVO.p1 (aI64 (v12.length : Int)) ?_
   refine EVO.p1 (aI64 (b.length : Int)) ?_
   refine EVO.p1 (aI64 (wrapF .i64 ((v12.length : Int) - (b.length : Int)))) ?_
   refine EVO.p1 (aI64 (wrapF .i64 ((wrapF .i64 ((v12.length : Int) - (b.length : Int))) + 1))) ?_
   refine EVO.e0 (v := .hs 0 0 (List.replicate (wrapF .i64 ((wrapF .i64 ((v12.length : Int) - (b.length : Int))) + 1)).toNat (0 : Int)).length 1) (ws := [(0, .own ((List.replicate (wrapF .i64 ((wrapF .i64 ((v12.length : Int) - (b.length : Int))) + 1)).toNat (0 : Int)).flatMap (iC .u32)))]) (Eq.trans (b := guardO (decide (0 ≤ (wrapF .i64 ((wrapF .i64 ((v12.length : Int) - (b.length : Int))) + 1))) && decide ((wrapF .i64 ((wrapF .i64 ((v12.length : Int) - (b.length : Int))) + 1)) ≤ (wrapF .i64 ((wrapF .i64 ((v12.length : Int) - (b.length : Int))) + 1))) && decide ((4 : Int) * (wrapF .i64 ((wrapF .i64 ((v12.length : Int) - (b.length : Int))) + 1)) ≤ 281474976710656) && decide ((wrapF .i64 ((wrapF .i64 ((v12.length : Int) - (b.length : Int))) + 1)) ≤ 9223372036854775807) && true && true && true) (some (.eff (.hs 0 0 (wrapF .i64 ((wrapF .i64 ((v12.length : Int) - (b.length : Int))) + 1)).toNat 1) [(0, .own (zerosA [aU32 0] (wrapF .i64 ((wrapF .i64 ((v12.length : Int) - (b.length : Int))) + 1)).toNat))]))) (by kernel_rfl) (make_own (c := (iC .u32)) (z := 0) rfl hg19 hg20 hg21)) ?_
   refine EVO.p1 (.hs 0 0 (List.replicate (wrapF .i64 ((wrapF .i64 ((v12.length : Int) - (b.length : Int))) + 1)).toNat (0 : Int)).length 1) ?_
   refine EVO.done ?_
   refine CQ.n1 [0, 1, 6, 9, 10, 11] (mkS 130 0 [(0, sU32 v12), (1, sU32 v14), (6, aI64 (b.length : Int)), (9, aU64 (wrapF .u64 ((1000000000 : Int).tdiv (wrapF .u64 ((wrapF .u64 (gt b (wrapF .i64 ((b.length : Int) - 1)))) + 1))))), (10, sU32 v17.Groups), (11, .hs 0 0 (List.replicate (wrapF .i64 ((wrapF .i64 ((v12.length : Int) - (b.length : Int))) + 1)).toNat (0 : Int)).length 1)]) [.own ((List.replicate (wrapF .i64 ((wrapF .i64 ((v12.length : Int) - (b.length : Int))) + 1)).toNat (0 : Int)).flatMap (iC .u32))] ?_
   refine CQ.seq ?_
   refine CQ.seq ?_
   refine CQ.r0 fine ?_
   refine EVO.p1 (sU32 v12) ?_
   refine EVO.p1 (aI64 (v12.length : Int)) ?_
   refine EVO.p1 (aI64 (b.length : Int)) ?_
   refine EVO.p1 (aI64 (wrapF .i64 ((v12.length : Int) - (b.length : Int)))) ?_
   refine EVO.p1 (aI64 (wrapF .i64 ((v12.length : Int) - (b.length : Int)))) ?_
   refine EVO.done ?_
   refine CQ.n1 [0, 1, 6, 9, 10, 11, 12] (mkS 130 0 [(0, sU32 v12), (1, sU32 v14), (6, aI64 (b.length : Int)), (9, aU64 (wrapF .u64 ((1000000000 : Int).tdiv (wrapF .u64 ((wrapF .u64 (gt b (wrapF .i64 ((b.length : Int) - 1)))) + 1))))), (10, sU32 v17.Groups), (11, .hs 0 0 (List.replicate (wrapF .i64 ((wrapF .i64 ((v12.length : Int) - (b.length : Int))) + 1)).toNat (0 : Int)).length 1), (12, aI64 (wrapF .i64 ((v12.length : Int) - (b.length : Int))))]) [.own ((List.replicate (wrapF .i64 ((wrapF .i64 ((v12.length : Int) - (b.length : Int))) + 1)).toNat (0 : Int)).flatMap (iC .u32))] ?_
   refine CQ.block ?_
   replace hr := bd hr; obtain ⟨o94, hL95, hr⟩ := hr
   refine CQ.loopO (σ := fun z0 => match z0 with | (rest_22, q_23, i_24) => ⟨mkS 130 0 [(0, sU32 v12), (1, sU32 v14), (6, aI64 (b.length : Int)), (9, aU64 (wrapF .u64 ((1000000000 : Int).tdiv (wrapF .u64 ((wrapF .u64 (gt b (wrapF .i64 ((b.length : Int) - 1)))) + 1))))), (10, sU32 rest_22), (11, .hs 0 0 q_23.length 1), (12, aI64 i_24)], [.own (q_23.flatMap (iC .u32))]⟩) (Q := fun x st' => match (generalizing := false) o94 with | (rest_58, q_59) => x = .exit 0 ∧ Wk 0 st' ⟨mkS 130 0 [(9, aU64 (wrapF .u64 ((1000000000 : Int).tdiv (wrapF .u64 ((wrapF .u64 (gt b (wrapF .i64 ((b.length : Int) - 1)))) + 1))))), (10, sU32 rest_58), (11, .hs 0 0 q_59.length 1)], [.own (q_59.flatMap (iC .u32))]⟩) hL95 ((Wk.gc [0, 1, 6, 9, 10, 11, 12] [(0, false)] rfl (by exact ⟨ids_flat (iC_pure _) _, trivial⟩)).to (by kernel_rfl)) ?_ ?_
   ·clear hr
    rintro m ⟨rest_22, q_23, i_24⟩ hr
    show CQ _ _ _ _ _ ⟨_, _⟩
    refine CQ.seq ?_
    refine CQ.seq ?_
    refine CQ.r0 fine ?_
    refine EVO.p1 (aI64 i_24) ?_
    refine EVO.p1 (aB (decide (i_24 ≥ 0))) ?_
    refine EVO.done ?_
    refine CQ.n1 [0, 1, 6, 9, 10, 11, 12, 75] (mkS 130 0 [(0, sU32 v12), (1, sU32 v14), (6, aI64 (b.length : Int)), (9, aU64 (wrapF .u64 ((1000000000 : Int).tdiv (wrapF .u64 ((wrapF .u64 (gt b (wrapF .i64 ((b.length : Int) - 1)))) + 1))))), (10, sU32 rest_22), (11, .hs 0 0 q_23.length 1), (12, aI64 i_24), (75, aB (decide (i_24 ≥ 0)))]) [.own (q_23.flatMap (iC .u32))] ?_
    refine CQ.cond (t := decide (i_24 ≥ 0)) (by kernel_rfl) (fun hb61 => ?_) (fun hb61 => ?_)
    ·replace hr := cd_t hb61 hr
     refine CQ.skip ?_
     refine CQ.seq ?_
     refine CQ.block ?_
     refine CQ.seq ?_
     replace hr := gd hr; obtain ⟨hg62, hr⟩ := hr
     replace hr := bd hr; obtain ⟨v63, hc64, hr⟩ := hr
     refine CQ.region fine (callOf_1 182 [sU32 rest_22, aU32 (gt v12 i_24)] [.own (q_23.flatMap (iC .u32))] (.loc (sU32 v63) [] [] 0) (callOk_ref (l := []) (args' := [sU32 rest_22, aU32 (gt v12 i_24)]) (SnL.cons (Sn.pure rfl) (SnL.cons (Sn.pure rfl) SnL.nil)) (fiducialref01_shifted_ok n rest_22 (gt v12 i_24) v63 hc64))) ?_
     refine EVO.p1 (sU32 rest_22) ?_
     refine EVO.p1 (sU32 v12) ?_
     refine EVO.p1 (aI64 i_24) ?_
     refine EVO.p0 (v := .pp (v12.flatMap (iC .u32)) (i_24.toNat * 1)) (Eq.trans (b := ORes.ofP (guardV (inR i_24 v12.length) (.pp (v12.flatMap (iC .u32)) (i_24.toNat * 1)))) (by kernel_rfl) (ofP_guard hg62)) ?_
     refine EVO.p0 (v := aU32 (gt v12 i_24)) (Eq.trans (b := ORes.ofP ((v12.flatMap (iC .u32))[i_24.toNat * 1]?)) (by kernel_rfl) (ofP_some (flat_get (iC_len _) (inR_lt hg62) (by decide : 0 < 1) (by omega : i_24.toNat * 1 = i_24.toNat * 1 + 0) (by kernel_rfl)))) ?_
     refine EVO.c0 (by kernel_rfl) (callOf_at (by kernel_rfl)) ?_
     refine EVO.p1 (sU32 v63) ?_
     refine EVO.done ?_
     refine CQ.n1 [0, 1, 6, 9, 10, 11, 12] (mkS 130 0 [(0, sU32 v12), (1, sU32 v14), (6, aI64 (b.length : Int)), (9, aU64 (wrapF .u64 ((1000000000 : Int).tdiv (wrapF .u64 ((wrapF .u64 (gt b (wrapF .i64 ((b.length : Int) - 1)))) + 1))))), (10, sU32 v63), (11, .hs 0 0 q_23.length 1), (12, aI64 i_24)]) [.own (q_23.flatMap (iC .u32))] ?_
     refine CQ.seq ?_
     replace hr := bd hr; obtain ⟨v65, hc66, hr⟩ := hr
     replace hr := bd hr; obtain ⟨v67, hc68, hr⟩ := hr
     replace hr := gd hr; obtain ⟨hg69, hr⟩ := hr
     replace hr := gd hr; obtain ⟨hg70, hr⟩ := hr
     refine CQ.regionT fine (callOf_ok [{ f := 183, args := [sU32 v63, aI64 (b.length : Int)], H := [.own (q_23.flatMap (iC .u32))], r := .loc (aU64 v65) [] [] 0 : CE }, { f := 183, args := [sU32 v63, aI64 (wrapF .i64 ((b.length : Int) - 1))], H := [.own (q_23.flatMap (iC .u32))], r := .loc (aU64 v67) [] [] 0 : CE }] (List.forall_mem_cons.2 ⟨(callOk_val (l := []) (args' := [sU32 v63, aI64 (b.length : Int)]) rfl (SnL.cons (Sn.pure rfl) (SnL.cons (Sn.pure rfl) SnL.nil)) (fiducialref01_group_ok n v63 (b.length : Int) v65 hc66)), (List.forall_mem_cons.2 ⟨(callOk_val (l := []) (args' := [sU32 v63, aI64 (wrapF .i64 ((b.length : Int) - 1))]) rfl (SnL.cons (Sn.pure rfl) (SnL.cons (Sn.pure rfl) SnL.nil)) (fiducialref01_group_ok n v63 (wrapF .i64 ((b.length : Int) - 1)) v67 hc68)), ce0⟩)⟩)) ?_
     refine EVT.p1 (sU32 v63) ?_
     refine EVT.p1 (aI64 (b.length : Int)) ?_
     refine EVT.cal (by kernel_rfl) (by kernel_rfl) (callOf_at (by kernel_rfl)) (by kernel_rfl) ?_
     refine EVT.p1 (aU64 (wrapF .u64 (v65 * 1000000000))) ?_
     refine EVT.p1 (sU32 v63) ?_
     refine EVT.p1 (aI64 (b.length : Int)) ?_
     refine EVT.p1 (aI64 (wrapF .i64 ((b.length : Int) - 1))) ?_
     refine EVT.cal (by kernel_rfl) (by kernel_rfl) (callOf_skip (fun _ h => by obtain ⟨e0, e1⟩ := fiducialref01_group_inj h; rw [show v67 = v65 from Option.some.inj (hc68.symm.trans ((show fiducialref01_group n v63 (wrapF .i64 ((b.length : Int) - 1)) = fiducialref01_group n v63 (b.length : Int) from (congr (congr rfl e0) e1)).trans hc66))]) (callOf_at (by kernel_rfl))) (by kernel_rfl) ?_
     refine EVT.p1 (aU64 (wrapF .u64 ((wrapF .u64 (v65 * 1000000000)) + v67))) ?_
     refine EVT.p1 (sU32 v14) ?_
     refine EVT.p1 (aI64 (b.length : Int)) ?_
     refine EVT.p1 (aI64 (wrapF .i64 ((b.length : Int) - 1))) ?_
     refine EVT.pure (v := .pp (v14.flatMap (iC .u32)) ((wrapF .i64 ((b.length : Int) - 1)).toNat * 1)) (by kernel_rfl) (Eq.trans (b := ORes.ofP (guardV (inR (wrapF .i64 ((b.length : Int) - 1)) v14.length) (.pp (v14.flatMap (iC .u32)) ((wrapF .i64 ((b.length : Int) - 1)).toNat * 1)))) (by kernel_rfl) (ofP_guard hg69)) (by kernel_rfl) ?_
     refine EVT.pure (v := aU32 (gt v14 (wrapF .i64 ((b.length : Int) - 1)))) (by kernel_rfl) (Eq.trans (b := ORes.ofP ((v14.flatMap (iC .u32))[(wrapF .i64 ((b.length : Int) - 1)).toNat * 1]?)) (by kernel_rfl) (ofP_some (flat_get (iC_len _) (inR_lt hg69) (by decide : 0 < 1) (by omega : (wrapF .i64 ((b.length : Int) - 1)).toNat * 1 = (wrapF .i64 ((b.length : Int) - 1)).toNat * 1 + 0) (by kernel_rfl)))) (by kernel_rfl) ?_
     refine EVT.p1 (aU64 (wrapF .u64 (gt v14 (wrapF .i64 ((b.length : Int) - 1))))) ?_
     refine EVT.p1 (aU64 (wrapF .u64 ((wrapF .u64 (gt v14 (wrapF .i64 ((b.length : Int) - 1)))) + 1))) ?_
     refine EVT.pure (v := aU64 (wrapF .u64 ((wrapF .u64 ((wrapF .u64 (v65 * 1000000000)) + v67)).tdiv (wrapF .u64 ((wrapF .u64 (gt v14 (wrapF .i64 ((b.length : Int) - 1)))) + 1))))) (by kernel_rfl) (op_quo (x := wrapF .u64 ((wrapF .u64 (v65 * 1000000000)) + v67)) (y := wrapF .u64 ((wrapF .u64 (gt v14 (wrapF .i64 ((b.length : Int) - 1)))) + 1)) (by kernel_rfl) (by kernel_rfl) hg70) (by kernel_rfl) ?_
     refine EVT.p1 (aU64 (wrapF .u64 ((wrapF .u64 ((wrapF .u64 (v65 * 1000000000)) + v67)).tdiv (wrapF .u64 ((wrapF .u64 (gt v14 (wrapF .i64 ((b.length : Int) - 1)))) + 1))))) ?_
     refine EVT.done ⟨by kernel_rfl, ?_⟩
     refine CQ.n1 [0, 1, 6, 9, 10, 11, 12, 13] (mkS 130 0 [(0, sU32 v12), (1, sU32 v14), (6, aI64 (b.length : Int)), (9, aU64 (wrapF .u64 ((1000000000 : Int).tdiv (wrapF .u64 ((wrapF .u64 (gt b (wrapF .i64 ((b.length : Int) - 1)))) + 1))))), (10, sU32 v63), (11, .hs 0 0 q_23.length 1), (12, aI64 i_24), (13, aU64 (wrapF .u64 ((wrapF .u64 ((wrapF .u64 (v65 * 1000000000)) + v67)).tdiv (wrapF .u64 ((wrapF .u64 (gt v14 (wrapF .i64 ((b.length : Int) - 1)))) + 1)))))]) [.own (q_23.flatMap (iC .u32))] ?_
     refine CQ.seq ?_
     replace hr := bd hr; obtain ⟨v71, hc72, hr⟩ := hr
     replace hr := bd hr; obtain ⟨v73, hc74, hr⟩ := hr
     refine CQ.region fine (callOf_ok [{ f := 181, args := [sU32 v14, aU64 (wrapF .u64 ((wrapF .u64 ((wrapF .u64 (v65 * 1000000000)) + v67)).tdiv (wrapF .u64 ((wrapF .u64 (gt v14 (wrapF .i64 ((b.length : Int) - 1)))) + 1))))], H := [.own (q_23.flatMap (iC .u32))], r := .loc (sU32 v71) [] [] 0 : CE }, { f := 145, args := [sU32 v63, sU32 v71], H := [.own (q_23.flatMap (iC .u32))], r := .loc (sU32 v73) [] [] 0 : CE }] (List.forall_mem_cons.2 ⟨(callOk_ref (l := []) (args' := [sU32 v14, aU64 (wrapF .u64 ((wrapF .u64 ((wrapF .u64 (v65 * 1000000000)) + v67)).tdiv (wrapF .u64 ((wrapF .u64 (gt v14 (wrapF .i64 ((b.length : Int) - 1)))) + 1))))]) (SnL.cons (Sn.pure rfl) (SnL.cons (Sn.pure rfl) SnL.nil)) (fiducialref01_scaled_ok n v14 (wrapF .u64 ((wrapF .u64 ((wrapF .u64 (v65 * 1000000000)) + v67)).tdiv (wrapF .u64 ((wrapF .u64 (gt v14 (wrapF .i64 ((b.length : Int) - 1)))) + 1)))) v71 hc72)), (List.forall_mem_cons.2 ⟨(callOk_ref (l := []) (args' := [sU32 v63, sU32 v71]) (SnL.cons (Sn.pure rfl) (SnL.cons (Sn.pure rfl) SnL.nil)) (fiducialref01_minus_ok n v63 v71 v73 hc74)), ce0⟩)⟩)) ?_
     refine EVO.p1 (sU32 v63) ?_
     refine EVO.p1 (sU32 v14) ?_
     refine EVO.p1 (aU64 (wrapF .u64 ((wrapF .u64 ((wrapF .u64 (v65 * 1000000000)) + v67)).tdiv (wrapF .u64 ((wrapF .u64 (gt v14 (wrapF .i64 ((b.length : Int) - 1)))) + 1))))) ?_
     refine EVO.c0 (by kernel_rfl) (callOf_at (by kernel_rfl)) ?_
     refine EVO.c0 (by kernel_rfl) (callOf_skip (fun h _ => absurd (show (145 : Nat) = 181 from h) (by decide)) (callOf_at (by kernel_rfl))) ?_
     refine EVO.p1 (sU32 v73) ?_
     refine EVO.done ?_
     refine CQ.n1 [0, 1, 6, 9, 10, 11, 12, 13] (mkS 130 0 [(0, sU32 v12), (1, sU32 v14), (6, aI64 (b.length : Int)), (9, aU64 (wrapF .u64 ((1000000000 : Int).tdiv (wrapF .u64 ((wrapF .u64 (gt b (wrapF .i64 ((b.length : Int) - 1)))) + 1))))), (10, sU32 v73), (11, .hs 0 0 q_23.length 1), (12, aI64 i_24), (13, aU64 (wrapF .u64 ((wrapF .u64 ((wrapF .u64 (v65 * 1000000000)) + v67)).tdiv (wrapF .u64 ((wrapF .u64 (gt v14 (wrapF .i64 ((b.length : Int) - 1)))) + 1)))))]) [.own (q_23.flatMap (iC .u32))] ?_
     refine CQ.seq ?_
     refine CQ.block ?_
     replace hr := bd hr; obtain ⟨o90, hL91, hr⟩ := hr
     refine CQ.loopO (σ := fun z0 => match z0 with | (rest_75, guess_76) => ⟨mkS 130 0 [(0, sU32 v12), (1, sU32 v14), (6, aI64 (b.length : Int)), (9, aU64 (wrapF .u64 ((1000000000 : Int).tdiv (wrapF .u64 ((wrapF .u64 (gt b (wrapF .i64 ((b.length : Int) - 1)))) + 1))))), (10, sU32 rest_75), (11, .hs 0 0 q_23.length 1), (12, aI64 i_24), (13, aU64 guess_76)], [.own (q_23.flatMap (iC .u32))]⟩) (Q := fun x st' => match (generalizing := false) o90 with | (rest_82, guess_83) => x = .exit 2 ∧ Wk 0 st' ⟨mkS 130 0 [(0, sU32 v12), (1, sU32 v14), (6, aI64 (b.length : Int)), (9, aU64 (wrapF .u64 ((1000000000 : Int).tdiv (wrapF .u64 ((wrapF .u64 (gt b (wrapF .i64 ((b.length : Int) - 1)))) + 1))))), (10, sU32 rest_82), (11, .hs 0 0 q_23.length 1), (12, aI64 i_24), (13, aU64 guess_83)], [.own (q_23.flatMap (iC .u32))]⟩) hL91 ((Wk.gc [0, 1, 6, 9, 10, 11, 12, 13] [(0, false)] rfl (by exact ⟨ids_flat (iC_pure _) _, trivial⟩)).to (by kernel_rfl)) ?_ ?_
     ·clear hr
      rintro m ⟨rest_75, guess_76⟩ hr
      show CQ _ _ _ _ _ ⟨_, _⟩
      refine CQ.seq ?_
      refine CQ.seq ?_
      replace hr := bd hr; obtain ⟨v85, hc86, hr⟩ := hr
      refine CQ.region fine (callOf_1 144 [sU32 rest_75, sU32 v14] [.own (q_23.flatMap (iC .u32))] (.loc (aI64 v85) [] [] 0) (callOk_val (l := []) (args' := [sU32 rest_75, sU32 v14]) rfl (SnL.cons (Sn.pure rfl) (SnL.cons (Sn.pure rfl) SnL.nil)) (fiducialref01_size_ok n rest_75 v14 v85 hc86))) ?_
      refine EVO.p1 (sU32 rest_75) ?_
      refine EVO.p1 (sU32 v14) ?_
      refine EVO.c0 (by kernel_rfl) (callOf_at (by kernel_rfl)) ?_
      refine EVO.p1 (aB (decide (v85 ≥ 0))) ?_
      refine EVO.done ?_
      refine CQ.n1 [0, 1, 6, 9, 10, 11, 12, 13, 109] (mkS 130 0 [(0, sU32 v12), (1, sU32 v14), (6, aI64 (b.length : Int)), (9, aU64 (wrapF .u64 ((1000000000 : Int).tdiv (wrapF .u64 ((wrapF .u64 (gt b (wrapF .i64 ((b.length : Int) - 1)))) + 1))))), (10, sU32 rest_75), (11, .hs 0 0 q_23.length 1), (12, aI64 i_24), (13, aU64 guess_76), (109, aB (decide (v85 ≥ 0)))]) [.own (q_23.flatMap (iC .u32))] ?_
      refine CQ.cond (t := decide (v85 ≥ 0)) (by kernel_rfl) (fun hb87 => ?_) (fun hb87 => ?_)
      ·replace hr := cd_t hb87 hr
       refine CQ.skip ?_
       refine CQ.block ?_
       refine CQ.seq ?_
       replace hr := bd hr; obtain ⟨v88, hc89, hr⟩ := hr
       refine CQ.region fine (callOf_1 145 [sU32 rest_75, sU32 v14] [.own (q_23.flatMap (iC .u32))] (.loc (sU32 v88) [] [] 0) (callOk_ref (l := []) (args' := [sU32 rest_75, sU32 v14]) (SnL.cons (Sn.pure rfl) (SnL.cons (Sn.pure rfl) SnL.nil)) (fiducialref01_minus_ok n rest_75 v14 v88 hc89))) ?_
       refine EVO.p1 (sU32 rest_75) ?_
       refine EVO.p1 (sU32 v14) ?_
       refine EVO.c0 (by kernel_rfl) (callOf_at (by kernel_rfl)) ?_
       refine EVO.p1 (sU32 v88) ?_
       refine EVO.done ?_
       refine CQ.n1 [0, 1, 6, 9, 10, 11, 12, 13] (mkS 130 0 [(0, sU32 v12), (1, sU32 v14), (6, aI64 (b.length : Int)), (9, aU64 (wrapF .u64 ((1000000000 : Int).tdiv (wrapF .u64 ((wrapF .u64 (gt b (wrapF .i64 ((b.length : Int) - 1)))) + 1))))), (10, sU32 v88), (11, .hs 0 0 q_23.length 1), (12, aI64 i_24), (13, aU64 guess_76)]) [.own (q_23.flatMap (iC .u32))] ?_
       refine CQ.r0 fine ?_
       refine EVO.p1 (aU64 guess_76) ?_
       refine EVO.p1 (aU64 (wrapF .u64 (guess_76 + 1))) ?_
       refine EVO.p1 (aU64 (wrapF .u64 (guess_76 + 1))) ?_
       refine EVO.done ?_
       refine CQ.pop ?_
       exact loopF_back (v88, wrapF .u64 (guess_76 + 1)) hr ((Wk.gc [0, 1, 6, 9, 10, 11, 12, 13] [(0, false)] rfl (by exact ⟨ids_flat (iC_pure _) _, trivial⟩)).to (by kernel_rfl))
      ·replace hr := cd_f hb87 hr
       refine CQ.leave rfl ?_
       obtain rfl := Option.some.inj hr
       exact ⟨rfl, ((Wk.gc [0, 1, 6, 9, 10, 11, 12, 13] [(0, false)] rfl (by exact ⟨ids_flat (iC_pure _) _, trivial⟩)).to (by kernel_rfl))⟩
     ·rcases o90 with ⟨rest_82, guess_83⟩
      rintro x st' hq92
      clear hL91
      obtain ⟨rfl, hq92⟩ := hq92
      refine CQ_exit _ rfl ?_
      refine CQ.wk hq92 ?_
      replace hr := gd hr; obtain ⟨hg93, hr⟩ := hr
      refine CQ.r0 fine ?_
      refine EVO.p1 (.hs 0 0 q_23.length 1) ?_
      refine EVO.p1 (aI64 i_24) ?_
      refine EVO.p1 (aU64 guess_83) ?_
      refine EVO.p1 (aU32 (wrapF .u32 guess_83)) ?_
      refine EVO.p0 (v := .hp 0 (0 + i_24.toNat * 1)) (Eq.trans (b := ORes.ofP (guardV (inR i_24 q_23.length) (.hp 0 (0 + i_24.toNat * 1)))) (by kernel_rfl) (ofP_guard hg93)) ?_
      refine EVO.e0 (v := .unk) (ws := [(0, .own ((q_23.set i_24.toNat (wrapF .u32 guess_83)).flatMap (iC .u32)))]) (Eq.trans (b := stO (decide ((0 + i_24.toNat * 1) + 1 ≤ (q_23.flatMap (iC .u32)).length) && true) [(0, .own (setCells (q_23.flatMap (iC .u32)) (0 + i_24.toNat * 1) [aU32 (wrapF .u32 guess_83)]))]) (by kernel_rfl) (stO_t (and_t (flat_fits (iC_len _) (inR_lt hg93) (Nat.le_of_ble_eq_true rfl) (by omega : 0 + i_24.toNat * 1 = i_24.toNat * 1 + 0))) (congrArg Blk.own (flat_set (iC_len _) (inR_lt hg93) (Nat.le_of_ble_eq_true rfl) (by omega : 0 + i_24.toNat * 1 = i_24.toNat * 1 + 0) (by kernel_rfl))))) ?_
      refine EVO.done ?_
      refine CQ.pop ?_
      refine CQ.r0 fine ?_
      refine EVO.p1 (aI64 i_24) ?_
      refine EVO.p1 (aI64 (wrapF .i64 (i_24 - 1))) ?_
      refine EVO.p1 (aI64 (wrapF .i64 (i_24 - 1))) ?_
      refine EVO.done ?_
      exact loopF_back (rest_82, q_23.set i_24.toNat (wrapF .u32 guess_83), wrapF .i64 (i_24 - 1)) hr ((Wk.relen 11 (b := 0) (es := 1) (len := q_23.length) (q_23.set i_24.toNat (wrapF .u32 guess_83)).length (by kernel_rfl) (by simp)).trans ((Wk.gc [0, 1, 6, 9, 10, 11, 12] [(0, false)] rfl (by exact ⟨ids_flat (iC_pure _) _, trivial⟩)).to (by kernel_rfl)))
    ·replace hr := cd_f hb61 hr
     refine CQ.leave rfl ?_
     obtain rfl := Option.some.inj hr
     exact ⟨rfl, ((Wk.gc [9, 10, 11] [(0, false)] rfl (by exact ⟨ids_flat (iC_pure _) _, trivial⟩)).to (by kernel_rfl))⟩
   ·rcases o94 with ⟨rest_58, q_59⟩
    rintro x st' hq96
    clear hL95
    obtain ⟨rfl, hq96⟩ := hq96
    refine CQ_exit _ rfl ?_
    refine CQ.wk hq96 ?_
    refine CQ.seq ?_
    replace hr := bd hr; obtain ⟨v97, hc98, hr⟩ := hr
    refine CQ.region fine (callOf_1 180 [sU32 rest_58, aU64 (wrapF .u64 ((1000000000 : Int).tdiv (wrapF .u64 ((wrapF .u64 (gt b (wrapF .i64 ((b.length : Int) - 1)))) + 1))))] [.own (q_59.flatMap (iC .u32))] (.loc (.tup [sU32 v97.1, aU64 v97.2]) [] [] 0) (callOk_ref (l := []) (args' := [sU32 rest_58, aU64 (wrapF .u64 ((1000000000 : Int).tdiv (wrapF .u64 ((wrapF .u64 (gt b (wrapF .i64 ((b.length : Int) - 1)))) + 1))))]) (SnL.cons (Sn.pure rfl) (SnL.cons (Sn.pure rfl) SnL.nil)) (fiducialref01_short_ok n rest_58 (wrapF .u64 ((1000000000 : Int).tdiv (wrapF .u64 ((wrapF .u64 (gt b (wrapF .i64 ((b.length : Int) - 1)))) + 1)))) v97 hc98))) ?_
    refine EVO.p1 (sU32 rest_58) ?_
    refine EVO.p1 (aU64 (wrapF .u64 ((1000000000 : Int).tdiv (wrapF .u64 ((wrapF .u64 (gt b (wrapF .i64 ((b.length : Int) - 1)))) + 1))))) ?_
    refine EVO.c0 (by kernel_rfl) (callOf_at (by kernel_rfl)) ?_
    refine EVO.p1 (.tup [sU32 v97.1, aU64 v97.2]) ?_
    refine EVO.p1 (sU32 v97.1) ?_
    refine EVO.p1 (aU64 v97.2) ?_
    refine EVO.p1 (sU32 v97.1) ?_
    refine EVO.p1 (aU64 v97.2) ?_
    refine EVO.done ?_
    refine CQ.n1 [11, 14] (mkS 130 0 [(11, .hs 0 0 q_59.length 1), (14, sU32 v97.1)]) [.own (q_59.flatMap (iC .u32))] ?_
    refine CQ.seq ?_
    replace hr := bd hr; obtain ⟨v99, hc100, hr⟩ := hr
    refine CQ.region fine (callOf_1 139 [aB false, .hs 0 0 q_59.length 1] [.own (q_59.flatMap (iC .u32))] (.loc (.agg (api_Int.c v99)) [(0, .fix (q_59.flatMap (iC .u32)))] [0] 0) (callOk_ref (l := [0]) (args' := [aB false, sU32 q_59]) (SnL.cons (Sn.pure rfl) (SnL.cons (Sn.hs rfl (.inl rfl) (SnC.pure (ids_flat (iC_pure _) _)) (fun h => flat_nil0 h)) SnL.nil)) (fiducialref01_made_ok n false q_59 v99 hc100))) ?_
    refine EVO.p1 (.hs 0 0 q_59.length 1) ?_
    refine EVO.c0 (by kernel_rfl) (callOf_at (by kernel_rfl)) ?_
    refine EVO.p1 (sU32 v99.Groups) ?_
    refine EVO.p1 (sU32 v97.1) ?_
    refine EVO.p1 (sU32 v99.Groups) ?_
    refine EVO.p1 (sU32 v97.1) ?_
    refine EVO.done ?_
    refine CQ.ret ?_
    obtain rfl := Option.some.inj hr
    exact FinQ.ret (vs := [sU32 v99.Groups, sU32 v97.1]) (by kernel_rfl) (Sn.tup (SnL.cons (Sn.pure rfl) (SnL.cons (Sn.pure rfl) SnL.nil)))

theorem fiducialref01_pair_inj {a : List Int} {a_ : List Int} (h : ([slT (iC .u32) a] : List AV) = [slT (iC .u32) a_]) : a = a_ := by
 simp only [List.cons.injEq, AV.agg.injEq, AV.at.injEq, Value.int.injEq, Value.bool.injEq, AV.fn.injEq, AV.pp.injEq, true_and, and_true, slT_inj_int] at h
 simp_all
theorem fiducialref01_pair_ok (n : Nat) (a : List Int) (r : Int) (hr : fiducialref01_pair n a = some r) : FnOk Tryz.prog 142 [slT (iC .u32) a] (.at (.int .u64 r)) := by
 unfold fiducialref01_pair at hr
 refine FnOk.body fine Tryz.func142 (c := (Tryz.f142.body).getD .skip) rfl (s := mkS 9 0 [(0, sU32 a)]) (by kernel_rfl) (rs := [.tmp 2]) rfl ?_
 unfold Tryz.f142
 simp only [Option.getD_some]
 refine CQ.seq ?_
 refine CQ.r0 fine ?_
 refine EVO.p1 (aU64 0) ?_
 refine EVO.done ?_
 refine CQ.n1 [0] (mkS 9 0 [(0, sU32 a)]) [] ?_
 refine CQ.seq ?_
 replace hr := bd hr; obtain ⟨v1, hc2, hr⟩ := hr
 replace hr := bd hr; obtain ⟨v3, hc4, hr⟩ := hr
 refine CQ.region fine (callOf_ok [{ f := 183, args := [sU32 a, aI64 1], H := [], r := .loc (aU64 v1) [] [] 0 : CE }, { f := 183, args := [sU32 a, aI64 0], H := [], r := .loc (aU64 v3) [] [] 0 : CE }] (List.forall_mem_cons.2 ⟨(callOk_val (l := []) (args' := [sU32 a, aI64 1]) rfl (SnL.cons (Sn.pure rfl) (SnL.cons (Sn.pure rfl) SnL.nil)) (fiducialref01_group_ok n a 1 v1 hc2)), (List.forall_mem_cons.2 ⟨(callOk_val (l := []) (args' := [sU32 a, aI64 0]) rfl (SnL.cons (Sn.pure rfl) (SnL.cons (Sn.pure rfl) SnL.nil)) (fiducialref01_group_ok n a 0 v3 hc4)), ce0⟩)⟩)) ?_
 refine EVO.p1 (sU32 a) ?_
 refine EVO.c0 (by kernel_rfl) (callOf_at (by kernel_rfl)) ?_
 refine EVO.p1 (aU64 (wrapF .u64 (v1 * 1000000000))) ?_
 refine EVO.p1 (sU32 a) ?_
 refine EVO.c0 (by kernel_rfl) (callOf_skip (fun _ h => by obtain ⟨e0, e1⟩ := fiducialref01_group_inj h; rw [show v3 = v1 from Option.some.inj (hc4.symm.trans ((show fiducialref01_group n a 0 = fiducialref01_group n a 1 from (congr (congr rfl e0) e1)).trans hc2))]) (callOf_at (by kernel_rfl))) ?_
 refine EVO.p1 (aU64 (wrapF .u64 ((wrapF .u64 (v1 * 1000000000)) + v3))) ?_
 refine EVO.p1 (aU64 (wrapF .u64 ((wrapF .u64 (v1 * 1000000000)) + v3))) ?_
 refine EVO.done ?_
 refine CQ.ret ?_
 obtain rfl := Option.some.inj hr
 exact FinQ.r1 [aU64 (wrapF .u64 ((wrapF .u64 (v1 * 1000000000)) + v3))]

theorem fiducialref01_Gcd_ok (n : Nat) (x' : api_Int) (y : api_Int) (r : api_Int) (hr : fiducialref01_Gcd n x' y = some r) : FnOk Tryz.prog 106 [.agg [.at (.bool x'.Negative), slT (iC .u32) x'.Groups], .agg [.at (.bool y.Negative), slT (iC .u32) y.Groups]] (.agg [.at (.bool r.Negative), slT (iC .u32) r.Groups]) := by
 unfold fiducialref01_Gcd at hr
 refine FnOk.body fine Tryz.func106 (c := (Tryz.f106.body).getD .skip) rfl (s := mkS 61 0 [(0, .agg (api_Int.c x')), (1, .agg (api_Int.c y))]) (by kernel_rfl) (rs := [.cell 4 37]) rfl ?_
 unfold Tryz.f106
 simp only [Option.getD_some]
 refine CQ.seq ?_
 refine CQ.r0 fine ?_
 refine EVO.e1 (.hp 0 0) [(0, .own (api_Int.c x'))] ?_
 refine EVO.e1 (.hp 1 0) [(1, .own (api_Int.c y))] ?_
 refine EVO.e1 (.hp 2 0) [(2, .own [aB false, .at (.slice none 0 0)])] ?_
 refine EVO.done ?_
 refine CQ.n1 [2, 3, 4] (mkS 61 0 [(2, .hp 0 0), (3, .hp 1 0), (4, .hp 2 0)]) [.own (api_Int.c x'), .own (api_Int.c y), .own [aB false, .at (.slice none 0 0)]] ?_
 refine CQ.seq ?_
 replace hr := bd hr; obtain ⟨v1, hc2, hr⟩ := hr
 replace hr := bd hr; obtain ⟨v3, hc4, hr⟩ := hr
 refine CQ.regionT fine (callOf_ok [{ f := 136, args := [.agg (api_Int.c x')], H := [.own (api_Int.c x'), .own (api_Int.c y), .own [aB false, .at (.slice none 0 0)]], r := .loc (.agg (api_Int.c v1)) [] [] 0 : CE }, { f := 136, args := [.agg (api_Int.c y)], H := [.own (api_Int.c x'), .own (api_Int.c y), .own [aB false, .at (.slice none 0 0)]], r := .loc (.agg (api_Int.c v3)) [] [] 0 : CE }] (List.forall_mem_cons.2 ⟨(callOk_ref (l := []) (args' := [.agg (api_Int.c x')]) (SnL.cons (Sn.pure rfl) SnL.nil) (fiducialref01_Value_ok n x' v1 hc2)), (List.forall_mem_cons.2 ⟨(callOk_ref (l := []) (args' := [.agg (api_Int.c y)]) (SnL.cons (Sn.pure rfl) SnL.nil) (fiducialref01_Value_ok n y v3 hc4)), ce0⟩)⟩)) ?_
 refine EVT.p1 (.agg (api_Int.c x')) ?_
 refine EVT.cal (by kernel_rfl) (by kernel_rfl) (callOf_at (by kernel_rfl)) (by kernel_rfl) ?_
 refine EVT.p1 (sU32 v1.Groups) ?_
 refine EVT.p1 (.agg (api_Int.c y)) ?_
 refine EVT.cal (by kernel_rfl) (by kernel_rfl) (callOf_skip (fun _ h => by obtain e0 := fiducialref01_Value_inj h; rw [show v3 = v1 from Option.some.inj (hc4.symm.trans ((show fiducialref01_Value n y = fiducialref01_Value n x' from (congr rfl e0)).trans hc2))]) (callOf_at (by kernel_rfl))) (by kernel_rfl) ?_
 refine EVT.p1 (sU32 v3.Groups) ?_
 refine EVT.p1 (sU32 v1.Groups) ?_
 refine EVT.p1 (sU32 v3.Groups) ?_
 refine EVT.done ⟨by kernel_rfl, ?_⟩
 refine CQ.n1 [4, 5, 6] (mkS 61 0 [(4, .hp 2 0), (5, sU32 v1.Groups), (6, sU32 v3.Groups)]) [.own (api_Int.c x'), .own (api_Int.c y), .own [aB false, .at (.slice none 0 0)]] ?_
 refine CQ.seq ?_
 refine CQ.block ?_
 replace hr := bd hr; obtain ⟨o24, hL25, hr⟩ := hr
 refine CQ.loopO (σ := fun z0 => match z0 with | (a_5, b_6) => ⟨mkS 61 0 [(4, .hp 0 0), (5, sU32 a_5), (6, sU32 b_6)], [.own [aB false, .at (.slice none 0 0)]]⟩) (Q := fun x st' => match (generalizing := false) o24 with | (a_14, b_15) => x = .exit 0 ∧ Wk 0 st' ⟨mkS 61 0 [(4, .hp 0 0), (5, sU32 a_14), (6, sU32 b_15)], [.own [aB false, .at (.slice none 0 0)]]⟩) hL25 ((Wk.gc [4, 5, 6] [(2, true)] rfl trivial).to (by kernel_rfl)) ?_ ?_
 ·clear hr
  rintro m ⟨a_5, b_6⟩ hr
  show CQ _ _ _ _ _ ⟨_, _⟩
  refine CQ.seq ?_
  refine CQ.seq ?_
  rcases Bool.eq_false_or_eq_true (decide ((b_6.length : Int) > 0)) with hb17 | hb17
  ·replace hr := cd_t hb17 hr
   rcases Bool.eq_false_or_eq_true (decide ((a_5.length : Int) > 2)) with hb18 | hb18
   ·replace hr := cd_t hb18 hr
    refine CQ.r0 fine ?_
    refine EVO.p1 (sU32 b_6) ?_
    refine EVO.p1 (aI64 (b_6.length : Int)) ?_
    refine EVO.p0 (v := aB true) (Eq.trans (b := some (.pure (aB (decide ((b_6.length : Int) > 0))))) (by kernel_rfl) (by rw [hb17])) ?_
    refine EVO.p1 (aB true) ?_
    refine EVO.q1 (sU32 a_5) ?_
    refine EVO.q1 (aI64 (a_5.length : Int)) ?_
    refine EVO.pure (v := aB true) (by kernel_rfl) (Eq.trans (b := some (.pure (aB (decide ((a_5.length : Int) > 2))))) (by kernel_rfl) (by rw [hb18])) ?_
    refine EVO.q1 (aB true) ?_
    refine EVO.s1 ?_
    refine EVO.s1 ?_
    refine EVO.s1 ?_
    refine EVO.q1 (aB true) ?_
    refine EVO.p1 (aB true) ?_
    refine EVO.done ?_
    refine CQ.n1 [4, 5, 6, 29] (mkS 61 0 [(4, .hp 0 0), (5, sU32 a_5), (6, sU32 b_6), (29, aB true)]) [.own [aB false, .at (.slice none 0 0)]] ?_
    refine CQ.cT (by kernel_rfl) ?_
    refine CQ.skip ?_
    refine CQ.block ?_
    refine CQ.seq ?_
    replace hr := bd hr; obtain ⟨v19, hc20, hr⟩ := hr
    refine CQ.region fine (callOf_1 141 [sU32 a_5, sU32 b_6] [.own [aB false, .at (.slice none 0 0)]] (.loc (.tup [sU32 v19.1, sU32 v19.2]) [] [] 0) (callOk_ref (l := []) (args' := [sU32 a_5, sU32 b_6]) (SnL.cons (Sn.pure rfl) (SnL.cons (Sn.pure rfl) SnL.nil)) (fiducialref01_parts_ok n a_5 b_6 v19 hc20))) ?_
    refine EVO.p1 (sU32 a_5) ?_
    refine EVO.p1 (sU32 b_6) ?_
    refine EVO.c0 (by kernel_rfl) (callOf_at (by kernel_rfl)) ?_
    refine EVO.p1 (.tup [sU32 v19.1, sU32 v19.2]) ?_
    refine EVO.p1 (sU32 v19.1) ?_
    refine EVO.p1 (sU32 v19.2) ?_
    refine EVO.p1 (sU32 v19.1) ?_
    refine EVO.p1 (sU32 v19.2) ?_
    refine EVO.done ?_
    refine CQ.n1 [4, 6, 8] (mkS 61 0 [(4, .hp 0 0), (6, sU32 b_6), (8, sU32 v19.2)]) [.own [aB false, .at (.slice none 0 0)]] ?_
    refine CQ.r0 fine ?_
    refine EVO.p1 (sU32 b_6) ?_
    refine EVO.p1 (sU32 v19.2) ?_
    refine EVO.p1 (sU32 b_6) ?_
    refine EVO.p1 (sU32 v19.2) ?_
    refine EVO.done ?_
    refine CQ.pop ?_
    exact loopF_back (b_6, v19.2) hr ((Wk.gc [4, 5, 6] [(0, true)] rfl trivial).to (by kernel_rfl))
   ·replace hr := cd_f hb18 hr
    refine CQ.r0 fine ?_
    refine EVO.p1 (sU32 b_6) ?_
    refine EVO.p1 (aI64 (b_6.length : Int)) ?_
    refine EVO.p0 (v := aB true) (Eq.trans (b := some (.pure (aB (decide ((b_6.length : Int) > 0))))) (by kernel_rfl) (by rw [hb17])) ?_
    refine EVO.p1 (aB true) ?_
    refine EVO.q1 (sU32 a_5) ?_
    refine EVO.q1 (aI64 (a_5.length : Int)) ?_
    refine EVO.pure (v := aB false) (by kernel_rfl) (Eq.trans (b := some (.pure (aB (decide ((a_5.length : Int) > 2))))) (by kernel_rfl) (by rw [hb18])) ?_
    refine EVO.q1 (aB false) ?_
    refine EVO.q1 (sU32 b_6) ?_
    refine EVO.q1 (aI64 (b_6.length : Int)) ?_
    refine EVO.q1 (aB (decide ((b_6.length : Int) > 2))) ?_
    refine EVO.q1 (aB (decide ((b_6.length : Int) > 2))) ?_
    refine EVO.p1 (aB (decide ((b_6.length : Int) > 2))) ?_
    refine EVO.done ?_
    refine CQ.n1 [4, 5, 6, 29] (mkS 61 0 [(4, .hp 0 0), (5, sU32 a_5), (6, sU32 b_6), (29, aB (decide ((b_6.length : Int) > 2)))]) [.own [aB false, .at (.slice none 0 0)]] ?_
    refine CQ.cond (t := decide ((b_6.length : Int) > 2)) (by kernel_rfl) (fun hb21 => ?_) (fun hb21 => ?_)
    ·replace hr := cd_t hb21 hr
     refine CQ.skip ?_
     refine CQ.block ?_
     refine CQ.seq ?_
     replace hr := bd hr; obtain ⟨v22, hc23, hr⟩ := hr
     refine CQ.region fine (callOf_1 141 [sU32 a_5, sU32 b_6] [.own [aB false, .at (.slice none 0 0)]] (.loc (.tup [sU32 v22.1, sU32 v22.2]) [] [] 0) (callOk_ref (l := []) (args' := [sU32 a_5, sU32 b_6]) (SnL.cons (Sn.pure rfl) (SnL.cons (Sn.pure rfl) SnL.nil)) (fiducialref01_parts_ok n a_5 b_6 v22 hc23))) ?_
     refine EVO.p1 (sU32 a_5) ?_
     refine EVO.p1 (sU32 b_6) ?_
     refine EVO.c0 (by kernel_rfl) (callOf_at (by kernel_rfl)) ?_
     refine EVO.p1 (.tup [sU32 v22.1, sU32 v22.2]) ?_
     refine EVO.p1 (sU32 v22.1) ?_
     refine EVO.p1 (sU32 v22.2) ?_
     refine EVO.p1 (sU32 v22.1) ?_
     refine EVO.p1 (sU32 v22.2) ?_
     refine EVO.done ?_
     refine CQ.n1 [4, 6, 8] (mkS 61 0 [(4, .hp 0 0), (6, sU32 b_6), (8, sU32 v22.2)]) [.own [aB false, .at (.slice none 0 0)]] ?_
     refine CQ.r0 fine ?_
     refine EVO.p1 (sU32 b_6) ?_
     refine EVO.p1 (sU32 v22.2) ?_
     refine EVO.p1 (sU32 b_6) ?_
     refine EVO.p1 (sU32 v22.2) ?_
     refine EVO.done ?_
     refine CQ.pop ?_
     exact loopF_back (b_6, v22.2) hr ((Wk.gc [4, 5, 6] [(0, true)] rfl trivial).to (by kernel_rfl))
    ·replace hr := cd_f hb21 hr
     refine CQ.leave rfl ?_
     obtain rfl := Option.some.inj hr
     exact ⟨rfl, ((Wk.gc [4, 5, 6] [(0, true)] rfl trivial).to (by kernel_rfl))⟩
  ·replace hr := cd_f hb17 hr
   refine CQ.r0 fine ?_
   refine EVO.p1 (sU32 b_6) ?_
   refine EVO.p1 (aI64 (b_6.length : Int)) ?_
   refine EVO.p0 (v := aB false) (Eq.trans (b := some (.pure (aB (decide ((b_6.length : Int) > 0))))) (by kernel_rfl) (by rw [hb17])) ?_
   refine EVO.p1 (aB false) ?_
   refine EVO.s1 ?_
   refine EVO.s1 ?_
   refine EVO.s1 ?_
   refine EVO.s1 ?_
   refine EVO.s1 ?_
   refine EVO.s1 ?_
   refine EVO.s1 ?_
   refine EVO.s1 ?_
   refine EVO.p1 (aB false) ?_
   refine EVO.done ?_
   refine CQ.n1 [4, 5, 6, 29] (mkS 61 0 [(4, .hp 0 0), (5, sU32 a_5), (6, sU32 b_6), (29, aB false)]) [.own [aB false, .at (.slice none 0 0)]] ?_
   refine CQ.cF (by kernel_rfl) ?_
   refine CQ.leave rfl ?_
   obtain rfl := Option.some.inj hr
   exact ⟨rfl, ((Wk.gc [4, 5, 6] [(0, true)] rfl trivial).to (by kernel_rfl))⟩
 ·rcases o24 with ⟨a_14, b_15⟩
  rintro x st' hq26
  clear hL25
  obtain ⟨rfl, hq26⟩ := hq26
  refine CQ_exit _ rfl ?_
  refine CQ.wk hq26 ?_
  refine CQ.seq ?_
  refine CQ.seq ?_
  refine CQ.r0 fine ?_
  refine EVO.p1 (sU32 b_15) ?_
  refine EVO.p1 (aI64 (b_15.length : Int)) ?_
  refine EVO.p1 (aB (((b_15.length : Int) : Int) == 0)) ?_
  refine EVO.done ?_
  refine CQ.n1 [4, 5, 6, 40] (mkS 61 0 [(4, .hp 0 0), (5, sU32 a_14), (6, sU32 b_15), (40, aB (((b_15.length : Int) : Int) == 0))]) [.own [aB false, .at (.slice none 0 0)]] ?_
  refine CQ.cond (t := ((b_15.length : Int) : Int) == 0) (by kernel_rfl) (fun hb27 => ?_) (fun hb27 => ?_)
  ·replace hr := cd_t hb27 hr
   refine CQ.seq ?_
   replace hr := bd hr; obtain ⟨v28, hc29, hr⟩ := hr
   refine CQ.region fine (callOf_1 139 [aB false, sU32 a_14] [.own [aB false, .at (.slice none 0 0)]] (.loc (.agg (api_Int.c v28)) [] [] 0) (callOk_ref (l := []) (args' := [aB false, sU32 a_14]) (SnL.cons (Sn.pure rfl) (SnL.cons (Sn.pure rfl) SnL.nil)) (fiducialref01_made_ok n false a_14 v28 hc29))) ?_
   refine EVO.p1 (sU32 a_14) ?_
   refine EVO.c0 (by kernel_rfl) (callOf_at (by kernel_rfl)) ?_
   refine EVO.e1 (.unk) [(0, .own (api_Int.c v28))] ?_
   refine EVO.done ?_
   refine CQ.ret ?_
   obtain rfl := Option.some.inj hr
   exact FinQ.r1 [.agg (api_Int.c v28)]
  ·replace hr := cd_f hb27 hr
   refine CQ.skip ?_
   refine CQ.seq ?_
   replace hr := bd hr; obtain ⟨v30, hc31, hr⟩ := hr
   replace hr := bd hr; obtain ⟨v32, hc33, hr⟩ := hr
   refine CQ.region fine (callOf_ok [{ f := 142, args := [sU32 a_14], H := [.own [aB false, .at (.slice none 0 0)]], r := .loc (aU64 v30) [] [] 0 : CE }, { f := 142, args := [sU32 b_15], H := [.own [aB false, .at (.slice none 0 0)]], r := .loc (aU64 v32) [] [] 0 : CE }] (List.forall_mem_cons.2 ⟨(callOk_val (l := []) (args' := [sU32 a_14]) rfl (SnL.cons (Sn.pure rfl) SnL.nil) (fiducialref01_pair_ok n a_14 v30 hc31)), (List.forall_mem_cons.2 ⟨(callOk_val (l := []) (args' := [sU32 b_15]) rfl (SnL.cons (Sn.pure rfl) SnL.nil) (fiducialref01_pair_ok n b_15 v32 hc33)), ce0⟩)⟩)) ?_
   refine EVO.p1 (sU32 a_14) ?_
   refine EVO.c0 (by kernel_rfl) (callOf_at (by kernel_rfl)) ?_
   refine EVO.p1 (sU32 b_15) ?_
   refine EVO.c0 (by kernel_rfl) (callOf_skip (fun _ h => by obtain e0 := fiducialref01_pair_inj h; rw [show v32 = v30 from Option.some.inj (hc33.symm.trans ((show fiducialref01_pair n b_15 = fiducialref01_pair n a_14 from (congr rfl e0)).trans hc31))]) (callOf_at (by kernel_rfl))) ?_
   refine EVO.p1 (aU64 v30) ?_
   refine EVO.p1 (aU64 v32) ?_
   refine EVO.done ?_
   refine CQ.n1 [4, 9, 10] (mkS 61 0 [(4, .hp 0 0), (9, aU64 v30), (10, aU64 v32)]) [.own [aB false, .at (.slice none 0 0)]] ?_
   refine CQ.seq ?_
   refine CQ.block ?_
   replace hr := bd hr; obtain ⟨u_38, hL43, hr⟩ := hr
   refine CQ.loopO (σ := fun z0 => match z0 with | (u_34, v_35) => ⟨mkS 61 0 [(4, .hp 0 0), (9, aU64 u_34), (10, aU64 v_35)], [.own [aB false, .at (.slice none 0 0)]]⟩) (Q := fun x st' => x = .exit 2 ∧ Wk 0 st' ⟨mkS 61 0 [(4, .hp 0 0), (9, aU64 u_38)], [.own [aB false, .at (.slice none 0 0)]]⟩) hL43 ((Wk.gc [4, 9, 10] [(0, true)] rfl trivial).to (by kernel_rfl)) ?_ ?_
   ·clear hr
    rintro m ⟨u_34, v_35⟩ hr
    show CQ _ _ _ _ _ ⟨_, _⟩
    refine CQ.seq ?_
    refine CQ.seq ?_
    refine CQ.r0 fine ?_
    refine EVO.p1 (aU64 v_35) ?_
    refine EVO.p1 (aB (decide (v_35 > 0))) ?_
    refine EVO.done ?_
    refine CQ.n1 [4, 9, 10, 48] (mkS 61 0 [(4, .hp 0 0), (9, aU64 u_34), (10, aU64 v_35), (48, aB (decide (v_35 > 0)))]) [.own [aB false, .at (.slice none 0 0)]] ?_
    refine CQ.cond (t := decide (v_35 > 0)) (by kernel_rfl) (fun hb40 => ?_) (fun hb40 => ?_)
    ·replace hr := cd_t hb40 hr
     refine CQ.skip ?_
     refine CQ.block ?_
     replace hr := gd hr; obtain ⟨hg41, hr⟩ := hr
     refine CQ.regionT fine callOf_nil ?_
     refine EVT.p1 (aU64 v_35) ?_
     refine EVT.p1 (aU64 u_34) ?_
     refine EVT.p1 (aU64 v_35) ?_
     refine EVT.pure (v := aU64 (u_34.tmod v_35)) (by kernel_rfl) (op_rem (x := u_34) (y := v_35) (by kernel_rfl) (by kernel_rfl) hg41) (by kernel_rfl) ?_
     refine EVT.p1 (aU64 v_35) ?_
     refine EVT.p1 (aU64 (u_34.tmod v_35)) ?_
     refine EVT.done ⟨by kernel_rfl, ?_⟩
     refine CQ.pop ?_
     exact loopF_back (v_35, u_34.tmod v_35) hr ((Wk.gc [4, 9, 10] [(0, true)] rfl trivial).to (by kernel_rfl))
    ·replace hr := cd_f hb40 hr
     refine CQ.leave rfl ?_
     obtain rfl := Option.some.inj hr
     exact ⟨rfl, ((Wk.gc [4, 9] [(0, true)] rfl trivial).to (by kernel_rfl))⟩
   ·rintro x st' hq44
    clear hL43
    obtain ⟨rfl, hq44⟩ := hq44
    refine CQ_exit _ rfl ?_
    refine CQ.wk hq44 ?_
    refine CQ.seq ?_
    replace hr := bd hr; obtain ⟨v45, hc46, hr⟩ := hr
    refine CQ.region fine (callOf_1 139 [aB false, .hs 1 0 2 1] [.own [aB false, .at (.slice none 0 0)], .own [aU32 (wrapF .u32 (u_38.tmod 1000000000)), aU32 (wrapF .u32 (wrapF .u64 (u_38.tdiv 1000000000)))]] (.loc (.agg (api_Int.c v45)) [(1, .fix [aU32 (wrapF .u32 (u_38.tmod 1000000000)), aU32 (wrapF .u32 (wrapF .u64 (u_38.tdiv 1000000000)))])] [1] 0) (callOk_ref (l := [1]) (args' := [aB false, sU32 [(wrapF .u32 (u_38.tmod 1000000000)), (wrapF .u32 (wrapF .u64 (u_38.tdiv 1000000000)))]]) (SnL.cons (Sn.pure rfl) (SnL.cons (Sn.hs rfl (.inl rfl) (SnC.cons (Sn.pure rfl) (SnC.cons (Sn.pure rfl) SnC.nil)) (fun h => nomatch h)) SnL.nil)) (fiducialref01_made_ok n false [(wrapF .u32 (u_38.tmod 1000000000)), (wrapF .u32 (wrapF .u64 (u_38.tdiv 1000000000)))] v45 hc46))) ?_
    refine EVO.p1 (aU64 u_38) ?_
    refine EVO.p1 (aU64 (u_38.tmod 1000000000)) ?_
    refine EVO.p1 (aU32 (wrapF .u32 (u_38.tmod 1000000000))) ?_
    refine EVO.p1 (aU64 u_38) ?_
    refine EVO.p1 (aU64 (wrapF .u64 (u_38.tdiv 1000000000))) ?_
    refine EVO.p1 (aU32 (wrapF .u32 (wrapF .u64 (u_38.tdiv 1000000000)))) ?_
    refine EVO.e1 (.hs 1 0 2 1) [(1, .own [aU32 (wrapF .u32 (u_38.tmod 1000000000)), aU32 (wrapF .u32 (wrapF .u64 (u_38.tdiv 1000000000)))])] ?_
    refine EVO.c0 (by kernel_rfl) (callOf_at (by kernel_rfl)) ?_
    refine EVO.e1 (.unk) [(0, .own (api_Int.c v45))] ?_
    refine EVO.done ?_
    refine CQ.ret ?_
    obtain rfl := Option.some.inj hr
    exact FinQ.r1 [.agg (api_Int.c v45)]

theorem fiducialref01_Neg_ok (n : Nat) (x' : api_Int) (r : api_Int) (hr : fiducialref01_Neg n x' = some r) : FnOk Tryz.prog 137 [.agg [.at (.bool x'.Negative), slT (iC .u32) x'.Groups]] (.agg [.at (.bool r.Negative), slT (iC .u32) r.Groups]) := by
 unfold fiducialref01_Neg at hr
 refine FnOk.body fine Tryz.func137 (c := (Tryz.f137.body).getD .skip) rfl (s := mkS 11 0 [(0, .agg (api_Int.c x'))]) (by kernel_rfl) (rs := [.cell 2 37]) rfl ?_
 unfold Tryz.f137
 simp only [Option.getD_some]
 refine CQ.seq ?_
 refine CQ.r0 fine ?_
 refine EVO.e1 (.hp 0 0) [(0, .own (api_Int.c x'))] ?_
 refine EVO.e1 (.hp 1 0) [(1, .own [aB false, .at (.slice none 0 0)])] ?_
 refine EVO.done ?_
 refine CQ.n1 [1, 2] (mkS 11 0 [(1, .hp 0 0), (2, .hp 1 0)]) [.own (api_Int.c x'), .own [aB false, .at (.slice none 0 0)]] ?_
 refine CQ.seq ?_
 replace hr := bd hr; obtain ⟨v1, hc2, hr⟩ := hr
 refine CQ.region fine (callOf_1 136 [.agg (api_Int.c x')] [.own (api_Int.c x'), .own [aB false, .at (.slice none 0 0)]] (.loc (.agg (api_Int.c v1)) [] [] 0) (callOk_ref (l := []) (args' := [.agg (api_Int.c x')]) (SnL.cons (Sn.pure rfl) SnL.nil) (fiducialref01_Value_ok n x' v1 hc2))) ?_
 refine EVO.p1 (.agg (api_Int.c x')) ?_
 refine EVO.c0 (by kernel_rfl) (callOf_at (by kernel_rfl)) ?_
 refine EVO.e1 (.unk) [(0, .own (api_Int.c v1))] ?_
 refine EVO.done ?_
 refine CQ.n1 [1, 2] (mkS 11 0 [(1, .hp 0 0), (2, .hp 1 0)]) [.own (api_Int.c v1), .own [aB false, .at (.slice none 0 0)]] ?_
 refine CQ.seq ?_
 replace hr := bd hr; obtain ⟨v3, hc4, hr⟩ := hr
 refine CQ.region fine (callOf_1 139 [aB (!v1.Negative), sU32 v1.Groups] [.own (api_Int.c v1), .own [aB false, .at (.slice none 0 0)]] (.loc (.agg (api_Int.c v3)) [] [] 0) (callOk_ref (l := []) (args' := [aB (!v1.Negative), sU32 v1.Groups]) (SnL.cons (Sn.pure rfl) (SnL.cons (Sn.pure rfl) SnL.nil)) (fiducialref01_made_ok n (!v1.Negative) v1.Groups v3 hc4))) ?_
 refine EVO.p1 (.hp 0 0) ?_
 refine EVO.p1 (aB v1.Negative) ?_
 refine EVO.p1 (aB (!v1.Negative)) ?_
 refine EVO.p1 (.hp 0 1) ?_
 refine EVO.p1 (sU32 v1.Groups) ?_
 refine EVO.c0 (by kernel_rfl) (callOf_at (by kernel_rfl)) ?_
 refine EVO.e1 (.unk) [(1, .own (api_Int.c v3))] ?_
 refine EVO.done ?_
 refine CQ.ret ?_
 obtain rfl := Option.some.inj hr
 exact FinQ.r1 [.agg (api_Int.c v3)]

theorem fiducialref01_plus_ok (n : Nat) (a : List Int) (b : List Int) (r : List Int) (hr : fiducialref01_plus n a b = some r) : FnOk Tryz.prog 143 [slT (iC .u32) a, slT (iC .u32) b] (slT (iC .u32) r) := by
 unfold fiducialref01_plus at hr
 refine FnOk.body fine Tryz.func143 (c := (Tryz.f143.body).getD .skip) rfl (s := mkS 46 0 [(0, sU32 a), (1, sU32 b)]) (by kernel_rfl) (rs := [.tmp 4]) rfl ?_
 unfold Tryz.f143
 simp only [Option.getD_some]
 refine CQ.seq ?_
 refine CQ.r0 fine ?_
 refine EVO.p1 (.at (.slice none 0 0)) ?_
 refine EVO.done ?_
 refine CQ.n1 [0, 1] (mkS 46 0 [(0, sU32 a), (1, sU32 b)]) [] ?_
 refine CQ.seq ?_
 refine CQ.r0 fine ?_
 refine EVO.e1 (.hs 0 0 0 1) [(0, .own [])] ?_
 refine EVO.p1 (.hs 0 0 0 1) ?_
 refine EVO.done ?_
 refine CQ.n1 [0, 1, 5] (mkS 46 0 [(0, sU32 a), (1, sU32 b), (5, .hs 0 0 0 1)]) [.own []] ?_
 refine CQ.seq ?_
 refine CQ.r0 fine ?_
 refine EVO.p1 (aU64 0) ?_
 refine EVO.done ?_
 refine CQ.seq ?_
 refine CQ.seq ?_
 refine CQ.r0 fine ?_
 refine EVO.p1 (aI64 0) ?_
 refine EVO.done ?_
 refine CQ.block ?_
 replace hr := bd hr; obtain ⟨o35, hL36, hr⟩ := hr
 refine CQ.loopO (σ := fun z0 => match z0 with | (out_1, carry_2, i_3) => ⟨mkS 46 0 [(0, sU32 a), (1, sU32 b), (5, .hs 0 0 out_1.length 1), (6, aU64 carry_2), (7, aI64 i_3)], [.own (out_1.flatMap (iC .u32))]⟩) (Q := fun x st' => match (generalizing := false) o35 with | (out_18, carry_19) => x = .exit 0 ∧ Wk 0 st' ⟨mkS 46 0 [(5, .hs 0 0 out_18.length 1), (6, aU64 carry_19)], [.own (out_18.flatMap (iC .u32))]⟩) hL36 ((Wk.gc [0, 1, 5, 6, 7] [(0, false)] rfl (by exact ⟨rfl, trivial⟩)).to (by kernel_rfl)) ?_ ?_
 ·clear hr
  rintro m ⟨out_1, carry_2, i_3⟩ hr
  show CQ _ _ _ _ _ ⟨_, _⟩
  refine CQ.seq ?_
  refine CQ.seq ?_
  rcases Bool.eq_false_or_eq_true (decide (i_3 < (a.length : Int))) with hb21 | hb21
  ·replace hr := cd_t hb21 hr
   refine CQ.r0 fine ?_
   refine EVO.p1 (aI64 i_3) ?_
   refine EVO.p1 (sU32 a) ?_
   refine EVO.p1 (aI64 (a.length : Int)) ?_
   refine EVO.p0 (v := aB true) (Eq.trans (b := some (.pure (aB (decide (i_3 < (a.length : Int)))))) (by kernel_rfl) (by rw [hb21])) ?_
   refine EVO.p1 (aB true) ?_
   refine EVO.s1 ?_
   refine EVO.s1 ?_
   refine EVO.s1 ?_
   refine EVO.s1 ?_
   refine EVO.p1 (aB true) ?_
   refine EVO.done ?_
   refine CQ.n1 [0, 1, 5, 6, 7, 19] (mkS 46 0 [(0, sU32 a), (1, sU32 b), (5, .hs 0 0 out_1.length 1), (6, aU64 carry_2), (7, aI64 i_3), (19, aB true)]) [.own (out_1.flatMap (iC .u32))] ?_
   refine CQ.cT (by kernel_rfl) ?_
   refine CQ.skip ?_
   refine CQ.seq ?_
   refine CQ.block ?_
   refine CQ.seq ?_
   replace hr := bd hr; obtain ⟨v22, hc23, hr⟩ := hr
   replace hr := bd hr; obtain ⟨v24, hc25, hr⟩ := hr
   refine CQ.region fine (callOf_ok [{ f := 183, args := [sU32 a, aI64 i_3], H := [.own (out_1.flatMap (iC .u32))], r := .loc (aU64 v22) [] [] 0 : CE }, { f := 183, args := [sU32 b, aI64 i_3], H := [.own (out_1.flatMap (iC .u32))], r := .loc (aU64 v24) [] [] 0 : CE }] (List.forall_mem_cons.2 ⟨(callOk_val (l := []) (args' := [sU32 a, aI64 i_3]) rfl (SnL.cons (Sn.pure rfl) (SnL.cons (Sn.pure rfl) SnL.nil)) (fiducialref01_group_ok n a i_3 v22 hc23)), (List.forall_mem_cons.2 ⟨(callOk_val (l := []) (args' := [sU32 b, aI64 i_3]) rfl (SnL.cons (Sn.pure rfl) (SnL.cons (Sn.pure rfl) SnL.nil)) (fiducialref01_group_ok n b i_3 v24 hc25)), ce0⟩)⟩)) ?_
   refine EVO.p1 (sU32 a) ?_
   refine EVO.p1 (aI64 i_3) ?_
   refine EVO.c0 (by kernel_rfl) (callOf_at (by kernel_rfl)) ?_
   refine EVO.p1 (sU32 b) ?_
   refine EVO.p1 (aI64 i_3) ?_
   refine EVO.c0 (by kernel_rfl) (callOf_skip (fun _ h => by obtain ⟨e0, e1⟩ := fiducialref01_group_inj h; rw [show v24 = v22 from Option.some.inj (hc25.symm.trans ((show fiducialref01_group n b i_3 = fiducialref01_group n a i_3 from (congr (congr rfl e0) e1)).trans hc23))]) (callOf_at (by kernel_rfl))) ?_
   refine EVO.p1 (aU64 (wrapF .u64 (v22 + v24))) ?_
   refine EVO.p1 (aU64 carry_2) ?_
   refine EVO.p1 (aU64 (wrapF .u64 ((wrapF .u64 (v22 + v24)) + carry_2))) ?_
   refine EVO.p1 (aU64 (wrapF .u64 ((wrapF .u64 (v22 + v24)) + carry_2))) ?_
   refine EVO.done ?_
   refine CQ.n1 [0, 1, 5, 7, 8] (mkS 46 0 [(0, sU32 a), (1, sU32 b), (5, .hs 0 0 out_1.length 1), (7, aI64 i_3), (8, aU64 (wrapF .u64 ((wrapF .u64 (v22 + v24)) + carry_2)))]) [.own (out_1.flatMap (iC .u32))] ?_
   refine CQ.seq ?_
   replace hr := gd hr; obtain ⟨hg26, hr⟩ := hr
   replace hr := gd hr; obtain ⟨hg27, hr⟩ := hr
   refine CQ.r0 fine ?_
   refine EVO.p1 (.hs 0 0 out_1.length 1) ?_
   refine EVO.p1 (aU64 (wrapF .u64 ((wrapF .u64 (v22 + v24)) + carry_2))) ?_
   refine EVO.p1 (aU64 ((wrapF .u64 ((wrapF .u64 (v22 + v24)) + carry_2)).tmod 1000000000)) ?_
   refine EVO.p1 (aU32 (wrapF .u32 ((wrapF .u64 ((wrapF .u64 (v22 + v24)) + carry_2)).tmod 1000000000))) ?_
   refine EVO.e1 (.hs 1 0 1 1) [(1, .own [aU32 (wrapF .u32 ((wrapF .u64 ((wrapF .u64 (v22 + v24)) + carry_2)).tmod 1000000000))])] ?_
   refine EVO.e0 (v := .hs 2 0 (out_1 ++ [wrapF .u32 ((wrapF .u64 ((wrapF .u64 (v22 + v24)) + carry_2)).tmod 1000000000)]).length 1) (ws := [(0, .dead), (2, .own ((out_1 ++ [wrapF .u32 ((wrapF .u64 ((wrapF .u64 (v22 + v24)) + carry_2)).tmod 1000000000)]).flatMap (iC .u32)))]) (Eq.trans (b := guardO (decide (0 + out_1.length * 1 ≤ (out_1.flatMap (iC .u32)).length) && decide ((out_1.length + 1) * 4 ≤ 140737488355328) && decide (out_1.length + 1 ≤ 4611686018427387904)) (some (.eff (.hs 2 0 (out_1.length + 1) 1) [(0, .dead), (2, .own (((out_1.flatMap (iC .u32)).drop 0).take (out_1.length * 1) ++ [aU32 (wrapF .u32 ((wrapF .u64 ((wrapF .u64 (v22 + v24)) + carry_2)).tmod 1000000000))]))]))) (by kernel_rfl) (app_own (l := out_1) (xs := [wrapF .u32 ((wrapF .u64 ((wrapF .u64 (v22 + v24)) + carry_2)).tmod 1000000000)]) (iC_len _) rfl rfl (by kernel_rfl) hg26 hg27)) ?_
   refine EVO.p1 (.hs 2 0 (out_1 ++ [wrapF .u32 ((wrapF .u64 ((wrapF .u64 (v22 + v24)) + carry_2)).tmod 1000000000)]).length 1) ?_
   refine EVO.done ?_
   refine CQ.n1 [0, 1, 5, 7, 8] (mkS 46 0 [(0, sU32 a), (1, sU32 b), (5, .hs 2 0 (out_1 ++ [wrapF .u32 ((wrapF .u64 ((wrapF .u64 (v22 + v24)) + carry_2)).tmod 1000000000)]).length 1), (7, aI64 i_3), (8, aU64 (wrapF .u64 ((wrapF .u64 (v22 + v24)) + carry_2)))]) [.dead, .own [aU32 (wrapF .u32 ((wrapF .u64 ((wrapF .u64 (v22 + v24)) + carry_2)).tmod 1000000000))], .own ((out_1 ++ [wrapF .u32 ((wrapF .u64 ((wrapF .u64 (v22 + v24)) + carry_2)).tmod 1000000000)]).flatMap (iC .u32))] ?_
   refine CQ.r0 fine ?_
   refine EVO.p1 (aU64 (wrapF .u64 ((wrapF .u64 (v22 + v24)) + carry_2))) ?_
   refine EVO.p1 (aU64 (wrapF .u64 ((wrapF .u64 ((wrapF .u64 (v22 + v24)) + carry_2)).tdiv 1000000000))) ?_
   refine EVO.p1 (aU64 (wrapF .u64 ((wrapF .u64 ((wrapF .u64 (v22 + v24)) + carry_2)).tdiv 1000000000))) ?_
   refine EVO.done ?_
   refine CQ.pop ?_
   refine CQ.r0 fine ?_
   refine EVO.p1 (aI64 i_3) ?_
   refine EVO.p1 (aI64 (wrapF .i64 (i_3 + 1))) ?_
   refine EVO.p1 (aI64 (wrapF .i64 (i_3 + 1))) ?_
   refine EVO.done ?_
   exact loopF_back (out_1 ++ [wrapF .u32 ((wrapF .u64 ((wrapF .u64 (v22 + v24)) + carry_2)).tmod 1000000000)], wrapF .u64 ((wrapF .u64 ((wrapF .u64 (v22 + v24)) + carry_2)).tdiv 1000000000), wrapF .i64 (i_3 + 1)) hr ((Wk.gc [0, 1, 5, 6, 7] [(2, false)] rfl (by exact ⟨ids_flat (iC_pure _) _, trivial⟩)).to (by kernel_rfl))
  ·replace hr := cd_f hb21 hr
   refine CQ.r0 fine ?_
   refine EVO.p1 (aI64 i_3) ?_
   refine EVO.p1 (sU32 a) ?_
   refine EVO.p1 (aI64 (a.length : Int)) ?_
   refine EVO.p0 (v := aB false) (Eq.trans (b := some (.pure (aB (decide (i_3 < (a.length : Int)))))) (by kernel_rfl) (by rw [hb21])) ?_
   refine EVO.p1 (aB false) ?_
   refine EVO.q1 (aI64 i_3) ?_
   refine EVO.q1 (sU32 b) ?_
   refine EVO.q1 (aI64 (b.length : Int)) ?_
   refine EVO.q1 (aB (decide (i_3 < (b.length : Int)))) ?_
   refine EVO.p1 (aB (decide (i_3 < (b.length : Int)))) ?_
   refine EVO.done ?_
   refine CQ.n1 [0, 1, 5, 6, 7, 19] (mkS 46 0 [(0, sU32 a), (1, sU32 b), (5, .hs 0 0 out_1.length 1), (6, aU64 carry_2), (7, aI64 i_3), (19, aB (decide (i_3 < (b.length : Int))))]) [.own (out_1.flatMap (iC .u32))] ?_
   refine CQ.cond (t := decide (i_3 < (b.length : Int))) (by kernel_rfl) (fun hb28 => ?_) (fun hb28 => ?_)
   ·replace hr := cd_t hb28 hr
    refine CQ.skip ?_
    refine CQ.seq ?_
    refine CQ.block ?_
    refine CQ.seq ?_
    replace hr := bd hr; obtain ⟨v29, hc30, hr⟩ := hr
    replace hr := bd hr; obtain ⟨v31, hc32, hr⟩ := hr
    refine CQ.region fine (callOf_ok [{ f := 183, args := [sU32 a, aI64 i_3], H := [.own (out_1.flatMap (iC .u32))], r := .loc (aU64 v29) [] [] 0 : CE }, { f := 183, args := [sU32 b, aI64 i_3], H := [.own (out_1.flatMap (iC .u32))], r := .loc (aU64 v31) [] [] 0 : CE }] (List.forall_mem_cons.2 ⟨(callOk_val (l := []) (args' := [sU32 a, aI64 i_3]) rfl (SnL.cons (Sn.pure rfl) (SnL.cons (Sn.pure rfl) SnL.nil)) (fiducialref01_group_ok n a i_3 v29 hc30)), (List.forall_mem_cons.2 ⟨(callOk_val (l := []) (args' := [sU32 b, aI64 i_3]) rfl (SnL.cons (Sn.pure rfl) (SnL.cons (Sn.pure rfl) SnL.nil)) (fiducialref01_group_ok n b i_3 v31 hc32)), ce0⟩)⟩)) ?_
    refine EVO.p1 (sU32 a) ?_
    refine EVO.p1 (aI64 i_3) ?_
    refine EVO.c0 (by kernel_rfl) (callOf_at (by kernel_rfl)) ?_
    refine EVO.p1 (sU32 b) ?_
    refine EVO.p1 (aI64 i_3) ?_
    refine EVO.c0 (by kernel_rfl) (callOf_skip (fun _ h => by obtain ⟨e0, e1⟩ := fiducialref01_group_inj h; rw [show v31 = v29 from Option.some.inj (hc32.symm.trans ((show fiducialref01_group n b i_3 = fiducialref01_group n a i_3 from (congr (congr rfl e0) e1)).trans hc30))]) (callOf_at (by kernel_rfl))) ?_
    refine EVO.p1 (aU64 (wrapF .u64 (v29 + v31))) ?_
    refine EVO.p1 (aU64 carry_2) ?_
    refine EVO.p1 (aU64 (wrapF .u64 ((wrapF .u64 (v29 + v31)) + carry_2))) ?_
    refine EVO.p1 (aU64 (wrapF .u64 ((wrapF .u64 (v29 + v31)) + carry_2))) ?_
    refine EVO.done ?_
    refine CQ.n1 [0, 1, 5, 7, 8] (mkS 46 0 [(0, sU32 a), (1, sU32 b), (5, .hs 0 0 out_1.length 1), (7, aI64 i_3), (8, aU64 (wrapF .u64 ((wrapF .u64 (v29 + v31)) + carry_2)))]) [.own (out_1.flatMap (iC .u32))] ?_
    refine CQ.seq ?_
    replace hr := gd hr; obtain ⟨hg33, hr⟩ := hr
    replace hr := gd hr; obtain ⟨hg34, hr⟩ := hr
    refine CQ.r0 fine ?_
    refine EVO.p1 (.hs 0 0 out_1.length 1) ?_
    refine EVO.p1 (aU64 (wrapF .u64 ((wrapF .u64 (v29 + v31)) + carry_2))) ?_
    refine EVO.p1 (aU64 ((wrapF .u64 ((wrapF .u64 (v29 + v31)) + carry_2)).tmod 1000000000)) ?_
    refine EVO.p1 (aU32 (wrapF .u32 ((wrapF .u64 ((wrapF .u64 (v29 + v31)) + carry_2)).tmod 1000000000))) ?_
    refine EVO.e1 (.hs 1 0 1 1) [(1, .own [aU32 (wrapF .u32 ((wrapF .u64 ((wrapF .u64 (v29 + v31)) + carry_2)).tmod 1000000000))])] ?_
    refine EVO.e0 (v := .hs 2 0 (out_1 ++ [wrapF .u32 ((wrapF .u64 ((wrapF .u64 (v29 + v31)) + carry_2)).tmod 1000000000)]).length 1) (ws := [(0, .dead), (2, .own ((out_1 ++ [wrapF .u32 ((wrapF .u64 ((wrapF .u64 (v29 + v31)) + carry_2)).tmod 1000000000)]).flatMap (iC .u32)))]) (Eq.trans (b := guardO (decide (0 + out_1.length * 1 ≤ (out_1.flatMap (iC .u32)).length) && decide ((out_1.length + 1) * 4 ≤ 140737488355328) && decide (out_1.length + 1 ≤ 4611686018427387904)) (some (.eff (.hs 2 0 (out_1.length + 1) 1) [(0, .dead), (2, .own (((out_1.flatMap (iC .u32)).drop 0).take (out_1.length * 1) ++ [aU32 (wrapF .u32 ((wrapF .u64 ((wrapF .u64 (v29 + v31)) + carry_2)).tmod 1000000000))]))]))) (by kernel_rfl) (app_own (l := out_1) (xs := [wrapF .u32 ((wrapF .u64 ((wrapF .u64 (v29 + v31)) + carry_2)).tmod 1000000000)]) (iC_len _) rfl rfl (by kernel_rfl) hg33 hg34)) ?_
    refine EVO.p1 (.hs 2 0 (out_1 ++ [wrapF .u32 ((wrapF .u64 ((wrapF .u64 (v29 + v31)) + carry_2)).tmod 1000000000)]).length 1) ?_
    refine EVO.done ?_
    refine CQ.n1 [0, 1, 5, 7, 8] (mkS 46 0 [(0, sU32 a), (1, sU32 b), (5, .hs 2 0 (out_1 ++ [wrapF .u32 ((wrapF .u64 ((wrapF .u64 (v29 + v31)) + carry_2)).tmod 1000000000)]).length 1), (7, aI64 i_3), (8, aU64 (wrapF .u64 ((wrapF .u64 (v29 + v31)) + carry_2)))]) [.dead, .own [aU32 (wrapF .u32 ((wrapF .u64 ((wrapF .u64 (v29 + v31)) + carry_2)).tmod 1000000000))], .own ((out_1 ++ [wrapF .u32 ((wrapF .u64 ((wrapF .u64 (v29 + v31)) + carry_2)).tmod 1000000000)]).flatMap (iC .u32))] ?_
    refine CQ.r0 fine ?_
    refine EVO.p1 (aU64 (wrapF .u64 ((wrapF .u64 (v29 + v31)) + carry_2))) ?_
    refine EVO.p1 (aU64 (wrapF .u64 ((wrapF .u64 ((wrapF .u64 (v29 + v31)) + carry_2)).tdiv 1000000000))) ?_
    refine EVO.p1 (aU64 (wrapF .u64 ((wrapF .u64 ((wrapF .u64 (v29 + v31)) + carry_2)).tdiv 1000000000))) ?_
    refine EVO.done ?_
    refine CQ.pop ?_
    refine CQ.r0 fine ?_
    refine EVO.p1 (aI64 i_3) ?_
    refine EVO.p1 (aI64 (wrapF .i64 (i_3 + 1))) ?_
    refine EVO.p1 (aI64 (wrapF .i64 (i_3 + 1))) ?_
    refine EVO.done ?_
    exact loopF_back (out_1 ++ [wrapF .u32 ((wrapF .u64 ((wrapF .u64 (v29 + v31)) + carry_2)).tmod 1000000000)], wrapF .u64 ((wrapF .u64 ((wrapF .u64 (v29 + v31)) + carry_2)).tdiv 1000000000), wrapF .i64 (i_3 + 1)) hr ((Wk.gc [0, 1, 5, 6, 7] [(2, false)] rfl (by exact ⟨ids_flat (iC_pure _) _, trivial⟩)).to (by kernel_rfl))
   ·replace hr := cd_f hb28 hr
    refine CQ.leave rfl ?_
    obtain rfl := Option.some.inj hr
    exact ⟨rfl, ((Wk.gc [5, 6] [(0, false)] rfl (by exact ⟨ids_flat (iC_pure _) _, trivial⟩)).to (by kernel_rfl))⟩
 ·rcases o35 with ⟨out_18, carry_19⟩
  rintro x st' hq37
  clear hL36
  obtain ⟨rfl, hq37⟩ := hq37
  refine CQ_exit _ rfl ?_
  refine CQ.wk hq37 ?_
  refine CQ.seq ?_
  replace hr := gd hr; obtain ⟨hg38, hr⟩ := hr
  replace hr := gd hr; obtain ⟨hg39, hr⟩ := hr
  replace hr := bd hr; obtain ⟨v40, hc41, hr⟩ := hr
  refine CQ.region fine (callOf_1 139 [aB false, .hs 2 0 (out_18 ++ [wrapF .u32 carry_19]).length 1] [.dead, .own [aU32 (wrapF .u32 carry_19)], .own ((out_18 ++ [wrapF .u32 carry_19]).flatMap (iC .u32))] (.loc (.agg (api_Int.c v40)) [(2, .fix ((out_18 ++ [wrapF .u32 carry_19]).flatMap (iC .u32)))] [2] 0) (callOk_ref (l := [2]) (args' := [aB false, sU32 (out_18 ++ [wrapF .u32 carry_19])]) (SnL.cons (Sn.pure rfl) (SnL.cons (Sn.hs rfl (.inl rfl) (SnC.pure (ids_flat (iC_pure _) _)) (fun h => flat_nil0 h)) SnL.nil)) (fiducialref01_made_ok n false (out_18 ++ [wrapF .u32 carry_19]) v40 hc41))) ?_
  refine EVO.p1 (.hs 0 0 out_18.length 1) ?_
  refine EVO.p1 (aU64 carry_19) ?_
  refine EVO.p1 (aU32 (wrapF .u32 carry_19)) ?_
  refine EVO.e1 (.hs 1 0 1 1) [(1, .own [aU32 (wrapF .u32 carry_19)])] ?_
  refine EVO.e0 (v := .hs 2 0 (out_18 ++ [wrapF .u32 carry_19]).length 1) (ws := [(0, .dead), (2, .own ((out_18 ++ [wrapF .u32 carry_19]).flatMap (iC .u32)))]) (Eq.trans (b := guardO (decide (0 + out_18.length * 1 ≤ (out_18.flatMap (iC .u32)).length) && decide ((out_18.length + 1) * 4 ≤ 140737488355328) && decide (out_18.length + 1 ≤ 4611686018427387904)) (some (.eff (.hs 2 0 (out_18.length + 1) 1) [(0, .dead), (2, .own (((out_18.flatMap (iC .u32)).drop 0).take (out_18.length * 1) ++ [aU32 (wrapF .u32 carry_19)]))]))) (by kernel_rfl) (app_own (l := out_18) (xs := [wrapF .u32 carry_19]) (iC_len _) rfl rfl (by kernel_rfl) hg38 hg39)) ?_
  refine EVO.c0 (by kernel_rfl) (callOf_at (by kernel_rfl)) ?_
  refine EVO.p1 (sU32 v40.Groups) ?_
  refine EVO.p1 (sU32 v40.Groups) ?_
  refine EVO.done ?_
  refine CQ.ret ?_
  obtain rfl := Option.some.inj hr
  exact FinQ.r1 [sU32 v40.Groups]

theorem fiducialref01_Add_ok (n : Nat) (x' : api_Int) (y : api_Int) (r : api_Int) (hr : fiducialref01_Add n x' y = some r) : FnOk Tryz.prog 109 [.agg [.at (.bool x'.Negative), slT (iC .u32) x'.Groups], .agg [.at (.bool y.Negative), slT (iC .u32) y.Groups]] (.agg [.at (.bool r.Negative), slT (iC .u32) r.Groups]) := by
 unfold fiducialref01_Add at hr
 refine FnOk.body fine Tryz.func109 (c := (Tryz.f109.body).getD .skip) rfl (s := mkS 44 0 [(0, .agg (api_Int.c x')), (1, .agg (api_Int.c y))]) (by kernel_rfl) (rs := [.cell 4 37]) rfl ?_
 unfold Tryz.f109
 simp only [Option.getD_some]
 refine CQ.seq ?_
 refine CQ.r0 fine ?_
 refine EVO.e1 (.hp 0 0) [(0, .own (api_Int.c x'))] ?_
 refine EVO.e1 (.hp 1 0) [(1, .own (api_Int.c y))] ?_
 refine EVO.e1 (.hp 2 0) [(2, .own [aB false, .at (.slice none 0 0)])] ?_
 refine EVO.done ?_
 refine CQ.n1 [2, 3, 4] (mkS 44 0 [(2, .hp 0 0), (3, .hp 1 0), (4, .hp 2 0)]) [.own (api_Int.c x'), .own (api_Int.c y), .own [aB false, .at (.slice none 0 0)]] ?_
 refine CQ.seq ?_
 replace hr := bd hr; obtain ⟨v1, hc2, hr⟩ := hr
 replace hr := bd hr; obtain ⟨v3, hc4, hr⟩ := hr
 refine CQ.regionT fine (callOf_ok [{ f := 136, args := [.agg (api_Int.c x')], H := [.own (api_Int.c x'), .own (api_Int.c y), .own [aB false, .at (.slice none 0 0)]], r := .loc (.agg (api_Int.c v1)) [] [] 0 : CE }, { f := 136, args := [.agg (api_Int.c y)], H := [.own (api_Int.c x'), .own (api_Int.c y), .own [aB false, .at (.slice none 0 0)]], r := .loc (.agg (api_Int.c v3)) [] [] 0 : CE }] (List.forall_mem_cons.2 ⟨(callOk_ref (l := []) (args' := [.agg (api_Int.c x')]) (SnL.cons (Sn.pure rfl) SnL.nil) (fiducialref01_Value_ok n x' v1 hc2)), (List.forall_mem_cons.2 ⟨(callOk_ref (l := []) (args' := [.agg (api_Int.c y)]) (SnL.cons (Sn.pure rfl) SnL.nil) (fiducialref01_Value_ok n y v3 hc4)), ce0⟩)⟩)) ?_
 refine EVT.p1 (.agg (api_Int.c x')) ?_
 refine EVT.cal (by kernel_rfl) (by kernel_rfl) (callOf_at (by kernel_rfl)) (by kernel_rfl) ?_
 refine EVT.p1 (.agg (api_Int.c y)) ?_
 refine EVT.cal (by kernel_rfl) (by kernel_rfl) (callOf_skip (fun _ h => by obtain e0 := fiducialref01_Value_inj h; rw [show v3 = v1 from Option.some.inj (hc4.symm.trans ((show fiducialref01_Value n y = fiducialref01_Value n x' from (congr rfl e0)).trans hc2))]) (callOf_at (by kernel_rfl))) (by kernel_rfl) ?_
 refine EVT.e1 (.unk) [(0, .own (api_Int.c v1))] ?_
 refine EVT.e1 (.unk) [(1, .own (api_Int.c v3))] ?_
 refine EVT.done ⟨by kernel_rfl, ?_⟩
 refine CQ.n1 [2, 3, 4] (mkS 44 0 [(2, .hp 0 0), (3, .hp 1 0), (4, .hp 2 0)]) [.own (api_Int.c v1), .own (api_Int.c v3), .own [aB false, .at (.slice none 0 0)]] ?_
 refine CQ.seq ?_
 refine CQ.seq ?_
 refine CQ.r0 fine ?_
 refine EVO.p1 (.hp 0 0) ?_
 refine EVO.p1 (aB v1.Negative) ?_
 refine EVO.p1 (.hp 1 0) ?_
 refine EVO.p1 (aB v3.Negative) ?_
 refine EVO.p1 (aB (v1.Negative == v3.Negative)) ?_
 refine EVO.done ?_
 refine CQ.n1 [2, 3, 4, 13] (mkS 44 0 [(2, .hp 0 0), (3, .hp 1 0), (4, .hp 2 0), (13, aB (v1.Negative == v3.Negative))]) [.own (api_Int.c v1), .own (api_Int.c v3), .own [aB false, .at (.slice none 0 0)]] ?_
 refine CQ.cond (t := v1.Negative == v3.Negative) (by kernel_rfl) (fun hb5 => ?_) (fun hb5 => ?_)
 ·replace hr := cd_t hb5 hr
  refine CQ.seq ?_
  replace hr := bd hr; obtain ⟨v6, hc7, hr⟩ := hr
  replace hr := bd hr; obtain ⟨v8, hc9, hr⟩ := hr
  refine CQ.regionT fine (callOf_ok [{ f := 143, args := [sU32 v1.Groups, sU32 v3.Groups], H := [.own (api_Int.c v1), .own (api_Int.c v3), .own [aB false, .at (.slice none 0 0)]], r := .loc (sU32 v6) [] [] 0 : CE }, { f := 139, args := [aB v1.Negative, sU32 v6], H := [.own (api_Int.c v1), .own (api_Int.c v3), .own [aB false, .at (.slice none 0 0)]], r := .loc (.agg (api_Int.c v8)) [] [] 0 : CE }] (List.forall_mem_cons.2 ⟨(callOk_ref (l := []) (args' := [sU32 v1.Groups, sU32 v3.Groups]) (SnL.cons (Sn.pure rfl) (SnL.cons (Sn.pure rfl) SnL.nil)) (fiducialref01_plus_ok n v1.Groups v3.Groups v6 hc7)), (List.forall_mem_cons.2 ⟨(callOk_ref (l := []) (args' := [aB v1.Negative, sU32 v6]) (SnL.cons (Sn.pure rfl) (SnL.cons (Sn.pure rfl) SnL.nil)) (fiducialref01_made_ok n v1.Negative v6 v8 hc9)), ce0⟩)⟩)) ?_
  refine EVT.p1 (.hp 0 0) ?_
  refine EVT.p1 (aB v1.Negative) ?_
  refine EVT.p1 (.hp 0 1) ?_
  refine EVT.p1 (sU32 v1.Groups) ?_
  refine EVT.p1 (.hp 1 1) ?_
  refine EVT.p1 (sU32 v3.Groups) ?_
  refine EVT.cal (by kernel_rfl) (by kernel_rfl) (callOf_at (by kernel_rfl)) (by kernel_rfl) ?_
  refine EVT.cal (by kernel_rfl) (by kernel_rfl) (callOf_skip (fun h _ => absurd (show (139 : Nat) = 143 from h) (by decide)) (callOf_at (by kernel_rfl))) (by kernel_rfl) ?_
  refine EVT.e1 (.unk) [(2, .own (api_Int.c v8))] ?_
  refine EVT.done ⟨by kernel_rfl, ?_⟩
  refine CQ.ret ?_
  obtain rfl := Option.some.inj hr
  exact FinQ.r1 [.agg (api_Int.c v8)]
 ·replace hr := cd_f hb5 hr
  refine CQ.skip ?_
  refine CQ.seq ?_
  refine CQ.seq ?_
  replace hr := bd hr; obtain ⟨v10, hc11, hr⟩ := hr
  refine CQ.region fine (callOf_1 144 [sU32 v1.Groups, sU32 v3.Groups] [.own (api_Int.c v1), .own (api_Int.c v3), .own [aB false, .at (.slice none 0 0)]] (.loc (aI64 v10) [] [] 0) (callOk_val (l := []) (args' := [sU32 v1.Groups, sU32 v3.Groups]) rfl (SnL.cons (Sn.pure rfl) (SnL.cons (Sn.pure rfl) SnL.nil)) (fiducialref01_size_ok n v1.Groups v3.Groups v10 hc11))) ?_
  refine EVO.p1 (.hp 0 1) ?_
  refine EVO.p1 (sU32 v1.Groups) ?_
  refine EVO.p1 (.hp 1 1) ?_
  refine EVO.p1 (sU32 v3.Groups) ?_
  refine EVO.c0 (by kernel_rfl) (callOf_at (by kernel_rfl)) ?_
  refine EVO.p1 (aB (decide (v10 ≥ 0))) ?_
  refine EVO.done ?_
  refine CQ.n1 [2, 3, 4, 27] (mkS 44 0 [(2, .hp 0 0), (3, .hp 1 0), (4, .hp 2 0), (27, aB (decide (v10 ≥ 0)))]) [.own (api_Int.c v1), .own (api_Int.c v3), .own [aB false, .at (.slice none 0 0)]] ?_
  refine CQ.cond (t := decide (v10 ≥ 0)) (by kernel_rfl) (fun hb12 => ?_) (fun hb12 => ?_)
  ·replace hr := cd_t hb12 hr
   refine CQ.seq ?_
   replace hr := bd hr; obtain ⟨v13, hc14, hr⟩ := hr
   replace hr := bd hr; obtain ⟨v15, hc16, hr⟩ := hr
   refine CQ.regionT fine (callOf_ok [{ f := 145, args := [sU32 v1.Groups, sU32 v3.Groups], H := [.own (api_Int.c v1), .own (api_Int.c v3), .own [aB false, .at (.slice none 0 0)]], r := .loc (sU32 v13) [] [] 0 : CE }, { f := 139, args := [aB v1.Negative, sU32 v13], H := [.own (api_Int.c v1), .own (api_Int.c v3), .own [aB false, .at (.slice none 0 0)]], r := .loc (.agg (api_Int.c v15)) [] [] 0 : CE }] (List.forall_mem_cons.2 ⟨(callOk_ref (l := []) (args' := [sU32 v1.Groups, sU32 v3.Groups]) (SnL.cons (Sn.pure rfl) (SnL.cons (Sn.pure rfl) SnL.nil)) (fiducialref01_minus_ok n v1.Groups v3.Groups v13 hc14)), (List.forall_mem_cons.2 ⟨(callOk_ref (l := []) (args' := [aB v1.Negative, sU32 v13]) (SnL.cons (Sn.pure rfl) (SnL.cons (Sn.pure rfl) SnL.nil)) (fiducialref01_made_ok n v1.Negative v13 v15 hc16)), ce0⟩)⟩)) ?_
   refine EVT.p1 (.hp 0 0) ?_
   refine EVT.p1 (aB v1.Negative) ?_
   refine EVT.p1 (.hp 0 1) ?_
   refine EVT.p1 (sU32 v1.Groups) ?_
   refine EVT.p1 (.hp 1 1) ?_
   refine EVT.p1 (sU32 v3.Groups) ?_
   refine EVT.cal (by kernel_rfl) (by kernel_rfl) (callOf_at (by kernel_rfl)) (by kernel_rfl) ?_
   refine EVT.cal (by kernel_rfl) (by kernel_rfl) (callOf_skip (fun h _ => absurd (show (139 : Nat) = 145 from h) (by decide)) (callOf_at (by kernel_rfl))) (by kernel_rfl) ?_
   refine EVT.e1 (.unk) [(2, .own (api_Int.c v15))] ?_
   refine EVT.done ⟨by kernel_rfl, ?_⟩
   refine CQ.ret ?_
   obtain rfl := Option.some.inj hr
   exact FinQ.r1 [.agg (api_Int.c v15)]
  ·replace hr := cd_f hb12 hr
   refine CQ.skip ?_
   refine CQ.seq ?_
   replace hr := bd hr; obtain ⟨v17, hc18, hr⟩ := hr
   replace hr := bd hr; obtain ⟨v19, hc20, hr⟩ := hr
   refine CQ.regionT fine (callOf_ok [{ f := 145, args := [sU32 v3.Groups, sU32 v1.Groups], H := [.own (api_Int.c v1), .own (api_Int.c v3), .own [aB false, .at (.slice none 0 0)]], r := .loc (sU32 v17) [] [] 0 : CE }, { f := 139, args := [aB v3.Negative, sU32 v17], H := [.own (api_Int.c v1), .own (api_Int.c v3), .own [aB false, .at (.slice none 0 0)]], r := .loc (.agg (api_Int.c v19)) [] [] 0 : CE }] (List.forall_mem_cons.2 ⟨(callOk_ref (l := []) (args' := [sU32 v3.Groups, sU32 v1.Groups]) (SnL.cons (Sn.pure rfl) (SnL.cons (Sn.pure rfl) SnL.nil)) (fiducialref01_minus_ok n v3.Groups v1.Groups v17 hc18)), (List.forall_mem_cons.2 ⟨(callOk_ref (l := []) (args' := [aB v3.Negative, sU32 v17]) (SnL.cons (Sn.pure rfl) (SnL.cons (Sn.pure rfl) SnL.nil)) (fiducialref01_made_ok n v3.Negative v17 v19 hc20)), ce0⟩)⟩)) ?_
   refine EVT.p1 (.hp 1 0) ?_
   refine EVT.p1 (aB v3.Negative) ?_
   refine EVT.p1 (.hp 1 1) ?_
   refine EVT.p1 (sU32 v3.Groups) ?_
   refine EVT.p1 (.hp 0 1) ?_
   refine EVT.p1 (sU32 v1.Groups) ?_
   refine EVT.cal (by kernel_rfl) (by kernel_rfl) (callOf_at (by kernel_rfl)) (by kernel_rfl) ?_
   refine EVT.cal (by kernel_rfl) (by kernel_rfl) (callOf_skip (fun h _ => absurd (show (139 : Nat) = 145 from h) (by decide)) (callOf_at (by kernel_rfl))) (by kernel_rfl) ?_
   refine EVT.e1 (.unk) [(2, .own (api_Int.c v19))] ?_
   refine EVT.done ⟨by kernel_rfl, ?_⟩
   refine CQ.ret ?_
   obtain rfl := Option.some.inj hr
   exact FinQ.r1 [.agg (api_Int.c v19)]

theorem fiducialref01_Sub_ok (n : Nat) (x' : api_Int) (y : api_Int) (r : api_Int) (hr : fiducialref01_Sub n x' y = some r) : FnOk Tryz.prog 140 [.agg [.at (.bool x'.Negative), slT (iC .u32) x'.Groups], .agg [.at (.bool y.Negative), slT (iC .u32) y.Groups]] (.agg [.at (.bool r.Negative), slT (iC .u32) r.Groups]) := by
 unfold fiducialref01_Sub at hr
 refine FnOk.body fine Tryz.func140 (c := (Tryz.f140.body).getD .skip) rfl (s := mkS 9 0 [(0, .agg (api_Int.c x')), (1, .agg (api_Int.c y))]) (by kernel_rfl) (rs := [.cell 4 37]) rfl ?_
 unfold Tryz.f140
 simp only [Option.getD_some]
 refine CQ.seq ?_
 refine CQ.r0 fine ?_
 refine EVO.e1 (.hp 0 0) [(0, .own (api_Int.c x'))] ?_
 refine EVO.e1 (.hp 1 0) [(1, .own (api_Int.c y))] ?_
 refine EVO.e1 (.hp 2 0) [(2, .own [aB false, .at (.slice none 0 0)])] ?_
 refine EVO.done ?_
 refine CQ.n1 [2, 3, 4] (mkS 9 0 [(2, .hp 0 0), (3, .hp 1 0), (4, .hp 2 0)]) [.own (api_Int.c x'), .own (api_Int.c y), .own [aB false, .at (.slice none 0 0)]] ?_
 refine CQ.seq ?_
 replace hr := bd hr; obtain ⟨v1, hc2, hr⟩ := hr
 replace hr := bd hr; obtain ⟨v3, hc4, hr⟩ := hr
 refine CQ.regionT fine (callOf_ok [{ f := 137, args := [.agg (api_Int.c y)], H := [.own (api_Int.c x'), .own (api_Int.c y), .own [aB false, .at (.slice none 0 0)]], r := .loc (.agg (api_Int.c v1)) [] [] 0 : CE }, { f := 109, args := [.agg (api_Int.c x'), .agg (api_Int.c v1)], H := [.own (api_Int.c x'), .own (api_Int.c y), .own [aB false, .at (.slice none 0 0)]], r := .loc (.agg (api_Int.c v3)) [] [] 0 : CE }] (List.forall_mem_cons.2 ⟨(callOk_ref (l := []) (args' := [.agg (api_Int.c y)]) (SnL.cons (Sn.pure rfl) SnL.nil) (fiducialref01_Neg_ok n y v1 hc2)), (List.forall_mem_cons.2 ⟨(callOk_ref (l := []) (args' := [.agg (api_Int.c x'), .agg (api_Int.c v1)]) (SnL.cons (Sn.pure rfl) (SnL.cons (Sn.pure rfl) SnL.nil)) (fiducialref01_Add_ok n x' v1 v3 hc4)), ce0⟩)⟩)) ?_
 refine EVT.p1 (.agg (api_Int.c x')) ?_
 refine EVT.p1 (.agg (api_Int.c y)) ?_
 refine EVT.cal (by kernel_rfl) (by kernel_rfl) (callOf_at (by kernel_rfl)) (by kernel_rfl) ?_
 refine EVT.cal (by kernel_rfl) (by kernel_rfl) (callOf_skip (fun h _ => absurd (show (109 : Nat) = 137 from h) (by decide)) (callOf_at (by kernel_rfl))) (by kernel_rfl) ?_
 refine EVT.e1 (.unk) [(2, .own (api_Int.c v3))] ?_
 refine EVT.done ⟨by kernel_rfl, ?_⟩
 refine CQ.ret ?_
 obtain rfl := Option.some.inj hr
 exact FinQ.r1 [.agg (api_Int.c v3)]

theorem fiducialref01_Compare_ok (n : Nat) (x' : api_Int) (y : api_Int) (r : Int) (hr : fiducialref01_Compare n x' y = some r) : FnOk Tryz.prog 105 [.agg [.at (.bool x'.Negative), slT (iC .u32) x'.Groups], .agg [.at (.bool y.Negative), slT (iC .u32) y.Groups]] (.at (.int .i64 r)) := by
 unfold fiducialref01_Compare at hr
 refine FnOk.body fine Tryz.func105 (c := (Tryz.f105.body).getD .skip) rfl (s := mkS 9 0 [(0, .agg (api_Int.c x')), (1, .agg (api_Int.c y))]) (by kernel_rfl) (rs := [.tmp 4]) rfl ?_
 unfold Tryz.f105
 simp only [Option.getD_some]
 refine CQ.seq ?_
 refine CQ.r0 fine ?_
 refine EVO.e1 (.hp 0 0) [(0, .own (api_Int.c x'))] ?_
 refine EVO.e1 (.hp 1 0) [(1, .own (api_Int.c y))] ?_
 refine EVO.p1 (aI64 0) ?_
 refine EVO.done ?_
 refine CQ.n1 [2, 3] (mkS 9 0 [(2, .hp 0 0), (3, .hp 1 0)]) [.own (api_Int.c x'), .own (api_Int.c y)] ?_
 refine CQ.seq ?_
 replace hr := bd hr; obtain ⟨v1, hc2, hr⟩ := hr
 replace hr := bd hr; obtain ⟨v3, hc4, hr⟩ := hr
 refine CQ.region fine (callOf_ok [{ f := 140, args := [.agg (api_Int.c x'), .agg (api_Int.c y)], H := [.own (api_Int.c x'), .own (api_Int.c y)], r := .loc (.agg (api_Int.c v1)) [] [] 0 : CE }, { f := 101, args := [.agg (api_Int.c v1)], H := [.own (api_Int.c x'), .own (api_Int.c y)], r := .loc (aI64 v3) [] [] 0 : CE }] (List.forall_mem_cons.2 ⟨(callOk_ref (l := []) (args' := [.agg (api_Int.c x'), .agg (api_Int.c y)]) (SnL.cons (Sn.pure rfl) (SnL.cons (Sn.pure rfl) SnL.nil)) (fiducialref01_Sub_ok n x' y v1 hc2)), (List.forall_mem_cons.2 ⟨(callOk_val (l := []) (args' := [.agg (api_Int.c v1)]) rfl (SnL.cons (Sn.pure rfl) SnL.nil) (fiducialref01_Sign_ok n v1 v3 hc4)), ce0⟩)⟩)) ?_
 refine EVO.p1 (.agg (api_Int.c x')) ?_
 refine EVO.p1 (.agg (api_Int.c y)) ?_
 refine EVO.c0 (by kernel_rfl) (callOf_at (by kernel_rfl)) ?_
 refine EVO.c0 (by kernel_rfl) (callOf_skip (fun h _ => absurd (show (101 : Nat) = 140 from h) (by decide)) (callOf_at (by kernel_rfl))) ?_
 refine EVO.p1 (aI64 v3) ?_
 refine EVO.done ?_
 refine CQ.ret ?_
 obtain rfl := Option.some.inj hr
 exact FinQ.r1 [aI64 v3]

theorem fiducialref02_Valid_inj {x' : api_Rat} {x'_ : api_Rat} (h : ([.agg [.at (.bool x'.Num.Negative), slT (iC .u32) x'.Num.Groups, .at (.bool x'.Den.Negative), slT (iC .u32) x'.Den.Groups]] : List AV) = [.agg [.at (.bool x'_.Num.Negative), slT (iC .u32) x'_.Num.Groups, .at (.bool x'_.Den.Negative), slT (iC .u32) x'_.Den.Groups]]) : x' = x'_ := by
 obtain ⟨⟨_, _⟩, ⟨_, _⟩⟩ := x'
 obtain ⟨⟨_, _⟩, ⟨_, _⟩⟩ := x'_
 simp only [List.cons.injEq, AV.agg.injEq, AV.at.injEq, Value.int.injEq, Value.bool.injEq, AV.fn.injEq, AV.pp.injEq, true_and, and_true, slT_inj_int] at h
 simp_all
theorem fiducialref02_Valid_ok (n : Nat) (x' : api_Rat) (r : Bool) (hr : fiducialref02_Valid n x' = some r) : FnOk Tryz.prog 54 [.agg [.at (.bool x'.Num.Negative), slT (iC .u32) x'.Num.Groups, .at (.bool x'.Den.Negative), slT (iC .u32) x'.Den.Groups]] (.at (.bool r)) := by
 unfold fiducialref02_Valid at hr
 refine FnOk.body fine Tryz.func54 (c := (Tryz.f54.body).getD .skip) rfl (s := mkS 27 0 [(0, .agg (api_Rat.c x'))]) (by kernel_rfl) (rs := [.tmp 2]) rfl ?_
 unfold Tryz.f54
 simp only [Option.getD_some]
 refine CQ.seq ?_
 refine CQ.r0 fine ?_
 refine EVO.e1 (.hp 0 0) [(0, .own (api_Rat.c x'))] ?_
 refine EVO.p1 (aB false) ?_
 refine EVO.done ?_
 refine CQ.n1 [1] (mkS 27 0 [(1, .hp 0 0)]) [.own (api_Rat.c x')] ?_
 refine CQ.seq ?_
 refine CQ.seq ?_
 replace hr := bd hr; obtain ⟨v1, hc2, hr⟩ := hr
 rcases Bool.eq_false_or_eq_true (!v1) with hb3 | hb3
 ·replace hr := cd_t hb3 hr
  refine CQ.region fine (callOf_1 104 [.agg (api_Int.c x'.Num)] [.own (api_Rat.c x')] (.loc (aB v1) [] [] 0) (callOk_val (l := []) (args' := [.agg (api_Int.c x'.Num)]) rfl (SnL.cons (Sn.pure rfl) SnL.nil) (fiducialref01_Valid_ok n x'.Num v1 hc2))) ?_
  refine EVO.p1 (.hp 0 0) ?_
  refine EVO.p1 (.agg (api_Int.c x'.Num)) ?_
  refine EVO.c0 (by kernel_rfl) (callOf_at (by kernel_rfl)) ?_
  refine EVO.p0 (v := aB true) (Eq.trans (b := some (.pure (aB (!v1)))) (by kernel_rfl) (by rw [hb3])) ?_
  refine EVO.p1 (aB true) ?_
  refine EVO.s1 ?_
  refine EVO.s1 ?_
  refine EVO.s1 ?_
  refine EVO.s1 ?_
  refine EVO.p1 (aB true) ?_
  refine EVO.p1 (aB true) ?_
  refine EVO.s1 ?_
  refine EVO.s1 ?_
  refine EVO.s1 ?_
  refine EVO.s1 ?_
  refine EVO.p1 (aB true) ?_
  refine EVO.done ?_
  refine CQ.n1 [1, 18] (mkS 27 0 [(1, .hp 0 0), (18, aB true)]) [.own (api_Rat.c x')] ?_
  refine CQ.cT (by kernel_rfl) ?_
  refine CQ.seq ?_
  refine CQ.r0 fine ?_
  refine EVO.p1 (aB false) ?_
  refine EVO.done ?_
  refine CQ.ret ?_
  obtain rfl := Option.some.inj hr
  exact FinQ.r1 [aB false]
 ·replace hr := cd_f hb3 hr
  replace hr := bd hr; obtain ⟨v4, hc5, hr⟩ := hr
  rcases Bool.eq_false_or_eq_true (!v4) with hb6 | hb6
  ·replace hr := cd_t hb6 hr
   refine CQ.region fine (callOf_ok [{ f := 104, args := [.agg (api_Int.c x'.Num)], H := [.own (api_Rat.c x')], r := .loc (aB v1) [] [] 0 : CE }, { f := 104, args := [.agg (api_Int.c x'.Den)], H := [.own (api_Rat.c x')], r := .loc (aB v4) [] [] 0 : CE }] (List.forall_mem_cons.2 ⟨(callOk_val (l := []) (args' := [.agg (api_Int.c x'.Num)]) rfl (SnL.cons (Sn.pure rfl) SnL.nil) (fiducialref01_Valid_ok n x'.Num v1 hc2)), (List.forall_mem_cons.2 ⟨(callOk_val (l := []) (args' := [.agg (api_Int.c x'.Den)]) rfl (SnL.cons (Sn.pure rfl) SnL.nil) (fiducialref01_Valid_ok n x'.Den v4 hc5)), ce0⟩)⟩)) ?_
   refine EVO.p1 (.hp 0 0) ?_
   refine EVO.p1 (.agg (api_Int.c x'.Num)) ?_
   refine EVO.c0 (by kernel_rfl) (callOf_at (by kernel_rfl)) ?_
   refine EVO.p0 (v := aB false) (Eq.trans (b := some (.pure (aB (!v1)))) (by kernel_rfl) (by rw [hb3])) ?_
   refine EVO.p1 (aB false) ?_
   refine EVO.q1 (.hp 0 2) ?_
   refine EVO.q1 (.agg (api_Int.c x'.Den)) ?_
   refine EVO.cal (by kernel_rfl) (by kernel_rfl) (callOf_skip (fun _ h => by obtain e0 := fiducialref01_Valid_inj h; rw [show v4 = v1 from Option.some.inj (hc5.symm.trans ((show fiducialref01_Valid n x'.Den = fiducialref01_Valid n x'.Num from (congr rfl e0)).trans hc2))]) (callOf_at (by kernel_rfl))) ?_
   refine EVO.pure (v := aB true) (by kernel_rfl) (Eq.trans (b := some (.pure (aB (!v4)))) (by kernel_rfl) (by rw [hb6])) ?_
   refine EVO.p1 (aB true) ?_
   refine EVO.p1 (aB true) ?_
   refine EVO.s1 ?_
   refine EVO.s1 ?_
   refine EVO.s1 ?_
   refine EVO.s1 ?_
   refine EVO.p1 (aB true) ?_
   refine EVO.done ?_
   refine CQ.n1 [1, 18] (mkS 27 0 [(1, .hp 0 0), (18, aB true)]) [.own (api_Rat.c x')] ?_
   refine CQ.cT (by kernel_rfl) ?_
   refine CQ.seq ?_
   refine CQ.r0 fine ?_
   refine EVO.p1 (aB false) ?_
   refine EVO.done ?_
   refine CQ.ret ?_
   obtain rfl := Option.some.inj hr
   exact FinQ.r1 [aB false]
  ·replace hr := cd_f hb6 hr
   replace hr := bd hr; obtain ⟨v7, hc8, hr⟩ := hr
   refine CQ.region fine (callOf_ok [{ f := 104, args := [.agg (api_Int.c x'.Num)], H := [.own (api_Rat.c x')], r := .loc (aB v1) [] [] 0 : CE }, { f := 104, args := [.agg (api_Int.c x'.Den)], H := [.own (api_Rat.c x')], r := .loc (aB v4) [] [] 0 : CE }, { f := 101, args := [.agg (api_Int.c x'.Den)], H := [.own (api_Rat.c x')], r := .loc (aI64 v7) [] [] 0 : CE }] (List.forall_mem_cons.2 ⟨(callOk_val (l := []) (args' := [.agg (api_Int.c x'.Num)]) rfl (SnL.cons (Sn.pure rfl) SnL.nil) (fiducialref01_Valid_ok n x'.Num v1 hc2)), (List.forall_mem_cons.2 ⟨(callOk_val (l := []) (args' := [.agg (api_Int.c x'.Den)]) rfl (SnL.cons (Sn.pure rfl) SnL.nil) (fiducialref01_Valid_ok n x'.Den v4 hc5)), (List.forall_mem_cons.2 ⟨(callOk_val (l := []) (args' := [.agg (api_Int.c x'.Den)]) rfl (SnL.cons (Sn.pure rfl) SnL.nil) (fiducialref01_Sign_ok n x'.Den v7 hc8)), ce0⟩)⟩)⟩)) ?_
   refine EVO.p1 (.hp 0 0) ?_
   refine EVO.p1 (.agg (api_Int.c x'.Num)) ?_
   refine EVO.c0 (by kernel_rfl) (callOf_at (by kernel_rfl)) ?_
   refine EVO.p0 (v := aB false) (Eq.trans (b := some (.pure (aB (!v1)))) (by kernel_rfl) (by rw [hb3])) ?_
   refine EVO.p1 (aB false) ?_
   refine EVO.q1 (.hp 0 2) ?_
   refine EVO.q1 (.agg (api_Int.c x'.Den)) ?_
   refine EVO.cal (by kernel_rfl) (by kernel_rfl) (callOf_skip (fun _ h => by obtain e0 := fiducialref01_Valid_inj h; rw [show v4 = v1 from Option.some.inj (hc5.symm.trans ((show fiducialref01_Valid n x'.Den = fiducialref01_Valid n x'.Num from (congr rfl e0)).trans hc2))]) (callOf_at (by kernel_rfl))) ?_
   refine EVO.pure (v := aB false) (by kernel_rfl) (Eq.trans (b := some (.pure (aB (!v4)))) (by kernel_rfl) (by rw [hb6])) ?_
   refine EVO.p1 (aB false) ?_
   refine EVO.p1 (aB false) ?_
   refine EVO.q1 (.hp 0 2) ?_
   refine EVO.q1 (.agg (api_Int.c x'.Den)) ?_
   refine EVO.cal (by kernel_rfl) (by kernel_rfl) (callOf_skip (fun h _ => absurd (show (101 : Nat) = 104 from h) (by decide)) (callOf_skip (fun h _ => absurd (show (101 : Nat) = 104 from h) (by decide)) (callOf_at (by kernel_rfl)))) ?_
   refine EVO.q1 (aB (decide (v7 ≤ 0))) ?_
   refine EVO.p1 (aB (decide (v7 ≤ 0))) ?_
   refine EVO.done ?_
   refine CQ.n1 [1, 18] (mkS 27 0 [(1, .hp 0 0), (18, aB (decide (v7 ≤ 0)))]) [.own (api_Rat.c x')] ?_
   refine CQ.cond (t := decide (v7 ≤ 0)) (by kernel_rfl) (fun hb9 => ?_) (fun hb9 => ?_)
   ·replace hr := cd_t hb9 hr
    refine CQ.seq ?_
    refine CQ.r0 fine ?_
    refine EVO.p1 (aB false) ?_
    refine EVO.done ?_
    refine CQ.ret ?_
    obtain rfl := Option.some.inj hr
    exact FinQ.r1 [aB false]
   ·replace hr := cd_f hb9 hr
    refine CQ.skip ?_
    refine CQ.seq ?_
    replace hr := bd hr; obtain ⟨v10, hc11, hr⟩ := hr
    replace hr := bd hr; obtain ⟨v12, hc13, hr⟩ := hr
    replace hr := bd hr; obtain ⟨v14, hc15, hr⟩ := hr
    refine CQ.region fine (callOf_ok [{ f := 106, args := [.agg (api_Int.c x'.Num), .agg (api_Int.c x'.Den)], H := [.own (api_Rat.c x')], r := .loc (.agg (api_Int.c v10)) [] [] 0 : CE }, { f := 53, args := [aI64 1], H := [.own (api_Rat.c x')], r := .loc (.agg (api_Int.c v12)) [] [] 0 : CE }, { f := 105, args := [.agg (api_Int.c v10), .agg (api_Int.c v12)], H := [.own (api_Rat.c x')], r := .loc (aI64 v14) [] [] 0 : CE }] (List.forall_mem_cons.2 ⟨(callOk_ref (l := []) (args' := [.agg (api_Int.c x'.Num), .agg (api_Int.c x'.Den)]) (SnL.cons (Sn.pure rfl) (SnL.cons (Sn.pure rfl) SnL.nil)) (fiducialref01_Gcd_ok n x'.Num x'.Den v10 hc11)), (List.forall_mem_cons.2 ⟨(callOk_ref (l := []) (args' := [aI64 1]) (SnL.cons (Sn.pure rfl) SnL.nil) (fiducialref02_whole_ok n 1 v12 hc13)), (List.forall_mem_cons.2 ⟨(callOk_val (l := []) (args' := [.agg (api_Int.c v10), .agg (api_Int.c v12)]) rfl (SnL.cons (Sn.pure rfl) (SnL.cons (Sn.pure rfl) SnL.nil)) (fiducialref01_Compare_ok n v10 v12 v14 hc15)), ce0⟩)⟩)⟩)) ?_
    refine EVO.p1 (.hp 0 0) ?_
    refine EVO.p1 (.agg (api_Int.c x'.Num)) ?_
    refine EVO.p1 (.hp 0 2) ?_
    refine EVO.p1 (.agg (api_Int.c x'.Den)) ?_
    refine EVO.c0 (by kernel_rfl) (callOf_at (by kernel_rfl)) ?_
    refine EVO.c0 (by kernel_rfl) (callOf_skip (fun h _ => absurd (show (53 : Nat) = 106 from h) (by decide)) (callOf_at (by kernel_rfl))) ?_
    refine EVO.c0 (by kernel_rfl) (callOf_skip (fun h _ => absurd (show (105 : Nat) = 106 from h) (by decide)) (callOf_skip (fun h _ => absurd (show (105 : Nat) = 53 from h) (by decide)) (callOf_at (by kernel_rfl)))) ?_
    refine EVO.p1 (aB ((v14 : Int) == 0)) ?_
    refine EVO.p1 (aB ((v14 : Int) == 0)) ?_
    refine EVO.done ?_
    refine CQ.ret ?_
    obtain rfl := Option.some.inj hr
    exact FinQ.r1 [aB ((v14 : Int) == 0)]

theorem fiducialref02_Value_ok (n : Nat) (x' : api_Rat) (r : api_Rat) (hr : fiducialref02_Value n x' = some r) : FnOk Tryz.prog 107 [.agg [.at (.bool x'.Num.Negative), slT (iC .u32) x'.Num.Groups, .at (.bool x'.Den.Negative), slT (iC .u32) x'.Den.Groups]] (.agg [.at (.bool r.Num.Negative), slT (iC .u32) r.Num.Groups, .at (.bool r.Den.Negative), slT (iC .u32) r.Den.Groups]) := by
 unfold fiducialref02_Value at hr
 refine FnOk.body fine Tryz.func107 (c := (Tryz.f107.body).getD .skip) rfl (s := mkS 7 0 [(0, .agg (api_Rat.c x'))]) (by kernel_rfl) (rs := [.cell 2 39]) rfl ?_
 unfold Tryz.f107
 simp only [Option.getD_some]
 refine CQ.seq ?_
 refine CQ.r0 fine ?_
 refine EVO.e1 (.hp 0 0) [(0, .own (api_Rat.c x'))] ?_
 refine EVO.e1 (.hp 1 0) [(1, .own [aB false, .at (.slice none 0 0), aB false, .at (.slice none 0 0)])] ?_
 refine EVO.done ?_
 refine CQ.n1 [1, 2] (mkS 7 0 [(1, .hp 0 0), (2, .hp 1 0)]) [.own (api_Rat.c x'), .own [aB false, .at (.slice none 0 0), aB false, .at (.slice none 0 0)]] ?_
 refine CQ.seq ?_
 refine CQ.seq ?_
 replace hr := bd hr; obtain ⟨v1, hc2, hr⟩ := hr
 refine CQ.region fine (callOf_1 54 [.agg (api_Rat.c x')] [.own (api_Rat.c x'), .own [aB false, .at (.slice none 0 0), aB false, .at (.slice none 0 0)]] (.loc (aB v1) [] [] 0) (callOk_val (l := []) (args' := [.agg (api_Rat.c x')]) rfl (SnL.cons (Sn.pure rfl) SnL.nil) (fiducialref02_Valid_ok n x' v1 hc2))) ?_
 refine EVO.p1 (.agg (api_Rat.c x')) ?_
 refine EVO.c0 (by kernel_rfl) (callOf_at (by kernel_rfl)) ?_
 refine EVO.done ?_
 refine CQ.n1 [1, 2, 4] (mkS 7 0 [(1, .hp 0 0), (2, .hp 1 0), (4, aB v1)]) [.own (api_Rat.c x'), .own [aB false, .at (.slice none 0 0), aB false, .at (.slice none 0 0)]] ?_
 refine CQ.cond (t := v1) (by kernel_rfl) (fun hb3 => ?_) (fun hb3 => ?_)
 ·replace hr := cd_t hb3 hr
  refine CQ.seq ?_
  refine CQ.r0 fine ?_
  refine EVO.p1 (.agg (api_Rat.c x')) ?_
  refine EVO.e1 (.unk) [(1, .own (api_Rat.c x'))] ?_
  refine EVO.done ?_
  refine CQ.ret ?_
  obtain rfl := Option.some.inj hr
  exact FinQ.r1 [.agg (api_Rat.c x')]
 ·replace hr := cd_f hb3 hr
  refine CQ.skip ?_
  refine CQ.seq ?_
  replace hr := bd hr; obtain ⟨v4, hc5, hr⟩ := hr
  refine CQ.region fine (callOf_1 40 [aI64 0] [.own (api_Rat.c x'), .own [aB false, .at (.slice none 0 0), aB false, .at (.slice none 0 0)]] (.loc (.agg (api_Rat.c v4)) [] [] 0) (callOk_ref (l := []) (args' := [aI64 0]) (SnL.cons (Sn.pure rfl) SnL.nil) (fiducialref02_Whole_ok n 0 v4 hc5))) ?_
  refine EVO.c0 (by kernel_rfl) (callOf_at (by kernel_rfl)) ?_
  refine EVO.e1 (.unk) [(1, .own (api_Rat.c v4))] ?_
  refine EVO.done ?_
  refine CQ.ret ?_
  obtain rfl := Option.some.inj hr
  exact FinQ.r1 [.agg (api_Rat.c v4)]

theorem fiducialref02_Neg_ok (n : Nat) (x' : api_Rat) (r : api_Rat) (hr : fiducialref02_Neg n x' = some r) : FnOk Tryz.prog 108 [.agg [.at (.bool x'.Num.Negative), slT (iC .u32) x'.Num.Groups, .at (.bool x'.Den.Negative), slT (iC .u32) x'.Den.Groups]] (.agg [.at (.bool r.Num.Negative), slT (iC .u32) r.Num.Groups, .at (.bool r.Den.Negative), slT (iC .u32) r.Den.Groups]) := by
 unfold fiducialref02_Neg at hr
 refine FnOk.body fine Tryz.func108 (c := (Tryz.f108.body).getD .skip) rfl (s := mkS 12 0 [(0, .agg (api_Rat.c x'))]) (by kernel_rfl) (rs := [.cell 2 39]) rfl ?_
 unfold Tryz.f108
 simp only [Option.getD_some]
 refine CQ.seq ?_
 refine CQ.r0 fine ?_
 refine EVO.e1 (.hp 0 0) [(0, .own (api_Rat.c x'))] ?_
 refine EVO.e1 (.hp 1 0) [(1, .own [aB false, .at (.slice none 0 0), aB false, .at (.slice none 0 0)])] ?_
 refine EVO.done ?_
 refine CQ.n1 [1, 2] (mkS 12 0 [(1, .hp 0 0), (2, .hp 1 0)]) [.own (api_Rat.c x'), .own [aB false, .at (.slice none 0 0), aB false, .at (.slice none 0 0)]] ?_
 refine CQ.seq ?_
 replace hr := bd hr; obtain ⟨v1, hc2, hr⟩ := hr
 refine CQ.region fine (callOf_1 107 [.agg (api_Rat.c x')] [.own (api_Rat.c x'), .own [aB false, .at (.slice none 0 0), aB false, .at (.slice none 0 0)]] (.loc (.agg (api_Rat.c v1)) [] [] 0) (callOk_ref (l := []) (args' := [.agg (api_Rat.c x')]) (SnL.cons (Sn.pure rfl) SnL.nil) (fiducialref02_Value_ok n x' v1 hc2))) ?_
 refine EVO.p1 (.agg (api_Rat.c x')) ?_
 refine EVO.c0 (by kernel_rfl) (callOf_at (by kernel_rfl)) ?_
 refine EVO.e1 (.hp 2 0) [(2, .own [aB false, .at (.slice none 0 0), aB false, .at (.slice none 0 0)])] ?_
 refine EVO.e1 (.unk) [(2, .own (api_Rat.c v1))] ?_
 refine EVO.done ?_
 refine CQ.n1 [2, 3] (mkS 12 0 [(2, .hp 1 0), (3, .hp 2 0)]) [.own (api_Rat.c x'), .own [aB false, .at (.slice none 0 0), aB false, .at (.slice none 0 0)], .own (api_Rat.c v1)] ?_
 refine CQ.seq ?_
 replace hr := bd hr; obtain ⟨v3, hc4, hr⟩ := hr
 refine CQ.regionT fine (callOf_1 137 [.agg (api_Int.c v1.Num)] [.own (api_Rat.c x'), .own [aB false, .at (.slice none 0 0), aB false, .at (.slice none 0 0)], .own (api_Rat.c v1)] (.loc (.agg (api_Int.c v3)) [] [] 0) (callOk_ref (l := []) (args' := [.agg (api_Int.c v1.Num)]) (SnL.cons (Sn.pure rfl) SnL.nil) (fiducialref01_Neg_ok n v1.Num v3 hc4))) ?_
 refine EVT.p1 (.hp 2 0) ?_
 refine EVT.p1 (.agg (api_Int.c v1.Num)) ?_
 refine EVT.cal (by kernel_rfl) (by kernel_rfl) (callOf_at (by kernel_rfl)) (by kernel_rfl) ?_
 refine EVT.p1 (.hp 2 2) ?_
 refine EVT.p1 (.agg (api_Int.c v1.Den)) ?_
 refine EVT.p1 (.agg [aB v3.Negative, sU32 v3.Groups, aB v1.Den.Negative, sU32 v1.Den.Groups]) ?_
 refine EVT.e1 (.unk) [(1, .own [aB v3.Negative, sU32 v3.Groups, aB v1.Den.Negative, sU32 v1.Den.Groups])] ?_
 refine EVT.done ⟨by kernel_rfl, ?_⟩
 refine CQ.ret ?_
 obtain rfl := Option.some.inj hr
 exact FinQ.r1 [.agg [aB v3.Negative, sU32 v3.Groups, aB v1.Den.Negative, sU32 v1.Den.Groups]]

theorem fiducialref01_Mul_inj {x' : api_Int} {y : api_Int} {x'_ : api_Int} {y_ : api_Int} (h : ([.agg [.at (.bool x'.Negative), slT (iC .u32) x'.Groups], .agg [.at (.bool y.Negative), slT (iC .u32) y.Groups]] : List AV) = [.agg [.at (.bool x'_.Negative), slT (iC .u32) x'_.Groups], .agg [.at (.bool y_.Negative), slT (iC .u32) y_.Groups]]) : x' = x'_ ∧ y = y_ := by
 obtain ⟨_, _⟩ := x'
 obtain ⟨_, _⟩ := x'_
 obtain ⟨_, _⟩ := y
 obtain ⟨_, _⟩ := y_
 simp only [List.cons.injEq, AV.agg.injEq, AV.at.injEq, Value.int.injEq, Value.bool.injEq, AV.fn.injEq, AV.pp.injEq, true_and, and_true, slT_inj_int] at h
 simp_all
theorem fiducialref01_Mul_ok (n : Nat) (x' : api_Int) (y : api_Int) (r : api_Int) (hr : fiducialref01_Mul n x' y = some r) : FnOk Tryz.prog 110 [.agg [.at (.bool x'.Negative), slT (iC .u32) x'.Groups], .agg [.at (.bool y.Negative), slT (iC .u32) y.Groups]] (.agg [.at (.bool r.Negative), slT (iC .u32) r.Groups]) := by
 unfold fiducialref01_Mul at hr
 refine FnOk.body fine Tryz.func110 (c := (Tryz.f110.body).getD .skip) rfl (s := mkS 85 0 [(0, .agg (api_Int.c x')), (1, .agg (api_Int.c y))]) (by kernel_rfl) (rs := [.cell 4 37]) rfl ?_
 unfold Tryz.f110
 simp only [Option.getD_some]
 refine CQ.seq ?_
 refine CQ.r0 fine ?_
 refine EVO.e1 (.hp 0 0) [(0, .own (api_Int.c x'))] ?_
 refine EVO.e1 (.hp 1 0) [(1, .own (api_Int.c y))] ?_
 refine EVO.e1 (.hp 2 0) [(2, .own [aB false, .at (.slice none 0 0)])] ?_
 refine EVO.done ?_
 refine CQ.n1 [2, 3, 4] (mkS 85 0 [(2, .hp 0 0), (3, .hp 1 0), (4, .hp 2 0)]) [.own (api_Int.c x'), .own (api_Int.c y), .own [aB false, .at (.slice none 0 0)]] ?_
 refine CQ.seq ?_
 replace hr := bd hr; obtain ⟨v1, hc2, hr⟩ := hr
 replace hr := bd hr; obtain ⟨v3, hc4, hr⟩ := hr
 refine CQ.regionT fine (callOf_ok [{ f := 136, args := [.agg (api_Int.c x')], H := [.own (api_Int.c x'), .own (api_Int.c y), .own [aB false, .at (.slice none 0 0)]], r := .loc (.agg (api_Int.c v1)) [] [] 0 : CE }, { f := 136, args := [.agg (api_Int.c y)], H := [.own (api_Int.c x'), .own (api_Int.c y), .own [aB false, .at (.slice none 0 0)]], r := .loc (.agg (api_Int.c v3)) [] [] 0 : CE }] (List.forall_mem_cons.2 ⟨(callOk_ref (l := []) (args' := [.agg (api_Int.c x')]) (SnL.cons (Sn.pure rfl) SnL.nil) (fiducialref01_Value_ok n x' v1 hc2)), (List.forall_mem_cons.2 ⟨(callOk_ref (l := []) (args' := [.agg (api_Int.c y)]) (SnL.cons (Sn.pure rfl) SnL.nil) (fiducialref01_Value_ok n y v3 hc4)), ce0⟩)⟩)) ?_
 refine EVT.p1 (.agg (api_Int.c x')) ?_
 refine EVT.cal (by kernel_rfl) (by kernel_rfl) (callOf_at (by kernel_rfl)) (by kernel_rfl) ?_
 refine EVT.p1 (.agg (api_Int.c y)) ?_
 refine EVT.cal (by kernel_rfl) (by kernel_rfl) (callOf_skip (fun _ h => by obtain e0 := fiducialref01_Value_inj h; rw [show v3 = v1 from Option.some.inj (hc4.symm.trans ((show fiducialref01_Value n y = fiducialref01_Value n x' from (congr rfl e0)).trans hc2))]) (callOf_at (by kernel_rfl))) (by kernel_rfl) ?_
 refine EVT.e1 (.unk) [(0, .own (api_Int.c v1))] ?_
 refine EVT.e1 (.unk) [(1, .own (api_Int.c v3))] ?_
 refine EVT.done ⟨by kernel_rfl, ?_⟩
 refine CQ.n1 [2, 3, 4] (mkS 85 0 [(2, .hp 0 0), (3, .hp 1 0), (4, .hp 2 0)]) [.own (api_Int.c v1), .own (api_Int.c v3), .own [aB false, .at (.slice none 0 0)]] ?_
 refine CQ.seq ?_
 replace hr := gd hr; obtain ⟨hg5, hr⟩ := hr
 replace hr := gd hr; obtain ⟨hg6, hr⟩ := hr
 replace hr := gd hr; obtain ⟨hg7, hr⟩ := hr
 refine CQ.r0 fine ?_
 refine EVO.p1 (.hp 0 1) ?_
 refine EVO.p1 (sU32 v1.Groups) ?_
 refine EVO.p1 (aI64 (v1.Groups.length : Int)) ?_
 refine EVO.p1 (.hp 1 1) ?_
 refine EVO.p1 (sU32 v3.Groups) ?_
 refine EVO.p1 (aI64 (v3.Groups.length : Int)) ?_
 refine EVO.p1 (aI64 (wrapF .i64 ((v1.Groups.length : Int) + (v3.Groups.length : Int)))) ?_
 refine EVO.e0 (v := .hs 3 0 (List.replicate (wrapF .i64 ((v1.Groups.length : Int) + (v3.Groups.length : Int))).toNat (0 : Int)).length 1) (ws := [(3, .own ((List.replicate (wrapF .i64 ((v1.Groups.length : Int) + (v3.Groups.length : Int))).toNat (0 : Int)).flatMap (iC .u32)))]) (Eq.trans (b := guardO (decide (0 ≤ (wrapF .i64 ((v1.Groups.length : Int) + (v3.Groups.length : Int)))) && decide ((wrapF .i64 ((v1.Groups.length : Int) + (v3.Groups.length : Int))) ≤ (wrapF .i64 ((v1.Groups.length : Int) + (v3.Groups.length : Int)))) && decide ((4 : Int) * (wrapF .i64 ((v1.Groups.length : Int) + (v3.Groups.length : Int))) ≤ 281474976710656) && decide ((wrapF .i64 ((v1.Groups.length : Int) + (v3.Groups.length : Int))) ≤ 9223372036854775807) && true && true && true) (some (.eff (.hs 3 0 (wrapF .i64 ((v1.Groups.length : Int) + (v3.Groups.length : Int))).toNat 1) [(3, .own (zerosA [aU32 0] (wrapF .i64 ((v1.Groups.length : Int) + (v3.Groups.length : Int))).toNat))]))) (by kernel_rfl) (make_own (c := (iC .u32)) (z := 0) rfl hg5 hg6 hg7)) ?_
 refine EVO.p1 (.hs 3 0 (List.replicate (wrapF .i64 ((v1.Groups.length : Int) + (v3.Groups.length : Int))).toNat (0 : Int)).length 1) ?_
 refine EVO.done ?_
 refine CQ.n1 [2, 3, 4, 5] (mkS 85 0 [(2, .hp 0 0), (3, .hp 1 0), (4, .hp 2 0), (5, .hs 3 0 (List.replicate (wrapF .i64 ((v1.Groups.length : Int) + (v3.Groups.length : Int))).toNat (0 : Int)).length 1)]) [.own (api_Int.c v1), .own (api_Int.c v3), .own [aB false, .at (.slice none 0 0)], .own ((List.replicate (wrapF .i64 ((v1.Groups.length : Int) + (v3.Groups.length : Int))).toNat (0 : Int)).flatMap (iC .u32))] ?_
 refine CQ.seq ?_
 refine CQ.seq ?_
 refine CQ.r0 fine ?_
 refine EVO.p1 (aI64 0) ?_
 refine EVO.done ?_
 refine CQ.block ?_
 replace hr := bd hr; obtain ⟨out_29, hL51, hr⟩ := hr
 refine CQ.loopO (σ := fun z0 => match z0 with | (out_8, i_9) => ⟨mkS 85 0 [(2, .hp 0 0), (3, .hp 1 0), (4, .hp 2 0), (5, .hs 3 0 out_8.length 1), (6, aI64 i_9)], [.own (api_Int.c v1), .own (api_Int.c v3), .own [aB false, .at (.slice none 0 0)], .own (out_8.flatMap (iC .u32))]⟩) (Q := fun x st' => x = .exit 0 ∧ Wk 0 st' ⟨mkS 85 0 [(2, .hp 0 0), (3, .hp 1 0), (4, .hp 2 0), (5, .hs 3 0 out_29.length 1)], [.own (api_Int.c v1), .own (api_Int.c v3), .own [aB false, .at (.slice none 0 0)], .own (out_29.flatMap (iC .u32))]⟩) hL51 ((Wk.gc [2, 3, 4, 5, 6] [(0, true), (1, true), (2, true), (3, false)] rfl (by exact ⟨ids_flat (iC_pure _) _, trivial⟩)).to (by kernel_rfl)) ?_ ?_
 ·clear hr
  rintro m ⟨out_8, i_9⟩ hr
  show CQ _ _ _ _ _ ⟨_, _⟩
  refine CQ.seq ?_
  refine CQ.seq ?_
  refine CQ.r0 fine ?_
  refine EVO.p1 (aI64 i_9) ?_
  refine EVO.p1 (.hp 0 1) ?_
  refine EVO.p1 (sU32 v1.Groups) ?_
  refine EVO.p1 (aI64 (v1.Groups.length : Int)) ?_
  refine EVO.p1 (aB (decide (i_9 < (v1.Groups.length : Int)))) ?_
  refine EVO.done ?_
  refine CQ.n1 [2, 3, 4, 5, 6, 26] (mkS 85 0 [(2, .hp 0 0), (3, .hp 1 0), (4, .hp 2 0), (5, .hs 3 0 out_8.length 1), (6, aI64 i_9), (26, aB (decide (i_9 < (v1.Groups.length : Int))))]) [.own (api_Int.c v1), .own (api_Int.c v3), .own [aB false, .at (.slice none 0 0)], .own (out_8.flatMap (iC .u32))] ?_
  refine CQ.cond (t := decide (i_9 < (v1.Groups.length : Int))) (by kernel_rfl) (fun hb31 => ?_) (fun hb31 => ?_)
  ·replace hr := cd_t hb31 hr
   refine CQ.skip ?_
   refine CQ.seq ?_
   refine CQ.block ?_
   refine CQ.seq ?_
   refine CQ.r0 fine ?_
   refine EVO.p1 (aU64 0) ?_
   refine EVO.done ?_
   refine CQ.n1 [2, 3, 4, 5, 6, 7] (mkS 85 0 [(2, .hp 0 0), (3, .hp 1 0), (4, .hp 2 0), (5, .hs 3 0 out_8.length 1), (6, aI64 i_9), (7, aU64 0)]) [.own (api_Int.c v1), .own (api_Int.c v3), .own [aB false, .at (.slice none 0 0)], .own (out_8.flatMap (iC .u32))] ?_
   refine CQ.seq ?_
   refine CQ.seq ?_
   refine CQ.r0 fine ?_
   refine EVO.p1 (aI64 0) ?_
   refine EVO.done ?_
   refine CQ.block ?_
   replace hr := bd hr; obtain ⟨o46, hL47, hr⟩ := hr
   refine CQ.loopO (σ := fun z0 => match z0 with | (out_32, carry_33, j_34) => ⟨mkS 85 0 [(2, .hp 0 0), (3, .hp 1 0), (4, .hp 2 0), (5, .hs 3 0 out_32.length 1), (6, aI64 i_9), (7, aU64 carry_33), (8, aI64 j_34)], [.own (api_Int.c v1), .own (api_Int.c v3), .own [aB false, .at (.slice none 0 0)], .own (out_32.flatMap (iC .u32))]⟩) (Q := fun x st' => match (generalizing := false) o46 with | (out_39, carry_40) => x = .exit 2 ∧ Wk 0 st' ⟨mkS 85 0 [(2, .hp 0 0), (3, .hp 1 0), (4, .hp 2 0), (5, .hs 3 0 out_39.length 1), (6, aI64 i_9), (7, aU64 carry_40)], [.own (api_Int.c v1), .own (api_Int.c v3), .own [aB false, .at (.slice none 0 0)], .own (out_39.flatMap (iC .u32))]⟩) hL47 ((Wk.gc [2, 3, 4, 5, 6, 7, 8] [(0, true), (1, true), (2, true), (3, false)] rfl (by exact ⟨ids_flat (iC_pure _) _, trivial⟩)).to (by kernel_rfl)) ?_ ?_
   ·clear hr
    rintro m ⟨out_32, carry_33, j_34⟩ hr
    show CQ _ _ _ _ _ ⟨_, _⟩
    refine CQ.seq ?_
    refine CQ.seq ?_
    refine CQ.r0 fine ?_
    refine EVO.p1 (aI64 j_34) ?_
    refine EVO.p1 (.hp 1 1) ?_
    refine EVO.p1 (sU32 v3.Groups) ?_
    refine EVO.p1 (aI64 (v3.Groups.length : Int)) ?_
    refine EVO.p1 (aB (decide (j_34 < (v3.Groups.length : Int)))) ?_
    refine EVO.done ?_
    refine CQ.n1 [2, 3, 4, 5, 6, 7, 8, 33] (mkS 85 0 [(2, .hp 0 0), (3, .hp 1 0), (4, .hp 2 0), (5, .hs 3 0 out_32.length 1), (6, aI64 i_9), (7, aU64 carry_33), (8, aI64 j_34), (33, aB (decide (j_34 < (v3.Groups.length : Int))))]) [.own (api_Int.c v1), .own (api_Int.c v3), .own [aB false, .at (.slice none 0 0)], .own (out_32.flatMap (iC .u32))] ?_
    refine CQ.cond (t := decide (j_34 < (v3.Groups.length : Int))) (by kernel_rfl) (fun hb42 => ?_) (fun hb42 => ?_)
    ·replace hr := cd_t hb42 hr
     refine CQ.skip ?_
     refine CQ.seq ?_
     refine CQ.block ?_
     refine CQ.seq ?_
     replace hr := gd hr; obtain ⟨hg43, hr⟩ := hr
     replace hr := gd hr; obtain ⟨hg44, hr⟩ := hr
     replace hr := gd hr; obtain ⟨hg45, hr⟩ := hr
     refine CQ.regionT fine callOf_nil ?_
     refine EVT.p1 (.hs 3 0 out_32.length 1) ?_
     refine EVT.p1 (aI64 i_9) ?_
     refine EVT.p1 (aI64 j_34) ?_
     refine EVT.p1 (aI64 (wrapF .i64 (i_9 + j_34))) ?_
     refine EVT.pure (v := .hp 3 (0 + (wrapF .i64 (i_9 + j_34)).toNat * 1)) (by kernel_rfl) (Eq.trans (b := ORes.ofP (guardV (inR (wrapF .i64 (i_9 + j_34)) out_32.length) (.hp 3 (0 + (wrapF .i64 (i_9 + j_34)).toNat * 1)))) (by kernel_rfl) (ofP_guard hg43)) (by kernel_rfl) ?_
     refine EVT.pure (v := aU32 (gt out_32 (wrapF .i64 (i_9 + j_34)))) (by kernel_rfl) (Eq.trans (b := ORes.ofP ((out_32.flatMap (iC .u32))[0 + (wrapF .i64 (i_9 + j_34)).toNat * 1]?)) (by kernel_rfl) (ofP_some (flat_get (iC_len _) (inR_lt hg43) (by decide : 0 < 1) (by omega : 0 + (wrapF .i64 (i_9 + j_34)).toNat * 1 = (wrapF .i64 (i_9 + j_34)).toNat * 1 + 0) (by kernel_rfl)))) (by kernel_rfl) ?_
     refine EVT.p1 (aU64 (wrapF .u64 (gt out_32 (wrapF .i64 (i_9 + j_34))))) ?_
     refine EVT.p1 (.hp 0 1) ?_
     refine EVT.p1 (sU32 v1.Groups) ?_
     refine EVT.p1 (aI64 i_9) ?_
     refine EVT.pure (v := .pp (v1.Groups.flatMap (iC .u32)) (i_9.toNat * 1)) (by kernel_rfl) (Eq.trans (b := ORes.ofP (guardV (inR i_9 v1.Groups.length) (.pp (v1.Groups.flatMap (iC .u32)) (i_9.toNat * 1)))) (by kernel_rfl) (ofP_guard hg44)) (by kernel_rfl) ?_
     refine EVT.pure (v := aU32 (gt v1.Groups i_9)) (by kernel_rfl) (Eq.trans (b := ORes.ofP ((v1.Groups.flatMap (iC .u32))[i_9.toNat * 1]?)) (by kernel_rfl) (ofP_some (flat_get (iC_len _) (inR_lt hg44) (by decide : 0 < 1) (by omega : i_9.toNat * 1 = i_9.toNat * 1 + 0) (by kernel_rfl)))) (by kernel_rfl) ?_
     refine EVT.p1 (aU64 (wrapF .u64 (gt v1.Groups i_9))) ?_
     refine EVT.p1 (.hp 1 1) ?_
     refine EVT.p1 (sU32 v3.Groups) ?_
     refine EVT.p1 (aI64 j_34) ?_
     refine EVT.pure (v := .pp (v3.Groups.flatMap (iC .u32)) (j_34.toNat * 1)) (by kernel_rfl) (Eq.trans (b := ORes.ofP (guardV (inR j_34 v3.Groups.length) (.pp (v3.Groups.flatMap (iC .u32)) (j_34.toNat * 1)))) (by kernel_rfl) (ofP_guard hg45)) (by kernel_rfl) ?_
     refine EVT.pure (v := aU32 (gt v3.Groups j_34)) (by kernel_rfl) (Eq.trans (b := ORes.ofP ((v3.Groups.flatMap (iC .u32))[j_34.toNat * 1]?)) (by kernel_rfl) (ofP_some (flat_get (iC_len _) (inR_lt hg45) (by decide : 0 < 1) (by omega : j_34.toNat * 1 = j_34.toNat * 1 + 0) (by kernel_rfl)))) (by kernel_rfl) ?_
     refine EVT.p1 (aU64 (wrapF .u64 (gt v3.Groups j_34))) ?_
     refine EVT.p1 (aU64 (wrapF .u64 ((wrapF .u64 (gt v1.Groups i_9)) * (wrapF .u64 (gt v3.Groups j_34))))) ?_
     refine EVT.p1 (aU64 (wrapF .u64 ((wrapF .u64 (gt out_32 (wrapF .i64 (i_9 + j_34)))) + (wrapF .u64 ((wrapF .u64 (gt v1.Groups i_9)) * (wrapF .u64 (gt v3.Groups j_34))))))) ?_
     refine EVT.p1 (aU64 carry_33) ?_
     refine EVT.p1 (aU64 (wrapF .u64 ((wrapF .u64 ((wrapF .u64 (gt out_32 (wrapF .i64 (i_9 + j_34)))) + (wrapF .u64 ((wrapF .u64 (gt v1.Groups i_9)) * (wrapF .u64 (gt v3.Groups j_34)))))) + carry_33))) ?_
     refine EVT.p1 (aU64 (wrapF .u64 ((wrapF .u64 ((wrapF .u64 (gt out_32 (wrapF .i64 (i_9 + j_34)))) + (wrapF .u64 ((wrapF .u64 (gt v1.Groups i_9)) * (wrapF .u64 (gt v3.Groups j_34)))))) + carry_33))) ?_
     refine EVT.done ⟨by kernel_rfl, ?_⟩
     refine CQ.n1 [2, 3, 4, 5, 6, 8, 9] (mkS 85 0 [(2, .hp 0 0), (3, .hp 1 0), (4, .hp 2 0), (5, .hs 3 0 out_32.length 1), (6, aI64 i_9), (8, aI64 j_34), (9, aU64 (wrapF .u64 ((wrapF .u64 ((wrapF .u64 (gt out_32 (wrapF .i64 (i_9 + j_34)))) + (wrapF .u64 ((wrapF .u64 (gt v1.Groups i_9)) * (wrapF .u64 (gt v3.Groups j_34)))))) + carry_33)))]) [.own (api_Int.c v1), .own (api_Int.c v3), .own [aB false, .at (.slice none 0 0)], .own (out_32.flatMap (iC .u32))] ?_
     refine CQ.seq ?_
     refine CQ.r0 fine ?_
     refine EVO.p1 (.hs 3 0 out_32.length 1) ?_
     refine EVO.p1 (aI64 i_9) ?_
     refine EVO.p1 (aI64 j_34) ?_
     refine EVO.p1 (aI64 (wrapF .i64 (i_9 + j_34))) ?_
     refine EVO.p1 (aU64 (wrapF .u64 ((wrapF .u64 ((wrapF .u64 (gt out_32 (wrapF .i64 (i_9 + j_34)))) + (wrapF .u64 ((wrapF .u64 (gt v1.Groups i_9)) * (wrapF .u64 (gt v3.Groups j_34)))))) + carry_33))) ?_
     refine EVO.p1 (aU64 ((wrapF .u64 ((wrapF .u64 ((wrapF .u64 (gt out_32 (wrapF .i64 (i_9 + j_34)))) + (wrapF .u64 ((wrapF .u64 (gt v1.Groups i_9)) * (wrapF .u64 (gt v3.Groups j_34)))))) + carry_33)).tmod 1000000000)) ?_
     refine EVO.p1 (aU32 (wrapF .u32 ((wrapF .u64 ((wrapF .u64 ((wrapF .u64 (gt out_32 (wrapF .i64 (i_9 + j_34)))) + (wrapF .u64 ((wrapF .u64 (gt v1.Groups i_9)) * (wrapF .u64 (gt v3.Groups j_34)))))) + carry_33)).tmod 1000000000))) ?_
     refine EVO.p0 (v := .hp 3 (0 + (wrapF .i64 (i_9 + j_34)).toNat * 1)) (Eq.trans (b := ORes.ofP (guardV (inR (wrapF .i64 (i_9 + j_34)) out_32.length) (.hp 3 (0 + (wrapF .i64 (i_9 + j_34)).toNat * 1)))) (by kernel_rfl) (ofP_guard hg43)) ?_
     refine EVO.e0 (v := .unk) (ws := [(3, .own ((out_32.set (wrapF .i64 (i_9 + j_34)).toNat (wrapF .u32 ((wrapF .u64 ((wrapF .u64 ((wrapF .u64 (gt out_32 (wrapF .i64 (i_9 + j_34)))) + (wrapF .u64 ((wrapF .u64 (gt v1.Groups i_9)) * (wrapF .u64 (gt v3.Groups j_34)))))) + carry_33)).tmod 1000000000))).flatMap (iC .u32)))]) (Eq.trans (b := stO (decide ((0 + (wrapF .i64 (i_9 + j_34)).toNat * 1) + 1 ≤ (out_32.flatMap (iC .u32)).length) && true) [(3, .own (setCells (out_32.flatMap (iC .u32)) (0 + (wrapF .i64 (i_9 + j_34)).toNat * 1) [aU32 (wrapF .u32 ((wrapF .u64 ((wrapF .u64 ((wrapF .u64 (gt out_32 (wrapF .i64 (i_9 + j_34)))) + (wrapF .u64 ((wrapF .u64 (gt v1.Groups i_9)) * (wrapF .u64 (gt v3.Groups j_34)))))) + carry_33)).tmod 1000000000))]))]) (by kernel_rfl) (stO_t (and_t (flat_fits (iC_len _) (inR_lt hg43) (Nat.le_of_ble_eq_true rfl) (by omega : 0 + (wrapF .i64 (i_9 + j_34)).toNat * 1 = (wrapF .i64 (i_9 + j_34)).toNat * 1 + 0))) (congrArg Blk.own (flat_set (iC_len _) (inR_lt hg43) (Nat.le_of_ble_eq_true rfl) (by omega : 0 + (wrapF .i64 (i_9 + j_34)).toNat * 1 = (wrapF .i64 (i_9 + j_34)).toNat * 1 + 0) (by kernel_rfl))))) ?_
     refine EVO.done ?_
     refine CQ.n1 [2, 3, 4, 5, 6, 8, 9] (mkS 85 0 [(2, .hp 0 0), (3, .hp 1 0), (4, .hp 2 0), (5, .hs 3 0 out_32.length 1), (6, aI64 i_9), (8, aI64 j_34), (9, aU64 (wrapF .u64 ((wrapF .u64 ((wrapF .u64 (gt out_32 (wrapF .i64 (i_9 + j_34)))) + (wrapF .u64 ((wrapF .u64 (gt v1.Groups i_9)) * (wrapF .u64 (gt v3.Groups j_34)))))) + carry_33)))]) [.own (api_Int.c v1), .own (api_Int.c v3), .own [aB false, .at (.slice none 0 0)], .own ((out_32.set (wrapF .i64 (i_9 + j_34)).toNat (wrapF .u32 ((wrapF .u64 ((wrapF .u64 ((wrapF .u64 (gt out_32 (wrapF .i64 (i_9 + j_34)))) + (wrapF .u64 ((wrapF .u64 (gt v1.Groups i_9)) * (wrapF .u64 (gt v3.Groups j_34)))))) + carry_33)).tmod 1000000000))).flatMap (iC .u32))] ?_
     refine CQ.r0 fine ?_
     refine EVO.p1 (aU64 (wrapF .u64 ((wrapF .u64 ((wrapF .u64 (gt out_32 (wrapF .i64 (i_9 + j_34)))) + (wrapF .u64 ((wrapF .u64 (gt v1.Groups i_9)) * (wrapF .u64 (gt v3.Groups j_34)))))) + carry_33))) ?_
     refine EVO.p1 (aU64 (wrapF .u64 ((wrapF .u64 ((wrapF .u64 ((wrapF .u64 (gt out_32 (wrapF .i64 (i_9 + j_34)))) + (wrapF .u64 ((wrapF .u64 (gt v1.Groups i_9)) * (wrapF .u64 (gt v3.Groups j_34)))))) + carry_33)).tdiv 1000000000))) ?_
     refine EVO.p1 (aU64 (wrapF .u64 ((wrapF .u64 ((wrapF .u64 ((wrapF .u64 (gt out_32 (wrapF .i64 (i_9 + j_34)))) + (wrapF .u64 ((wrapF .u64 (gt v1.Groups i_9)) * (wrapF .u64 (gt v3.Groups j_34)))))) + carry_33)).tdiv 1000000000))) ?_
     refine EVO.done ?_
     refine CQ.pop ?_
     refine CQ.r0 fine ?_
     refine EVO.p1 (aI64 j_34) ?_
     refine EVO.p1 (aI64 (wrapF .i64 (j_34 + 1))) ?_
     refine EVO.p1 (aI64 (wrapF .i64 (j_34 + 1))) ?_
     refine EVO.done ?_
     exact loopF_back (out_32.set (wrapF .i64 (i_9 + j_34)).toNat (wrapF .u32 ((wrapF .u64 ((wrapF .u64 ((wrapF .u64 (gt out_32 (wrapF .i64 (i_9 + j_34)))) + (wrapF .u64 ((wrapF .u64 (gt v1.Groups i_9)) * (wrapF .u64 (gt v3.Groups j_34)))))) + carry_33)).tmod 1000000000)), wrapF .u64 ((wrapF .u64 ((wrapF .u64 ((wrapF .u64 (gt out_32 (wrapF .i64 (i_9 + j_34)))) + (wrapF .u64 ((wrapF .u64 (gt v1.Groups i_9)) * (wrapF .u64 (gt v3.Groups j_34)))))) + carry_33)).tdiv 1000000000), wrapF .i64 (j_34 + 1)) hr ((Wk.relen 5 (b := 3) (es := 1) (len := out_32.length) (out_32.set (wrapF .i64 (i_9 + j_34)).toNat (wrapF .u32 ((wrapF .u64 ((wrapF .u64 ((wrapF .u64 (gt out_32 (wrapF .i64 (i_9 + j_34)))) + (wrapF .u64 ((wrapF .u64 (gt v1.Groups i_9)) * (wrapF .u64 (gt v3.Groups j_34)))))) + carry_33)).tmod 1000000000))).length (by kernel_rfl) (by simp)).trans ((Wk.gc [2, 3, 4, 5, 6, 7, 8] [(0, true), (1, true), (2, true), (3, false)] rfl (by exact ⟨ids_flat (iC_pure _) _, trivial⟩)).to (by kernel_rfl)))
    ·replace hr := cd_f hb42 hr
     refine CQ.leave rfl ?_
     obtain rfl := Option.some.inj hr
     exact ⟨rfl, ((Wk.gc [2, 3, 4, 5, 6, 7] [(0, true), (1, true), (2, true), (3, false)] rfl (by exact ⟨ids_flat (iC_pure _) _, trivial⟩)).to (by kernel_rfl))⟩
   ·rcases o46 with ⟨out_39, carry_40⟩
    rintro x st' hq48
    clear hL47
    obtain ⟨rfl, hq48⟩ := hq48
    refine CQ_exit _ rfl ?_
    refine CQ.wk hq48 ?_
    replace hr := gd hr; obtain ⟨hg49, hr⟩ := hr
    refine CQ.r0 fine ?_
    refine EVO.p1 (.hs 3 0 out_39.length 1) ?_
    refine EVO.p1 (aI64 i_9) ?_
    refine EVO.p1 (.hp 1 1) ?_
    refine EVO.p1 (sU32 v3.Groups) ?_
    refine EVO.p1 (aI64 (v3.Groups.length : Int)) ?_
    refine EVO.p1 (aI64 (wrapF .i64 (i_9 + (v3.Groups.length : Int)))) ?_
    refine EVO.p1 (aU64 carry_40) ?_
    refine EVO.p1 (aU32 (wrapF .u32 carry_40)) ?_
    refine EVO.p0 (v := .hp 3 (0 + (wrapF .i64 (i_9 + (v3.Groups.length : Int))).toNat * 1)) (Eq.trans (b := ORes.ofP (guardV (inR (wrapF .i64 (i_9 + (v3.Groups.length : Int))) out_39.length) (.hp 3 (0 + (wrapF .i64 (i_9 + (v3.Groups.length : Int))).toNat * 1)))) (by kernel_rfl) (ofP_guard hg49)) ?_
    refine EVO.e0 (v := .unk) (ws := [(3, .own ((out_39.set (wrapF .i64 (i_9 + (v3.Groups.length : Int))).toNat (wrapF .u32 carry_40)).flatMap (iC .u32)))]) (Eq.trans (b := stO (decide ((0 + (wrapF .i64 (i_9 + (v3.Groups.length : Int))).toNat * 1) + 1 ≤ (out_39.flatMap (iC .u32)).length) && true) [(3, .own (setCells (out_39.flatMap (iC .u32)) (0 + (wrapF .i64 (i_9 + (v3.Groups.length : Int))).toNat * 1) [aU32 (wrapF .u32 carry_40)]))]) (by kernel_rfl) (stO_t (and_t (flat_fits (iC_len _) (inR_lt hg49) (Nat.le_of_ble_eq_true rfl) (by omega : 0 + (wrapF .i64 (i_9 + (v3.Groups.length : Int))).toNat * 1 = (wrapF .i64 (i_9 + (v3.Groups.length : Int))).toNat * 1 + 0))) (congrArg Blk.own (flat_set (iC_len _) (inR_lt hg49) (Nat.le_of_ble_eq_true rfl) (by omega : 0 + (wrapF .i64 (i_9 + (v3.Groups.length : Int))).toNat * 1 = (wrapF .i64 (i_9 + (v3.Groups.length : Int))).toNat * 1 + 0) (by kernel_rfl))))) ?_
    refine EVO.done ?_
    refine CQ.pop ?_
    refine CQ.r0 fine ?_
    refine EVO.p1 (aI64 i_9) ?_
    refine EVO.p1 (aI64 (wrapF .i64 (i_9 + 1))) ?_
    refine EVO.p1 (aI64 (wrapF .i64 (i_9 + 1))) ?_
    refine EVO.done ?_
    exact loopF_back (out_39.set (wrapF .i64 (i_9 + (v3.Groups.length : Int))).toNat (wrapF .u32 carry_40), wrapF .i64 (i_9 + 1)) hr ((Wk.relen 5 (b := 3) (es := 1) (len := out_39.length) (out_39.set (wrapF .i64 (i_9 + (v3.Groups.length : Int))).toNat (wrapF .u32 carry_40)).length (by kernel_rfl) (by simp)).trans ((Wk.gc [2, 3, 4, 5, 6] [(0, true), (1, true), (2, true), (3, false)] rfl (by exact ⟨ids_flat (iC_pure _) _, trivial⟩)).to (by kernel_rfl)))
  ·replace hr := cd_f hb31 hr
   refine CQ.leave rfl ?_
   obtain rfl := Option.some.inj hr
   exact ⟨rfl, ((Wk.gc [2, 3, 4, 5] [(0, true), (1, true), (2, true), (3, false)] rfl (by exact ⟨ids_flat (iC_pure _) _, trivial⟩)).to (by kernel_rfl))⟩
 ·rintro x st' hq52
  clear hL51
  obtain ⟨rfl, hq52⟩ := hq52
  refine CQ_exit _ rfl ?_
  refine CQ.wk hq52 ?_
  refine CQ.seq ?_
  replace hr := bd hr; obtain ⟨v53, hc54, hr⟩ := hr
  refine CQ.region fine (callOf_1 139 [aB (v1.Negative != v3.Negative), .hs 3 0 out_29.length 1] [.own (api_Int.c v1), .own (api_Int.c v3), .own [aB false, .at (.slice none 0 0)], .own (out_29.flatMap (iC .u32))] (.loc (.agg (api_Int.c v53)) [(3, .fix (out_29.flatMap (iC .u32)))] [3] 0) (callOk_ref (l := [3]) (args' := [aB (v1.Negative != v3.Negative), sU32 out_29]) (SnL.cons (Sn.pure rfl) (SnL.cons (Sn.hs rfl (.inl rfl) (SnC.pure (ids_flat (iC_pure _) _)) (fun h => flat_nil0 h)) SnL.nil)) (fiducialref01_made_ok n (v1.Negative != v3.Negative) out_29 v53 hc54))) ?_
  refine EVO.p1 (.hp 0 0) ?_
  refine EVO.p1 (aB v1.Negative) ?_
  refine EVO.p1 (.hp 1 0) ?_
  refine EVO.p1 (aB v3.Negative) ?_
  refine EVO.p1 (aB (v1.Negative != v3.Negative)) ?_
  refine EVO.p1 (.hs 3 0 out_29.length 1) ?_
  refine EVO.c0 (by kernel_rfl) (callOf_at (by kernel_rfl)) ?_
  refine EVO.e1 (.unk) [(2, .own (api_Int.c v53))] ?_
  refine EVO.done ?_
  refine CQ.ret ?_
  obtain rfl := Option.some.inj hr
  exact FinQ.r1 [.agg (api_Int.c v53)]

theorem fiducialref01_Divide_ok (n : Nat) (x' : api_Int) (y : api_Int) (r : api_Int × api_Int × Int) (hr : fiducialref01_Divide n x' y = some r) : FnOk Tryz.prog 138 [.agg [.at (.bool x'.Negative), slT (iC .u32) x'.Groups], .agg [.at (.bool y.Negative), slT (iC .u32) y.Groups]] (.tup [.agg [.at (.bool r.1.Negative), slT (iC .u32) r.1.Groups], .agg [.at (.bool r.2.1.Negative), slT (iC .u32) r.2.1.Groups], .at (.int .i64 r.2.2)]) := by
 unfold fiducialref01_Divide at hr
 refine FnOk.body fine Tryz.func138 (c := (Tryz.f138.body).getD .skip) rfl (s := mkS 54 0 [(0, .agg (api_Int.c x')), (1, .agg (api_Int.c y))]) (by kernel_rfl) (rs := [.cell 4 37, .cell 5 37, .tmp 6]) rfl ?_
 unfold Tryz.f138
 simp only [Option.getD_some]
 refine CQ.seq ?_
 refine CQ.r0 fine ?_
 refine EVO.e1 (.hp 0 0) [(0, .own (api_Int.c x'))] ?_
 refine EVO.e1 (.hp 1 0) [(1, .own (api_Int.c y))] ?_
 refine EVO.e1 (.hp 2 0) [(2, .own [aB false, .at (.slice none 0 0)])] ?_
 refine EVO.e1 (.hp 3 0) [(3, .own [aB false, .at (.slice none 0 0)])] ?_
 refine EVO.p1 (aI64 0) ?_
 refine EVO.done ?_
 refine CQ.n1 [2, 3, 4, 5] (mkS 54 0 [(2, .hp 0 0), (3, .hp 1 0), (4, .hp 2 0), (5, .hp 3 0)]) [.own (api_Int.c x'), .own (api_Int.c y), .own [aB false, .at (.slice none 0 0)], .own [aB false, .at (.slice none 0 0)]] ?_
 refine CQ.seq ?_
 replace hr := bd hr; obtain ⟨v1, hc2, hr⟩ := hr
 replace hr := bd hr; obtain ⟨v3, hc4, hr⟩ := hr
 refine CQ.regionT fine (callOf_ok [{ f := 136, args := [.agg (api_Int.c x')], H := [.own (api_Int.c x'), .own (api_Int.c y), .own [aB false, .at (.slice none 0 0)], .own [aB false, .at (.slice none 0 0)]], r := .loc (.agg (api_Int.c v1)) [] [] 0 : CE }, { f := 136, args := [.agg (api_Int.c y)], H := [.own (api_Int.c x'), .own (api_Int.c y), .own [aB false, .at (.slice none 0 0)], .own [aB false, .at (.slice none 0 0)]], r := .loc (.agg (api_Int.c v3)) [] [] 0 : CE }] (List.forall_mem_cons.2 ⟨(callOk_ref (l := []) (args' := [.agg (api_Int.c x')]) (SnL.cons (Sn.pure rfl) SnL.nil) (fiducialref01_Value_ok n x' v1 hc2)), (List.forall_mem_cons.2 ⟨(callOk_ref (l := []) (args' := [.agg (api_Int.c y)]) (SnL.cons (Sn.pure rfl) SnL.nil) (fiducialref01_Value_ok n y v3 hc4)), ce0⟩)⟩)) ?_
 refine EVT.p1 (.agg (api_Int.c x')) ?_
 refine EVT.cal (by kernel_rfl) (by kernel_rfl) (callOf_at (by kernel_rfl)) (by kernel_rfl) ?_
 refine EVT.p1 (.agg (api_Int.c y)) ?_
 refine EVT.cal (by kernel_rfl) (by kernel_rfl) (callOf_skip (fun _ h => by obtain e0 := fiducialref01_Value_inj h; rw [show v3 = v1 from Option.some.inj (hc4.symm.trans ((show fiducialref01_Value n y = fiducialref01_Value n x' from (congr rfl e0)).trans hc2))]) (callOf_at (by kernel_rfl))) (by kernel_rfl) ?_
 refine EVT.e1 (.unk) [(0, .own (api_Int.c v1))] ?_
 refine EVT.e1 (.unk) [(1, .own (api_Int.c v3))] ?_
 refine EVT.done ⟨by kernel_rfl, ?_⟩
 refine CQ.n1 [2, 3, 4, 5] (mkS 54 0 [(2, .hp 0 0), (3, .hp 1 0), (4, .hp 2 0), (5, .hp 3 0)]) [.own (api_Int.c v1), .own (api_Int.c v3), .own [aB false, .at (.slice none 0 0)], .own [aB false, .at (.slice none 0 0)]] ?_
 refine CQ.seq ?_
 refine CQ.seq ?_
 refine CQ.r0 fine ?_
 refine EVO.p1 (.hp 1 1) ?_
 refine EVO.p1 (sU32 v3.Groups) ?_
 refine EVO.p1 (aI64 (v3.Groups.length : Int)) ?_
 refine EVO.p1 (aB (((v3.Groups.length : Int) : Int) == 0)) ?_
 refine EVO.done ?_
 refine CQ.n1 [2, 3, 4, 5, 17] (mkS 54 0 [(2, .hp 0 0), (3, .hp 1 0), (4, .hp 2 0), (5, .hp 3 0), (17, aB (((v3.Groups.length : Int) : Int) == 0))]) [.own (api_Int.c v1), .own (api_Int.c v3), .own [aB false, .at (.slice none 0 0)], .own [aB false, .at (.slice none 0 0)]] ?_
 refine CQ.cond (t := ((v3.Groups.length : Int) : Int) == 0) (by kernel_rfl) (fun hb5 => ?_) (fun hb5 => ?_)
 ·replace hr := cd_t hb5 hr
  refine CQ.seq ?_
  refine CQ.r0 fine ?_
  refine EVO.p1 (.agg [aB false, .at (.slice none 0 0)]) ?_
  refine EVO.p1 (.agg [aB false, .at (.slice none 0 0)]) ?_
  refine EVO.e1 (.unk) [(2, .own [aB false, .at (.slice none 0 0)])] ?_
  refine EVO.e1 (.unk) [(3, .own [aB false, .at (.slice none 0 0)])] ?_
  refine EVO.p1 (aI64 14) ?_
  refine EVO.done ?_
  refine CQ.ret ?_
  obtain rfl := Option.some.inj hr
  exact FinQ.ret (vs := [.agg [aB false, .at (.slice none 0 0)], .agg [aB false, .at (.slice none 0 0)], aI64 14]) (by kernel_rfl) (Sn.tup (SnL.cons (Sn.agg (SnL.cons (Sn.pure rfl) (SnL.cons Sn.nilsl SnL.nil))) (SnL.cons (Sn.agg (SnL.cons (Sn.pure rfl) (SnL.cons Sn.nilsl SnL.nil))) (SnL.cons (Sn.pure rfl) SnL.nil))))
 ·replace hr := cd_f hb5 hr
  refine CQ.skip ?_
  refine CQ.seq ?_
  replace hr := bd hr; obtain ⟨v6, hc7, hr⟩ := hr
  refine CQ.region fine (callOf_1 141 [sU32 v1.Groups, sU32 v3.Groups] [.own (api_Int.c v1), .own (api_Int.c v3), .own [aB false, .at (.slice none 0 0)], .own [aB false, .at (.slice none 0 0)]] (.loc (.tup [sU32 v6.1, sU32 v6.2]) [] [] 0) (callOk_ref (l := []) (args' := [sU32 v1.Groups, sU32 v3.Groups]) (SnL.cons (Sn.pure rfl) (SnL.cons (Sn.pure rfl) SnL.nil)) (fiducialref01_parts_ok n v1.Groups v3.Groups v6 hc7))) ?_
  refine EVO.p1 (.hp 0 1) ?_
  refine EVO.p1 (sU32 v1.Groups) ?_
  refine EVO.p1 (.hp 1 1) ?_
  refine EVO.p1 (sU32 v3.Groups) ?_
  refine EVO.c0 (by kernel_rfl) (callOf_at (by kernel_rfl)) ?_
  refine EVO.p1 (.tup [sU32 v6.1, sU32 v6.2]) ?_
  refine EVO.p1 (sU32 v6.1) ?_
  refine EVO.p1 (sU32 v6.2) ?_
  refine EVO.p1 (sU32 v6.1) ?_
  refine EVO.p1 (sU32 v6.2) ?_
  refine EVO.done ?_
  refine CQ.n1 [2, 3, 4, 5, 7, 8] (mkS 54 0 [(2, .hp 0 0), (3, .hp 1 0), (4, .hp 2 0), (5, .hp 3 0), (7, sU32 v6.1), (8, sU32 v6.2)]) [.own (api_Int.c v1), .own (api_Int.c v3), .own [aB false, .at (.slice none 0 0)], .own [aB false, .at (.slice none 0 0)]] ?_
  refine CQ.seq ?_
  replace hr := bd hr; obtain ⟨v8, hc9, hr⟩ := hr
  refine CQ.region fine (callOf_1 139 [aB (v1.Negative != v3.Negative), sU32 v6.1] [.own (api_Int.c v1), .own (api_Int.c v3), .own [aB false, .at (.slice none 0 0)], .own [aB false, .at (.slice none 0 0)]] (.loc (.agg (api_Int.c v8)) [] [] 0) (callOk_ref (l := []) (args' := [aB (v1.Negative != v3.Negative), sU32 v6.1]) (SnL.cons (Sn.pure rfl) (SnL.cons (Sn.pure rfl) SnL.nil)) (fiducialref01_made_ok n (v1.Negative != v3.Negative) v6.1 v8 hc9))) ?_
  refine EVO.p1 (.hp 0 0) ?_
  refine EVO.p1 (aB v1.Negative) ?_
  refine EVO.p1 (.hp 1 0) ?_
  refine EVO.p1 (aB v3.Negative) ?_
  refine EVO.p1 (aB (v1.Negative != v3.Negative)) ?_
  refine EVO.p1 (sU32 v6.1) ?_
  refine EVO.c0 (by kernel_rfl) (callOf_at (by kernel_rfl)) ?_
  refine EVO.e1 (.hp 4 0) [(4, .own [aB false, .at (.slice none 0 0)])] ?_
  refine EVO.e1 (.unk) [(4, .own (api_Int.c v8))] ?_
  refine EVO.done ?_
  refine CQ.n1 [2, 3, 4, 5, 8, 9] (mkS 54 0 [(2, .hp 0 0), (3, .hp 1 0), (4, .hp 2 0), (5, .hp 3 0), (8, sU32 v6.2), (9, .hp 4 0)]) [.own (api_Int.c v1), .own (api_Int.c v3), .own [aB false, .at (.slice none 0 0)], .own [aB false, .at (.slice none 0 0)], .own (api_Int.c v8)] ?_
  refine CQ.seq ?_
  refine CQ.seq ?_
  rcases Bool.eq_false_or_eq_true (v1.Negative != v3.Negative) with hb10 | hb10
  ·replace hr := cd_t hb10 hr
   refine CQ.r0 fine ?_
   refine EVO.p1 (.hp 0 0) ?_
   refine EVO.p1 (aB v1.Negative) ?_
   refine EVO.p1 (.hp 1 0) ?_
   refine EVO.p1 (aB v3.Negative) ?_
   refine EVO.p0 (v := aB true) (Eq.trans (b := some (.pure (aB (v1.Negative != v3.Negative)))) (by kernel_rfl) (by rw [hb10])) ?_
   refine EVO.p1 (aB true) ?_
   refine EVO.q1 (sU32 v6.2) ?_
   refine EVO.q1 (aI64 (v6.2.length : Int)) ?_
   refine EVO.q1 (aB (decide ((v6.2.length : Int) > 0))) ?_
   refine EVO.p1 (aB (decide ((v6.2.length : Int) > 0))) ?_
   refine EVO.done ?_
   refine CQ.n1 [2, 3, 4, 5, 9, 44] (mkS 54 0 [(2, .hp 0 0), (3, .hp 1 0), (4, .hp 2 0), (5, .hp 3 0), (9, .hp 4 0), (44, aB (decide ((v6.2.length : Int) > 0)))]) [.own (api_Int.c v1), .own (api_Int.c v3), .own [aB false, .at (.slice none 0 0)], .own [aB false, .at (.slice none 0 0)], .own (api_Int.c v8)] ?_
   refine CQ.cond (t := decide ((v6.2.length : Int) > 0)) (by kernel_rfl) (fun hb11 => ?_) (fun hb11 => ?_)
   ·replace hr := cd_t hb11 hr
    replace hr := bd hr; obtain ⟨v12, hc13, hr⟩ := hr
    replace hr := bd hr; obtain ⟨v14, hc15, hr⟩ := hr
    refine CQ.regionT fine (callOf_ok [{ f := 103, args := [aI64 1], H := [.own (api_Int.c v1), .own (api_Int.c v3), .own [aB false, .at (.slice none 0 0)], .own [aB false, .at (.slice none 0 0)], .own (api_Int.c v8)], r := .loc (.agg (api_Int.c v12)) [] [] 0 : CE }, { f := 140, args := [.agg (api_Int.c v8), .agg (api_Int.c v12)], H := [.own (api_Int.c v1), .own (api_Int.c v3), .own [aB false, .at (.slice none 0 0)], .own [aB false, .at (.slice none 0 0)], .own (api_Int.c v8)], r := .loc (.agg (api_Int.c v14)) [] [] 0 : CE }] (List.forall_mem_cons.2 ⟨(callOk_ref (l := []) (args' := [aI64 1]) (SnL.cons (Sn.pure rfl) SnL.nil) (fiducialref01_Of_ok n 1 v12 hc13)), (List.forall_mem_cons.2 ⟨(callOk_ref (l := []) (args' := [.agg (api_Int.c v8), .agg (api_Int.c v12)]) (SnL.cons (Sn.pure rfl) (SnL.cons (Sn.pure rfl) SnL.nil)) (fiducialref01_Sub_ok n v8 v12 v14 hc15)), ce0⟩)⟩)) ?_
    refine EVT.p1 (.agg (api_Int.c v8)) ?_
    refine EVT.cal (by kernel_rfl) (by kernel_rfl) (callOf_at (by kernel_rfl)) (by kernel_rfl) ?_
    refine EVT.cal (by kernel_rfl) (by kernel_rfl) (callOf_skip (fun h _ => absurd (show (140 : Nat) = 103 from h) (by decide)) (callOf_at (by kernel_rfl))) (by kernel_rfl) ?_
    refine EVT.e1 (.unk) [(4, .own (api_Int.c v14))] ?_
    refine EVT.done ⟨by kernel_rfl, ?_⟩
    refine CQ.n1 [2, 3, 4, 5, 9] (mkS 54 0 [(2, .hp 0 0), (3, .hp 1 0), (4, .hp 2 0), (5, .hp 3 0), (9, .hp 4 0)]) [.own (api_Int.c v1), .own (api_Int.c v3), .own [aB false, .at (.slice none 0 0)], .own [aB false, .at (.slice none 0 0)], .own (api_Int.c v14)] ?_
    refine CQ.seq ?_
    replace hr := bd hr; obtain ⟨v16, hc17, hr⟩ := hr
    replace hr := bd hr; obtain ⟨v18, hc19, hr⟩ := hr
    refine CQ.regionT fine (callOf_ok [{ f := 110, args := [.agg (api_Int.c v14), .agg (api_Int.c v3)], H := [.own (api_Int.c v1), .own (api_Int.c v3), .own [aB false, .at (.slice none 0 0)], .own [aB false, .at (.slice none 0 0)], .own (api_Int.c v14)], r := .loc (.agg (api_Int.c v16)) [] [] 0 : CE }, { f := 140, args := [.agg (api_Int.c v1), .agg (api_Int.c v16)], H := [.own (api_Int.c v1), .own (api_Int.c v3), .own [aB false, .at (.slice none 0 0)], .own [aB false, .at (.slice none 0 0)], .own (api_Int.c v14)], r := .loc (.agg (api_Int.c v18)) [] [] 0 : CE }] (List.forall_mem_cons.2 ⟨(callOk_ref (l := []) (args' := [.agg (api_Int.c v14), .agg (api_Int.c v3)]) (SnL.cons (Sn.pure rfl) (SnL.cons (Sn.pure rfl) SnL.nil)) (fiducialref01_Mul_ok n v14 v3 v16 hc17)), (List.forall_mem_cons.2 ⟨(callOk_ref (l := []) (args' := [.agg (api_Int.c v1), .agg (api_Int.c v16)]) (SnL.cons (Sn.pure rfl) (SnL.cons (Sn.pure rfl) SnL.nil)) (fiducialref01_Sub_ok n v1 v16 v18 hc19)), ce0⟩)⟩)) ?_
    refine EVT.p1 (.agg (api_Int.c v14)) ?_
    refine EVT.p1 (.agg (api_Int.c v1)) ?_
    refine EVT.p1 (.agg (api_Int.c v14)) ?_
    refine EVT.p1 (.agg (api_Int.c v3)) ?_
    refine EVT.cal (by kernel_rfl) (by kernel_rfl) (callOf_at (by kernel_rfl)) (by kernel_rfl) ?_
    refine EVT.cal (by kernel_rfl) (by kernel_rfl) (callOf_skip (fun h _ => absurd (show (140 : Nat) = 110 from h) (by decide)) (callOf_at (by kernel_rfl))) (by kernel_rfl) ?_
    refine EVT.e1 (.unk) [(2, .own (api_Int.c v14))] ?_
    refine EVT.e1 (.unk) [(3, .own (api_Int.c v18))] ?_
    refine EVT.p1 (aI64 0) ?_
    refine EVT.done ⟨by kernel_rfl, ?_⟩
    refine CQ.ret ?_
    obtain rfl := Option.some.inj hr
    exact FinQ.ret (vs := [.agg (api_Int.c v14), .agg (api_Int.c v18), aI64 0]) (by kernel_rfl) (Sn.tup (SnL.cons (Sn.pure rfl) (SnL.cons (Sn.pure rfl) (SnL.cons (Sn.pure rfl) SnL.nil))))
   ·replace hr := cd_f hb11 hr
    refine CQ.skip ?_
    refine CQ.seq ?_
    replace hr := bd hr; obtain ⟨v20, hc21, hr⟩ := hr
    replace hr := bd hr; obtain ⟨v22, hc23, hr⟩ := hr
    refine CQ.regionT fine (callOf_ok [{ f := 110, args := [.agg (api_Int.c v8), .agg (api_Int.c v3)], H := [.own (api_Int.c v1), .own (api_Int.c v3), .own [aB false, .at (.slice none 0 0)], .own [aB false, .at (.slice none 0 0)], .own (api_Int.c v8)], r := .loc (.agg (api_Int.c v20)) [] [] 0 : CE }, { f := 140, args := [.agg (api_Int.c v1), .agg (api_Int.c v20)], H := [.own (api_Int.c v1), .own (api_Int.c v3), .own [aB false, .at (.slice none 0 0)], .own [aB false, .at (.slice none 0 0)], .own (api_Int.c v8)], r := .loc (.agg (api_Int.c v22)) [] [] 0 : CE }] (List.forall_mem_cons.2 ⟨(callOk_ref (l := []) (args' := [.agg (api_Int.c v8), .agg (api_Int.c v3)]) (SnL.cons (Sn.pure rfl) (SnL.cons (Sn.pure rfl) SnL.nil)) (fiducialref01_Mul_ok n v8 v3 v20 hc21)), (List.forall_mem_cons.2 ⟨(callOk_ref (l := []) (args' := [.agg (api_Int.c v1), .agg (api_Int.c v20)]) (SnL.cons (Sn.pure rfl) (SnL.cons (Sn.pure rfl) SnL.nil)) (fiducialref01_Sub_ok n v1 v20 v22 hc23)), ce0⟩)⟩)) ?_
    refine EVT.p1 (.agg (api_Int.c v8)) ?_
    refine EVT.p1 (.agg (api_Int.c v1)) ?_
    refine EVT.p1 (.agg (api_Int.c v8)) ?_
    refine EVT.p1 (.agg (api_Int.c v3)) ?_
    refine EVT.cal (by kernel_rfl) (by kernel_rfl) (callOf_at (by kernel_rfl)) (by kernel_rfl) ?_
    refine EVT.cal (by kernel_rfl) (by kernel_rfl) (callOf_skip (fun h _ => absurd (show (140 : Nat) = 110 from h) (by decide)) (callOf_at (by kernel_rfl))) (by kernel_rfl) ?_
    refine EVT.e1 (.unk) [(2, .own (api_Int.c v8))] ?_
    refine EVT.e1 (.unk) [(3, .own (api_Int.c v22))] ?_
    refine EVT.p1 (aI64 0) ?_
    refine EVT.done ⟨by kernel_rfl, ?_⟩
    refine CQ.ret ?_
    obtain rfl := Option.some.inj hr
    exact FinQ.ret (vs := [.agg (api_Int.c v8), .agg (api_Int.c v22), aI64 0]) (by kernel_rfl) (Sn.tup (SnL.cons (Sn.pure rfl) (SnL.cons (Sn.pure rfl) (SnL.cons (Sn.pure rfl) SnL.nil))))
  ·replace hr := cd_f hb10 hr
   refine CQ.r0 fine ?_
   refine EVO.p1 (.hp 0 0) ?_
   refine EVO.p1 (aB v1.Negative) ?_
   refine EVO.p1 (.hp 1 0) ?_
   refine EVO.p1 (aB v3.Negative) ?_
   refine EVO.p0 (v := aB false) (Eq.trans (b := some (.pure (aB (v1.Negative != v3.Negative)))) (by kernel_rfl) (by rw [hb10])) ?_
   refine EVO.p1 (aB false) ?_
   refine EVO.s1 ?_
   refine EVO.s1 ?_
   refine EVO.s1 ?_
   refine EVO.p1 (aB false) ?_
   refine EVO.done ?_
   refine CQ.n1 [2, 3, 4, 5, 9, 44] (mkS 54 0 [(2, .hp 0 0), (3, .hp 1 0), (4, .hp 2 0), (5, .hp 3 0), (9, .hp 4 0), (44, aB false)]) [.own (api_Int.c v1), .own (api_Int.c v3), .own [aB false, .at (.slice none 0 0)], .own [aB false, .at (.slice none 0 0)], .own (api_Int.c v8)] ?_
   refine CQ.cF (by kernel_rfl) ?_
   refine CQ.skip ?_
   refine CQ.seq ?_
   replace hr := bd hr; obtain ⟨v24, hc25, hr⟩ := hr
   replace hr := bd hr; obtain ⟨v26, hc27, hr⟩ := hr
   refine CQ.regionT fine (callOf_ok [{ f := 110, args := [.agg (api_Int.c v8), .agg (api_Int.c v3)], H := [.own (api_Int.c v1), .own (api_Int.c v3), .own [aB false, .at (.slice none 0 0)], .own [aB false, .at (.slice none 0 0)], .own (api_Int.c v8)], r := .loc (.agg (api_Int.c v24)) [] [] 0 : CE }, { f := 140, args := [.agg (api_Int.c v1), .agg (api_Int.c v24)], H := [.own (api_Int.c v1), .own (api_Int.c v3), .own [aB false, .at (.slice none 0 0)], .own [aB false, .at (.slice none 0 0)], .own (api_Int.c v8)], r := .loc (.agg (api_Int.c v26)) [] [] 0 : CE }] (List.forall_mem_cons.2 ⟨(callOk_ref (l := []) (args' := [.agg (api_Int.c v8), .agg (api_Int.c v3)]) (SnL.cons (Sn.pure rfl) (SnL.cons (Sn.pure rfl) SnL.nil)) (fiducialref01_Mul_ok n v8 v3 v24 hc25)), (List.forall_mem_cons.2 ⟨(callOk_ref (l := []) (args' := [.agg (api_Int.c v1), .agg (api_Int.c v24)]) (SnL.cons (Sn.pure rfl) (SnL.cons (Sn.pure rfl) SnL.nil)) (fiducialref01_Sub_ok n v1 v24 v26 hc27)), ce0⟩)⟩)) ?_
   refine EVT.p1 (.agg (api_Int.c v8)) ?_
   refine EVT.p1 (.agg (api_Int.c v1)) ?_
   refine EVT.p1 (.agg (api_Int.c v8)) ?_
   refine EVT.p1 (.agg (api_Int.c v3)) ?_
   refine EVT.cal (by kernel_rfl) (by kernel_rfl) (callOf_at (by kernel_rfl)) (by kernel_rfl) ?_
   refine EVT.cal (by kernel_rfl) (by kernel_rfl) (callOf_skip (fun h _ => absurd (show (140 : Nat) = 110 from h) (by decide)) (callOf_at (by kernel_rfl))) (by kernel_rfl) ?_
   refine EVT.e1 (.unk) [(2, .own (api_Int.c v8))] ?_
   refine EVT.e1 (.unk) [(3, .own (api_Int.c v26))] ?_
   refine EVT.p1 (aI64 0) ?_
   refine EVT.done ⟨by kernel_rfl, ?_⟩
   refine CQ.ret ?_
   obtain rfl := Option.some.inj hr
   exact FinQ.ret (vs := [.agg (api_Int.c v8), .agg (api_Int.c v26), aI64 0]) (by kernel_rfl) (Sn.tup (SnL.cons (Sn.pure rfl) (SnL.cons (Sn.pure rfl) (SnL.cons (Sn.pure rfl) SnL.nil))))

theorem fiducialref02_reduced_ok (n : Nat) (num : api_Int) (den : api_Int) (r : api_Rat) (hr : fiducialref02_reduced n num den = some r) : FnOk Tryz.prog 102 [.agg [.at (.bool num.Negative), slT (iC .u32) num.Groups], .agg [.at (.bool den.Negative), slT (iC .u32) den.Groups]] (.agg [.at (.bool r.Num.Negative), slT (iC .u32) r.Num.Groups, .at (.bool r.Den.Negative), slT (iC .u32) r.Den.Groups]) := by
 unfold fiducialref02_reduced at hr
 refine FnOk.body fine Tryz.func102 (c := (Tryz.f102.body).getD .skip) rfl (s := mkS 37 0 [(0, .agg (api_Int.c num)), (1, .agg (api_Int.c den))]) (by kernel_rfl) (rs := [.cell 4 39]) rfl ?_
 unfold Tryz.f102
 simp only [Option.getD_some]
 refine CQ.seq ?_
 refine CQ.r0 fine ?_
 refine EVO.e1 (.hp 0 0) [(0, .own (api_Int.c num))] ?_
 refine EVO.e1 (.hp 1 0) [(1, .own (api_Int.c den))] ?_
 refine EVO.e1 (.hp 2 0) [(2, .own [aB false, .at (.slice none 0 0), aB false, .at (.slice none 0 0)])] ?_
 refine EVO.done ?_
 refine CQ.n1 [2, 3, 4] (mkS 37 0 [(2, .hp 0 0), (3, .hp 1 0), (4, .hp 2 0)]) [.own (api_Int.c num), .own (api_Int.c den), .own [aB false, .at (.slice none 0 0), aB false, .at (.slice none 0 0)]] ?_
 refine CQ.seq ?_
 replace hr := bd hr; obtain ⟨v1, hc2, hr⟩ := hr
 refine CQ.region fine (callOf_1 106 [.agg (api_Int.c num), .agg (api_Int.c den)] [.own (api_Int.c num), .own (api_Int.c den), .own [aB false, .at (.slice none 0 0), aB false, .at (.slice none 0 0)]] (.loc (.agg (api_Int.c v1)) [] [] 0) (callOk_ref (l := []) (args' := [.agg (api_Int.c num), .agg (api_Int.c den)]) (SnL.cons (Sn.pure rfl) (SnL.cons (Sn.pure rfl) SnL.nil)) (fiducialref01_Gcd_ok n num den v1 hc2))) ?_
 refine EVO.p1 (.agg (api_Int.c num)) ?_
 refine EVO.p1 (.agg (api_Int.c den)) ?_
 refine EVO.c0 (by kernel_rfl) (callOf_at (by kernel_rfl)) ?_
 refine EVO.e1 (.hp 3 0) [(3, .own [aB false, .at (.slice none 0 0)])] ?_
 refine EVO.e1 (.unk) [(3, .own (api_Int.c v1))] ?_
 refine EVO.done ?_
 refine CQ.n1 [2, 3, 4, 5] (mkS 37 0 [(2, .hp 0 0), (3, .hp 1 0), (4, .hp 2 0), (5, .hp 3 0)]) [.own (api_Int.c num), .own (api_Int.c den), .own [aB false, .at (.slice none 0 0), aB false, .at (.slice none 0 0)], .own (api_Int.c v1)] ?_
 refine CQ.seq ?_
 refine CQ.seq ?_
 replace hr := bd hr; obtain ⟨v3, hc4, hr⟩ := hr
 refine CQ.region fine (callOf_1 101 [.agg (api_Int.c den)] [.own (api_Int.c num), .own (api_Int.c den), .own [aB false, .at (.slice none 0 0), aB false, .at (.slice none 0 0)], .own (api_Int.c v1)] (.loc (aI64 v3) [] [] 0) (callOk_val (l := []) (args' := [.agg (api_Int.c den)]) rfl (SnL.cons (Sn.pure rfl) SnL.nil) (fiducialref01_Sign_ok n den v3 hc4))) ?_
 refine EVO.p1 (.agg (api_Int.c den)) ?_
 refine EVO.c0 (by kernel_rfl) (callOf_at (by kernel_rfl)) ?_
 refine EVO.p1 (aB (decide (v3 < 0))) ?_
 refine EVO.done ?_
 refine CQ.n1 [2, 3, 4, 5, 17] (mkS 37 0 [(2, .hp 0 0), (3, .hp 1 0), (4, .hp 2 0), (5, .hp 3 0), (17, aB (decide (v3 < 0)))]) [.own (api_Int.c num), .own (api_Int.c den), .own [aB false, .at (.slice none 0 0), aB false, .at (.slice none 0 0)], .own (api_Int.c v1)] ?_
 refine CQ.cond (t := decide (v3 < 0)) (by kernel_rfl) (fun hb5 => ?_) (fun hb5 => ?_)
 ·replace hr := cd_t hb5 hr
  replace hr := bd hr; obtain ⟨v6, hc7, hr⟩ := hr
  refine CQ.region fine (callOf_1 137 [.agg (api_Int.c v1)] [.own (api_Int.c num), .own (api_Int.c den), .own [aB false, .at (.slice none 0 0), aB false, .at (.slice none 0 0)], .own (api_Int.c v1)] (.loc (.agg (api_Int.c v6)) [] [] 0) (callOk_ref (l := []) (args' := [.agg (api_Int.c v1)]) (SnL.cons (Sn.pure rfl) SnL.nil) (fiducialref01_Neg_ok n v1 v6 hc7))) ?_
  refine EVO.p1 (.agg (api_Int.c v1)) ?_
  refine EVO.c0 (by kernel_rfl) (callOf_at (by kernel_rfl)) ?_
  refine EVO.e1 (.unk) [(3, .own (api_Int.c v6))] ?_
  refine EVO.done ?_
  refine CQ.n1 [2, 3, 4, 5] (mkS 37 0 [(2, .hp 0 0), (3, .hp 1 0), (4, .hp 2 0), (5, .hp 3 0)]) [.own (api_Int.c num), .own (api_Int.c den), .own [aB false, .at (.slice none 0 0), aB false, .at (.slice none 0 0)], .own (api_Int.c v6)] ?_
  refine CQ.seq ?_
  replace hr := bd hr; obtain ⟨v8, hc9, hr⟩ := hr
  refine CQ.region fine (callOf_1 138 [.agg (api_Int.c num), .agg (api_Int.c v6)] [.own (api_Int.c num), .own (api_Int.c den), .own [aB false, .at (.slice none 0 0), aB false, .at (.slice none 0 0)], .own (api_Int.c v6)] (.loc (.tup [.agg (api_Int.c v8.1), .agg (api_Int.c v8.2.1), aI64 v8.2.2]) [] [] 0) (callOk_ref (l := []) (args' := [.agg (api_Int.c num), .agg (api_Int.c v6)]) (SnL.cons (Sn.pure rfl) (SnL.cons (Sn.pure rfl) SnL.nil)) (fiducialref01_Divide_ok n num v6 v8 hc9))) ?_
  refine EVO.p1 (.agg (api_Int.c num)) ?_
  refine EVO.p1 (.agg (api_Int.c v6)) ?_
  refine EVO.c0 (by kernel_rfl) (callOf_at (by kernel_rfl)) ?_
  refine EVO.p1 (.tup [.agg (api_Int.c v8.1), .agg (api_Int.c v8.2.1), aI64 v8.2.2]) ?_
  refine EVO.p1 (.agg (api_Int.c v8.1)) ?_
  refine EVO.p1 (.agg (api_Int.c v8.2.1)) ?_
  refine EVO.p1 (aI64 v8.2.2) ?_
  refine EVO.e1 (.hp 4 0) [(4, .own [aB false, .at (.slice none 0 0)])] ?_
  refine EVO.e1 (.hp 5 0) [(5, .own [aB false, .at (.slice none 0 0)])] ?_
  refine EVO.e1 (.unk) [(4, .own (api_Int.c v8.1))] ?_
  refine EVO.e1 (.unk) [(5, .own (api_Int.c v8.2.1))] ?_
  refine EVO.p1 (aI64 v8.2.2) ?_
  refine EVO.done ?_
  refine CQ.n1 [3, 4, 5, 6] (mkS 37 0 [(3, .hp 1 0), (4, .hp 2 0), (5, .hp 3 0), (6, .hp 4 0)]) [.own (api_Int.c num), .own (api_Int.c den), .own [aB false, .at (.slice none 0 0), aB false, .at (.slice none 0 0)], .own (api_Int.c v6), .own (api_Int.c v8.1), .own (api_Int.c v8.2.1)] ?_
  refine CQ.seq ?_
  replace hr := bd hr; obtain ⟨v10, hc11, hr⟩ := hr
  refine CQ.region fine (callOf_1 138 [.agg (api_Int.c den), .agg (api_Int.c v6)] [.own (api_Int.c num), .own (api_Int.c den), .own [aB false, .at (.slice none 0 0), aB false, .at (.slice none 0 0)], .own (api_Int.c v6), .own (api_Int.c v8.1), .own (api_Int.c v8.2.1)] (.loc (.tup [.agg (api_Int.c v10.1), .agg (api_Int.c v10.2.1), aI64 v10.2.2]) [] [] 0) (callOk_ref (l := []) (args' := [.agg (api_Int.c den), .agg (api_Int.c v6)]) (SnL.cons (Sn.pure rfl) (SnL.cons (Sn.pure rfl) SnL.nil)) (fiducialref01_Divide_ok n den v6 v10 hc11))) ?_
  refine EVO.p1 (.agg (api_Int.c den)) ?_
  refine EVO.p1 (.agg (api_Int.c v6)) ?_
  refine EVO.c0 (by kernel_rfl) (callOf_at (by kernel_rfl)) ?_
  refine EVO.p1 (.tup [.agg (api_Int.c v10.1), .agg (api_Int.c v10.2.1), aI64 v10.2.2]) ?_
  refine EVO.p1 (.agg (api_Int.c v10.1)) ?_
  refine EVO.p1 (.agg (api_Int.c v10.2.1)) ?_
  refine EVO.p1 (aI64 v10.2.2) ?_
  refine EVO.e1 (.hp 6 0) [(6, .own [aB false, .at (.slice none 0 0)])] ?_
  refine EVO.e1 (.hp 7 0) [(7, .own [aB false, .at (.slice none 0 0)])] ?_
  refine EVO.e1 (.unk) [(6, .own (api_Int.c v10.1))] ?_
  refine EVO.e1 (.unk) [(7, .own (api_Int.c v10.2.1))] ?_
  refine EVO.p1 (aI64 v10.2.2) ?_
  refine EVO.done ?_
  refine CQ.n1 [4, 6, 9] (mkS 37 0 [(4, .hp 2 0), (6, .hp 4 0), (9, .hp 6 0)]) [.own (api_Int.c num), .own (api_Int.c den), .own [aB false, .at (.slice none 0 0), aB false, .at (.slice none 0 0)], .own (api_Int.c v6), .own (api_Int.c v8.1), .own (api_Int.c v8.2.1), .own (api_Int.c v10.1), .own (api_Int.c v10.2.1)] ?_
  refine CQ.seq ?_
  refine CQ.r0 fine ?_
  refine EVO.p1 (.agg (api_Int.c v8.1)) ?_
  refine EVO.p1 (.agg (api_Int.c v10.1)) ?_
  refine EVO.p1 (.agg [aB v8.1.Negative, sU32 v8.1.Groups, aB v10.1.Negative, sU32 v10.1.Groups]) ?_
  refine EVO.e1 (.unk) [(2, .own [aB v8.1.Negative, sU32 v8.1.Groups, aB v10.1.Negative, sU32 v10.1.Groups])] ?_
  refine EVO.done ?_
  refine CQ.ret ?_
  obtain rfl := Option.some.inj hr
  exact FinQ.r1 [.agg [aB v8.1.Negative, sU32 v8.1.Groups, aB v10.1.Negative, sU32 v10.1.Groups]]
 ·replace hr := cd_f hb5 hr
  refine CQ.skip ?_
  refine CQ.seq ?_
  replace hr := bd hr; obtain ⟨v12, hc13, hr⟩ := hr
  refine CQ.region fine (callOf_1 138 [.agg (api_Int.c num), .agg (api_Int.c v1)] [.own (api_Int.c num), .own (api_Int.c den), .own [aB false, .at (.slice none 0 0), aB false, .at (.slice none 0 0)], .own (api_Int.c v1)] (.loc (.tup [.agg (api_Int.c v12.1), .agg (api_Int.c v12.2.1), aI64 v12.2.2]) [] [] 0) (callOk_ref (l := []) (args' := [.agg (api_Int.c num), .agg (api_Int.c v1)]) (SnL.cons (Sn.pure rfl) (SnL.cons (Sn.pure rfl) SnL.nil)) (fiducialref01_Divide_ok n num v1 v12 hc13))) ?_
  refine EVO.p1 (.agg (api_Int.c num)) ?_
  refine EVO.p1 (.agg (api_Int.c v1)) ?_
  refine EVO.c0 (by kernel_rfl) (callOf_at (by kernel_rfl)) ?_
  refine EVO.p1 (.tup [.agg (api_Int.c v12.1), .agg (api_Int.c v12.2.1), aI64 v12.2.2]) ?_
  refine EVO.p1 (.agg (api_Int.c v12.1)) ?_
  refine EVO.p1 (.agg (api_Int.c v12.2.1)) ?_
  refine EVO.p1 (aI64 v12.2.2) ?_
  refine EVO.e1 (.hp 4 0) [(4, .own [aB false, .at (.slice none 0 0)])] ?_
  refine EVO.e1 (.hp 5 0) [(5, .own [aB false, .at (.slice none 0 0)])] ?_
  refine EVO.e1 (.unk) [(4, .own (api_Int.c v12.1))] ?_
  refine EVO.e1 (.unk) [(5, .own (api_Int.c v12.2.1))] ?_
  refine EVO.p1 (aI64 v12.2.2) ?_
  refine EVO.done ?_
  refine CQ.n1 [3, 4, 5, 6] (mkS 37 0 [(3, .hp 1 0), (4, .hp 2 0), (5, .hp 3 0), (6, .hp 4 0)]) [.own (api_Int.c num), .own (api_Int.c den), .own [aB false, .at (.slice none 0 0), aB false, .at (.slice none 0 0)], .own (api_Int.c v1), .own (api_Int.c v12.1), .own (api_Int.c v12.2.1)] ?_
  refine CQ.seq ?_
  replace hr := bd hr; obtain ⟨v14, hc15, hr⟩ := hr
  refine CQ.region fine (callOf_1 138 [.agg (api_Int.c den), .agg (api_Int.c v1)] [.own (api_Int.c num), .own (api_Int.c den), .own [aB false, .at (.slice none 0 0), aB false, .at (.slice none 0 0)], .own (api_Int.c v1), .own (api_Int.c v12.1), .own (api_Int.c v12.2.1)] (.loc (.tup [.agg (api_Int.c v14.1), .agg (api_Int.c v14.2.1), aI64 v14.2.2]) [] [] 0) (callOk_ref (l := []) (args' := [.agg (api_Int.c den), .agg (api_Int.c v1)]) (SnL.cons (Sn.pure rfl) (SnL.cons (Sn.pure rfl) SnL.nil)) (fiducialref01_Divide_ok n den v1 v14 hc15))) ?_
  refine EVO.p1 (.agg (api_Int.c den)) ?_
  refine EVO.p1 (.agg (api_Int.c v1)) ?_
  refine EVO.c0 (by kernel_rfl) (callOf_at (by kernel_rfl)) ?_
  refine EVO.p1 (.tup [.agg (api_Int.c v14.1), .agg (api_Int.c v14.2.1), aI64 v14.2.2]) ?_
  refine EVO.p1 (.agg (api_Int.c v14.1)) ?_
  refine EVO.p1 (.agg (api_Int.c v14.2.1)) ?_
  refine EVO.p1 (aI64 v14.2.2) ?_
  refine EVO.e1 (.hp 6 0) [(6, .own [aB false, .at (.slice none 0 0)])] ?_
  refine EVO.e1 (.hp 7 0) [(7, .own [aB false, .at (.slice none 0 0)])] ?_
  refine EVO.e1 (.unk) [(6, .own (api_Int.c v14.1))] ?_
  refine EVO.e1 (.unk) [(7, .own (api_Int.c v14.2.1))] ?_
  refine EVO.p1 (aI64 v14.2.2) ?_
  refine EVO.done ?_
  refine CQ.n1 [4, 6, 9] (mkS 37 0 [(4, .hp 2 0), (6, .hp 4 0), (9, .hp 6 0)]) [.own (api_Int.c num), .own (api_Int.c den), .own [aB false, .at (.slice none 0 0), aB false, .at (.slice none 0 0)], .own (api_Int.c v1), .own (api_Int.c v12.1), .own (api_Int.c v12.2.1), .own (api_Int.c v14.1), .own (api_Int.c v14.2.1)] ?_
  refine CQ.seq ?_
  refine CQ.r0 fine ?_
  refine EVO.p1 (.agg (api_Int.c v12.1)) ?_
  refine EVO.p1 (.agg (api_Int.c v14.1)) ?_
  refine EVO.p1 (.agg [aB v12.1.Negative, sU32 v12.1.Groups, aB v14.1.Negative, sU32 v14.1.Groups]) ?_
  refine EVO.e1 (.unk) [(2, .own [aB v12.1.Negative, sU32 v12.1.Groups, aB v14.1.Negative, sU32 v14.1.Groups])] ?_
  refine EVO.done ?_
  refine CQ.ret ?_
  obtain rfl := Option.some.inj hr
  exact FinQ.r1 [.agg [aB v12.1.Negative, sU32 v12.1.Groups, aB v14.1.Negative, sU32 v14.1.Groups]]

theorem fiducialref02_Add_ok (n : Nat) (x' : api_Rat) (y : api_Rat) (r : api_Rat) (hr : fiducialref02_Add n x' y = some r) : FnOk Tryz.prog 57 [.agg [.at (.bool x'.Num.Negative), slT (iC .u32) x'.Num.Groups, .at (.bool x'.Den.Negative), slT (iC .u32) x'.Den.Groups], .agg [.at (.bool y.Num.Negative), slT (iC .u32) y.Num.Groups, .at (.bool y.Den.Negative), slT (iC .u32) y.Den.Groups]] (.agg [.at (.bool r.Num.Negative), slT (iC .u32) r.Num.Groups, .at (.bool r.Den.Negative), slT (iC .u32) r.Den.Groups]) := by
 unfold fiducialref02_Add at hr
 refine FnOk.body fine Tryz.func57 (c := (Tryz.f57.body).getD .skip) rfl (s := mkS 28 0 [(0, .agg (api_Rat.c x')), (1, .agg (api_Rat.c y))]) (by kernel_rfl) (rs := [.cell 4 39]) rfl ?_
 unfold Tryz.f57
 simp only [Option.getD_some]
 refine CQ.seq ?_
 refine CQ.r0 fine ?_
 refine EVO.e1 (.hp 0 0) [(0, .own (api_Rat.c x'))] ?_
 refine EVO.e1 (.hp 1 0) [(1, .own (api_Rat.c y))] ?_
 refine EVO.e1 (.hp 2 0) [(2, .own [aB false, .at (.slice none 0 0), aB false, .at (.slice none 0 0)])] ?_
 refine EVO.done ?_
 refine CQ.n1 [2, 3, 4] (mkS 28 0 [(2, .hp 0 0), (3, .hp 1 0), (4, .hp 2 0)]) [.own (api_Rat.c x'), .own (api_Rat.c y), .own [aB false, .at (.slice none 0 0), aB false, .at (.slice none 0 0)]] ?_
 refine CQ.seq ?_
 replace hr := bd hr; obtain ⟨v1, hc2, hr⟩ := hr
 refine CQ.region fine (callOf_1 107 [.agg (api_Rat.c x')] [.own (api_Rat.c x'), .own (api_Rat.c y), .own [aB false, .at (.slice none 0 0), aB false, .at (.slice none 0 0)]] (.loc (.agg (api_Rat.c v1)) [] [] 0) (callOk_ref (l := []) (args' := [.agg (api_Rat.c x')]) (SnL.cons (Sn.pure rfl) SnL.nil) (fiducialref02_Value_ok n x' v1 hc2))) ?_
 refine EVO.p1 (.agg (api_Rat.c x')) ?_
 refine EVO.c0 (by kernel_rfl) (callOf_at (by kernel_rfl)) ?_
 refine EVO.e1 (.hp 3 0) [(3, .own [aB false, .at (.slice none 0 0), aB false, .at (.slice none 0 0)])] ?_
 refine EVO.e1 (.unk) [(3, .own (api_Rat.c v1))] ?_
 refine EVO.done ?_
 refine CQ.n1 [3, 4, 5] (mkS 28 0 [(3, .hp 1 0), (4, .hp 2 0), (5, .hp 3 0)]) [.own (api_Rat.c x'), .own (api_Rat.c y), .own [aB false, .at (.slice none 0 0), aB false, .at (.slice none 0 0)], .own (api_Rat.c v1)] ?_
 refine CQ.seq ?_
 replace hr := bd hr; obtain ⟨v3, hc4, hr⟩ := hr
 refine CQ.region fine (callOf_1 107 [.agg (api_Rat.c y)] [.own (api_Rat.c x'), .own (api_Rat.c y), .own [aB false, .at (.slice none 0 0), aB false, .at (.slice none 0 0)], .own (api_Rat.c v1)] (.loc (.agg (api_Rat.c v3)) [] [] 0) (callOk_ref (l := []) (args' := [.agg (api_Rat.c y)]) (SnL.cons (Sn.pure rfl) SnL.nil) (fiducialref02_Value_ok n y v3 hc4))) ?_
 refine EVO.p1 (.agg (api_Rat.c y)) ?_
 refine EVO.c0 (by kernel_rfl) (callOf_at (by kernel_rfl)) ?_
 refine EVO.e1 (.hp 4 0) [(4, .own [aB false, .at (.slice none 0 0), aB false, .at (.slice none 0 0)])] ?_
 refine EVO.e1 (.unk) [(4, .own (api_Rat.c v3))] ?_
 refine EVO.done ?_
 refine CQ.n1 [4, 5, 6] (mkS 28 0 [(4, .hp 2 0), (5, .hp 3 0), (6, .hp 4 0)]) [.own (api_Rat.c x'), .own (api_Rat.c y), .own [aB false, .at (.slice none 0 0), aB false, .at (.slice none 0 0)], .own (api_Rat.c v1), .own (api_Rat.c v3)] ?_
 refine CQ.seq ?_
 replace hr := bd hr; obtain ⟨v5, hc6, hr⟩ := hr
 replace hr := bd hr; obtain ⟨v7, hc8, hr⟩ := hr
 replace hr := bd hr; obtain ⟨v9, hc10, hr⟩ := hr
 replace hr := bd hr; obtain ⟨v11, hc12, hr⟩ := hr
 replace hr := bd hr; obtain ⟨v13, hc14, hr⟩ := hr
 refine CQ.regionT fine (callOf_ok [{ f := 110, args := [.agg (api_Int.c v1.Num), .agg (api_Int.c v3.Den)], H := [.own (api_Rat.c x'), .own (api_Rat.c y), .own [aB false, .at (.slice none 0 0), aB false, .at (.slice none 0 0)], .own (api_Rat.c v1), .own (api_Rat.c v3)], r := .loc (.agg (api_Int.c v5)) [] [] 0 : CE }, { f := 110, args := [.agg (api_Int.c v3.Num), .agg (api_Int.c v1.Den)], H := [.own (api_Rat.c x'), .own (api_Rat.c y), .own [aB false, .at (.slice none 0 0), aB false, .at (.slice none 0 0)], .own (api_Rat.c v1), .own (api_Rat.c v3)], r := .loc (.agg (api_Int.c v7)) [] [] 0 : CE }, { f := 109, args := [.agg (api_Int.c v5), .agg (api_Int.c v7)], H := [.own (api_Rat.c x'), .own (api_Rat.c y), .own [aB false, .at (.slice none 0 0), aB false, .at (.slice none 0 0)], .own (api_Rat.c v1), .own (api_Rat.c v3)], r := .loc (.agg (api_Int.c v9)) [] [] 0 : CE }, { f := 110, args := [.agg (api_Int.c v1.Den), .agg (api_Int.c v3.Den)], H := [.own (api_Rat.c x'), .own (api_Rat.c y), .own [aB false, .at (.slice none 0 0), aB false, .at (.slice none 0 0)], .own (api_Rat.c v1), .own (api_Rat.c v3)], r := .loc (.agg (api_Int.c v11)) [] [] 0 : CE }, { f := 102, args := [.agg (api_Int.c v9), .agg (api_Int.c v11)], H := [.own (api_Rat.c x'), .own (api_Rat.c y), .own [aB false, .at (.slice none 0 0), aB false, .at (.slice none 0 0)], .own (api_Rat.c v1), .own (api_Rat.c v3)], r := .loc (.agg (api_Rat.c v13)) [] [] 0 : CE }] (List.forall_mem_cons.2 ⟨(callOk_ref (l := []) (args' := [.agg (api_Int.c v1.Num), .agg (api_Int.c v3.Den)]) (SnL.cons (Sn.pure rfl) (SnL.cons (Sn.pure rfl) SnL.nil)) (fiducialref01_Mul_ok n v1.Num v3.Den v5 hc6)), (List.forall_mem_cons.2 ⟨(callOk_ref (l := []) (args' := [.agg (api_Int.c v3.Num), .agg (api_Int.c v1.Den)]) (SnL.cons (Sn.pure rfl) (SnL.cons (Sn.pure rfl) SnL.nil)) (fiducialref01_Mul_ok n v3.Num v1.Den v7 hc8)), (List.forall_mem_cons.2 ⟨(callOk_ref (l := []) (args' := [.agg (api_Int.c v5), .agg (api_Int.c v7)]) (SnL.cons (Sn.pure rfl) (SnL.cons (Sn.pure rfl) SnL.nil)) (fiducialref01_Add_ok n v5 v7 v9 hc10)), (List.forall_mem_cons.2 ⟨(callOk_ref (l := []) (args' := [.agg (api_Int.c v1.Den), .agg (api_Int.c v3.Den)]) (SnL.cons (Sn.pure rfl) (SnL.cons (Sn.pure rfl) SnL.nil)) (fiducialref01_Mul_ok n v1.Den v3.Den v11 hc12)), (List.forall_mem_cons.2 ⟨(callOk_ref (l := []) (args' := [.agg (api_Int.c v9), .agg (api_Int.c v11)]) (SnL.cons (Sn.pure rfl) (SnL.cons (Sn.pure rfl) SnL.nil)) (fiducialref02_reduced_ok n v9 v11 v13 hc14)), ce0⟩)⟩)⟩)⟩)⟩)) ?_
 refine EVT.p1 (.hp 3 0) ?_
 refine EVT.p1 (.agg (api_Int.c v1.Num)) ?_
 refine EVT.p1 (.hp 4 2) ?_
 refine EVT.p1 (.agg (api_Int.c v3.Den)) ?_
 refine EVT.cal (by kernel_rfl) (by kernel_rfl) (callOf_at (by kernel_rfl)) (by kernel_rfl) ?_
 refine EVT.p1 (.hp 4 0) ?_
 refine EVT.p1 (.agg (api_Int.c v3.Num)) ?_
 refine EVT.p1 (.hp 3 2) ?_
 refine EVT.p1 (.agg (api_Int.c v1.Den)) ?_
 refine EVT.cal (by kernel_rfl) (by kernel_rfl) (callOf_skip (fun _ h => by obtain ⟨e0, e1⟩ := fiducialref01_Mul_inj h; rw [show v7 = v5 from Option.some.inj (hc8.symm.trans ((show fiducialref01_Mul n v3.Num v1.Den = fiducialref01_Mul n v1.Num v3.Den from (congr (congr rfl e0) e1)).trans hc6))]) (callOf_at (by kernel_rfl))) (by kernel_rfl) ?_
 refine EVT.cal (by kernel_rfl) (by kernel_rfl) (callOf_skip (fun h _ => absurd (show (109 : Nat) = 110 from h) (by decide)) (callOf_skip (fun h _ => absurd (show (109 : Nat) = 110 from h) (by decide)) (callOf_at (by kernel_rfl)))) (by kernel_rfl) ?_
 refine EVT.p1 (.hp 3 2) ?_
 refine EVT.p1 (.agg (api_Int.c v1.Den)) ?_
 refine EVT.p1 (.hp 4 2) ?_
 refine EVT.p1 (.agg (api_Int.c v3.Den)) ?_
 refine EVT.cal (by kernel_rfl) (by kernel_rfl) (callOf_skip (fun _ h => by obtain ⟨e0, e1⟩ := fiducialref01_Mul_inj h; rw [show v11 = v5 from Option.some.inj (hc12.symm.trans ((show fiducialref01_Mul n v1.Den v3.Den = fiducialref01_Mul n v1.Num v3.Den from (congr (congr rfl e0) e1)).trans hc6))]) (callOf_skip (fun _ h => by obtain ⟨e0, e1⟩ := fiducialref01_Mul_inj h; rw [show v11 = v7 from Option.some.inj (hc12.symm.trans ((show fiducialref01_Mul n v1.Den v3.Den = fiducialref01_Mul n v3.Num v1.Den from (congr (congr rfl e0) e1)).trans hc8))]) (callOf_skip (fun h _ => absurd (show (110 : Nat) = 109 from h) (by decide)) (callOf_at (by kernel_rfl))))) (by kernel_rfl) ?_
 refine EVT.cal (by kernel_rfl) (by kernel_rfl) (callOf_skip (fun h _ => absurd (show (102 : Nat) = 110 from h) (by decide)) (callOf_skip (fun h _ => absurd (show (102 : Nat) = 110 from h) (by decide)) (callOf_skip (fun h _ => absurd (show (102 : Nat) = 109 from h) (by decide)) (callOf_skip (fun h _ => absurd (show (102 : Nat) = 110 from h) (by decide)) (callOf_at (by kernel_rfl)))))) (by kernel_rfl) ?_
 refine EVT.e1 (.unk) [(2, .own (api_Rat.c v13))] ?_
 refine EVT.done ⟨by kernel_rfl, ?_⟩
 refine CQ.ret ?_
 obtain rfl := Option.some.inj hr
 exact FinQ.r1 [.agg (api_Rat.c v13)]

theorem fiducialref02_Sub_ok (n : Nat) (x' : api_Rat) (y : api_Rat) (r : api_Rat) (hr : fiducialref02_Sub n x' y = some r) : FnOk Tryz.prog 56 [.agg [.at (.bool x'.Num.Negative), slT (iC .u32) x'.Num.Groups, .at (.bool x'.Den.Negative), slT (iC .u32) x'.Den.Groups], .agg [.at (.bool y.Num.Negative), slT (iC .u32) y.Num.Groups, .at (.bool y.Den.Negative), slT (iC .u32) y.Den.Groups]] (.agg [.at (.bool r.Num.Negative), slT (iC .u32) r.Num.Groups, .at (.bool r.Den.Negative), slT (iC .u32) r.Den.Groups]) := by
 unfold fiducialref02_Sub at hr
 refine FnOk.body fine Tryz.func56 (c := (Tryz.f56.body).getD .skip) rfl (s := mkS 9 0 [(0, .agg (api_Rat.c x')), (1, .agg (api_Rat.c y))]) (by kernel_rfl) (rs := [.cell 4 39]) rfl ?_
 unfold Tryz.f56
 simp only [Option.getD_some]
 refine CQ.seq ?_
 refine CQ.r0 fine ?_
 refine EVO.e1 (.hp 0 0) [(0, .own (api_Rat.c x'))] ?_
 refine EVO.e1 (.hp 1 0) [(1, .own (api_Rat.c y))] ?_
 refine EVO.e1 (.hp 2 0) [(2, .own [aB false, .at (.slice none 0 0), aB false, .at (.slice none 0 0)])] ?_
 refine EVO.done ?_
 refine CQ.n1 [2, 3, 4] (mkS 9 0 [(2, .hp 0 0), (3, .hp 1 0), (4, .hp 2 0)]) [.own (api_Rat.c x'), .own (api_Rat.c y), .own [aB false, .at (.slice none 0 0), aB false, .at (.slice none 0 0)]] ?_
 refine CQ.seq ?_
 replace hr := bd hr; obtain ⟨v1, hc2, hr⟩ := hr
 replace hr := bd hr; obtain ⟨v3, hc4, hr⟩ := hr
 refine CQ.regionT fine (callOf_ok [{ f := 108, args := [.agg (api_Rat.c y)], H := [.own (api_Rat.c x'), .own (api_Rat.c y), .own [aB false, .at (.slice none 0 0), aB false, .at (.slice none 0 0)]], r := .loc (.agg (api_Rat.c v1)) [] [] 0 : CE }, { f := 57, args := [.agg (api_Rat.c x'), .agg (api_Rat.c v1)], H := [.own (api_Rat.c x'), .own (api_Rat.c y), .own [aB false, .at (.slice none 0 0), aB false, .at (.slice none 0 0)]], r := .loc (.agg (api_Rat.c v3)) [] [] 0 : CE }] (List.forall_mem_cons.2 ⟨(callOk_ref (l := []) (args' := [.agg (api_Rat.c y)]) (SnL.cons (Sn.pure rfl) SnL.nil) (fiducialref02_Neg_ok n y v1 hc2)), (List.forall_mem_cons.2 ⟨(callOk_ref (l := []) (args' := [.agg (api_Rat.c x'), .agg (api_Rat.c v1)]) (SnL.cons (Sn.pure rfl) (SnL.cons (Sn.pure rfl) SnL.nil)) (fiducialref02_Add_ok n x' v1 v3 hc4)), ce0⟩)⟩)) ?_
 refine EVT.p1 (.agg (api_Rat.c x')) ?_
 refine EVT.p1 (.agg (api_Rat.c y)) ?_
 refine EVT.cal (by kernel_rfl) (by kernel_rfl) (callOf_at (by kernel_rfl)) (by kernel_rfl) ?_
 refine EVT.cal (by kernel_rfl) (by kernel_rfl) (callOf_skip (fun h _ => absurd (show (57 : Nat) = 108 from h) (by decide)) (callOf_at (by kernel_rfl))) (by kernel_rfl) ?_
 refine EVT.e1 (.unk) [(2, .own (api_Rat.c v3))] ?_
 refine EVT.done ⟨by kernel_rfl, ?_⟩
 refine CQ.ret ?_
 obtain rfl := Option.some.inj hr
 exact FinQ.r1 [.agg (api_Rat.c v3)]

theorem fiducialref02_Sign_ok (n : Nat) (x' : api_Rat) (r : Int) (hr : fiducialref02_Sign n x' = some r) : FnOk Tryz.prog 55 [.agg [.at (.bool x'.Num.Negative), slT (iC .u32) x'.Num.Groups, .at (.bool x'.Den.Negative), slT (iC .u32) x'.Den.Groups]] (.at (.int .i64 r)) := by
 unfold fiducialref02_Sign at hr
 refine FnOk.body fine Tryz.func55 (c := (Tryz.f55.body).getD .skip) rfl (s := mkS 7 0 [(0, .agg (api_Rat.c x'))]) (by kernel_rfl) (rs := [.tmp 2]) rfl ?_
 unfold Tryz.f55
 simp only [Option.getD_some]
 refine CQ.seq ?_
 refine CQ.r0 fine ?_
 refine EVO.e1 (.hp 0 0) [(0, .own (api_Rat.c x'))] ?_
 refine EVO.p1 (aI64 0) ?_
 refine EVO.done ?_
 refine CQ.n1 [1] (mkS 7 0 [(1, .hp 0 0)]) [.own (api_Rat.c x')] ?_
 refine CQ.seq ?_
 replace hr := bd hr; obtain ⟨v1, hc2, hr⟩ := hr
 replace hr := bd hr; obtain ⟨v3, hc4, hr⟩ := hr
 refine CQ.region fine (callOf_ok [{ f := 107, args := [.agg (api_Rat.c x')], H := [.own (api_Rat.c x')], r := .loc (.agg (api_Rat.c v1)) [] [] 0 : CE }, { f := 101, args := [.agg (api_Int.c v1.Num)], H := [.own (api_Rat.c x')], r := .loc (aI64 v3) [] [] 0 : CE }] (List.forall_mem_cons.2 ⟨(callOk_ref (l := []) (args' := [.agg (api_Rat.c x')]) (SnL.cons (Sn.pure rfl) SnL.nil) (fiducialref02_Value_ok n x' v1 hc2)), (List.forall_mem_cons.2 ⟨(callOk_val (l := []) (args' := [.agg (api_Int.c v1.Num)]) rfl (SnL.cons (Sn.pure rfl) SnL.nil) (fiducialref01_Sign_ok n v1.Num v3 hc4)), ce0⟩)⟩)) ?_
 refine EVO.p1 (.agg (api_Rat.c x')) ?_
 refine EVO.c0 (by kernel_rfl) (callOf_at (by kernel_rfl)) ?_
 refine EVO.p1 (.agg (api_Int.c v1.Num)) ?_
 refine EVO.c0 (by kernel_rfl) (callOf_skip (fun h _ => absurd (show (101 : Nat) = 107 from h) (by decide)) (callOf_at (by kernel_rfl))) ?_
 refine EVO.p1 (aI64 v3) ?_
 refine EVO.done ?_
 refine CQ.ret ?_
 obtain rfl := Option.some.inj hr
 exact FinQ.r1 [aI64 v3]

theorem fiducialref02_Compare_ok (n : Nat) (x' : api_Rat) (y : api_Rat) (r : Int) (hr : fiducialref02_Compare n x' y = some r) : FnOk Tryz.prog 18 [.agg [.at (.bool x'.Num.Negative), slT (iC .u32) x'.Num.Groups, .at (.bool x'.Den.Negative), slT (iC .u32) x'.Den.Groups], .agg [.at (.bool y.Num.Negative), slT (iC .u32) y.Num.Groups, .at (.bool y.Den.Negative), slT (iC .u32) y.Den.Groups]] (.at (.int .i64 r)) := by
 unfold fiducialref02_Compare at hr
 refine FnOk.body fine Tryz.func18 (c := (Tryz.f18.body).getD .skip) rfl (s := mkS 9 0 [(0, .agg (api_Rat.c x')), (1, .agg (api_Rat.c y))]) (by kernel_rfl) (rs := [.tmp 4]) rfl ?_
 unfold Tryz.f18
 simp only [Option.getD_some]
 refine CQ.seq ?_
 refine CQ.r0 fine ?_
 refine EVO.e1 (.hp 0 0) [(0, .own (api_Rat.c x'))] ?_
 refine EVO.e1 (.hp 1 0) [(1, .own (api_Rat.c y))] ?_
 refine EVO.p1 (aI64 0) ?_
 refine EVO.done ?_
 refine CQ.n1 [2, 3] (mkS 9 0 [(2, .hp 0 0), (3, .hp 1 0)]) [.own (api_Rat.c x'), .own (api_Rat.c y)] ?_
 refine CQ.seq ?_
 replace hr := bd hr; obtain ⟨v1, hc2, hr⟩ := hr
 replace hr := bd hr; obtain ⟨v3, hc4, hr⟩ := hr
 refine CQ.region fine (callOf_ok [{ f := 56, args := [.agg (api_Rat.c x'), .agg (api_Rat.c y)], H := [.own (api_Rat.c x'), .own (api_Rat.c y)], r := .loc (.agg (api_Rat.c v1)) [] [] 0 : CE }, { f := 55, args := [.agg (api_Rat.c v1)], H := [.own (api_Rat.c x'), .own (api_Rat.c y)], r := .loc (aI64 v3) [] [] 0 : CE }] (List.forall_mem_cons.2 ⟨(callOk_ref (l := []) (args' := [.agg (api_Rat.c x'), .agg (api_Rat.c y)]) (SnL.cons (Sn.pure rfl) (SnL.cons (Sn.pure rfl) SnL.nil)) (fiducialref02_Sub_ok n x' y v1 hc2)), (List.forall_mem_cons.2 ⟨(callOk_val (l := []) (args' := [.agg (api_Rat.c v1)]) rfl (SnL.cons (Sn.pure rfl) SnL.nil) (fiducialref02_Sign_ok n v1 v3 hc4)), ce0⟩)⟩)) ?_
 refine EVO.p1 (.agg (api_Rat.c x')) ?_
 refine EVO.p1 (.agg (api_Rat.c y)) ?_
 refine EVO.c0 (by kernel_rfl) (callOf_at (by kernel_rfl)) ?_
 refine EVO.c0 (by kernel_rfl) (callOf_skip (fun h _ => absurd (show (55 : Nat) = 56 from h) (by decide)) (callOf_at (by kernel_rfl))) ?_
 refine EVO.p1 (aI64 v3) ?_
 refine EVO.done ?_
 refine CQ.ret ?_
 obtain rfl := Option.some.inj hr
 exact FinQ.r1 [aI64 v3]
end Go.L
