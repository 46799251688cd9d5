
import Derived.Test.YtlpfiiejhikalaaGreatTrkLD
import Derived.Test.YtlpfiiejhikalaaGreatL0Trks
import Derived.Test.YtlpfiiejhikalaaGreatSeqTrks
import Derived.Test.YtlpfiiejhikalaaGreatSortMTrks
import Derived.Test.YtlpfiiejhikalaaGreatSortTTrks
import Derived.Test.YtlpfiiejhikalaaGreatChecked
import Derived.KernelRfl
set_option linter.all false
set_option maxRecDepth 100000
set_option maxHeartbeats 4000000
namespace Go.L
open Go Go.Eng Go.Proofs
theorem kn {i : Int} {a : Int} (h : ([.at (.int .i64 i)] : List AV) = [.at (.int .i64 a)]) : i = a := by
 simp only [List.cons.injEq, AV.agg.injEq, AV.at.injEq, Value.int.injEq, Value.bool.injEq, AV.fn.injEq, AV.pp.injEq, true_and, and_true] at h
 simp_all
theorem bf (n : Nat) {i : Int} {a : Int} (h : ([.at (.int .i64 i)] : List AV) = [.at (.int .i64 a)]) : bF n i = bF n a := by
 obtain rfl := kn h
 rfl
theorem bt (n : Nat) (i : Int) (r : aa) (hr : bF n i = some r) : bo Tryz.prog 16 [ag i] (.agg (aa.c r)) := by
 unfold bF at hr
 refine bo.bd G Tryz.func16 [.cell 2 50] ?_
 unfold Tryz.f16
 simp only [gS]
 refine .seq (.r5 G [0] [(2, .hp 0 0)] [.own [ag 0, ag 0]] (.seq (.r5 G [2] [] [.own [ag i, ag 0]] (.ret ?_))))
 obtain rfl := oi hr
 exact aS.r1 [.agg [ag i, ag 0]]

theorem qg {b : aa} {a : aa} (h : ([.agg [.at (.int .i64 b.Image), .at (.int .i64 b.Feature)]] : List AV) = [.agg [.at (.int .i64 a.Image), .at (.int .i64 a.Feature)]]) : b = a := by
 obtain ⟨_, _⟩ := b
 obtain ⟨_, _⟩ := a
 simp only [List.cons.injEq, AV.agg.injEq, AV.at.injEq, Value.int.injEq, Value.bool.injEq, AV.fn.injEq, AV.pp.injEq, true_and, and_true] at h
 simp_all
theorem kg (n : Nat) {b : aa} {a : aa} (h : ([.agg [.at (.int .i64 b.Image), .at (.int .i64 b.Feature)]] : List AV) = [.agg [.at (.int .i64 a.Image), .at (.int .i64 a.Feature)]]) : fI n b = fI n a := by
 obtain rfl := qg h
 rfl
theorem eQ (n : Nat) (e : aa) (r : Bool) (hr : fI n e = some r) : bo Tryz.prog 48 [.agg (aa.c e)] (aB r) := by
 unfold fI at hr
 refine bo.bd G Tryz.func48 [.tmp 2] ?_
 unfold Tryz.f48
 simp only [gS]
 refine .seq (.r2 G 21 [(1, .hp 0 0)] [.own (aa.c e)] (.seq ?_))
 rcases bT (decide (e.Image < 0)) with a | a
 ·replace hr := cB a hr
  refine .r0 G (.mu 2 (.p0 (v := aB true) (eB a) (.mu 16 (.done (.ret ?_)))))
  obtain rfl := oi hr
  exact aS.r1 [aB true]
 replace hr := cC a hr
 rcases bT (decide (e.Image >= 64)) with b | b
 ·replace hr := cB b hr
  refine .r0 G (.mu 2 (.p0 (v := aB false) (eB a) (.mu 3 (.pure (v := aB true) kRf (eB b) (.mu 12 (.done (.ret ?_)))))))
  obtain rfl := oi hr
  exact aS.r1 [aB true]
 replace hr := cC b hr
 rcases bT (decide (e.Feature < 0)) with d | d
 ·replace hr := cB d hr
  refine .r0 G (.mu 2 (.p0 (v := aB false) (eB a) (.mu 3 (.pure (v := aB false) kRf (eB b) (.mu 4 (.pure (v := aB true) kRf (eB d) (.mu 7 (.done (.ret ?_)))))))))
  obtain rfl := oi hr
  exact aS.r1 [aB true]
 replace hr := cC d hr
 refine .r0 G (.mu 2 (.p0 (v := aB false) (eB a) (.mu 3 (.pure (v := aB false) kRf (eB b) (.mu 4 (.pure (v := aB false) kRf (eB d) (.mu 7 (.done (.ret ?_)))))))))
 obtain rfl := oi hr
 exact aS.r1 [aB (decide (e.Feature > 4095))]

theorem mE (n : Nat) (ties : List ai) (r : Int) (hr : ir n ties = some r) : bo Tryz.prog 33 [slT ai.c ties] (ag r) := by
 unfold ir at hr
 refine bo.bd G Tryz.func33 [.tmp 2] ?_
 unfold Tryz.f33
 simp only [gS]
 refine .seq (.r4 G [0] [] (.seq (.seq (.r4 G [0] [(7, aB (decide ((ties.length : Int) > 256)))] ?_))))
 refine .cd hr ?_ ?_ <;> intro u hr
 ·refine .seq (.ru G (.ret ?_))
  obtain rfl := oi hr
  exact aS.r1 [ag 3]
 refine .skip (.seq (.seq (.r3 G 40 [(8, slT ai.c ties), (9, ag (ties.length : Int)), (10, ag 0)] (.block ?_))))
 replace hr := bd hr; obtain ⟨l, g, hr⟩ := hr
 refine .aP (σ := fun w => match w with | a => ⟨mkS 40 0 [(8, slT ai.c ties), (9, ag (ties.length : Int)), (10, ag a)], []⟩) (Q := fun x st' => match (generalizing := false) l with | .inl _ => x = .exit 0 /\ Wk 0 st' ⟨mkS 40 0 [], []⟩ | .inr (r0) => x = .ret /\ aS Tryz.prog [.tmp 2] (ag r0) .ret st') g ((Wk.gc [8, 9, 10] [] rfl pK0).to) ?_ ?_
 ·clear hr
  rintro m a hr
  refine CQ.sh ?_
  refine .seq (.r4 G [8, 9, 10] [(11, aB (decide (a < (ties.length : Int))))] (.seq ?_))
  refine .cd hr ?_ ?_ <;> intro q hr
  ·refine .skip (.seq (.block (.seq ?_)))
   obtain ⟨k, hr⟩ := gd hr
   refine .r0 G (.p0 (v := .pp (ties.flatMap ai.c) (a.toNat * 5)) (tr (aq k)) (.p0 (v := .agg (ai.c (gt ties a))) (tr (y := bc.ofP (eE (decide (5 <= ((ties.flatMap ai.c).drop (a.toNat * 5)).length)) (.agg (((ties.flatMap ai.c).drop (a.toNat * 5)).take 5)))) (cz ai.len (ax k) (by decide) (by omega : a.toNat * 5 = a.toNat * 5 + 0) kRf)) (.mu 2 (.done (.nh [4, 8, 9, 10] [.own (ai.c (gt ties a))] (.seq (.seq ?_)))))))
   obtain ⟨o, b, hr⟩ := bd hr
   rcases bT o with i | i
   ·subst i
    replace hr := cB rfl hr
    refine .g1 G (ok0 (eQ n (gt ties a).A true b)) (.mu 2 (.ca cf0 (.mu 15 (.done (.nh [4, 8, 9, 10, 31] [.own (ai.c (gt ties a))] (.cT kRf (.seq (.ru G (.ret ?_)))))))))
    obtain rfl := oi hr
    exact ⟨rfl, aS.ret (vs := [ag 2]) kRf (Sn.pure rfl)⟩
   subst i
   replace hr := cC rfl hr
   obtain ⟨p, e, hr⟩ := bd hr
   rcases bT p with j | j
   ·subst j
    replace hr := cB rfl hr
    refine .gn G (ca1 (ok0 (eQ n (gt ties a).A false b)) (ca3 (ok0 (eQ n (gt ties a).B true e)))) (.mu 2 (.ca cf0 (.mu 3 (.ca (cfA (fun h => by rw [sv e b (kg n h)]) cf0) (.mu 11 (.done (.nh [4, 8, 9, 10, 31] [.own (ai.c (gt ties a))] (.cT kRf (.seq (.ru G (.ret ?_)))))))))))
    obtain rfl := oi hr
    exact ⟨rfl, aS.ret (vs := [ag 2]) kRf (Sn.pure rfl)⟩
   subst j
   replace hr := cC rfl hr
   rcases bT (decide ((gt ties a).Cost < 0)) with f | f
   ·replace hr := cB f hr
    refine .gn G (ca1 (ok0 (eQ n (gt ties a).A false b)) (ca3 (ok0 (eQ n (gt ties a).B false e)))) (.mu 2 (.ca cf0 (.mu 3 (.ca (cfA (fun h => by rw [sv e b (kg n h)]) cf0) (.mu 4 (.pure (v := aB true) kRf (eB f) (.mu 6 (.done (.nh [4, 8, 9, 10, 31] [.own (ai.c (gt ties a))] (.cT kRf (.seq (.ru G (.ret ?_)))))))))))))
    obtain rfl := oi hr
    exact ⟨rfl, aS.ret (vs := [ag 2]) kRf (Sn.pure rfl)⟩
   replace hr := cC f hr
   refine .gn G (ca1 (ok0 (eQ n (gt ties a).A false b)) (ca3 (ok0 (eQ n (gt ties a).B false e)))) (.mu 2 (.ca cf0 (.mu 3 (.ca (cfA (fun h => by rw [sv e b (kg n h)]) cf0) (.mu 4 (.pure (v := aB false) kRf (eB f) (.mu 6 (.done (.nh [4, 8, 9, 10, 31] [.own (ai.c (gt ties a))] ?_)))))))))
   refine .cd hr ?_ ?_ <;> intro s hr
   ·refine .seq (.ru G (.ret ?_))
    obtain rfl := oi hr
    exact ⟨rfl, aS.ret (vs := [ag 2]) kRf (Sn.pure rfl)⟩
   refine .skip (.seq (.r4 G [8, 9, 10] [(38, aB (decide ((gt ties a).A.Image >= (gt ties a).B.Image)))] ?_))
   refine .cd hr ?_ ?_ <;> intro t hr
   ·refine .seq (.ru G (.ret ?_))
    obtain rfl := oi hr
    exact ⟨rfl, aS.ret (vs := [ag 5]) kRf (Sn.pure rfl)⟩
   refine .skip (.pop (.ru G ?_))
   exact aF (Ew (a + 1)) hr ((Wk.gc [8, 9, 10] [] rfl pK0).to)
  refine .leave rfl ?_
  obtain rfl := oi hr
  exact ⟨rfl, ((Wk.gc [] [] rfl pK0).to)⟩
 rcases l with ⟨⟩ | r0
 ·rintro x st' d
  clear g
  obtain ⟨rfl, d⟩ := d
  refine a8 _ rfl (.wk d (.seq (.ru G (.ret ?_))))
  obtain rfl := oi hr
  exact aS.r1 [ag 0]
 rintro x st' d
 clear g
 obtain ⟨rfl, d⟩ := d
 obtain rfl := oi hr
 exact fp _ d

theorem n9 (n : Nat) (a : Int) (r : Int) (hr : jv n a = some r) : bo Tryz.prog 80 [aV a] (ag r) := by
 unfold jv at hr
 refine bo.bd G Tryz.func80 [.tmp 2] ?_
 unfold Tryz.f80
 simp only [gS]
 refine .seq (.r4 G [0] [(2, ag 0)] (.seq (.seq (.r4 G [0, 2] [(4, aB (decide (a >= 4294967296)))] ?_))))
 refine .cd hr ?_ ?_ <;> intro u hr
 ·refine .seq (.r3 G 25 [(0, aV (a.fdiv (2 ^ 32)))] (.r4 G [0] [(2, ag 32)] (.seq (.seq (.r4 G [0, 2] [(8, aB (decide ((a.fdiv (2 ^ 32)) >= 65536)))] ?_)))))
  refine .cd hr ?_ ?_ <;> intro w hr
  ·refine .seq (.r4 G [2] [(0, aV ((a.fdiv (2 ^ 32)).fdiv (2 ^ 16)))] (.r4 G [0] [(2, ag 48)] (.seq (.seq (.r4 G [0, 2] [(14, aB (decide (((a.fdiv (2 ^ 32)).fdiv (2 ^ 16)) >= 256)))] ?_)))))
   refine .cd hr ?_ ?_ <;> intro x hr
   ·refine .seq (.r4 G [2] [(0, aV (((a.fdiv (2 ^ 32)).fdiv (2 ^ 16)).fdiv (2 ^ 8)))] ?_)
    obtain ⟨h, j, hr⟩ := bd hr
    refine .wk ((Wk.refl _).to (c := ⟨mkS 25 0 [(0, aV h), (2, ag 48)], []⟩) (by rw [oi j]; first | done | kernel_rfl)) <| .r4 G [0] [(2, ag 56)] <| .seq ?_
    obtain ⟨l, hr⟩ := gd hr
    refine .r0 G (.mu 3 (.p0 (v := aU8 (fz eI (ae .u8 h))) (kA (s := eI) (k := .u8) (i := (ae .u8 h)) kRf kRf kRf l) (.mu 3 (.done (.ret ?_)))))
    obtain rfl := oi hr
    exact aS.r1 [ag (Ew (56 + (Ew (fz eI (ae .u8 h)))))]
   refine .skip (.seq ?_)
   obtain ⟨m, hr⟩ := gd hr
   refine .r0 G (.mu 3 (.p0 (v := aU8 (fz eI (ae .u8 ((a.fdiv (2 ^ 32)).fdiv (2 ^ 16))))) (kA (s := eI) (k := .u8) (i := (ae .u8 ((a.fdiv (2 ^ 32)).fdiv (2 ^ 16)))) kRf kRf kRf m) (.mu 3 (.done (.ret ?_)))))
   obtain rfl := oi hr
   exact aS.r1 [ag (Ew (48 + (Ew (fz eI (ae .u8 ((a.fdiv (2 ^ 32)).fdiv (2 ^ 16)))))))]
  refine .skip (.seq (.seq (.r4 G [0, 2] [(14, aB (decide ((a.fdiv (2 ^ 32)) >= 256)))] ?_)))
  refine .cd hr ?_ ?_ <;> intro y hr
  ·refine .seq (.r4 G [2] [(0, aV ((a.fdiv (2 ^ 32)).fdiv (2 ^ 8)))] (.r4 G [0] [(2, ag 40)] (.seq ?_)))
   obtain ⟨o, hr⟩ := gd hr
   refine .r0 G (.mu 3 (.p0 (v := aU8 (fz eI (ae .u8 ((a.fdiv (2 ^ 32)).fdiv (2 ^ 8))))) (kA (s := eI) (k := .u8) (i := (ae .u8 ((a.fdiv (2 ^ 32)).fdiv (2 ^ 8)))) kRf kRf kRf o) (.mu 3 (.done (.ret ?_)))))
   obtain rfl := oi hr
   exact aS.r1 [ag (Ew (40 + (Ew (fz eI (ae .u8 ((a.fdiv (2 ^ 32)).fdiv (2 ^ 8)))))))]
  refine .skip (.seq ?_)
  obtain ⟨b, hr⟩ := gd hr
  refine .r0 G (.mu 3 (.p0 (v := aU8 (fz eI (ae .u8 (a.fdiv (2 ^ 32))))) (kA (s := eI) (k := .u8) (i := (ae .u8 (a.fdiv (2 ^ 32)))) kRf kRf kRf b) (.mu 3 (.done (.ret ?_)))))
  obtain rfl := oi hr
  exact aS.r1 [ag (Ew (32 + (Ew (fz eI (ae .u8 (a.fdiv (2 ^ 32)))))))]
 refine .skip (.seq (.seq (.r4 G [0, 2] [(8, aB (decide (a >= 65536)))] ?_)))
 refine .cd hr ?_ ?_ <;> intro p hr
 ·refine .seq (.r4 G [2] [(0, aV (a.fdiv (2 ^ 16)))] (.r4 G [0] [(2, ag 16)] (.seq (.seq (.r4 G [0, 2] [(14, aB (decide ((a.fdiv (2 ^ 16)) >= 256)))] ?_)))))
  refine .cd hr ?_ ?_ <;> intro q hr
  ·refine .seq (.r4 G [2] [(0, aV ((a.fdiv (2 ^ 16)).fdiv (2 ^ 8)))] (.r4 G [0] [(2, ag 24)] (.seq ?_)))
   obtain ⟨d, hr⟩ := gd hr
   refine .r0 G (.mu 3 (.p0 (v := aU8 (fz eI (ae .u8 ((a.fdiv (2 ^ 16)).fdiv (2 ^ 8))))) (kA (s := eI) (k := .u8) (i := (ae .u8 ((a.fdiv (2 ^ 16)).fdiv (2 ^ 8)))) kRf kRf kRf d) (.mu 3 (.done (.ret ?_)))))
   obtain rfl := oi hr
   exact aS.r1 [ag (Ew (24 + (Ew (fz eI (ae .u8 ((a.fdiv (2 ^ 16)).fdiv (2 ^ 8)))))))]
  refine .skip (.seq ?_)
  obtain ⟨e, hr⟩ := gd hr
  refine .r0 G (.mu 3 (.p0 (v := aU8 (fz eI (ae .u8 (a.fdiv (2 ^ 16))))) (kA (s := eI) (k := .u8) (i := (ae .u8 (a.fdiv (2 ^ 16)))) kRf kRf kRf e) (.mu 3 (.done (.ret ?_)))))
  obtain rfl := oi hr
  exact aS.r1 [ag (Ew (16 + (Ew (fz eI (ae .u8 (a.fdiv (2 ^ 16)))))))]
 refine .skip (.seq (.seq (.r4 G [0, 2] [(14, aB (decide (a >= 256)))] ?_)))
 refine .cd hr ?_ ?_ <;> intro t hr
 ·refine .seq (.r4 G [2] [(0, aV (a.fdiv (2 ^ 8)))] (.r4 G [0] [(2, ag 8)] (.seq ?_)))
  obtain ⟨f, hr⟩ := gd hr
  refine .r0 G (.mu 3 (.p0 (v := aU8 (fz eI (ae .u8 (a.fdiv (2 ^ 8))))) (kA (s := eI) (k := .u8) (i := (ae .u8 (a.fdiv (2 ^ 8)))) kRf kRf kRf f) (.mu 3 (.done (.ret ?_)))))
  obtain rfl := oi hr
  exact aS.r1 [ag (Ew (8 + (Ew (fz eI (ae .u8 (a.fdiv (2 ^ 8)))))))]
 refine .skip (.seq ?_)
 obtain ⟨g, hr⟩ := gd hr
 refine .r0 G (.mu 3 (.p0 (v := aU8 (fz eI (ae .u8 a))) (kA (s := eI) (k := .u8) (i := (ae .u8 a)) kRf kRf kRf g) (.mu 3 (.done (.ret ?_)))))
 obtain rfl := oi hr
 exact aS.r1 [ag (Ew (0 + (Ew (fz eI (ae .u8 a)))))]

theorem kQ (n : Nat) (a : Int) (r : Int) (hr : dO n a = some r) : bo Tryz.prog 62 [aV a] (ag r) := by
 unfold dO at hr
 refine bo.bd G Tryz.func62 [.tmp 2] ?_
 unfold Tryz.f62
 simp only [gS]
 refine .seq (.r4 G [0] [] (.seq (.cF kRf (.skip (.seq ?_)))))
 obtain ⟨c, b, hr⟩ := bd hr
 refine .g1 G (ok0 (n9 n a c b)) (.mu 1 (.ca cf0 (.mu 1 (.done (.ret ?_)))))
 obtain rfl := oi hr
 exact aS.r1 [ag c]

theorem lk [Dr] (n : Nat) (a : Int) (r : Bool) (hr : cmp_isNaN_int n a = some r) : bo Tryz.prog 111 [ag a] (aB r) := by
 unfold cmp_isNaN_int at hr
 refine bo.bd G Tryz.func111 [.tmp 2] ?_
 unfold Tryz.f111
 simp only [gS]
 refine .seq (.r4 G [0] [] (.seq (.ru G (.ret ?_))))
 obtain rfl := oi hr
 exact aS.r1 [aB ((a : Int) != a)]

theorem nQ [Dr] (n : Nat) (a : Int) (y : Int) (r : Int) (hr : fP n a y = some r) : bo Tryz.prog 97 [ag a, ag y] (ag r) := by
 unfold fP at hr
 refine bo.bd G Tryz.func97 [.tmp 4] ?_
 unfold Tryz.f97
 simp only [gS]
 refine .seq (.r4 G [0, 1] [] (.seq ?_))
 obtain ⟨e, b, hr⟩ := bd hr
 refine .g1 G (ok0 (lk n a e b)) (.mu 1 (.ca cf0 (.mu 1 (.done (.nh [0, 1, 5] [] (.seq ?_))))))
 obtain ⟨c, d, hr⟩ := bd hr
 refine .g1 G (ok0 (lk n y c d)) (.mu 1 (.ca cf0 (.mu 1 (.done (.nh [0, 1, 5, 6] [] (.seq (.seq (.r4 G [0, 1, 6] [(11, aB e)] ?_))))))))
 refine .cd hr ?_ ?_ <;> intro f hr
 ·refine .seq (.seq (.r3 G 20 [(12, aB c)] ?_))
  refine .cd hr ?_ ?_ <;> intro g hr
  ·refine .seq (.ru G (.ret ?_))
   obtain rfl := oi hr
   exact aS.r1 [ag 0]
  refine .skip (.seq (.ru G (.ret ?_)))
  obtain rfl := oi hr
  exact aS.r1 [ag (-1)]
 refine .skip (.seq (.seq (.r4 G [0, 1] [(13, aB c)] ?_)))
 refine .cd hr ?_ ?_ <;> intro h hr
 ·refine .seq (.ru G (.ret ?_))
  obtain rfl := oi hr
  exact aS.r1 [ag 1]
 refine .skip (.seq (.seq (.r4 G [0, 1] [(16, aB (decide (a < y)))] ?_)))
 refine .cd hr ?_ ?_ <;> intro i hr
 ·refine .seq (.ru G (.ret ?_))
  obtain rfl := oi hr
  exact aS.r1 [ag (-1)]
 refine .skip (.seq (.seq (.r3 G 20 [(19, aB (decide (a > y)))] ?_)))
 refine .cd hr ?_ ?_ <;> intro j hr
 ·refine .seq (.ru G (.ret ?_))
  obtain rfl := oi hr
  exact aS.r1 [ag 1]
 refine .skip (.seq (.ru G (.ret ?_)))
 obtain rfl := oi hr
 exact aS.r1 [ag 0]

theorem ki [Dr] (n : Nat) (c : List Int) (e : List Int) (r : Int) (hr : eD n c e = some r) : bo Tryz.prog 67 [gj c, gj e] (ag r) := by
 unfold eD at hr
 refine bo.bd G Tryz.func67 [.tmp 4] ?_
 unfold Tryz.f67
 simp only [gS]
 refine .seq (.r4 G [0, 1] [] (.seq (.seq (.r4 G [0, 1] [(9, gj c), (10, ag (c.length : Int)), (11, ag 0)] (.block ?_)))))
 replace hr := bd hr; obtain ⟨i, d, hr⟩ := hr
 refine .aP (σ := fun q => match q with | a => ⟨mkS 36 0 [(0, gj c), (1, gj e), (9, gj c), (10, ag (c.length : Int)), (11, ag a)], []⟩) (Q := fun x st' => match (generalizing := false) i with | .inl _ => x = .exit 0 /\ Wk 0 st' ⟨mkS 36 0 [(0, gj c), (1, gj e)], []⟩ | .inr (r0) => x = .ret /\ aS Tryz.prog [.tmp 4] (ag r0) .ret st') d ((Wk.gc [0, 1, 9, 10, 11] [] rfl pK0).to) ?_ ?_
 ·clear hr
  rintro m a hr
  refine CQ.sh ?_
  refine .seq (.r4 G [0, 1, 9, 10, 11] [(12, aB (decide (a < (c.length : Int))))] (.seq ?_))
  refine .cd hr ?_ ?_ <;> intro k hr
  ·refine .skip (.seq (.block (.seq ?_)))
   obtain ⟨f, hr⟩ := gd hr
   refine .r0 G (.mu 1 (.p0 (v := .pp (c.flatMap (iC .i64)) (a.toNat * 1)) (tr (aq f)) (.p0 (v := ag (gt c a)) (tr (aD (aC (ay .i64) (ax f) z1 (by omega : a.toNat * 1 = a.toNat * 1 + 0) kRf))) (.mu 2 (.done (.nh [0, 1, 5, 6, 9, 10, 11] [] (.seq (.seq (.r4 G [0, 1, 5, 6, 9, 10, 11] [(19, aB (decide (a >= (e.length : Int))))] ?_)))))))))
   refine .cd hr ?_ ?_ <;> intro l hr
   ·refine .seq (.ru G (.ret ?_))
    obtain rfl := oi hr
    exact ⟨rfl, aS.ret (vs := [ag 1]) kRf (Sn.pure rfl)⟩
   refine .skip (.seq ?_)
   obtain ⟨g, hr⟩ := gd hr
   refine .r0 G (.mu 2 (.p0 (v := .pp (e.flatMap (iC .i64)) (a.toNat * 1)) (tr (aq g)) (.p0 (v := ag (gt e a)) (tr (aD (aC (ay .i64) (ax g) z1 (by omega : a.toNat * 1 = a.toNat * 1 + 0) kRf))) (.mu 1 (.done (.nh [0, 1, 6, 7, 9, 10, 11] [] (.seq ?_)))))))
   obtain ⟨h, j, hr⟩ := bd hr
   refine .g1 G (ok0 (nQ n (gt c a) (gt e a) h j)) (.mu 2 (.ca cf0 (.mu 1 (.done (.nh [0, 1, 8, 9, 10, 11] [] (.seq (.r4 G [0, 1, 8, 9, 10, 11] [(28, aB ((h : Int) != 0))] ?_)))))))
   refine .cd hr ?_ ?_ <;> intro o hr
   ·refine .seq (.ru G (.ret ?_))
    obtain rfl := oi hr
    exact ⟨rfl, aS.ret (vs := [ag h]) kRf (Sn.pure rfl)⟩
   refine .skip (.pop (.ru G ?_))
   exact aF (Ew (a + 1)) hr ((Wk.gc [0, 1, 9, 10, 11] [] rfl pK0).to)
  refine .leave rfl ?_
  obtain rfl := oi hr
  exact ⟨rfl, ((Wk.gc [0, 1] [] rfl pK0).to)⟩
 rcases i with ⟨⟩ | r0
 ·rintro x st' b
  clear d
  obtain ⟨rfl, b⟩ := b
  refine a8 _ rfl (.wk b (.seq (.seq (.r3 G 36 [(35, aB (decide ((c.length : Int) < (e.length : Int))))] ?_))))
  refine .cd hr ?_ ?_ <;> intro p hr
  ·refine .seq (.ru G (.ret ?_))
   obtain rfl := oi hr
   exact aS.r1 [ag (-1)]
  refine .skip (.seq (.ru G (.ret ?_)))
  obtain rfl := oi hr
  exact aS.r1 [ag 0]
 rintro x st' b
 clear d
 obtain ⟨rfl, b⟩ := b
 obtain rfl := oi hr
 exact fp _ b

theorem fV [Dr] (n : Nat) (a : aa) (b : aa) (r : Int) (hr : de n a b = some r) : bo Tryz.prog 56 [.agg (aa.c a), .agg (aa.c b)] (ag r) := by
 unfold de at hr
 refine bo.bd G Tryz.func56 [.tmp 4] ?_
 unfold Tryz.f56
 simp only [gS]
 refine .seq (.r2 G 16 [(2, .hp 0 0), (3, .hp 1 0)] [.own (aa.c a), .own (aa.c b)] (.seq ?_))
 obtain ⟨e, d, hr⟩ := bd hr
 refine .gn G (ca4 [.own (aa.c a), .own (aa.c b), .own (aa.c a), .own (aa.c b)] (dd (args := [.hs 2 0 2 1, .hs 3 0 2 1]) (l := [2, 3]) rfl (SnL.cons (Sn.hs rfl (.inl rfl) (SnC.cons (Sn.pure rfl) (SnC.cons (Sn.pure rfl) SnC.nil)) (fun h => nomatch h)) (SnL.cons (Sn.hs rfl (.inl rfl) (SnC.cons (Sn.pure rfl) (SnC.cons (Sn.pure rfl) SnC.nil)) (fun h => nomatch h)) SnL.nil)) (ki n [a.Image, a.Feature] [b.Image, b.Feature] e d))) (.mu 10 (.ca cf0 (.mu 1 (.done (.ret ?_)))))
 obtain rfl := oi hr
 exact aS.r1 [ag e]

theorem mj [Dr] (n : Nat) (a : ai) (b : ai) (r : Int) (hr : fg n a b = some r) : bo Tryz.prog 51 [.agg (ai.c a), .agg (ai.c b)] (ag r) := by
 unfold fg at hr
 refine bo.bd G Tryz.func51 [.tmp 4] ?_
 unfold Tryz.f51
 simp only [gS]
 refine .seq (.r2 G 29 [(2, .hp 0 0), (3, .hp 1 0)] [.own (ai.c a), .own (ai.c b)] (.seq (.seq (.r4 G [2, 3] [(10, aB ((a.Cost : Int) != b.Cost))] ?_))))
 refine .cd hr ?_ ?_ <;> intro h hr
 ·refine .seq (.ru G (.ret ?_))
  obtain rfl := oi hr
  exact aS.r1 [ag (Ew (a.Cost - b.Cost))]
 refine .skip (.seq (.seq ?_))
 obtain ⟨d, e, hr⟩ := bd hr
 refine .g1 G (ok0 (fV n a.A b.A d e)) (.mu 4 (.ca cf0 (.mu 1 (.done (.nh [2, 3, 5] [.own (ai.c a), .own (ai.c b)] (.seq (.r4 G [2, 3, 5] [(22, aB ((d : Int) != 0))] ?_)))))))
 refine .cd hr ?_ ?_ <;> intro i hr
 ·refine .seq (.ru G (.ret ?_))
  obtain rfl := oi hr
  exact aS.r1 [ag d]
 refine .skip (.seq ?_)
 obtain ⟨g, f, hr⟩ := bd hr
 refine .g1 G (ok0 (fV n a.B b.B g f)) (.mu 4 (.ca cf0 (.mu 1 (.done (.ret ?_)))))
 obtain rfl := oi hr
 exact aS.r1 [ag g]

theorem eL (n : Nat) (s : List ai) (r : List ai) (hr : bj n s = some r) : bx 0 Tryz.prog 49 [slT ai.c s] [] (.hs 0 0 r.length 5) [.own (r.flatMap ai.c)] := by
 unfold bj at hr
 refine bx.fH G Tryz.func49 (c := (Tryz.f49.body).getD .skip) rfl (us := [.hs 0 0 r.length 5]) (s := mkS 8 0 [(0, slT ai.c s)]) kRf (rs := [.tmp 2]) rfl ?_
 unfold Tryz.f49
 simp only [gS]
 refine .seq (.r4 G [0] [] (.seq (.seq ?_)))
 refine .tC (t := 0) (cs := s.flatMap ai.c) (len := s.length) kRf (fun a => ?_) ?_
 ·obtain rfl : s = [] := List.length_eq_zero_iff.1 a
  have hx := gd hr; clear hr; obtain ⟨_, hr⟩ := hx
  have hx := gd hr; clear hr; obtain ⟨_, hr⟩ := hx
  refine .r4 G [0] [(4, aB true)] (.cT kRf (.seq (.r3 G 8 [(2, nS)] (.ret ?_))))
  obtain rfl := oi hr
  exact b6.ret [nS] ((Wk.nil 0 5 kRf).trans ((Wk.gc [0] [(0, false)] rfl (pKc trivial)).to))
 refine .r4 G [0] [(4, aB false)] (.cF kRf (.skip (.seq ?_)))
 obtain ⟨b, d, hr⟩ := gd2 hr
 refine .r0 G (.mu 2 (.e0 (v := .hs 1 0 s.length 5) (ws := [(0, .dead), (1, .own (s.flatMap ai.c))]) (tr (y := Ah (decide (((s.flatMap ai.c)).length = s.length * 5)) (s.flatMap ai.c) s.length (fun z1 e => jW (decide (0 + 0 * 5 <= (([] : List ai).flatMap ai.c).length) && decide ((0 + e) * 40 <= 140737488355328) && decide (0 + e <= 4611686018427387904)) (some (.eff (.hs 1 0 (0 + e) 5) [(0, .dead), (1, .own (((([] : List ai).flatMap ai.c).drop 0).take (0 * 5) ++ z1))])))) (vv (pE ai.len) rfl (dm (l := ([] : List ai)) (xs := s) ai.len rfl rfl rfl b d))) (.mu 1 (.done (.nh [2] [.dead, .own (s.flatMap ai.c)] (.ret ?_))))))
 obtain rfl := oi hr
 exact b6.ret [.hs 1 0 s.length 5] ((Wk.gc [0] [(1, false)] rfl (pKo ai.c ai.pure s trivial)).to)

theorem cP (n : Nat) (a : List ai) (r : List ai) (hr : aR n a = some r) : bx 1 Tryz.prog 50 [.hs 0 0 a.length 5, .fn 51 [] []] [.own (a.flatMap ai.c)] (.tup []) [.own (r.flatMap ai.c)] := by
 unfold aR at hr
 obtain ⟨b, hr⟩ := gd hr
 exact bx.AK (c := ai.c) (caps' := []) (Go.Proofs.YtlpfiiejhikalaaGreat.rN (enters_of Tryz.func51 kRf rfl)) Go.Proofs.YtlpfiiejhikalaaGreat.yb ai.len ai.pure hr (dcT b) SnL.nil (fun x y r hc => @mj ⟨true⟩ n x y r hc)

theorem dZ (n : Nat) (s : List ai) (r : List ai) (hr : aW n s = some r) : bx 1 Tryz.prog 52 [.hs 0 0 s.length 5] [.own (s.flatMap ai.c)] (.hs 0 0 r.length 5) [.own (r.flatMap ai.c)] := by
 unfold aW at hr
 refine bx.fH G Tryz.func52 (c := (Tryz.f52.body).getD .skip) rfl (us := [.hs 0 0 r.length 5]) (s := mkS 61 0 [(0, .hs 0 0 s.length 5)]) kRf (rs := [.tmp 2]) rfl ?_
 unfold Tryz.f52
 simp only [gS]
 refine .seq (.r4 G [0] [] (.seq (.seq (.r4 G [0] [(8, aB (decide ((s.length : Int) < 2)))] ?_))))
 refine .cd hr ?_ ?_ <;> intro O hr
 ·refine .seq (.r3 G 61 [(2, .hs 0 0 s.length 5)] (.ret ?_))
  obtain rfl := oi hr
  exact b6.ret [.hs 0 0 s.length 5] ((Wk.gc [0] [(0, false)] rfl (pKo ai.c ai.pure s trivial)).to)
 refine .skip (.seq (.seq (.r4 G [0] [(3, ag 1)] (.block ?_))))
 replace hr := bd hr; obtain ⟨B, j, hr⟩ := hr
 refine .aP (σ := fun I => match I with | d => ⟨mkS 61 0 [(0, .hs 0 0 s.length 5), (3, ag d)], [.own (s.flatMap ai.c)]⟩) (Q := fun x st' => match (generalizing := false) B with | .inl _ => x = .exit 0 /\ Wk 1 st' ⟨mkS 61 0 [(0, .hs 0 0 s.length 5)], [.own (s.flatMap ai.c)]⟩ | .inr (r0) => x = .ret /\ b6 1 Tryz.prog [.tmp 2] [.hs 0 0 r0.length 5] [.own (r0.flatMap ai.c)] .ret st') j ((Wk.gc [0, 3] [(0, false)] rfl (pKo ai.c ai.pure s trivial)).to) ?_ ?_
 ·clear hr
  rintro m d hr
  refine CQ.sh ?_
  refine .seq (.seq (.r4 G [0, 3] [(13, aB (decide (d < (s.length : Int))))] ?_))
  refine .cd hr ?_ ?_ <;> intro J hr
  ·refine .skip (.seq (.block (.seq ?_)))
   obtain ⟨o, p, hr⟩ := gd2 hr
   refine .ba G aK (.mu 2 (.pk (v := .hp 0 (0 + d.toNat * 5)) (tr (aq o)) (.pk (v := .agg (ai.c (gt s d))) (tr (y := bc.ofP (eE (decide (5 <= ((s.flatMap ai.c).drop (0 + d.toNat * 5)).length)) (.agg (((s.flatMap ai.c).drop (0 + d.toNat * 5)).take 5)))) (cz ai.len (ax o) (by decide) (by omega : 0 + d.toNat * 5 = d.toNat * 5 + 0) kRf)) (.mu 3 (.pk (v := .hp 0 (0 + (Ew (d - 1)).toNat * 5)) (tr (aq p)) (.pk (v := .agg (ai.c (gt s (Ew (d - 1))))) (tr (y := bc.ofP (eE (decide (5 <= ((s.flatMap ai.c).drop (0 + (Ew (d - 1)).toNat * 5)).length)) (.agg (((s.flatMap ai.c).drop (0 + (Ew (d - 1)).toNat * 5)).take 5)))) (cz ai.len (ax p) (by decide) (by omega : 0 + (Ew (d - 1)).toNat * 5 = (Ew (d - 1)).toNat * 5 + 0) kRf)) (.mu 1 ?_)))))))
   refine .done (kRa ?_)
   refine .nh [0, 3, 25] [.own (s.flatMap ai.c)] ?_
   refine .cd hr ?_ ?_ <;> intro L hr
   ·refine .seq ?_
    obtain ⟨D, hr⟩ := gd hr
    refine .r0 G (.mu 2 (.p0 (v := .hs 0 (0 + d.toNat * 5) (s.length - d.toNat) 5) (tr (y := slH (inS d (s.length : Int) s.length) true (d.toNat) ((s.length : Int).toNat) (fun z1 H => .hs 0 (0 + z1 * 5) (H - z1) 5)) (r7 D kRf)) (.mu 1 (.done (.nh [0, 3, 4] [.own (s.flatMap ai.c)] (.seq (.seq (.r4 G [0, 3, 4] [(5, ag 1)] (.block ?_)))))))))
    replace hr := bd hr; obtain ⟨C, q, hr⟩ := hr
    refine .aP (σ := fun I => match I with | (f, h, k2_108) => ⟨mkS 61 0 [(0, .hs 0 0 f.length 5), (3, ag h), (4, .hs 0 (0 + d.toNat * 5) (s.length - d.toNat) 5), (5, ag k2_108)], [.own (f.flatMap ai.c)]⟩) (Q := fun x st' => match (generalizing := false) C with | (g, e) => x = .exit 2 /\ Wk 1 st' ⟨mkS 61 0 [(0, .hs 0 0 g.length 5), (3, ag e)], [.own (g.flatMap ai.c)]⟩) q ((Wk.gc [0, 3, 4, 5] [(0, false)] rfl (pKo ai.c ai.pure s trivial)).to) ?_ ?_
    ·clear hr
     rintro m ⟨f, h, k2_108⟩ hr
     refine CQ.sh ?_
     refine .seq (.seq (.r4 G [0, 3, 4, 5] [(32, aB (decide (k2_108 < ((s.length - d.toNat : Nat) : Int))))] ?_))
     refine .cd hr ?_ ?_ <;> intro M hr
     ·refine .skip (.seq (.block (.seq ?_)))
      obtain ⟨t, u, E, hr⟩ := gd3 hr
      obtain ⟨F, hr⟩ := gd hr
      refine .ba G aK (.mu 2 (.pk (v := .hp 0 (0 + d.toNat * 5 + k2_108.toNat * 5)) (tr (aq t)) (.pk (v := .agg (ai.c (gt f ((d.toNat + k2_108.toNat : Nat) : Int)))) (tr (y := bc.ofP (eE (decide (5 <= ((f.flatMap ai.c).drop (0 + d.toNat * 5 + k2_108.toNat * 5)).length)) (.agg (((f.flatMap ai.c).drop (0 + d.toNat * 5 + k2_108.toNat * 5)).take 5)))) (cz ai.len (ax u) (by decide) (by omega : 0 + d.toNat * 5 + k2_108.toNat * 5 = ((d.toNat + k2_108.toNat : Nat) : Int).toNat * 5 + 0) kRf)) (.mu 3 (.pk (v := .hp 0 (0 + d.toNat * 5 + (Ew (k2_108 - 1)).toNat * 5)) (tr (aq E)) (.pk (v := .agg (ai.c (gt f ((d.toNat + (Ew (k2_108 - 1)).toNat : Nat) : Int)))) (tr (y := bc.ofP (eE (decide (5 <= ((f.flatMap ai.c).drop (0 + d.toNat * 5 + (Ew (k2_108 - 1)).toNat * 5)).length)) (.agg (((f.flatMap ai.c).drop (0 + d.toNat * 5 + (Ew (k2_108 - 1)).toNat * 5)).take 5)))) (cz ai.len (ax F) (by decide) (by omega : 0 + d.toNat * 5 + (Ew (k2_108 - 1)).toNat * 5 = ((d.toNat + (Ew (k2_108 - 1)).toNat : Nat) : Int).toNat * 5 + 0) kRf)) (.mu 1 ?_)))))))
      refine .done (kRa ?_)
      refine .nh [0, 3, 4, 5, 44] [.own (f.flatMap ai.c)] ?_
      refine .cd hr ?_ ?_ <;> intro N hr
      ·refine .seq ?_
       obtain ⟨k, hr⟩ := gd hr
       refine .r0 G (.mu 4 (.p0 (v := .hp 0 (0 + d.toNat * 5 + k2_108.toNat * 5)) (tr (aq t)) (.p0 (v := .agg (ai.c (gt f ((d.toNat + k2_108.toNat : Nat) : Int)))) (tr (y := bc.ofP (eE (decide (5 <= ((f.flatMap ai.c).drop (0 + d.toNat * 5 + k2_108.toNat * 5)).length)) (.agg (((f.flatMap ai.c).drop (0 + d.toNat * 5 + k2_108.toNat * 5)).take 5)))) (cz ai.len (ax u) (by decide) (by omega : 0 + d.toNat * 5 + k2_108.toNat * 5 = ((d.toNat + k2_108.toNat : Nat) : Int).toNat * 5 + 0) kRf)) (.p0 (v := .hp 0 (0 + h.toNat * 5)) (tr (aq k)) (.e0 (v := .unk) (ws := [(0, .own ((f.set h.toNat (gt f ((d.toNat + k2_108.toNat : Nat) : Int))).flatMap ai.c))]) (tr (dB (dw (bn (n := 5) ai.len (ax k) (lbT rfl) (by omega : 0 + h.toNat * 5 = h.toNat * 5 + 0))) (congrArg Blk.own (bE (xs := (ai.c (gt f ((d.toNat + k2_108.toNat : Nat) : Int)))) ai.len (ax k) (lbT rfl) (by omega : 0 + h.toNat * 5 = h.toNat * 5 + 0) kRf)))) (.done (.nh [0, 3, 4, 5] [.own ((f.set h.toNat (gt f ((d.toNat + k2_108.toNat : Nat) : Int))).flatMap ai.c)] (.ru G (.pop (.ru G ?_))))))))))
       exact aF (f.set h.toNat (gt f ((d.toNat + k2_108.toNat : Nat) : Int)), Ew (h + 1), Ew (k2_108 + 1)) hr ((Wk.eG 0 (b := 0) (es := 5) (len := f.length) (f.set h.toNat (gt f ((d.toNat + k2_108.toNat : Nat) : Int))).length kRf (Eq.symm (List.length_set.trans rfl))).trans ((Wk.gc [0, 3, 4, 5] [(0, false)] rfl (pKo ai.c ai.pure (f.set h.toNat (gt f ((d.toNat + k2_108.toNat : Nat) : Int))) trivial)).to))
      refine .skip (.pop (.ru G ?_))
      exact aF (f, h, Ew (k2_108 + 1)) hr ((Wk.gc [0, 3, 4, 5] [(0, false)] rfl (pKo ai.c ai.pure f trivial)).to)
     refine .leave rfl ?_
     obtain rfl := oi hr
     exact ⟨rfl, ((Wk.gc [0, 3] [(0, false)] rfl (pKo ai.c ai.pure f trivial)).to)⟩
    rcases C with ⟨g, e⟩
    rintro x st' l
    clear q
    obtain ⟨rfl, l⟩ := l
    refine a8 _ rfl (.wk l (.seq ?_))
    obtain ⟨w, hr⟩ := gd hr
    refine .r0 G (.mu 2 (.p0 (v := .hs 0 (0 + e.toNat * 5) (g.length - e.toNat) 5) (tr (y := slH (inS e (g.length : Int) g.length) true (e.toNat) ((g.length : Int).toNat) (fun z1 H => .hs 0 (0 + z1 * 5) (H - z1) 5)) (r7 w kRf)) (.e0 (v := .at (.tuple #[])) (ws := [(0, .own ((fZ g e.toNat (List.replicate (g.length - e.toNat) (ai.mk (aa.mk 0 0) (aa.mk 0 0) 0))).flatMap ai.c))]) (tr (Ck (a := e.toNat) (z := (ai.mk (aa.mk 0 0) (aa.mk 0 0) 0)) ai.len rfl (Nat.zero_add _) (yG w))) (.done (.nh [0, 3] [.own ((fZ g e.toNat (List.replicate (g.length - e.toNat) (ai.mk (aa.mk 0 0) (aa.mk 0 0) 0))).flatMap ai.c)] (.seq ?_))))))
    obtain ⟨A, hr⟩ := gd hr
    refine .r0 G (.mu 2 (.p0 (v := .hs 0 0 e.toNat 5) (tr (y := slH (inS 0 e g.length) true ((0 : Int).toNat) (e.toNat) (fun z1 H => .hs 0 (0 + z1 * 5) (H - z1) 5)) (r7 A kRf)) (.mu 1 (.done (.nh [2] [.own ((fZ g e.toNat (List.replicate (g.length - e.toNat) (ai.mk (aa.mk 0 0) (aa.mk 0 0) 0))).flatMap ai.c)] (.wk ((Wk.Cu (c := ai.c) (es := 5) 2 0 ai.len (fZ g e.toNat (List.replicate (g.length - e.toNat) (ai.mk (aa.mk 0 0) (aa.mk 0 0) 0))) e.toNat (Nat.le_trans (yA A) (Nat.le_of_eq (Eq.symm ((pe _ _ _).trans rfl)))) kRf kRf).to (c := ⟨mkS 61 0 [(2, .hs 0 0 ((fZ g e.toNat (List.replicate (g.length - e.toNat) (ai.mk (aa.mk 0 0) (aa.mk 0 0) 0))).take e.toNat).length 5)], [.own (((fZ g e.toNat (List.replicate (g.length - e.toNat) (ai.mk (aa.mk 0 0) (aa.mk 0 0) 0))).take e.toNat).flatMap ai.c)]⟩) kRf) (.ret ?_)))))))
    obtain rfl := oi hr
    exact ⟨rfl, b6.ret [.hs 0 0 ((fZ g e.toNat (List.replicate (g.length - e.toNat) (ai.mk (aa.mk 0 0) (aa.mk 0 0) 0))).take e.toNat).length 5] ((Wk.gc [0] [(0, false)] rfl (pKo ai.c ai.pure ((fZ g e.toNat (List.replicate (g.length - e.toNat) (ai.mk (aa.mk 0 0) (aa.mk 0 0) 0))).take e.toNat) trivial)).to)⟩
   refine .skip (.pop (.ru G ?_))
   exact aF (Ew (d + 1)) hr ((Wk.gc [0, 3] [(0, false)] rfl (pKo ai.c ai.pure s trivial)).to)
  refine .leave rfl ?_
  obtain rfl := oi hr
  exact ⟨rfl, ((Wk.gc [0] [(0, false)] rfl (pKo ai.c ai.pure s trivial)).to)⟩
 rcases B with ⟨⟩ | r0
 ·rintro x st' i
  clear j
  obtain ⟨rfl, i⟩ := i
  refine a8 _ rfl (.wk i (.seq (.r3 G 61 [(2, .hs 0 0 s.length 5)] (.ret ?_))))
  obtain rfl := oi hr
  exact b6.ret [.hs 0 0 s.length 5] ((Wk.gc [0] [(0, false)] rfl (pKo ai.c ai.pure s trivial)).to)
 rintro x st' i
 clear j
 obtain ⟨rfl, i⟩ := i
 obtain rfl := oi hr
 exact fp _ i

theorem fx (n : Nat) (c : List ai) (h : List (aa × Int)) (b : List aa) (d : List Int) (a : List Int) (g : aa) (r : List (aa × Int) × List aa × List Int × List Int) (hr : ck n c h b d a g = some r) : bx 1 Tryz.prog 53 [.hp 0 0, .agg (aa.c g)] [.own [slT ai.c c, .mp 1, .hs 2 0 b.length 2, .hs 3 0 d.length 1, .hs 4 0 a.length 1], .map (h.map (mpK au.K (iA .i64))), .own (b.flatMap aa.c), .own (d.flatMap (iC .i64)), .own (a.flatMap (iC .u64))] (.tup []) [.own [slT ai.c c, .mp 1, .hs 2 0 r.2.1.length 2, .hs 3 0 r.2.2.1.length 1, .hs 4 0 r.2.2.2.length 1], .map (r.1.map (mpK au.K (iA .i64))), .own (r.2.1.flatMap aa.c), .own (r.2.2.1.flatMap (iC .i64)), .own (r.2.2.2.flatMap (iC .u64))] := by
 unfold ck at hr
 refine bx.fH G Tryz.func53 (c := (Tryz.f53.body).getD .skip) rfl (us := []) (s := mkS 62 0 [(0, .hp 0 0), (1, .agg (aa.c g))]) kRf (rs := []) rfl ?_
 unfold Tryz.f53
 simp only [gS]
 refine .seq (.r5 G [0] [(3, .hp 5 0)] [.own [slT ai.c c, .mp 1, .hs 2 0 b.length 2, .hs 3 0 d.length 1, .hs 4 0 a.length 1], .map (h.map (mpK au.K (iA .i64))), .own (b.flatMap aa.c), .own (d.flatMap (iC .i64)), .own (a.flatMap (iC .u64)), .own (aa.c g)] (.seq (.seq (.ba G aK (.mu 5 (.pk (v := .tup [ag (getM 0 h g), aB (cW h g)]) (tr (y := bc.ofP (dj Tryz.prog [.own [slT ai.c c, .mp 1, .hs 2 0 b.length 2, .hs 3 0 d.length 1, .hs 4 0 a.length 1], .map (h.map (mpK au.K (iA .i64))), .own (b.flatMap aa.c), .own (d.flatMap (iC .i64)), .own (a.flatMap (iC .u64)), .own (aa.c g)] 95 (.mp 1) (.agg (aa.c g)) true)) (wY (kt := 50) (e := 3) (l := h) (f := (iA .i64)) (z := 0) (K := au.K) (x := g) au.key kRf kRf kRf kRf kRf)) (.mu 5 ?_)))))))
 refine .done (kRa ?_)
 refine .nh [0, 3, 5] [.own [slT ai.c c, .mp 1, .hs 2 0 b.length 2, .hs 3 0 d.length 1, .hs 4 0 a.length 1], .map (h.map (mpK au.K (iA .i64))), .own (b.flatMap aa.c), .own (d.flatMap (iC .i64)), .own (a.flatMap (iC .u64)), .own (aa.c g)] (.seq (.r4 G [0, 3] [(15, aB (cW h g))] ?_))
 refine .cd hr ?_ ?_ <;> intro u hr
 ·refine .ret ?_
  obtain rfl := oi hr
  exact b6.ret [] ((Wk.gc [] [(0, true), (1, false), (2, false), (3, false), (4, false)] rfl (pKt (pKM au.K (iA .i64) (fun _ => rfl) h (pKo aa.c aa.pure b (pKo (iC .i64) (an _) d (pKo (iC .u64) (an _) a trivial)))))).to)
 refine .skip (.seq (.ba G aK (.mu 10 (.ek (v := .unk) (ws := [(1, .map ((dT h g (b.length : Int)).map (mpK au.K (iA .i64))))]) (tr (y := fA Tryz.prog [.own [slT ai.c c, .mp 1, .hs 2 0 b.length 2, .hs 3 0 d.length 1, .hs 4 0 a.length 1], .map (h.map (mpK au.K (iA .i64))), .own (b.flatMap aa.c), .own (d.flatMap (iC .i64)), .own (a.flatMap (iC .u64)), .own (aa.c g)] 95 (.mp 1) (.agg (aa.c g)) (ag (b.length : Int))) (AY (kt := 50) (e := 3) (l := h) (f := (iA .i64)) (v := (b.length : Int)) (K := au.K) (x := g) au.key kRf kRf kRf kRf)) ?_))))
 refine .done (kRa ?_)
 refine .nh [0, 3] [.own [slT ai.c c, .mp 1, .hs 2 0 b.length 2, .hs 3 0 d.length 1, .hs 4 0 a.length 1], .map ((dT h g (b.length : Int)).map (mpK au.K (iA .i64))), .own (b.flatMap aa.c), .own (d.flatMap (iC .i64)), .own (a.flatMap (iC .u64)), .own (aa.c g)] (.seq ?_)
 obtain ⟨i, j, hr⟩ := gd2 hr
 refine .ba G aK (.mu 11 (.ek (v := .hs 7 0 (d ++ [(b.length : Int)]).length 1) (ws := [(3, .dead), (7, .own ((d ++ [(b.length : Int)]).flatMap (iC .i64)))]) (tr (dm (new := [ag (b.length : Int)]) (l := d) (xs := [(b.length : Int)]) (ay .i64) rfl rfl kRf i j)) (.mu 3 ?_)))
 refine .done (kRa ?_)
 refine .nh [0, 3] [.own [slT ai.c c, .mp 1, .hs 2 0 b.length 2, .hs 7 0 (d ++ [(b.length : Int)]).length 1, .hs 4 0 a.length 1], .map ((dT h g (b.length : Int)).map (mpK au.K (iA .i64))), .own (b.flatMap aa.c), .dead, .own (a.flatMap (iC .u64)), .own (aa.c g), .own [ag (b.length : Int)], .own ((d ++ [(b.length : Int)]).flatMap (iC .i64))] (.seq ?_)
 obtain ⟨m, o, hr⟩ := gd2 hr
 refine .ba G aK (.mu 7 (.ek (v := .hs 9 0 (b ++ [g]).length 2) (ws := [(2, .dead), (9, .own ((b ++ [g]).flatMap aa.c))]) (tr (dm (new := (aa.c g)) (l := b) (xs := [g]) aa.len rfl rfl kRf m o)) (.mu 3 ?_)))
 refine .done (kRa ?_)
 refine .nh [0, 3] [.own [slT ai.c c, .mp 1, .hs 9 0 (b ++ [g]).length 2, .hs 7 0 (d ++ [(b.length : Int)]).length 1, .hs 4 0 a.length 1], .map ((dT h g (b.length : Int)).map (mpK au.K (iA .i64))), .dead, .dead, .own (a.flatMap (iC .u64)), .own (aa.c g), .own [ag (b.length : Int)], .own ((d ++ [(b.length : Int)]).flatMap (iC .i64)), .own (aa.c g), .own ((b ++ [g]).flatMap aa.c)] ?_
 obtain ⟨p, q, t, hr⟩ := gd3 hr
 refine .ba G aK (.mu 7 (.pk (v := aV (lE .u64 (1 : Int) g.Image)) (wq (k := .u64) (k' := .i64) (x := 1) (y := g.Image) kRf kRf p) (.mu 1 (.ek (v := .hs 11 0 (a ++ [lE .u64 (1 : Int) g.Image]).length 1) (ws := [(4, .dead), (11, .own ((a ++ [lE .u64 (1 : Int) g.Image]).flatMap (iC .u64)))]) (tr (dm (new := [aV (lE .u64 (1 : Int) g.Image)]) (l := a) (xs := [lE .u64 (1 : Int) g.Image]) (ay .u64) rfl rfl kRf q t)) (.mu 3 ?_)))))
 refine .done (kRa ?_)
 obtain rfl := oi hr
 exact b6.normal [] ((Wk.gc [] [(0, true), (1, false), (9, false), (7, false), (11, false)] rfl (pKt (pKM au.K (iA .i64) (fun _ => rfl) (dT h g (b.length : Int)) (pKo aa.c aa.pure (b ++ [g]) (pKo (iC .i64) (an _) (d ++ [(b.length : Int)]) (pKo (iC .u64) (an _) (a ++ [lE .u64 (1 : Int) g.Image]) trivial)))))).to)

theorem cQ (n : Nat) (c : List ai) (k : List (aa × Int)) (h : List aa) (i : List Int) (g : List Int) (t : aa) (r : List Int × Int) (hr : bD n c k h i g t = some r) : bx 1 Tryz.prog 36 [.hp 0 0, .agg (aa.c t)] [.own [slT ai.c c, .mp 1, .hs 2 0 h.length 2, .hs 3 0 i.length 1, .hs 4 0 g.length 1], .map (k.map (mpK au.K (iA .i64))), .own (h.flatMap aa.c), .own (i.flatMap (iC .i64)), .own (g.flatMap (iC .u64))] (ag r.2) [.own [slT ai.c c, .mp 1, .hs 2 0 h.length 2, .hs 3 0 r.1.length 1, .hs 4 0 g.length 1], .map (k.map (mpK au.K (iA .i64))), .own (h.flatMap aa.c), .own (r.1.flatMap (iC .i64)), .own (g.flatMap (iC .u64))] := by
 unfold bD at hr
 refine bx.fH G Tryz.func36 (c := (Tryz.f36.body).getD .skip) rfl (us := [ag r.2]) (s := mkS 48 0 [(0, .hp 0 0), (1, .agg (aa.c t))]) kRf (rs := [.tmp 4]) rfl ?_
 unfold Tryz.f36
 simp only [gS]
 refine .seq (.r5 G [0] [(3, .hp 5 0)] [.own [slT ai.c c, .mp 1, .hs 2 0 h.length 2, .hs 3 0 i.length 1, .hs 4 0 g.length 1], .map (k.map (mpK au.K (iA .i64))), .own (h.flatMap aa.c), .own (i.flatMap (iC .i64)), .own (g.flatMap (iC .u64)), .own (aa.c t)] (.seq (.ba G aK (.mu 5 (.pk (v := ag (getM 0 k t)) (tr (y := bc.ofP (dj Tryz.prog [.own [slT ai.c c, .mp 1, .hs 2 0 h.length 2, .hs 3 0 i.length 1, .hs 4 0 g.length 1], .map (k.map (mpK au.K (iA .i64))), .own (h.flatMap aa.c), .own (i.flatMap (iC .i64)), .own (g.flatMap (iC .u64)), .own (aa.c t)] 95 (.mp 1) (.agg (aa.c t)) false)) (zh (kt := 50) (e := 3) (l := k) (f := (iA .i64)) (z := 0) (K := au.K) (x := t) au.key kRf kRf kRf kRf kRf)) (.mu 1 ?_))))))
 refine .done (kRa ?_)
 refine .nh [0, 5] [.own [slT ai.c c, .mp 1, .hs 2 0 h.length 2, .hs 3 0 i.length 1, .hs 4 0 g.length 1], .map (k.map (mpK au.K (iA .i64))), .own (h.flatMap aa.c), .own (i.flatMap (iC .i64)), .own (g.flatMap (iC .u64)), .own (aa.c t)] (.seq (.block ?_))
 replace hr := bd hr; obtain ⟨A, u, hr⟩ := hr
 refine .aP (σ := fun C => match C with | (a, d) => ⟨mkS 48 0 [(0, .hp 0 0), (5, ag d)], [.own [slT ai.c c, .mp 1, .hs 2 0 h.length 2, .hs 3 0 a.length 1, .hs 4 0 g.length 1], .map (k.map (mpK au.K (iA .i64))), .own (h.flatMap aa.c), .own (a.flatMap (iC .i64)), .own (g.flatMap (iC .u64))]⟩) (Q := fun x st' => match (generalizing := false) A with | (o, p) => x = .exit 0 /\ Wk 1 st' ⟨mkS 48 0 [(5, ag p)], [.own [slT ai.c c, .mp 1, .hs 2 0 h.length 2, .hs 3 0 o.length 1, .hs 4 0 g.length 1], .map (k.map (mpK au.K (iA .i64))), .own (h.flatMap aa.c), .own (o.flatMap (iC .i64)), .own (g.flatMap (iC .u64))]⟩) u ((Wk.gc [0, 5] [(0, true), (1, false), (2, false), (3, false), (4, false)] rfl (pKt (pKM au.K (iA .i64) (fun _ => rfl) k (pKo aa.c aa.pure h (pKo (iC .i64) (an _) i (pKo (iC .u64) (an _) g trivial)))))).to) ?_ ?_
 ·clear hr
  rintro m ⟨a, d⟩ hr
  refine CQ.sh ?_
  refine .seq (.seq ?_)
  obtain ⟨j, hr⟩ := gd hr
  refine .r0 G (.mu 5 (.p0 (v := .hp 3 (0 + d.toNat * 1)) (tr (aq j)) (.p0 (v := ag (gt a d)) (tr (aD (aC (ay .i64) (ax j) z1 (by omega : 0 + d.toNat * 1 = d.toNat * 1 + 0) kRf))) (.mu 2 (.done (.nh [0, 5, 20] [.own [slT ai.c c, .mp 1, .hs 2 0 h.length 2, .hs 3 0 a.length 1, .hs 4 0 g.length 1], .map (k.map (mpK au.K (iA .i64))), .own (h.flatMap aa.c), .own (a.flatMap (iC .i64)), .own (g.flatMap (iC .u64))] ?_))))))
  refine .cd hr ?_ ?_ <;> intro B hr
  ·refine .skip (.block (.seq ?_))
   obtain ⟨w, hr⟩ := gd hr
   refine .ba G aK (.mu 14 (.pk (v := .hp 3 (0 + d.toNat * 1)) (tr (aq j)) (.pk (v := ag (gt a d)) (tr (aD (aC (ay .i64) (ax j) z1 (by omega : 0 + d.toNat * 1 = d.toNat * 1 + 0) kRf))) (.pk (v := .hp 3 (0 + (gt a d).toNat * 1)) (tr (aq w)) (.pk (v := ag (gt a (gt a d))) (tr (aD (aC (ay .i64) (ax w) z1 (by omega : 0 + (gt a d).toNat * 1 = (gt a d).toNat * 1 + 0) kRf))) (.pk (v := .hp 3 (0 + d.toNat * 1)) (tr (aq j)) (.ek (v := .unk) (ws := [(3, .own ((a.set d.toNat (gt a (gt a d))).flatMap (iC .i64)))]) (tr (dB (dw (bn (n := 1) (ay .i64) (ax j) (lbT rfl) (by omega : 0 + d.toNat * 1 = d.toNat * 1 + 0))) (congrArg Blk.own (bE (xs := [ag (gt a (gt a d))]) (ay .i64) (ax j) (lbT rfl) (by omega : 0 + d.toNat * 1 = d.toNat * 1 + 0) kRf)))) ?_)))))))
   refine .done (kRa ?_)
   refine .nh [0, 5] [.own [slT ai.c c, .mp 1, .hs 2 0 h.length 2, .hs 3 0 a.length 1, .hs 4 0 g.length 1], .map (k.map (mpK au.K (iA .i64))), .own (h.flatMap aa.c), .own ((a.set d.toNat (gt a (gt a d))).flatMap (iC .i64)), .own (g.flatMap (iC .u64))] (.r0 G (.mu 5 (.p0 (v := .hp 3 (0 + d.toNat * 1)) (tr (aq j)) (.p0 (v := ag (gt (a.set d.toNat (gt a (gt a d))) d)) (tr (y := bc.ofP (((a.set d.toNat (gt a (gt a d))).flatMap (iC .i64))[0 + d.toNat * 1]?)) (aD (aC (ay _) (ax (cq j)) z1 (by omega : 0 + d.toNat * 1 = d.toNat * 1 + 0) kRf))) (.mu 1 (.done (.pop ?_)))))))
   exact aF (a.set d.toNat (gt a (gt a d)), (gt (a.set d.toNat (gt a (gt a d))) d)) hr ((Wk.qG 0 3 (b := 3) (es := 1) (len := a.length) (cs := [slT ai.c c, .mp 1, .hs 2 0 h.length 2, .hs 3 0 a.length 1, .hs 4 0 g.length 1]) (a.set d.toNat (gt a (gt a d))).length kRf kRf (by simp)).trans ((Wk.gc [0, 5] [(0, true), (1, false), (2, false), (3, false), (4, false)] rfl (pKt (pKM au.K (iA .i64) (fun _ => rfl) k (pKo aa.c aa.pure h (pKo (iC .i64) (an _) (a.set d.toNat (gt a (gt a d))) (pKo (iC .u64) (an _) g trivial)))))).to))
  refine .leave rfl ?_
  obtain rfl := oi hr
  exact ⟨rfl, ((Wk.gc [5] [(0, true), (1, false), (2, false), (3, false), (4, false)] rfl (pKt (pKM au.K (iA .i64) (fun _ => rfl) k (pKo aa.c aa.pure h (pKo (iC .i64) (an _) a (pKo (iC .u64) (an _) g trivial)))))).to)⟩
 rcases A with ⟨o, p⟩
 rintro x st' q
 clear u
 obtain ⟨rfl, q⟩ := q
 refine a8 _ rfl (.wk q (.seq (.r3 G 48 [(4, ag p)] (.ret ?_))))
 obtain rfl := oi hr
 exact b6.ret [ag p] ((Wk.gc [0] [(0, true), (1, false), (2, false), (3, false), (4, false)] rfl (pKt (pKM au.K (iA .i64) (fun _ => rfl) k (pKo aa.c aa.pure h (pKo (iC .i64) (an _) o (pKo (iC .u64) (an _) g trivial)))))).to)

theorem j4 (n : Nat) (ties : List ai) (r : List ai × List (aa × Int) × List aa × List Int × List Int) (hr : eV n ties = some r) : bx 0 Tryz.prog 34 [slT ai.c ties] [] (.hp 0 0) [.own [slT ai.c r.1, .mp 1, .hs 2 0 r.2.2.1.length 2, .hs 3 0 r.2.2.2.1.length 1, .hs 4 0 r.2.2.2.2.length 1], .map (r.2.1.map (mpK au.K (iA .i64))), .own (r.2.2.1.flatMap aa.c), .own (r.2.2.2.1.flatMap (iC .i64)), .own (r.2.2.2.2.flatMap (iC .u64))] := by
 unfold eV at hr
 refine bx.fH G Tryz.func34 (c := (Tryz.f34.body).getD .skip) rfl (us := [.hp 0 0]) (s := mkS 97 0 [(0, slT ai.c ties)]) kRf (rs := [.tmp 2]) rfl ?_
 unfold Tryz.f34
 simp only [gS]
 refine .seq (.r4 G [0] [] (.seq ?_))
 obtain ⟨u, N, hr⟩ := bd hr
 refine .g1 G (aT (args := [slT ai.c ties]) 0 1 [] [false] (eL n ties u N) trivial (by exact ⟨aA ai.pure _, trivial⟩) rfl rfl kRf kRf) (.mu 1 (.ca cf0 (.mu 4 (.done (.nh [3] [.own (u.flatMap ai.c), .map (([] : List (aa × Int)).map (mpK au.K (iA .i64))), .own [.hs 0 0 u.length 5, .mp 1, nS, nS, nS]] (.seq ?_))))))
 obtain ⟨L, O, hr⟩ := bd hr
 obtain ⟨R, hr⟩ := gd hr
 refine .g1 G (aT (args := [.hs 0 0 u.length 5, .fn 51 [] []]) 1 0 [(0, false)] [false] (cP n u L O) (by exact ⟨aA ai.pure _, trivial⟩) (by exact ⟨aA ai.pure _, trivial⟩) rfl rfl kRf kRf) (.mu 4 (.ca cf0 (.done (.nh [3] [.own (L.flatMap ai.c), .map (([] : List (aa × Int)).map (mpK au.K (iA .i64))), .own [.hs 0 0 u.length 5, .mp 1, nS, nS, nS]] (.seq ?_)))))
 obtain ⟨e, S, hr⟩ := bd hr
 refine .g1 G (aT (args := [.hs 0 0 u.length 5]) 1 0 [(0, false)] [false] (dZ n L e S) (by exact ⟨aA ai.pure _, trivial⟩) (by exact ⟨aA ai.pure _, trivial⟩) rfl rfl (by rw [(dcT R)]; kernel_rfl) kRf) <| .mu 5 <| .ca cf0 <| .mu 3 <| .done <| .nh [3] [.own (e.flatMap ai.c), .map (([] : List (aa × Int)).map (mpK au.K (iA .i64))), .own [.hs 0 0 e.length 5, .mp 1, nS, nS, nS]] <| .seq <| .seq <| .r4 G [3] [(29, .hs 0 0 e.length 5), (30, ag (e.length : Int)), (31, ag 0)] <| .block <| .wk (((Wk.fix 0 (cs := (e.flatMap ai.c)) kRf).trans ((Wk.Bb 29 (b := 0) (len := e.length) (es := 5) (cs := (e.flatMap ai.c)) kRf kRf (aA ai.pure _) (fun h => cZ h)).trans (Wk.w8 2 0 (b := 0) (len := e.length) (es := 5) (cs := (e.flatMap ai.c)) (cs' := [.hs 0 0 e.length 5, .mp 1, nS, nS, nS]) kRf kRf kRf (aA ai.pure _) (fun h => cZ h)))).to (c := ⟨mkS 97 0 [(3, .hp 2 0), (29, slT ai.c e), (30, ag (e.length : Int)), (31, ag 0)], [.fix (e.flatMap ai.c), .map (([] : List (aa × Int)).map (mpK au.K (iA .i64))), .own [slT ai.c e, .mp 1, nS, nS, nS]]⟩) kRf) ?_
 replace hr := bd hr; obtain ⟨I, F, hr⟩ := hr
 refine .aP (σ := fun Y => match Y with | (t, k, l, o, f) => ⟨mkS 97 0 [(3, .hp 0 0), (29, slT ai.c e), (30, ag (e.length : Int)), (31, ag f)], [.own [slT ai.c e, .mp 1, .hs 2 0 k.length 2, .hs 3 0 l.length 1, .hs 4 0 o.length 1], .map (t.map (mpK au.K (iA .i64))), .own (k.flatMap aa.c), .own (l.flatMap (iC .i64)), .own (o.flatMap (iC .u64))]⟩) (Q := fun x st' => match (generalizing := false) I with | (H, C, D, E) => x = .exit 0 /\ Wk 0 st' ⟨mkS 97 0 [(3, .hp 0 0)], [.own [slT ai.c e, .mp 1, .hs 2 0 C.length 2, .hs 3 0 D.length 1, .hs 4 0 E.length 1], .map (H.map (mpK au.K (iA .i64))), .own (C.flatMap aa.c), .own (D.flatMap (iC .i64)), .own (E.flatMap (iC .u64))]⟩) F ((Wk.mK 2 2 2 (cs := [slT ai.c e, .mp 1, nS, nS, nS]) kRf kRf).trans ((Wk.mK 2 3 1 (cs := [slT ai.c e, .mp 1, .hs 3 0 0 2, nS, nS]) kRf kRf).trans ((Wk.mK 2 4 1 (cs := [slT ai.c e, .mp 1, .hs 3 0 0 2, .hs 4 0 0 1, nS]) kRf kRf).trans ((Wk.gc [3, 29, 30, 31] [(2, true), (1, false), (3, false), (4, false), (5, false)] rfl (pKt (pKM au.K (iA .i64) (fun _ => rfl) ([] : List (aa × Int)) (pKc (pKc (pKc trivial)))))).to)))) ?_ ?_
 ·clear hr
  rintro m ⟨t, k, l, o, f⟩ hr
  refine CQ.sh ?_
  refine .seq (.r4 G [3, 29, 30, 31] [(32, aB (decide (f < (e.length : Int))))] (.seq ?_))
  refine .cd hr ?_ ?_ <;> intro X hr
  ·refine .skip (.seq (.block (.seq ?_)))
   obtain ⟨J, hr⟩ := gd hr
   refine .r0 G (.p0 (v := .pp (e.flatMap ai.c) (f.toNat * 5)) (tr (aq J)) (.p0 (v := .agg (ai.c (gt e f))) (tr (y := bc.ofP (eE (decide (5 <= ((e.flatMap ai.c).drop (f.toNat * 5)).length)) (.agg (((e.flatMap ai.c).drop (f.toNat * 5)).take 5)))) (cz ai.len (ax J) (by decide) (by omega : f.toNat * 5 = f.toNat * 5 + 0) kRf)) (.mu 2 (.done (.nh [3, 5, 29, 30, 31] [.own [slT ai.c e, .mp 1, .hs 2 0 k.length 2, .hs 3 0 l.length 1, .hs 4 0 o.length 1], .map (t.map (mpK au.K (iA .i64))), .own (k.flatMap aa.c), .own (l.flatMap (iC .i64)), .own (o.flatMap (iC .u64)), .own (ai.c (gt e f))] (.seq ?_))))))
   obtain ⟨j, T, hr⟩ := bd hr
   refine .g1 G (aT (args := [.hp 0 0, .agg (aa.c (gt e f).A)]) 1 4 [(0, true), (1, false), (2, false), (3, false), (4, false)] [true, false, false, false, false] (fx n e t k l o (gt e f).A j T) (by exact ⟨dP (fun _ => rfl) _, ⟨aA aa.pure _, ⟨aA (an _) _, ⟨aA (an _) _, trivial⟩⟩⟩⟩) (by exact ⟨dP (fun _ => rfl) _, ⟨aA aa.pure _, ⟨aA (an _) _, ⟨aA (an _) _, trivial⟩⟩⟩⟩) rfl rfl kRf kRf) (.mu 3 (.ca cf0 (.done (.nh [3, 5, 29, 30, 31] [.own [slT ai.c e, .mp 6, .hs 7 0 j.2.1.length 2, .hs 8 0 j.2.2.1.length 1, .hs 9 0 j.2.2.2.length 1], .dead, .dead, .dead, .dead, .own (ai.c (gt e f)), .map (j.1.map (mpK au.K (iA .i64))), .own (j.2.1.flatMap aa.c), .own (j.2.2.1.flatMap (iC .i64)), .own (j.2.2.2.flatMap (iC .u64))] (.seq ?_)))))
   obtain ⟨a, U, hr⟩ := bd hr
   refine .g1 G (aT (args := [.hp 0 0, .agg (aa.c (gt e f).B)]) 1 4 [(0, true), (6, false), (7, false), (8, false), (9, false)] [true, false, false, false, false] (fx n e j.1 j.2.1 j.2.2.1 j.2.2.2 (gt e f).B a U) (by exact ⟨dP (fun _ => rfl) _, ⟨aA aa.pure _, ⟨aA (an _) _, ⟨aA (an _) _, trivial⟩⟩⟩⟩) (by exact ⟨dP (fun _ => rfl) _, ⟨aA aa.pure _, ⟨aA (an _) _, ⟨aA (an _) _, trivial⟩⟩⟩⟩) rfl rfl kRf kRf) (.mu 3 (.ca cf0 (.done (.nh [3, 5, 29, 30, 31] [.own [slT ai.c e, .mp 10, .hs 11 0 a.2.1.length 2, .hs 12 0 a.2.2.1.length 1, .hs 13 0 a.2.2.2.length 1], .dead, .dead, .dead, .dead, .own (ai.c (gt e f)), .dead, .dead, .dead, .dead, .map (a.1.map (mpK au.K (iA .i64))), .own (a.2.1.flatMap aa.c), .own (a.2.2.1.flatMap (iC .i64)), .own (a.2.2.2.flatMap (iC .u64))] (.seq ?_)))))
   obtain ⟨g, V, d, M, hr⟩ := bd2 hr
   refine .tn G (ca1 (aT (args := [.hp 0 0, .agg (aa.c (gt e f).A)]) 1 4 [(0, true), (10, false), (11, false), (12, false), (13, false)] [true, false, false, false, false] (cQ n e a.1 a.2.1 a.2.2.1 a.2.2.2 (gt e f).A g V) (by exact ⟨dP (fun _ => rfl) _, ⟨aA aa.pure _, ⟨aA (an _) _, ⟨aA (an _) _, trivial⟩⟩⟩⟩) (by exact ⟨dP (fun _ => rfl) _, ⟨aA aa.pure _, ⟨aA (an _) _, ⟨aA (an _) _, trivial⟩⟩⟩⟩) rfl rfl kRf kRf) (ca4 [.own [slT ai.c e, .mp 14, .hs 15 0 a.2.1.length 2, .hs 16 0 g.1.length 1, .hs 17 0 a.2.2.2.length 1], .dead, .dead, .dead, .dead, .own (ai.c (gt e f)), .dead, .dead, .dead, .dead, .dead, .dead, .dead, .dead, .map (a.1.map (mpK au.K (iA .i64))), .own (a.2.1.flatMap aa.c), .own (g.1.flatMap (iC .i64)), .own (a.2.2.2.flatMap (iC .u64))] (aT (args := [.hp 0 0, .agg (aa.c (gt e f).B)]) 1 4 [(0, true), (14, false), (15, false), (16, false), (17, false)] [true, false, false, false, false] (cQ n e a.1 a.2.1 g.1 a.2.2.2 (gt e f).B d M) (by exact ⟨dP (fun _ => rfl) _, ⟨aA aa.pure _, ⟨aA (an _) _, ⟨aA (an _) _, trivial⟩⟩⟩⟩) (by exact ⟨dP (fun _ => rfl) _, ⟨aA aa.pure _, ⟨aA (an _) _, ⟨aA (an _) _, trivial⟩⟩⟩⟩) rfl rfl kRf kRf))) (.mu 3 (.ca cf0 (.mu 3 (.ca (cfH 10 0 3 cf0) (.mu 2 ?_)))))
   refine .done (kRa ?_)
   refine .nh [3, 6, 7, 29, 30, 31] [.own [slT ai.c e, .mp 18, .hs 19 0 a.2.1.length 2, .hs 20 0 d.1.length 1, .hs 21 0 a.2.2.2.length 1], .dead, .dead, .dead, .dead, .own (ai.c (gt e f)), .dead, .dead, .dead, .dead, .dead, .dead, .dead, .dead, .dead, .dead, .dead, .dead, .map (a.1.map (mpK au.K (iA .i64))), .own (a.2.1.flatMap aa.c), .own (d.1.flatMap (iC .i64)), .own (a.2.2.2.flatMap (iC .u64))] (.seq ?_)
   rcases bT ((g.2 : Int) != d.2) with p | p
   ·replace hr := cB p hr
    obtain ⟨i, q, hr⟩ := gd2 hr
    refine .ba G aK (.mu 2 (.pk (v := aB true) (eB p) (.mu 6 (.pk (v := .hp 21 (0 + g.2.toNat * 1)) (tr (aq i)) (.pk (v := aV (gt a.2.2.2 g.2)) (tr (aD (aC (ay .u64) (ax i) z1 (by omega : 0 + g.2.toNat * 1 = g.2.toNat * 1 + 0) kRf))) (.mu 5 (.pk (v := .hp 21 (0 + d.2.toNat * 1)) (tr (aq q)) (.pk (v := aV (gt a.2.2.2 d.2)) (tr (aD (aC (ay .u64) (ax q) z1 (by omega : 0 + d.2.toNat * 1 = d.2.toNat * 1 + 0) kRf))) (.mu 3 ?_)))))))))
    refine .done (kRa ?_)
    refine .nh [3, 6, 7, 29, 30, 31, 71] [.own [slT ai.c e, .mp 18, .hs 19 0 a.2.1.length 2, .hs 20 0 d.1.length 1, .hs 21 0 a.2.2.2.length 1], .dead, .dead, .dead, .dead, .own (ai.c (gt e f)), .dead, .dead, .dead, .dead, .dead, .dead, .dead, .dead, .dead, .dead, .dead, .dead, .map (a.1.map (mpK au.K (iA .i64))), .own (a.2.1.flatMap aa.c), .own (d.1.flatMap (iC .i64)), .own (a.2.2.2.flatMap (iC .u64))] ?_
    refine .cd hr ?_ ?_ <;> intro W hr
    ·refine .seq ?_
     obtain ⟨w, hr⟩ := gd hr
     refine .r0 G (.mu 6 (.p0 (v := .hp 20 (0 + d.2.toNat * 1)) (tr (aq w)) (.e0 (v := .unk) (ws := [(20, .own ((d.1.set d.2.toNat g.2).flatMap (iC .i64)))]) (tr (dB (dw (bn (n := 1) (ay .i64) (ax w) (lbT rfl) (by omega : 0 + d.2.toNat * 1 = d.2.toNat * 1 + 0))) (congrArg Blk.own (bE (xs := [ag g.2]) (ay .i64) (ax w) (lbT rfl) (by omega : 0 + d.2.toNat * 1 = d.2.toNat * 1 + 0) kRf)))) (.done (.nh [3, 6, 7, 29, 30, 31] [.own [slT ai.c e, .mp 18, .hs 19 0 a.2.1.length 2, .hs 20 0 d.1.length 1, .hs 21 0 a.2.2.2.length 1], .dead, .dead, .dead, .dead, .own (ai.c (gt e f)), .dead, .dead, .dead, .dead, .dead, .dead, .dead, .dead, .dead, .dead, .dead, .dead, .map (a.1.map (mpK au.K (iA .i64))), .own (a.2.1.flatMap aa.c), .own ((d.1.set d.2.toNat g.2).flatMap (iC .i64)), .own (a.2.2.2.flatMap (iC .u64))] (.ba G aK (.mu 5 (.pk (v := .hp 21 (0 + g.2.toNat * 1)) (tr (aq i)) (.pk (v := aV (gt a.2.2.2 g.2)) (tr (aD (aC (ay .u64) (ax i) z1 (by omega : 0 + g.2.toNat * 1 = g.2.toNat * 1 + 0) kRf))) (.mu 5 (.pk (v := .hp 21 (0 + d.2.toNat * 1)) (tr (aq q)) (.pk (v := aV (gt a.2.2.2 d.2)) (tr (aD (aC (ay .u64) (ax q) z1 (by omega : 0 + d.2.toNat * 1 = d.2.toNat * 1 + 0) kRf))) (.mu 1 (.pk (v := .hp 21 (0 + g.2.toNat * 1)) (tr (aq i)) (.ek (v := .unk) (ws := [(21, .own ((a.2.2.2.set g.2.toNat (b7 .or .u64 (gt a.2.2.2 g.2) (gt a.2.2.2 d.2))).flatMap (iC .u64)))]) (tr (dB (dw (bn (n := 1) (ay .u64) (ax i) (lbT rfl) (by omega : 0 + g.2.toNat * 1 = g.2.toNat * 1 + 0))) (congrArg Blk.own (bE (xs := [aV (b7 .or .u64 (gt a.2.2.2 g.2) (gt a.2.2.2 d.2))]) (ay .u64) (ax i) (lbT rfl) (by omega : 0 + g.2.toNat * 1 = g.2.toNat * 1 + 0) kRf)))) ?_)))))))))))))))
     refine .done (kRa ?_)
     refine .pop (.ru G ?_)
     exact aF (a.1, a.2.1, d.1.set d.2.toNat g.2, a.2.2.2.set g.2.toNat (b7 .or .u64 (gt a.2.2.2 g.2) (gt a.2.2.2 d.2)), Ew (f + 1)) hr ((Wk.qG 0 3 (b := 20) (es := 1) (len := d.1.length) (cs := [slT ai.c e, .mp 18, .hs 19 0 a.2.1.length 2, .hs 20 0 d.1.length 1, .hs 21 0 a.2.2.2.length 1]) (d.1.set d.2.toNat g.2).length kRf kRf (by simp)).trans ((Wk.qG 0 4 (b := 21) (es := 1) (len := a.2.2.2.length) (cs := [slT ai.c e, .mp 18, .hs 19 0 a.2.1.length 2, .hs 20 0 (d.1.set d.2.toNat g.2).length 1, .hs 21 0 a.2.2.2.length 1]) (a.2.2.2.set g.2.toNat (b7 .or .u64 (gt a.2.2.2 g.2) (gt a.2.2.2 d.2))).length kRf kRf (by simp)).trans ((Wk.gc [3, 29, 30, 31] [(0, true), (18, false), (19, false), (20, false), (21, false)] rfl (pKt (pKM au.K (iA .i64) (fun _ => rfl) a.1 (pKo aa.c aa.pure a.2.1 (pKo (iC .i64) (an _) (d.1.set d.2.toNat g.2) (pKo (iC .u64) (an _) (a.2.2.2.set g.2.toNat (b7 .or .u64 (gt a.2.2.2 g.2) (gt a.2.2.2 d.2))) trivial)))))).to)))
    refine .skip (.pop (.ru G ?_))
    exact aF (a.1, a.2.1, d.1, a.2.2.2, Ew (f + 1)) hr ((Wk.gc [3, 29, 30, 31] [(0, true), (18, false), (19, false), (20, false), (21, false)] rfl (pKt (pKM au.K (iA .i64) (fun _ => rfl) a.1 (pKo aa.c aa.pure a.2.1 (pKo (iC .i64) (an _) d.1 (pKo (iC .u64) (an _) a.2.2.2 trivial)))))).to)
   replace hr := cC p hr
   refine .ba G aK (.mu 2 (.pk (v := aB false) (eB p) (.mu 18 ?_)))
   refine .done (kRa ?_)
   refine .nh [3, 6, 7, 29, 30, 31, 71] [.own [slT ai.c e, .mp 18, .hs 19 0 a.2.1.length 2, .hs 20 0 d.1.length 1, .hs 21 0 a.2.2.2.length 1], .dead, .dead, .dead, .dead, .own (ai.c (gt e f)), .dead, .dead, .dead, .dead, .dead, .dead, .dead, .dead, .dead, .dead, .dead, .dead, .map (a.1.map (mpK au.K (iA .i64))), .own (a.2.1.flatMap aa.c), .own (d.1.flatMap (iC .i64)), .own (a.2.2.2.flatMap (iC .u64))] (.cF kRf (.skip (.pop (.ru G ?_))))
   exact aF (a.1, a.2.1, d.1, a.2.2.2, Ew (f + 1)) hr ((Wk.gc [3, 29, 30, 31] [(0, true), (18, false), (19, false), (20, false), (21, false)] rfl (pKt (pKM au.K (iA .i64) (fun _ => rfl) a.1 (pKo aa.c aa.pure a.2.1 (pKo (iC .i64) (an _) d.1 (pKo (iC .u64) (an _) a.2.2.2 trivial)))))).to)
  refine .leave rfl ?_
  obtain rfl := oi hr
  exact ⟨rfl, ((Wk.gc [3] [(0, true), (1, false), (2, false), (3, false), (4, false)] rfl (pKt (pKM au.K (iA .i64) (fun _ => rfl) t (pKo aa.c aa.pure k (pKo (iC .i64) (an _) l (pKo (iC .u64) (an _) o trivial)))))).to)⟩
 rcases I with ⟨H, C, D, E⟩
 rintro x st' z
 clear F
 obtain ⟨rfl, z⟩ := z
 refine a8 _ rfl (.wk z (.seq (.r3 G 97 [(2, .hp 0 0)] (.ret ?_))))
 obtain rfl := oi hr
 exact b6.ret [.hp 0 0] ((Wk.gc [0] [(0, true), (1, false), (2, false), (3, false), (4, false)] rfl (pKt (pKM au.K (iA .i64) (fun _ => rfl) H (pKo aa.c aa.pure C (pKo (iC .i64) (an _) D (pKo (iC .u64) (an _) E trivial)))))).to)

theorem eM (n : Nat) (s : List aa) (r : List aa) (hr : bh n s = some r) : bo Tryz.prog 54 [slT aa.c s] (slT aa.c r) := by
 unfold bh at hr
 refine bo.bd G Tryz.func54 [.tmp 2] ?_
 unfold Tryz.f54
 simp only [gS]
 refine .seq (.r4 G [0] [] (.seq (.seq ?_)))
 refine .tC (t := 0) (cs := s.flatMap aa.c) (len := s.length) kRf (fun a => ?_) ?_
 ·obtain rfl : s = [] := List.length_eq_zero_iff.1 a
  have hx := gd hr; clear hr; obtain ⟨_, hr⟩ := hx
  have hx := gd hr; clear hr; obtain ⟨_, hr⟩ := hx
  refine .r4 G [0] [(4, aB true)] (.cT kRf (.seq (.r3 G 8 [(2, nS)] (.ret ?_))))
  obtain rfl := oi hr
  exact aS.ret (vs := [nS]) kRf Sn.iS
 refine .r4 G [0] [(4, aB false)] (.cF kRf (.skip (.seq ?_)))
 obtain ⟨b, d, hr⟩ := gd2 hr
 refine .r0 G (.mu 2 (.e0 (v := .hs 1 0 s.length 2) (ws := [(0, .dead), (1, .own (s.flatMap aa.c))]) (tr (y := Ah (decide (((s.flatMap aa.c)).length = s.length * 2)) (s.flatMap aa.c) s.length (fun z1 e => jW (decide (0 + 0 * 2 <= (([] : List aa).flatMap aa.c).length) && decide ((0 + e) * 16 <= 140737488355328) && decide (0 + e <= 4611686018427387904)) (some (.eff (.hs 1 0 (0 + e) 2) [(0, .dead), (1, .own (((([] : List aa).flatMap aa.c).drop 0).take (0 * 2) ++ z1))])))) (vv (pE aa.len) rfl (dm (l := ([] : List aa)) (xs := s) aa.len rfl rfl rfl b d))) (.mu 1 (.done (.nh [2] [.dead, .own (s.flatMap aa.c)] (.ret ?_))))))
 obtain rfl := oi hr
 exact aS.ret (vs := [.hs 1 0 s.length 2]) kRf (Sn.hs rfl (.inl rfl) (SnC.pure (aA aa.pure _)) (fun h => cZ h))

theorem dS (n : Nat) (s : List aa) (r : List aa) (hr : bb n s = some r) : bx 0 Tryz.prog 54 [slT aa.c s] [] (.hs 0 0 r.length 2) [.own (r.flatMap aa.c)] := by
 unfold bb at hr
 refine bx.fH G Tryz.func54 (c := (Tryz.f54.body).getD .skip) rfl (us := [.hs 0 0 r.length 2]) (s := mkS 8 0 [(0, slT aa.c s)]) kRf (rs := [.tmp 2]) rfl ?_
 unfold Tryz.f54
 simp only [gS]
 refine .seq (.r4 G [0] [] (.seq (.seq ?_)))
 refine .tC (t := 0) (cs := s.flatMap aa.c) (len := s.length) kRf (fun a => ?_) ?_
 ·obtain rfl : s = [] := List.length_eq_zero_iff.1 a
  have hx := gd hr; clear hr; obtain ⟨_, hr⟩ := hx
  have hx := gd hr; clear hr; obtain ⟨_, hr⟩ := hx
  refine .r4 G [0] [(4, aB true)] (.cT kRf (.seq (.r3 G 8 [(2, nS)] (.ret ?_))))
  obtain rfl := oi hr
  exact b6.ret [nS] ((Wk.nil 0 2 kRf).trans ((Wk.gc [0] [(0, false)] rfl (pKc trivial)).to))
 refine .r4 G [0] [(4, aB false)] (.cF kRf (.skip (.seq ?_)))
 obtain ⟨b, d, hr⟩ := gd2 hr
 refine .r0 G (.mu 2 (.e0 (v := .hs 1 0 s.length 2) (ws := [(0, .dead), (1, .own (s.flatMap aa.c))]) (tr (y := Ah (decide (((s.flatMap aa.c)).length = s.length * 2)) (s.flatMap aa.c) s.length (fun z1 e => jW (decide (0 + 0 * 2 <= (([] : List aa).flatMap aa.c).length) && decide ((0 + e) * 16 <= 140737488355328) && decide (0 + e <= 4611686018427387904)) (some (.eff (.hs 1 0 (0 + e) 2) [(0, .dead), (1, .own (((([] : List aa).flatMap aa.c).drop 0).take (0 * 2) ++ z1))])))) (vv (pE aa.len) rfl (dm (l := ([] : List aa)) (xs := s) aa.len rfl rfl rfl b d))) (.mu 1 (.done (.nh [2] [.dead, .own (s.flatMap aa.c)] (.ret ?_))))))
 obtain rfl := oi hr
 exact b6.ret [.hs 1 0 s.length 2] ((Wk.gc [0] [(1, false)] rfl (pKo aa.c aa.pure s trivial)).to)

theorem cH (n : Nat) (a : List aa) (r : List aa) (hr : aN n a = some r) : bx 1 Tryz.prog 55 [.hs 0 0 a.length 2, .fn 56 [] []] [.own (a.flatMap aa.c)] (.tup []) [.own (r.flatMap aa.c)] := by
 unfold aN at hr
 obtain ⟨b, hr⟩ := gd hr
 exact bx.AK (c := aa.c) (caps' := []) (Go.Proofs.YtlpfiiejhikalaaGreat.rW (enters_of Tryz.func56 kRf rfl)) Go.Proofs.YtlpfiiejhikalaaGreat.x9 aa.len aa.pure hr (dcT b) SnL.nil (fun x y r hc => @fV ⟨true⟩ n x y r hc)

theorem iE (n : Nat) (c : List ai) (k : List (aa × Int)) (j : List aa) (h : List Int) (g : List Int) (t : aa) (r : List Int × Int) (hr : cx n c k j h g t = some r) : bx 1 Tryz.prog 36 [.hp 0 0, .agg (aa.c t)] [.own [slT ai.c c, .mp 1, slT aa.c j, .hs 2 0 h.length 1, .hs 3 0 g.length 1], .map (k.map (mpK au.K (iA .i64))), .own (h.flatMap (iC .i64)), .own (g.flatMap (iC .u64))] (ag r.2) [.own [slT ai.c c, .mp 1, slT aa.c j, .hs 2 0 r.1.length 1, .hs 3 0 g.length 1], .map (k.map (mpK au.K (iA .i64))), .own (r.1.flatMap (iC .i64)), .own (g.flatMap (iC .u64))] := by
 unfold cx at hr
 refine bx.fH G Tryz.func36 (c := (Tryz.f36.body).getD .skip) rfl (us := [ag r.2]) (s := mkS 48 0 [(0, .hp 0 0), (1, .agg (aa.c t))]) kRf (rs := [.tmp 4]) rfl ?_
 unfold Tryz.f36
 simp only [gS]
 refine .seq (.r5 G [0] [(3, .hp 4 0)] [.own [slT ai.c c, .mp 1, slT aa.c j, .hs 2 0 h.length 1, .hs 3 0 g.length 1], .map (k.map (mpK au.K (iA .i64))), .own (h.flatMap (iC .i64)), .own (g.flatMap (iC .u64)), .own (aa.c t)] (.seq (.ba G aK (.mu 5 (.pk (v := ag (getM 0 k t)) (tr (y := bc.ofP (dj Tryz.prog [.own [slT ai.c c, .mp 1, slT aa.c j, .hs 2 0 h.length 1, .hs 3 0 g.length 1], .map (k.map (mpK au.K (iA .i64))), .own (h.flatMap (iC .i64)), .own (g.flatMap (iC .u64)), .own (aa.c t)] 95 (.mp 1) (.agg (aa.c t)) false)) (zh (kt := 50) (e := 3) (l := k) (f := (iA .i64)) (z := 0) (K := au.K) (x := t) au.key kRf kRf kRf kRf kRf)) (.mu 1 ?_))))))
 refine .done (kRa ?_)
 refine .nh [0, 5] [.own [slT ai.c c, .mp 1, slT aa.c j, .hs 2 0 h.length 1, .hs 3 0 g.length 1], .map (k.map (mpK au.K (iA .i64))), .own (h.flatMap (iC .i64)), .own (g.flatMap (iC .u64)), .own (aa.c t)] (.seq (.block ?_))
 replace hr := bd hr; obtain ⟨A, u, hr⟩ := hr
 refine .aP (σ := fun C => match C with | (a, d) => ⟨mkS 48 0 [(0, .hp 0 0), (5, ag d)], [.own [slT ai.c c, .mp 1, slT aa.c j, .hs 2 0 a.length 1, .hs 3 0 g.length 1], .map (k.map (mpK au.K (iA .i64))), .own (a.flatMap (iC .i64)), .own (g.flatMap (iC .u64))]⟩) (Q := fun x st' => match (generalizing := false) A with | (o, p) => x = .exit 0 /\ Wk 1 st' ⟨mkS 48 0 [(5, ag p)], [.own [slT ai.c c, .mp 1, slT aa.c j, .hs 2 0 o.length 1, .hs 3 0 g.length 1], .map (k.map (mpK au.K (iA .i64))), .own (o.flatMap (iC .i64)), .own (g.flatMap (iC .u64))]⟩) u ((Wk.gc [0, 5] [(0, true), (1, false), (2, false), (3, false)] rfl (pKt (pKM au.K (iA .i64) (fun _ => rfl) k (pKo (iC .i64) (an _) h (pKo (iC .u64) (an _) g trivial))))).to) ?_ ?_
 ·clear hr
  rintro m ⟨a, d⟩ hr
  refine CQ.sh ?_
  refine .seq (.seq ?_)
  obtain ⟨i, hr⟩ := gd hr
  refine .r0 G (.mu 5 (.p0 (v := .hp 2 (0 + d.toNat * 1)) (tr (aq i)) (.p0 (v := ag (gt a d)) (tr (aD (aC (ay .i64) (ax i) z1 (by omega : 0 + d.toNat * 1 = d.toNat * 1 + 0) kRf))) (.mu 2 (.done (.nh [0, 5, 20] [.own [slT ai.c c, .mp 1, slT aa.c j, .hs 2 0 a.length 1, .hs 3 0 g.length 1], .map (k.map (mpK au.K (iA .i64))), .own (a.flatMap (iC .i64)), .own (g.flatMap (iC .u64))] ?_))))))
  refine .cd hr ?_ ?_ <;> intro B hr
  ·refine .skip (.block (.seq ?_))
   obtain ⟨w, hr⟩ := gd hr
   refine .ba G aK (.mu 14 (.pk (v := .hp 2 (0 + d.toNat * 1)) (tr (aq i)) (.pk (v := ag (gt a d)) (tr (aD (aC (ay .i64) (ax i) z1 (by omega : 0 + d.toNat * 1 = d.toNat * 1 + 0) kRf))) (.pk (v := .hp 2 (0 + (gt a d).toNat * 1)) (tr (aq w)) (.pk (v := ag (gt a (gt a d))) (tr (aD (aC (ay .i64) (ax w) z1 (by omega : 0 + (gt a d).toNat * 1 = (gt a d).toNat * 1 + 0) kRf))) (.pk (v := .hp 2 (0 + d.toNat * 1)) (tr (aq i)) (.ek (v := .unk) (ws := [(2, .own ((a.set d.toNat (gt a (gt a d))).flatMap (iC .i64)))]) (tr (dB (dw (bn (n := 1) (ay .i64) (ax i) (lbT rfl) (by omega : 0 + d.toNat * 1 = d.toNat * 1 + 0))) (congrArg Blk.own (bE (xs := [ag (gt a (gt a d))]) (ay .i64) (ax i) (lbT rfl) (by omega : 0 + d.toNat * 1 = d.toNat * 1 + 0) kRf)))) ?_)))))))
   refine .done (kRa ?_)
   refine .nh [0, 5] [.own [slT ai.c c, .mp 1, slT aa.c j, .hs 2 0 a.length 1, .hs 3 0 g.length 1], .map (k.map (mpK au.K (iA .i64))), .own ((a.set d.toNat (gt a (gt a d))).flatMap (iC .i64)), .own (g.flatMap (iC .u64))] (.r0 G (.mu 5 (.p0 (v := .hp 2 (0 + d.toNat * 1)) (tr (aq i)) (.p0 (v := ag (gt (a.set d.toNat (gt a (gt a d))) d)) (tr (y := bc.ofP (((a.set d.toNat (gt a (gt a d))).flatMap (iC .i64))[0 + d.toNat * 1]?)) (aD (aC (ay _) (ax (cq i)) z1 (by omega : 0 + d.toNat * 1 = d.toNat * 1 + 0) kRf))) (.mu 1 (.done (.pop ?_)))))))
   exact aF (a.set d.toNat (gt a (gt a d)), (gt (a.set d.toNat (gt a (gt a d))) d)) hr ((Wk.qG 0 3 (b := 2) (es := 1) (len := a.length) (cs := [slT ai.c c, .mp 1, slT aa.c j, .hs 2 0 a.length 1, .hs 3 0 g.length 1]) (a.set d.toNat (gt a (gt a d))).length kRf kRf (by simp)).trans ((Wk.gc [0, 5] [(0, true), (1, false), (2, false), (3, false)] rfl (pKt (pKM au.K (iA .i64) (fun _ => rfl) k (pKo (iC .i64) (an _) (a.set d.toNat (gt a (gt a d))) (pKo (iC .u64) (an _) g trivial))))).to))
  refine .leave rfl ?_
  obtain rfl := oi hr
  exact ⟨rfl, ((Wk.gc [5] [(0, true), (1, false), (2, false), (3, false)] rfl (pKt (pKM au.K (iA .i64) (fun _ => rfl) k (pKo (iC .i64) (an _) a (pKo (iC .u64) (an _) g trivial))))).to)⟩
 rcases A with ⟨o, p⟩
 rintro x st' q
 clear u
 obtain ⟨rfl, q⟩ := q
 refine a8 _ rfl (.wk q (.seq (.r3 G 48 [(4, ag p)] (.ret ?_))))
 obtain rfl := oi hr
 exact b6.ret [ag p] ((Wk.gc [0] [(0, true), (1, false), (2, false), (3, false)] rfl (pKt (pKM au.K (iA .i64) (fun _ => rfl) k (pKo (iC .i64) (an _) o (pKo (iC .u64) (an _) g trivial))))).to)

theorem qN (n : Nat) (tracks : List (List aa)) (least : Int) (r : List (List aa)) (hr : jg n tracks least = some r) : bo Tryz.prog 57 [slT (slC aa.c) tracks, ag least] (slT (slC aa.c) r) := by
 unfold jg at hr
 refine bo.bd G Tryz.func57 [.tmp 4] ?_
 unfold Tryz.f57
 simp only [gS]
 refine .seq (.r4 G [0, 1] [] (.seq (.r4 G [0, 1] [(5, nS)] (.seq (.seq (.r4 G [1, 5] [(8, slT (slC aa.c) tracks), (9, ag (tracks.length : Int)), (10, ag 0)] (.block ?_)))))))
 replace hr := bd hr; obtain ⟨e, g, hr⟩ := hr
 refine .aP (σ := fun s => match s with | (a, b) => ⟨mkS 25 0 [(1, ag least), (5, .hs 0 0 a.length 1), (8, slT (slC aa.c) tracks), (9, ag (tracks.length : Int)), (10, ag b)], [.own (a.flatMap (slC aa.c))]⟩) (Q := fun x st' => x = .exit 0 /\ Wk 0 st' ⟨mkS 25 0 [(5, .hs 0 0 e.length 1)], [.own (e.flatMap (slC aa.c))]⟩) g ((Wk.nil 5 1 kRf).trans ((Wk.gc [1, 5, 8, 9, 10] [(0, false)] rfl (pKc trivial)).to)) ?_ ?_
 ·clear hr
  rintro m ⟨a, b⟩ hr
  refine CQ.sh ?_
  refine .seq (.r4 G [1, 5, 8, 9, 10] [(11, aB (decide (b < (tracks.length : Int))))] (.seq ?_))
  refine .cd hr ?_ ?_ <;> intro p hr
  ·refine .skip (.seq (.block (.seq ?_)))
   obtain ⟨i, hr⟩ := gd hr
   refine .r0 G (.p0 (v := .pp (tracks.flatMap (slC aa.c)) (b.toNat * 1)) (tr (aq i)) (.p0 (v := slT aa.c (gt tracks b)) (tr (aD (aC (fr aa.c) (ax i) z1 (by omega : b.toNat * 1 = b.toNat * 1 + 0) kRf))) (.mu 1 (.done (.nh [1, 5, 7, 8, 9, 10] [.own (a.flatMap (slC aa.c))] (.seq (.r4 G [1, 5, 7, 8, 9, 10] [(17, aB (decide (((gt tracks b).length : Int) >= least)))] ?_)))))))
   refine .cd hr ?_ ?_ <;> intro q hr
   ·obtain ⟨d, j, hr⟩ := bd hr
    obtain ⟨k, o, hr⟩ := gd2 hr
    refine .g1 G (ok0 (eM n (gt tracks b) d j)) (.mu 2 (.ca cf0 (.mu 1 (.e0 (v := .hs 2 0 (a ++ [d]).length 1) (ws := [(0, .dead), (2, .own ((a ++ [d]).flatMap (slC aa.c)))]) (tr (dm (new := [slT aa.c d]) (l := a) (xs := [d]) (fr aa.c) rfl rfl kRf k o)) (.mu 1 (.done (.pop (.ru G ?_))))))))
    exact aF (a ++ [d], Ew (b + 1)) hr ((Wk.gc [1, 5, 8, 9, 10] [(2, false)] rfl (pKo (slC aa.c) (gX _) (a ++ [d]) trivial)).to)
   refine .skip (.pop (.ru G ?_))
   exact aF (a, Ew (b + 1)) hr ((Wk.gc [1, 5, 8, 9, 10] [(0, false)] rfl (pKo (slC aa.c) (gX _) a trivial)).to)
  refine .leave rfl ?_
  obtain rfl := oi hr
  exact ⟨rfl, ((Wk.gc [5] [(0, false)] rfl (pKo (slC aa.c) (gX _) a trivial)).to)⟩
 rintro x st' f
 clear g
 obtain ⟨rfl, f⟩ := f
 refine a8 _ rfl (.wk f (.seq (.r3 G 25 [(4, .hs 0 0 e.length 1)] (.ret ?_))))
 obtain rfl := oi hr
 exact aS.ret (vs := [.hs 0 0 e.length 1]) kRf (Sn.hs rfl (.inl rfl) (SnC.pure (aA (gX _) _)) (fun h => cZ h))

theorem iD (n : Nat) (c : List ai) (w : List (aa × Int)) (q : List aa) (t : List Int) (d : List Int) (r : List Int × List (List aa)) (hr : cu n c w q t d = some r) : bx 1 Tryz.prog 35 [.hp 0 0] [.own [slT ai.c c, .mp 1, .hs 2 0 q.length 2, .hs 3 0 t.length 1, .hs 4 0 d.length 1], .map (w.map (mpK au.K (iA .i64))), .own (q.flatMap aa.c), .own (t.flatMap (iC .i64)), .own (d.flatMap (iC .u64))] (slT (slC aa.c) r.2) [.own [slT ai.c c, .mp 1, slT aa.c q, .hs 2 0 r.1.length 1, .hs 3 0 d.length 1], .map (w.map (mpK au.K (iA .i64))), .own (r.1.flatMap (iC .i64)), .own (d.flatMap (iC .u64))] := by
 unfold cu at hr
 refine bx.fH G Tryz.func35 (c := (Tryz.f35.body).getD .skip) rfl (us := [slT (slC aa.c) r.2]) (s := mkS 57 0 [(0, .hp 0 0)]) kRf (rs := [.tmp 2]) rfl ?_
 unfold Tryz.f35
 simp only [gS]
 refine .seq (.r4 G [0] [] (.seq (.wk (((Wk.fix 2 (cs := (q.flatMap aa.c)) kRf).trans (Wk.w8 0 2 (b := 2) (len := q.length) (es := 2) (cs := (q.flatMap aa.c)) (cs' := [slT ai.c c, .mp 1, .hs 2 0 q.length 2, .hs 3 0 t.length 1, .hs 4 0 d.length 1]) kRf kRf kRf (aA aa.pure _) (fun h => cZ h))).to (c := ⟨mkS 57 0 [(0, .hp 0 0)], [.own [slT ai.c c, .mp 1, slT aa.c q, .hs 3 0 t.length 1, .hs 4 0 d.length 1], .map (w.map (mpK au.K (iA .i64))), .fix (q.flatMap aa.c), .own (t.flatMap (iC .i64)), .own (d.flatMap (iC .u64))]⟩) kRf) ?_)))
 obtain ⟨A, J, hr⟩ := bd hr
 refine .g1 G (aT (args := [slT aa.c q]) 0 1 [] [false] (dS n q A J) trivial (by exact ⟨aA aa.pure _, trivial⟩) rfl rfl kRf kRf) (.mu 4 (.ca cf0 (.mu 1 (.done (.nh [0, 3] [.own [slT ai.c c, .mp 1, slT aa.c q, .hs 3 0 t.length 1, .hs 4 0 d.length 1], .map (w.map (mpK au.K (iA .i64))), .fix (q.flatMap aa.c), .own (t.flatMap (iC .i64)), .own (d.flatMap (iC .u64)), .own (A.flatMap aa.c)] (.seq ?_))))))
 obtain ⟨p, L, hr⟩ := bd hr
 obtain ⟨M, hr⟩ := gd hr
 refine .g1 G (aT (args := [.hs 5 0 A.length 2, .fn 56 [] []]) 1 0 [(5, false)] [false] (cH n A p L) (by exact ⟨aA aa.pure _, trivial⟩) (by exact ⟨aA aa.pure _, trivial⟩) rfl rfl kRf kRf) (.mu 1 (.ca cf0 (.done (.nh [0, 3] [.own [slT ai.c c, .mp 1, slT aa.c q, .hs 3 0 t.length 1, .hs 4 0 d.length 1], .map (w.map (mpK au.K (iA .i64))), .fix (q.flatMap aa.c), .own (t.flatMap (iC .i64)), .own (d.flatMap (iC .u64)), .own (p.flatMap aa.c)] (.seq (.r5 G [0, 3] [(4, .mp 6)] [.own [slT ai.c c, .mp 1, slT aa.c q, .hs 3 0 t.length 1, .hs 4 0 d.length 1], .map (w.map (mpK au.K (iA .i64))), .fix (q.flatMap aa.c), .own (t.flatMap (iC .i64)), .own (d.flatMap (iC .u64)), .own (p.flatMap aa.c), .map (([] : List (Int × Int)).map (mpc .i64 (iA .i64)))] (.seq (.r4 G [0, 3, 4] [(5, nS)] (.seq (.seq (.r4 G [0, 4, 5] [(19, .hs 5 0 A.length 2), (20, ag (A.length : Int)), (21, ag 0)] (.block ?_))))))))))))
 replace hr := bd hr; obtain ⟨N, H, hr⟩ := hr
 refine .aP (σ := fun z0 => match z0 with | (C, g, a, j) => ⟨mkS 57 0 [(0, .hp 0 0), (4, .mp 4), (5, .hs 5 0 a.length 1), (19, .hs 6 0 p.length 2), (20, ag (A.length : Int)), (21, ag j)], [.own [slT ai.c c, .mp 1, slT aa.c q, .hs 2 0 C.length 1, .hs 3 0 d.length 1], .map (w.map (mpK au.K (iA .i64))), .own (C.flatMap (iC .i64)), .own (d.flatMap (iC .u64)), .map (g.map (mpc .i64 (iA .i64))), .rows (rws 2 aa.c a), .own (p.flatMap aa.c)]⟩) (Q := fun x st' => match (generalizing := false) N with | (B, u) => x = .exit 0 /\ Wk 1 st' ⟨mkS 57 0 [(5, .hs 4 0 u.length 1)], [.own [slT ai.c c, .mp 1, slT aa.c q, .hs 2 0 B.length 1, .hs 3 0 d.length 1], .map (w.map (mpK au.K (iA .i64))), .own (B.flatMap (iC .i64)), .own (d.flatMap (iC .u64)), .rows (rws 2 aa.c u)]⟩) H ((Wk.nil 5 1 kRf).trans ((Wk.mkT 7 (n := 0) 2 aa.c).trans ((Wk.eG 19 (b := 5) (es := 2) (len := A.length) p.length kRf (Eq.symm (dcT M))).trans ((Wk.gc [0, 4, 5, 19, 20, 21] [(0, true), (1, false), (3, false), (4, false), (6, false), (7, false), (5, false)] rfl (pKt (pKM au.K (iA .i64) (fun _ => rfl) w (pKo (iC .i64) (an _) t (pKo (iC .u64) (an _) d (pKm (k := .i64) (iA .i64) (fun _ => rfl) ([] : List (Int × Int)) (pKc (pKo aa.c aa.pure p trivial)))))))).to)))) ?_ ?_
 ·clear hr
  rintro m ⟨C, g, a, j⟩ hr
  refine CQ.sh ?_
  refine .seq (.r4 G [0, 4, 5, 19, 20, 21] [(22, aB (decide (j < (A.length : Int))))] (.seq ?_))
  refine .cd hr ?_ ?_ <;> intro Z hr
  ·refine .skip (.seq (.block (.seq ?_)))
   obtain ⟨I, hr⟩ := gd hr
   refine .r0 G (.p0 (v := .hp 6 (0 + j.toNat * 2)) (tr (aq I)) (.p0 (v := .agg (aa.c (gt p j))) (tr (y := bc.ofP (eE (decide (2 <= ((p.flatMap aa.c).drop (0 + j.toNat * 2)).length)) (.agg (((p.flatMap aa.c).drop (0 + j.toNat * 2)).take 2)))) (cz aa.len (ax I) (by decide) (by omega : 0 + j.toNat * 2 = j.toNat * 2 + 0) kRf)) (.mu 2 (.done (.nh [0, 4, 5, 7, 19, 20, 21] [.own [slT ai.c c, .mp 1, slT aa.c q, .hs 2 0 C.length 1, .hs 3 0 d.length 1], .map (w.map (mpK au.K (iA .i64))), .own (C.flatMap (iC .i64)), .own (d.flatMap (iC .u64)), .map (g.map (mpc .i64 (iA .i64))), .rows (rws 2 aa.c a), .own (p.flatMap aa.c), .own (aa.c (gt p j))] (.seq ?_))))))
   obtain ⟨o, O, hr⟩ := bd hr
   refine .g1 G (aT (args := [.hp 0 0, .agg (aa.c (gt p j))]) 1 3 [(0, true), (1, false), (2, false), (3, false)] [true, false, false, false] (iE n c w q C d (gt p j) o O) (by exact ⟨dP (fun _ => rfl) _, ⟨aA (an _) _, ⟨aA (an _) _, trivial⟩⟩⟩) (by exact ⟨dP (fun _ => rfl) _, ⟨aA (an _) _, ⟨aA (an _) _, trivial⟩⟩⟩) rfl rfl kRf kRf) (.mu 2 (.ca cf0 (.mu 1 (.done (.nh [0, 4, 5, 7, 8, 19, 20, 21] [.own [slT ai.c c, .mp 8, slT aa.c q, .hs 9 0 o.1.length 1, .hs 10 0 d.length 1], .dead, .dead, .dead, .map (g.map (mpc .i64 (iA .i64))), .rows (rws 2 aa.c a), .own (p.flatMap aa.c), .own (aa.c (gt p j)), .map (w.map (mpK au.K (iA .i64))), .own (o.1.flatMap (iC .i64)), .own (d.flatMap (iC .u64))] (.seq (.r0 G (.mu 2 (.p0 (v := .tup [ag (getM 0 g o.2), aB (cW g o.2)]) (tr (y := bc.ofP (dj Tryz.prog [.own [slT ai.c c, .mp 8, slT aa.c q, .hs 9 0 o.1.length 1, .hs 10 0 d.length 1], .dead, .dead, .dead, .map (g.map (mpc .i64 (iA .i64))), .rows (rws 2 aa.c a), .own (p.flatMap aa.c), .own (aa.c (gt p j)), .map (w.map (mpK au.K (iA .i64))), .own (o.1.flatMap (iC .i64)), .own (d.flatMap (iC .u64))] 118 (.mp 4) (ag o.2) true)) (Ar (kt := 3) (e := 3) (l := g) (f := (iA .i64)) (z := 0) kRf kRf kRf kRf)) (.mu 5 (.done (.nh [0, 4, 5, 7, 8, 9, 10, 19, 20, 21] [.own [slT ai.c c, .mp 8, slT aa.c q, .hs 9 0 o.1.length 1, .hs 10 0 d.length 1], .dead, .dead, .dead, .map (g.map (mpc .i64 (iA .i64))), .rows (rws 2 aa.c a), .own (p.flatMap aa.c), .own (aa.c (gt p j)), .map (w.map (mpK au.K (iA .i64))), .own (o.1.flatMap (iC .i64)), .own (d.flatMap (iC .u64))] (.seq (.seq (.r4 G [0, 4, 5, 7, 8, 9, 19, 20, 21] [(35, aB (!(cW g o.2)))] ?_)))))))))))))))
   refine .cd hr ?_ ?_ <;> intro jF hr
   ·refine .seq (.r4 G [0, 4, 5, 7, 8, 19, 20, 21] [(9, ag (a.length : Int))] (.seq (.r0 G (.mu 3 (.e0 (v := .unk) (ws := [(4, .map ((dT g o.2 (a.length : Int)).map (mpc .i64 (iA .i64))))]) (tr (y := fA Tryz.prog [.own [slT ai.c c, .mp 8, slT aa.c q, .hs 9 0 o.1.length 1, .hs 10 0 d.length 1], .dead, .dead, .dead, .map (g.map (mpc .i64 (iA .i64))), .rows (rws 2 aa.c a), .own (p.flatMap aa.c), .own (aa.c (gt p j)), .map (w.map (mpK au.K (iA .i64))), .own (o.1.flatMap (iC .i64)), .own (d.flatMap (iC .u64))] 118 (.mp 4) (ag o.2) (ag (a.length : Int))) (C6 (kt := 3) (e := 3) (l := g) (f := (iA .i64)) (v := (a.length : Int)) kRf kRf kRf)) (.done (.nh [0, 4, 5, 7, 9, 19, 20, 21] [.own [slT ai.c c, .mp 8, slT aa.c q, .hs 9 0 o.1.length 1, .hs 10 0 d.length 1], .dead, .dead, .dead, .map ((dT g o.2 (a.length : Int)).map (mpc .i64 (iA .i64))), .rows (rws 2 aa.c a), .own (p.flatMap aa.c), .own (aa.c (gt p j)), .map (w.map (mpK au.K (iA .i64))), .own (o.1.flatMap (iC .i64)), .own (d.flatMap (iC .u64))] ?_)))))))
    obtain ⟨R, S, hr⟩ := gd2 hr
    refine .r0 G (.mu 2 (.e0 (v := .hs 12 0 (a.length + 1) 1) (ws := [(5, .dead), (12, .rows (rws 2 aa.c a ++ [.av (nS)]))]) (tr (y := jW (decide (a.length <= (rws 2 aa.c a).length) && decide ((a.length + 1) * 24 <= 140737488355328) && decide (a.length + 1 <= 4611686018427387904) && true) (some (.eff (.hs 12 0 (a.length + 1) 1) [(5, .dead), (12, .rows ((rws 2 aa.c a).take a.length ++ [.av (nS)]))]))) (rap rfl R S)) (.mu 1 (.done (.nh [0, 4, 5, 7, 9, 19, 20, 21] [.own [slT ai.c c, .mp 8, slT aa.c q, .hs 9 0 o.1.length 1, .hs 10 0 d.length 1], .dead, .dead, .dead, .map ((dT g o.2 (a.length : Int)).map (mpc .i64 (iA .i64))), .dead, .own (p.flatMap aa.c), .own (aa.c (gt p j)), .map (w.map (mpK au.K (iA .i64))), .own (o.1.flatMap (iC .i64)), .own (d.flatMap (iC .u64)), .own [nS], .rows (rws 2 aa.c a ++ [.av (nS)])] (.wk ((Wk.Ee 12 (es := 2) (c := aa.c) (e := a)).to (c := ⟨mkS 57 0 [(0, .hp 0 0), (4, .mp 4), (5, .hs 12 0 (a.length + 1) 1), (7, .hp 7 0), (9, ag (a.length : Int)), (19, .hs 6 0 p.length 2), (20, ag (A.length : Int)), (21, ag j)], [.own [slT ai.c c, .mp 8, slT aa.c q, .hs 9 0 o.1.length 1, .hs 10 0 d.length 1], .dead, .dead, .dead, .map ((dT g o.2 (a.length : Int)).map (mpc .i64 (iA .i64))), .dead, .own (p.flatMap aa.c), .own (aa.c (gt p j)), .map (w.map (mpK au.K (iA .i64))), .own (o.1.flatMap (iC .i64)), .own (d.flatMap (iC .u64)), .own [nS], .rows (rws 2 aa.c (a ++ [([] : List aa)]))]⟩) kRf) (.wk ((Wk.eG 5 (b := 12) (es := 1) (len := (a.length + 1)) (a ++ [([] : List aa)]).length kRf (by simp)).to (c := ⟨mkS 57 0 [(0, .hp 0 0), (4, .mp 4), (5, .hs 12 0 (a ++ [([] : List aa)]).length 1), (7, .hp 7 0), (9, ag (a.length : Int)), (19, .hs 6 0 p.length 2), (20, ag (A.length : Int)), (21, ag j)], [.own [slT ai.c c, .mp 8, slT aa.c q, .hs 9 0 o.1.length 1, .hs 10 0 d.length 1], .dead, .dead, .dead, .map ((dT g o.2 (a.length : Int)).map (mpc .i64 (iA .i64))), .dead, .own (p.flatMap aa.c), .own (aa.c (gt p j)), .map (w.map (mpK au.K (iA .i64))), .own (o.1.flatMap (iC .i64)), .own (d.flatMap (iC .u64)), .own [nS], .rows (rws 2 aa.c (a ++ [([] : List aa)]))]⟩) kRf) ?_)))))))
    obtain ⟨D, hr⟩ := gd hr
    refine .wk ((Wk.zj 12 (es := 2) (c := aa.c) (e := a ++ [([] : List aa)]) D).to (c := ⟨mkS 57 0 [(0, .hp 0 0), (4, .mp 4), (5, .hs 12 0 (a ++ [([] : List aa)]).length 1), (7, .hp 7 0), (9, ag (a.length : Int)), (19, .hs 6 0 p.length 2), (20, ag (A.length : Int)), (21, ag j)], [.own [slT ai.c c, .mp 8, slT aa.c q, .hs 9 0 o.1.length 1, .hs 10 0 d.length 1], .dead, .dead, .dead, .map ((dT g o.2 (a.length : Int)).map (mpc .i64 (iA .i64))), .dead, .own (p.flatMap aa.c), .own (aa.c (gt p j)), .map (w.map (mpK au.K (iA .i64))), .own (o.1.flatMap (iC .i64)), .own (d.flatMap (iC .u64)), .own [nS], .rows ((rws 2 aa.c (a ++ [([] : List aa)])).set (a.length : Int).toNat (.av (.hs 13 0 (gt (a ++ [([] : List aa)]) (a.length : Int)).length 2))), .own ((gt (a ++ [([] : List aa)]) (a.length : Int)).flatMap aa.c)]⟩) kRf) ?_
    obtain ⟨T, U, hr⟩ := gd2 hr
    refine .ba G aK (.mu 4 (.pk (v := .hp 12 (0 + (a.length : Int).toNat * 1)) (tr (aq D)) (.pk (v := .hs 13 0 (gt (a ++ [([] : List aa)]) (a.length : Int)).length 2) (tr (y := bc.ofP (rq ((rws 2 aa.c (a ++ [([] : List aa)])).set (a.length : Int).toNat (.av (.hs 13 0 (gt (a ++ [([] : List aa)]) (a.length : Int)).length 2)))[0 + (a.length : Int).toNat * 1]?)) (rld D (by omega))) (.mu 2 (.ek (v := .hs 15 0 ((gt (a ++ [([] : List aa)]) (a.length : Int)) ++ [(gt p j)]).length 2) (ws := [(13, .dead), (15, .own (((gt (a ++ [([] : List aa)]) (a.length : Int)) ++ [(gt p j)]).flatMap aa.c))]) (tr (dm (new := (aa.c (gt p j))) (l := gt (a ++ [([] : List aa)]) (a.length : Int)) (xs := [(gt p j)]) aa.len rfl rfl kRf T U)) (.pk (v := .hp 12 (0 + (a.length : Int).toNat * 1)) (tr (aq D)) (.ek (v := .unk) (ws := [(12, .rows ((rws 2 aa.c (a ++ [([] : List aa)])).set (a.length : Int).toNat (.av (.hs 15 0 ((gt (a ++ [([] : List aa)]) (a.length : Int)) ++ [(gt p j)]).length 2))))]) (tr (y := stO (decide (0 + (a.length : Int).toNat * 1 < ((rws 2 aa.c (a ++ [([] : List aa)])).set (a.length : Int).toNat (.av (.hs 13 0 (gt (a ++ [([] : List aa)]) (a.length : Int)).length 2))).length) && true) [(12, .rows (((rws 2 aa.c (a ++ [([] : List aa)])).set (a.length : Int).toNat (.av (.hs 13 0 (gt (a ++ [([] : List aa)]) (a.length : Int)).length 2))).set (0 + (a.length : Int).toNat * 1) (.av (.hs 15 0 ((gt (a ++ [([] : List aa)]) (a.length : Int)) ++ [(gt p j)]).length 2))))]) (rst D (by omega))) ?_)))))))
    refine .done (kRa ?_)
    refine .pop (.ru G ?_)
    exact aF (o.1, dT g o.2 (a.length : Int), (a ++ [([] : List aa)]).set (a.length : Int).toNat ((gt (a ++ [([] : List aa)]) (a.length : Int)) ++ [(gt p j)]), Ew (j + 1)) hr ((Wk.tP 12 15 (x := (gt (a ++ [([] : List aa)]) (a.length : Int)) ++ [(gt p j)]) (es := 2) (c := aa.c) (e := a ++ [([] : List aa)]) (i := (a.length : Int)) (len := ((gt (a ++ [([] : List aa)]) (a.length : Int)) ++ [(gt p j)]).length) aa.pure D rfl).trans ((Wk.eG 5 (b := 12) (es := 1) (len := (a ++ [([] : List aa)]).length) ((a ++ [([] : List aa)]).set (a.length : Int).toNat ((gt (a ++ [([] : List aa)]) (a.length : Int)) ++ [(gt p j)])).length kRf (Eq.symm (List.length_set.trans rfl))).trans ((Wk.gc [0, 4, 5, 19, 20, 21] [(0, true), (8, false), (9, false), (10, false), (4, false), (12, false), (6, false)] rfl (pKt (pKM au.K (iA .i64) (fun _ => rfl) w (pKo (iC .i64) (an _) o.1 (pKo (iC .u64) (an _) d (pKm (k := .i64) (iA .i64) (fun _ => rfl) (dT g o.2 (a.length : Int)) (pKr 2 aa.c ((a ++ [([] : List aa)]).set (a.length : Int).toNat ((gt (a ++ [([] : List aa)]) (a.length : Int)) ++ [(gt p j)])) (pKo aa.c aa.pure p trivial)))))))).to)))
   refine .skip ?_
   obtain ⟨E, hr⟩ := gd hr
   refine .wk ((Wk.zj 5 (es := 2) (c := aa.c) (e := a) E).to (c := ⟨mkS 57 0 [(0, .hp 0 0), (4, .mp 4), (5, .hs 5 0 a.length 1), (7, .hp 7 0), (8, ag o.2), (9, ag (getM 0 g o.2)), (19, .hs 6 0 p.length 2), (20, ag (A.length : Int)), (21, ag j), (35, aB (!(cW g o.2)))], [.own [slT ai.c c, .mp 8, slT aa.c q, .hs 9 0 o.1.length 1, .hs 10 0 d.length 1], .dead, .dead, .dead, .map (g.map (mpc .i64 (iA .i64))), .rows ((rws 2 aa.c a).set (getM 0 g o.2).toNat (.av (.hs 11 0 (gt a (getM 0 g o.2)).length 2))), .own (p.flatMap aa.c), .own (aa.c (gt p j)), .map (w.map (mpK au.K (iA .i64))), .own (o.1.flatMap (iC .i64)), .own (d.flatMap (iC .u64)), .own ((gt a (getM 0 g o.2)).flatMap aa.c)]⟩) kRf) ?_
   obtain ⟨V, W, hr⟩ := gd2 hr
   refine .ba G aK (.mu 4 (.pk (v := .hp 5 (0 + (getM 0 g o.2).toNat * 1)) (tr (aq E)) (.pk (v := .hs 11 0 (gt a (getM 0 g o.2)).length 2) (tr (y := bc.ofP (rq ((rws 2 aa.c a).set (getM 0 g o.2).toNat (.av (.hs 11 0 (gt a (getM 0 g o.2)).length 2)))[0 + (getM 0 g o.2).toNat * 1]?)) (rld E (by omega))) (.mu 2 (.ek (v := .hs 13 0 ((gt a (getM 0 g o.2)) ++ [(gt p j)]).length 2) (ws := [(11, .dead), (13, .own (((gt a (getM 0 g o.2)) ++ [(gt p j)]).flatMap aa.c))]) (tr (dm (new := (aa.c (gt p j))) (l := gt a (getM 0 g o.2)) (xs := [(gt p j)]) aa.len rfl rfl kRf V W)) (.pk (v := .hp 5 (0 + (getM 0 g o.2).toNat * 1)) (tr (aq E)) (.ek (v := .unk) (ws := [(5, .rows ((rws 2 aa.c a).set (getM 0 g o.2).toNat (.av (.hs 13 0 ((gt a (getM 0 g o.2)) ++ [(gt p j)]).length 2))))]) (tr (y := stO (decide (0 + (getM 0 g o.2).toNat * 1 < ((rws 2 aa.c a).set (getM 0 g o.2).toNat (.av (.hs 11 0 (gt a (getM 0 g o.2)).length 2))).length) && true) [(5, .rows (((rws 2 aa.c a).set (getM 0 g o.2).toNat (.av (.hs 11 0 (gt a (getM 0 g o.2)).length 2))).set (0 + (getM 0 g o.2).toNat * 1) (.av (.hs 13 0 ((gt a (getM 0 g o.2)) ++ [(gt p j)]).length 2))))]) (rst E (by omega))) ?_)))))))
   refine .done (kRa ?_)
   refine .pop (.ru G ?_)
   exact aF (o.1, g, a.set (getM 0 g o.2).toNat ((gt a (getM 0 g o.2)) ++ [(gt p j)]), Ew (j + 1)) hr ((Wk.tP 5 13 (x := (gt a (getM 0 g o.2)) ++ [(gt p j)]) (es := 2) (c := aa.c) (e := a) (i := (getM 0 g o.2)) (len := ((gt a (getM 0 g o.2)) ++ [(gt p j)]).length) aa.pure E rfl).trans ((Wk.eG 5 (b := 5) (es := 1) (len := a.length) (a.set (getM 0 g o.2).toNat ((gt a (getM 0 g o.2)) ++ [(gt p j)])).length kRf (Eq.symm (List.length_set.trans rfl))).trans ((Wk.gc [0, 4, 5, 19, 20, 21] [(0, true), (8, false), (9, false), (10, false), (4, false), (5, false), (6, false)] rfl (pKt (pKM au.K (iA .i64) (fun _ => rfl) w (pKo (iC .i64) (an _) o.1 (pKo (iC .u64) (an _) d (pKm (k := .i64) (iA .i64) (fun _ => rfl) g (pKr 2 aa.c (a.set (getM 0 g o.2).toNat ((gt a (getM 0 g o.2)) ++ [(gt p j)])) (pKo aa.c aa.pure p trivial)))))))).to)))
  refine .leave rfl ?_
  obtain rfl := oi hr
  exact ⟨rfl, ((Wk.gc [5] [(0, true), (1, false), (2, false), (3, false), (5, false)] rfl (pKt (pKM au.K (iA .i64) (fun _ => rfl) w (pKo (iC .i64) (an _) C (pKo (iC .u64) (an _) d (pKr 2 aa.c a trivial)))))).to)⟩
 rcases N with ⟨B, u⟩
 rintro x st' F
 clear H
 obtain ⟨rfl, F⟩ := F
 refine a8 _ rfl (.wk F (.seq (.wk ((Wk.DK 4 (es := 2) (c := aa.c) (e := u)).to (c := ⟨mkS 57 0 [(5, .hs 4 0 u.length 1)], [.own [slT ai.c c, .mp 1, slT aa.c q, .hs 2 0 B.length 1, .hs 3 0 d.length 1], .map (w.map (mpK au.K (iA .i64))), .own (B.flatMap (iC .i64)), .own (d.flatMap (iC .u64)), .fix (u.flatMap (slC aa.c))]⟩) kRf) ?_)))
 obtain ⟨X, Y, hr⟩ := bd hr
 refine .g1 G (gw (args := [.hs 4 0 u.length 1, ag 2]) (l := [4]) (SnL.cons (Sn.hs rfl (.inr rfl) (SnC.pure (aA (gX _) _)) (fun h => cZ h)) (Sp SnL.nil)) (qN n u 2 X Y)) (.mu 1 (.ca cf0 (.mu 1 (.done (.nh [2] [.own [slT ai.c c, .mp 1, slT aa.c q, .hs 2 0 B.length 1, .hs 3 0 d.length 1], .map (w.map (mpK au.K (iA .i64))), .own (B.flatMap (iC .i64)), .own (d.flatMap (iC .u64)), .fix (u.flatMap (slC aa.c))] (.ret ?_))))))
 obtain rfl := oi hr
 exact b6.ret [slT (slC aa.c) X] ((Wk.gc [0] [(0, true), (1, false), (2, false), (3, false)] rfl (pKt (pKM au.K (iA .i64) (fun _ => rfl) w (pKo (iC .i64) (an _) B (pKo (iC .u64) (an _) d trivial))))).to)

theorem mc (n : Nat) (ties : List ai) (r : List (List aa) × Int) (hr : gr n ties = some r) : bo Tryz.prog 11 [slT ai.c ties] (.tup [slT (slC aa.c) r.1, ag r.2]) := by
 unfold gr at hr
 refine bo.bd G Tryz.func11 [.tmp 2, .tmp 3] ?_
 unfold Tryz.f11
 simp only [gS]
 refine .seq (.r4 G [0] [] (.seq (.seq ?_)))
 obtain ⟨b, d, hr⟩ := bd hr
 refine .g1 G (ok0 (mE n ties b d)) (.mu 1 (.ca cf0 (.mu 1 (.done (.nh [0, 4] [] (.seq (.r4 G [0, 4] [(8, aB ((b : Int) != 0))] ?_)))))))
 refine .cd hr ?_ ?_ <;> intro h hr
 ·refine .seq (.r3 G 13 [(2, nS), (3, ag b)] (.ret ?_))
  obtain rfl := oi hr
  exact aS.ret (vs := [nS, ag b]) kRf (Sn.tup (SnL.cons Sn.iS (Sp SnL.nil)))
 refine .skip (.seq ?_)
 obtain ⟨a, e, g, f, hr⟩ := bd2 hr
 refine .gn G (ca1 (aT (args := [slT ai.c ties]) 0 5 [] [true, false, false, false, false] (j4 n ties a e) trivial (by exact ⟨dP (fun _ => rfl) _, ⟨aA aa.pure _, ⟨aA (an _) _, ⟨aA (an _) _, trivial⟩⟩⟩⟩) rfl rfl kRf kRf) (ca4 [.own [slT ai.c a.1, .mp 1, .hs 2 0 a.2.2.1.length 2, .hs 3 0 a.2.2.2.1.length 1, .hs 4 0 a.2.2.2.2.length 1], .map (a.2.1.map (mpK au.K (iA .i64))), .own (a.2.2.1.flatMap aa.c), .own (a.2.2.2.1.flatMap (iC .i64)), .own (a.2.2.2.2.flatMap (iC .u64))] (aT (args := [.hp 0 0]) 1 3 [(0, true), (1, false), (2, false), (3, false), (4, false)] [true, false, false, false] (iD n a.1 a.2.1 a.2.2.1 a.2.2.2.1 a.2.2.2.2 g f) (by exact ⟨dP (fun _ => rfl) _, ⟨aA aa.pure _, ⟨aA (an _) _, ⟨aA (an _) _, trivial⟩⟩⟩⟩) (by exact ⟨dP (fun _ => rfl) _, ⟨aA (an _) _, ⟨aA (an _) _, trivial⟩⟩⟩) rfl rfl kRf kRf))) (.mu 1 (.ca cf0 (.ca (cfF cf0) (.mu 2 (.done (.ret ?_))))))
 obtain rfl := oi hr
 exact aS.ret (vs := [slT (slC aa.c) g.2, ag 0]) kRf (Sn.tup (Sp (Sp SnL.nil)))

theorem bU (n : Nat) (d : List aa) (f : List aa) (r : Bool) (hr : aZ n d f = some r) : bo Tryz.prog 15 [slT aa.c d, slT aa.c f] (aB r) := by
 unfold aZ at hr
 refine bo.bd G Tryz.func15 [.tmp 4] ?_
 unfold Tryz.f15
 simp only [gS]
 refine .seq (.r4 G [0, 1] [] (.seq (.seq (.r4 G [0, 1] [(10, aB (((d.length : Int) : Int) != (f.length : Int)))] ?_))))
 refine .cd hr ?_ ?_ <;> intro k hr
 ·refine .seq (.ru G (.ret ?_))
  obtain rfl := oi hr
  exact aS.r1 [aB false]
 refine .skip (.seq (.seq (.r4 G [0, 1] [(12, ag (d.length : Int)), (13, ag 0)] (.block ?_))))
 replace hr := bd hr; obtain ⟨h, e, hr⟩ := hr
 refine .aP (σ := fun l => match l with | a => ⟨mkS 26 0 [(0, slT aa.c d), (1, slT aa.c f), (12, ag (d.length : Int)), (13, ag a)], []⟩) (Q := fun x st' => match (generalizing := false) h with | .inl _ => x = .exit 0 /\ Wk 0 st' ⟨mkS 26 0 [], []⟩ | .inr (r0) => x = .ret /\ aS Tryz.prog [.tmp 4] (aB r0) .ret st') e ((Wk.gc [0, 1, 12, 13] [] rfl pK0).to) ?_ ?_
 ·clear hr
  rintro m a hr
  refine CQ.sh ?_
  refine .seq (.r4 G [0, 1, 12, 13] [(14, aB (decide (a < (d.length : Int))))] (.seq ?_))
  refine .cd hr ?_ ?_ <;> intro o hr
  ·refine .skip (.seq (.block (.seq (.r4 G [0, 1, 12, 13] [(5, ag a)] (.seq ?_)))))
   obtain ⟨i, g, hr⟩ := gd2 hr
   refine .ba G aK (.mu 2 (.pk (v := .pp (d.flatMap aa.c) (a.toNat * 2)) (tr (aq i)) (.pk (v := .agg (aa.c (gt d a))) (tr (y := bc.ofP (eE (decide (2 <= ((d.flatMap aa.c).drop (a.toNat * 2)).length)) (.agg (((d.flatMap aa.c).drop (a.toNat * 2)).take 2)))) (cz aa.len (ax i) (by decide) (by omega : a.toNat * 2 = a.toNat * 2 + 0) kRf)) (.mu 2 (.pk (v := .pp (f.flatMap aa.c) (a.toNat * 2)) (tr (aq g)) (.pk (v := .agg (aa.c (gt f a))) (tr (y := bc.ofP (eE (decide (2 <= ((f.flatMap aa.c).drop (a.toNat * 2)).length)) (.agg (((f.flatMap aa.c).drop (a.toNat * 2)).take 2)))) (cz aa.len (ax g) (by decide) (by omega : a.toNat * 2 = a.toNat * 2 + 0) kRf)) (.mu 1 ?_)))))))
   refine .done (kRa ?_)
   refine .nh [0, 1, 12, 13, 24] [] ?_
   refine .cd hr ?_ ?_ <;> intro j hr
   ·refine .seq (.ru G (.ret ?_))
    obtain rfl := oi hr
    exact ⟨rfl, aS.ret (vs := [aB false]) kRf (Sn.pure rfl)⟩
   refine .skip (.pop (.ru G ?_))
   exact aF (Ew (a + 1)) hr ((Wk.gc [0, 1, 12, 13] [] rfl pK0).to)
  refine .leave rfl ?_
  obtain rfl := oi hr
  exact ⟨rfl, ((Wk.gc [] [] rfl pK0).to)⟩
 rcases h with ⟨⟩ | r0
 ·rintro x st' b
  clear e
  obtain ⟨rfl, b⟩ := b
  refine a8 _ rfl (.wk b (.seq (.ru G (.ret ?_))))
  obtain rfl := oi hr
  exact aS.r1 [aB true]
 rintro x st' b
 clear e
 obtain ⟨rfl, b⟩ := b
 obtain rfl := oi hr
 exact fp _ b

theorem ot (n : Nat) (p : Int) (e : Int) (d : Int) (a : Int) (b : List Int) (r : Bool) (hr : iN n p e d a b = some r) : bo Tryz.prog 46 [ag p, .pp [ag e, ag d, ag a, gj b] 0] (aB r) := by
 unfold iN at hr
 refine bo.bd G Tryz.func46 [.tmp 3] ?_
 unfold Tryz.f46
 simp only [gS]
 refine .seq (.r4 G [0, 1] [] (.seq ?_))
 rcases bT (decide (p < 0)) with c | c
 ·replace hr := cB c hr
  refine .r0 G (.mu 1 (.p0 (v := aB true) (eB c) (.mu 7 (.done (.ret ?_)))))
  obtain rfl := oi hr
  exact aS.r1 [aB true]
 replace hr := cC c hr
 refine .r0 G (.mu 1 (.p0 (v := aB false) (eB c) (.mu 7 (.done (.ret ?_)))))
 obtain rfl := oi hr
 exact aS.r1 [aB (decide (p > a))]

theorem fq (n : Nat) (s : List Int) (c : Int) (j : Int) (f : Int) (d : List Int) (r : Int) (hr : bQ n s c j f d = some r) : bo Tryz.prog 63 [gj s, .fn 46 [] [.pp [ag c, ag j, ag f, gj d] 0]] (ag r) := by
 unfold bQ at hr
 refine bo.bd G Tryz.func63 [.tmp 4] ?_
 unfold Tryz.f63
 simp only [gS]
 refine .seq (.r4 G [0, 1] [] (.seq (.seq (.r4 G [0, 1] [(7, ag (s.length : Int)), (8, ag 0)] (.block ?_)))))
 replace hr := bd hr; obtain ⟨g, e, hr⟩ := hr
 refine .aP (σ := fun o => match o with | a => ⟨mkS 19 0 [(0, gj s), (1, .fn 46 [] [.pp [ag c, ag j, ag f, gj d] 0]), (7, ag (s.length : Int)), (8, ag a)], []⟩) (Q := fun x st' => match (generalizing := false) g with | .inl _ => x = .exit 0 /\ Wk 0 st' ⟨mkS 19 0 [], []⟩ | .inr (r0) => x = .ret /\ aS Tryz.prog [.tmp 4] (ag r0) .ret st') e ((Wk.gc [0, 1, 7, 8] [] rfl pK0).to) ?_ ?_
 ·clear hr
  rintro m a hr
  refine CQ.sh ?_
  refine .seq (.r4 G [0, 1, 7, 8] [(9, aB (decide (a < (s.length : Int))))] (.seq ?_))
  refine .cd hr ?_ ?_ <;> intro p hr
  ·refine .skip (.seq (.block (.seq (.r4 G [0, 1, 7, 8] [(5, ag a)] (.seq ?_)))))
   obtain ⟨h, hr⟩ := gd hr
   obtain ⟨k, i, hr⟩ := bd hr
   refine .g1 G (ok0 (ot n (gt s a) c j f d k i)) (.mu 3 (.p0 (v := .pp (s.flatMap (iC .i64)) (a.toNat * 1)) (tr (aq h)) (.p0 (v := ag (gt s a)) (tr (aD (aC (ay .i64) (ax h) z1 (by omega : a.toNat * 1 = a.toNat * 1 + 0) kRf))) (.ca cf0 (.done (.nh [0, 1, 5, 7, 8, 16] [] ?_))))))
   refine .cd hr ?_ ?_ <;> intro l hr
   ·refine .seq (.ru G (.ret ?_))
    obtain rfl := oi hr
    exact ⟨rfl, aS.ret (vs := [ag a]) kRf (Sn.pure rfl)⟩
   refine .skip (.pop (.ru G ?_))
   exact aF (Ew (a + 1)) hr ((Wk.gc [0, 1, 7, 8] [] rfl pK0).to)
  refine .leave rfl ?_
  obtain rfl := oi hr
  exact ⟨rfl, ((Wk.gc [] [] rfl pK0).to)⟩
 rcases g with ⟨⟩ | r0
 ·rintro x st' b
  clear e
  obtain ⟨rfl, b⟩ := b
  refine a8 _ rfl (.wk b (.seq (.ru G (.ret ?_))))
  obtain rfl := oi hr
  exact aS.r1 [ag (-1)]
 rintro x st' b
 clear e
 obtain ⟨rfl, b⟩ := b
 obtain rfl := oi hr
 exact fp _ b

theorem eU (n : Nat) (s : List Int) (c : Int) (d : Int) (b : Int) (a : List Int) (r : Bool) (hr : bJ n s c d b a = some r) : bo Tryz.prog 45 [gj s, .fn 46 [] [.pp [ag c, ag d, ag b, gj a] 0]] (aB r) := by
 unfold bJ at hr
 refine bo.bd G Tryz.func45 [.tmp 4] ?_
 unfold Tryz.f45
 simp only [gS]
 refine .seq (.r4 G [0, 1] [] (.seq ?_))
 obtain ⟨f, e, hr⟩ := bd hr
 refine .g1 G (dd (args := [gj s, .fn 46 [] [.pp [ag c, ag d, ag b, gj a] 0]]) (l := []) rfl (Sp (SnL.cons (Sn.fn SnL.nil (Sp SnL.nil)) SnL.nil)) (fq n s c d b a f e)) (.mu 2 (.ca cf0 (.mu 2 (.done (.ret ?_)))))
 obtain rfl := oi hr
 exact aS.r1 [aB (decide (f >= 0))]

theorem lV (n : Nat) (a : ak) (r : Int) (hr : gK n a = some r) : bo Tryz.prog 26 [.agg (ak.c a)] (ag r) := by
 unfold gK at hr
 refine bo.bd G Tryz.func26 [.tmp 2] ?_
 unfold Tryz.f26
 simp only [gS]
 refine .seq (.r2 G 39 [(1, .hp 0 0)] [.own (ak.c a)] (.seq (.seq ?_)))
 rcases bT (decide ((mn (mn a.Width a.Height) a.Max) < 1)) with b | b
 ·replace hr := cB b hr
  refine .r0 G (.mu 7 (.p0 (v := aB true) (eB b) (.mu 24 (.done (.nh [1, 34] [.own (ak.c a)] (.cT kRf (.seq (.ru G (.ret ?_)))))))))
  obtain rfl := oi hr
  exact aS.r1 [ag 1]
 replace hr := cC b hr
 rcases bT (decide ((mx a.Width a.Height) > 64)) with d | d
 ·replace hr := cB d hr
  refine .r0 G (.mu 7 (.p0 (v := aB false) (eB b) (.mu 6 (.pure (v := aB true) kRf (eB d) (.mu 17 (.done (.nh [1, 34] [.own (ak.c a)] (.cT kRf (.seq (.ru G (.ret ?_)))))))))))
  obtain rfl := oi hr
  exact aS.r1 [ag 1]
 replace hr := cC d hr
 rcases bT (decide (a.Max > 65535)) with e | e
 ·replace hr := cB e hr
  refine .r0 G (.mu 7 (.p0 (v := aB false) (eB b) (.mu 6 (.pure (v := aB false) kRf (eB d) (.mu 4 (.pure (v := aB true) kRf (eB e) (.mu 12 (.done (.nh [1, 34] [.own (ak.c a)] (.cT kRf (.seq (.ru G (.ret ?_)))))))))))))
  obtain rfl := oi hr
  exact aS.r1 [ag 1]
 replace hr := cC e hr
 refine .r0 G (.mu 7 (.p0 (v := aB false) (eB b) (.mu 6 (.pure (v := aB false) kRf (eB d) (.mu 4 (.pure (v := aB false) kRf (eB e) (.mu 12 (.done (.nh [1, 34] [.own (ak.c a)] ?_)))))))))
 refine .cd hr ?_ ?_ <;> intro g hr
 ·refine .seq (.ru G (.ret ?_))
  obtain rfl := oi hr
  exact aS.r1 [ag 1]
 refine .skip (.seq (.seq ?_))
 obtain ⟨h, f, hr⟩ := bd hr
 refine .g1 G (dd (args := [gj a.Pixels, .fn 46 [] [.hp 0 0]]) (l := [0]) rfl (Sp (SnL.cons (Sn.fn SnL.nil (SnL.cons (Sn.hp rfl (.inl rfl) (SnC.cons (Sn.pure rfl) (SnC.cons (Sn.pure rfl) (SnC.cons (Sn.pure rfl) (SnC.cons (Sn.pure rfl) SnC.nil))))) SnL.nil)) SnL.nil)) (eU n a.Pixels a.Width a.Height a.Max a.Pixels h f)) (.mu 3 (.ca cf0 (.done (.nh [38] [.own (ak.c a)] ?_))))
 refine .cd hr ?_ ?_ <;> intro i hr
 ·refine .seq (.ru G (.ret ?_))
  obtain rfl := oi hr
  exact aS.r1 [ag 1]
 refine .skip (.seq (.ru G (.ret ?_)))
 obtain rfl := oi hr
 exact aS.r1 [ag 0]

theorem oB (n : Nat) (a : ak) (b : Int) (y : Int) (r : Int) (hr : jN n a b y = some r) : bo Tryz.prog 30 [.agg (ak.c a), ag b, ag y] (ag r) := by
 unfold jN at hr
 refine bo.bd G Tryz.func30 [.tmp 6] ?_
 unfold Tryz.f30
 simp only [gS]
 refine .seq (.r5 G [1, 2] [(3, .hp 0 0)] [.own (ak.c a)] (.seq ?_))
 obtain ⟨d, hr⟩ := gd hr
 refine .r0 G (.mu 8 (.p0 (v := .pp (a.Pixels.flatMap (iC .i64)) ((Ew ((Ew (y * a.Width)) + b)).toNat * 1)) (tr (aq d)) (.p0 (v := ag (gt a.Pixels (Ew ((Ew (y * a.Width)) + b)))) (tr (aD (aC (ay .i64) (ax d) z1 (by omega : (Ew ((Ew (y * a.Width)) + b)).toNat * 1 = (Ew ((Ew (y * a.Width)) + b)).toNat * 1 + 0) kRf))) (.mu 1 (.done (.ret ?_))))))
 obtain rfl := oi hr
 exact aS.r1 [ag (gt a.Pixels (Ew ((Ew (y * a.Width)) + b)))]

theorem nP (n : Nat) (g : ak) (r : List (List Int) × Int) (hr : fQ n g = some r) : bo Tryz.prog 58 [.agg (ak.c g)] (.tup [slT (slC (iC .i64)) r.1, ag r.2]) := by
 unfold fQ at hr
 refine bo.bd G Tryz.func58 [.tmp 2, .tmp 3] ?_
 unfold Tryz.f58
 simp only [gS]
 refine .seq (.r2 G 81 [(1, .hp 0 0)] [.own (ak.c g)] (.seq (.seq ?_)))
 obtain ⟨O, R, hr⟩ := bd hr
 refine .g1 G (ok0 (lV n g O R)) (.mu 1 (.ca cf0 (.mu 1 (.done (.nh [1, 4] [.own (ak.c g)] (.seq (.r4 G [1, 4] [(11, aB ((O : Int) != 0))] ?_)))))))
 refine .cd hr ?_ ?_ <;> intro Z hr
 ·refine .seq (.r3 G 81 [(2, nS), (3, ag O)] (.ret ?_))
  obtain rfl := oi hr
  exact aS.ret (vs := [nS, ag O]) kRf (Sn.tup (SnL.cons Sn.iS (Sp SnL.nil)))
 refine .skip (.seq ?_)
 obtain ⟨T, U, V, hr⟩ := gd3 hr
 refine .r0 G (.mu 3 (.e0 (v := .hs 1 0 (Ew (g.Height + 1)).toNat 1) (ws := [(1, .own (cN [nS] (Ew (g.Height + 1)).toNat))]) (tr (y := jW (decide (0 <= (Ew (g.Height + 1))) && decide ((Ew (g.Height + 1)) <= (Ew (g.Height + 1))) && decide ((24 : Int) * (Ew (g.Height + 1)) <= 281474976710656) && decide ((Ew (g.Height + 1)) <= 9223372036854775807) && true && true && true) (some (.eff (.hs 1 0 (Ew (g.Height + 1)).toNat 1) [(1, .own (cN [nS] (Ew (g.Height + 1)).toNat))]))) (B3 T U V)) (.mu 1 (.done (.nh [1, 5] [.own (ak.c g), .own (cN [nS] (Ew (g.Height + 1)).toNat)] (.wk ((Wk.mkT 1 (n := (Ew (g.Height + 1)).toNat) 1 (iC .i64)).to (c := ⟨mkS 81 0 [(1, .hp 0 0), (5, .hs 1 0 (Ew (g.Height + 1)).toNat 1)], [.own (ak.c g), .rows (rws 1 (iC .i64) (List.replicate (Ew (g.Height + 1)).toNat ([] : List Int)))]⟩) kRf) (.wk ((Wk.eG 5 (b := 1) (es := 1) (len := (Ew (g.Height + 1)).toNat) (List.replicate (Ew (g.Height + 1)).toNat ([] : List Int)).length kRf (by simp)).to (c := ⟨mkS 81 0 [(1, .hp 0 0), (5, .hs 1 0 (List.replicate (Ew (g.Height + 1)).toNat ([] : List Int)).length 1)], [.own (ak.c g), .rows (rws 1 (iC .i64) (List.replicate (Ew (g.Height + 1)).toNat ([] : List Int)))]⟩) kRf) (.seq (.seq (.r4 G [1, 5] [(18, ag ((List.replicate (Ew (g.Height + 1)).toNat ([] : List Int)).length : Int)), (19, ag 0)] (.block ?_)))))))))))
 replace hr := bd hr; obtain ⟨o, D, hr⟩ := hr
 refine .aP (σ := fun W => match W with | (h, d) => ⟨mkS 81 0 [(1, .hp 0 0), (5, .hs 1 0 h.length 1), (18, ag ((List.replicate (Ew (g.Height + 1)).toNat ([] : List Int)).length : Int)), (19, ag d)], [.own (ak.c g), .rows (rws 1 (iC .i64) h)]⟩) (Q := fun x st' => x = .exit 0 /\ Wk 0 st' ⟨mkS 81 0 [(5, .hs 0 0 o.length 1)], [.rows (rws 1 (iC .i64) o)]⟩) D ((Wk.gc [1, 5, 18, 19] [(0, true), (1, false)] rfl (pKt (pKr 1 (iC .i64) (List.replicate (Ew (g.Height + 1)).toNat ([] : List Int)) trivial))).to) ?_ ?_
 ·clear hr
  rintro m ⟨h, d⟩ hr
  refine CQ.sh ?_
  refine .seq (.r4 G [1, 5, 18, 19] [(20, aB (decide (d < ((List.replicate (Ew (g.Height + 1)).toNat ([] : List Int)).length : Int))))] (.seq ?_))
  refine .cd hr ?_ ?_ <;> intro X hr
  ·refine .skip (.seq (.block (.seq (.r4 G [1, 5, 18, 19] [(6, ag d)] (.seq ?_)))))
   obtain ⟨J, L, M, hr⟩ := gd3 hr
   obtain ⟨u, hr⟩ := gd hr
   refine .r0 G (.mu 5 (.e0 (v := .hs 2 0 (List.replicate (Ew (g.Width + 1)).toNat ((0 : Int) : Int)).length 1) (ws := [(2, .own ((List.replicate (Ew (g.Width + 1)).toNat ((0 : Int) : Int)).flatMap (iC .i64)))]) (tr (zx (c := (iC .i64)) (z := (0 : Int)) (n := Ew (g.Width + 1)) (by_ := 8) rfl J L M)) (.p0 (v := .hp 1 (0 + d.toNat * 1)) (tr (aq u)) (.e0 (v := .unk) (ws := [(1, .rows ((rws 1 (iC .i64) h).set d.toNat (.av (.hs 2 0 (List.replicate (Ew (g.Width + 1)).toNat ((0 : Int) : Int)).length 1))))]) (tr (y := stO (decide (0 + d.toNat * 1 < (rws 1 (iC .i64) h).length) && true) [(1, .rows ((rws 1 (iC .i64) h).set (0 + d.toNat * 1) (.av (.hs 2 0 (List.replicate (Ew (g.Width + 1)).toNat ((0 : Int) : Int)).length 1))))]) (Ei u (by omega))) (.done (.nh [1, 5, 6, 18, 19] [.own (ak.c g), .rows ((rws 1 (iC .i64) h).set d.toNat (.av (.hs 2 0 (List.replicate (Ew (g.Width + 1)).toNat ((0 : Int) : Int)).length 1))), .own ((List.replicate (Ew (g.Width + 1)).toNat ((0 : Int) : Int)).flatMap (iC .i64))] (.wk ((Wk.tP 1 2 (x := List.replicate (Ew (g.Width + 1)).toNat ((0 : Int) : Int)) (es := 1) (c := (iC .i64)) (e := h) (i := d) (len := (List.replicate (Ew (g.Width + 1)).toNat ((0 : Int) : Int)).length) (an _) u rfl).to (c := ⟨mkS 81 0 [(1, .hp 0 0), (5, .hs 1 0 h.length 1), (6, ag d), (18, ag ((List.replicate (Ew (g.Height + 1)).toNat ([] : List Int)).length : Int)), (19, ag d)], [.own (ak.c g), .rows (rws 1 (iC .i64) (h.set d.toNat (List.replicate (Ew (g.Width + 1)).toNat ((0 : Int) : Int)))), .dead]⟩) kRf) (.seq (.r4 G [1, 5, 6, 18, 19] [(7, ag 1)] (.block ?_))))))))))
   replace hr := bd hr; obtain ⟨s, E, hr⟩ := hr
   refine .aP (σ := fun W => match W with | (a, f) => ⟨mkS 81 0 [(1, .hp 0 0), (5, .hs 1 0 a.length 1), (6, ag d), (7, ag f), (18, ag ((List.replicate (Ew (g.Height + 1)).toNat ([] : List Int)).length : Int)), (19, ag d)], [.own (ak.c g), .rows (rws 1 (iC .i64) a)]⟩) (Q := fun x st' => x = .exit 2 /\ Wk 0 st' ⟨mkS 81 0 [(1, .hp 0 0), (5, .hs 1 0 s.length 1), (18, ag ((List.replicate (Ew (g.Height + 1)).toNat ([] : List Int)).length : Int)), (19, ag d)], [.own (ak.c g), .rows (rws 1 (iC .i64) s)]⟩) E ((Wk.eG 5 (b := 1) (es := 1) (len := h.length) (h.set d.toNat (List.replicate (Ew (g.Width + 1)).toNat ((0 : Int) : Int))).length kRf (Eq.symm (List.length_set.trans rfl))).trans ((Wk.gc [1, 5, 6, 7, 18, 19] [(0, true), (1, false)] rfl (pKt (pKr 1 (iC .i64) (h.set d.toNat (List.replicate (Ew (g.Width + 1)).toNat ((0 : Int) : Int))) trivial))).to)) ?_ ?_
   ·clear hr
    rintro m ⟨a, f⟩ hr
    refine CQ.sh ?_
    refine .seq (.seq ?_)
    rcases bT (decide (f <= g.Width)) with p | p
    ·replace hr := cB p hr
     refine .r0 G (.mu 3 (.p0 (v := aB true) (eB p) (.mu 4 (.done (.nh [1, 5, 6, 7, 18, 19, 36] [.own (ak.c g), .rows (rws 1 (iC .i64) a)] ?_)))))
     refine .cd hr ?_ ?_ <;> intro Y hr
     ·refine .skip (.seq (.block ?_))
      obtain ⟨l, hr⟩ := gd hr
      refine .wk ((Wk.zj 1 (es := 1) (c := (iC .i64)) (e := a) l).to (c := ⟨mkS 81 0 [(1, .hp 0 0), (5, .hs 1 0 a.length 1), (6, ag d), (7, ag f), (18, ag ((List.replicate (Ew (g.Height + 1)).toNat ([] : List Int)).length : Int)), (19, ag d), (36, aB (decide (d > 0)))], [.own (ak.c g), .rows ((rws 1 (iC .i64) a).set d.toNat (.av (.hs 2 0 (gt a d).length 1))), .own ((gt a d).flatMap (iC .i64))]⟩) kRf) ?_
      obtain ⟨k, t, hr⟩ := gd2 hr
      refine .wk ((Wk.CV 1 (A := .hs 2 0 (gt a d).length 1) (es := 1) (c := (iC .i64)) (e := a) (i := d) (j := Ew (d - 1)) l k t).to (c := ⟨mkS 81 0 [(1, .hp 0 0), (5, .hs 1 0 a.length 1), (6, ag d), (7, ag f), (18, ag ((List.replicate (Ew (g.Height + 1)).toNat ([] : List Int)).length : Int)), (19, ag d), (36, aB (decide (d > 0)))], [.own (ak.c g), .rows (((rws 1 (iC .i64) a).set d.toNat (.av (.hs 2 0 (gt a d).length 1))).set (Ew (d - 1)).toNat (.av (.hs 3 0 (gt a (Ew (d - 1))).length 1))), .own ((gt a d).flatMap (iC .i64)), .own ((gt a (Ew (d - 1))).flatMap (iC .i64))]⟩) kRf) ?_
      obtain ⟨F, H, I, hr⟩ := gd3 hr
      obtain ⟨q, N, hr⟩ := bd hr
      obtain ⟨w, hr⟩ := gd hr
      refine .t1 G (ok0 (oB n g (Ew (f - 1)) (Ew (d - 1)) q N)) (.mu 2 (.pk (v := .hp 1 (0 + d.toNat * 1)) (tr (aq l)) (.pk (v := .hs 2 0 (gt a d).length 1) (tr (y := bc.ofP (rq (((rws 1 (iC .i64) a).set d.toNat (.av (.hs 2 0 (gt a d).length 1))).set (Ew (d - 1)).toNat (.av (.hs 3 0 (gt a (Ew (d - 1))).length 1)))[0 + d.toNat * 1]?)) (C9 l k t (by omega))) (.mu 4 (.pk (v := .hp 1 (0 + (Ew (d - 1)).toNat * 1)) (tr (aq k)) (.pk (v := .hs 3 0 (gt a (Ew (d - 1))).length 1) (tr (y := bc.ofP (rq (((rws 1 (iC .i64) a).set d.toNat (.av (.hs 2 0 (gt a d).length 1))).set (Ew (d - 1)).toNat (.av (.hs 3 0 (gt a (Ew (d - 1))).length 1)))[0 + (Ew (d - 1)).toNat * 1]?)) (CA k (by omega))) (.mu 1 (.pk (v := .hp 3 (0 + f.toNat * 1)) (tr (aq F)) (.pk (v := ag (gt (gt a (Ew (d - 1))) f)) (tr (aD (aC (ay .i64) (ax F) z1 (by omega : 0 + f.toNat * 1 = f.toNat * 1 + 0) kRf))) (.mu 2 (.pk (v := .hp 1 (0 + d.toNat * 1)) (tr (aq l)) (.pk (v := .hs 2 0 (gt a d).length 1) (tr (y := bc.ofP (rq (((rws 1 (iC .i64) a).set d.toNat (.av (.hs 2 0 (gt a d).length 1))).set (Ew (d - 1)).toNat (.av (.hs 3 0 (gt a (Ew (d - 1))).length 1)))[0 + d.toNat * 1]?)) (C9 l k t (by omega))) (.mu 2 (.pk (v := .hp 2 (0 + (Ew (f - 1)).toNat * 1)) (tr (aq H)) (.pk (v := ag (gt (gt a d) (Ew (f - 1)))) (tr (aD (aC (ay .i64) (ax H) z1 (by omega : 0 + (Ew (f - 1)).toNat * 1 = (Ew (f - 1)).toNat * 1 + 0) kRf))) (.mu 4 (.pk (v := .hp 1 (0 + (Ew (d - 1)).toNat * 1)) (tr (aq k)) (.pk (v := .hs 3 0 (gt a (Ew (d - 1))).length 1) (tr (y := bc.ofP (rq (((rws 1 (iC .i64) a).set d.toNat (.av (.hs 2 0 (gt a d).length 1))).set (Ew (d - 1)).toNat (.av (.hs 3 0 (gt a (Ew (d - 1))).length 1)))[0 + (Ew (d - 1)).toNat * 1]?)) (CA k (by omega))) (.mu 2 (.pk (v := .hp 3 (0 + (Ew (f - 1)).toNat * 1)) (tr (aq I)) (.pk (v := ag (gt (gt a (Ew (d - 1))) (Ew (f - 1)))) (tr (aD (aC (ay .i64) (ax I) z1 (by omega : 0 + (Ew (f - 1)).toNat * 1 = (Ew (f - 1)).toNat * 1 + 0) kRf))) (.mu 6 (.ca cf0 (.mu 1 (.pk (v := .hp 2 (0 + f.toNat * 1)) (tr (aq w)) ?_)))))))))))))))))))))))))
      refine .ek (v := .unk) (ws := [(2, .own (((gt a d).set f.toNat (Ew ((Ew ((Ew ((gt (gt a (Ew (d - 1))) f) + (gt (gt a d) (Ew (f - 1))))) - (gt (gt a (Ew (d - 1))) (Ew (f - 1))))) + q))).flatMap (iC .i64)))]) (tr (dB (dw (bn (n := 1) (ay .i64) (ax w) (lbT rfl) (by omega : 0 + f.toNat * 1 = f.toNat * 1 + 0))) (congrArg Blk.own (bE (xs := [ag (Ew ((Ew ((Ew ((gt (gt a (Ew (d - 1))) f) + (gt (gt a d) (Ew (f - 1))))) - (gt (gt a (Ew (d - 1))) (Ew (f - 1))))) + q))]) (ay .i64) (ax w) (lbT rfl) (by omega : 0 + f.toNat * 1 = f.toNat * 1 + 0) kRf)))) ?_
      refine .done (kRa ?_)
      refine .pop (.ru G ?_)
      exact aF ((a.set d.toNat ((gt a d).set f.toNat (Ew ((Ew ((Ew ((gt (gt a (Ew (d - 1))) f) + (gt (gt a d) (Ew (f - 1))))) - (gt (gt a (Ew (d - 1))) (Ew (f - 1))))) + q)))).set (Ew (d - 1)).toNat (gt a (Ew (d - 1))), Ew (f + 1)) hr ((Wk.BS 1 2 (x := (gt a d).set f.toNat (Ew ((Ew ((Ew ((gt (gt a (Ew (d - 1))) f) + (gt (gt a d) (Ew (f - 1))))) - (gt (gt a (Ew (d - 1))) (Ew (f - 1))))) + q))) (S := .hs 3 0 (gt a (Ew (d - 1))).length 1) (es := 1) (c := (iC .i64)) (e := a) (i := d) (j := Ew (d - 1)) (len := (gt a d).length) (an _) l k t (List.length_set.trans rfl)).trans ((Wk.tP 1 3 (x := gt a (Ew (d - 1))) (es := 1) (c := (iC .i64)) (e := a.set d.toNat ((gt a d).set f.toNat (Ew ((Ew ((Ew ((gt (gt a (Ew (d - 1))) f) + (gt (gt a d) (Ew (f - 1))))) - (gt (gt a (Ew (d - 1))) (Ew (f - 1))))) + q)))) (i := Ew (d - 1)) (len := (gt a (Ew (d - 1))).length) (an _) (cq k) rfl).trans ((Wk.eG 5 (b := 1) (es := 1) (len := a.length) ((a.set d.toNat ((gt a d).set f.toNat (Ew ((Ew ((Ew ((gt (gt a (Ew (d - 1))) f) + (gt (gt a d) (Ew (f - 1))))) - (gt (gt a (Ew (d - 1))) (Ew (f - 1))))) + q)))).set (Ew (d - 1)).toNat (gt a (Ew (d - 1)))).length kRf (Eq.symm (List.length_set.trans (List.length_set.trans rfl)))).trans ((Wk.gc [1, 5, 6, 7, 18, 19] [(0, true), (1, false)] rfl (pKt (pKr 1 (iC .i64) ((a.set d.toNat ((gt a d).set f.toNat (Ew ((Ew ((Ew ((gt (gt a (Ew (d - 1))) f) + (gt (gt a d) (Ew (f - 1))))) - (gt (gt a (Ew (d - 1))) (Ew (f - 1))))) + q)))).set (Ew (d - 1)).toNat (gt a (Ew (d - 1)))) trivial))).to))))
     refine .leave rfl ?_
     obtain rfl := oi hr
     exact ⟨rfl, ((Wk.gc [1, 5, 18, 19] [(0, true), (1, false)] rfl (pKt (pKr 1 (iC .i64) a trivial))).to)⟩
    replace hr := cC p hr
    refine .r0 G (.mu 3 (.p0 (v := aB false) (eB p) (.mu 4 (.done (.nh [1, 5, 6, 7, 18, 19, 36] [.own (ak.c g), .rows (rws 1 (iC .i64) a)] (.cF kRf (.leave rfl ?_)))))))
    obtain rfl := oi hr
    exact ⟨rfl, ((Wk.gc [1, 5, 18, 19] [(0, true), (1, false)] rfl (pKt (pKr 1 (iC .i64) a trivial))).to)⟩
   rintro x st' B
   clear E
   obtain ⟨rfl, B⟩ := B
   refine a8 _ rfl (.pop (.wk B (.ru G ?_)))
   exact aF (s, Ew (d + 1)) hr ((Wk.gc [1, 5, 18, 19] [(0, true), (1, false)] rfl (pKt (pKr 1 (iC .i64) s trivial))).to)
  refine .leave rfl ?_
  obtain rfl := oi hr
  exact ⟨rfl, ((Wk.gc [5] [(1, false)] rfl (pKr 1 (iC .i64) h trivial)).to)⟩
 rintro x st' C
 clear D
 obtain ⟨rfl, C⟩ := C
 refine a8 _ rfl (.wk C (.seq (.r3 G 81 [(2, .hs 0 0 o.length 1), (3, ag 0)] (.ret ?_))))
 obtain rfl := oi hr
 exact aS.ret (vs := [.hs 0 0 o.length 1, ag 0]) kRf (Sn.tup (SnL.cons (Sn.rw (es := 1) (c := (iC .i64)) (e := o)) (Sp SnL.nil)))

theorem nU (n : Nat) (a : ak) (r : aG × Int) (hr : ig n a = some r) : bo Tryz.prog 40 [.agg (ak.c a)] (.tup [.agg (aG.c r.1), ag r.2]) := by
 unfold ig at hr
 refine bo.bd G Tryz.func40 [.cell 2 73, .tmp 3] ?_
 unfold Tryz.f40
 simp only [gS]
 refine .seq (.r2 G 15 [(1, .hp 0 0), (2, .hp 1 0)] [.own (ak.c a), .own [ag 0, ag 0, ag 0, nS, nS]] (.seq ?_))
 obtain ⟨b, d, hr⟩ := bd hr
 refine .g1 G (ok0 (nP n a b d)) (.mu 1 (.ca cf0 (.mu 5 (.done (.nh [1, 2, 4, 5] [.own (ak.c a), .own [ag 0, ag 0, ag 0, nS, nS]] (.seq (.r5 G [2] [(3, ag b.2)] [.own (ak.c a), .own [ag a.Width, ag a.Height, ag a.Max, gj a.Pixels, slT (slC (iC .i64)) b.1]] (.ret ?_))))))))
 obtain rfl := oi hr
 exact aS.ret (vs := [.agg [ag a.Width, ag a.Height, ag a.Max, gj a.Pixels, slT (slC (iC .i64)) b.1], ag b.2]) kRf (Sn.tup (Sp (Sp SnL.nil)))

theorem nX {b : A4 Int} {a : A4 Int} (h : ([.agg [.at (.int .i64 b.e0), .at (.int .i64 b.e1), .at (.int .i64 b.e2), .at (.int .i64 b.e3)]] : List AV) = [.agg [.at (.int .i64 a.e0), .at (.int .i64 a.e1), .at (.int .i64 a.e2), .at (.int .i64 a.e3)]]) : b = a := by
 obtain ⟨_, _, _, _⟩ := b
 obtain ⟨_, _, _, _⟩ := a
 simp only [List.cons.injEq, AV.agg.injEq, AV.at.injEq, Value.int.injEq, Value.bool.injEq, AV.fn.injEq, AV.pp.injEq, true_and, and_true] at h
 simp_all
theorem oA (n : Nat) {b : A4 Int} {a : A4 Int} (h : ([.agg [.at (.int .i64 b.e0), .at (.int .i64 b.e1), .at (.int .i64 b.e2), .at (.int .i64 b.e3)]] : List AV) = [.agg [.at (.int .i64 a.e0), .at (.int .i64 a.e1), .at (.int .i64 a.e2), .at (.int .i64 a.e3)]]) : dQ n b = dQ n a := by
 obtain rfl := nX h
 rfl
theorem iP (n : Nat) (b : A4 Int) (r : Bool) (hr : dQ n b = some r) : bo Tryz.prog 20 [.agg [ag b.e0, ag b.e1, ag b.e2, ag b.e3]] (aB r) := by
 unfold dQ at hr
 refine bo.bd G Tryz.func20 [.tmp 2] ?_
 unfold Tryz.f20
 simp only [gS]
 refine .seq (.r2 G 39 [(1, .hp 0 0)] [.own [ag b.e0, ag b.e1, ag b.e2, ag b.e3]] (.seq (.seq ?_)))
 rcases bT (decide ((mn b.e2 b.e3) < 1)) with a | a
 ·replace hr := cB a hr
  refine .r0 G (.mu 5 (.p0 (v := aB true) (eB a) (.mu 16 (.done (.nh [1, 24] [.own [ag b.e0, ag b.e1, ag b.e2, ag b.e3]] (.cT kRf (.seq (.ru G (.ret ?_)))))))))
  obtain rfl := oi hr
  exact aS.r1 [aB false]
 replace hr := cC a hr
 rcases bT (decide ((mx b.e2 b.e3) > 8)) with c | c
 ·replace hr := cB c hr
  refine .r0 G (.mu 5 (.p0 (v := aB false) (eB a) (.mu 6 (.pure (v := aB true) kRf (eB c) (.mu 9 (.done (.nh [1, 24] [.own [ag b.e0, ag b.e1, ag b.e2, ag b.e3]] (.cT kRf (.seq (.ru G (.ret ?_)))))))))))
  obtain rfl := oi hr
  exact aS.r1 [aB false]
 replace hr := cC c hr
 refine .r0 G (.mu 5 (.p0 (v := aB false) (eB a) (.mu 6 (.pure (v := aB false) kRf (eB c) (.mu 9 (.done (.nh [1, 24] [.own [ag b.e0, ag b.e1, ag b.e2, ag b.e3]] ?_)))))))
 refine .cd hr ?_ ?_ <;> intro e hr
 ·refine .seq (.ru G (.ret ?_))
  obtain rfl := oi hr
  exact aS.r1 [aB false]
 refine .skip (.seq ?_)
 rcases bT (decide (b.e0 <= (Ew (17 - b.e2)))) with d | d
 ·replace hr := cB d hr
  refine .r0 G (.mu 5 (.p0 (v := aB true) (eB d) (.mu 9 (.done (.ret ?_)))))
  obtain rfl := oi hr
  exact aS.r1 [aB (decide (b.e1 <= (Ew (17 - b.e3))))]
 replace hr := cC d hr
 refine .r0 G (.mu 5 (.p0 (v := aB false) (eB d) (.mu 9 (.done (.ret ?_)))))
 obtain rfl := oi hr
 exact aS.r1 [aB false]

theorem l8 (n : Nat) (t : aj) (r : Bool) (hr : fK n t = some r) : bo Tryz.prog 19 [.agg (aj.c t)] (aB r) := by
 unfold fK at hr
 refine bo.bd G Tryz.func19 [.tmp 2] ?_
 unfold Tryz.f19
 simp only [gS]
 refine .seq (.r2 G 13 [(1, .hp 0 0)] [.own (aj.c t)] (.seq ?_))
 obtain ⟨e, b, hr⟩ := bd hr
 rcases bT (!e) with a | a
 ·replace hr := cB a hr
  refine .g1 G (ok0 (iP n t.A e b)) (.mu 2 (.ca cf0 (.p0 (v := aB true) (eB a) (.mu 7 (.done (.ret ?_))))))
  obtain rfl := oi hr
  exact aS.r1 [aB true]
 replace hr := cC a hr
 obtain ⟨f, d, hr⟩ := bd hr
 refine .gn G (ca1 (ok0 (iP n t.A e b)) (ca3 (ok0 (iP n t.B f d)))) (.mu 2 (.ca cf0 (.p0 (v := aB false) (eB a) (.mu 3 (.ca (cfA (fun h => by rw [sv d b (oA n h)]) cf0) (.mu 3 (.done (.ret ?_))))))))
 obtain rfl := oi hr
 exact aS.r1 [aB (!f)]

theorem cj (n : Nat) (s : List aj) (r : Int) (hr : aQ n s = some r) : bo Tryz.prog 39 [slT aj.c s, .fn 19 [] []] (ag r) := by
 unfold aQ at hr
 refine bo.bd G Tryz.func39 [.tmp 4] ?_
 unfold Tryz.f39
 simp only [gS]
 refine .seq (.r4 G [0, 1] [] (.seq (.seq (.r4 G [0, 1] [(7, ag (s.length : Int)), (8, ag 0)] (.block ?_)))))
 replace hr := bd hr; obtain ⟨e, d, hr⟩ := hr
 refine .aP (σ := fun j => match j with | a => ⟨mkS 19 0 [(0, slT aj.c s), (1, .fn 19 [] []), (7, ag (s.length : Int)), (8, ag a)], []⟩) (Q := fun x st' => match (generalizing := false) e with | .inl _ => x = .exit 0 /\ Wk 0 st' ⟨mkS 19 0 [], []⟩ | .inr (r0) => x = .ret /\ aS Tryz.prog [.tmp 4] (ag r0) .ret st') d ((Wk.gc [0, 1, 7, 8] [] rfl pK0).to) ?_ ?_
 ·clear hr
  rintro m a hr
  refine CQ.sh ?_
  refine .seq (.r4 G [0, 1, 7, 8] [(9, aB (decide (a < (s.length : Int))))] (.seq ?_))
  refine .cd hr ?_ ?_ <;> intro k hr
  ·refine .skip (.seq (.block (.seq (.r4 G [0, 1, 7, 8] [(5, ag a)] (.seq ?_)))))
   obtain ⟨f, hr⟩ := gd hr
   obtain ⟨h, g, hr⟩ := bd hr
   refine .g1 G (ok0 (l8 n (gt s a) h g)) (.mu 3 (.p0 (v := .pp (s.flatMap aj.c) (a.toNat * 8)) (tr (aq f)) (.p0 (v := .agg (aj.c (gt s a))) (tr (y := bc.ofP (eE (decide (8 <= ((s.flatMap aj.c).drop (a.toNat * 8)).length)) (.agg (((s.flatMap aj.c).drop (a.toNat * 8)).take 8)))) (cz aj.len (ax f) (by decide) (by omega : a.toNat * 8 = a.toNat * 8 + 0) kRf)) (.ca cf0 (.done (.nh [0, 1, 5, 7, 8, 16] [] ?_))))))
   refine .cd hr ?_ ?_ <;> intro i hr
   ·refine .seq (.ru G (.ret ?_))
    obtain rfl := oi hr
    exact ⟨rfl, aS.ret (vs := [ag a]) kRf (Sn.pure rfl)⟩
   refine .skip (.pop (.ru G ?_))
   exact aF (Ew (a + 1)) hr ((Wk.gc [0, 1, 7, 8] [] rfl pK0).to)
  refine .leave rfl ?_
  obtain rfl := oi hr
  exact ⟨rfl, ((Wk.gc [] [] rfl pK0).to)⟩
 rcases e with ⟨⟩ | r0
 ·rintro x st' b
  clear d
  obtain ⟨rfl, b⟩ := b
  refine a8 _ rfl (.wk b (.seq (.ru G (.ret ?_))))
  obtain rfl := oi hr
  exact aS.r1 [ag (-1)]
 rintro x st' b
 clear d
 obtain ⟨rfl, b⟩ := b
 obtain rfl := oi hr
 exact fp _ b

theorem bZ (n : Nat) (s : List aj) (r : Bool) (hr : aM n s = some r) : bo Tryz.prog 18 [slT aj.c s, .fn 19 [] []] (aB r) := by
 unfold aM at hr
 refine bo.bd G Tryz.func18 [.tmp 4] ?_
 unfold Tryz.f18
 simp only [gS]
 refine .seq (.r4 G [0, 1] [] (.seq ?_))
 obtain ⟨b, a, hr⟩ := bd hr
 refine .g1 G (ok0 (cj n s b a)) (.mu 2 (.ca cf0 (.mu 2 (.done (.ret ?_)))))
 obtain rfl := oi hr
 exact aS.r1 [aB (decide (b >= 0))]

theorem jA (n : Nat) (p : List aj) (r : Int) (hr : dL n p = some r) : bo Tryz.prog 6 [slT aj.c p] (ag r) := by
 unfold dL at hr
 refine bo.bd G Tryz.func6 [.tmp 2] ?_
 unfold Tryz.f6
 simp only [gS]
 refine .seq (.r4 G [0] [] (.seq (.seq ?_)))
 rcases bT (decide ((p.length : Int) < 1)) with a | a
 ·replace hr := cB a hr
  refine .r0 G (.mu 2 (.p0 (v := aB true) (eB a) (.mu 9 (.done (.nh [14] [] (.cT kRf (.seq (.ru G (.ret ?_)))))))))
  obtain rfl := oi hr
  exact aS.r1 [ag 1]
 replace hr := cC a hr
 rcases bT (decide ((p.length : Int) > 64)) with b | b
 ·replace hr := cB b hr
  refine .r0 G (.mu 2 (.p0 (v := aB false) (eB a) (.mu 3 (.pure (v := aB true) kRf (eB b) (.mu 5 (.done (.nh [14] [] (.cT kRf (.seq (.ru G (.ret ?_)))))))))))
  obtain rfl := oi hr
  exact aS.r1 [ag 1]
 replace hr := cC b hr
 obtain ⟨e, d, hr⟩ := bd hr
 refine .g1 G (ok0 (bZ n p e d)) (.mu 2 (.p0 (v := aB false) (eB a) (.mu 3 (.pure (v := aB false) kRf (eB b) (.mu 3 (.ca cf0 (.mu 1 (.done (.nh [14] [] ?_)))))))))
 refine .cd hr ?_ ?_ <;> intro f hr
 ·refine .seq (.ru G (.ret ?_))
  obtain rfl := oi hr
  exact aS.r1 [ag 1]
 refine .skip (.seq (.ru G (.ret ?_)))
 obtain rfl := oi hr
 exact aS.r1 [ag 0]

theorem mF (n : Nat) (b : ak) (p : List aj) (r : aG × Int) (hr : fY n b p = some r) : bo Tryz.prog 21 [.agg (ak.c b), slT aj.c p] (.tup [.agg (aG.c r.1), ag r.2]) := by
 unfold fY at hr
 refine bo.bd G Tryz.func21 [.cell 4 73, .tmp 5] ?_
 unfold Tryz.f21
 simp only [gS]
 refine .seq (.r5 G [1] [(2, .hp 0 0), (4, .hp 1 0)] [.own (ak.c b), .own [ag 0, ag 0, ag 0, nS, nS]] (.seq ?_))
 obtain ⟨a, d, hr⟩ := bd hr
 refine .g1 G (ok0 (nU n b a d)) (.mu 1 (.ca cf0 (.mu 6 (.done (.nh [1, 4, 6, 7] [.own (ak.c b), .own [ag 0, ag 0, ag 0, nS, nS], .own (aG.c a.1)] (.seq (.seq (.r4 G [1, 4, 6, 7] [(14, aB ((a.2 : Int) == 0))] ?_))))))))
 refine .cd hr ?_ ?_ <;> intro g hr
 ·obtain ⟨e, f, hr⟩ := bd hr
  refine .g1 G (ok0 (jA n p e f)) (.mu 1 (.ca cf0 (.mu 1 (.done (.nh [4, 6, 7] [.own (ak.c b), .own [ag 0, ag 0, ag 0, nS, nS], .own (aG.c a.1)] (.seq (.r5 G [4] [(5, ag e)] [.own (ak.c b), .own (aG.c a.1), .own (aG.c a.1)] (.ret ?_))))))))
  obtain rfl := oi hr
  exact aS.ret (vs := [.agg (aG.c a.1), ag e]) kRf (Sn.tup (Sp (Sp SnL.nil)))
 refine .skip (.seq (.r5 G [4] [(5, ag a.2)] [.own (ak.c b), .own (aG.c a.1), .own (aG.c a.1)] (.ret ?_)))
 obtain rfl := oi hr
 exact aS.ret (vs := [.agg (aG.c a.1), ag a.2]) kRf (Sn.tup (Sp (Sp SnL.nil)))

theorem qb (n : Nat) (b : List Int) (p : List (List Int)) (r : Bool) (hr : jJ n b p = some r) : bo Tryz.prog 69 [gj b, .pp [slT (slC (iC .i64)) p] 0] (aB r) := by
 unfold jJ at hr
 refine bo.bd G Tryz.func69 [.tmp 3] ?_
 unfold Tryz.f69
 simp only [gS]
 refine .seq (.r4 G [0, 1] [] (.seq ?_))
 obtain ⟨a, hr⟩ := gd hr
 refine .r0 G (.mu 3 (.p0 (v := .pp (p.flatMap (slC (iC .i64))) ((0 : Int).toNat * 1)) (tr (aq a)) (.p0 (v := gj (gt p 0)) (tr (y := bc.ofP ((p.flatMap (slC (iC .i64)))[(0 : Int).toNat * 1]?)) (aD (aC (fr _) (ax a) z1 (by omega : (0 : Int).toNat * 1 = (0 : Int).toNat * 1 + 0) kRf))) (.mu 3 (.done (.ret ?_))))))
 obtain rfl := oi hr
 exact aS.r1 [aB (((b.length : Int) : Int) != ((gt p 0).length : Int))]

theorem fC (n : Nat) (s : List (List Int)) (c : List (List Int)) (r : Int) (hr : bW n s c = some r) : bo Tryz.prog 98 [slT (slC (iC .i64)) s, .fn 69 [] [.pp [slT (slC (iC .i64)) c] 0]] (ag r) := by
 unfold bW at hr
 refine bo.bd G Tryz.func98 [.tmp 4] ?_
 unfold Tryz.f98
 simp only [gS]
 refine .seq (.r4 G [0, 1] [] (.seq (.seq (.r4 G [0, 1] [(7, ag (s.length : Int)), (8, ag 0)] (.block ?_)))))
 replace hr := bd hr; obtain ⟨e, d, hr⟩ := hr
 refine .aP (σ := fun j => match j with | a => ⟨mkS 19 0 [(0, slT (slC (iC .i64)) s), (1, .fn 69 [] [.pp [slT (slC (iC .i64)) c] 0]), (7, ag (s.length : Int)), (8, ag a)], []⟩) (Q := fun x st' => match (generalizing := false) e with | .inl _ => x = .exit 0 /\ Wk 0 st' ⟨mkS 19 0 [], []⟩ | .inr (r0) => x = .ret /\ aS Tryz.prog [.tmp 4] (ag r0) .ret st') d ((Wk.gc [0, 1, 7, 8] [] rfl pK0).to) ?_ ?_
 ·clear hr
  rintro m a hr
  refine CQ.sh ?_
  refine .seq (.r4 G [0, 1, 7, 8] [(9, aB (decide (a < (s.length : Int))))] (.seq ?_))
  refine .cd hr ?_ ?_ <;> intro k hr
  ·refine .skip (.seq (.block (.seq (.r4 G [0, 1, 7, 8] [(5, ag a)] (.seq ?_)))))
   obtain ⟨f, hr⟩ := gd hr
   obtain ⟨h, g, hr⟩ := bd hr
   refine .g1 G (ok0 (qb n (gt s a) c h g)) (.mu 3 (.p0 (v := .pp (s.flatMap (slC (iC .i64))) (a.toNat * 1)) (tr (aq f)) (.p0 (v := gj (gt s a)) (tr (y := bc.ofP ((s.flatMap (slC (iC .i64)))[a.toNat * 1]?)) (aD (aC (fr _) (ax f) z1 (by omega : a.toNat * 1 = a.toNat * 1 + 0) kRf))) (.ca cf0 (.done (.nh [0, 1, 5, 7, 8, 16] [] ?_))))))
   refine .cd hr ?_ ?_ <;> intro i hr
   ·refine .seq (.ru G (.ret ?_))
    obtain rfl := oi hr
    exact ⟨rfl, aS.ret (vs := [ag a]) kRf (Sn.pure rfl)⟩
   refine .skip (.pop (.ru G ?_))
   exact aF (Ew (a + 1)) hr ((Wk.gc [0, 1, 7, 8] [] rfl pK0).to)
  refine .leave rfl ?_
  obtain rfl := oi hr
  exact ⟨rfl, ((Wk.gc [] [] rfl pK0).to)⟩
 rcases e with ⟨⟩ | r0
 ·rintro x st' b
  clear d
  obtain ⟨rfl, b⟩ := b
  refine a8 _ rfl (.wk b (.seq (.ru G (.ret ?_))))
  obtain rfl := oi hr
  exact aS.r1 [ag (-1)]
 rintro x st' b
 clear d
 obtain ⟨rfl, b⟩ := b
 obtain rfl := oi hr
 exact fp _ b

theorem fm (n : Nat) (s : List (List Int)) (c : List (List Int)) (r : Bool) (hr : bp n s c = some r) : bo Tryz.prog 68 [slT (slC (iC .i64)) s, .fn 69 [] [.pp [slT (slC (iC .i64)) c] 0]] (aB r) := by
 unfold bp at hr
 refine bo.bd G Tryz.func68 [.tmp 4] ?_
 unfold Tryz.f68
 simp only [gS]
 refine .seq (.r4 G [0, 1] [] (.seq ?_))
 obtain ⟨b, a, hr⟩ := bd hr
 refine .g1 G (dd (args := [slT (slC (iC .i64)) s, .fn 69 [] [.pp [slT (slC (iC .i64)) c] 0]]) (l := []) rfl (Sp (SnL.cons (Sn.fn SnL.nil (Sp SnL.nil)) SnL.nil)) (fC n s c b a)) (.mu 2 (.ca cf0 (.mu 2 (.done (.ret ?_)))))
 obtain rfl := oi hr
 exact aS.r1 [aB (decide (b >= 0))]

theorem rV (n : Nat) (table : List (List Int)) (a : Int) (y : Int) (width : Int) (height : Int) (r : Int × Int) (hr : jY n table a y width height = some r) : bo Tryz.prog 59 [slT (slC (iC .i64)) table, ag a, ag y, ag width, ag height] (.tup [ag r.1, ag r.2]) := by
 unfold jY at hr
 refine bo.bd G Tryz.func59 [.tmp 10, .tmp 11] ?_
 unfold Tryz.f59
 simp only [gS]
 refine .seq (.r2 G 106 [(1, ag a), (2, ag y), (3, ag width), (4, ag height), (5, .hp 0 0)] [.own [slT (slC (iC .i64)) table]] (.seq (.seq ?_)))
 rcases bT (((table.length : Int) : Int) == 0) with g | g
 ·replace hr := cB g hr
  refine .r0 G (.mu 2 (.p0 (v := aB true) (eB g) (.mu 12 (.done (.n2 106 [(1, ag a), (2, ag y), (3, ag width), (4, ag height), (5, .hp 0 0), (28, aB true)] [.own [slT (slC (iC .i64)) table]] (.cT kRf (.seq (.ru G (.ret ?_)))))))))
  obtain rfl := oi hr
  exact aS.ret (vs := [ag 0, ag 1]) kRf (Sn.tup (Sp (Sp SnL.nil)))
 replace hr := cC g hr
 obtain ⟨h, hr⟩ := gd hr
 rcases bT ((((gt table 0).length : Int) : Int) == 0) with j | j
 ·replace hr := cB j hr
  refine .r0 G (.mu 2 (.p0 (v := aB false) (eB g) (.mu 2 (.pure (v := .pp (table.flatMap (slC (iC .i64))) ((0 : Int).toNat * 1)) kRf (tr (aq h)) (.pure (v := gj (gt table 0)) kRf (tr (y := bc.ofP ((table.flatMap (slC (iC .i64)))[(0 : Int).toNat * 1]?)) (aD (aC (fr _) (ax h) z1 (by omega : (0 : Int).toNat * 1 = (0 : Int).toNat * 1 + 0) kRf))) (.mu 1 (.pure (v := aB true) kRf (eB j) (.mu 6 (.done (.n2 106 [(1, ag a), (2, ag y), (3, ag width), (4, ag height), (5, .hp 0 0), (28, aB true)] [.own [slT (slC (iC .i64)) table]] (.cT kRf (.seq (.ru G (.ret ?_))))))))))))))
  obtain rfl := oi hr
  exact aS.ret (vs := [ag 0, ag 1]) kRf (Sn.tup (Sp (Sp SnL.nil)))
 replace hr := cC j hr
 obtain ⟨s, q, hr⟩ := bd hr
 refine .g1 G (dd (args := [slT (slC (iC .i64)) table, .fn 69 [] [.hp 0 0]]) (l := [0]) rfl (Sp (SnL.cons (Sn.fn SnL.nil (SnL.cons (Sn.hp rfl (.inl rfl) (SnC.cons (Sn.pure rfl) SnC.nil)) SnL.nil)) SnL.nil)) (fm n table table s q)) (.mu 2 (.p0 (v := aB false) (eB g) (.mu 2 (.pure (v := .pp (table.flatMap (slC (iC .i64))) ((0 : Int).toNat * 1)) kRf (tr (aq h)) (.pure (v := gj (gt table 0)) kRf (tr (y := bc.ofP ((table.flatMap (slC (iC .i64)))[(0 : Int).toNat * 1]?)) (aD (aC (fr _) (ax h) z1 (by omega : (0 : Int).toNat * 1 = (0 : Int).toNat * 1 + 0) kRf))) (.mu 1 (.pure (v := aB false) kRf (eB j) (.mu 4 (.ca cf0 (.mu 1 (.done (.n2 106 [(1, ag a), (2, ag y), (3, ag width), (4, ag height), (5, .hp 0 0), (28, aB s)] [.own [slT (slC (iC .i64)) table]] ?_))))))))))))
 refine .cd hr ?_ ?_ <;> intro u hr
 ·refine .seq (.ru G (.ret ?_))
  obtain rfl := oi hr
  exact aS.ret (vs := [ag 0, ag 1]) kRf (Sn.tup (Sp (Sp SnL.nil)))
 refine .skip (.seq (.ba G aK (.mu 1 (.pk (v := .pp (table.flatMap (slC (iC .i64))) ((0 : Int).toNat * 1)) (tr (aq h)) (.pk (v := gj (gt table 0)) (tr (y := bc.ofP ((table.flatMap (slC (iC .i64)))[(0 : Int).toNat * 1]?)) (aD (aC (fr _) (ax h) z1 (by omega : (0 : Int).toNat * 1 = (0 : Int).toNat * 1 + 0) kRf))) (.mu 7 ?_))))))
 refine .done (kRa ?_)
 refine .n2 106 [(1, ag a), (2, ag y), (3, ag width), (4, ag height), (5, .hp 0 0), (12, ag (Ew (((gt table 0).length : Int) - 1))), (13, ag (Ew ((table.length : Int) - 1)))] [.own [slT (slC (iC .i64)) table]] (.seq (.seq ?_))
 rcases bT (decide ((mn (mn (mn a y) width) height) < 0)) with b | b
 ·replace hr := cB b hr
  refine .r0 G (.mu 5 (.p0 (v := aB true) (eB b) (.mu 24 (.done (.n2 106 [(1, ag a), (2, ag y), (3, ag width), (4, ag height), (5, .hp 0 0), (66, aB true)] [.own [slT (slC (iC .i64)) table]] (.cT kRf (.seq (.ru G (.ret ?_)))))))))
  obtain rfl := oi hr
  exact aS.ret (vs := [ag 0, ag 2]) kRf (Sn.tup (Sp (Sp SnL.nil)))
 replace hr := cC b hr
 rcases bT (decide (a > (Ew (((gt table 0).length : Int) - 1)))) with d | d
 ·replace hr := cB d hr
  refine .r0 G (.mu 5 (.p0 (v := aB false) (eB b) (.mu 3 (.pure (v := aB true) kRf (eB d) (.mu 20 (.done (.n2 106 [(1, ag a), (2, ag y), (3, ag width), (4, ag height), (5, .hp 0 0), (66, aB true)] [.own [slT (slC (iC .i64)) table]] (.cT kRf (.seq (.ru G (.ret ?_)))))))))))
  obtain rfl := oi hr
  exact aS.ret (vs := [ag 0, ag 2]) kRf (Sn.tup (Sp (Sp SnL.nil)))
 replace hr := cC d hr
 rcases bT (decide (y > (Ew ((table.length : Int) - 1)))) with i | i
 ·replace hr := cB i hr
  refine .r0 G (.mu 5 (.p0 (v := aB false) (eB b) (.mu 3 (.pure (v := aB false) kRf (eB d) (.mu 4 (.pure (v := aB true) kRf (eB i) (.mu 15 (.done (.n2 106 [(1, ag a), (2, ag y), (3, ag width), (4, ag height), (5, .hp 0 0), (66, aB true)] [.own [slT (slC (iC .i64)) table]] (.cT kRf (.seq (.ru G (.ret ?_)))))))))))))
  obtain rfl := oi hr
  exact aS.ret (vs := [ag 0, ag 2]) kRf (Sn.tup (Sp (Sp SnL.nil)))
 replace hr := cC i hr
 rcases bT (decide (width > (Ew ((Ew (((gt table 0).length : Int) - 1)) - a)))) with c | c
 ·replace hr := cB c hr
  refine .r0 G (.mu 5 (.p0 (v := aB false) (eB b) (.mu 3 (.pure (v := aB false) kRf (eB d) (.mu 4 (.pure (v := aB false) kRf (eB i) (.mu 6 (.pure (v := aB true) kRf (eB c) (.mu 8 (.done (.n2 106 [(1, ag a), (2, ag y), (3, ag width), (4, ag height), (5, .hp 0 0), (66, aB true)] [.own [slT (slC (iC .i64)) table]] (.cT kRf (.seq (.ru G (.ret ?_)))))))))))))))
  obtain rfl := oi hr
  exact aS.ret (vs := [ag 0, ag 2]) kRf (Sn.tup (Sp (Sp SnL.nil)))
 replace hr := cC c hr
 refine .r0 G (.mu 5 (.p0 (v := aB false) (eB b) (.mu 3 (.pure (v := aB false) kRf (eB d) (.mu 4 (.pure (v := aB false) kRf (eB i) (.mu 6 (.pure (v := aB false) kRf (eB c) (.mu 8 (.done (.n2 106 [(1, ag a), (2, ag y), (3, ag width), (4, ag height), (5, .hp 0 0), (66, aB (decide (height > (Ew ((Ew ((table.length : Int) - 1)) - y)))))] [.own [slT (slC (iC .i64)) table]] ?_)))))))))))
 refine .cd hr ?_ ?_ <;> intro t hr
 ·refine .seq (.ru G (.ret ?_))
  obtain rfl := oi hr
  exact aS.ret (vs := [ag 0, ag 2]) kRf (Sn.tup (Sp (Sp SnL.nil)))
 refine .skip (.seq ?_)
 obtain ⟨e, k, f, hr⟩ := gd3 hr
 obtain ⟨m, o, p, hr⟩ := gd3 hr
 refine .ba G aK (.mu 4 (.pk (v := .pp (table.flatMap (slC (iC .i64))) ((Ew (y + height)).toNat * 1)) (tr (aq e)) (.pk (v := gj (gt table (Ew (y + height)))) (tr (y := bc.ofP ((table.flatMap (slC (iC .i64)))[(Ew (y + height)).toNat * 1]?)) (aD (aC (fr _) (ax e) z1 (by omega : (Ew (y + height)).toNat * 1 = (Ew (y + height)).toNat * 1 + 0) kRf))) (.mu 3 (.pk (v := .pp ((gt table (Ew (y + height))).flatMap (iC .i64)) ((Ew (a + width)).toNat * 1)) (tr (aq k)) (.pk (v := ag (gt (gt table (Ew (y + height))) (Ew (a + width)))) (tr (aD (aC (ay .i64) (ax k) z1 (by omega : (Ew (a + width)).toNat * 1 = (Ew (a + width)).toNat * 1 + 0) kRf))) (.mu 2 (.pk (v := .pp (table.flatMap (slC (iC .i64))) (y.toNat * 1)) (tr (aq f)) (.pk (v := gj (gt table y)) (tr (y := bc.ofP ((table.flatMap (slC (iC .i64)))[y.toNat * 1]?)) (aD (aC (fr _) (ax f) z1 (by omega : y.toNat * 1 = y.toNat * 1 + 0) kRf))) (.mu 3 (.pk (v := .pp ((gt table y).flatMap (iC .i64)) ((Ew (a + width)).toNat * 1)) (tr (aq m)) (.pk (v := ag (gt (gt table y) (Ew (a + width)))) (tr (aD (aC (ay .i64) (ax m) z1 (by omega : (Ew (a + width)).toNat * 1 = (Ew (a + width)).toNat * 1 + 0) kRf))) (.mu 5 (.pk (v := .pp (table.flatMap (slC (iC .i64))) ((Ew (y + height)).toNat * 1)) (tr (aq e)) (.pk (v := gj (gt table (Ew (y + height)))) (tr (y := bc.ofP ((table.flatMap (slC (iC .i64)))[(Ew (y + height)).toNat * 1]?)) (aD (aC (fr _) (ax e) z1 (by omega : (Ew (y + height)).toNat * 1 = (Ew (y + height)).toNat * 1 + 0) kRf))) (.mu 1 (.pk (v := .pp ((gt table (Ew (y + height))).flatMap (iC .i64)) (a.toNat * 1)) (tr (aq o)) (.pk (v := ag (gt (gt table (Ew (y + height))) a)) (tr (aD (aC (ay .i64) (ax o) z1 (by omega : a.toNat * 1 = a.toNat * 1 + 0) kRf))) (.mu 3 (.pk (v := .pp (table.flatMap (slC (iC .i64))) (y.toNat * 1)) (tr (aq f)) (.pk (v := gj (gt table y)) (tr (y := bc.ofP ((table.flatMap (slC (iC .i64)))[y.toNat * 1]?)) (aD (aC (fr _) (ax f) z1 (by omega : y.toNat * 1 = y.toNat * 1 + 0) kRf))) (.mu 1 (.pk (v := .pp ((gt table y).flatMap (iC .i64)) (a.toNat * 1)) (tr (aq p)) (.pk (v := ag (gt (gt table y) a)) (tr (aD (aC (ay .i64) (ax p) z1 (by omega : a.toNat * 1 = a.toNat * 1 + 0) kRf))) (.mu 3 ?_)))))))))))))))))))))))))
 refine .done (kRa ?_)
 refine .ret ?_
 obtain rfl := oi hr
 exact aS.ret (vs := [ag (Ew ((Ew ((Ew ((gt (gt table (Ew (y + height))) (Ew (a + width))) - (gt (gt table y) (Ew (a + width))))) - (gt (gt table (Ew (y + height))) a))) + (gt (gt table y) a))), ag 0]) kRf (Sn.tup (Sp (Sp SnL.nil)))

theorem e8 (n : Nat) (a : aG) (b : Int) (y : Int) (width : Int) (height : Int) (r : Int × Bool) (hr : bY n a b y width height = some r) : bo Tryz.prog 41 [.agg (aG.c a), ag b, ag y, ag width, ag height] (.tup [ag r.1, aB r.2]) := by
 unfold bY at hr
 refine bo.bd G Tryz.func41 [.tmp 10, .tmp 11] ?_
 unfold Tryz.f41
 simp only [gS]
 refine .seq (.r5 G [1, 2, 3, 4] [(5, .hp 0 0)] [.own (aG.c a)] (.seq ?_))
 obtain ⟨d, e, hr⟩ := bd hr
 refine .g1 G (ok0 (rV n a.f_table b y width height d e)) (.mu 6 (.ca cf0 (.mu 5 (.done (.nh [12, 13] [.own (aG.c a)] (.seq (.ru G (.ret ?_))))))))
 obtain rfl := oi hr
 exact aS.ret (vs := [ag d.1, aB ((d.2 : Int) == 0)]) kRf (Sn.tup (Sp (Sp SnL.nil)))

theorem iF (n : Nat) (e : aG) (p : List aj) (l : Int) (y : Int) (r : Int × Bool) (hr : cr n e p l y = some r) : bo Tryz.prog 22 [.agg (aG.c e), slT aj.c p, ag l, ag y] (.tup [aV r.1, aB r.2]) := by
 unfold cr at hr
 refine bo.bd G Tryz.func22 [.tmp 8, .tmp 9] ?_
 unfold Tryz.f22
 simp only [gS]
 refine .seq (.r5 G [1, 2, 3] [(4, .hp 0 0)] [.own (aG.c e)] (.seq (.r4 G [1, 2, 3, 4] [(10, aV 0)] (.seq (.seq (.r4 G [2, 3, 4, 10] [(17, slT aj.c p), (18, ag (p.length : Int)), (19, ag 0)] (.block ?_)))))))
 replace hr := bd hr; obtain ⟨o, f, hr⟩ := hr
 refine .aP (σ := fun D => match D with | (h, a) => ⟨mkS 97 0 [(2, ag l), (3, ag y), (4, .hp 0 0), (10, aV h), (17, slT aj.c p), (18, ag (p.length : Int)), (19, ag a)], [.own (aG.c e)]⟩) (Q := fun x st' => match (generalizing := false) o with | .inl g => x = .exit 0 /\ Wk 0 st' ⟨mkS 97 0 [(10, aV g)], []⟩ | .inr (r0) => x = .ret /\ aS Tryz.prog [.tmp 8, .tmp 9] (.tup [aV r0.1, aB r0.2]) .ret st') f ((Wk.gc [2, 3, 4, 10, 17, 18, 19] [(0, true)] rfl trivial).to) ?_ ?_
 ·clear hr
  rintro m ⟨h, a⟩ hr
  refine CQ.sh ?_
  refine .seq (.r4 G [2, 3, 4, 10, 17, 18, 19] [(20, aB (decide (a < (p.length : Int))))] (.seq ?_))
  refine .cd hr ?_ ?_ <;> intro w hr
  ·refine .skip (.seq (.block (.seq ?_)))
   obtain ⟨i, hr⟩ := gd hr
   refine .r0 G (.mu 1 (.p0 (v := .pp (p.flatMap aj.c) (a.toNat * 8)) (tr (aq i)) (.p0 (v := .agg (aj.c (gt p a))) (tr (y := bc.ofP (eE (decide (8 <= ((p.flatMap aj.c).drop (a.toNat * 8)).length)) (.agg (((p.flatMap aj.c).drop (a.toNat * 8)).take 8)))) (cz aj.len (ax i) (by decide) (by omega : a.toNat * 8 = a.toNat * 8 + 0) kRf)) (.mu 3 (.done (.nh [2, 3, 4, 10, 11, 12, 17, 18, 19] [.own (aG.c e), .own (aj.c (gt p a))] (.seq ?_)))))))
   obtain ⟨j, q, hr⟩ := bd hr
   refine .g1 G (ok0 (e8 n e (Ew (l + (gt p a).A.e0)) (Ew (y + (gt p a).A.e1)) (gt p a).A.e2 (gt p a).A.e3 j q)) (.mu 17 (.ca cf0 (.mu 5 (.done (.nh [2, 3, 4, 10, 11, 12, 13, 14, 17, 18, 19] [.own (aG.c e), .own (aj.c (gt p a))] (.seq ?_))))))
   obtain ⟨s, t, hr⟩ := bd hr
   refine .g1 G (ok0 (e8 n e (Ew (l + (gt p a).B.e0)) (Ew (y + (gt p a).B.e1)) (gt p a).B.e2 (gt p a).B.e3 s t)) (.mu 17 (.ca cf0 (.mu 5 (.done (.nh [2, 3, 4, 10, 11, 12, 13, 14, 15, 16, 17, 18, 19] [.own (aG.c e), .own (aj.c (gt p a))] (.seq (.seq ?_)))))))
   rcases bT (!j.2) with d | d
   ·replace hr := cB d hr
    refine .r0 G (.mu 1 (.p0 (v := aB true) (eB d) (.mu 4 (.done (.nh [2, 3, 4, 10, 11, 12, 13, 15, 17, 18, 19, 71] [.own (aG.c e), .own (aj.c (gt p a))] (.cT kRf (.seq (.ru G (.ret ?_)))))))))
    obtain rfl := oi hr
    exact ⟨rfl, aS.ret (vs := [aV 0, aB false]) kRf (Sn.tup (Sp (Sp SnL.nil)))⟩
   replace hr := cC d hr
   refine .r0 G (.mu 1 (.p0 (v := aB false) (eB d) (.mu 4 (.done (.nh [2, 3, 4, 10, 11, 12, 13, 15, 17, 18, 19, 71] [.own (aG.c e), .own (aj.c (gt p a))] ?_)))))
   refine .cd hr ?_ ?_ <;> intro z hr
   ·refine .seq (.ru G (.ret ?_))
    obtain rfl := oi hr
    exact ⟨rfl, aS.ret (vs := [aV 0, aB false]) kRf (Sn.tup (Sp (Sp SnL.nil)))⟩
   refine .skip (.seq (.r4 G [2, 3, 4, 10, 11, 17, 18, 19] [(90, aB (decide ((Ew ((Ew (j.1 * (gt p a).B.e2)) * (gt p a).B.e3)) < (Ew ((Ew (s.1 * (gt p a).A.e2)) * (gt p a).A.e3)))))] ?_))
   refine .cd hr ?_ ?_ <;> intro C hr
   ·obtain ⟨u, hr⟩ := gd hr
    refine .r0 G (.mu 2 (.p0 (v := aV (lE .u64 (1 : Int) a)) (wq (k := .u64) (k' := .i64) (x := 1) (y := a) kRf kRf u) (.mu 2 (.done (.pop (.ru G ?_))))))
    exact aF (b7 .or .u64 h (lE .u64 (1 : Int) a), Ew (a + 1)) hr ((Wk.gc [2, 3, 4, 10, 17, 18, 19] [(0, true)] rfl trivial).to)
   refine .skip (.pop (.ru G ?_))
   exact aF (h, Ew (a + 1)) hr ((Wk.gc [2, 3, 4, 10, 17, 18, 19] [(0, true)] rfl trivial).to)
  refine .leave rfl ?_
  obtain rfl := oi hr
  exact ⟨rfl, ((Wk.gc [10] [] rfl pK0).to)⟩
 rcases o with g | r0
 ·rintro x st' b
  clear f
  obtain ⟨rfl, b⟩ := b
  refine a8 _ rfl (.wk b (.seq (.ru G (.ret ?_))))
  obtain rfl := oi hr
  exact aS.ret (vs := [aV g, aB true]) kRf (Sn.tup (Sp (Sp SnL.nil)))
 rintro x st' b
 clear f
 obtain ⟨rfl, b⟩ := b
 obtain rfl := oi hr
 exact fp _ b

theorem eZ (n : Nat) (f : ak) (p : List aj) (r : List ah × List Int × Int) (hr : dt n f p = some r) : bo Tryz.prog 7 [.agg (ak.c f), slT aj.c p] (.tup [slT ah.c r.1, slT (iC .u64) r.2.1, ag r.2.2]) := by
 unfold dt at hr
 refine bo.bd G Tryz.func7 [.tmp 4, .tmp 5, .tmp 6] ?_
 unfold Tryz.f7
 simp only [gS]
 refine .seq (.r5 G [1] [(2, .hp 0 0)] [.own (ak.c f)] (.seq ?_))
 obtain ⟨w, I, hr⟩ := bd hr
 refine .g1 G (ok0 (mF n f p w I)) (.mu 2 (.ca cf0 (.mu 6 (.done (.nh [1, 2, 7, 8] [.own (ak.c f), .own (aG.c w.1)] (.seq (.seq (.r4 G [1, 2, 7, 8] [(22, aB ((w.2 : Int) != 0))] ?_))))))))
 refine .cd hr ?_ ?_ <;> intro O hr
 ·refine .seq (.r3 G 57 [(4, nS), (5, nS), (6, ag w.2)] (.ret ?_))
  obtain rfl := oi hr
  exact aS.ret (vs := [nS, nS, ag w.2]) kRf (Sn.tup (SnL.cons Sn.iS (SnL.cons Sn.iS (Sp SnL.nil))))
 refine .skip (.seq (.r4 G [1, 2, 7] [(9, nS)] (.seq (.r4 G [1, 2, 7, 9] [(10, nS)] (.seq (.seq (.r4 G [1, 2, 7, 9, 10] [(25, ag f.Height), (26, ag 0)] (.block ?_))))))))
 replace hr := bd hr; obtain ⟨A, y, hr⟩ := hr
 refine .aP (σ := fun J => match J with | (q, s, e) => ⟨mkS 57 0 [(1, slT aj.c p), (2, .hp 0 0), (7, .hp 1 0), (9, .hs 2 0 q.length 2), (10, .hs 3 0 s.length 1), (25, ag f.Height), (26, ag e)], [.own (ak.c f), .own (aG.c w.1), .own (q.flatMap ah.c), .own (s.flatMap (iC .u64))]⟩) (Q := fun x st' => match (generalizing := false) A with | (g, i) => x = .exit 0 /\ Wk 0 st' ⟨mkS 57 0 [(9, .hs 0 0 g.length 2), (10, .hs 1 0 i.length 1)], [.own (g.flatMap ah.c), .own (i.flatMap (iC .u64))]⟩) y ((Wk.nil 9 2 kRf).trans ((Wk.nil 10 1 kRf).trans ((Wk.gc [1, 2, 7, 9, 10, 25, 26] [(0, true), (1, true), (2, false), (3, false)] rfl (pKt (pKt (pKc (pKc trivial))))).to))) ?_ ?_
 ·clear hr
  rintro m ⟨q, s, e⟩ hr
  refine CQ.sh ?_
  refine .seq (.r4 G [1, 2, 7, 9, 10, 25, 26] [(27, aB (decide (e < f.Height)))] (.seq ?_))
  refine .cd hr ?_ ?_ <;> intro L hr
  ·refine .skip (.seq (.block (.seq (.r4 G [1, 2, 7, 9, 10, 25, 26] [(11, ag e)] (.seq (.r4 G [1, 2, 7, 9, 10, 11, 25, 26] [(30, ag f.Width), (31, ag 0)] (.block ?_)))))))
   replace hr := bd hr; obtain ⟨B, z, hr⟩ := hr
   refine .aP (σ := fun J => match J with | (b, d, a) => ⟨mkS 57 0 [(1, slT aj.c p), (2, .hp 0 0), (7, .hp 1 0), (9, .hs 2 0 b.length 2), (10, .hs 3 0 d.length 1), (11, ag e), (25, ag f.Height), (26, ag e), (30, ag f.Width), (31, ag a)], [.own (ak.c f), .own (aG.c w.1), .own (b.flatMap ah.c), .own (d.flatMap (iC .u64))]⟩) (Q := fun x st' => match (generalizing := false) B with | (j, k) => x = .exit 2 /\ Wk 0 st' ⟨mkS 57 0 [(1, slT aj.c p), (2, .hp 0 0), (7, .hp 1 0), (9, .hs 2 0 j.length 2), (10, .hs 3 0 k.length 1), (25, ag f.Height), (26, ag e)], [.own (ak.c f), .own (aG.c w.1), .own (j.flatMap ah.c), .own (k.flatMap (iC .u64))]⟩) z ((Wk.gc [1, 2, 7, 9, 10, 11, 25, 26, 30, 31] [(0, true), (1, true), (2, false), (3, false)] rfl (pKt (pKt (pKo ah.c ah.pure q (pKo (iC .u64) (an _) s trivial))))).to) ?_ ?_
   ·clear hr
    rintro m ⟨b, d, a⟩ hr
    refine CQ.sh ?_
    refine .seq (.r4 G [1, 2, 7, 9, 10, 11, 25, 26, 30, 31] [(32, aB (decide (a < f.Width)))] (.seq ?_))
    refine .cd hr ?_ ?_ <;> intro M hr
    ·refine .skip (.seq (.block (.seq (.r4 G [1, 2, 7, 9, 10, 11, 25, 26, 30, 31] [(12, ag a)] (.seq ?_)))))
     obtain ⟨o, C, hr⟩ := bd hr
     refine .g1 G (ok0 (iF n w.1 p a e o C)) (.mu 4 (.ca cf0 (.mu 5 (.done (.nh [1, 2, 7, 9, 10, 11, 12, 13, 14, 25, 26, 30, 31] [.own (ak.c f), .own (aG.c w.1), .own (b.flatMap ah.c), .own (d.flatMap (iC .u64))] (.seq (.r4 G [1, 2, 7, 9, 10, 11, 12, 13, 25, 26, 30, 31] [(42, aB o.2)] ?_)))))))
     refine .cd hr ?_ ?_ <;> intro N hr
     ·obtain ⟨D, E, F, hr⟩ := gd3 hr
      obtain ⟨H, hr⟩ := gd hr
      refine .r0 G (.mu 5 (.e0 (v := .hs 5 0 (b ++ [ah.mk a e]).length 2) (ws := [(2, .dead), (5, .own ((b ++ [ah.mk a e]).flatMap ah.c))]) (tr (dm (new := [ag a, ag e]) (l := b) (xs := [ah.mk a e]) ah.len rfl rfl kRf D E)) (.mu 3 (.e0 (v := .hs 7 0 (d ++ [o.1]).length 1) (ws := [(3, .dead), (7, .own ((d ++ [o.1]).flatMap (iC .u64)))]) (tr (dm (new := [aV o.1]) (l := d) (xs := [o.1]) (ay .u64) rfl rfl kRf F H)) (.mu 2 (.done (.pop (.ru G ?_))))))))
      exact aF (b ++ [ah.mk a e], d ++ [o.1], Ew (a + 1)) hr ((Wk.gc [1, 2, 7, 9, 10, 11, 25, 26, 30, 31] [(0, true), (1, true), (5, false), (7, false)] rfl (pKt (pKt (pKo ah.c ah.pure (b ++ [ah.mk a e]) (pKo (iC .u64) (an _) (d ++ [o.1]) trivial))))).to)
     refine .skip (.pop (.ru G ?_))
     exact aF (b, d, Ew (a + 1)) hr ((Wk.gc [1, 2, 7, 9, 10, 11, 25, 26, 30, 31] [(0, true), (1, true), (2, false), (3, false)] rfl (pKt (pKt (pKo ah.c ah.pure b (pKo (iC .u64) (an _) d trivial))))).to)
    refine .leave rfl ?_
    obtain rfl := oi hr
    exact ⟨rfl, ((Wk.gc [1, 2, 7, 9, 10, 25, 26] [(0, true), (1, true), (2, false), (3, false)] rfl (pKt (pKt (pKo ah.c ah.pure b (pKo (iC .u64) (an _) d trivial))))).to)⟩
   rcases B with ⟨j, k⟩
   rintro x st' t
   clear z
   obtain ⟨rfl, t⟩ := t
   refine a8 _ rfl (.pop (.wk t (.ru G ?_)))
   exact aF (j, k, Ew (e + 1)) hr ((Wk.gc [1, 2, 7, 9, 10, 25, 26] [(0, true), (1, true), (2, false), (3, false)] rfl (pKt (pKt (pKo ah.c ah.pure j (pKo (iC .u64) (an _) k trivial))))).to)
  refine .leave rfl ?_
  obtain rfl := oi hr
  exact ⟨rfl, ((Wk.gc [9, 10] [(2, false), (3, false)] rfl (pKo ah.c ah.pure q (pKo (iC .u64) (an _) s trivial))).to)⟩
 rcases A with ⟨g, i⟩
 rintro x st' u
 clear y
 obtain ⟨rfl, u⟩ := u
 refine a8 _ rfl (.wk u (.seq (.r3 G 57 [(4, .hs 0 0 g.length 2), (5, .hs 1 0 i.length 1), (6, ag 0)] (.ret ?_))))
 obtain rfl := oi hr
 exact aS.ret (vs := [.hs 0 0 g.length 2, .hs 1 0 i.length 1, ag 0]) kRf (Sn.tup (SnL.cons (Sn.hs rfl (.inl rfl) (SnC.pure (aA ah.pure _)) (fun h => cZ h)) (SnL.cons (Sn.hs rfl (.inl rfl) (SnC.pure (aA (an _) _)) (fun h => cZ h)) (Sp SnL.nil))))

theorem kD (n : Nat) (d : Int) (r : Int) (hr : dH n d = some r) : bo Tryz.prog 64 [aV d] (ag r) := by
 unfold dH at hr
 refine bo.bd G Tryz.func64 [.tmp 2] ?_
 unfold Tryz.f64
 simp only [gS]
 refine .seq (.r4 G [0] [] (.seq (.r3 G 35 [(0, aV (ae .u64 ((b7 .and .u64 (d.fdiv (2 ^ 1)) 6148914691236517205) + (b7 .and .u64 d 6148914691236517205))))] ?_)))
 obtain ⟨e, f, hr⟩ := bd hr
 refine .wk ((Wk.refl _).to (c := ⟨mkS 35 0 [(0, aV e)], []⟩) (by rw [oi f]; first | done | kernel_rfl)) <| .seq <| .r3 G 35 [(0, aV (ae .u64 ((b7 .and .u64 (e.fdiv (2 ^ 2)) 3689348814741910323) + (b7 .and .u64 e 3689348814741910323))))] ?_
 obtain ⟨g, h, hr⟩ := bd hr
 refine .wk ((Wk.refl _).to (c := ⟨mkS 35 0 [(0, aV g)], []⟩) (by rw [oi h]; first | done | kernel_rfl)) <| .seq <| .r3 G 35 [(0, aV (b7 .and .u64 (ae .u64 ((g.fdiv (2 ^ 4)) + g)) 1085102592571150095))] ?_
 obtain ⟨a, i, hr⟩ := bd hr
 refine .wk ((Wk.refl _).to (c := ⟨mkS 35 0 [(0, aV a)], []⟩) (by rw [oi i]; first | done | kernel_rfl)) <| .seq <| .r3 G 35 [(0, aV (ae .u64 (a + (a.fdiv (2 ^ 8)))))] <| .seq <| .r3 G 35 [(0, aV (ae .u64 ((ae .u64 (a + (a.fdiv (2 ^ 8)))) + ((ae .u64 (a + (a.fdiv (2 ^ 8)))).fdiv (2 ^ 16)))))] ?_
 obtain ⟨b, j, hr⟩ := bd hr
 refine .wk ((Wk.refl _).to (c := ⟨mkS 35 0 [(0, aV b)], []⟩) (by rw [oi j]; first | done | kernel_rfl)) <| .seq <| .r3 G 35 [(0, aV (ae .u64 (b + (b.fdiv (2 ^ 32)))))] <| .seq <| .ru G <| .ret ?_
 obtain rfl := oi hr
 exact aS.r1 [ag (b7 .and .i64 (Ew (ae .u64 (b + (b.fdiv (2 ^ 32))))) 127)]

theorem lX (n : Nat) (a : Int) (b : Int) (r : Int) (hr : cA n a b = some r) : bo Tryz.prog 47 [aV a, aV b] (ag r) := by
 unfold cA at hr
 refine bo.bd G Tryz.func47 [.tmp 4] ?_
 unfold Tryz.f47
 simp only [gS]
 refine .seq (.r4 G [0, 1] [] (.seq ?_))
 obtain ⟨d, c, hr⟩ := bd hr
 refine .g1 G (ok0 (kD n (b7 .xor .u64 a b) d c)) (.mu 3 (.ca cf0 (.mu 1 (.done (.ret ?_)))))
 obtain rfl := oi hr
 exact aS.r1 [ag d]

theorem gB (n : Nat) (l : List Int) (w : Int) (but : Int) (r : Int × Int) (hr : dy n l w but = some r) : bo Tryz.prog 32 [slT (iC .u64) l, aV w, ag but] (.tup [ag r.1, ag r.2]) := by
 unfold dy at hr
 refine bo.bd G Tryz.func32 [.tmp 6, .tmp 7] ?_
 unfold Tryz.f32
 simp only [gS]
 refine .seq (.r4 G [0, 1, 2] [(7, ag 0)] (.seq (.r4 G [0, 1, 2, 7] [(6, ag (-1))] (.seq (.seq (.r4 G [1, 2, 6, 7] [(11, slT (iC .u64) l), (12, ag (l.length : Int)), (13, ag 0)] (.block ?_)))))))
 replace hr := bd hr; obtain ⟨o, i, hr⟩ := hr
 refine .aP (σ := fun t => match t with | (d, h, a) => ⟨mkS 38 0 [(1, aV w), (2, ag but), (6, ag d), (7, ag h), (11, slT (iC .u64) l), (12, ag (l.length : Int)), (13, ag a)], []⟩) (Q := fun x st' => match (generalizing := false) o with | (e, f) => x = .exit 0 /\ Wk 0 st' ⟨mkS 38 0 [(6, ag e), (7, ag f)], []⟩) i ((Wk.gc [1, 2, 6, 7, 11, 12, 13] [] rfl pK0).to) ?_ ?_
 ·clear hr
  rintro m ⟨d, h, a⟩ hr
  refine CQ.sh ?_
  refine .seq (.r4 G [1, 2, 6, 7, 11, 12, 13] [(14, aB (decide (a < (l.length : Int))))] (.seq ?_))
  refine .cd hr ?_ ?_ <;> intro q hr
  ·refine .skip (.seq (.block (.seq ?_)))
   obtain ⟨j, hr⟩ := gd hr
   refine .r0 G (.mu 1 (.p0 (v := .pp (l.flatMap (iC .u64)) (a.toNat * 1)) (tr (aq j)) (.p0 (v := aV (gt l a)) (tr (aD (aC (ay .u64) (ax j) z1 (by omega : a.toNat * 1 = a.toNat * 1 + 0) kRf))) (.mu 2 (.done (.nh [1, 2, 6, 7, 8, 9, 11, 12, 13] [] (.seq ?_)))))))
   obtain ⟨k, p, hr⟩ := bd hr
   refine .g1 G (ok0 (lX n (gt l a) w k p)) (.mu 2 (.ca cf0 (.mu 1 (.done (.nh [1, 2, 6, 7, 8, 10, 11, 12, 13] [] (.seq ?_))))))
   rcases bT ((a : Int) != but) with b | b
   ·replace hr := cB b hr
    rcases bT (decide (d < 0)) with c | c
    ·replace hr := cB c hr
     refine .r0 G (.mu 2 (.p0 (v := aB true) (eB b) (.mu 2 (.pure (v := aB true) kRf (eB c) (.mu 6 (.done (.nh [1, 2, 6, 7, 8, 10, 11, 12, 13, 32] [] (.cT kRf (.ru G (.pop (.ru G ?_)))))))))))
     exact aF (a, k, Ew (a + 1)) hr ((Wk.gc [1, 2, 6, 7, 11, 12, 13] [] rfl pK0).to)
    replace hr := cC c hr
    refine .r0 G (.mu 2 (.p0 (v := aB true) (eB b) (.mu 2 (.pure (v := aB false) kRf (eB c) (.mu 6 (.done (.nh [1, 2, 6, 7, 8, 10, 11, 12, 13, 32] [] ?_)))))))
    refine .cd hr ?_ ?_ <;> intro s hr
    ·refine .ru G (.pop (.ru G ?_))
     exact aF (a, k, Ew (a + 1)) hr ((Wk.gc [1, 2, 6, 7, 11, 12, 13] [] rfl pK0).to)
    refine .skip (.pop (.ru G ?_))
    exact aF (d, h, Ew (a + 1)) hr ((Wk.gc [1, 2, 6, 7, 11, 12, 13] [] rfl pK0).to)
   replace hr := cC b hr
   refine .r0 G (.mu 2 (.p0 (v := aB false) (eB b) (.mu 9 (.done (.nh [1, 2, 6, 7, 8, 10, 11, 12, 13, 32] [] (.cF kRf (.skip (.pop (.ru G ?_)))))))))
   exact aF (d, h, Ew (a + 1)) hr ((Wk.gc [1, 2, 6, 7, 11, 12, 13] [] rfl pK0).to)
  refine .leave rfl ?_
  obtain rfl := oi hr
  exact ⟨rfl, ((Wk.gc [6, 7] [] rfl pK0).to)⟩
 rcases o with ⟨e, f⟩
 rintro x st' g
 clear i
 obtain ⟨rfl, g⟩ := g
 refine a8 _ rfl (.wk g (.seq (.ru G (.ret ?_))))
 obtain rfl := oi hr
 exact aS.ret (vs := [ag e, ag f]) kRf (Sn.tup (Sp (Sp SnL.nil)))

theorem lr {l : List Int} {w : Int} {i : Int} {d : Int} {p : Int} {b : Int} {c : List Int} {e : Int} {f : Int} {g : Int} {j : Int} {a : Int} (h : ([slT (iC .u64) l, .at (.int .u64 w), .at (.int .i64 i), .at (.int .i64 d), .pp [.at (.int .i64 p)] 0, .pp [.at (.int .i64 b)] 0] : List AV) = [slT (iC .u64) c, .at (.int .u64 e), .at (.int .i64 f), .at (.int .i64 g), .pp [.at (.int .i64 j)] 0, .pp [.at (.int .i64 a)] 0]) : l = c /\ w = e /\ i = f /\ d = g /\ p = j /\ b = a := by
 simp only [List.cons.injEq, AV.agg.injEq, AV.at.injEq, Value.int.injEq, Value.bool.injEq, AV.fn.injEq, AV.pp.injEq, true_and, and_true, uu] at h
 simp_all
theorem lQ (n : Nat) {l : List Int} {w : Int} {i : Int} {d : Int} {p : Int} {b : Int} {c : List Int} {e : Int} {f : Int} {g : Int} {j : Int} {a : Int} (h : ([slT (iC .u64) l, .at (.int .u64 w), .at (.int .i64 i), .at (.int .i64 d), .pp [.at (.int .i64 p)] 0, .pp [.at (.int .i64 b)] 0] : List AV) = [slT (iC .u64) c, .at (.int .u64 e), .at (.int .i64 f), .at (.int .i64 g), .pp [.at (.int .i64 j)] 0, .pp [.at (.int .i64 a)] 0]) : cG n l w i d p b = cG n c e f g j a := by
 obtain ⟨rfl, rfl, rfl, rfl, rfl, rfl⟩ := lr h
 rfl
theorem fN (n : Nat) (l : List Int) (w : Int) (i : Int) (d : Int) (p : Int) (b : Int) (r : Bool) (hr : cG n l w i d p b = some r) : bo Tryz.prog 31 [slT (iC .u64) l, aV w, ag i, ag d, .pp [ag p] 0, .pp [ag b] 0] (aB r) := by
 unfold cG at hr
 refine bo.bd G Tryz.func31 [.tmp 10] ?_
 unfold Tryz.f31
 simp only [gS]
 refine .seq (.r4 G [0, 1, 2, 3, 4, 5] [] (.seq ?_))
 obtain ⟨c, e, hr⟩ := bd hr
 refine .g1 G (ok0 (gB n l w i c e)) (.mu 3 (.ca cf0 (.mu 5 (.done (.nh [3, 4, 5, 11, 12] [] (.seq ?_))))))
 rcases bT (decide (c.1 < 0)) with a | a
 ·replace hr := cB a hr
  refine .r0 G (.mu 1 (.p0 (v := aB true) (eB a) (.mu 10 (.done (.ret ?_)))))
  obtain rfl := oi hr
  exact aS.r1 [aB true]
 replace hr := cC a hr
 refine .r0 G (.mu 1 (.p0 (v := aB false) (eB a) (.mu 10 (.done (.ret ?_)))))
 obtain rfl := oi hr
 exact aS.r1 [aB (decide ((Ew (d * p)) <= (Ew (b * c.2))))]
end Go.L
