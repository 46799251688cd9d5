
import Derived.Test.YtecdcgfclgmbpaaGreatPlcLD
import Derived.Test.YtecdcgfclgmbpaaGreatL0Plcs
import Derived.Test.YtecdcgfclgmbpaaGreatChecked
import Derived.KernelRfl
set_option linter.all false
set_option maxRecDepth 100000
set_option maxHeartbeats 4000000
namespace Go.L
open Go Go.Eng Go.Proofs
theorem fE (n : Nat) (r : an) (hr : dC n = some r) : aN Tryz.prog 43 [] (.agg (an.c r)) := by
 unfold dC at hr
 refine aN.bd G Tryz.func43 [.cell 0 24] ?_
 unfold Tryz.f43
 simp only [gS]
 refine .seq (.r2 G 3 [(0, .hp 0 0)] [.own [ae 0, ae 0, ae 0, ae 0, ae 0, nS]] (.seq (.r5 G [0] [] [.own [ae 0, ae 0, ae 2, ae 3, ae 3, .hs 1 0 9 1], .own [ae 0, ae 0, ae 0, ae 0, ae 4, ae 0, ae 0, ae 0, ae 0]] (.ret ?_))))
 obtain rfl := oi hr
 exact aJ.ret (vs := [.agg [ae 0, ae 0, ae 2, ae 3, ae 3, .hs 1 0 9 1]]) (by kernel_rfl) (Sn.agg (Sp (Sp (Sp (Sp (Sp (SnL.cons (Sn.hs rfl (.inl rfl) (SnC.cons (Sn.pure rfl) (SnC.cons (Sn.pure rfl) (SnC.cons (Sn.pure rfl) (SnC.cons (Sn.pure rfl) (SnC.cons (Sn.pure rfl) (SnC.cons (Sn.pure rfl) (SnC.cons (Sn.pure rfl) (SnC.cons (Sn.pure rfl) (SnC.cons (Sn.pure rfl) SnC.nil))))))))) (fun h => nomatch h)) SnL.nil)))))))

theorem ei {n' : Int} {n'_ : Int} (h : ([.at (.int .i64 n')] : List AV) = [.at (.int .i64 n'_)]) : n' = n'_ := by
 simp only [List.cons.injEq, AV.agg.injEq, AV.at.injEq, Value.int.injEq, Value.bool.injEq, AV.fn.injEq, AV.pp.injEq, true_and, and_true] at h
 simp_all
theorem fA (n : Nat) {n' : Int} {n'_ : Int} (h : ([.at (.int .i64 n')] : List AV) = [.at (.int .i64 n'_)]) : fq n n' = fq n n'_ := by
 obtain rfl := ei h
 rfl
theorem b6 (n : Nat) (n' : Int) (r : Bool) (hr : fq n n' = some r) : aN Tryz.prog 103 [ae n'] (aB r) := by
 unfold fq at hr
 refine aN.bd G Tryz.func103 [.tmp 2] ?_
 unfold Tryz.f103
 simp only [gS]
 refine .seq (.r4 G [0] [] (.seq ?_))
 rcases bT (decide (n' >= 2)) with hb1 | hb1
 ·replace hr := cy hb1 hr
  refine .r0 G (.mu 1 (.p0 (v := aB true) (eB hb1) (.mu 5 (.done (.ret ?_)))))
  obtain rfl := oi hr
  exact aJ.r1 [aB (decide (n' <= 64))]
 replace hr := cA hb1 hr
 refine .r0 G (.mu 1 (.p0 (v := aB false) (eB hb1) (.mu 5 (.done (.ret ?_)))))
 obtain rfl := oi hr
 exact aJ.r1 [aB false]

theorem uf (n : Nat) {n' : Int} {n'_ : Int} (h : ([.at (.int .i64 n')] : List AV) = [.at (.int .i64 n'_)]) : iT n n' = iT n n'_ := by
 obtain rfl := ei h
 rfl
theorem kQ (n : Nat) (n' : Int) (r : Bool) (hr : iT n n' = some r) : aN Tryz.prog 104 [ae n'] (aB r) := by
 unfold iT at hr
 refine aN.bd G Tryz.func104 [.tmp 2] ?_
 unfold Tryz.f104
 simp only [gS]
 refine .seq (.r4 G [0] [] (.seq ?_))
 rcases bT (decide (n' < (-1048576))) with hb1 | hb1
 ·replace hr := cy hb1 hr
  refine .r0 G (.mu 1 (.p0 (v := aB true) (eB hb1) (.mu 5 (.done (.ret ?_)))))
  obtain rfl := oi hr
  exact aJ.r1 [aB true]
 replace hr := cA hb1 hr
 refine .r0 G (.mu 1 (.p0 (v := aB false) (eB hb1) (.mu 5 (.done (.ret ?_)))))
 obtain rfl := oi hr
 exact aJ.r1 [aB (decide (n' > 1048576))]

theorem qV (n : Nat) (z : Int) (r : Bool) (hr : jj n z = some r) : aN Tryz.prog 106 [ae z] (aB r) := by
 unfold jj at hr
 refine aN.bd G Tryz.func106 [.tmp 2] ?_
 unfold Tryz.f106
 simp only [gS]
 refine .seq (.r4 G [0] [] (.seq ?_))
 rcases bT ((z : Int) != (-2147483648)) with hb1 | hb1
 ·replace hr := cy hb1 hr
  obtain ⟨v2, hc3, hr⟩ := bd hr
  refine .g1 G (ok0 (kQ n z v2 hc3)) (.mu 1 (.p0 (v := aB true) (eB hb1) (.mu 2 (.ca cf0 (.mu 2 (.done (.ret ?_)))))))
  obtain rfl := oi hr
  exact aJ.r1 [aB v2]
 replace hr := cA hb1 hr
 refine .r0 G (.mu 1 (.p0 (v := aB false) (eB hb1) (.mu 5 (.done (.ret ?_)))))
 obtain rfl := oi hr
 exact aJ.r1 [aB false]

theorem iv (n : Nat) (s : List Int) (r : Int) (hr : cr n s = some r) : aN Tryz.prog 146 [bG s, .fn 106 [] []] (ae r) := by
 unfold cr at hr
 refine aN.bd G Tryz.func146 [.tmp 4] ?_
 unfold Tryz.f146
 simp only [gS]
 refine .seq (.r4 G [0, 1] [] (.seq (.seq (.r4 G [0, 1] [(7, ae (s.length : Int)), (8, ae 0)] (.block ?_)))))
 replace hr := bd hr; obtain ⟨o13, hL14, hr⟩ := hr
 refine .aO (σ := fun z0 => match z0 with | x_1 => ⟨mkS 19 0 [(0, bG s), (1, .fn 106 [] []), (7, ae (s.length : Int)), (8, ae x_1)], []⟩) (Q := fun x st' => match (generalizing := false) o13 with | .inl _ => x = .exit 0 /\ Wk 0 st' ⟨mkS 19 0 [], []⟩ | .inr (r0) => x = .ret /\ aJ Tryz.prog [.tmp 4] (ae r0) .ret st') hL14 ((Wk.gc [0, 1, 7, 8] [] rfl pK0).to) ?_ ?_
 ·clear hr
  rintro m x_1 hr
  show CQ _ _ _ _ _ ⟨_, _⟩
  refine .seq (.r4 G [0, 1, 7, 8] [(9, aB (decide (x_1 < (s.length : Int))))] (.seq ?_))
  refine .cd hr ?_ ?_ <;> intro hb8 hr
  ·refine .skip (.seq (.block (.seq (.r4 G [0, 1, 7, 8] [(5, ae x_1)] (.seq ?_)))))
   obtain ⟨hg9, hr⟩ := gd hr
   obtain ⟨v10, hc11, hr⟩ := bd hr
   refine .g1 G (ok0 (qV n (gt s x_1) v10 hc11)) (.mu 3 (.p0 (v := .pp (s.flatMap (iC .i64)) (x_1.toNat * 1)) (tr (ar hg9)) (.p0 (v := ae (gt s x_1)) (tr (aH (aK (aI .i64) (aD hg9) z1 (by omega : x_1.toNat * 1 = x_1.toNat * 1 + 0) (by kernel_rfl)))) (.ca cf0 (.done (.nh [0, 1, 5, 7, 8, 16] [] ?_))))))
   refine .cd hr ?_ ?_ <;> intro hb12 hr
   ·refine .seq (.ru G (.ret ?_))
    obtain rfl := oi hr
    exact ⟨rfl, aJ.ret (vs := [ae x_1]) (by kernel_rfl) (Sn.pure rfl)⟩
   refine .skip (.pop (.ru G ?_))
   exact aA (CT (x_1 + 1)) hr ((Wk.gc [0, 1, 7, 8] [] rfl pK0).to)
  refine .leave rfl ?_
  obtain rfl := oi hr
  exact ⟨rfl, ((Wk.gc [] [] rfl pK0).to)⟩
 rcases o13 with ⟨⟩ | r0
 ·rintro x st' hq15
  clear hL14
  obtain ⟨rfl, hq15⟩ := hq15
  refine a9 _ rfl (.wk hq15 (.seq (.ru G (.ret ?_))))
  obtain rfl := oi hr
  exact aJ.r1 [ae (-1)]
 rintro x st' hq15
 clear hL14
 obtain ⟨rfl, hq15⟩ := hq15
 obtain rfl := oi hr
 exact iK _ hq15

theorem gM (n : Nat) (s : List Int) (r : Bool) (hr : bz n s = some r) : aN Tryz.prog 105 [bG s, .fn 106 [] []] (aB r) := by
 unfold bz at hr
 refine aN.bd G Tryz.func105 [.tmp 4] ?_
 unfold Tryz.f105
 simp only [gS]
 refine .seq (.r4 G [0, 1] [] (.seq ?_))
 obtain ⟨v1, hc2, hr⟩ := bd hr
 refine .g1 G (ok0 (iv n s v1 hc2)) (.mu 2 (.ca cf0 (.mu 2 (.done (.ret ?_)))))
 obtain rfl := oi hr
 exact aJ.r1 [aB (decide (v1 >= 0))]

theorem lJ (n : Nat) (g : an) (r : Int) (hr : iy n g = some r) : aN Tryz.prog 58 [.agg (an.c g)] (ae r) := by
 unfold iy at hr
 refine aN.bd G Tryz.func58 [.tmp 2] ?_
 unfold Tryz.f58
 simp only [gS]
 refine .seq (.r2 G 54 [(1, .hp 0 0)] [.own (an.c g)] (.seq (.r4 G [1] [(3, .fn 103 [] [])] (.seq (.seq ?_)))))
 obtain ⟨v1, hc2, hr⟩ := bd hr
 rcases bT (!v1) with hb3 | hb3
 ·replace hr := cy hb3 hr
  refine .g1 G (ok0 (b6 n g.Width v1 hc2)) (.mu 3 (.ca cf0 (.p0 (v := aB true) (eB hb3) (.mu 33 (.done (.nh [1, 41] [.own (an.c g)] (.cT (by kernel_rfl) (.seq (.ru G (.ret ?_))))))))))
  obtain rfl := oi hr
  exact aJ.r1 [ae 2]
 replace hr := cA hb3 hr
 obtain ⟨v4, hc5, hr⟩ := bd hr
 rcases bT (!v4) with hb6 | hb6
 ·replace hr := cy hb6 hr
  refine .gn G (ca1 (ok0 (b6 n g.Width v1 hc2)) (ca3 (ok0 (b6 n g.Height v4 hc5)))) (.mu 3 (.ca cf0 (.p0 (v := aB false) (eB hb3) (.mu 4 (.ca (cfA (fun h => by rw [sv hc5 hc2 (fA n h)]) cf0) (.pure (v := aB true) (by kernel_rfl) (eB hb6) (.mu 27 (.done (.nh [1, 41] [.own (an.c g)] (.cT (by kernel_rfl) (.seq (.ru G (.ret ?_)))))))))))))
  obtain rfl := oi hr
  exact aJ.r1 [ae 2]
 replace hr := cA hb6 hr
 rcases bT (decide (g.Step < 2)) with hb7 | hb7
 ·replace hr := cy hb7 hr
  refine .gn G (ca1 (ok0 (b6 n g.Width v1 hc2)) (ca3 (ok0 (b6 n g.Height v4 hc5)))) (.mu 3 (.ca cf0 (.p0 (v := aB false) (eB hb3) (.mu 4 (.ca (cfA (fun h => by rw [sv hc5 hc2 (fA n h)]) cf0) (.pure (v := aB false) (by kernel_rfl) (eB hb6) (.mu 4 (.pure (v := aB true) (by kernel_rfl) (eB hb7) (.mu 22 (.done (.nh [1, 41] [.own (an.c g)] (.cT (by kernel_rfl) (.seq (.ru G (.ret ?_)))))))))))))))
  obtain rfl := oi hr
  exact aJ.r1 [ae 2]
 replace hr := cA hb7 hr
 rcases bT (decide (g.Step > 65536)) with hb8 | hb8
 ·replace hr := cy hb8 hr
  refine .gn G (ca1 (ok0 (b6 n g.Width v1 hc2)) (ca3 (ok0 (b6 n g.Height v4 hc5)))) (.mu 3 (.ca cf0 (.p0 (v := aB false) (eB hb3) (.mu 4 (.ca (cfA (fun h => by rw [sv hc5 hc2 (fA n h)]) cf0) (.pure (v := aB false) (by kernel_rfl) (eB hb6) (.mu 4 (.pure (v := aB false) (by kernel_rfl) (eB hb7) (.mu 4 (.pure (v := aB true) (by kernel_rfl) (eB hb8) (.mu 17 (.done (.nh [1, 41] [.own (an.c g)] (.cT (by kernel_rfl) (.seq (.ru G (.ret ?_)))))))))))))))))
  obtain rfl := oi hr
  exact aJ.r1 [ae 2]
 replace hr := cA hb8 hr
 rcases bT (((g.Step.tmod 2) : Int) != 0) with hb9 | hb9
 ·replace hr := cy hb9 hr
  refine .gn G (ca1 (ok0 (b6 n g.Width v1 hc2)) (ca3 (ok0 (b6 n g.Height v4 hc5)))) (.mu 3 (.ca cf0 (.p0 (v := aB false) (eB hb3) (.mu 4 (.ca (cfA (fun h => by rw [sv hc5 hc2 (fA n h)]) cf0) (.pure (v := aB false) (by kernel_rfl) (eB hb6) (.mu 4 (.pure (v := aB false) (by kernel_rfl) (eB hb7) (.mu 4 (.pure (v := aB false) (by kernel_rfl) (eB hb8) (.mu 5 (.pure (v := aB true) (by kernel_rfl) (eB hb9) (.mu 11 (.done (.nh [1, 41] [.own (an.c g)] (.cT (by kernel_rfl) (.seq (.ru G (.ret ?_)))))))))))))))))))
  obtain rfl := oi hr
  exact aJ.r1 [ae 2]
 replace hr := cA hb9 hr
 obtain ⟨v10, hc11, hr⟩ := bd hr
 rcases bT v10 with hb12 | hb12
 ·subst hb12
  replace hr := cy rfl hr
  refine .gn G (ca1 (ok0 (b6 n g.Width v1 hc2)) (ca1 (ok0 (b6 n g.Height v4 hc5)) (ca3 (ok0 (kQ n g.X0 true hc11))))) (.mu 3 (.ca cf0 (.p0 (v := aB false) (eB hb3) (.mu 4 (.ca (cfA (fun h => by rw [sv hc5 hc2 (fA n h)]) cf0) (.pure (v := aB false) (by kernel_rfl) (eB hb6) (.mu 4 (.pure (v := aB false) (by kernel_rfl) (eB hb7) (.mu 4 (.pure (v := aB false) (by kernel_rfl) (eB hb8) (.mu 5 (.pure (v := aB false) (by kernel_rfl) (eB hb9) (.mu 4 (.ca (cfF (cfF cf0)) (.mu 6 (.done (.nh [1, 41] [.own (an.c g)] (.cT (by kernel_rfl) (.seq (.ru G (.ret ?_)))))))))))))))))))))
  obtain rfl := oi hr
  exact aJ.r1 [ae 2]
 subst hb12
 replace hr := cA rfl hr
 obtain ⟨v13, hc14, hr⟩ := bd hr
 refine .gn G (ca1 (ok0 (b6 n g.Width v1 hc2)) (ca1 (ok0 (b6 n g.Height v4 hc5)) (ca1 (ok0 (kQ n g.X0 false hc11)) (ca3 (ok0 (kQ n g.Y0 v13 hc14)))))) (.mu 3 (.ca cf0 (.p0 (v := aB false) (eB hb3) (.mu 4 (.ca (cfA (fun h => by rw [sv hc5 hc2 (fA n h)]) cf0) (.pure (v := aB false) (by kernel_rfl) (eB hb6) (.mu 4 (.pure (v := aB false) (by kernel_rfl) (eB hb7) (.mu 4 (.pure (v := aB false) (by kernel_rfl) (eB hb8) (.mu 5 (.pure (v := aB false) (by kernel_rfl) (eB hb9) (.mu 4 (.ca (cfF (cfF cf0)) (.mu 4 (.ca (cfF (cfF (cfA (fun h => by rw [sv hc14 hc11 (uf n h)]) cf0))) (.mu 1 (.done (.nh [1, 41] [.own (an.c g)] ?_)))))))))))))))))))
 refine .cd hr ?_ ?_ <;> intro hb15 hr
 ·refine .seq (.ru G (.ret ?_))
  obtain rfl := oi hr
  exact aJ.r1 [ae 2]
 refine .skip (.seq (.seq (.r4 G [1] [(50, aB (((g.Z.length : Int) : Int) != (CT (g.Width * g.Height))))] ?_)))
 refine .cd hr ?_ ?_ <;> intro hb16 hr
 ·refine .seq (.ru G (.ret ?_))
  obtain rfl := oi hr
  exact aJ.r1 [ae 4]
 refine .skip (.seq (.seq ?_))
 obtain ⟨v17, hc18, hr⟩ := bd hr
 refine .g1 G (ok0 (gM n g.Z v17 hc18)) (.mu 2 (.ca cf0 (.done (.nh [53] [.own (an.c g)] ?_))))
 refine .cd hr ?_ ?_ <;> intro hb19 hr
 ·refine .seq (.ru G (.ret ?_))
  obtain rfl := oi hr
  exact aJ.r1 [ae 2]
 refine .skip (.seq (.ru G (.ret ?_)))
 obtain rfl := oi hr
 exact aJ.r1 [ae 0]

theorem jv (n : Nat) (g : an) (level : Int) (r : Int) (hr : gF n g level = some r) : aN Tryz.prog 44 [.agg (an.c g), ae level] (ae r) := by
 unfold gF at hr
 refine aN.bd G Tryz.func44 [.tmp 4] ?_
 unfold Tryz.f44
 simp only [gS]
 refine .seq (.r5 G [1] [(2, .hp 0 0)] [.own (an.c g)] (.seq (.seq ?_)))
 obtain ⟨v1, hc2, hr⟩ := bd hr
 refine .g1 G (ok0 (lJ n g v1 hc2)) (.mu 1 (.ca cf0 (.mu 1 (.done (.nh [1, 5] [.own (an.c g)] (.seq (.r4 G [1, 5] [(9, aB ((v1 : Int) != 0))] ?_)))))))
 refine .cd hr ?_ ?_ <;> intro hb4 hr
 ·refine .seq (.ru G (.ret ?_))
  obtain rfl := oi hr
  exact aJ.r1 [ae v1]
 refine .skip (.seq (.seq (.r4 G [1] [(13, aB (((level.tmod 2) : Int) == 0))] ?_)))
 refine .cd hr ?_ ?_ <;> intro hb5 hr
 ·refine .seq (.ru G (.ret ?_))
  obtain rfl := oi hr
  exact aJ.r1 [ae 1]
 refine .skip (.seq (.seq ?_))
 rcases bT (decide (level < (-2097153))) with hb6 | hb6
 ·replace hr := cy hb6 hr
  refine .r0 G (.mu 1 (.p0 (v := aB true) (eB hb6) (.mu 4 (.done (.nh [19] [.own (an.c g)] (.cT (by kernel_rfl) (.seq (.ru G (.ret ?_)))))))))
  obtain rfl := oi hr
  exact aJ.r1 [ae 2]
 replace hr := cA hb6 hr
 refine .r0 G (.mu 1 (.p0 (v := aB false) (eB hb6) (.mu 4 (.done (.nh [19] [.own (an.c g)] ?_)))))
 refine .cd hr ?_ ?_ <;> intro hb7 hr
 ·refine .seq (.ru G (.ret ?_))
  obtain rfl := oi hr
  exact aJ.r1 [ae 2]
 refine .skip (.seq (.ru G (.ret ?_)))
 obtain rfl := oi hr
 exact aJ.r1 [ae 0]

theorem qC {k : Int} {p : Int} {p' : Int} {p'' : Int} {cU : Int} {bx : Int} {aP : List Int} {aR : Int} {k_ : Int} {p_ : Int} {p'_ : Int} {p''_ : Int} {p'''_ : Int} {p''''_ : Int} {p'''''_ : List Int} {p''''''_ : Int} (h : ([.at (.int .i64 k), .pp [.at (.int .i64 p), .at (.int .i64 p'), .at (.int .i64 p''), .at (.int .i64 cU), .at (.int .i64 bx), slT (iC .i64) aP] 0, .pp [.at (.int .i64 aR)] 0] : List AV) = [.at (.int .i64 k_), .pp [.at (.int .i64 p_), .at (.int .i64 p'_), .at (.int .i64 p''_), .at (.int .i64 p'''_), .at (.int .i64 p''''_), slT (iC .i64) p'''''_] 0, .pp [.at (.int .i64 p''''''_)] 0]) : k = k_ /\ p = p_ /\ p' = p'_ /\ p'' = p''_ /\ cU = p'''_ /\ bx = p''''_ /\ aP = p'''''_ /\ aR = p''''''_ := by
 simp only [List.cons.injEq, AV.agg.injEq, AV.at.injEq, Value.int.injEq, Value.bool.injEq, AV.fn.injEq, AV.pp.injEq, true_and, and_true, eU] at h
 simp_all
theorem kj (n : Nat) {k : Int} {p : Int} {p' : Int} {p'' : Int} {cU : Int} {bx : Int} {aP : List Int} {aR : Int} {k_ : Int} {p_ : Int} {p'_ : Int} {p''_ : Int} {p'''_ : Int} {p''''_ : Int} {p'''''_ : List Int} {p''''''_ : Int} (h : ([.at (.int .i64 k), .pp [.at (.int .i64 p), .at (.int .i64 p'), .at (.int .i64 p''), .at (.int .i64 cU), .at (.int .i64 bx), slT (iC .i64) aP] 0, .pp [.at (.int .i64 aR)] 0] : List AV) = [.at (.int .i64 k_), .pp [.at (.int .i64 p_), .at (.int .i64 p'_), .at (.int .i64 p''_), .at (.int .i64 p'''_), .at (.int .i64 p''''_), slT (iC .i64) p'''''_] 0, .pp [.at (.int .i64 p''''''_)] 0]) : dT n k p p' p'' cU bx aP aR = dT n k_ p_ p'_ p''_ p'''_ p''''_ p'''''_ p''''''_ := by
 obtain ⟨rfl, rfl, rfl, rfl, rfl, rfl, rfl, rfl⟩ := qC h
 rfl
theorem dw (n : Nat) (k : Int) (p : Int) (p' : Int) (p'' : Int) (cU : Int) (bx : Int) (aP : List Int) (aR : Int) (r : Bool) (hr : dT n k p p' p'' cU bx aP aR = some r) : aN Tryz.prog 88 [ae k, .pp [ae p, ae p', ae p'', ae cU, ae bx, bG aP] 0, .pp [ae aR] 0] (aB r) := by
 unfold dT at hr
 refine aN.bd G Tryz.func88 [.tmp 4] ?_
 unfold Tryz.f88
 simp only [gS]
 refine .seq (.r4 G [0, 1, 2] [] (.seq ?_))
 obtain ⟨hg1, hr⟩ := gd hr
 refine .eK G bW (.mu 3 (.pure (v := .pp (aP.flatMap (iC .i64)) (k.toNat * 1)) (by kernel_rfl) (tr (ar hg1)) (by kernel_rfl) (.pure (v := ae (gt aP k)) (by kernel_rfl) (tr (aH (aK (aI .i64) (aD hg1) z1 (by omega : k.toNat * 1 = k.toNat * 1 + 0) (by kernel_rfl)))) (by kernel_rfl) (.mu 4 ?_))))
 refine .done ⟨by kernel_rfl, ?_⟩
 refine .ret ?_
 obtain rfl := oi hr
 exact aJ.r1 [aB (decide ((CT (2 * (gt aP k))) > aR))]

theorem kL (n : Nat) (a : Int) (b : Int) (r : A2 Int) (hr : jE n a b = some r) : aN Tryz.prog 91 [ae a, ae b] (.agg [ae r.e0, ae r.e1]) := by
 unfold jE at hr
 refine aN.bd G Tryz.func91 [.cell 4 101] ?_
 unfold Tryz.f91
 simp only [gS]
 refine .seq (.r5 G [0, 1] [(4, .hp 0 0)] [.own [ae 0, ae 0]] (.seq (.r5 G [4] [] [.own [ae (mn a b), ae (mx a b)]] (.ret ?_))))
 obtain rfl := oi hr
 exact aJ.r1 [.agg [ae (mn a b), ae (mx a b)]]

theorem p9 (n : Nat) (t : A3 Int) (c : Int) (c' : Int) (c'' : Int) (c8 : Int) (bH : Int) (bg : List Int) (aW : Int) (p : List (A2 Int × A2 Int)) (p' : List (A2 Int × Bool)) (r : List (A2 Int × A2 Int) × List (A2 Int × Bool)) (hr : kJ n t c c' c'' c8 bH bg aW p p' = some r) : ef 5 Tryz.prog 90 [.agg [ae t.e0, ae t.e1, ae t.e2], .hp 0 0, .hp 3 0, .hp 4 0] [.own [.fn 88 [] [.hp 1 0, .hp 2 0]], .own [ae c, ae c', ae c'', ae c8, ae bH, bG bg], .own [ae aW], .own [.mp 5], .own [.mp 6], .map (p.map (mpK av.K (gA aj.c))), .map (p'.map (mpK av.K bA))] (.tup []) [.own [.fn 88 [] [.hp 1 0, .hp 2 0]], .own [ae c, ae c', ae c'', ae c8, ae bH, bG bg], .own [ae aW], .own [.mp 5], .own [.mp 6], .map (r.1.map (mpK av.K (gA aj.c))), .map (r.2.map (mpK av.K bA))] := by
 unfold kJ at hr
 refine ef.kE G Tryz.func90 (c := (Tryz.f90.body).getD .skip) rfl (us := []) (s := mkS 55 0 [(0, .agg [ae t.e0, ae t.e1, ae t.e2]), (1, .hp 0 0), (2, .hp 3 0), (3, .hp 4 0)]) (by kernel_rfl) (rs := []) rfl ?_
 unfold Tryz.f90
 simp only [gS]
 refine .seq (.r5 G [1, 2, 3] [(4, .hp 7 0)] [.own [.fn 88 [] [.hp 1 0, .hp 2 0]], .own [ae c, ae c', ae c'', ae c8, ae bH, bG bg], .own [ae aW], .own [.mp 5], .own [.mp 6], .map (p.map (mpK av.K (gA aj.c))), .map (p'.map (mpK av.K bA)), .own [ae t.e0, ae t.e1, ae t.e2]] (.seq (.r5 G [1, 2, 3, 4] [(5, .hp 8 0), (6, .hp 9 0)] [.own [.fn 88 [] [.hp 1 0, .hp 2 0]], .own [ae c, ae c', ae c'', ae c8, ae bH, bG bg], .own [ae aW], .own [.mp 5], .own [.mp 6], .map (p.map (mpK av.K (gA aj.c))), .map (p'.map (mpK av.K bA)), .own [ae t.e0, ae t.e1, ae t.e2], .own [ae 0, ae 0], .own [ae 0, ae 0]] (.seq (.r4 G [1, 2, 3, 4, 5, 6] [(7, aB false)] (.seq (.seq (.r4 G [1, 2, 3, 4, 5, 6, 7] [(11, ae 0)] (.block ?_)))))))))
 replace hr := bd hr; obtain ⟨o143, hL144, hr⟩ := hr
 refine .aO (σ := fun z0 => match z0 with | (f_75, f_76, t_77, t_78, c_79, x_80) => ⟨mkS 55 0 [(1, .hp 0 0), (2, .hp 3 0), (3, .hp 4 0), (4, .hp 7 0), (5, .hp 8 0), (6, .hp 9 0), (7, aB c_79), (11, ae x_80)], [.own [.fn 88 [] [.hp 1 0, .hp 2 0]], .own [ae c, ae c', ae c'', ae c8, ae bH, bG bg], .own [ae aW], .own [.mp 5], .own [.mp 6], .map (p.map (mpK av.K (gA aj.c))), .map (p'.map (mpK av.K bA)), .own [ae t.e0, ae t.e1, ae t.e2], .own [ae f_75, ae f_76], .own [ae t_77, ae t_78]]⟩) (Q := fun x st' => match (generalizing := false) o143 with | (f_109, f_110, t_111, t_112, c_113) => x = .exit 0 /\ Wk 5 st' ⟨mkS 55 0 [(2, .hp 3 0), (3, .hp 4 0), (5, .hp 7 0), (6, .hp 8 0), (7, aB c_113)], [.own [.fn 88 [] [.hp 1 0, .hp 2 0]], .own [ae c, ae c', ae c'', ae c8, ae bH, bG bg], .own [ae aW], .own [.mp 5], .own [.mp 6], .map (p.map (mpK av.K (gA aj.c))), .map (p'.map (mpK av.K bA)), .own [ae f_109, ae f_110], .own [ae t_111, ae t_112]]⟩) hL144 ((Wk.gc [1, 2, 3, 4, 5, 6, 7, 11] [(0, true), (1, true), (2, true), (3, true), (4, true), (5, false), (6, false), (7, true), (8, true), (9, true)] rfl (pKt (pKt (pKt (pKt (pKt (pKM av.K (gA aj.c) (fun _ => rfl) p (pKM av.K bA (fun _ => rfl) p' trivial)))))))).to) ?_ ?_
 ·clear hr
  rintro m ⟨f_75, f_76, t_77, t_78, c_79, x_80⟩ hr
  show CQ _ _ _ _ _ ⟨_, _⟩
  refine .seq (.r4 G [1, 2, 3, 4, 5, 6, 7, 11] [(12, aB (decide (x_80 < 3)))] (.seq ?_))
  refine .cd hr ?_ ?_ <;> intro hb116 hr
  ·refine .skip (.seq (.block (.seq (.r4 G [1, 2, 3, 4, 5, 6, 7, 11] [(8, ae x_80)] (.seq ?_)))))
   obtain ⟨hg117, hg118, hr⟩ := gd2 hr
   refine .eK G bW (.mu 1 (.pure (v := .hp 7 (0 + x_80.toNat * 1)) (by kernel_rfl) (tr (ar hg117)) (by kernel_rfl) (.pure (v := ae (A3.get t x_80)) (by kernel_rfl) (tr (y := bI.ofP ([ae t.e0, ae t.e1, ae t.e2][0 + x_80.toNat * 1]?)) (aH (rL (k := .i64) (kk := 0) (xs := [t.e0, t.e1, t.e2]) hg117 rfl (by kernel_rfl)))) (by kernel_rfl) (.mu 3 (.pure (v := .hp 7 (0 + ((CT (x_80 + 1)).tmod 3).toNat * 1)) (by kernel_rfl) (tr (ar hg118)) (by kernel_rfl) (.pure (v := ae (A3.get t ((CT (x_80 + 1)).tmod 3))) (by kernel_rfl) (tr (y := bI.ofP ([ae t.e0, ae t.e1, ae t.e2][0 + ((CT (x_80 + 1)).tmod 3).toNat * 1]?)) (aH (rL (k := .i64) (kk := 0) (xs := [t.e0, t.e1, t.e2]) hg118 rfl (by kernel_rfl)))) (by kernel_rfl) (.mu 2 ?_)))))))
   refine .done ⟨by kernel_rfl, ?_⟩
   refine .nh [1, 2, 3, 4, 5, 6, 7, 9, 10, 11] [.own [.fn 88 [] [.hp 1 0, .hp 2 0]], .own [ae c, ae c', ae c'', ae c8, ae bH, bG bg], .own [ae aW], .own [.mp 5], .own [.mp 6], .map (p.map (mpK av.K (gA aj.c))), .map (p'.map (mpK av.K bA)), .own [ae t.e0, ae t.e1, ae t.e2], .own [ae f_75, ae f_76], .own [ae t_77, ae t_78]] (.block (.seq ?_))
   obtain ⟨v119, hc120, hr⟩ := bd hr
   rcases bT v119 with hb121 | hb121
   ·subst hb121
    replace hr := cy rfl hr
    obtain ⟨v122, hc123, hr⟩ := bd hr
    refine .gn G (ca1 (dQ (args := [ae (A3.get t x_80), .hp 1 0, .hp 2 0]) (l := [1, 2]) rfl (Sp (SnL.cons (Sn.hp rfl (.inl rfl) (SnC.cons (Sn.pure rfl) (SnC.cons (Sn.pure rfl) (SnC.cons (Sn.pure rfl) (SnC.cons (Sn.pure rfl) (SnC.cons (Sn.pure rfl) (SnC.cons (Sn.pure rfl) SnC.nil))))))) (SnL.cons (Sn.hp rfl (.inl rfl) (SnC.cons (Sn.pure rfl) SnC.nil)) SnL.nil))) (dw n (A3.get t x_80) c c' c'' c8 bH bg aW true hc120)) (ca3 (dQ (args := [ae (A3.get t ((CT (x_80 + 1)).tmod 3)), .hp 1 0, .hp 2 0]) (l := [1, 2]) rfl (Sp (SnL.cons (Sn.hp rfl (.inl rfl) (SnC.cons (Sn.pure rfl) (SnC.cons (Sn.pure rfl) (SnC.cons (Sn.pure rfl) (SnC.cons (Sn.pure rfl) (SnC.cons (Sn.pure rfl) (SnC.cons (Sn.pure rfl) SnC.nil))))))) (SnL.cons (Sn.hp rfl (.inl rfl) (SnC.cons (Sn.pure rfl) SnC.nil)) SnL.nil))) (dw n (A3.get t ((CT (x_80 + 1)).tmod 3)) c c' c'' c8 bH bg aW v122 hc123)))) (.mu 2 (.ca cf0 (.mu 3 (.ca (cfA (fun h => by rw [sv hc123 hc120 (kj n (show ([ae (A3.get t ((CT (x_80 + 1)).tmod 3)), .pp [ae c, ae c', ae c'', ae c8, ae bH, bG bg] 0, .pp [ae aW] 0] : List AV) = [ae (A3.get t x_80), .pp [ae c, ae c', ae c'', ae c8, ae bH, bG bg] 0, .pp [ae aW] 0] from (congr (congrArg List.cons (List.cons.inj h).1) (congr (congrArg List.cons rfl) (congr (congrArg List.cons rfl) rfl)))))]) cf0) (.mu 3 (.done (.nh [1, 2, 3, 4, 5, 6, 7, 9, 10, 11, 22] [.own [.fn 88 [] [.hp 1 0, .hp 2 0]], .own [ae c, ae c', ae c'', ae c8, ae bH, bG bg], .own [ae aW], .own [.mp 5], .own [.mp 6], .map (p.map (mpK av.K (gA aj.c))), .map (p'.map (mpK av.K bA)), .own [ae t.e0, ae t.e1, ae t.e2], .own [ae f_75, ae f_76], .own [ae t_77, ae t_78]] ?_)))))))
    refine .cd hr ?_ ?_ <;> intro hb124 hr
    ·obtain ⟨v125, hc126, hr⟩ := bd hr
     refine .g1 G (ok0 (kL n (A3.get t x_80) (A3.get t ((CT (x_80 + 1)).tmod 3)) v125 hc126)) (.mu 2 (.ca cf0 (.mu 2 (.done (.pop (.pop (.ru G ?_)))))))
     exact aA (v125.e0, v125.e1, t_77, t_78, true, CT (x_80 + 1)) hr ((Wk.gc [1, 2, 3, 4, 5, 6, 7, 11] [(0, true), (1, true), (2, true), (3, true), (4, true), (5, false), (6, false), (7, true), (8, true), (9, true)] rfl (pKt (pKt (pKt (pKt (pKt (pKM av.K (gA aj.c) (fun _ => rfl) p (pKM av.K bA (fun _ => rfl) p' trivial)))))))).to)
    refine .seq ?_
    obtain ⟨v127, hc128, hr⟩ := bd hr
    rcases bT (!v127) with hb129 | hb129
    ·replace hr := cy hb129 hr
     obtain ⟨v130, hc131, hr⟩ := bd hr
     refine .gn G (ca1 (dQ (args := [ae (A3.get t x_80), .hp 1 0, .hp 2 0]) (l := [1, 2]) rfl (Sp (SnL.cons (Sn.hp rfl (.inl rfl) (SnC.cons (Sn.pure rfl) (SnC.cons (Sn.pure rfl) (SnC.cons (Sn.pure rfl) (SnC.cons (Sn.pure rfl) (SnC.cons (Sn.pure rfl) (SnC.cons (Sn.pure rfl) SnC.nil))))))) (SnL.cons (Sn.hp rfl (.inl rfl) (SnC.cons (Sn.pure rfl) SnC.nil)) SnL.nil))) (dw n (A3.get t x_80) c c' c'' c8 bH bg aW v127 hc128)) (ca3 (dQ (args := [ae (A3.get t ((CT (x_80 + 1)).tmod 3)), .hp 1 0, .hp 2 0]) (l := [1, 2]) rfl (Sp (SnL.cons (Sn.hp rfl (.inl rfl) (SnC.cons (Sn.pure rfl) (SnC.cons (Sn.pure rfl) (SnC.cons (Sn.pure rfl) (SnC.cons (Sn.pure rfl) (SnC.cons (Sn.pure rfl) (SnC.cons (Sn.pure rfl) SnC.nil))))))) (SnL.cons (Sn.hp rfl (.inl rfl) (SnC.cons (Sn.pure rfl) SnC.nil)) SnL.nil))) (dw n (A3.get t ((CT (x_80 + 1)).tmod 3)) c c' c'' c8 bH bg aW v130 hc131)))) (.mu 2 (.ca cf0 (.p0 (v := aB true) (eB hb129) (.mu 3 (.ca (cfA (fun h => by rw [sv hc131 hc128 (kj n (show ([ae (A3.get t ((CT (x_80 + 1)).tmod 3)), .pp [ae c, ae c', ae c'', ae c8, ae bH, bG bg] 0, .pp [ae aW] 0] : List AV) = [ae (A3.get t x_80), .pp [ae c, ae c', ae c'', ae c8, ae bH, bG bg] 0, .pp [ae aW] 0] from (congr (congrArg List.cons (List.cons.inj h).1) (congr (congrArg List.cons rfl) (congr (congrArg List.cons rfl) rfl)))))]) cf0) (.mu 2 (.done (.nh [1, 2, 3, 4, 5, 6, 7, 9, 10, 11, 35] [.own [.fn 88 [] [.hp 1 0, .hp 2 0]], .own [ae c, ae c', ae c'', ae c8, ae bH, bG bg], .own [ae aW], .own [.mp 5], .own [.mp 6], .map (p.map (mpK av.K (gA aj.c))), .map (p'.map (mpK av.K bA)), .own [ae t.e0, ae t.e1, ae t.e2], .own [ae f_75, ae f_76], .own [ae t_77, ae t_78]] ?_))))))))
     refine .cd hr ?_ ?_ <;> intro hb132 hr
     ·obtain ⟨v133, hc134, hr⟩ := bd hr
      refine .g1 G (ok0 (kL n (A3.get t x_80) (A3.get t ((CT (x_80 + 1)).tmod 3)) v133 hc134)) (.mu 2 (.ca cf0 (.mu 1 (.done (.pop (.pop (.ru G ?_)))))))
      exact aA (f_75, f_76, v133.e0, v133.e1, c_79, CT (x_80 + 1)) hr ((Wk.gc [1, 2, 3, 4, 5, 6, 7, 11] [(0, true), (1, true), (2, true), (3, true), (4, true), (5, false), (6, false), (7, true), (8, true), (9, true)] rfl (pKt (pKt (pKt (pKt (pKt (pKM av.K (gA aj.c) (fun _ => rfl) p (pKM av.K bA (fun _ => rfl) p' trivial)))))))).to)
     refine .skip (.pop (.pop (.ru G ?_)))
     exact aA (f_75, f_76, t_77, t_78, c_79, CT (x_80 + 1)) hr ((Wk.gc [1, 2, 3, 4, 5, 6, 7, 11] [(0, true), (1, true), (2, true), (3, true), (4, true), (5, false), (6, false), (7, true), (8, true), (9, true)] rfl (pKt (pKt (pKt (pKt (pKt (pKM av.K (gA aj.c) (fun _ => rfl) p (pKM av.K bA (fun _ => rfl) p' trivial)))))))).to)
    replace hr := cA hb129 hr
    refine .g1 G (dQ (args := [ae (A3.get t x_80), .hp 1 0, .hp 2 0]) (l := [1, 2]) rfl (Sp (SnL.cons (Sn.hp rfl (.inl rfl) (SnC.cons (Sn.pure rfl) (SnC.cons (Sn.pure rfl) (SnC.cons (Sn.pure rfl) (SnC.cons (Sn.pure rfl) (SnC.cons (Sn.pure rfl) (SnC.cons (Sn.pure rfl) SnC.nil))))))) (SnL.cons (Sn.hp rfl (.inl rfl) (SnC.cons (Sn.pure rfl) SnC.nil)) SnL.nil))) (dw n (A3.get t x_80) c c' c'' c8 bH bg aW v127 hc128)) (.mu 2 (.ca cf0 (.p0 (v := aB false) (eB hb129) (.mu 6 (.done (.nh [1, 2, 3, 4, 5, 6, 7, 9, 10, 11, 35] [.own [.fn 88 [] [.hp 1 0, .hp 2 0]], .own [ae c, ae c', ae c'', ae c8, ae bH, bG bg], .own [ae aW], .own [.mp 5], .own [.mp 6], .map (p.map (mpK av.K (gA aj.c))), .map (p'.map (mpK av.K bA)), .own [ae t.e0, ae t.e1, ae t.e2], .own [ae f_75, ae f_76], .own [ae t_77, ae t_78]] (.cF (by kernel_rfl) (.skip (.pop (.pop (.ru G ?_)))))))))))
    exact aA (f_75, f_76, t_77, t_78, c_79, CT (x_80 + 1)) hr ((Wk.gc [1, 2, 3, 4, 5, 6, 7, 11] [(0, true), (1, true), (2, true), (3, true), (4, true), (5, false), (6, false), (7, true), (8, true), (9, true)] rfl (pKt (pKt (pKt (pKt (pKt (pKM av.K (gA aj.c) (fun _ => rfl) p (pKM av.K bA (fun _ => rfl) p' trivial)))))))).to)
   subst hb121
   replace hr := cA rfl hr
   refine .g1 G (dQ (args := [ae (A3.get t x_80), .hp 1 0, .hp 2 0]) (l := [1, 2]) rfl (Sp (SnL.cons (Sn.hp rfl (.inl rfl) (SnC.cons (Sn.pure rfl) (SnC.cons (Sn.pure rfl) (SnC.cons (Sn.pure rfl) (SnC.cons (Sn.pure rfl) (SnC.cons (Sn.pure rfl) (SnC.cons (Sn.pure rfl) SnC.nil))))))) (SnL.cons (Sn.hp rfl (.inl rfl) (SnC.cons (Sn.pure rfl) SnC.nil)) SnL.nil))) (dw n (A3.get t x_80) c c' c'' c8 bH bg aW false hc120)) (.mu 2 (.ca cf0 (.mu 7 (.done (.nh [1, 2, 3, 4, 5, 6, 7, 9, 10, 11, 22] [.own [.fn 88 [] [.hp 1 0, .hp 2 0]], .own [ae c, ae c', ae c'', ae c8, ae bH, bG bg], .own [ae aW], .own [.mp 5], .own [.mp 6], .map (p.map (mpK av.K (gA aj.c))), .map (p'.map (mpK av.K bA)), .own [ae t.e0, ae t.e1, ae t.e2], .own [ae f_75, ae f_76], .own [ae t_77, ae t_78]] (.cF (by kernel_rfl) (.seq ?_)))))))
   obtain ⟨v135, hc136, hr⟩ := bd hr
   rcases bT (!v135) with hb137 | hb137
   ·replace hr := cy hb137 hr
    obtain ⟨v138, hc139, hr⟩ := bd hr
    refine .gn G (ca1 (dQ (args := [ae (A3.get t x_80), .hp 1 0, .hp 2 0]) (l := [1, 2]) rfl (Sp (SnL.cons (Sn.hp rfl (.inl rfl) (SnC.cons (Sn.pure rfl) (SnC.cons (Sn.pure rfl) (SnC.cons (Sn.pure rfl) (SnC.cons (Sn.pure rfl) (SnC.cons (Sn.pure rfl) (SnC.cons (Sn.pure rfl) SnC.nil))))))) (SnL.cons (Sn.hp rfl (.inl rfl) (SnC.cons (Sn.pure rfl) SnC.nil)) SnL.nil))) (dw n (A3.get t x_80) c c' c'' c8 bH bg aW v135 hc136)) (ca3 (dQ (args := [ae (A3.get t ((CT (x_80 + 1)).tmod 3)), .hp 1 0, .hp 2 0]) (l := [1, 2]) rfl (Sp (SnL.cons (Sn.hp rfl (.inl rfl) (SnC.cons (Sn.pure rfl) (SnC.cons (Sn.pure rfl) (SnC.cons (Sn.pure rfl) (SnC.cons (Sn.pure rfl) (SnC.cons (Sn.pure rfl) (SnC.cons (Sn.pure rfl) SnC.nil))))))) (SnL.cons (Sn.hp rfl (.inl rfl) (SnC.cons (Sn.pure rfl) SnC.nil)) SnL.nil))) (dw n (A3.get t ((CT (x_80 + 1)).tmod 3)) c c' c'' c8 bH bg aW v138 hc139)))) (.mu 2 (.ca cf0 (.p0 (v := aB true) (eB hb137) (.mu 3 (.ca (cfA (fun h => by rw [sv hc139 hc136 (kj n (show ([ae (A3.get t ((CT (x_80 + 1)).tmod 3)), .pp [ae c, ae c', ae c'', ae c8, ae bH, bG bg] 0, .pp [ae aW] 0] : List AV) = [ae (A3.get t x_80), .pp [ae c, ae c', ae c'', ae c8, ae bH, bG bg] 0, .pp [ae aW] 0] from (congr (congrArg List.cons (List.cons.inj h).1) (congr (congrArg List.cons rfl) (congr (congrArg List.cons rfl) rfl)))))]) cf0) (.mu 2 (.done (.nh [1, 2, 3, 4, 5, 6, 7, 9, 10, 11, 35] [.own [.fn 88 [] [.hp 1 0, .hp 2 0]], .own [ae c, ae c', ae c'', ae c8, ae bH, bG bg], .own [ae aW], .own [.mp 5], .own [.mp 6], .map (p.map (mpK av.K (gA aj.c))), .map (p'.map (mpK av.K bA)), .own [ae t.e0, ae t.e1, ae t.e2], .own [ae f_75, ae f_76], .own [ae t_77, ae t_78]] ?_))))))))
    refine .cd hr ?_ ?_ <;> intro hb140 hr
    ·obtain ⟨v141, hc142, hr⟩ := bd hr
     refine .g1 G (ok0 (kL n (A3.get t x_80) (A3.get t ((CT (x_80 + 1)).tmod 3)) v141 hc142)) (.mu 2 (.ca cf0 (.mu 1 (.done (.pop (.pop (.ru G ?_)))))))
     exact aA (f_75, f_76, v141.e0, v141.e1, c_79, CT (x_80 + 1)) hr ((Wk.gc [1, 2, 3, 4, 5, 6, 7, 11] [(0, true), (1, true), (2, true), (3, true), (4, true), (5, false), (6, false), (7, true), (8, true), (9, true)] rfl (pKt (pKt (pKt (pKt (pKt (pKM av.K (gA aj.c) (fun _ => rfl) p (pKM av.K bA (fun _ => rfl) p' trivial)))))))).to)
    refine .skip (.pop (.pop (.ru G ?_)))
    exact aA (f_75, f_76, t_77, t_78, c_79, CT (x_80 + 1)) hr ((Wk.gc [1, 2, 3, 4, 5, 6, 7, 11] [(0, true), (1, true), (2, true), (3, true), (4, true), (5, false), (6, false), (7, true), (8, true), (9, true)] rfl (pKt (pKt (pKt (pKt (pKt (pKM av.K (gA aj.c) (fun _ => rfl) p (pKM av.K bA (fun _ => rfl) p' trivial)))))))).to)
   replace hr := cA hb137 hr
   refine .g1 G (dQ (args := [ae (A3.get t x_80), .hp 1 0, .hp 2 0]) (l := [1, 2]) rfl (Sp (SnL.cons (Sn.hp rfl (.inl rfl) (SnC.cons (Sn.pure rfl) (SnC.cons (Sn.pure rfl) (SnC.cons (Sn.pure rfl) (SnC.cons (Sn.pure rfl) (SnC.cons (Sn.pure rfl) (SnC.cons (Sn.pure rfl) SnC.nil))))))) (SnL.cons (Sn.hp rfl (.inl rfl) (SnC.cons (Sn.pure rfl) SnC.nil)) SnL.nil))) (dw n (A3.get t x_80) c c' c'' c8 bH bg aW v135 hc136)) (.mu 2 (.ca cf0 (.p0 (v := aB false) (eB hb137) (.mu 6 (.done (.nh [1, 2, 3, 4, 5, 6, 7, 9, 10, 11, 35] [.own [.fn 88 [] [.hp 1 0, .hp 2 0]], .own [ae c, ae c', ae c'', ae c8, ae bH, bG bg], .own [ae aW], .own [.mp 5], .own [.mp 6], .map (p.map (mpK av.K (gA aj.c))), .map (p'.map (mpK av.K bA)), .own [ae t.e0, ae t.e1, ae t.e2], .own [ae f_75, ae f_76], .own [ae t_77, ae t_78]] (.cF (by kernel_rfl) (.skip (.pop (.pop (.ru G ?_)))))))))))
   exact aA (f_75, f_76, t_77, t_78, c_79, CT (x_80 + 1)) hr ((Wk.gc [1, 2, 3, 4, 5, 6, 7, 11] [(0, true), (1, true), (2, true), (3, true), (4, true), (5, false), (6, false), (7, true), (8, true), (9, true)] rfl (pKt (pKt (pKt (pKt (pKt (pKM av.K (gA aj.c) (fun _ => rfl) p (pKM av.K bA (fun _ => rfl) p' trivial)))))))).to)
  refine .leave rfl ?_
  obtain rfl := oi hr
  exact ⟨rfl, ((Wk.gc [2, 3, 5, 6, 7] [(0, true), (1, true), (2, true), (3, true), (4, true), (5, false), (6, false), (8, true), (9, true)] rfl (pKt (pKt (pKt (pKt (pKt (pKM av.K (gA aj.c) (fun _ => rfl) p (pKM av.K bA (fun _ => rfl) p' trivial)))))))).to)⟩
 rcases o143 with ⟨f_109, f_110, t_111, t_112, c_113⟩
 rintro x st' hq145
 clear hL144
 obtain ⟨rfl, hq145⟩ := hq145
 refine a9 _ rfl (.wk hq145 (.seq (.r4 G [2, 3, 5, 6] [(49, aB c_113)] ?_)))
 refine .cd hr ?_ ?_ <;> intro hb146 hr
 ·refine .seq (.r0 G (.mu 3 (.e0 (v := .unk) (ws := [(5, .map ((j7 p (A2.mk f_109 f_110) (A2.mk t_111 t_112)).map (mpK av.K (gA aj.c))))]) (tr (y := iE Tryz.prog [.own [.fn 88 [] [.hp 1 0, .hp 2 0]], .own [ae c, ae c', ae c'', ae c8, ae bH, bG bg], .own [ae aW], .own [.mp 5], .own [.mp 6], .map (p.map (mpK av.K (gA aj.c))), .map (p'.map (mpK av.K bA)), .own [ae f_109, ae f_110], .own [ae t_111, ae t_112]] 124 (.mp 5) (.agg [ae f_109, ae f_110]) (.agg [ae t_111, ae t_112])) (zJ (kt := 101) (e := 101) (l := p) (f := (gA aj.c)) (v := A2.mk t_111 t_112) (K := av.K) (x := A2.mk f_109 f_110) av.key (by kernel_rfl) (by kernel_rfl) (by kernel_rfl) (by kernel_rfl))) (.done (.nh [3, 6] [.own [.fn 88 [] [.hp 1 0, .hp 2 0]], .own [ae c, ae c', ae c'', ae c8, ae bH, bG bg], .own [ae aW], .own [.mp 5], .own [.mp 6], .map ((j7 p (A2.mk f_109 f_110) (A2.mk t_111 t_112)).map (mpK av.K (gA aj.c))), .map (p'.map (mpK av.K bA)), .own [ae f_109, ae f_110], .own [ae t_111, ae t_112]] (.r0 G (.mu 2 (.e0 (v := .unk) (ws := [(6, .map ((j7 p' (A2.mk t_111 t_112) true).map (mpK av.K bA)))]) (tr (y := iE Tryz.prog [.own [.fn 88 [] [.hp 1 0, .hp 2 0]], .own [ae c, ae c', ae c'', ae c8, ae bH, bG bg], .own [ae aW], .own [.mp 5], .own [.mp 6], .map ((j7 p (A2.mk f_109 f_110) (A2.mk t_111 t_112)).map (mpK av.K (gA aj.c))), .map (p'.map (mpK av.K bA)), .own [ae f_109, ae f_110], .own [ae t_111, ae t_112]] 125 (.mp 6) (.agg [ae t_111, ae t_112]) (aB true)) (zJ (kt := 101) (e := 4) (l := p') (f := bA) (v := true) (K := av.K) (x := A2.mk t_111 t_112) av.key (by kernel_rfl) (by kernel_rfl) (by kernel_rfl) (by kernel_rfl))) (.done ?_)))))))))
  obtain rfl := oi hr
  exact eE.normal [] ((Wk.gc [] [(0, true), (1, true), (2, true), (3, true), (4, true), (5, false), (6, false)] rfl (pKt (pKt (pKt (pKt (pKt (pKM av.K (gA aj.c) (fun _ => rfl) (j7 p (A2.mk f_109 f_110) (A2.mk t_111 t_112)) (pKM av.K bA (fun _ => rfl) (j7 p' (A2.mk t_111 t_112) true) trivial)))))))).to)
 refine .skip ?_
 obtain rfl := oi hr
 exact eE.normal [] ((Wk.gc [] [(0, true), (1, true), (2, true), (3, true), (4, true), (5, false), (6, false)] rfl (pKt (pKt (pKt (pKt (pKt (pKM av.K (gA aj.c) (fun _ => rfl) p (pKM av.K bA (fun _ => rfl) p' trivial)))))))).to)

theorem jc (n : Nat) (g : an) (c : Int) (c' : Int) (c'' : Int) (c8 : Int) (bH : Int) (bg : List Int) (aW : Int) (jg : List (A2 Int × A2 Int)) (gP : List (A2 Int × Bool)) (r : List (A2 Int × A2 Int) × List (A2 Int × Bool)) (hr : bl n g c c' c'' c8 bH bg aW jg gP = some r) : ef 5 Tryz.prog 89 [.agg (an.c g), .fn 90 [] [.hp 0 0, .hp 3 0, .hp 4 0]] [.own [.fn 88 [] [.hp 1 0, .hp 2 0]], .own [ae c, ae c', ae c'', ae c8, ae bH, bG bg], .own [ae aW], .own [.mp 5], .own [.mp 6], .map (jg.map (mpK av.K (gA aj.c))), .map (gP.map (mpK av.K bA))] (.tup []) [.own [.fn 88 [] [.hp 1 0, .hp 2 0]], .own [ae c, ae c', ae c'', ae c8, ae bH, bG bg], .own [ae aW], .own [.mp 5], .own [.mp 6], .map (r.1.map (mpK av.K (gA aj.c))), .map (r.2.map (mpK av.K bA))] := by
 unfold bl at hr
 refine ef.kE G Tryz.func89 (c := (Tryz.f89.body).getD .skip) rfl (us := []) (s := mkS 82 0 [(0, .agg (an.c g)), (1, .fn 90 [] [.hp 0 0, .hp 3 0, .hp 4 0])]) (by kernel_rfl) (rs := []) rfl ?_
 unfold Tryz.f89
 simp only [gS]
 refine .seq (.r5 G [1] [(2, .hp 7 0)] [.own [.fn 88 [] [.hp 1 0, .hp 2 0]], .own [ae c, ae c', ae c'', ae c8, ae bH, bG bg], .own [ae aW], .own [.mp 5], .own [.mp 6], .map (jg.map (mpK av.K (gA aj.c))), .map (gP.map (mpK av.K bA)), .own (an.c g)] (.seq (.r4 G [1, 2] [(4, ae g.Width)] (.seq (.r4 G [1, 2, 4] [(14, ae (CT (g.Height - 1))), (15, ae 0)] (.block ?_))))))
 replace hr := bd hr; obtain ⟨o358, hL359, hr⟩ := hr
 refine .aO (σ := fun z0 => match z0 with | (c_182, c_183, x_184) => ⟨mkS 82 0 [(1, .fn 90 [] [.hp 0 0, .hp 3 0, .hp 4 0]), (2, .hp 7 0), (4, ae g.Width), (14, ae (CT (g.Height - 1))), (15, ae x_184)], [.own [.fn 88 [] [.hp 1 0, .hp 2 0]], .own [ae c, ae c', ae c'', ae c8, ae bH, bG bg], .own [ae aW], .own [.mp 5], .own [.mp 6], .map (c_182.map (mpK av.K (gA aj.c))), .map (c_183.map (mpK av.K bA)), .own (an.c g)]⟩) (Q := fun x st' => match (generalizing := false) o358 with | (c_270, c_271) => x = .exit 0 /\ Wk 5 st' ⟨mkS 82 0 [], [.own [.fn 88 [] [.hp 1 0, .hp 2 0]], .own [ae c, ae c', ae c'', ae c8, ae bH, bG bg], .own [ae aW], .own [.mp 5], .own [.mp 6], .map (c_270.map (mpK av.K (gA aj.c))), .map (c_271.map (mpK av.K bA))]⟩) hL359 ((Wk.gc [1, 2, 4, 14, 15] [(0, true), (1, true), (2, true), (3, true), (4, true), (5, false), (6, false), (7, true)] rfl (pKt (pKt (pKt (pKt (pKt (pKM av.K (gA aj.c) (fun _ => rfl) jg (pKM av.K bA (fun _ => rfl) gP trivial)))))))).to) ?_ ?_
 ·clear hr
  rintro m ⟨c_182, c_183, x_184⟩ hr
  show CQ _ _ _ _ _ ⟨_, _⟩
  refine .seq (.r4 G [1, 2, 4, 14, 15] [(16, aB (decide (x_184 < (CT (g.Height - 1)))))] (.seq ?_))
  refine .cd hr ?_ ?_ <;> intro hb274 hr
  ·refine .skip (.seq (.block (.seq (.r4 G [1, 2, 4, 14, 15] [(5, ae x_184)] (.seq (.r4 G [1, 2, 4, 5, 14, 15] [(19, ae (CT (g.Width - 1))), (20, ae 0)] (.block ?_)))))))
   replace hr := bd hr; obtain ⟨o355, hL356, hr⟩ := hr
   refine .aO (σ := fun z0 => match z0 with | (c_275, c_276, x_277) => ⟨mkS 82 0 [(1, .fn 90 [] [.hp 0 0, .hp 3 0, .hp 4 0]), (2, .hp 7 0), (4, ae g.Width), (5, ae x_184), (14, ae (CT (g.Height - 1))), (15, ae x_184), (19, ae (CT (g.Width - 1))), (20, ae x_277)], [.own [.fn 88 [] [.hp 1 0, .hp 2 0]], .own [ae c, ae c', ae c'', ae c8, ae bH, bG bg], .own [ae aW], .own [.mp 5], .own [.mp 6], .map (c_275.map (mpK av.K (gA aj.c))), .map (c_276.map (mpK av.K bA)), .own (an.c g)]⟩) (Q := fun x st' => match (generalizing := false) o355 with | (c_315, c_316) => x = .exit 2 /\ Wk 5 st' ⟨mkS 82 0 [(1, .fn 90 [] [.hp 0 0, .hp 3 0, .hp 4 0]), (2, .hp 7 0), (4, ae g.Width), (14, ae (CT (g.Height - 1))), (15, ae x_184)], [.own [.fn 88 [] [.hp 1 0, .hp 2 0]], .own [ae c, ae c', ae c'', ae c8, ae bH, bG bg], .own [ae aW], .own [.mp 5], .own [.mp 6], .map (c_315.map (mpK av.K (gA aj.c))), .map (c_316.map (mpK av.K bA)), .own (an.c g)]⟩) hL356 ((Wk.gc [1, 2, 4, 5, 14, 15, 19, 20] [(0, true), (1, true), (2, true), (3, true), (4, true), (5, false), (6, false), (7, true)] rfl (pKt (pKt (pKt (pKt (pKt (pKM av.K (gA aj.c) (fun _ => rfl) c_182 (pKM av.K bA (fun _ => rfl) c_183 trivial)))))))).to) ?_ ?_
   ·clear hr
    rintro m ⟨c_275, c_276, x_277⟩ hr
    show CQ _ _ _ _ _ ⟨_, _⟩
    refine .seq (.r4 G [1, 2, 4, 5, 14, 15, 19, 20] [(21, aB (decide (x_277 < (CT (g.Width - 1)))))] (.seq ?_))
    refine .cd hr ?_ ?_ <;> intro hb319 hr
    ·refine .skip (.seq (.block (.seq (.r4 G [1, 2, 4, 5, 14, 15, 19, 20] [(6, ae x_277)] (.seq (.r4 G [1, 2, 4, 5, 14, 15, 19, 20] [(7, ae (CT ((CT (x_184 * g.Width)) + x_277)))] ?_))))))
     obtain ⟨w320, hw321, hr⟩ := bd hr
     refine .wk ((Wk.refl _).to (c := ⟨mkS 82 0 [(1, .fn 90 [] [.hp 0 0, .hp 3 0, .hp 4 0]), (2, .hp 7 0), (4, ae g.Width), (5, ae x_184), (7, ae w320), (14, ae (CT (g.Height - 1))), (15, ae x_184), (19, ae (CT (g.Width - 1))), (20, ae x_277)], [.own [.fn 88 [] [.hp 1 0, .hp 2 0]], .own [ae c, ae c', ae c'', ae c8, ae bH, bG bg], .own [ae aW], .own [.mp 5], .own [.mp 6], .map (c_275.map (mpK av.K (gA aj.c))), .map (c_276.map (mpK av.K bA)), .own (an.c g)]⟩) (by rw [oi hw321]; first | done | kernel_rfl)) <| .seq <| .r5 G [1, 2, 4, 5, 14, 15, 19, 20] [(45, .hs 8 0 2 3), (46, ae 2), (47, ae 0)] [.own [.fn 88 [] [.hp 1 0, .hp 2 0]], .own [ae c, ae c', ae c'', ae c8, ae bH, bG bg], .own [ae aW], .own [.mp 5], .own [.mp 6], .map (c_275.map (mpK av.K (gA aj.c))), .map (c_276.map (mpK av.K bA)), .own (an.c g), .own [ae w320, ae (CT (w320 + 1)), ae (CT ((CT (w320 + g.Width)) + 1)), ae w320, ae (CT ((CT (w320 + g.Width)) + 1)), ae (CT (w320 + g.Width))]] <| .block ?_
     obtain ⟨w322, hw323, hr⟩ := bd hr
     refine .wk ((Wk.refl _).to (c := ⟨mkS 82 0 [(1, .fn 90 [] [.hp 0 0, .hp 3 0, .hp 4 0]), (2, .hp 7 0), (4, ae g.Width), (5, ae x_184), (14, ae (CT (g.Height - 1))), (15, ae x_184), (19, ae (CT (g.Width - 1))), (20, ae x_277), (45, .hs 8 0 w322.length 3), (46, ae 2), (47, ae 0)], [.own [.fn 88 [] [.hp 1 0, .hp 2 0]], .own [ae c, ae c', ae c'', ae c8, ae bH, bG bg], .own [ae aW], .own [.mp 5], .own [.mp 6], .map (c_275.map (mpK av.K (gA aj.c))), .map (c_276.map (mpK av.K bA)), .own (an.c g), .own (w322.flatMap aC.c)]⟩) (by rw [<- oi hw323]; kernel_rfl)) ?_
     replace hr := bd hr; obtain ⟨o352, hL353, hr⟩ := hr
     refine .aO (σ := fun z0 => match z0 with | (c_324, c_325, x_326) => ⟨mkS 82 0 [(1, .fn 90 [] [.hp 0 0, .hp 3 0, .hp 4 0]), (2, .hp 7 0), (4, ae g.Width), (5, ae x_184), (14, ae (CT (g.Height - 1))), (15, ae x_184), (19, ae (CT (g.Width - 1))), (20, ae x_277), (45, .hs 8 0 w322.length 3), (46, ae 2), (47, ae x_326)], [.own [.fn 88 [] [.hp 1 0, .hp 2 0]], .own [ae c, ae c', ae c'', ae c8, ae bH, bG bg], .own [ae aW], .own [.mp 5], .own [.mp 6], .map (c_324.map (mpK av.K (gA aj.c))), .map (c_325.map (mpK av.K bA)), .own (an.c g), .own (w322.flatMap aC.c)]⟩) (Q := fun x st' => match (generalizing := false) o352 with | (c_338, c_339) => x = .exit 4 /\ Wk 5 st' ⟨mkS 82 0 [(1, .fn 90 [] [.hp 0 0, .hp 3 0, .hp 4 0]), (2, .hp 7 0), (4, ae g.Width), (5, ae x_184), (14, ae (CT (g.Height - 1))), (15, ae x_184), (19, ae (CT (g.Width - 1))), (20, ae x_277)], [.own [.fn 88 [] [.hp 1 0, .hp 2 0]], .own [ae c, ae c', ae c'', ae c8, ae bH, bG bg], .own [ae aW], .own [.mp 5], .own [.mp 6], .map (c_338.map (mpK av.K (gA aj.c))), .map (c_339.map (mpK av.K bA)), .own (an.c g)]⟩) hL353 ((Wk.gc [1, 2, 4, 5, 14, 15, 19, 20, 45, 46, 47] [(0, true), (1, true), (2, true), (3, true), (4, true), (5, false), (6, false), (7, true), (8, false)] rfl (pKt (pKt (pKt (pKt (pKt (pKM av.K (gA aj.c) (fun _ => rfl) c_275 (pKM av.K bA (fun _ => rfl) c_276 (pKt (pKo aC.c aC.pure w322 trivial)))))))))).to) ?_ ?_
     ·clear hr
      rintro m ⟨c_324, c_325, x_326⟩ hr
      show CQ _ _ _ _ _ ⟨_, _⟩
      refine .seq (.r4 G [1, 2, 4, 5, 14, 15, 19, 20, 45, 46, 47] [(48, aB (decide (x_326 < 2)))] (.seq ?_))
      refine .cd hr ?_ ?_ <;> intro hb342 hr
      ·refine .skip (.seq (.block (.seq ?_)))
       obtain ⟨hg343, hr⟩ := gd hr
       refine .r0 G (.p0 (v := .hp 8 (0 + x_326.toNat * 3)) (tr (ar hg343)) (.p0 (v := .agg [ae (gt w322 x_326).e0, ae (gt w322 x_326).e1, ae (gt w322 x_326).e2]) (tr (y := bI.ofP (eG (decide (3 <= ((w322.flatMap aC.c).drop (0 + x_326.toNat * 3)).length)) (.agg (((w322.flatMap aC.c).drop (0 + x_326.toNat * 3)).take 3)))) (ch aC.len (aD hg343) (by decide) (by omega : 0 + x_326.toNat * 3 = x_326.toNat * 3 + 0) (by kernel_rfl))) (.mu 2 (.done (.nh [1, 2, 4, 5, 9, 14, 15, 19, 20, 45, 46, 47] [.own [.fn 88 [] [.hp 1 0, .hp 2 0]], .own [ae c, ae c', ae c'', ae c8, ae bH, bG bg], .own [ae aW], .own [.mp 5], .own [.mp 6], .map (c_324.map (mpK av.K (gA aj.c))), .map (c_325.map (mpK av.K bA)), .own (an.c g), .own (w322.flatMap aC.c), .own [ae (gt w322 x_326).e0, ae (gt w322 x_326).e1, ae (gt w322 x_326).e2]] (.seq ?_))))))
       obtain ⟨hg344, hr⟩ := gd hr
       rcases bT (((gt g.Z (gt w322 x_326).e0) : Int) != (-2147483648)) with hb345 | hb345
       ·replace hr := cy hb345 hr
        obtain ⟨hg346, hr⟩ := gd hr
        rcases bT (((gt g.Z (gt w322 x_326).e1) : Int) != (-2147483648)) with hb347 | hb347
        ·replace hr := cy hb347 hr
         obtain ⟨hg348, hr⟩ := gd hr
         refine .r0 G (.mu 4 (.p0 (v := .pp (g.Z.flatMap (iC .i64)) ((gt w322 x_326).e0.toNat * 1)) (tr (ar hg344)) (.p0 (v := ae (gt g.Z (gt w322 x_326).e0)) (tr (aH (aK (aI .i64) (aD hg344) z1 (by omega : (gt w322 x_326).e0.toNat * 1 = (gt w322 x_326).e0.toNat * 1 + 0) (by kernel_rfl)))) (.p0 (v := aB true) (eB hb345) (.mu 5 (.pure (v := .pp (g.Z.flatMap (iC .i64)) ((gt w322 x_326).e1.toNat * 1)) (by kernel_rfl) (tr (ar hg346)) (.pure (v := ae (gt g.Z (gt w322 x_326).e1)) (by kernel_rfl) (tr (aH (aK (aI .i64) (aD hg346) z1 (by omega : (gt w322 x_326).e1.toNat * 1 = (gt w322 x_326).e1.toNat * 1 + 0) (by kernel_rfl)))) (.pure (v := aB true) (by kernel_rfl) (eB hb347) (.mu 6 (.pure (v := .pp (g.Z.flatMap (iC .i64)) ((gt w322 x_326).e2.toNat * 1)) (by kernel_rfl) (tr (ar hg348)) (.pure (v := ae (gt g.Z (gt w322 x_326).e2)) (by kernel_rfl) (tr (aH (aK (aI .i64) (aD hg348) z1 (by omega : (gt w322 x_326).e2.toNat * 1 = (gt w322 x_326).e2.toNat * 1 + 0) (by kernel_rfl)))) (.mu 2 (.done (.nh [1, 2, 4, 5, 9, 14, 15, 19, 20, 45, 46, 47, 75] [.own [.fn 88 [] [.hp 1 0, .hp 2 0]], .own [ae c, ae c', ae c'', ae c8, ae bH, bG bg], .own [ae aW], .own [.mp 5], .own [.mp 6], .map (c_324.map (mpK av.K (gA aj.c))), .map (c_325.map (mpK av.K bA)), .own (an.c g), .own (w322.flatMap aC.c), .own [ae (gt w322 x_326).e0, ae (gt w322 x_326).e1, ae (gt w322 x_326).e2]] ?_))))))))))))))
         refine .cd hr ?_ ?_ <;> intro hb349 hr
         ·obtain ⟨v350, hc351, hr⟩ := bd hr
          refine .g1 G (ky 0 (.own [.fn 88 [] [.hp 1 0, .hp 2 0]]) [] [(1, .own [ae c, ae c', ae c'', ae c8, ae bH, bG bg]), (2, .own [ae aW]), (3, .own [.mp 10]), (4, .own [.mp 11]), (10, .map (v350.1.map (mpK av.K (gA aj.c)))), (11, .map (v350.2.map (mpK av.K bA))), (5, .dead), (6, .dead)] (cC (args := [.agg [ae (gt w322 x_326).e0, ae (gt w322 x_326).e1, ae (gt w322 x_326).e2], .hp 0 0, .hp 3 0, .hp 4 0]) 5 2 [(0, true), (1, true), (2, true), (3, true), (4, true), (5, false), (6, false)] [true, true, true, true, true, false, false] (p9 n (gt w322 x_326) c c' c'' c8 bH bg aW c_324 c_325 v350 hc351) (by exact ⟨gL (fun _ => rfl) _, ⟨gL (fun _ => rfl) _, trivial⟩⟩) (by exact ⟨gL (fun _ => rfl) _, ⟨gL (fun _ => rfl) _, trivial⟩⟩) rfl rfl (by kernel_rfl) (by kernel_rfl))) (.mu 2 (.ca cf0 (.done (.pop (.ru G ?_)))))
          exact aA (v350.1, v350.2, CT (x_326 + 1)) hr ((Wk.gc [1, 2, 4, 5, 14, 15, 19, 20, 45, 46, 47] [(0, true), (1, true), (2, true), (3, true), (4, true), (10, false), (11, false), (7, true), (8, false)] rfl (pKt (pKt (pKt (pKt (pKt (pKM av.K (gA aj.c) (fun _ => rfl) v350.1 (pKM av.K bA (fun _ => rfl) v350.2 (pKt (pKo aC.c aC.pure w322 trivial)))))))))).to)
         refine .skip (.pop (.ru G ?_))
         exact aA (c_324, c_325, CT (x_326 + 1)) hr ((Wk.gc [1, 2, 4, 5, 14, 15, 19, 20, 45, 46, 47] [(0, true), (1, true), (2, true), (3, true), (4, true), (5, false), (6, false), (7, true), (8, false)] rfl (pKt (pKt (pKt (pKt (pKt (pKM av.K (gA aj.c) (fun _ => rfl) c_324 (pKM av.K bA (fun _ => rfl) c_325 (pKt (pKo aC.c aC.pure w322 trivial)))))))))).to)
        replace hr := cA hb347 hr
        refine .r0 G (.mu 4 (.p0 (v := .pp (g.Z.flatMap (iC .i64)) ((gt w322 x_326).e0.toNat * 1)) (tr (ar hg344)) (.p0 (v := ae (gt g.Z (gt w322 x_326).e0)) (tr (aH (aK (aI .i64) (aD hg344) z1 (by omega : (gt w322 x_326).e0.toNat * 1 = (gt w322 x_326).e0.toNat * 1 + 0) (by kernel_rfl)))) (.p0 (v := aB true) (eB hb345) (.mu 5 (.pure (v := .pp (g.Z.flatMap (iC .i64)) ((gt w322 x_326).e1.toNat * 1)) (by kernel_rfl) (tr (ar hg346)) (.pure (v := ae (gt g.Z (gt w322 x_326).e1)) (by kernel_rfl) (tr (aH (aK (aI .i64) (aD hg346) z1 (by omega : (gt w322 x_326).e1.toNat * 1 = (gt w322 x_326).e1.toNat * 1 + 0) (by kernel_rfl)))) (.pure (v := aB false) (by kernel_rfl) (eB hb347) (.mu 10 (.done (.nh [1, 2, 4, 5, 9, 14, 15, 19, 20, 45, 46, 47, 75] [.own [.fn 88 [] [.hp 1 0, .hp 2 0]], .own [ae c, ae c', ae c'', ae c8, ae bH, bG bg], .own [ae aW], .own [.mp 5], .own [.mp 6], .map (c_324.map (mpK av.K (gA aj.c))), .map (c_325.map (mpK av.K bA)), .own (an.c g), .own (w322.flatMap aC.c), .own [ae (gt w322 x_326).e0, ae (gt w322 x_326).e1, ae (gt w322 x_326).e2]] (.cF (by kernel_rfl) (.skip (.pop (.ru G ?_)))))))))))))))
        exact aA (c_324, c_325, CT (x_326 + 1)) hr ((Wk.gc [1, 2, 4, 5, 14, 15, 19, 20, 45, 46, 47] [(0, true), (1, true), (2, true), (3, true), (4, true), (5, false), (6, false), (7, true), (8, false)] rfl (pKt (pKt (pKt (pKt (pKt (pKM av.K (gA aj.c) (fun _ => rfl) c_324 (pKM av.K bA (fun _ => rfl) c_325 (pKt (pKo aC.c aC.pure w322 trivial)))))))))).to)
       replace hr := cA hb345 hr
       refine .r0 G (.mu 4 (.p0 (v := .pp (g.Z.flatMap (iC .i64)) ((gt w322 x_326).e0.toNat * 1)) (tr (ar hg344)) (.p0 (v := ae (gt g.Z (gt w322 x_326).e0)) (tr (aH (aK (aI .i64) (aD hg344) z1 (by omega : (gt w322 x_326).e0.toNat * 1 = (gt w322 x_326).e0.toNat * 1 + 0) (by kernel_rfl)))) (.p0 (v := aB false) (eB hb345) (.mu 18 (.done (.nh [1, 2, 4, 5, 9, 14, 15, 19, 20, 45, 46, 47, 75] [.own [.fn 88 [] [.hp 1 0, .hp 2 0]], .own [ae c, ae c', ae c'', ae c8, ae bH, bG bg], .own [ae aW], .own [.mp 5], .own [.mp 6], .map (c_324.map (mpK av.K (gA aj.c))), .map (c_325.map (mpK av.K bA)), .own (an.c g), .own (w322.flatMap aC.c), .own [ae (gt w322 x_326).e0, ae (gt w322 x_326).e1, ae (gt w322 x_326).e2]] (.cF (by kernel_rfl) (.skip (.pop (.ru G ?_)))))))))))
       exact aA (c_324, c_325, CT (x_326 + 1)) hr ((Wk.gc [1, 2, 4, 5, 14, 15, 19, 20, 45, 46, 47] [(0, true), (1, true), (2, true), (3, true), (4, true), (5, false), (6, false), (7, true), (8, false)] rfl (pKt (pKt (pKt (pKt (pKt (pKM av.K (gA aj.c) (fun _ => rfl) c_324 (pKM av.K bA (fun _ => rfl) c_325 (pKt (pKo aC.c aC.pure w322 trivial)))))))))).to)
      refine .leave rfl ?_
      obtain rfl := oi hr
      exact ⟨rfl, ((Wk.gc [1, 2, 4, 5, 14, 15, 19, 20] [(0, true), (1, true), (2, true), (3, true), (4, true), (5, false), (6, false), (7, true)] rfl (pKt (pKt (pKt (pKt (pKt (pKM av.K (gA aj.c) (fun _ => rfl) c_324 (pKM av.K bA (fun _ => rfl) c_325 trivial)))))))).to)⟩
     rcases o352 with ⟨c_338, c_339⟩
     rintro x st' hq354
     clear hL353
     obtain ⟨rfl, hq354⟩ := hq354
     refine a9 _ rfl (.pop (.wk hq354 (.ru G ?_)))
     exact aA (c_338, c_339, CT (x_277 + 1)) hr ((Wk.gc [1, 2, 4, 5, 14, 15, 19, 20] [(0, true), (1, true), (2, true), (3, true), (4, true), (5, false), (6, false), (7, true)] rfl (pKt (pKt (pKt (pKt (pKt (pKM av.K (gA aj.c) (fun _ => rfl) c_338 (pKM av.K bA (fun _ => rfl) c_339 trivial)))))))).to)
    refine .leave rfl ?_
    obtain rfl := oi hr
    exact ⟨rfl, ((Wk.gc [1, 2, 4, 14, 15] [(0, true), (1, true), (2, true), (3, true), (4, true), (5, false), (6, false), (7, true)] rfl (pKt (pKt (pKt (pKt (pKt (pKM av.K (gA aj.c) (fun _ => rfl) c_275 (pKM av.K bA (fun _ => rfl) c_276 trivial)))))))).to)⟩
   rcases o355 with ⟨c_315, c_316⟩
   rintro x st' hq357
   clear hL356
   obtain ⟨rfl, hq357⟩ := hq357
   refine a9 _ rfl (.pop (.wk hq357 (.ru G ?_)))
   exact aA (c_315, c_316, CT (x_184 + 1)) hr ((Wk.gc [1, 2, 4, 14, 15] [(0, true), (1, true), (2, true), (3, true), (4, true), (5, false), (6, false), (7, true)] rfl (pKt (pKt (pKt (pKt (pKt (pKM av.K (gA aj.c) (fun _ => rfl) c_315 (pKM av.K bA (fun _ => rfl) c_316 trivial)))))))).to)
  refine .leave rfl ?_
  obtain rfl := oi hr
  exact ⟨rfl, ((Wk.gc [] [(0, true), (1, true), (2, true), (3, true), (4, true), (5, false), (6, false)] rfl (pKt (pKt (pKt (pKt (pKt (pKM av.K (gA aj.c) (fun _ => rfl) c_182 (pKM av.K bA (fun _ => rfl) c_183 trivial)))))))).to)⟩
 rcases o358 with ⟨c_270, c_271⟩
 rintro x st' hq360
 clear hL359
 obtain ⟨rfl, hq360⟩ := hq360
 refine a9 _ rfl ?_
 obtain rfl := oi hr
 exact eE.wk hq360 (eE.normal [] ((Wk.gc [] [(0, true), (1, true), (2, true), (3, true), (4, true), (5, false), (6, false)] rfl (pKt (pKt (pKt (pKt (pKt (pKM av.K (gA aj.c) (fun _ => rfl) c_270 (pKM av.K bA (fun _ => rfl) c_271 trivial)))))))).to))

theorem qW (n : Nat) (x' : Int) (r : Int) (hr : mA n x' = some r) : aN Tryz.prog 141 [cZ x'] (ae r) := by
 unfold mA at hr
 refine aN.bd G Tryz.func141 [.tmp 2] ?_
 unfold Tryz.f141
 simp only [gS]
 refine .seq (.r4 G [0] [(2, ae 0)] (.seq (.seq (.r4 G [0, 2] [(4, aB (decide (x' >= 4294967296)))] ?_))))
 refine .cd hr ?_ ?_ <;> intro hb1 hr
 ·refine .seq (.r3 G 25 [(0, cZ (x'.fdiv (2 ^ 32)))] (.r4 G [0] [(2, ae 32)] (.seq (.seq (.r4 G [0, 2] [(8, aB (decide ((x'.fdiv (2 ^ 32)) >= 65536)))] ?_)))))
  refine .cd hr ?_ ?_ <;> intro hb2 hr
  ·refine .seq (.r4 G [2] [(0, cZ ((x'.fdiv (2 ^ 32)).fdiv (2 ^ 16)))] (.r4 G [0] [(2, ae 48)] (.seq (.seq (.r4 G [0, 2] [(14, aB (decide (((x'.fdiv (2 ^ 32)).fdiv (2 ^ 16)) >= 256)))] ?_)))))
   refine .cd hr ?_ ?_ <;> intro hb3 hr
   ·refine .seq (.r4 G [2] [(0, cZ (((x'.fdiv (2 ^ 32)).fdiv (2 ^ 16)).fdiv (2 ^ 8)))] ?_)
    obtain ⟨w4, hw5, hr⟩ := bd hr
    refine .wk ((Wk.refl _).to (c := ⟨mkS 25 0 [(0, cZ w4), (2, ae 48)], []⟩) (by rw [oi hw5]; first | done | kernel_rfl)) <| .r4 G [0] [(2, ae 56)] <| .seq ?_
    obtain ⟨hg6, hr⟩ := gd hr
    refine .r0 G (.mu 3 (.p0 (v := aU8 (iD gr (aa .u8 w4))) (nt (s := gr) (k := .u8) (i := (aa .u8 w4)) (by kernel_rfl) (by kernel_rfl) (by kernel_rfl) hg6) (.mu 3 (.done (.ret ?_)))))
    obtain rfl := oi hr
    exact aJ.r1 [ae (CT (56 + (CT (iD gr (aa .u8 w4)))))]
   refine .skip (.seq ?_)
   obtain ⟨hg7, hr⟩ := gd hr
   refine .r0 G (.mu 3 (.p0 (v := aU8 (iD gr (aa .u8 ((x'.fdiv (2 ^ 32)).fdiv (2 ^ 16))))) (nt (s := gr) (k := .u8) (i := (aa .u8 ((x'.fdiv (2 ^ 32)).fdiv (2 ^ 16)))) (by kernel_rfl) (by kernel_rfl) (by kernel_rfl) hg7) (.mu 3 (.done (.ret ?_)))))
   obtain rfl := oi hr
   exact aJ.r1 [ae (CT (48 + (CT (iD gr (aa .u8 ((x'.fdiv (2 ^ 32)).fdiv (2 ^ 16)))))))]
  refine .skip (.seq (.seq (.r4 G [0, 2] [(14, aB (decide ((x'.fdiv (2 ^ 32)) >= 256)))] ?_)))
  refine .cd hr ?_ ?_ <;> intro hb8 hr
  ·refine .seq (.r4 G [2] [(0, cZ ((x'.fdiv (2 ^ 32)).fdiv (2 ^ 8)))] (.r4 G [0] [(2, ae 40)] (.seq ?_)))
   obtain ⟨hg9, hr⟩ := gd hr
   refine .r0 G (.mu 3 (.p0 (v := aU8 (iD gr (aa .u8 ((x'.fdiv (2 ^ 32)).fdiv (2 ^ 8))))) (nt (s := gr) (k := .u8) (i := (aa .u8 ((x'.fdiv (2 ^ 32)).fdiv (2 ^ 8)))) (by kernel_rfl) (by kernel_rfl) (by kernel_rfl) hg9) (.mu 3 (.done (.ret ?_)))))
   obtain rfl := oi hr
   exact aJ.r1 [ae (CT (40 + (CT (iD gr (aa .u8 ((x'.fdiv (2 ^ 32)).fdiv (2 ^ 8)))))))]
  refine .skip (.seq ?_)
  obtain ⟨hg10, hr⟩ := gd hr
  refine .r0 G (.mu 3 (.p0 (v := aU8 (iD gr (aa .u8 (x'.fdiv (2 ^ 32))))) (nt (s := gr) (k := .u8) (i := (aa .u8 (x'.fdiv (2 ^ 32)))) (by kernel_rfl) (by kernel_rfl) (by kernel_rfl) hg10) (.mu 3 (.done (.ret ?_)))))
  obtain rfl := oi hr
  exact aJ.r1 [ae (CT (32 + (CT (iD gr (aa .u8 (x'.fdiv (2 ^ 32)))))))]
 refine .skip (.seq (.seq (.r4 G [0, 2] [(8, aB (decide (x' >= 65536)))] ?_)))
 refine .cd hr ?_ ?_ <;> intro hb11 hr
 ·refine .seq (.r4 G [2] [(0, cZ (x'.fdiv (2 ^ 16)))] (.r4 G [0] [(2, ae 16)] (.seq (.seq (.r4 G [0, 2] [(14, aB (decide ((x'.fdiv (2 ^ 16)) >= 256)))] ?_)))))
  refine .cd hr ?_ ?_ <;> intro hb12 hr
  ·refine .seq (.r4 G [2] [(0, cZ ((x'.fdiv (2 ^ 16)).fdiv (2 ^ 8)))] (.r4 G [0] [(2, ae 24)] (.seq ?_)))
   obtain ⟨hg13, hr⟩ := gd hr
   refine .r0 G (.mu 3 (.p0 (v := aU8 (iD gr (aa .u8 ((x'.fdiv (2 ^ 16)).fdiv (2 ^ 8))))) (nt (s := gr) (k := .u8) (i := (aa .u8 ((x'.fdiv (2 ^ 16)).fdiv (2 ^ 8)))) (by kernel_rfl) (by kernel_rfl) (by kernel_rfl) hg13) (.mu 3 (.done (.ret ?_)))))
   obtain rfl := oi hr
   exact aJ.r1 [ae (CT (24 + (CT (iD gr (aa .u8 ((x'.fdiv (2 ^ 16)).fdiv (2 ^ 8)))))))]
  refine .skip (.seq ?_)
  obtain ⟨hg14, hr⟩ := gd hr
  refine .r0 G (.mu 3 (.p0 (v := aU8 (iD gr (aa .u8 (x'.fdiv (2 ^ 16))))) (nt (s := gr) (k := .u8) (i := (aa .u8 (x'.fdiv (2 ^ 16)))) (by kernel_rfl) (by kernel_rfl) (by kernel_rfl) hg14) (.mu 3 (.done (.ret ?_)))))
  obtain rfl := oi hr
  exact aJ.r1 [ae (CT (16 + (CT (iD gr (aa .u8 (x'.fdiv (2 ^ 16)))))))]
 refine .skip (.seq (.seq (.r4 G [0, 2] [(14, aB (decide (x' >= 256)))] ?_)))
 refine .cd hr ?_ ?_ <;> intro hb15 hr
 ·refine .seq (.r4 G [2] [(0, cZ (x'.fdiv (2 ^ 8)))] (.r4 G [0] [(2, ae 8)] (.seq ?_)))
  obtain ⟨hg16, hr⟩ := gd hr
  refine .r0 G (.mu 3 (.p0 (v := aU8 (iD gr (aa .u8 (x'.fdiv (2 ^ 8))))) (nt (s := gr) (k := .u8) (i := (aa .u8 (x'.fdiv (2 ^ 8)))) (by kernel_rfl) (by kernel_rfl) (by kernel_rfl) hg16) (.mu 3 (.done (.ret ?_)))))
  obtain rfl := oi hr
  exact aJ.r1 [ae (CT (8 + (CT (iD gr (aa .u8 (x'.fdiv (2 ^ 8)))))))]
 refine .skip (.seq ?_)
 obtain ⟨hg17, hr⟩ := gd hr
 refine .r0 G (.mu 3 (.p0 (v := aU8 (iD gr (aa .u8 x'))) (nt (s := gr) (k := .u8) (i := (aa .u8 x')) (by kernel_rfl) (by kernel_rfl) (by kernel_rfl) hg17) (.mu 3 (.done (.ret ?_)))))
 obtain rfl := oi hr
 exact aJ.r1 [ae (CT (0 + (CT (iD gr (aa .u8 x')))))]

theorem lI (n : Nat) (x' : Int) (r : Int) (hr : j2 n x' = some r) : aN Tryz.prog 98 [cZ x'] (ae r) := by
 unfold j2 at hr
 refine aN.bd G Tryz.func98 [.tmp 2] ?_
 unfold Tryz.f98
 simp only [gS]
 refine .seq (.r4 G [0] [] (.seq (.cF (by kernel_rfl) (.skip (.seq ?_)))))
 obtain ⟨v1, hc2, hr⟩ := bd hr
 refine .g1 G (ok0 (qW n x' v1 hc2)) (.mu 1 (.ca cf0 (.mu 1 (.done (.ret ?_)))))
 obtain rfl := oi hr
 exact aJ.r1 [ae v1]

theorem iY (n : Nat) (a : A2 Int) (b : A2 Int) (r : Int) (hr : gV n a b = some r) : aN Tryz.prog 54 [.agg [ae a.e0, ae a.e1], .agg [ae b.e0, ae b.e1]] (ae r) := by
 unfold gV at hr
 refine aN.bd G Tryz.func54 [.tmp 4] ?_
 unfold Tryz.f54
 simp only [gS]
 refine .seq (.r2 G 20 [(2, .hp 0 0), (3, .hp 1 0)] [.own [ae a.e0, ae a.e1], .own [ae b.e0, ae b.e1]] (.seq (.seq (.r4 G [2, 3] [(9, aB ((a.e0 : Int) != b.e0))] ?_))))
 refine .cd hr ?_ ?_ <;> intro hb1 hr
 ·refine .seq (.ru G (.ret ?_))
  obtain rfl := oi hr
  exact aJ.r1 [ae (CT (a.e0 - b.e0))]
 refine .skip (.seq (.ru G (.ret ?_)))
 obtain rfl := oi hr
 exact aJ.r1 [ae (CT (a.e1 - b.e1))]

theorem dW (n : Nat) (data : List (A2 Int)) (a : Int) (b : Int) (r : List (A2 Int)) (hr : br n data a b = some r) : ef 1 Tryz.prog 164 [.hs 0 0 data.length 2, ae a, ae b, .fn 54 [] []] [.own (data.flatMap aj.c)] (.tup []) [.own (r.flatMap aj.c)] := by
 unfold br at hr
 refine ef.kE G Tryz.func164 (c := (Tryz.f164.body).getD .skip) rfl (us := []) (s := mkS 53 0 [(0, .hs 0 0 data.length 2), (1, ae a), (2, ae b), (3, .fn 54 [] [])]) (by kernel_rfl) (rs := []) rfl ?_
 unfold Tryz.f164
 simp only [gS]
 refine .seq (.r4 G [0, 1, 2, 3] [(8, ae (CT (a + 1)))] (.block ?_))
 replace hr := bd hr; obtain ⟨d_71, hL94, hr⟩ := hr
 refine .aO (σ := fun z0 => match z0 with | (d_49, i_50) => ⟨mkS 53 0 [(0, .hs 0 0 d_49.length 2), (1, ae a), (2, ae b), (3, .fn 54 [] []), (8, ae i_50)], [.own (d_49.flatMap aj.c)]⟩) (Q := fun x st' => x = .exit 0 /\ Wk 1 st' ⟨mkS 53 0 [], [.own (d_71.flatMap aj.c)]⟩) hL94 ((Wk.gc [0, 1, 2, 3, 8] [(0, false)] rfl (pKo aj.c aj.pure data trivial)).to) ?_ ?_
 ·clear hr
  rintro m ⟨d_49, i_50⟩ hr
  show CQ _ _ _ _ _ ⟨_, _⟩
  refine .seq (.seq (.r4 G [0, 1, 2, 3, 8] [(14, aB (decide (i_50 < b)))] ?_))
  refine .cd hr ?_ ?_ <;> intro hb73 hr
  ·refine .skip (.seq (.block (.seq (.r4 G [0, 1, 2, 3, 8] [(9, ae i_50)] (.block ?_)))))
   replace hr := bd hr; obtain ⟨d_82, hL91, hr⟩ := hr
   refine .aO (σ := fun z0 => match z0 with | (d_74, j_75) => ⟨mkS 53 0 [(0, .hs 0 0 d_74.length 2), (1, ae a), (2, ae b), (3, .fn 54 [] []), (8, ae i_50), (9, ae j_75)], [.own (d_74.flatMap aj.c)]⟩) (Q := fun x st' => x = .exit 2 /\ Wk 1 st' ⟨mkS 53 0 [(0, .hs 0 0 d_82.length 2), (1, ae a), (2, ae b), (3, .fn 54 [] []), (8, ae i_50)], [.own (d_82.flatMap aj.c)]⟩) hL91 ((Wk.gc [0, 1, 2, 3, 8, 9] [(0, false)] rfl (pKo aj.c aj.pure d_49 trivial)).to) ?_ ?_
   ·clear hr
    rintro m ⟨d_74, j_75⟩ hr
    show CQ _ _ _ _ _ ⟨_, _⟩
    refine .seq (.seq ?_)
    rcases bT (decide (j_75 > a)) with hb84 | hb84
    ·replace hr := cy hb84 hr
     obtain ⟨hg85, hg86, hr⟩ := gd2 hr
     obtain ⟨v87, hc88, hr⟩ := bd hr
     refine .t1 G (ok0 (iY n (gt d_74 j_75) (gt d_74 (CT (j_75 - 1))) v87 hc88)) (.mu 2 (.pure (v := aB true) (by kernel_rfl) (eB hb84) (by kernel_rfl) (.mu 4 (.pure (v := .hp 0 (0 + j_75.toNat * 2)) (by kernel_rfl) (tr (ar hg85)) (by kernel_rfl) (.pure (v := .agg [ae (gt d_74 j_75).e0, ae (gt d_74 j_75).e1]) (by kernel_rfl) (tr (y := bI.ofP (eG (decide (2 <= ((d_74.flatMap aj.c).drop (0 + j_75.toNat * 2)).length)) (.agg (((d_74.flatMap aj.c).drop (0 + j_75.toNat * 2)).take 2)))) (ch aj.len (aD hg85) (by decide) (by omega : 0 + j_75.toNat * 2 = j_75.toNat * 2 + 0) (by kernel_rfl))) (by kernel_rfl) (.mu 3 (.pure (v := .hp 0 (0 + (CT (j_75 - 1)).toNat * 2)) (by kernel_rfl) (tr (ar hg86)) (by kernel_rfl) (.pure (v := .agg [ae (gt d_74 (CT (j_75 - 1))).e0, ae (gt d_74 (CT (j_75 - 1))).e1]) (by kernel_rfl) (tr (y := bI.ofP (eG (decide (2 <= ((d_74.flatMap aj.c).drop (0 + (CT (j_75 - 1)).toNat * 2)).length)) (.agg (((d_74.flatMap aj.c).drop (0 + (CT (j_75 - 1)).toNat * 2)).take 2)))) (ch aj.len (aD hg86) (by decide) (by omega : 0 + (CT (j_75 - 1)).toNat * 2 = (CT (j_75 - 1)).toNat * 2 + 0) (by kernel_rfl))) (by kernel_rfl) (.ca cf0 (.mu 2 ?_))))))))))
     refine .done ⟨by kernel_rfl, ?_⟩
     refine .nh [0, 1, 2, 3, 8, 9, 34] [.own (d_74.flatMap aj.c)] ?_
     refine .cd hr ?_ ?_ <;> intro hb89 hr
     ·refine .skip (.seq (.block (.eK G bW (.mu 8 (.pure (v := .hp 0 (0 + (CT (j_75 - 1)).toNat * 2)) (by kernel_rfl) (tr (ar hg86)) (by kernel_rfl) (.pure (v := .agg [ae (gt d_74 (CT (j_75 - 1))).e0, ae (gt d_74 (CT (j_75 - 1))).e1]) (by kernel_rfl) (tr (y := bI.ofP (eG (decide (2 <= ((d_74.flatMap aj.c).drop (0 + (CT (j_75 - 1)).toNat * 2)).length)) (.agg (((d_74.flatMap aj.c).drop (0 + (CT (j_75 - 1)).toNat * 2)).take 2)))) (ch aj.len (aD hg86) (by decide) (by omega : 0 + (CT (j_75 - 1)).toNat * 2 = (CT (j_75 - 1)).toNat * 2 + 0) (by kernel_rfl))) (by kernel_rfl) (.mu 2 (.pure (v := .hp 0 (0 + j_75.toNat * 2)) (by kernel_rfl) (tr (ar hg85)) (by kernel_rfl) (.pure (v := .agg [ae (gt d_74 j_75).e0, ae (gt d_74 j_75).e1]) (by kernel_rfl) (tr (y := bI.ofP (eG (decide (2 <= ((d_74.flatMap aj.c).drop (0 + j_75.toNat * 2)).length)) (.agg (((d_74.flatMap aj.c).drop (0 + j_75.toNat * 2)).take 2)))) (ch aj.len (aD hg85) (by decide) (by omega : 0 + j_75.toNat * 2 = j_75.toNat * 2 + 0) (by kernel_rfl))) (by kernel_rfl) (.pure (v := .hp 0 (0 + j_75.toNat * 2)) (by kernel_rfl) (tr (ar hg85)) (by kernel_rfl) (.eff (v := .unk) (ws := [(0, .own ((d_74.set j_75.toNat (gt d_74 (CT (j_75 - 1)))).flatMap aj.c))]) (by kernel_rfl) (tr (iF (iH (cD (n := 2) aj.len (aD hg85) (lbT rfl) (by omega : 0 + j_75.toNat * 2 = j_75.toNat * 2 + 0))) (congrArg Blk.own (c7 (xs := [ae (gt d_74 (CT (j_75 - 1))).e0, ae (gt d_74 (CT (j_75 - 1))).e1]) aj.len (aD hg85) (lbT rfl) (by omega : 0 + j_75.toNat * 2 = j_75.toNat * 2 + 0) (by kernel_rfl))))) (by kernel_rfl) (.pure (v := .hp 0 (0 + (CT (j_75 - 1)).toNat * 2)) (by kernel_rfl) (tr (ar hg86)) (by kernel_rfl) (.eff (v := .unk) (ws := [(0, .own (((d_74.set j_75.toNat (gt d_74 (CT (j_75 - 1)))).set (CT (j_75 - 1)).toNat (gt d_74 j_75)).flatMap aj.c))]) (by kernel_rfl) (tr (y := stO (decide ((0 + (CT (j_75 - 1)).toNat * 2) + 2 <= ((d_74.set j_75.toNat (gt d_74 (CT (j_75 - 1)))).flatMap aj.c).length) && true) [(0, .own (setCells ((d_74.set j_75.toNat (gt d_74 (CT (j_75 - 1)))).flatMap aj.c) (0 + (CT (j_75 - 1)).toNat * 2) [ae (gt d_74 j_75).e0, ae (gt d_74 j_75).e1]))]) (iF (iH (cD aj.len (aD (qi hg86)) (lbT rfl) (by omega : 0 + (CT (j_75 - 1)).toNat * 2 = (CT (j_75 - 1)).toNat * 2 + 0))) (congrArg Blk.own (c7 aj.len (aD (qi hg86)) (lbT rfl) (by omega : 0 + (CT (j_75 - 1)).toNat * 2 = (CT (j_75 - 1)).toNat * 2 + 0) (by kernel_rfl))))) (by kernel_rfl) ?_)))))))))))))
      refine .done ⟨by kernel_rfl, ?_⟩
      refine .pop (.ru G ?_)
      exact aA ((d_74.set j_75.toNat (gt d_74 (CT (j_75 - 1)))).set (CT (j_75 - 1)).toNat (gt d_74 j_75), CT (j_75 - 1)) hr ((Wk.iJ 0 (b := 0) (es := 2) (len := d_74.length) ((d_74.set j_75.toNat (gt d_74 (CT (j_75 - 1)))).set (CT (j_75 - 1)).toNat (gt d_74 j_75)).length (by kernel_rfl) (Eq.symm (List.length_set.trans (List.length_set.trans rfl)))).trans ((Wk.gc [0, 1, 2, 3, 8, 9] [(0, false)] rfl (pKo aj.c aj.pure ((d_74.set j_75.toNat (gt d_74 (CT (j_75 - 1)))).set (CT (j_75 - 1)).toNat (gt d_74 j_75)) trivial)).to))
     refine .leave rfl ?_
     obtain rfl := oi hr
     exact ⟨rfl, ((Wk.gc [0, 1, 2, 3, 8] [(0, false)] rfl (pKo aj.c aj.pure d_74 trivial)).to)⟩
    replace hr := cA hb84 hr
    refine .eK G bW (.mu 2 (.pure (v := aB false) (by kernel_rfl) (eB hb84) (by kernel_rfl) (.mu 14 ?_)))
    refine .done ⟨by kernel_rfl, ?_⟩
    refine .nh [0, 1, 2, 3, 8, 9, 34] [.own (d_74.flatMap aj.c)] (.cF (by kernel_rfl) (.leave rfl ?_))
    obtain rfl := oi hr
    exact ⟨rfl, ((Wk.gc [0, 1, 2, 3, 8] [(0, false)] rfl (pKo aj.c aj.pure d_74 trivial)).to)⟩
   rintro x st' hq92
   clear hL91
   obtain ⟨rfl, hq92⟩ := hq92
   refine a9 _ rfl (.pop (.wk hq92 (.ru G ?_)))
   exact aA (d_82, CT (i_50 + 1)) hr ((Wk.gc [0, 1, 2, 3, 8] [(0, false)] rfl (pKo aj.c aj.pure d_82 trivial)).to)
  refine .leave rfl ?_
  obtain rfl := oi hr
  exact ⟨rfl, ((Wk.gc [] [(0, false)] rfl (pKo aj.c aj.pure d_49 trivial)).to)⟩
 rintro x st' hq95
 clear hL94
 obtain ⟨rfl, hq95⟩ := hq95
 refine a9 _ rfl ?_
 obtain rfl := oi hr
 exact eE.wk hq95 (eE.normal [] ((Wk.gc [] [(0, false)] rfl (pKo aj.c aj.pure d_71 trivial)).to))

theorem eL (n : Nat) (data : List (A2 Int)) (a : Int) (b : Int) (limit : Int) (r : List (A2 Int)) (hr : bL n data a b limit = some r) : ef 1 Tryz.prog 130 [.hs 0 0 data.length 2, ae a, ae b, ae limit, .fn 54 [] []] [.own (data.flatMap aj.c)] (.tup []) [.own (r.flatMap aj.c)] := by
 unfold bL at hr
 refine ef.kE G Tryz.func130 (c := (Tryz.f130.body).getD .skip) rfl (us := []) (s := mkS 148 0 [(0, .hs 0 0 data.length 2), (1, ae a), (2, ae b), (3, ae limit), (4, .fn 54 [] [])]) (by kernel_rfl) (rs := []) rfl ?_
 unfold Tryz.f130
 simp only [gS]
 refine .seq (.r4 G [0, 1, 2, 3, 4] [(10, aB true)] (.seq (.r4 G [0, 1, 2, 3, 4, 10] [(11, aB true)] (.block ?_))))
 replace hr := bd hr; obtain ⟨r0, hL38, hr⟩ := hr
 refine .aO (σ := fun z0 => match z0 with | (a_21, b_22, l_23, w_24, w_25) => ⟨mkS 148 0 [(0, .hs 0 0 data.length 2), (1, ae a_21), (2, ae b_22), (3, ae l_23), (4, .fn 54 [] []), (10, aB w_24), (11, aB w_25)], [.own (data.flatMap aj.c)]⟩) (Q := fun x st' => x = .ret /\ eE 1 Tryz.prog [] [] [.own (r0.flatMap aj.c)] .ret st') hL38 ((Wk.gc [0, 1, 2, 3, 4, 10, 11] [(0, false)] rfl (pKo aj.c aj.pure data trivial)).to) ?_ ?_
 ·clear hr
  rintro m ⟨a_21, b_22, l_23, w_24, w_25⟩ hr
  show CQ _ _ _ _ _ ⟨_, _⟩
  refine .block (.seq (.r4 G [0, 1, 2, 3, 4, 10, 11] [(12, ae (CT (b_22 - a_21)))] (.seq (.seq (.r4 G [0, 1, 2, 3, 4, 10, 11, 12] [(25, aB (decide ((CT (b_22 - a_21)) <= 12)))] ?_)))))
  obtain ⟨hb32, hr⟩ := gd hr
  refine .cY hb32 (.seq ?_)
  obtain ⟨v33, hc34, hr⟩ := bd hr
  refine .g1 G (cC (args := [.hs 0 0 data.length 2, ae a_21, ae b_22, .fn 54 [] []]) 1 0 [(0, false)] [false] (dW n data a_21 b_22 v33 hc34) (by exact ⟨bc aj.pure _, trivial⟩) (by exact ⟨bc aj.pure _, trivial⟩) rfl rfl (by kernel_rfl) (by kernel_rfl)) (.mu 4 (.ca cf0 (.done (.nh [] [.own (v33.flatMap aj.c)] (.ret ?_)))))
  obtain rfl := oi hr
  exact ⟨rfl, eE.ret [] ((Wk.gc [] [(0, false)] rfl (pKo aj.c aj.pure v33 trivial)).to)⟩
 rintro x st' hq39
 clear hL38
 obtain ⟨rfl, hq39⟩ := hq39
 obtain rfl := oi hr
 exact iK _ hq39

theorem dy (n : Nat) (x' : List (A2 Int)) (r : List (A2 Int)) (hr : aM n x' = some r) : ef 1 Tryz.prog 92 [.hs 0 0 x'.length 2, .fn 54 [] []] [.own (x'.flatMap aj.c)] (.tup []) [.own (r.flatMap aj.c)] := by
 unfold aM at hr
 refine ef.kE G Tryz.func92 (c := (Tryz.f92.body).getD .skip) rfl (us := []) (s := mkS 14 0 [(0, .hs 0 0 x'.length 2), (1, .fn 54 [] [])]) (by kernel_rfl) (rs := []) rfl ?_
 unfold Tryz.f92
 simp only [gS]
 refine .seq (.r4 G [0, 1] [(4, ae (x'.length : Int))] ?_)
 obtain ⟨v6, hc7, v8, hc9, hr⟩ := bd2 hr
 refine .gn G (ca1 (ok0 (lI n (aa .u64 (x'.length : Int)) v6 hc7)) (ca3 (cC (args := [.hs 0 0 x'.length 2, ae 0, ae (x'.length : Int), ae v6, .fn 54 [] []]) 1 0 [(0, false)] [false] (eL n x' 0 (x'.length : Int) v6 v8 hc9) (by exact ⟨bc aj.pure _, trivial⟩) (by exact ⟨bc aj.pure _, trivial⟩) rfl rfl (by kernel_rfl) (by kernel_rfl)))) (.mu 4 (.ca cf0 (.mu 1 (.ca (cfF cf0) (.done ?_)))))
 obtain rfl := oi hr
 exact eE.normal [] ((Wk.gc [] [(0, false)] rfl (pKo aj.c aj.pure v8 trivial)).to)

theorem sb {n' : Int} {n'_ : Int} (h : ([.at (.int .u64 n')] : List AV) = [.at (.int .u64 n'_)]) : n' = n'_ := by
 simp only [List.cons.injEq, AV.agg.injEq, AV.at.injEq, Value.int.injEq, Value.bool.injEq, AV.fn.injEq, AV.pp.injEq, true_and, and_true] at h
 simp_all
theorem tk (n : Nat) {n' : Int} {n'_ : Int} (h : ([.at (.int .u64 n')] : List AV) = [.at (.int .u64 n'_)]) : dc n n' = dc n n'_ := by
 obtain rfl := sb h
 rfl
theorem fw (n : Nat) (n' : Int) (r : List Int) (hr : dc n n' = some r) : aN Tryz.prog 148 [cZ n'] (au r) := by
 unfold dc at hr
 refine aN.bd G Tryz.func148 [.tmp 2] ?_
 unfold Tryz.f148
 simp only [gS]
 refine .seq (.r4 G [0] [] (.seq (.r4 G [0] [(3, nS)] (.seq (.block ?_)))))
 replace hr := bd hr; obtain ⟨g_6, hL12, hr⟩ := hr
 refine .aO (σ := fun z0 => match z0 with | (n_1, g_2) => ⟨mkS 15 0 [(0, cZ n_1), (3, .hs 0 0 g_2.length 1)], [.own (g_2.flatMap (iC .u32))]⟩) (Q := fun x st' => x = .exit 0 /\ Wk 0 st' ⟨mkS 15 0 [(3, .hs 0 0 g_6.length 1)], [.own (g_6.flatMap (iC .u32))]⟩) hL12 ((Wk.nil 3 1 (by kernel_rfl)).trans ((Wk.gc [0, 3] [(0, false)] rfl (pKc trivial)).to)) ?_ ?_
 ·clear hr
  rintro m ⟨n_1, g_2⟩ hr
  show CQ _ _ _ _ _ ⟨_, _⟩
  refine .seq (.seq (.r4 G [0, 3] [(5, aB (decide (n_1 > 0)))] ?_))
  refine .cd hr ?_ ?_ <;> intro hb8 hr
  ·refine .skip (.seq (.block ?_))
   obtain ⟨hg9, hg10, hr⟩ := gd2 hr
   refine .r0 G (.mu 5 (.e0 (v := .hs 2 0 (g_2 ++ [aa .u32 (n_1.tmod 1000000000)]).length 1) (ws := [(0, .dead), (2, .own ((g_2 ++ [aa .u32 (n_1.tmod 1000000000)]).flatMap (iC .u32)))]) (tr (fc (new := [bB (aa .u32 (n_1.tmod 1000000000))]) (l := g_2) (xs := [aa .u32 (n_1.tmod 1000000000)]) (aI .u32) rfl rfl (by kernel_rfl) hg9 hg10)) (.mu 1 (.done (.pop (.ru G ?_))))))
   exact aA (aa .u64 (n_1.tdiv 1000000000), g_2 ++ [aa .u32 (n_1.tmod 1000000000)]) hr ((Wk.gc [0, 3] [(2, false)] rfl (pKo (iC .u32) (aF _) (g_2 ++ [aa .u32 (n_1.tmod 1000000000)]) trivial)).to)
  refine .leave rfl ?_
  obtain rfl := oi hr
  exact ⟨rfl, ((Wk.gc [3] [(0, false)] rfl (pKo (iC .u32) (aF _) g_2 trivial)).to)⟩
 rintro x st' hq13
 clear hL12
 obtain ⟨rfl, hq13⟩ := hq13
 refine a9 _ rfl (.wk hq13 (.seq (.r3 G 15 [(2, .hs 0 0 g_6.length 1)] (.ret ?_))))
 obtain rfl := oi hr
 exact aJ.ret (vs := [.hs 0 0 g_6.length 1]) (by kernel_rfl) (Sn.hs rfl (.inl rfl) (SnC.pure (bc (aF _) _)) (fun h => cP h))

theorem gT (n : Nat) (g : List Int) (r : List Int) (hr : eJ n g = some r) : aN Tryz.prog 184 [au g] (au r) := by
 unfold eJ at hr
 refine aN.bd G Tryz.func184 [.tmp 2] ?_
 unfold Tryz.f184
 simp only [gS]
 refine .seq (.r4 G [0] [] (.seq (.block ?_)))
 replace hr := bd hr; obtain ⟨g_6, hL13, hr⟩ := hr
 refine .aO (σ := fun z0 => match z0 with | g_1 => ⟨mkS 21 0 [(0, au g_1)], []⟩) (Q := fun x st' => x = .exit 0 /\ Wk 0 st' ⟨mkS 21 0 [(0, au g_6)], []⟩) hL13 ((Wk.gc [0] [] rfl pK0).to) ?_ ?_
 ·clear hr
  rintro m g_1 hr
  show CQ _ _ _ _ _ ⟨_, _⟩
  refine .seq (.seq ?_)
  rcases bT (decide ((g_1.length : Int) > 0)) with hb8 | hb8
  ·replace hr := cy hb8 hr
   obtain ⟨hg9, hr⟩ := gd hr
   refine .r0 G (.mu 2 (.p0 (v := aB true) (eB hb8) (.mu 5 (.pure (v := .pp (g_1.flatMap (iC .u32)) ((CT ((g_1.length : Int) - 1)).toNat * 1)) (by kernel_rfl) (tr (ar hg9)) (.pure (v := bB (gt g_1 (CT ((g_1.length : Int) - 1)))) (by kernel_rfl) (tr (aH (aK (aI .u32) (aD hg9) z1 (by omega : (CT ((g_1.length : Int) - 1)).toNat * 1 = (CT ((g_1.length : Int) - 1)).toNat * 1 + 0) (by kernel_rfl)))) (.mu 2 (.done (.nh [0, 14] [] ?_))))))))
   refine .cd hr ?_ ?_ <;> intro hb10 hr
   ·refine .skip (.block ?_)
    obtain ⟨hg11, hr⟩ := gd hr
    refine .r0 G (.mu 4 (.p0 (v := au ((g_1.drop (0 : Int).toNat).take ((CT ((g_1.length : Int) - 1)).toNat - (0 : Int).toNat))) (tr (y := slO (inS 0 (CT ((g_1.length : Int) - 1)) g_1.length) (0 : Int).toNat (CT ((g_1.length : Int) - 1)).toNat (fun z1 z2 => .sl true (((g_1.flatMap (iC .u32)).drop (z1 * 1)).take ((z2 - z1) * 1)) (z2 - z1))) (vE hg11 (sS (aI _) (pR hg11)))) (.mu 1 (.done (.pop ?_)))))
    exact aA ((g_1.drop (0 : Int).toNat).take ((CT ((g_1.length : Int) - 1)).toNat - (0 : Int).toNat)) hr ((Wk.gc [0] [] rfl pK0).to)
   refine .leave rfl ?_
   obtain rfl := oi hr
   exact ⟨rfl, ((Wk.gc [0] [] rfl pK0).to)⟩
  replace hr := cA hb8 hr
  refine .r0 G (.mu 2 (.p0 (v := aB false) (eB hb8) (.mu 9 (.done (.nh [0, 14] [] (.cF (by kernel_rfl) (.leave rfl ?_)))))))
  obtain rfl := oi hr
  exact ⟨rfl, ((Wk.gc [0] [] rfl pK0).to)⟩
 rintro x st' hq14
 clear hL13
 obtain ⟨rfl, hq14⟩ := hq14
 refine a9 _ rfl (.wk hq14 (.seq (.ru G (.ret ?_))))
 obtain rfl := oi hr
 exact aJ.r1 [au g_6]

theorem sr {negative : Bool} {g : List Int} {negative_ : Bool} {g_ : List Int} (h : ([.at (.bool negative), slT (iC .u32) g] : List AV) = [.at (.bool negative_), slT (iC .u32) g_]) : negative = negative_ /\ g = g_ := by
 simp only [List.cons.injEq, AV.agg.injEq, AV.at.injEq, Value.int.injEq, Value.bool.injEq, AV.fn.injEq, AV.pp.injEq, true_and, and_true, eU] at h
 simp_all
theorem mi (n : Nat) {negative : Bool} {g : List Int} {negative_ : Bool} {g_ : List Int} (h : ([.at (.bool negative), slT (iC .u32) g] : List AV) = [.at (.bool negative_), slT (iC .u32) g_]) : cg n negative g = cg n negative_ g_ := by
 obtain ⟨rfl, rfl⟩ := sr h
 rfl
theorem cq (n : Nat) (negative : Bool) (g : List Int) (r : ai) (hr : cg n negative g = some r) : aN Tryz.prog 147 [aB negative, au g] (.agg (ai.c r)) := by
 unfold cg at hr
 refine aN.bd G Tryz.func147 [.cell 4 40] ?_
 unfold Tryz.f147
 simp only [gS]
 refine .seq (.r5 G [0, 1] [(4, .hp 0 0)] [.own [aB false, nS]] (.seq ?_))
 obtain ⟨v1, hc2, hr⟩ := bd hr
 refine .g1 G (ok0 (gT n g v1 hc2)) (.mu 1 (.ca cf0 (.mu 1 (.done (.nh [0, 1, 4] [.own [aB false, nS]] (.seq (.seq (.r4 G [0, 1, 4] [(9, aB (((v1.length : Int) : Int) == 0))] ?_))))))))
 refine .cd hr ?_ ?_ <;> intro hb3 hr
 ·refine .seq (.r4 G [4] [] (.ret ?_))
  obtain rfl := oi hr
  exact aJ.ret (vs := [.agg [aB false, nS]]) (by kernel_rfl) (Sn.agg (Sp (SnL.cons Sn.cX SnL.nil)))
 refine .skip (.seq (.r5 G [4] [] [.own [aB negative, au v1]] (.ret ?_)))
 obtain rfl := oi hr
 exact aJ.r1 [.agg [aB negative, au v1]]

theorem qG (n : Nat) {n' : Int} {n'_ : Int} (h : ([.at (.int .i64 n')] : List AV) = [.at (.int .i64 n'_)]) : fv n n' = fv n n'_ := by
 obtain rfl := ei h
 rfl
theorem jo (n : Nat) (n' : Int) (r : ai) (hr : fv n n' = some r) : aN Tryz.prog 108 [ae n'] (.agg (ai.c r)) := by
 unfold fv at hr
 refine aN.bd G Tryz.func108 [.cell 2 40] ?_
 unfold Tryz.f108
 simp only [gS]
 refine .seq (.r5 G [0] [(2, .hp 0 0)] [.own [aB false, nS]] (.seq (.r4 G [0, 2] [(3, cZ (aa .u64 n'))] (.seq (.seq (.r4 G [0, 2, 3] [(7, aB (decide (n' < 0)))] ?_))))))
 refine .cd hr ?_ ?_ <;> intro hb1 hr
 ·refine .r0 G (.mu 1 (.p0 (v := cZ (aa .u64 (0 - (aa .u64 n')))) (tr (y := some (.pure (cZ (IntKind.wrap .u64 (0 - (aa .u64 n')))))) wG) (.mu 1 (.done (.nh [0, 2, 3] [.own [aB false, nS]] (.seq ?_))))))
  obtain ⟨v2, hc3, v4, hc5, hr⟩ := bd2 hr
  refine .gn G (ca1 (ok0 (fw n (aa .u64 (0 - (aa .u64 n'))) v2 hc3)) (ca3 (ok0 (cq n true v2 v4 hc5)))) (.mu 1 (.p0 (v := aB true) (eB hb1) (.mu 1 (.ca cf0 (.ca (cfF cf0) (.mu 1 (.done (.nh [2] [.own (ai.c v4)] (.ret ?_)))))))))
  obtain rfl := oi hr
  exact aJ.r1 [.agg (ai.c v4)]
 refine .skip (.seq ?_)
 obtain ⟨v6, hc7, v8, hc9, hr⟩ := bd2 hr
 refine .gn G (ca1 (ok0 (fw n (aa .u64 n') v6 hc7)) (ca3 (ok0 (cq n false v6 v8 hc9)))) (.mu 1 (.p0 (v := aB false) (eB hb1) (.mu 1 (.ca cf0 (.ca (cfF cf0) (.mu 1 (.done (.nh [2] [.own (ai.c v8)] (.ret ?_)))))))))
 obtain rfl := oi hr
 exact aJ.r1 [.agg (ai.c v8)]

theorem ri (n : Nat) (g : Int) (r : Bool) (hr : mw n g = some r) : aN Tryz.prog 178 [bB g] (aB r) := by
 unfold mw at hr
 refine aN.bd G Tryz.func178 [.tmp 2] ?_
 unfold Tryz.f178
 simp only [gS]
 refine .seq (.r4 G [0] [] (.seq (.ru G (.ret ?_))))
 obtain rfl := oi hr
 exact aJ.r1 [aB (decide (g >= 1000000000))]

theorem gk (n : Nat) (s : List Int) (r : Int) (hr : bm n s = some r) : aN Tryz.prog 197 [au s, .fn 178 [] []] (ae r) := by
 unfold bm at hr
 refine aN.bd G Tryz.func197 [.tmp 4] ?_
 unfold Tryz.f197
 simp only [gS]
 refine .seq (.r4 G [0, 1] [] (.seq (.seq (.r4 G [0, 1] [(7, ae (s.length : Int)), (8, ae 0)] (.block ?_)))))
 replace hr := bd hr; obtain ⟨o13, hL14, hr⟩ := hr
 refine .aO (σ := fun z0 => match z0 with | x_1 => ⟨mkS 19 0 [(0, au s), (1, .fn 178 [] []), (7, ae (s.length : Int)), (8, ae x_1)], []⟩) (Q := fun x st' => match (generalizing := false) o13 with | .inl _ => x = .exit 0 /\ Wk 0 st' ⟨mkS 19 0 [], []⟩ | .inr (r0) => x = .ret /\ aJ Tryz.prog [.tmp 4] (ae r0) .ret st') hL14 ((Wk.gc [0, 1, 7, 8] [] rfl pK0).to) ?_ ?_
 ·clear hr
  rintro m x_1 hr
  show CQ _ _ _ _ _ ⟨_, _⟩
  refine .seq (.r4 G [0, 1, 7, 8] [(9, aB (decide (x_1 < (s.length : Int))))] (.seq ?_))
  refine .cd hr ?_ ?_ <;> intro hb8 hr
  ·refine .skip (.seq (.block (.seq (.r4 G [0, 1, 7, 8] [(5, ae x_1)] (.seq ?_)))))
   obtain ⟨hg9, hr⟩ := gd hr
   obtain ⟨v10, hc11, hr⟩ := bd hr
   refine .g1 G (ok0 (ri n (gt s x_1) v10 hc11)) (.mu 3 (.p0 (v := .pp (s.flatMap (iC .u32)) (x_1.toNat * 1)) (tr (ar hg9)) (.p0 (v := bB (gt s x_1)) (tr (aH (aK (aI .u32) (aD hg9) z1 (by omega : x_1.toNat * 1 = x_1.toNat * 1 + 0) (by kernel_rfl)))) (.ca cf0 (.done (.nh [0, 1, 5, 7, 8, 16] [] ?_))))))
   refine .cd hr ?_ ?_ <;> intro hb12 hr
   ·refine .seq (.ru G (.ret ?_))
    obtain rfl := oi hr
    exact ⟨rfl, aJ.ret (vs := [ae x_1]) (by kernel_rfl) (Sn.pure rfl)⟩
   refine .skip (.pop (.ru G ?_))
   exact aA (CT (x_1 + 1)) hr ((Wk.gc [0, 1, 7, 8] [] rfl pK0).to)
  refine .leave rfl ?_
  obtain rfl := oi hr
  exact ⟨rfl, ((Wk.gc [] [] rfl pK0).to)⟩
 rcases o13 with ⟨⟩ | r0
 ·rintro x st' hq15
  clear hL14
  obtain ⟨rfl, hq15⟩ := hq15
  refine a9 _ rfl (.wk hq15 (.seq (.ru G (.ret ?_))))
  obtain rfl := oi hr
  exact aJ.r1 [ae (-1)]
 rintro x st' hq15
 clear hL14
 obtain ⟨rfl, hq15⟩ := hq15
 obtain rfl := oi hr
 exact iK _ hq15

theorem fN (n : Nat) (s : List Int) (r : Bool) (hr : aY n s = some r) : aN Tryz.prog 177 [au s, .fn 178 [] []] (aB r) := by
 unfold aY at hr
 refine aN.bd G Tryz.func177 [.tmp 4] ?_
 unfold Tryz.f177
 simp only [gS]
 refine .seq (.r4 G [0, 1] [] (.seq ?_))
 obtain ⟨v1, hc2, hr⟩ := bd hr
 refine .g1 G (ok0 (gk n s v1 hc2)) (.mu 2 (.ca cf0 (.mu 2 (.done (.ret ?_)))))
 obtain rfl := oi hr
 exact aJ.r1 [aB (decide (v1 >= 0))]

theorem e8 {x' : ai} {x'_ : ai} (h : ([.agg [.at (.bool x'.Negative), slT (iC .u32) x'.Groups]] : List AV) = [.agg [.at (.bool x'_.Negative), slT (iC .u32) x'_.Groups]]) : x' = x'_ := by
 obtain ⟨_, _⟩ := x'
 obtain ⟨_, _⟩ := x'_
 simp only [List.cons.injEq, AV.agg.injEq, AV.at.injEq, Value.int.injEq, Value.bool.injEq, AV.fn.injEq, AV.pp.injEq, true_and, and_true, eU] at h
 simp_all
theorem oy (n : Nat) {x' : ai} {x'_ : ai} (h : ([.agg [.at (.bool x'.Negative), slT (iC .u32) x'.Groups]] : List AV) = [.agg [.at (.bool x'_.Negative), slT (iC .u32) x'_.Groups]]) : dU n x' = dU n x'_ := by
 obtain rfl := e8 h
 rfl
theorem fB (n : Nat) (x' : ai) (r : Bool) (hr : dU n x' = some r) : aN Tryz.prog 142 [.agg (ai.c x')] (aB r) := by
 unfold dU at hr
 refine aN.bd G Tryz.func142 [.tmp 2] ?_
 unfold Tryz.f142
 simp only [gS]
 refine .seq (.r2 G 25 [(1, .hp 0 0)] [.own (ai.c x')] (.seq (.r4 G [1] [(3, ae (x'.Groups.length : Int))] (.seq (.seq (.r4 G [1, 3] [(8, aB (((x'.Groups.length : Int) : Int) == 0))] ?_))))))
 refine .cd hr ?_ ?_ <;> intro hb1 hr
 ·refine .seq (.ru G (.ret ?_))
  obtain rfl := oi hr
  exact aJ.r1 [aB (!x'.Negative)]
 refine .skip (.seq ?_)
 obtain ⟨hg2, hr⟩ := gd hr
 rcases bT (((gt x'.Groups (CT ((x'.Groups.length : Int) - 1))) : Int) != 0) with hb3 | hb3
 ·replace hr := cy hb3 hr
  obtain ⟨v4, hc5, hr⟩ := bd hr
  refine .g1 G (ok0 (fN n x'.Groups v4 hc5)) (.mu 4 (.p0 (v := .pp (x'.Groups.flatMap (iC .u32)) ((CT ((x'.Groups.length : Int) - 1)).toNat * 1)) (tr (ar hg2)) (.p0 (v := bB (gt x'.Groups (CT ((x'.Groups.length : Int) - 1)))) (tr (aH (aK (aI .u32) (aD hg2) z1 (by omega : (CT ((x'.Groups.length : Int) - 1)).toNat * 1 = (CT ((x'.Groups.length : Int) - 1)).toNat * 1 + 0) (by kernel_rfl)))) (.p0 (v := aB true) (eB hb3) (.mu 3 (.ca cf0 (.mu 3 (.done (.ret ?_)))))))))
  obtain rfl := oi hr
  exact aJ.r1 [aB (!v4)]
 replace hr := cA hb3 hr
 refine .r0 G (.mu 4 (.p0 (v := .pp (x'.Groups.flatMap (iC .u32)) ((CT ((x'.Groups.length : Int) - 1)).toNat * 1)) (tr (ar hg2)) (.p0 (v := bB (gt x'.Groups (CT ((x'.Groups.length : Int) - 1)))) (tr (aH (aK (aI .u32) (aD hg2) z1 (by omega : (CT ((x'.Groups.length : Int) - 1)).toNat * 1 = (CT ((x'.Groups.length : Int) - 1)).toNat * 1 + 0) (by kernel_rfl)))) (.p0 (v := aB false) (eB hb3) (.mu 7 (.done (.ret ?_)))))))
 obtain rfl := oi hr
 exact aJ.r1 [aB false]

theorem qz (n : Nat) {n' : ai} {n'_ : ai} (h : ([.agg [.at (.bool n'.Negative), slT (iC .u32) n'.Groups]] : List AV) = [.agg [.at (.bool n'_.Negative), slT (iC .u32) n'_.Groups]]) : gu n n' = gu n n'_ := by
 obtain rfl := e8 h
 rfl
theorem mE (n : Nat) (n' : ai) (r : ai) (hr : gu n n' = some r) : aN Tryz.prog 190 [.agg (ai.c n')] (.agg (ai.c r)) := by
 unfold gu at hr
 refine aN.bd G Tryz.func190 [.cell 2 40] ?_
 unfold Tryz.f190
 simp only [gS]
 refine .seq (.r2 G 7 [(1, .hp 0 0), (2, .hp 1 0)] [.own (ai.c n'), .own [aB false, nS]] (.seq (.seq ?_)))
 obtain ⟨v1, hc2, hr⟩ := bd hr
 refine .g1 G (ok0 (fB n n' v1 hc2)) (.mu 1 (.ca cf0 (.done (.nh [1, 2, 4] [.own (ai.c n'), .own [aB false, nS]] ?_))))
 refine .cd hr ?_ ?_ <;> intro hb3 hr
 ·refine .seq (.r5 G [2] [] [.own (ai.c n'), .own (ai.c n')] (.ret ?_))
  obtain rfl := oi hr
  exact aJ.r1 [.agg (ai.c n')]
 refine .skip (.seq ?_)
 obtain ⟨v4, hc5, hr⟩ := bd hr
 refine .g1 G (ok0 (jo n 0 v4 hc5)) (.ca cf0 (.mu 1 (.done (.nh [2] [.own (ai.c n'), .own (ai.c v4)] (.ret ?_)))))
 obtain rfl := oi hr
 exact aJ.r1 [.agg (ai.c v4)]

theorem gY (n : Nat) {x' : ai} {x'_ : ai} (h : ([.agg [.at (.bool x'.Negative), slT (iC .u32) x'.Groups]] : List AV) = [.agg [.at (.bool x'_.Negative), slT (iC .u32) x'_.Groups]]) : bX n x' = bX n x'_ := by
 obtain rfl := e8 h
 rfl
theorem cE (n : Nat) (x' : ai) (r : List Int) (hr : bX n x' = some r) : aN Tryz.prog 162 [.agg (ai.c x')] (au r) := by
 unfold bX at hr
 refine aN.bd G Tryz.func162 [.tmp 2] ?_
 unfold Tryz.f162
 simp only [gS]
 refine .seq (.r2 G 8 [(1, .hp 0 0)] [.own (ai.c x')] (.seq (.seq ?_)))
 obtain ⟨v1, hc2, hr⟩ := bd hr
 refine .g1 G (ok0 (fB n x' v1 hc2)) (.mu 1 (.ca cf0 (.mu 1 (.done (.nh [1, 5] [.own (ai.c x')] ?_)))))
 refine .cd hr ?_ ?_ <;> intro hb3 hr
 ·refine .seq (.r3 G 8 [(2, nS)] (.ret ?_))
  obtain rfl := oi hr
  exact aJ.ret (vs := [nS]) (by kernel_rfl) Sn.cX
 refine .skip (.seq (.ru G (.ret ?_)))
 obtain rfl := oi hr
 exact aJ.r1 [au x'.Groups]

theorem tJ (n : Nat) {x' : ai} {x'_ : ai} (h : ([.agg [.at (.bool x'.Negative), slT (iC .u32) x'.Groups]] : List AV) = [.agg [.at (.bool x'_.Negative), slT (iC .u32) x'_.Groups]]) : dr n x' = dr n x'_ := by
 obtain rfl := e8 h
 rfl
theorem fW (n : Nat) (x' : ai) (r : Int) (hr : dr n x' = some r) : aN Tryz.prog 143 [.agg (ai.c x')] (ae r) := by
 unfold dr at hr
 refine aN.bd G Tryz.func143 [.tmp 2] ?_
 unfold Tryz.f143
 simp only [gS]
 refine .seq (.r2 G 11 [(1, .hp 0 0)] [.own (ai.c x')] (.seq (.block (.seq ?_))))
 obtain ⟨v1, hc2, hr⟩ := bd hr
 refine .g1 G (ok0 (cE n x' v1 hc2)) (.mu 1 (.ca cf0 (.mu 3 (.done (.nh [1, 3] [.own (ai.c x')] ?_)))))
 refine .cd hr ?_ ?_ <;> intro hb3 hr
 ·refine .seq (.ru G (.ret ?_))
  obtain rfl := oi hr
  exact aJ.r1 [ae 0]
 refine .seq (.r3 G 11 [(8, aB x'.Negative)] ?_)
 refine .cd hr ?_ ?_ <;> intro hb4 hr
 ·refine .seq (.ru G (.ret ?_))
  obtain rfl := oi hr
  exact aJ.r1 [ae (-1)]
 refine .skip (.pop (.seq (.ru G (.ret ?_))))
 obtain rfl := oi hr
 exact aJ.r1 [ae 1]

theorem fI (n : Nat) (s : List Int) (r : List Int) (hr : cH n s = some r) : aN Tryz.prog 183 [au s] (au r) := by
 unfold cH at hr
 refine aN.bd G Tryz.func183 [.tmp 2] ?_
 unfold Tryz.f183
 simp only [gS]
 refine .seq (.r4 G [0] [] (.seq (.seq ?_)))
 refine .AA (t := 0) (cs := s.flatMap (iC .u32)) (len := s.length) (by kernel_rfl) (fun hn3 => ?_) ?_
 ·obtain rfl : s = [] := List.length_eq_zero_iff.1 hn3
  have hx := gd hr; clear hr; obtain ⟨_, hr⟩ := hx
  have hx := gd hr; clear hr; obtain ⟨_, hr⟩ := hx
  refine .r4 G [0] [(4, aB true)] (.cT (by kernel_rfl) (.seq (.r3 G 8 [(2, nS)] (.ret ?_))))
  obtain rfl := oi hr
  exact aJ.ret (vs := [nS]) (by kernel_rfl) Sn.cX
 refine .r4 G [0] [(4, aB false)] (.cF (by kernel_rfl) (.skip (.seq ?_)))
 obtain ⟨hg1, hg2, hr⟩ := gd2 hr
 refine .r0 G (.mu 2 (.e0 (v := .hs 1 0 s.length 1) (ws := [(0, .dead), (1, .own (s.flatMap (iC .u32)))]) (tr (y := ya (decide (((s.flatMap (iC .u32))).length = s.length * 1)) (s.flatMap (iC .u32)) s.length (fun z1 z2 => n3 (decide (0 + 0 * 1 <= (([] : List Int).flatMap (iC .u32)).length) && decide ((0 + z2) * 4 <= 140737488355328) && decide (0 + z2 <= 4611686018427387904)) (some (.eff (.hs 1 0 (0 + z2) 1) [(0, .dead), (1, .own (((([] : List Int).flatMap (iC .u32)).drop 0).take (0 * 1) ++ z1))])))) (sL (mR (aI _)) rfl (fc (l := ([] : List Int)) (xs := s) (aI _) rfl rfl rfl hg1 hg2))) (.mu 1 (.done (.nh [2] [.dead, .own (s.flatMap (iC .u32))] (.ret ?_))))))
 obtain rfl := oi hr
 exact aJ.ret (vs := [.hs 1 0 s.length 1]) (by kernel_rfl) (Sn.hs rfl (.inl rfl) (SnC.pure (bc (aF _) _)) (fun h => cP h))

theorem gE (n : Nat) {x' : ai} {x'_ : ai} (h : ([.agg [.at (.bool x'.Negative), slT (iC .u32) x'.Groups]] : List AV) = [.agg [.at (.bool x'_.Negative), slT (iC .u32) x'_.Groups]]) : eQ n x' = eQ n x'_ := by
 obtain rfl := e8 h
 rfl
theorem gz (n : Nat) (x' : ai) (r : ai) (hr : eQ n x' = some r) : aN Tryz.prog 158 [.agg (ai.c x')] (.agg (ai.c r)) := by
 unfold eQ at hr
 refine aN.bd G Tryz.func158 [.cell 2 40] ?_
 unfold Tryz.f158
 simp only [gS]
 refine .seq (.r2 G 10 [(1, .hp 0 0), (2, .hp 1 0)] [.own (ai.c x'), .own [aB false, nS]] (.seq ?_))
 obtain ⟨v1, hc2, v3, hc4, v5, hc6, hr⟩ := bd3 hr
 refine .tn G (ca1 (ok0 (cE n x' v1 hc2)) (ca1 (ok0 (fI n v1 v3 hc4)) (ca3 (ok0 (cq n (!x'.Negative) v3 v5 hc6))))) (.mu 4 (.ca cf0 (.ca (cfF cf0) (.ca (cfF (cfF cf0)) (.mu 1 ?_)))))
 refine .done ⟨by kernel_rfl, ?_⟩
 refine .nh [2] [.own (ai.c x'), .own (ai.c v5)] (.ret ?_)
 obtain rfl := oi hr
 exact aJ.r1 [.agg (ai.c v5)]




theorem sA (n : Nat) (a : List Int) (b : List Int) (r : List Int) (hr : jl n a b = some r) : aN Tryz.prog 161 [au a, au b] (au r) := by
 unfold jl at hr
 refine aN.bd G Tryz.func161 [.tmp 4] ?_
 unfold Tryz.f161
 simp only [gS]
 refine .seq (.r4 G [0, 1] [] (.seq ?_))
 obtain ⟨hg1, hg2, hg3, hr⟩ := gd3 hr
 refine .r0 G (.mu 5 (.e0 (v := .hs 0 0 (List.replicate (CT ((a.length : Int) + (b.length : Int))).toNat ((0 : Int) : Int)).length 1) (ws := [(0, .own ((List.replicate (CT ((a.length : Int) + (b.length : Int))).toNat ((0 : Int) : Int)).flatMap (iC .u32)))]) (tr (l8 (c := (iC .u32)) (z := (0 : Int)) (n := CT ((a.length : Int) + (b.length : Int))) (by_ := 4) rfl hg1 hg2 hg3)) (.mu 1 (.done (.nh [0, 1, 5] [.own ((List.replicate (CT ((a.length : Int) + (b.length : Int))).toNat ((0 : Int) : Int)).flatMap (iC .u32))] (.seq (.seq (.r4 G [1, 5] [(18, au a), (19, ae (a.length : Int)), (20, ae 0)] (.block ?_)))))))))
 replace hr := bd hr; obtain ⟨o_24, hL45, hr⟩ := hr
 refine .aO (σ := fun z0 => match z0 with | (o_4, x_5) => ⟨mkS 69 0 [(1, au b), (5, .hs 0 0 o_4.length 1), (18, au a), (19, ae (a.length : Int)), (20, ae x_5)], [.own (o_4.flatMap (iC .u32))]⟩) (Q := fun x st' => x = .exit 0 /\ Wk 0 st' ⟨mkS 69 0 [(5, .hs 0 0 o_24.length 1)], [.own (o_24.flatMap (iC .u32))]⟩) hL45 ((Wk.gc [1, 5, 18, 19, 20] [(0, false)] rfl (pKo (iC .u32) (aF _) (List.replicate (CT ((a.length : Int) + (b.length : Int))).toNat ((0 : Int) : Int)) trivial)).to) ?_ ?_
 ·clear hr
  rintro m ⟨o_4, x_5⟩ hr
  show CQ _ _ _ _ _ ⟨_, _⟩
  refine .seq (.r4 G [1, 5, 18, 19, 20] [(21, aB (decide (x_5 < (a.length : Int))))] (.seq ?_))
  refine .cd hr ?_ ?_ <;> intro hb26 hr
  ·refine .skip (.seq (.block (.seq ?_)))
   obtain ⟨hg27, hr⟩ := gd hr
   refine .r0 G (.mu 1 (.p0 (v := .pp (a.flatMap (iC .u32)) (x_5.toNat * 1)) (tr (ar hg27)) (.p0 (v := bB (gt a x_5)) (tr (aH (aK (aI .u32) (aD hg27) z1 (by omega : x_5.toNat * 1 = x_5.toNat * 1 + 0) (by kernel_rfl)))) (.mu 2 (.done (.nh [1, 5, 6, 7, 18, 19, 20] [.own (o_4.flatMap (iC .u32))] (.seq (.r4 G [1, 5, 6, 7, 18, 19, 20] [(8, cZ 0)] (.seq (.seq (.r4 G [1, 5, 6, 7, 8, 18, 19, 20] [(25, au b), (26, ae (b.length : Int)), (27, ae 0)] (.block ?_))))))))))))
   replace hr := bd hr; obtain ⟨o40, hL41, hr⟩ := hr
   refine .aO (σ := fun z0 => match z0 with | (o_28, c_29, x_30) => ⟨mkS 69 0 [(1, au b), (5, .hs 0 0 o_28.length 1), (6, ae x_5), (7, bB (gt a x_5)), (8, cZ c_29), (18, au a), (19, ae (a.length : Int)), (20, ae x_5), (25, au b), (26, ae (b.length : Int)), (27, ae x_30)], [.own (o_28.flatMap (iC .u32))]⟩) (Q := fun x st' => match (generalizing := false) o40 with | (o_34, c_35) => x = .exit 2 /\ Wk 0 st' ⟨mkS 69 0 [(1, au b), (5, .hs 0 0 o_34.length 1), (6, ae x_5), (8, cZ c_35), (18, au a), (19, ae (a.length : Int)), (20, ae x_5)], [.own (o_34.flatMap (iC .u32))]⟩) hL41 ((Wk.gc [1, 5, 6, 7, 8, 18, 19, 20, 25, 26, 27] [(0, false)] rfl (pKo (iC .u32) (aF _) o_4 trivial)).to) ?_ ?_
   ·clear hr
    rintro m ⟨o_28, c_29, x_30⟩ hr
    show CQ _ _ _ _ _ ⟨_, _⟩
    refine .seq (.r4 G [1, 5, 6, 7, 8, 18, 19, 20, 25, 26, 27] [(28, aB (decide (x_30 < (b.length : Int))))] (.seq ?_))
    refine .cd hr ?_ ?_ <;> intro hb37 hr
    ·refine .skip (.seq (.block (.seq ?_)))
     obtain ⟨hg38, hr⟩ := gd hr
     refine .r0 G (.mu 1 (.p0 (v := .pp (b.flatMap (iC .u32)) (x_30.toNat * 1)) (tr (ar hg38)) (.p0 (v := bB (gt b x_30)) (tr (aH (aK (aI .u32) (aD hg38) z1 (by omega : x_30.toNat * 1 = x_30.toNat * 1 + 0) (by kernel_rfl)))) (.mu 2 (.done (.nh [1, 5, 6, 7, 8, 9, 10, 18, 19, 20, 25, 26, 27] [.own (o_28.flatMap (iC .u32))] (.seq ?_)))))))
     obtain ⟨hg39, hr⟩ := gd hr
     refine .r0 G (.mu 4 (.p0 (v := .hp 0 (0 + (CT (x_5 + x_30)).toNat * 1)) (tr (ar hg39)) (.p0 (v := bB (gt o_28 (CT (x_5 + x_30)))) (tr (aH (aK (aI .u32) (aD hg39) z1 (by omega : 0 + (CT (x_5 + x_30)).toNat * 1 = (CT (x_5 + x_30)).toNat * 1 + 0) (by kernel_rfl)))) (.mu 10 (.done (.nh [1, 5, 6, 7, 9, 11, 18, 19, 20, 25, 26, 27] [.own (o_28.flatMap (iC .u32))] (.r0 G (.mu 9 (.p0 (v := .hp 0 (0 + (CT (x_5 + x_30)).toNat * 1)) (tr (ar hg39)) (.e0 (v := .unk) (ws := [(0, .own ((o_28.set (CT (x_5 + x_30)).toNat (aa .u32 ((aa .u64 ((aa .u64 ((aa .u64 (gt o_28 (CT (x_5 + x_30)))) + (aa .u64 ((aa .u64 (gt a x_5)) * (aa .u64 (gt b x_30)))))) + c_29)).tmod 1000000000))).flatMap (iC .u32)))]) (tr (iF (iH (cD (n := 1) (aI .u32) (aD hg39) (lbT rfl) (by omega : 0 + (CT (x_5 + x_30)).toNat * 1 = (CT (x_5 + x_30)).toNat * 1 + 0))) (congrArg Blk.own (c7 (xs := [bB (aa .u32 ((aa .u64 ((aa .u64 ((aa .u64 (gt o_28 (CT (x_5 + x_30)))) + (aa .u64 ((aa .u64 (gt a x_5)) * (aa .u64 (gt b x_30)))))) + c_29)).tmod 1000000000))]) (aI .u32) (aD hg39) (lbT rfl) (by omega : 0 + (CT (x_5 + x_30)).toNat * 1 = (CT (x_5 + x_30)).toNat * 1 + 0) (by kernel_rfl))))) (.mu 1 (.done (.pop (.ru G ?_))))))))))))))
     exact aA (o_28.set (CT (x_5 + x_30)).toNat (aa .u32 ((aa .u64 ((aa .u64 ((aa .u64 (gt o_28 (CT (x_5 + x_30)))) + (aa .u64 ((aa .u64 (gt a x_5)) * (aa .u64 (gt b x_30)))))) + c_29)).tmod 1000000000)), aa .u64 ((aa .u64 ((aa .u64 ((aa .u64 (gt o_28 (CT (x_5 + x_30)))) + (aa .u64 ((aa .u64 (gt a x_5)) * (aa .u64 (gt b x_30)))))) + c_29)).tdiv 1000000000), CT (x_30 + 1)) hr ((Wk.iJ 5 (b := 0) (es := 1) (len := o_28.length) (o_28.set (CT (x_5 + x_30)).toNat (aa .u32 ((aa .u64 ((aa .u64 ((aa .u64 (gt o_28 (CT (x_5 + x_30)))) + (aa .u64 ((aa .u64 (gt a x_5)) * (aa .u64 (gt b x_30)))))) + c_29)).tmod 1000000000))).length (by kernel_rfl) (Eq.symm (List.length_set.trans rfl))).trans ((Wk.gc [1, 5, 6, 7, 8, 18, 19, 20, 25, 26, 27] [(0, false)] rfl (pKo (iC .u32) (aF _) (o_28.set (CT (x_5 + x_30)).toNat (aa .u32 ((aa .u64 ((aa .u64 ((aa .u64 (gt o_28 (CT (x_5 + x_30)))) + (aa .u64 ((aa .u64 (gt a x_5)) * (aa .u64 (gt b x_30)))))) + c_29)).tmod 1000000000))) trivial)).to))
    refine .leave rfl ?_
    obtain rfl := oi hr
    exact ⟨rfl, ((Wk.gc [1, 5, 6, 8, 18, 19, 20] [(0, false)] rfl (pKo (iC .u32) (aF _) o_28 trivial)).to)⟩
   rcases o40 with ⟨o_34, c_35⟩
   rintro x st' hq42
   clear hL41
   obtain ⟨rfl, hq42⟩ := hq42
   refine a9 _ rfl (.wk hq42 ?_)
   obtain ⟨hg43, hr⟩ := gd hr
   refine .r0 G (.mu 7 (.p0 (v := .hp 0 (0 + (CT (x_5 + (b.length : Int))).toNat * 1)) (tr (ar hg43)) (.e0 (v := .unk) (ws := [(0, .own ((o_34.set (CT (x_5 + (b.length : Int))).toNat (aa .u32 c_35)).flatMap (iC .u32)))]) (tr (iF (iH (cD (n := 1) (aI .u32) (aD hg43) (lbT rfl) (by omega : 0 + (CT (x_5 + (b.length : Int))).toNat * 1 = (CT (x_5 + (b.length : Int))).toNat * 1 + 0))) (congrArg Blk.own (c7 (xs := [bB (aa .u32 c_35)]) (aI .u32) (aD hg43) (lbT rfl) (by omega : 0 + (CT (x_5 + (b.length : Int))).toNat * 1 = (CT (x_5 + (b.length : Int))).toNat * 1 + 0) (by kernel_rfl))))) (.done (.pop (.ru G ?_))))))
   exact aA (o_34.set (CT (x_5 + (b.length : Int))).toNat (aa .u32 c_35), CT (x_5 + 1)) hr ((Wk.iJ 5 (b := 0) (es := 1) (len := o_34.length) (o_34.set (CT (x_5 + (b.length : Int))).toNat (aa .u32 c_35)).length (by kernel_rfl) (Eq.symm (List.length_set.trans rfl))).trans ((Wk.gc [1, 5, 18, 19, 20] [(0, false)] rfl (pKo (iC .u32) (aF _) (o_34.set (CT (x_5 + (b.length : Int))).toNat (aa .u32 c_35)) trivial)).to))
  refine .leave rfl ?_
  obtain rfl := oi hr
  exact ⟨rfl, ((Wk.gc [5] [(0, false)] rfl (pKo (iC .u32) (aF _) o_4 trivial)).to)⟩
 rintro x st' hq46
 clear hL45
 obtain ⟨rfl, hq46⟩ := hq46
 refine a9 _ rfl (.wk hq46 (.seq ?_))
 obtain ⟨v47, hc48, hr⟩ := bd hr
 refine .g1 G (cR (args := [.hs 0 0 o_24.length 1]) (l := [0]) (SnL.cons (Sn.hs rfl (.inl rfl) (SnC.pure (bc (aF _) _)) (fun h => cP h)) SnL.nil) (gT n o_24 v47 hc48)) (.mu 1 (.ca cf0 (.mu 1 (.done (.ret ?_)))))
 obtain rfl := oi hr
 exact aJ.r1 [au v47]

theorem rW (n : Nat) (g : List Int) (r : List Int) (hr : mZ n g = some r) : ef 1 Tryz.prog 184 [.hs 0 0 g.length 1] [.own (g.flatMap (iC .u32))] (.hs 0 0 r.length 1) [.own (r.flatMap (iC .u32))] := by
 unfold mZ at hr
 refine ef.kE G Tryz.func184 (c := (Tryz.f184.body).getD .skip) rfl (us := [.hs 0 0 r.length 1]) (s := mkS 21 0 [(0, .hs 0 0 g.length 1)]) (by kernel_rfl) (rs := [.tmp 2]) rfl ?_
 unfold Tryz.f184
 simp only [gS]
 refine .seq (.r4 G [0] [] (.seq (.block ?_)))
 replace hr := bd hr; obtain ⟨g_21, hL28, hr⟩ := hr
 refine .aO (σ := fun z0 => match z0 with | g_16 => ⟨mkS 21 0 [(0, .hs 0 0 g_16.length 1)], [.own (g_16.flatMap (iC .u32))]⟩) (Q := fun x st' => x = .exit 0 /\ Wk 1 st' ⟨mkS 21 0 [(0, .hs 0 0 g_21.length 1)], [.own (g_21.flatMap (iC .u32))]⟩) hL28 ((Wk.gc [0] [(0, false)] rfl (pKo (iC .u32) (aF _) g trivial)).to) ?_ ?_
 ·clear hr
  rintro m g_16 hr
  show CQ _ _ _ _ _ ⟨_, _⟩
  refine .seq (.seq ?_)
  rcases bT (decide ((g_16.length : Int) > 0)) with hb23 | hb23
  ·replace hr := cy hb23 hr
   obtain ⟨hg24, hr⟩ := gd hr
   refine .r0 G (.mu 2 (.p0 (v := aB true) (eB hb23) (.mu 5 (.pure (v := .hp 0 (0 + (CT ((g_16.length : Int) - 1)).toNat * 1)) (by kernel_rfl) (tr (ar hg24)) (.pure (v := bB (gt g_16 (CT ((g_16.length : Int) - 1)))) (by kernel_rfl) (tr (aH (aK (aI .u32) (aD hg24) z1 (by omega : 0 + (CT ((g_16.length : Int) - 1)).toNat * 1 = (CT ((g_16.length : Int) - 1)).toNat * 1 + 0) (by kernel_rfl)))) (.mu 2 (.done (.nh [0, 14] [.own (g_16.flatMap (iC .u32))] ?_))))))))
   refine .cd hr ?_ ?_ <;> intro hb25 hr
   ·refine .skip (.block ?_)
    obtain ⟨hg26, hr⟩ := gd hr
    refine .r0 G (.mu 4 (.p0 (v := .hs 0 0 (CT ((g_16.length : Int) - 1)).toNat 1) (tr (y := slH (inS 0 (CT ((g_16.length : Int) - 1)) g_16.length) true ((0 : Int).toNat) ((CT ((g_16.length : Int) - 1)).toNat) (fun z1 z2 => .hs 0 (0 + z1 * 1) (z2 - z1) 1)) (zY hg26 (by kernel_rfl))) (.mu 1 (.done (.pop ?_)))))
    exact aA (g_16.take (CT ((g_16.length : Int) - 1)).toNat) hr ((Wk.CI (c := (iC .u32)) (es := 1) 0 0 (aI _) g_16 (CT ((g_16.length : Int) - 1)).toNat (pR hg26) (by kernel_rfl) (by kernel_rfl)).trans ((Wk.gc [0] [(0, false)] rfl (pKo (iC .u32) (aF _) (g_16.take (CT ((g_16.length : Int) - 1)).toNat) trivial)).to))
   refine .leave rfl ?_
   obtain rfl := oi hr
   exact ⟨rfl, ((Wk.gc [0] [(0, false)] rfl (pKo (iC .u32) (aF _) g_16 trivial)).to)⟩
  replace hr := cA hb23 hr
  refine .r0 G (.mu 2 (.p0 (v := aB false) (eB hb23) (.mu 9 (.done (.nh [0, 14] [.own (g_16.flatMap (iC .u32))] (.cF (by kernel_rfl) (.leave rfl ?_)))))))
  obtain rfl := oi hr
  exact ⟨rfl, ((Wk.gc [0] [(0, false)] rfl (pKo (iC .u32) (aF _) g_16 trivial)).to)⟩
 rintro x st' hq29
 clear hL28
 obtain ⟨rfl, hq29⟩ := hq29
 refine a9 _ rfl (.wk hq29 (.seq (.r3 G 21 [(2, .hs 0 0 g_21.length 1)] (.ret ?_))))
 obtain rfl := oi hr
 exact eE.ret [.hs 0 0 g_21.length 1] ((Wk.gc [0] [(0, false)] rfl (pKo (iC .u32) (aF _) g_21 trivial)).to)

theorem nj (n : Nat) (a : List Int) (b : List Int) (r : List Int) (hr : jh n a b = some r) : ef 1 Tryz.prog 161 [au a, .hs 0 0 b.length 1] [.own (b.flatMap (iC .u32))] (.hs 1 0 r.length 1) [.own (b.flatMap (iC .u32)), .own (r.flatMap (iC .u32))] := by
 unfold jh at hr
 refine ef.kE G Tryz.func161 (c := (Tryz.f161.body).getD .skip) rfl (us := [.hs 1 0 r.length 1]) (s := mkS 69 0 [(0, au a), (1, .hs 0 0 b.length 1)]) (by kernel_rfl) (rs := [.tmp 4]) rfl ?_
 unfold Tryz.f161
 simp only [gS]
 refine .seq (.r4 G [0, 1] [] (.seq ?_))
 obtain ⟨hg50, hg51, hg52, hr⟩ := gd3 hr
 refine .r0 G (.mu 5 (.e0 (v := .hs 1 0 (List.replicate (CT ((a.length : Int) + (b.length : Int))).toNat ((0 : Int) : Int)).length 1) (ws := [(1, .own ((List.replicate (CT ((a.length : Int) + (b.length : Int))).toNat ((0 : Int) : Int)).flatMap (iC .u32)))]) (tr (l8 (c := (iC .u32)) (z := (0 : Int)) (n := CT ((a.length : Int) + (b.length : Int))) (by_ := 4) rfl hg50 hg51 hg52)) (.mu 1 (.done (.nh [0, 1, 5] [.own (b.flatMap (iC .u32)), .own ((List.replicate (CT ((a.length : Int) + (b.length : Int))).toNat ((0 : Int) : Int)).flatMap (iC .u32))] (.seq (.seq (.r4 G [1, 5] [(18, au a), (19, ae (a.length : Int)), (20, ae 0)] (.block ?_)))))))))
 replace hr := bd hr; obtain ⟨o_73, hL94, hr⟩ := hr
 refine .aO (σ := fun z0 => match z0 with | (o_53, x_54) => ⟨mkS 69 0 [(1, .hs 0 0 b.length 1), (5, .hs 1 0 o_53.length 1), (18, au a), (19, ae (a.length : Int)), (20, ae x_54)], [.own (b.flatMap (iC .u32)), .own (o_53.flatMap (iC .u32))]⟩) (Q := fun x st' => x = .exit 0 /\ Wk 1 st' ⟨mkS 69 0 [(5, .hs 1 0 o_73.length 1)], [.own (b.flatMap (iC .u32)), .own (o_73.flatMap (iC .u32))]⟩) hL94 ((Wk.gc [1, 5, 18, 19, 20] [(0, false), (1, false)] rfl (pKo (iC .u32) (aF _) b (pKo (iC .u32) (aF _) (List.replicate (CT ((a.length : Int) + (b.length : Int))).toNat ((0 : Int) : Int)) trivial))).to) ?_ ?_
 ·clear hr
  rintro m ⟨o_53, x_54⟩ hr
  show CQ _ _ _ _ _ ⟨_, _⟩
  refine .seq (.r4 G [1, 5, 18, 19, 20] [(21, aB (decide (x_54 < (a.length : Int))))] (.seq ?_))
  refine .cd hr ?_ ?_ <;> intro hb75 hr
  ·refine .skip (.seq (.block (.seq ?_)))
   obtain ⟨hg76, hr⟩ := gd hr
   refine .r0 G (.mu 1 (.p0 (v := .pp (a.flatMap (iC .u32)) (x_54.toNat * 1)) (tr (ar hg76)) (.p0 (v := bB (gt a x_54)) (tr (aH (aK (aI .u32) (aD hg76) z1 (by omega : x_54.toNat * 1 = x_54.toNat * 1 + 0) (by kernel_rfl)))) (.mu 2 (.done (.nh [1, 5, 6, 7, 18, 19, 20] [.own (b.flatMap (iC .u32)), .own (o_53.flatMap (iC .u32))] (.seq (.r4 G [1, 5, 6, 7, 18, 19, 20] [(8, cZ 0)] (.seq (.seq (.r4 G [1, 5, 6, 7, 8, 18, 19, 20] [(25, .hs 0 0 b.length 1), (26, ae (b.length : Int)), (27, ae 0)] (.block ?_))))))))))))
   replace hr := bd hr; obtain ⟨o89, hL90, hr⟩ := hr
   refine .aO (σ := fun z0 => match z0 with | (o_77, c_78, x_79) => ⟨mkS 69 0 [(1, .hs 0 0 b.length 1), (5, .hs 1 0 o_77.length 1), (6, ae x_54), (7, bB (gt a x_54)), (8, cZ c_78), (18, au a), (19, ae (a.length : Int)), (20, ae x_54), (25, .hs 0 0 b.length 1), (26, ae (b.length : Int)), (27, ae x_79)], [.own (b.flatMap (iC .u32)), .own (o_77.flatMap (iC .u32))]⟩) (Q := fun x st' => match (generalizing := false) o89 with | (o_83, c_84) => x = .exit 2 /\ Wk 1 st' ⟨mkS 69 0 [(1, .hs 0 0 b.length 1), (5, .hs 1 0 o_83.length 1), (6, ae x_54), (8, cZ c_84), (18, au a), (19, ae (a.length : Int)), (20, ae x_54)], [.own (b.flatMap (iC .u32)), .own (o_83.flatMap (iC .u32))]⟩) hL90 ((Wk.gc [1, 5, 6, 7, 8, 18, 19, 20, 25, 26, 27] [(0, false), (1, false)] rfl (pKo (iC .u32) (aF _) b (pKo (iC .u32) (aF _) o_53 trivial))).to) ?_ ?_
   ·clear hr
    rintro m ⟨o_77, c_78, x_79⟩ hr
    show CQ _ _ _ _ _ ⟨_, _⟩
    refine .seq (.r4 G [1, 5, 6, 7, 8, 18, 19, 20, 25, 26, 27] [(28, aB (decide (x_79 < (b.length : Int))))] (.seq ?_))
    refine .cd hr ?_ ?_ <;> intro hb86 hr
    ·refine .skip (.seq (.block (.seq ?_)))
     obtain ⟨hg87, hr⟩ := gd hr
     refine .r0 G (.mu 1 (.p0 (v := .hp 0 (0 + x_79.toNat * 1)) (tr (ar hg87)) (.p0 (v := bB (gt b x_79)) (tr (aH (aK (aI .u32) (aD hg87) z1 (by omega : 0 + x_79.toNat * 1 = x_79.toNat * 1 + 0) (by kernel_rfl)))) (.mu 2 (.done (.nh [1, 5, 6, 7, 8, 9, 10, 18, 19, 20, 25, 26, 27] [.own (b.flatMap (iC .u32)), .own (o_77.flatMap (iC .u32))] (.seq ?_)))))))
     obtain ⟨hg88, hr⟩ := gd hr
     refine .r0 G (.mu 4 (.p0 (v := .hp 1 (0 + (CT (x_54 + x_79)).toNat * 1)) (tr (ar hg88)) (.p0 (v := bB (gt o_77 (CT (x_54 + x_79)))) (tr (aH (aK (aI .u32) (aD hg88) z1 (by omega : 0 + (CT (x_54 + x_79)).toNat * 1 = (CT (x_54 + x_79)).toNat * 1 + 0) (by kernel_rfl)))) (.mu 10 (.done (.nh [1, 5, 6, 7, 9, 11, 18, 19, 20, 25, 26, 27] [.own (b.flatMap (iC .u32)), .own (o_77.flatMap (iC .u32))] (.r0 G (.mu 9 (.p0 (v := .hp 1 (0 + (CT (x_54 + x_79)).toNat * 1)) (tr (ar hg88)) (.e0 (v := .unk) (ws := [(1, .own ((o_77.set (CT (x_54 + x_79)).toNat (aa .u32 ((aa .u64 ((aa .u64 ((aa .u64 (gt o_77 (CT (x_54 + x_79)))) + (aa .u64 ((aa .u64 (gt a x_54)) * (aa .u64 (gt b x_79)))))) + c_78)).tmod 1000000000))).flatMap (iC .u32)))]) (tr (iF (iH (cD (n := 1) (aI .u32) (aD hg88) (lbT rfl) (by omega : 0 + (CT (x_54 + x_79)).toNat * 1 = (CT (x_54 + x_79)).toNat * 1 + 0))) (congrArg Blk.own (c7 (xs := [bB (aa .u32 ((aa .u64 ((aa .u64 ((aa .u64 (gt o_77 (CT (x_54 + x_79)))) + (aa .u64 ((aa .u64 (gt a x_54)) * (aa .u64 (gt b x_79)))))) + c_78)).tmod 1000000000))]) (aI .u32) (aD hg88) (lbT rfl) (by omega : 0 + (CT (x_54 + x_79)).toNat * 1 = (CT (x_54 + x_79)).toNat * 1 + 0) (by kernel_rfl))))) (.mu 1 (.done (.pop (.ru G ?_))))))))))))))
     exact aA (o_77.set (CT (x_54 + x_79)).toNat (aa .u32 ((aa .u64 ((aa .u64 ((aa .u64 (gt o_77 (CT (x_54 + x_79)))) + (aa .u64 ((aa .u64 (gt a x_54)) * (aa .u64 (gt b x_79)))))) + c_78)).tmod 1000000000)), aa .u64 ((aa .u64 ((aa .u64 ((aa .u64 (gt o_77 (CT (x_54 + x_79)))) + (aa .u64 ((aa .u64 (gt a x_54)) * (aa .u64 (gt b x_79)))))) + c_78)).tdiv 1000000000), CT (x_79 + 1)) hr ((Wk.iJ 5 (b := 1) (es := 1) (len := o_77.length) (o_77.set (CT (x_54 + x_79)).toNat (aa .u32 ((aa .u64 ((aa .u64 ((aa .u64 (gt o_77 (CT (x_54 + x_79)))) + (aa .u64 ((aa .u64 (gt a x_54)) * (aa .u64 (gt b x_79)))))) + c_78)).tmod 1000000000))).length (by kernel_rfl) (Eq.symm (List.length_set.trans rfl))).trans ((Wk.gc [1, 5, 6, 7, 8, 18, 19, 20, 25, 26, 27] [(0, false), (1, false)] rfl (pKo (iC .u32) (aF _) b (pKo (iC .u32) (aF _) (o_77.set (CT (x_54 + x_79)).toNat (aa .u32 ((aa .u64 ((aa .u64 ((aa .u64 (gt o_77 (CT (x_54 + x_79)))) + (aa .u64 ((aa .u64 (gt a x_54)) * (aa .u64 (gt b x_79)))))) + c_78)).tmod 1000000000))) trivial))).to))
    refine .leave rfl ?_
    obtain rfl := oi hr
    exact ⟨rfl, ((Wk.gc [1, 5, 6, 8, 18, 19, 20] [(0, false), (1, false)] rfl (pKo (iC .u32) (aF _) b (pKo (iC .u32) (aF _) o_77 trivial))).to)⟩
   rcases o89 with ⟨o_83, c_84⟩
   rintro x st' hq91
   clear hL90
   obtain ⟨rfl, hq91⟩ := hq91
   refine a9 _ rfl (.wk hq91 ?_)
   obtain ⟨hg92, hr⟩ := gd hr
   refine .r0 G (.mu 7 (.p0 (v := .hp 1 (0 + (CT (x_54 + (b.length : Int))).toNat * 1)) (tr (ar hg92)) (.e0 (v := .unk) (ws := [(1, .own ((o_83.set (CT (x_54 + (b.length : Int))).toNat (aa .u32 c_84)).flatMap (iC .u32)))]) (tr (iF (iH (cD (n := 1) (aI .u32) (aD hg92) (lbT rfl) (by omega : 0 + (CT (x_54 + (b.length : Int))).toNat * 1 = (CT (x_54 + (b.length : Int))).toNat * 1 + 0))) (congrArg Blk.own (c7 (xs := [bB (aa .u32 c_84)]) (aI .u32) (aD hg92) (lbT rfl) (by omega : 0 + (CT (x_54 + (b.length : Int))).toNat * 1 = (CT (x_54 + (b.length : Int))).toNat * 1 + 0) (by kernel_rfl))))) (.done (.pop (.ru G ?_))))))
   exact aA (o_83.set (CT (x_54 + (b.length : Int))).toNat (aa .u32 c_84), CT (x_54 + 1)) hr ((Wk.iJ 5 (b := 1) (es := 1) (len := o_83.length) (o_83.set (CT (x_54 + (b.length : Int))).toNat (aa .u32 c_84)).length (by kernel_rfl) (Eq.symm (List.length_set.trans rfl))).trans ((Wk.gc [1, 5, 18, 19, 20] [(0, false), (1, false)] rfl (pKo (iC .u32) (aF _) b (pKo (iC .u32) (aF _) (o_83.set (CT (x_54 + (b.length : Int))).toNat (aa .u32 c_84)) trivial))).to))
  refine .leave rfl ?_
  obtain rfl := oi hr
  exact ⟨rfl, ((Wk.gc [5] [(0, false), (1, false)] rfl (pKo (iC .u32) (aF _) b (pKo (iC .u32) (aF _) o_53 trivial))).to)⟩
 rintro x st' hq95
 clear hL94
 obtain ⟨rfl, hq95⟩ := hq95
 refine a9 _ rfl (.wk hq95 (.seq ?_))
 obtain ⟨v96, hc97, hr⟩ := bd hr
 refine .g1 G (cC (args := [.hs 1 0 o_73.length 1]) 1 0 [(1, false)] [false] (rW n o_73 v96 hc97) (by exact ⟨bc (aF _) _, trivial⟩) (by exact ⟨bc (aF _) _, trivial⟩) rfl rfl (by kernel_rfl) (by kernel_rfl)) (.mu 1 (.ca cf0 (.mu 1 (.done (.nh [4] [.own (b.flatMap (iC .u32)), .own (v96.flatMap (iC .u32))] (.ret ?_))))))
 obtain rfl := oi hr
 exact eE.ret [.hs 1 0 v96.length 1] ((Wk.gc [0] [(0, false), (1, false)] rfl (pKo (iC .u32) (aF _) b (pKo (iC .u32) (aF _) v96 trivial))).to)

theorem pJ {g : List Int} {i : Int} {g_ : List Int} {i_ : Int} (h : ([slT (iC .u32) g, .at (.int .i64 i)] : List AV) = [slT (iC .u32) g_, .at (.int .i64 i_)]) : g = g_ /\ i = i_ := by
 simp only [List.cons.injEq, AV.agg.injEq, AV.at.injEq, Value.int.injEq, Value.bool.injEq, AV.fn.injEq, AV.pp.injEq, true_and, and_true, eU] at h
 simp_all
theorem uW (n : Nat) {g : List Int} {i : Int} {g_ : List Int} {i_ : Int} (h : ([slT (iC .u32) g, .at (.int .i64 i)] : List AV) = [slT (iC .u32) g_, .at (.int .i64 i_)]) : gx n g i = gx n g_ i_ := by
 obtain ⟨rfl, rfl⟩ := pJ h
 rfl
theorem lR (n : Nat) (g : List Int) (i : Int) (r : Int) (hr : gx n g i = some r) : aN Tryz.prog 203 [au g, ae i] (bB r) := by
 unfold gx at hr
 refine aN.bd G Tryz.func203 [.tmp 4] ?_
 unfold Tryz.f203
 simp only [gS]
 refine .seq (.r4 G [0, 1] [] (.seq (.seq (.r4 G [0, 1] [(8, aB (decide (i < (g.length : Int))))] ?_))))
 refine .cd hr ?_ ?_ <;> intro hb1 hr
 ·refine .seq ?_
  obtain ⟨hg2, hr⟩ := gd hr
  refine .r0 G (.mu 2 (.p0 (v := .pp (g.flatMap (iC .u32)) (i.toNat * 1)) (tr (ar hg2)) (.p0 (v := bB (gt g i)) (tr (aH (aK (aI .u32) (aD hg2) z1 (by omega : i.toNat * 1 = i.toNat * 1 + 0) (by kernel_rfl)))) (.mu 1 (.done (.ret ?_))))))
  obtain rfl := oi hr
  exact aJ.r1 [bB (gt g i)]
 refine .skip (.seq (.ru G (.ret ?_)))
 obtain rfl := oi hr
 exact aJ.r1 [bB 0]

theorem pq (n : Nat) (a : List Int) (b : List Int) (r : List Int × List Int) (hr : iV n a b = some r) : aN Tryz.prog 202 [au a, au b] (.tup [au r.1, au r.2]) := by
 unfold iV at hr
 refine aN.bd G Tryz.func202 [.tmp 4, .tmp 5] ?_
 unfold Tryz.f202
 simp only [gS]
 refine .seq (.r4 G [0, 1] [] (.seq ?_))
 obtain ⟨hg1, hg2, hr⟩ := gd2 hr
 refine .r0 G (.mu 4 (.p0 (v := .pp (b.flatMap (iC .u32)) ((CT ((b.length : Int) - 1)).toNat * 1)) (tr (ar hg1)) (.p0 (v := bB (gt b (CT ((b.length : Int) - 1)))) (tr (aH (aK (aI .u32) (aD hg1) z1 (by omega : (CT ((b.length : Int) - 1)).toNat * 1 = (CT ((b.length : Int) - 1)).toNat * 1 + 0) (by kernel_rfl)))) (.mu 2 (.p0 (v := cZ (aa .u64 ((1000000000 : Int).tdiv (aa .u64 ((aa .u64 (gt b (CT ((b.length : Int) - 1)))) + 1))))) (pd (x := 1000000000) (y := aa .u64 ((aa .u64 (gt b (CT ((b.length : Int) - 1)))) + 1)) (by kernel_rfl) (by kernel_rfl) hg2) (.mu 2 (.done (.nh [0, 1, 6] [] (.seq ?_)))))))))
 obtain ⟨v3, hc4, hr⟩ := bd hr
 refine .gn G (ca4 [.own [bB (aa .u32 (aa .u64 ((1000000000 : Int).tdiv (aa .u64 ((aa .u64 (gt b (CT ((b.length : Int) - 1)))) + 1)))))]] (cC (args := [au a, .hs 0 0 1 1]) 1 1 [(0, false)] [false, false] (nj n a [aa .u32 (aa .u64 ((1000000000 : Int).tdiv (aa .u64 ((aa .u64 (gt b (CT ((b.length : Int) - 1)))) + 1))))] v3 hc4) (by exact ⟨rfl, trivial⟩) (by exact ⟨bc (aF _) _, ⟨bc (aF _) _, trivial⟩⟩) rfl rfl (by kernel_rfl) (by kernel_rfl))) (.mu 3 (.ca cf0 (.mu 1 (.done (.nh [0, 1, 6, 7] [.own ([aa .u32 (aa .u64 ((1000000000 : Int).tdiv (aa .u64 ((aa .u64 (gt b (CT ((b.length : Int) - 1)))) + 1))))].flatMap (iC .u32)), .own (v3.flatMap (iC .u32))] (.seq ?_))))))
 obtain ⟨v5, hc6, hr⟩ := bd hr
 refine .gn G (ca4 [.own ([aa .u32 (aa .u64 ((1000000000 : Int).tdiv (aa .u64 ((aa .u64 (gt b (CT ((b.length : Int) - 1)))) + 1))))].flatMap (iC .u32)), .own (v3.flatMap (iC .u32)), .own [bB (aa .u32 (aa .u64 ((1000000000 : Int).tdiv (aa .u64 ((aa .u64 (gt b (CT ((b.length : Int) - 1)))) + 1)))))]] (cC (args := [au b, .hs 2 0 1 1]) 1 1 [(2, false)] [false, false] (nj n b [aa .u32 (aa .u64 ((1000000000 : Int).tdiv (aa .u64 ((aa .u64 (gt b (CT ((b.length : Int) - 1)))) + 1))))] v5 hc6) (by exact ⟨rfl, trivial⟩) (by exact ⟨bc (aF _) _, ⟨bc (aF _) _, trivial⟩⟩) rfl rfl (by kernel_rfl) (by kernel_rfl))) (.mu 3 (.ca cf0 (.mu 1 (.done (.nh [0, 6, 7, 8] [.own ([aa .u32 (aa .u64 ((1000000000 : Int).tdiv (aa .u64 ((aa .u64 (gt b (CT ((b.length : Int) - 1)))) + 1))))].flatMap (iC .u32)), .own (v3.flatMap (iC .u32)), .own ([aa .u32 (aa .u64 ((1000000000 : Int).tdiv (aa .u64 ((aa .u64 (gt b (CT ((b.length : Int) - 1)))) + 1))))].flatMap (iC .u32)), .own (v5.flatMap (iC .u32))] (.seq (.r4 G [0, 6, 7, 8] [(9, ae (v5.length : Int))] (.seq ?_))))))))
 obtain ⟨hg7, hg8, hr⟩ := gd2 hr
 refine .r0 G (.mu 2 (.e0 (v := .hs 5 0 (v3 ++ [(0 : Int)]).length 1) (ws := [(1, .dead), (5, .own ((v3 ++ [(0 : Int)]).flatMap (iC .u32)))]) (tr (fc (new := [bB 0]) (l := v3) (xs := [(0 : Int)]) (aI .u32) rfl rfl (by kernel_rfl) hg7 hg8)) (.mu 1 (.done (.nh [0, 6, 7, 8, 9] [.own ([aa .u32 (aa .u64 ((1000000000 : Int).tdiv (aa .u64 ((aa .u64 (gt b (CT ((b.length : Int) - 1)))) + 1))))].flatMap (iC .u32)), .dead, .own ([aa .u32 (aa .u64 ((1000000000 : Int).tdiv (aa .u64 ((aa .u64 (gt b (CT ((b.length : Int) - 1)))) + 1))))].flatMap (iC .u32)), .own (v5.flatMap (iC .u32)), .own [bB 0], .own ((v3 ++ [(0 : Int)]).flatMap (iC .u32))] (.seq (.seq (.r4 G [6, 7, 8, 9] [(50, aB (decide (((v3 ++ [(0 : Int)]).length : Int) <= (a.length : Int))))] ?_))))))))
 replace hr := bd hr; obtain ⟨u_9, hL14, hr⟩ := hr
 refine .zU (Q := fun x st' => x = .normal /\ Wk 0 st' ⟨mkS 266 0 [(6, bB (aa .u32 (aa .u64 ((1000000000 : Int).tdiv (aa .u64 ((aa .u64 (gt b (CT ((b.length : Int) - 1)))) + 1)))))), (7, .hs 0 0 u_9.length 1), (8, .hs 1 0 v5.length 1), (9, ae (v5.length : Int))], [.own (u_9.flatMap (iC .u32)), .own (v5.flatMap (iC .u32))]⟩) ?_ ?_
 ·clear hr
  have hr := hL14
  clear hL14
  refine .cd hr ?_ ?_ <;> intro hb10 hr
  ·obtain ⟨hg11, hg12, hr⟩ := gd2 hr
   refine .r0 G (.mu 2 (.e0 (v := .hs 7 0 ((v3 ++ [(0 : Int)]) ++ [(0 : Int)]).length 1) (ws := [(5, .dead), (7, .own (((v3 ++ [(0 : Int)]) ++ [(0 : Int)]).flatMap (iC .u32)))]) (tr (fc (new := [bB 0]) (l := v3 ++ [(0 : Int)]) (xs := [(0 : Int)]) (aI .u32) rfl rfl (by kernel_rfl) hg11 hg12)) (.mu 1 (.done ?_))))
   obtain rfl := oi hr
   exact ⟨rfl, ((Wk.gc [6, 7, 8, 9] [(7, false), (3, false)] rfl (pKo (iC .u32) (aF _) ((v3 ++ [(0 : Int)]) ++ [(0 : Int)]) (pKo (iC .u32) (aF _) v5 trivial))).to)⟩
  refine .skip ?_
  obtain rfl := oi hr
  exact ⟨rfl, ((Wk.gc [6, 7, 8, 9] [(5, false), (3, false)] rfl (pKo (iC .u32) (aF _) (v3 ++ [(0 : Int)]) (pKo (iC .u32) (aF _) v5 trivial))).to)⟩
 rintro x st' hq15
 clear hL14
 obtain ⟨rfl, hq15⟩ := hq15
 refine .wk hq15 (.seq ?_)
 obtain ⟨hg16, hg17, hg18, hr⟩ := gd3 hr
 refine .r0 G (.mu 4 (.e0 (v := .hs 2 0 (List.replicate (CT ((u_9.length : Int) - (v5.length : Int))).toNat ((0 : Int) : Int)).length 1) (ws := [(2, .own ((List.replicate (CT ((u_9.length : Int) - (v5.length : Int))).toNat ((0 : Int) : Int)).flatMap (iC .u32)))]) (tr (l8 (c := (iC .u32)) (z := (0 : Int)) (n := CT ((u_9.length : Int) - (v5.length : Int))) (by_ := 4) rfl hg16 hg17 hg18)) (.mu 1 (.done (.nh [4, 6, 7, 8, 9] [.own (u_9.flatMap (iC .u32)), .own (v5.flatMap (iC .u32)), .own ((List.replicate (CT ((u_9.length : Int) - (v5.length : Int))).toNat ((0 : Int) : Int)).flatMap (iC .u32))] (.seq (.seq (.r4 G [4, 6, 7, 8, 9] [(10, ae (CT ((CT ((u_9.length : Int) - (v5.length : Int))) - 1)))] (.block ?_)))))))))
 replace hr := bd hr; obtain ⟨o235, hL236, hr⟩ := hr
 refine .aO (σ := fun z0 => match z0 with | (q_19, u_20, j_21) => ⟨mkS 266 0 [(4, .hs 0 0 q_19.length 1), (6, bB (aa .u32 (aa .u64 ((1000000000 : Int).tdiv (aa .u64 ((aa .u64 (gt b (CT ((b.length : Int) - 1)))) + 1)))))), (7, .hs 1 0 u_20.length 1), (8, .hs 2 0 v5.length 1), (9, ae (v5.length : Int)), (10, ae j_21)], [.own (q_19.flatMap (iC .u32)), .own (u_20.flatMap (iC .u32)), .own (v5.flatMap (iC .u32))]⟩) (Q := fun x st' => match (generalizing := false) o235 with | (q_127, u_128) => x = .exit 0 /\ Wk 0 st' ⟨mkS 266 0 [(4, .hs 0 0 q_127.length 1), (6, bB (aa .u32 (aa .u64 ((1000000000 : Int).tdiv (aa .u64 ((aa .u64 (gt b (CT ((b.length : Int) - 1)))) + 1)))))), (7, .hs 1 0 u_128.length 1), (9, ae (v5.length : Int))], [.own (q_127.flatMap (iC .u32)), .own (u_128.flatMap (iC .u32))]⟩) hL236 ((Wk.gc [4, 6, 7, 8, 9, 10] [(2, false), (0, false), (1, false)] rfl (pKo (iC .u32) (aF _) (List.replicate (CT ((u_9.length : Int) - (v5.length : Int))).toNat ((0 : Int) : Int)) (pKo (iC .u32) (aF _) u_9 (pKo (iC .u32) (aF _) v5 trivial)))).to) ?_ ?_
 ·clear hr
  rintro m ⟨q_19, u_20, j_21⟩ hr
  show CQ _ _ _ _ _ ⟨_, _⟩
  refine .seq (.seq (.r4 G [4, 6, 7, 8, 9, 10] [(65, aB (decide (j_21 >= 0)))] ?_))
  refine .cd hr ?_ ?_ <;> intro hb131 hr
  ·refine .skip (.seq (.block (.seq ?_)))
   obtain ⟨v132, hc133, hr⟩ := bd hr
   obtain ⟨hg134, hr⟩ := gd hr
   refine .t1 G (dQ (args := [.hs 1 0 u_20.length 1, ae (CT (j_21 + (v5.length : Int)))]) (l := [1]) rfl (SnL.cons (Sn.hs rfl (.inl rfl) (SnC.pure (bc (aF _) _)) (fun h => cP h)) (Sp SnL.nil)) (lR n u_20 (CT (j_21 + (v5.length : Int))) v132 hc133)) (.mu 4 (.ca cf0 (.mu 7 (.pure (v := .hp 1 (0 + (CT ((CT (j_21 + (v5.length : Int))) - 1)).toNat * 1)) (by kernel_rfl) (tr (ar hg134)) (by kernel_rfl) (.pure (v := bB (gt u_20 (CT ((CT (j_21 + (v5.length : Int))) - 1)))) (by kernel_rfl) (tr (aH (aK (aI .u32) (aD hg134) z1 (by omega : 0 + (CT ((CT (j_21 + (v5.length : Int))) - 1)).toNat * 1 = (CT ((CT (j_21 + (v5.length : Int))) - 1)).toNat * 1 + 0) (by kernel_rfl)))) (by kernel_rfl) (.mu 3 ?_))))))
   refine .done ⟨by kernel_rfl, ?_⟩
   refine .nh [4, 6, 7, 8, 9, 10, 11] [.own (q_19.flatMap (iC .u32)), .own (u_20.flatMap (iC .u32)), .own (v5.flatMap (iC .u32))] (.seq ?_)
   obtain ⟨hg135, hg136, hr⟩ := gd2 hr
   refine .eK G bW (.mu 4 (.pure (v := .hp 2 (0 + (CT ((v5.length : Int) - 1)).toNat * 1)) (by kernel_rfl) (tr (ar hg135)) (by kernel_rfl) (.pure (v := bB (gt v5 (CT ((v5.length : Int) - 1)))) (by kernel_rfl) (tr (aH (aK (aI .u32) (aD hg135) z1 (by omega : 0 + (CT ((v5.length : Int) - 1)).toNat * 1 = (CT ((v5.length : Int) - 1)).toNat * 1 + 0) (by kernel_rfl)))) (by kernel_rfl) (.mu 1 (.pure (v := cZ (aa .u64 ((aa .u64 ((aa .u64 ((aa .u64 v132) * 1000000000)) + (aa .u64 (gt u_20 (CT ((CT (j_21 + (v5.length : Int))) - 1)))))).tdiv (aa .u64 (gt v5 (CT ((v5.length : Int) - 1))))))) (by kernel_rfl) (pd (x := aa .u64 ((aa .u64 ((aa .u64 v132) * 1000000000)) + (aa .u64 (gt u_20 (CT ((CT (j_21 + (v5.length : Int))) - 1)))))) (y := aa .u64 (gt v5 (CT ((v5.length : Int) - 1)))) (by kernel_rfl) (by kernel_rfl) hg136) (by kernel_rfl) (.mu 4 (.pure (v := .hp 2 (0 + (CT ((v5.length : Int) - 1)).toNat * 1)) (by kernel_rfl) (tr (ar hg135)) (by kernel_rfl) (.pure (v := bB (gt v5 (CT ((v5.length : Int) - 1)))) (by kernel_rfl) (tr (aH (aK (aI .u32) (aD hg135) z1 (by omega : 0 + (CT ((v5.length : Int) - 1)).toNat * 1 = (CT ((v5.length : Int) - 1)).toNat * 1 + 0) (by kernel_rfl)))) (by kernel_rfl) (.mu 1 (.pure (v := cZ ((aa .u64 ((aa .u64 ((aa .u64 v132) * 1000000000)) + (aa .u64 (gt u_20 (CT ((CT (j_21 + (v5.length : Int))) - 1)))))).tmod (aa .u64 (gt v5 (CT ((v5.length : Int) - 1)))))) (by kernel_rfl) (oM (x := aa .u64 ((aa .u64 ((aa .u64 v132) * 1000000000)) + (aa .u64 (gt u_20 (CT ((CT (j_21 + (v5.length : Int))) - 1)))))) (y := aa .u64 (gt v5 (CT ((v5.length : Int) - 1)))) (by kernel_rfl) (by kernel_rfl) hg136) (by kernel_rfl) (.mu 2 ?_)))))))))))
   refine .done ⟨by kernel_rfl, ?_⟩
   refine .nh [4, 6, 7, 8, 9, 10, 12, 13] [.own (q_19.flatMap (iC .u32)), .own (u_20.flatMap (iC .u32)), .own (v5.flatMap (iC .u32))] (.seq (.block ?_))
   replace hr := bd hr; obtain ⟨g_164, hL173, hr⟩ := hr
   refine .aO (σ := fun z0 => match z0 with | (g_156, r_157) => ⟨mkS 266 0 [(4, .hs 0 0 q_19.length 1), (6, bB (aa .u32 (aa .u64 ((1000000000 : Int).tdiv (aa .u64 ((aa .u64 (gt b (CT ((b.length : Int) - 1)))) + 1)))))), (7, .hs 1 0 u_20.length 1), (8, .hs 2 0 v5.length 1), (9, ae (v5.length : Int)), (10, ae j_21), (12, cZ g_156), (13, cZ r_157)], [.own (q_19.flatMap (iC .u32)), .own (u_20.flatMap (iC .u32)), .own (v5.flatMap (iC .u32))]⟩) (Q := fun x st' => x = .exit 2 /\ Wk 0 st' ⟨mkS 266 0 [(4, .hs 0 0 q_19.length 1), (6, bB (aa .u32 (aa .u64 ((1000000000 : Int).tdiv (aa .u64 ((aa .u64 (gt b (CT ((b.length : Int) - 1)))) + 1)))))), (7, .hs 1 0 u_20.length 1), (8, .hs 2 0 v5.length 1), (9, ae (v5.length : Int)), (10, ae j_21), (12, cZ g_164)], [.own (q_19.flatMap (iC .u32)), .own (u_20.flatMap (iC .u32)), .own (v5.flatMap (iC .u32))]⟩) hL173 ((Wk.gc [4, 6, 7, 8, 9, 10, 12, 13] kF3 rfl (pKo (iC .u32) (aF _) q_19 (pKo (iC .u32) (aF _) u_20 (pKo (iC .u32) (aF _) v5 trivial)))).to) ?_ ?_
   ·clear hr
    rintro m ⟨g_156, r_157⟩ hr
    show CQ _ _ _ _ _ ⟨_, _⟩
    refine .seq (.seq ?_)
    rcases bT (decide (g_156 >= 1000000000)) with hb166 | hb166
    ·replace hr := cy hb166 hr
     refine .eK G bW (.mu 1 (.pure (v := aB true) (by kernel_rfl) (eB hb166) (by kernel_rfl) (.mu 22 ?_)))
     refine .done ⟨by kernel_rfl, ?_⟩
     refine .nh [4, 6, 7, 8, 9, 10, 12, 13, 123] [.own (q_19.flatMap (iC .u32)), .own (u_20.flatMap (iC .u32)), .own (v5.flatMap (iC .u32))] (.cT (by kernel_rfl) (.skip (.block (.seq (.r4 G [4, 6, 7, 8, 9, 10, 13] [(12, cZ (aa .u64 (g_156 - 1)))] (.seq (.r0 G (.mu 4 (.p0 (v := .hp 2 (0 + (CT ((v5.length : Int) - 1)).toNat * 1)) (tr (ar hg135)) (.p0 (v := bB (gt v5 (CT ((v5.length : Int) - 1)))) (tr (aH (aK (aI .u32) (aD hg135) z1 (by omega : 0 + (CT ((v5.length : Int) - 1)).toNat * 1 = (CT ((v5.length : Int) - 1)).toNat * 1 + 0) (by kernel_rfl)))) (.mu 3 (.done (.nh [4, 6, 7, 8, 9, 10, 12, 13] [.own (q_19.flatMap (iC .u32)), .own (u_20.flatMap (iC .u32)), .own (v5.flatMap (iC .u32))] (.seq (.r4 G [4, 6, 7, 8, 9, 10, 12, 13] [(135, aB (decide ((aa .u64 (r_157 + (aa .u64 (gt v5 (CT ((v5.length : Int) - 1)))))) >= 1000000000)))] ?_)))))))))))))))
     refine .cd hr ?_ ?_ <;> intro hb167 hr
     ·refine .leave rfl ?_
      obtain rfl := oi hr
      exact ⟨rfl, ((Wk.gc [4, 6, 7, 8, 9, 10, 12] kF3 rfl (pKo (iC .u32) (aF _) q_19 (pKo (iC .u32) (aF _) u_20 (pKo (iC .u32) (aF _) v5 trivial)))).to)⟩
     refine .skip (.pop ?_)
     exact aA (aa .u64 (g_156 - 1), aa .u64 (r_157 + (aa .u64 (gt v5 (CT ((v5.length : Int) - 1)))))) hr ((Wk.gc [4, 6, 7, 8, 9, 10, 12, 13] kF3 rfl (pKo (iC .u32) (aF _) q_19 (pKo (iC .u32) (aF _) u_20 (pKo (iC .u32) (aF _) v5 trivial)))).to)
    replace hr := cA hb166 hr
    obtain ⟨hg168, hg169, hr⟩ := gd2 hr
    refine .eK G bW (.mu 1 (.pure (v := aB false) (by kernel_rfl) (eB hb166) (by kernel_rfl) (.mu 5 (.pure (v := .hp 2 (0 + (CT ((v5.length : Int) - 2)).toNat * 1)) (by kernel_rfl) (tr (ar hg168)) (by kernel_rfl) (.pure (v := bB (gt v5 (CT ((v5.length : Int) - 2)))) (by kernel_rfl) (tr (aH (aK (aI .u32) (aD hg168) z1 (by omega : 0 + (CT ((v5.length : Int) - 2)).toNat * 1 = (CT ((v5.length : Int) - 2)).toNat * 1 + 0) (by kernel_rfl)))) (by kernel_rfl) (.mu 9 (.pure (v := .hp 1 (0 + (CT ((CT (j_21 + (v5.length : Int))) - 2)).toNat * 1)) (by kernel_rfl) (tr (ar hg169)) (by kernel_rfl) (.pure (v := bB (gt u_20 (CT ((CT (j_21 + (v5.length : Int))) - 2)))) (by kernel_rfl) (tr (aH (aK (aI .u32) (aD hg169) z1 (by omega : 0 + (CT ((CT (j_21 + (v5.length : Int))) - 2)).toNat * 1 = (CT ((CT (j_21 + (v5.length : Int))) - 2)).toNat * 1 + 0) (by kernel_rfl)))) (by kernel_rfl) (.mu 4 ?_)))))))))
    refine .done ⟨by kernel_rfl, ?_⟩
    refine .nh [4, 6, 7, 8, 9, 10, 12, 13, 123] [.own (q_19.flatMap (iC .u32)), .own (u_20.flatMap (iC .u32)), .own (v5.flatMap (iC .u32))] ?_
    refine .cd hr ?_ ?_ <;> intro hb170 hr
    ·refine .skip (.block (.seq (.r4 G [4, 6, 7, 8, 9, 10, 13] [(12, cZ (aa .u64 (g_156 - 1)))] (.seq (.r0 G (.mu 4 (.p0 (v := .hp 2 (0 + (CT ((v5.length : Int) - 1)).toNat * 1)) (tr (ar hg135)) (.p0 (v := bB (gt v5 (CT ((v5.length : Int) - 1)))) (tr (aH (aK (aI .u32) (aD hg135) z1 (by omega : 0 + (CT ((v5.length : Int) - 1)).toNat * 1 = (CT ((v5.length : Int) - 1)).toNat * 1 + 0) (by kernel_rfl)))) (.mu 3 (.done (.nh [4, 6, 7, 8, 9, 10, 12, 13] [.own (q_19.flatMap (iC .u32)), .own (u_20.flatMap (iC .u32)), .own (v5.flatMap (iC .u32))] (.seq (.r4 G [4, 6, 7, 8, 9, 10, 12, 13] [(135, aB (decide ((aa .u64 (r_157 + (aa .u64 (gt v5 (CT ((v5.length : Int) - 1)))))) >= 1000000000)))] ?_)))))))))))))
     refine .cd hr ?_ ?_ <;> intro hb171 hr
     ·refine .leave rfl ?_
      obtain rfl := oi hr
      exact ⟨rfl, ((Wk.gc [4, 6, 7, 8, 9, 10, 12] kF3 rfl (pKo (iC .u32) (aF _) q_19 (pKo (iC .u32) (aF _) u_20 (pKo (iC .u32) (aF _) v5 trivial)))).to)⟩
     refine .skip (.pop ?_)
     exact aA (aa .u64 (g_156 - 1), aa .u64 (r_157 + (aa .u64 (gt v5 (CT ((v5.length : Int) - 1)))))) hr ((Wk.gc [4, 6, 7, 8, 9, 10, 12, 13] kF3 rfl (pKo (iC .u32) (aF _) q_19 (pKo (iC .u32) (aF _) u_20 (pKo (iC .u32) (aF _) v5 trivial)))).to)
    refine .leave rfl ?_
    obtain rfl := oi hr
    exact ⟨rfl, ((Wk.gc [4, 6, 7, 8, 9, 10, 12] kF3 rfl (pKo (iC .u32) (aF _) q_19 (pKo (iC .u32) (aF _) u_20 (pKo (iC .u32) (aF _) v5 trivial)))).to)⟩
   rintro x st' hq174
   clear hL173
   obtain ⟨rfl, hq174⟩ := hq174
   refine a9 _ rfl (.wk hq174 (.seq (.r4 G [4, 6, 7, 8, 9, 10, 12] [(14, ae 0), (15, cZ 0)] (.seq (.seq (.r4 G [4, 6, 7, 8, 9, 10, 12, 14, 15] [(136, ae (v5.length : Int)), (137, ae 0)] (.block ?_)))))))
   replace hr := bd hr; obtain ⟨o210, hL211, hr⟩ := hr
   refine .aO (σ := fun z0 => match z0 with | (u_194, b_195, c_196, x_197) => ⟨mkS 266 0 [(4, .hs 0 0 q_19.length 1), (6, bB (aa .u32 (aa .u64 ((1000000000 : Int).tdiv (aa .u64 ((aa .u64 (gt b (CT ((b.length : Int) - 1)))) + 1)))))), (7, .hs 1 0 u_194.length 1), (8, .hs 2 0 v5.length 1), (9, ae (v5.length : Int)), (10, ae j_21), (12, cZ g_164), (14, ae b_195), (15, cZ c_196), (136, ae (v5.length : Int)), (137, ae x_197)], [.own (q_19.flatMap (iC .u32)), .own (u_194.flatMap (iC .u32)), .own (v5.flatMap (iC .u32))]⟩) (Q := fun x st' => match (generalizing := false) o210 with | (u_202, b_203, c_204) => x = .exit 4 /\ Wk 0 st' ⟨mkS 266 0 [(4, .hs 0 0 q_19.length 1), (6, bB (aa .u32 (aa .u64 ((1000000000 : Int).tdiv (aa .u64 ((aa .u64 (gt b (CT ((b.length : Int) - 1)))) + 1)))))), (7, .hs 1 0 u_202.length 1), (8, .hs 2 0 v5.length 1), (9, ae (v5.length : Int)), (10, ae j_21), (12, cZ g_164), (14, ae b_203), (15, cZ c_204)], [.own (q_19.flatMap (iC .u32)), .own (u_202.flatMap (iC .u32)), .own (v5.flatMap (iC .u32))]⟩) hL211 ((Wk.gc [4, 6, 7, 8, 9, 10, 12, 14, 15, 136, 137] kF3 rfl (pKo (iC .u32) (aF _) q_19 (pKo (iC .u32) (aF _) u_20 (pKo (iC .u32) (aF _) v5 trivial)))).to) ?_ ?_
   ·clear hr
    rintro m ⟨u_194, b_195, c_196, x_197⟩ hr
    show CQ _ _ _ _ _ ⟨_, _⟩
    refine .seq (.r4 G [4, 6, 7, 8, 9, 10, 12, 14, 15, 136, 137] [(138, aB (decide (x_197 < (v5.length : Int))))] (.seq ?_))
    refine .cd hr ?_ ?_ <;> intro hb206 hr
    ·refine .skip (.seq (.block (.seq (.r4 G [4, 6, 7, 8, 9, 10, 12, 14, 15, 136, 137] [(16, ae x_197)] (.seq ?_)))))
     obtain ⟨hg207, hr⟩ := gd hr
     refine .r0 G (.mu 3 (.p0 (v := .hp 2 (0 + x_197.toNat * 1)) (tr (ar hg207)) (.p0 (v := bB (gt v5 x_197)) (tr (aH (aK (aI .u32) (aD hg207) z1 (by omega : 0 + x_197.toNat * 1 = x_197.toNat * 1 + 0) (by kernel_rfl)))) (.mu 5 (.done (.nh [4, 6, 7, 8, 9, 10, 12, 14, 16, 17, 136, 137] [.own (q_19.flatMap (iC .u32)), .own (u_194.flatMap (iC .u32)), .own (v5.flatMap (iC .u32))] (.seq (.r4 G [4, 6, 7, 8, 9, 10, 12, 14, 16, 17, 136, 137] [(15, cZ (aa .u64 ((aa .u64 ((aa .u64 (g_164 * (aa .u64 (gt v5 x_197)))) + c_196)).tdiv 1000000000)))] (.seq ?_)))))))))
     obtain ⟨hg208, hr⟩ := gd hr
     refine .r0 G (.mu 4 (.p0 (v := .hp 1 (0 + (CT (x_197 + j_21)).toNat * 1)) (tr (ar hg208)) (.p0 (v := bB (gt u_194 (CT (x_197 + j_21)))) (tr (aH (aK (aI .u32) (aD hg208) z1 (by omega : 0 + (CT (x_197 + j_21)).toNat * 1 = (CT (x_197 + j_21)).toNat * 1 + 0) (by kernel_rfl)))) (.mu 8 (.done (.nh [4, 6, 7, 8, 9, 10, 12, 15, 16, 18, 136, 137] [.own (q_19.flatMap (iC .u32)), .own (u_194.flatMap (iC .u32)), .own (v5.flatMap (iC .u32))] (.seq (.r4 G [4, 6, 7, 8, 9, 10, 12, 15, 16, 18, 136, 137] [(14, ae 0)] (.seq (.seq (.r4 G [4, 6, 7, 8, 9, 10, 12, 14, 15, 16, 18, 136, 137] [(165, aB (decide ((CT ((CT ((CT (gt u_194 (CT (x_197 + j_21)))) - b_195)) - (CT ((aa .u64 ((aa .u64 (g_164 * (aa .u64 (gt v5 x_197)))) + c_196)).tmod 1000000000)))) < 0)))] ?_)))))))))))
     refine .cd hr ?_ ?_ <;> intro hb209 hr
     ·refine .r4 G [4, 6, 7, 8, 9, 10, 12, 15, 16, 136, 137] [(14, ae 1), (18, ae (CT ((CT ((CT ((CT (gt u_194 (CT (x_197 + j_21)))) - b_195)) - (CT ((aa .u64 ((aa .u64 (g_164 * (aa .u64 (gt v5 x_197)))) + c_196)).tmod 1000000000)))) + 1000000000)))] (.r0 G (.mu 6 (.p0 (v := .hp 1 (0 + (CT (x_197 + j_21)).toNat * 1)) (tr (ar hg208)) (.e0 (v := .unk) (ws := [(1, .own ((u_194.set (CT (x_197 + j_21)).toNat (aa .u32 (CT ((CT ((CT ((CT (gt u_194 (CT (x_197 + j_21)))) - b_195)) - (CT ((aa .u64 ((aa .u64 (g_164 * (aa .u64 (gt v5 x_197)))) + c_196)).tmod 1000000000)))) + 1000000000)))).flatMap (iC .u32)))]) (tr (iF (iH (cD (n := 1) (aI .u32) (aD hg208) (lbT rfl) (by omega : 0 + (CT (x_197 + j_21)).toNat * 1 = (CT (x_197 + j_21)).toNat * 1 + 0))) (congrArg Blk.own (c7 (xs := [bB (aa .u32 (CT ((CT ((CT ((CT (gt u_194 (CT (x_197 + j_21)))) - b_195)) - (CT ((aa .u64 ((aa .u64 (g_164 * (aa .u64 (gt v5 x_197)))) + c_196)).tmod 1000000000)))) + 1000000000)))]) (aI .u32) (aD hg208) (lbT rfl) (by omega : 0 + (CT (x_197 + j_21)).toNat * 1 = (CT (x_197 + j_21)).toNat * 1 + 0) (by kernel_rfl))))) (.done (.pop (.ru G ?_)))))))
      exact aA (u_194.set (CT (x_197 + j_21)).toNat (aa .u32 (CT ((CT ((CT ((CT (gt u_194 (CT (x_197 + j_21)))) - b_195)) - (CT ((aa .u64 ((aa .u64 (g_164 * (aa .u64 (gt v5 x_197)))) + c_196)).tmod 1000000000)))) + 1000000000))), 1, aa .u64 ((aa .u64 ((aa .u64 (g_164 * (aa .u64 (gt v5 x_197)))) + c_196)).tdiv 1000000000), CT (x_197 + 1)) hr ((Wk.iJ 7 (b := 1) (es := 1) (len := u_194.length) (u_194.set (CT (x_197 + j_21)).toNat (aa .u32 (CT ((CT ((CT ((CT (gt u_194 (CT (x_197 + j_21)))) - b_195)) - (CT ((aa .u64 ((aa .u64 (g_164 * (aa .u64 (gt v5 x_197)))) + c_196)).tmod 1000000000)))) + 1000000000)))).length (by kernel_rfl) (Eq.symm (List.length_set.trans rfl))).trans ((Wk.gc [4, 6, 7, 8, 9, 10, 12, 14, 15, 136, 137] kF3 rfl (pKo (iC .u32) (aF _) q_19 (pKo (iC .u32) (aF _) (u_194.set (CT (x_197 + j_21)).toNat (aa .u32 (CT ((CT ((CT ((CT (gt u_194 (CT (x_197 + j_21)))) - b_195)) - (CT ((aa .u64 ((aa .u64 (g_164 * (aa .u64 (gt v5 x_197)))) + c_196)).tmod 1000000000)))) + 1000000000)))) (pKo (iC .u32) (aF _) v5 trivial)))).to))
     refine .skip (.r0 G (.mu 6 (.p0 (v := .hp 1 (0 + (CT (x_197 + j_21)).toNat * 1)) (tr (ar hg208)) (.e0 (v := .unk) (ws := [(1, .own ((u_194.set (CT (x_197 + j_21)).toNat (aa .u32 (CT ((CT ((CT (gt u_194 (CT (x_197 + j_21)))) - b_195)) - (CT ((aa .u64 ((aa .u64 (g_164 * (aa .u64 (gt v5 x_197)))) + c_196)).tmod 1000000000)))))).flatMap (iC .u32)))]) (tr (iF (iH (cD (n := 1) (aI .u32) (aD hg208) (lbT rfl) (by omega : 0 + (CT (x_197 + j_21)).toNat * 1 = (CT (x_197 + j_21)).toNat * 1 + 0))) (congrArg Blk.own (c7 (xs := [bB (aa .u32 (CT ((CT ((CT (gt u_194 (CT (x_197 + j_21)))) - b_195)) - (CT ((aa .u64 ((aa .u64 (g_164 * (aa .u64 (gt v5 x_197)))) + c_196)).tmod 1000000000)))))]) (aI .u32) (aD hg208) (lbT rfl) (by omega : 0 + (CT (x_197 + j_21)).toNat * 1 = (CT (x_197 + j_21)).toNat * 1 + 0) (by kernel_rfl))))) (.done (.pop (.ru G ?_)))))))
     exact aA (u_194.set (CT (x_197 + j_21)).toNat (aa .u32 (CT ((CT ((CT (gt u_194 (CT (x_197 + j_21)))) - b_195)) - (CT ((aa .u64 ((aa .u64 (g_164 * (aa .u64 (gt v5 x_197)))) + c_196)).tmod 1000000000))))), 0, aa .u64 ((aa .u64 ((aa .u64 (g_164 * (aa .u64 (gt v5 x_197)))) + c_196)).tdiv 1000000000), CT (x_197 + 1)) hr ((Wk.iJ 7 (b := 1) (es := 1) (len := u_194.length) (u_194.set (CT (x_197 + j_21)).toNat (aa .u32 (CT ((CT ((CT (gt u_194 (CT (x_197 + j_21)))) - b_195)) - (CT ((aa .u64 ((aa .u64 (g_164 * (aa .u64 (gt v5 x_197)))) + c_196)).tmod 1000000000)))))).length (by kernel_rfl) (Eq.symm (List.length_set.trans rfl))).trans ((Wk.gc [4, 6, 7, 8, 9, 10, 12, 14, 15, 136, 137] kF3 rfl (pKo (iC .u32) (aF _) q_19 (pKo (iC .u32) (aF _) (u_194.set (CT (x_197 + j_21)).toNat (aa .u32 (CT ((CT ((CT (gt u_194 (CT (x_197 + j_21)))) - b_195)) - (CT ((aa .u64 ((aa .u64 (g_164 * (aa .u64 (gt v5 x_197)))) + c_196)).tmod 1000000000)))))) (pKo (iC .u32) (aF _) v5 trivial)))).to))
    refine .leave rfl ?_
    obtain rfl := oi hr
    exact ⟨rfl, ((Wk.gc [4, 6, 7, 8, 9, 10, 12, 14, 15] kF3 rfl (pKo (iC .u32) (aF _) q_19 (pKo (iC .u32) (aF _) u_194 (pKo (iC .u32) (aF _) v5 trivial)))).to)⟩
   rcases o210 with ⟨u_202, b_203, c_204⟩
   rintro x st' hq212
   clear hL211
   obtain ⟨rfl, hq212⟩ := hq212
   refine a9 _ rfl (.wk hq212 (.seq ?_))
   obtain ⟨hg213, hr⟩ := gd hr
   refine .r0 G (.mu 4 (.p0 (v := .hp 1 (0 + (CT (j_21 + (v5.length : Int))).toNat * 1)) (tr (ar hg213)) (.p0 (v := bB (gt u_202 (CT (j_21 + (v5.length : Int))))) (tr (aH (aK (aI .u32) (aD hg213) z1 (by omega : 0 + (CT (j_21 + (v5.length : Int))).toNat * 1 = (CT (j_21 + (v5.length : Int))).toNat * 1 + 0) (by kernel_rfl)))) (.mu 7 (.done (.nh [4, 6, 7, 8, 9, 10, 12, 19] [.own (q_19.flatMap (iC .u32)), .own (u_202.flatMap (iC .u32)), .own (v5.flatMap (iC .u32))] (.seq (.seq (.r4 G [4, 6, 7, 8, 9, 10, 12, 19] [(189, aB (decide ((CT ((CT ((CT (gt u_202 (CT (j_21 + (v5.length : Int))))) - b_203)) - (CT c_204))) < 0)))] ?_)))))))))
   refine .cd hr ?_ ?_ <;> intro hb214 hr
   ·refine .seq (.r0 G (.mu 7 (.p0 (v := .hp 1 (0 + (CT (j_21 + (v5.length : Int))).toNat * 1)) (tr (ar hg213)) (.e0 (v := .unk) (ws := [(1, .own ((u_202.set (CT (j_21 + (v5.length : Int))).toNat (aa .u32 (CT ((CT ((CT ((CT (gt u_202 (CT (j_21 + (v5.length : Int))))) - b_203)) - (CT c_204))) + 1000000000)))).flatMap (iC .u32)))]) (tr (iF (iH (cD (n := 1) (aI .u32) (aD hg213) (lbT rfl) (by omega : 0 + (CT (j_21 + (v5.length : Int))).toNat * 1 = (CT (j_21 + (v5.length : Int))).toNat * 1 + 0))) (congrArg Blk.own (c7 (xs := [bB (aa .u32 (CT ((CT ((CT ((CT (gt u_202 (CT (j_21 + (v5.length : Int))))) - b_203)) - (CT c_204))) + 1000000000)))]) (aI .u32) (aD hg213) (lbT rfl) (by omega : 0 + (CT (j_21 + (v5.length : Int))).toNat * 1 = (CT (j_21 + (v5.length : Int))).toNat * 1 + 0) (by kernel_rfl))))) (.done (.nh [4, 6, 7, 8, 9, 10, 12] [.own (q_19.flatMap (iC .u32)), .own ((u_202.set (CT (j_21 + (v5.length : Int))).toNat (aa .u32 (CT ((CT ((CT ((CT (gt u_202 (CT (j_21 + (v5.length : Int))))) - b_203)) - (CT c_204))) + 1000000000)))).flatMap (iC .u32)), .own (v5.flatMap (iC .u32))] (.seq (.r4 G [4, 6, 7, 8, 9, 10] [(12, cZ (aa .u64 (g_164 - 1)))] (.seq (.r4 G [4, 6, 7, 8, 9, 10, 12] [(20, bB 0)] (.seq (.seq (.r4 G [4, 6, 7, 8, 9, 10, 12, 20] [(200, ae (v5.length : Int)), (201, ae 0)] (.block ?_))))))))))))))
    replace hr := bd hr; obtain ⟨o229, hL230, hr⟩ := hr
    refine .aO (σ := fun z0 => match z0 with | (u_215, c_216, x_217) => ⟨mkS 266 0 [(4, .hs 0 0 q_19.length 1), (6, bB (aa .u32 (aa .u64 ((1000000000 : Int).tdiv (aa .u64 ((aa .u64 (gt b (CT ((b.length : Int) - 1)))) + 1)))))), (7, .hs 1 0 u_215.length 1), (8, .hs 2 0 v5.length 1), (9, ae (v5.length : Int)), (10, ae j_21), (12, cZ (aa .u64 (g_164 - 1))), (20, bB c_216), (200, ae (v5.length : Int)), (201, ae x_217)], [.own (q_19.flatMap (iC .u32)), .own (u_215.flatMap (iC .u32)), .own (v5.flatMap (iC .u32))]⟩) (Q := fun x st' => match (generalizing := false) o229 with | (u_222, c_223) => x = .exit 6 /\ Wk 0 st' ⟨mkS 266 0 [(4, .hs 0 0 q_19.length 1), (6, bB (aa .u32 (aa .u64 ((1000000000 : Int).tdiv (aa .u64 ((aa .u64 (gt b (CT ((b.length : Int) - 1)))) + 1)))))), (7, .hs 1 0 u_222.length 1), (8, .hs 2 0 v5.length 1), (9, ae (v5.length : Int)), (10, ae j_21), (12, cZ (aa .u64 (g_164 - 1))), (20, bB c_223)], [.own (q_19.flatMap (iC .u32)), .own (u_222.flatMap (iC .u32)), .own (v5.flatMap (iC .u32))]⟩) hL230 ((Wk.iJ 7 (b := 1) (es := 1) (len := u_202.length) (u_202.set (CT (j_21 + (v5.length : Int))).toNat (aa .u32 (CT ((CT ((CT ((CT (gt u_202 (CT (j_21 + (v5.length : Int))))) - b_203)) - (CT c_204))) + 1000000000)))).length (by kernel_rfl) (Eq.symm (List.length_set.trans rfl))).trans ((Wk.gc [4, 6, 7, 8, 9, 10, 12, 20, 200, 201] kF3 rfl (pKo (iC .u32) (aF _) q_19 (pKo (iC .u32) (aF _) (u_202.set (CT (j_21 + (v5.length : Int))).toNat (aa .u32 (CT ((CT ((CT ((CT (gt u_202 (CT (j_21 + (v5.length : Int))))) - b_203)) - (CT c_204))) + 1000000000)))) (pKo (iC .u32) (aF _) v5 trivial)))).to)) ?_ ?_
    ·clear hr
     rintro m ⟨u_215, c_216, x_217⟩ hr
     show CQ _ _ _ _ _ ⟨_, _⟩
     refine .seq (.r4 G [4, 6, 7, 8, 9, 10, 12, 20, 200, 201] [(202, aB (decide (x_217 < (v5.length : Int))))] (.seq ?_))
     refine .cd hr ?_ ?_ <;> intro hb225 hr
     ·refine .skip (.seq (.block (.seq (.r4 G [4, 6, 7, 8, 9, 10, 12, 20, 200, 201] [(21, ae x_217)] (.seq ?_)))))
      obtain ⟨hg226, hg227, hr⟩ := gd2 hr
      refine .eK G bW (.mu 4 (.pure (v := .hp 1 (0 + (CT (x_217 + j_21)).toNat * 1)) (by kernel_rfl) (tr (ar hg226)) (by kernel_rfl) (.pure (v := bB (gt u_215 (CT (x_217 + j_21)))) (by kernel_rfl) (tr (aH (aK (aI .u32) (aD hg226) z1 (by omega : 0 + (CT (x_217 + j_21)).toNat * 1 = (CT (x_217 + j_21)).toNat * 1 + 0) (by kernel_rfl)))) (by kernel_rfl) (.mu 2 (.pure (v := .hp 2 (0 + x_217.toNat * 1)) (by kernel_rfl) (tr (ar hg227)) (by kernel_rfl) (.pure (v := bB (gt v5 x_217)) (by kernel_rfl) (tr (aH (aK (aI .u32) (aD hg227) z1 (by omega : 0 + x_217.toNat * 1 = x_217.toNat * 1 + 0) (by kernel_rfl)))) (by kernel_rfl) (.mu 4 ?_)))))))
      refine .done ⟨by kernel_rfl, ?_⟩
      refine .nh [4, 6, 7, 8, 9, 10, 12, 21, 22, 200, 201] [.own (q_19.flatMap (iC .u32)), .own (u_215.flatMap (iC .u32)), .own (v5.flatMap (iC .u32))] (.seq (.r4 G [4, 6, 7, 8, 9, 10, 12, 21, 22, 200, 201] [(20, bB 0)] (.seq (.seq (.r4 G [4, 6, 7, 8, 9, 10, 12, 20, 21, 22, 200, 201] [(218, aB (decide ((aa .u32 ((aa .u32 ((gt u_215 (CT (x_217 + j_21))) + (gt v5 x_217))) + c_216)) >= 1000000000)))] ?_)))))
      refine .cd hr ?_ ?_ <;> intro hb228 hr
      ·refine .r4 G [4, 6, 7, 8, 9, 10, 12, 21, 200, 201] [(20, bB 1), (22, bB (aa .u32 ((aa .u32 ((aa .u32 ((gt u_215 (CT (x_217 + j_21))) + (gt v5 x_217))) + c_216)) - 1000000000)))] (.r0 G (.mu 5 (.p0 (v := .hp 1 (0 + (CT (x_217 + j_21)).toNat * 1)) (tr (ar hg226)) (.e0 (v := .unk) (ws := [(1, .own ((u_215.set (CT (x_217 + j_21)).toNat (aa .u32 ((aa .u32 ((aa .u32 ((gt u_215 (CT (x_217 + j_21))) + (gt v5 x_217))) + c_216)) - 1000000000))).flatMap (iC .u32)))]) (tr (iF (iH (cD (n := 1) (aI .u32) (aD hg226) (lbT rfl) (by omega : 0 + (CT (x_217 + j_21)).toNat * 1 = (CT (x_217 + j_21)).toNat * 1 + 0))) (congrArg Blk.own (c7 (xs := [bB (aa .u32 ((aa .u32 ((aa .u32 ((gt u_215 (CT (x_217 + j_21))) + (gt v5 x_217))) + c_216)) - 1000000000))]) (aI .u32) (aD hg226) (lbT rfl) (by omega : 0 + (CT (x_217 + j_21)).toNat * 1 = (CT (x_217 + j_21)).toNat * 1 + 0) (by kernel_rfl))))) (.done (.pop (.ru G ?_)))))))
       exact aA (u_215.set (CT (x_217 + j_21)).toNat (aa .u32 ((aa .u32 ((aa .u32 ((gt u_215 (CT (x_217 + j_21))) + (gt v5 x_217))) + c_216)) - 1000000000)), 1, CT (x_217 + 1)) hr ((Wk.iJ 7 (b := 1) (es := 1) (len := u_215.length) (u_215.set (CT (x_217 + j_21)).toNat (aa .u32 ((aa .u32 ((aa .u32 ((gt u_215 (CT (x_217 + j_21))) + (gt v5 x_217))) + c_216)) - 1000000000))).length (by kernel_rfl) (Eq.symm (List.length_set.trans rfl))).trans ((Wk.gc [4, 6, 7, 8, 9, 10, 12, 20, 200, 201] kF3 rfl (pKo (iC .u32) (aF _) q_19 (pKo (iC .u32) (aF _) (u_215.set (CT (x_217 + j_21)).toNat (aa .u32 ((aa .u32 ((aa .u32 ((gt u_215 (CT (x_217 + j_21))) + (gt v5 x_217))) + c_216)) - 1000000000))) (pKo (iC .u32) (aF _) v5 trivial)))).to))
      refine .skip (.r0 G (.mu 5 (.p0 (v := .hp 1 (0 + (CT (x_217 + j_21)).toNat * 1)) (tr (ar hg226)) (.e0 (v := .unk) (ws := [(1, .own ((u_215.set (CT (x_217 + j_21)).toNat (aa .u32 ((aa .u32 ((gt u_215 (CT (x_217 + j_21))) + (gt v5 x_217))) + c_216))).flatMap (iC .u32)))]) (tr (iF (iH (cD (n := 1) (aI .u32) (aD hg226) (lbT rfl) (by omega : 0 + (CT (x_217 + j_21)).toNat * 1 = (CT (x_217 + j_21)).toNat * 1 + 0))) (congrArg Blk.own (c7 (xs := [bB (aa .u32 ((aa .u32 ((gt u_215 (CT (x_217 + j_21))) + (gt v5 x_217))) + c_216))]) (aI .u32) (aD hg226) (lbT rfl) (by omega : 0 + (CT (x_217 + j_21)).toNat * 1 = (CT (x_217 + j_21)).toNat * 1 + 0) (by kernel_rfl))))) (.done (.pop (.ru G ?_)))))))
      exact aA (u_215.set (CT (x_217 + j_21)).toNat (aa .u32 ((aa .u32 ((gt u_215 (CT (x_217 + j_21))) + (gt v5 x_217))) + c_216)), 0, CT (x_217 + 1)) hr ((Wk.iJ 7 (b := 1) (es := 1) (len := u_215.length) (u_215.set (CT (x_217 + j_21)).toNat (aa .u32 ((aa .u32 ((gt u_215 (CT (x_217 + j_21))) + (gt v5 x_217))) + c_216))).length (by kernel_rfl) (Eq.symm (List.length_set.trans rfl))).trans ((Wk.gc [4, 6, 7, 8, 9, 10, 12, 20, 200, 201] kF3 rfl (pKo (iC .u32) (aF _) q_19 (pKo (iC .u32) (aF _) (u_215.set (CT (x_217 + j_21)).toNat (aa .u32 ((aa .u32 ((gt u_215 (CT (x_217 + j_21))) + (gt v5 x_217))) + c_216))) (pKo (iC .u32) (aF _) v5 trivial)))).to))
     refine .leave rfl ?_
     obtain rfl := oi hr
     exact ⟨rfl, ((Wk.gc [4, 6, 7, 8, 9, 10, 12, 20] kF3 rfl (pKo (iC .u32) (aF _) q_19 (pKo (iC .u32) (aF _) u_215 (pKo (iC .u32) (aF _) v5 trivial)))).to)⟩
    rcases o229 with ⟨u_222, c_223⟩
    rintro x st' hq231
    clear hL230
    obtain ⟨rfl, hq231⟩ := hq231
    refine a9 _ rfl (.wk hq231 ?_)
    obtain ⟨hg232, hr⟩ := gd hr
    refine .r0 G (.mu 8 (.p0 (v := .hp 1 (0 + (CT (j_21 + (v5.length : Int))).toNat * 1)) (tr (ar hg232)) (.p0 (v := bB (gt u_222 (CT (j_21 + (v5.length : Int))))) (tr (aH (aK (aI .u32) (aD hg232) z1 (by omega : 0 + (CT (j_21 + (v5.length : Int))).toNat * 1 = (CT (j_21 + (v5.length : Int))).toNat * 1 + 0) (by kernel_rfl)))) (.mu 3 (.p0 (v := .hp 1 (0 + (CT (j_21 + (v5.length : Int))).toNat * 1)) (tr (ar hg232)) (.e0 (v := .unk) (ws := [(1, .own ((u_222.set (CT (j_21 + (v5.length : Int))).toNat ((aa .u32 ((gt u_222 (CT (j_21 + (v5.length : Int)))) + c_223)).tmod 1000000000)).flatMap (iC .u32)))]) (tr (iF (iH (cD (n := 1) (aI .u32) (aD hg232) (lbT rfl) (by omega : 0 + (CT (j_21 + (v5.length : Int))).toNat * 1 = (CT (j_21 + (v5.length : Int))).toNat * 1 + 0))) (congrArg Blk.own (c7 (xs := [bB ((aa .u32 ((gt u_222 (CT (j_21 + (v5.length : Int)))) + c_223)).tmod 1000000000)]) (aI .u32) (aD hg232) (lbT rfl) (by omega : 0 + (CT (j_21 + (v5.length : Int))).toNat * 1 = (CT (j_21 + (v5.length : Int))).toNat * 1 + 0) (by kernel_rfl))))) (.done (.nh [4, 6, 7, 8, 9, 10, 12] [.own (q_19.flatMap (iC .u32)), .own ((u_222.set (CT (j_21 + (v5.length : Int))).toNat ((aa .u32 ((gt u_222 (CT (j_21 + (v5.length : Int)))) + c_223)).tmod 1000000000)).flatMap (iC .u32)), .own (v5.flatMap (iC .u32))] ?_))))))))
    obtain ⟨hg233, hr⟩ := gd hr
    refine .r0 G (.mu 4 (.p0 (v := .hp 0 (0 + j_21.toNat * 1)) (tr (ar hg233)) (.e0 (v := .unk) (ws := [(0, .own ((q_19.set j_21.toNat (aa .u32 (aa .u64 (g_164 - 1)))).flatMap (iC .u32)))]) (tr (iF (iH (cD (n := 1) (aI .u32) (aD hg233) (lbT rfl) (by omega : 0 + j_21.toNat * 1 = j_21.toNat * 1 + 0))) (congrArg Blk.own (c7 (xs := [bB (aa .u32 (aa .u64 (g_164 - 1)))]) (aI .u32) (aD hg233) (lbT rfl) (by omega : 0 + j_21.toNat * 1 = j_21.toNat * 1 + 0) (by kernel_rfl))))) (.done (.pop (.ru G ?_))))))
    exact aA (q_19.set j_21.toNat (aa .u32 (aa .u64 (g_164 - 1))), u_222.set (CT (j_21 + (v5.length : Int))).toNat ((aa .u32 ((gt u_222 (CT (j_21 + (v5.length : Int)))) + c_223)).tmod 1000000000), CT (j_21 - 1)) hr ((Wk.iJ 4 (b := 0) (es := 1) (len := q_19.length) (q_19.set j_21.toNat (aa .u32 (aa .u64 (g_164 - 1)))).length (by kernel_rfl) (Eq.symm (List.length_set.trans rfl))).trans ((Wk.iJ 7 (b := 1) (es := 1) (len := u_222.length) (u_222.set (CT (j_21 + (v5.length : Int))).toNat ((aa .u32 ((gt u_222 (CT (j_21 + (v5.length : Int)))) + c_223)).tmod 1000000000)).length (by kernel_rfl) (Eq.symm (List.length_set.trans rfl))).trans ((Wk.gc [4, 6, 7, 8, 9, 10] kF3 rfl (pKo (iC .u32) (aF _) (q_19.set j_21.toNat (aa .u32 (aa .u64 (g_164 - 1)))) (pKo (iC .u32) (aF _) (u_222.set (CT (j_21 + (v5.length : Int))).toNat ((aa .u32 ((gt u_222 (CT (j_21 + (v5.length : Int)))) + c_223)).tmod 1000000000)) (pKo (iC .u32) (aF _) v5 trivial)))).to)))
   refine .r0 G (.mu 6 (.p0 (v := .hp 1 (0 + (CT (j_21 + (v5.length : Int))).toNat * 1)) (tr (ar hg213)) (.e0 (v := .unk) (ws := [(1, .own ((u_202.set (CT (j_21 + (v5.length : Int))).toNat (aa .u32 (CT ((CT ((CT (gt u_202 (CT (j_21 + (v5.length : Int))))) - b_203)) - (CT c_204))))).flatMap (iC .u32)))]) (tr (iF (iH (cD (n := 1) (aI .u32) (aD hg213) (lbT rfl) (by omega : 0 + (CT (j_21 + (v5.length : Int))).toNat * 1 = (CT (j_21 + (v5.length : Int))).toNat * 1 + 0))) (congrArg Blk.own (c7 (xs := [bB (aa .u32 (CT ((CT ((CT (gt u_202 (CT (j_21 + (v5.length : Int))))) - b_203)) - (CT c_204))))]) (aI .u32) (aD hg213) (lbT rfl) (by omega : 0 + (CT (j_21 + (v5.length : Int))).toNat * 1 = (CT (j_21 + (v5.length : Int))).toNat * 1 + 0) (by kernel_rfl))))) (.done (.nh [4, 6, 7, 8, 9, 10, 12] [.own (q_19.flatMap (iC .u32)), .own ((u_202.set (CT (j_21 + (v5.length : Int))).toNat (aa .u32 (CT ((CT ((CT (gt u_202 (CT (j_21 + (v5.length : Int))))) - b_203)) - (CT c_204))))).flatMap (iC .u32)), .own (v5.flatMap (iC .u32))] ?_)))))
   obtain ⟨hg234, hr⟩ := gd hr
   refine .r0 G (.mu 4 (.p0 (v := .hp 0 (0 + j_21.toNat * 1)) (tr (ar hg234)) (.e0 (v := .unk) (ws := [(0, .own ((q_19.set j_21.toNat (aa .u32 g_164)).flatMap (iC .u32)))]) (tr (iF (iH (cD (n := 1) (aI .u32) (aD hg234) (lbT rfl) (by omega : 0 + j_21.toNat * 1 = j_21.toNat * 1 + 0))) (congrArg Blk.own (c7 (xs := [bB (aa .u32 g_164)]) (aI .u32) (aD hg234) (lbT rfl) (by omega : 0 + j_21.toNat * 1 = j_21.toNat * 1 + 0) (by kernel_rfl))))) (.done (.pop (.ru G ?_))))))
   exact aA (q_19.set j_21.toNat (aa .u32 g_164), u_202.set (CT (j_21 + (v5.length : Int))).toNat (aa .u32 (CT ((CT ((CT (gt u_202 (CT (j_21 + (v5.length : Int))))) - b_203)) - (CT c_204)))), CT (j_21 - 1)) hr ((Wk.iJ 4 (b := 0) (es := 1) (len := q_19.length) (q_19.set j_21.toNat (aa .u32 g_164)).length (by kernel_rfl) (Eq.symm (List.length_set.trans rfl))).trans ((Wk.iJ 7 (b := 1) (es := 1) (len := u_202.length) (u_202.set (CT (j_21 + (v5.length : Int))).toNat (aa .u32 (CT ((CT ((CT (gt u_202 (CT (j_21 + (v5.length : Int))))) - b_203)) - (CT c_204))))).length (by kernel_rfl) (Eq.symm (List.length_set.trans rfl))).trans ((Wk.gc [4, 6, 7, 8, 9, 10] kF3 rfl (pKo (iC .u32) (aF _) (q_19.set j_21.toNat (aa .u32 g_164)) (pKo (iC .u32) (aF _) (u_202.set (CT (j_21 + (v5.length : Int))).toNat (aa .u32 (CT ((CT ((CT (gt u_202 (CT (j_21 + (v5.length : Int))))) - b_203)) - (CT c_204))))) (pKo (iC .u32) (aF _) v5 trivial)))).to)))
  refine .leave rfl ?_
  obtain rfl := oi hr
  exact ⟨rfl, ((Wk.gc [4, 6, 7, 9] [(0, false), (1, false)] rfl (pKo (iC .u32) (aF _) q_19 (pKo (iC .u32) (aF _) u_20 trivial))).to)⟩
 rcases o235 with ⟨q_127, u_128⟩
 rintro x st' hq237
 clear hL236
 obtain ⟨rfl, hq237⟩ := hq237
 refine a9 _ rfl (.wk hq237 (.seq ?_))
 obtain ⟨hg238, hr⟩ := gd hr
 obtain ⟨v239, hc240, v241, hc242, hr⟩ := bd2 hr
 refine .gn G (ca1 (cR (args := [.hs 1 0 (v5.length : Int).toNat 1]) (l := [1]) (SnL.cons (Sn.hsk (aI _) (aF _) (pR hg238) rfl (.inl rfl)) SnL.nil) (gT n (u_128.take (v5.length : Int).toNat) v239 hc240)) (ca4 [.own (q_127.flatMap (iC .u32)), .fix (u_128.flatMap (iC .u32))] (ok0 (lM n v239 (aa .u32 (aa .u64 ((1000000000 : Int).tdiv (aa .u64 ((aa .u64 (gt b (CT ((b.length : Int) - 1)))) + 1))))) v241 hc242)))) (.mu 2 (.p0 (v := .hs 1 0 (v5.length : Int).toNat 1) (tr (y := slH (inS 0 (v5.length : Int) u_128.length) true ((0 : Int).toNat) ((v5.length : Int).toNat) (fun z1 z2 => .hs 1 (0 + z1 * 1) (z2 - z1) 1)) (zY hg238 (by kernel_rfl))) (.ca cf0 (.mu 1 (.ca (cfF cf0) (.mu 4 (.done (.nh [4, 5] [.own (q_127.flatMap (iC .u32)), .fix (u_128.flatMap (iC .u32))] (.seq ?_)))))))))
 obtain ⟨v243, hc244, hr⟩ := bd hr
 refine .g1 G (cR (args := [.hs 0 0 q_127.length 1]) (l := [0]) (SnL.cons (Sn.hs rfl (.inl rfl) (SnC.pure (bc (aF _) _)) (fun h => cP h)) SnL.nil) (gT n q_127 v243 hc244)) (.mu 1 (.ca cf0 (.mu 3 (.done (.ret ?_)))))
 obtain rfl := oi hr
 exact aJ.ret (vs := [au v243, au v241.1]) (by kernel_rfl) (Sn.tup (Sp (Sp SnL.nil)))

theorem mj (n : Nat) (a : List Int) (b : List Int) (r : List Int × List Int) (hr : ij n a b = some r) : aN Tryz.prog 182 [au a, au b] (.tup [au r.1, au r.2]) := by
 unfold ij at hr
 refine aN.bd G Tryz.func182 [.tmp 4, .tmp 5] ?_
 unfold Tryz.f182
 simp only [gS]
 refine .seq (.r4 G [0, 1] [] (.seq (.seq ?_)))
 obtain ⟨v1, hc2, hr⟩ := bd hr
 refine .g1 G (ok0 (km n a b v1 hc2)) (.mu 2 (.ca cf0 (.mu 1 (.done (.nh [0, 1, 15] [] ?_)))))
 refine .cd hr ?_ ?_ <;> intro hb3 hr
 ·refine .seq (.r3 G 59 [(4, nS), (5, au a)] (.ret ?_))
  obtain rfl := oi hr
  exact aJ.ret (vs := [nS, au a]) (by kernel_rfl) (Sn.tup (SnL.cons Sn.cX (Sp SnL.nil)))
 refine .skip (.seq ?_)
 obtain ⟨v4, hc5, hr⟩ := bd hr
 refine .g1 G (ok0 (kh n a v4 hc5)) (.mu 1 (.ca cf0 (.mu 5 (.done (.nh [0, 1, 6, 7] [] (.seq ?_))))))
 obtain ⟨v6, hc7, hr⟩ := bd hr
 refine .g1 G (ok0 (kh n b v6 hc7)) (.mu 1 (.ca cf0 (.mu 5 (.done (.nh [0, 1, 6, 7, 8, 9] [] (.seq (.seq ?_)))))))
 rcases bT v4.2 with hb8 | hb8
 ·replace hr := cy hb8 hr
  refine .r0 G (.p0 (v := aB true) (eB hb8) (.mu 3 (.done (.nh [0, 1, 6, 8, 30] [] ?_))))
  refine .cd hr ?_ ?_ <;> intro hb9 hr
  ·refine .seq ?_
   obtain ⟨hg10, hr⟩ := gd hr
   obtain ⟨v11, hc12, v13, hc14, hr⟩ := bd2 hr
   refine .tn G (ca1 (ok0 (fw n (aa .u64 (v4.1.tdiv v6.1)) v11 hc12)) (ca3 (ok0 (fw n (v4.1.tmod v6.1) v13 hc14)))) (.mu 2 (.pure (v := cZ (aa .u64 (v4.1.tdiv v6.1))) (by kernel_rfl) (pd (x := v4.1) (y := v6.1) (by kernel_rfl) (by kernel_rfl) hg10) (by kernel_rfl) (.ca cf0 (.mu 2 (.pure (v := cZ (v4.1.tmod v6.1)) (by kernel_rfl) (oM (x := v4.1) (y := v6.1) (by kernel_rfl) (by kernel_rfl) hg10) (by kernel_rfl) (.ca (cfA (fun h => by rw [sv hc14 hc12 (tk n h)]) cf0) (.mu 2 ?_)))))))
   refine .done ⟨by kernel_rfl, ?_⟩
   refine .ret ?_
   obtain rfl := oi hr
   exact aJ.ret (vs := [au v11, au v13]) (by kernel_rfl) (Sn.tup (Sp (Sp SnL.nil)))
  refine .skip (.seq (.seq (.r4 G [0, 1] [(41, aB (((b.length : Int) : Int) == 1))] ?_)))
  refine .cd hr ?_ ?_ <;> intro hb15 hr
  ·refine .seq ?_
   obtain ⟨hg16, hr⟩ := gd hr
   obtain ⟨v17, hc18, hr⟩ := bd hr
   refine .g1 G (ok0 (lM n a (gt b 0) v17 hc18)) (.mu 2 (.p0 (v := .pp (b.flatMap (iC .u32)) ((0 : Int).toNat * 1)) (tr (ar hg16)) (.p0 (v := bB (gt b 0)) (tr (aH (aK (aI .u32) (aD hg16) z1 (by omega : (0 : Int).toNat * 1 = (0 : Int).toNat * 1 + 0) (by kernel_rfl)))) (.ca cf0 (.mu 5 (.done (.nh [10, 11] [] (.seq ?_))))))))
   obtain ⟨v19, hc20, hr⟩ := bd hr
   refine .g1 G (ok0 (fw n (aa .u64 v17.2) v19 hc20)) (.mu 3 (.ca cf0 (.mu 2 (.done (.ret ?_)))))
   obtain rfl := oi hr
   exact aJ.ret (vs := [au v17.1, au v19]) (by kernel_rfl) (Sn.tup (Sp (Sp SnL.nil)))
  refine .skip (.seq ?_)
  obtain ⟨v21, hc22, hr⟩ := bd hr
  refine .g1 G (ok0 (pq n a b v21 hc22)) (.mu 2 (.ca cf0 (.mu 4 (.done (.ret ?_)))))
  obtain rfl := oi hr
  exact aJ.ret (vs := [au v21.1, au v21.2]) (by kernel_rfl) (Sn.tup (Sp (Sp SnL.nil)))
 replace hr := cA hb8 hr
 refine .r0 G (.p0 (v := aB false) (eB hb8) (.mu 3 (.done (.nh [0, 1, 6, 8, 30] [] (.cF (by kernel_rfl) (.skip (.seq (.seq (.r4 G [0, 1] [(41, aB (((b.length : Int) : Int) == 1))] ?_)))))))))
 refine .cd hr ?_ ?_ <;> intro hb23 hr
 ·refine .seq ?_
  obtain ⟨hg24, hr⟩ := gd hr
  obtain ⟨v25, hc26, hr⟩ := bd hr
  refine .g1 G (ok0 (lM n a (gt b 0) v25 hc26)) (.mu 2 (.p0 (v := .pp (b.flatMap (iC .u32)) ((0 : Int).toNat * 1)) (tr (ar hg24)) (.p0 (v := bB (gt b 0)) (tr (aH (aK (aI .u32) (aD hg24) z1 (by omega : (0 : Int).toNat * 1 = (0 : Int).toNat * 1 + 0) (by kernel_rfl)))) (.ca cf0 (.mu 5 (.done (.nh [10, 11] [] (.seq ?_))))))))
  obtain ⟨v27, hc28, hr⟩ := bd hr
  refine .g1 G (ok0 (fw n (aa .u64 v25.2) v27 hc28)) (.mu 3 (.ca cf0 (.mu 2 (.done (.ret ?_)))))
  obtain rfl := oi hr
  exact aJ.ret (vs := [au v25.1, au v27]) (by kernel_rfl) (Sn.tup (Sp (Sp SnL.nil)))
 refine .skip (.seq ?_)
 obtain ⟨v29, hc30, hr⟩ := bd hr
 refine .g1 G (ok0 (pq n a b v29 hc30)) (.mu 2 (.ca cf0 (.mu 4 (.done (.ret ?_)))))
 obtain rfl := oi hr
 exact aJ.ret (vs := [au v29.1, au v29.2]) (by kernel_rfl) (Sn.tup (Sp (Sp SnL.nil)))

theorem nf (n : Nat) (x' : ai) (y : ai) (r : ai) (hr : g9 n x' y = some r) : aN Tryz.prog 145 [.agg (ai.c x'), .agg (ai.c y)] (.agg (ai.c r)) := by
 unfold g9 at hr
 refine aN.bd G Tryz.func145 [.cell 4 40] ?_
 unfold Tryz.f145
 simp only [gS]
 refine .seq (.r2 G 54 [(2, .hp 0 0), (3, .hp 1 0), (4, .hp 2 0)] [.own (ai.c x'), .own (ai.c y), .own [aB false, nS]] (.seq ?_))
 obtain ⟨v1, hc2, v3, hc4, hr⟩ := bd2 hr
 refine .tn G (ca1 (ok0 (cE n x' v1 hc2)) (ca3 (ok0 (cE n y v3 hc4)))) (.mu 1 (.ca cf0 (.mu 1 (.ca (cfA (fun h => by rw [sv hc4 hc2 (gY n h)]) cf0) (.mu 2 ?_)))))
 refine .done ⟨by kernel_rfl, ?_⟩
 refine .nh [4, 5, 6] [.own (ai.c x'), .own (ai.c y), .own [aB false, nS]] (.seq (.block ?_))
 replace hr := bd hr; obtain ⟨o61, hL62, hr⟩ := hr
 refine .aO (σ := fun z0 => match z0 with | (a_5, b_6) => ⟨mkS 54 0 [(4, .hp 0 0), (5, au a_5), (6, au b_6)], [.own [aB false, nS]]⟩) (Q := fun x st' => match (generalizing := false) o61 with | .inl a_33 => x = .exit 0 /\ Wk 0 st' ⟨mkS 54 0 [(4, .hp 0 0), (5, au a_33)], [.own [aB false, nS]]⟩ | .inr (r0) => x = .ret /\ aJ Tryz.prog [.cell 4 40] (.agg (ai.c r0)) .ret st') hL62 ((Wk.gc [4, 5, 6] [(2, true)] rfl trivial).to) ?_ ?_
 ·clear hr
  rintro m ⟨a_5, b_6⟩ hr
  show CQ _ _ _ _ _ ⟨_, _⟩
  refine .seq (.seq (.r4 G [4, 5, 6] [(19, aB (decide ((b_6.length : Int) > 0)))] ?_))
  refine .cd hr ?_ ?_ <;> intro hb35 hr
  ·refine .skip (.block (.seq ?_))
   obtain ⟨v36, hc37, hr⟩ := bd hr
   refine .g1 G (ok0 (kh n a_5 v36 hc37)) (.mu 1 (.ca cf0 (.mu 5 (.done (.nh [4, 5, 6, 7, 8] [.own [aB false, nS]] (.seq ?_))))))
   obtain ⟨v38, hc39, hr⟩ := bd hr
   refine .g1 G (ok0 (kh n b_6 v38 hc39)) (.mu 1 (.ca cf0 (.mu 5 (.done (.nh [4, 5, 6, 7, 8, 9, 10] [.own [aB false, nS]] (.seq (.seq ?_)))))))
   rcases bT v36.2 with hb40 | hb40
   ·replace hr := cy hb40 hr
    refine .r0 G (.p0 (v := aB true) (eB hb40) (.mu 3 (.done (.nh [4, 5, 6, 7, 9, 33] [.own [aB false, nS]] ?_))))
    refine .cd hr ?_ ?_ <;> intro hb41 hr
    ·refine .seq (.block ?_)
     replace hr := bd hr; obtain ⟨m_46, hL51, hr⟩ := hr
     refine .aO (σ := fun z0 => match z0 with | (m_42, n_43) => ⟨mkS 54 0 [(4, .hp 0 0), (7, cZ m_42), (9, cZ n_43)], [.own [aB false, nS]]⟩) (Q := fun x st' => x = .exit 2 /\ Wk 0 st' ⟨mkS 54 0 [(4, .hp 0 0), (7, cZ m_46)], [.own [aB false, nS]]⟩) hL51 ((Wk.gc [4, 7, 9] [(0, true)] rfl trivial).to) ?_ ?_
     ·clear hr
      rintro m ⟨m_42, n_43⟩ hr
      show CQ _ _ _ _ _ ⟨_, _⟩
      refine .seq (.seq (.r4 G [4, 7, 9] [(35, aB (decide (n_43 > 0)))] ?_))
      refine .cd hr ?_ ?_ <;> intro hb48 hr
      ·refine .skip (.block ?_)
       obtain ⟨hg49, hr⟩ := gd hr
       refine .eK G bW (.mu 3 (.pure (v := cZ (m_42.tmod n_43)) (by kernel_rfl) (oM (x := m_42) (y := n_43) (by kernel_rfl) (by kernel_rfl) hg49) (by kernel_rfl) (.mu 2 ?_)))
       refine .done ⟨by kernel_rfl, ?_⟩
       refine .pop ?_
       exact aA (n_43, m_42.tmod n_43) hr ((Wk.gc [4, 7, 9] [(0, true)] rfl trivial).to)
      refine .leave rfl ?_
      obtain rfl := oi hr
      exact ⟨rfl, ((Wk.gc [4, 7] [(0, true)] rfl trivial).to)⟩
     rintro x st' hq52
     clear hL51
     obtain ⟨rfl, hq52⟩ := hq52
     refine a9 _ rfl (.wk hq52 (.seq ?_))
     obtain ⟨v53, hc54, v55, hc56, hr⟩ := bd2 hr
     refine .gn G (ca1 (ok0 (fw n m_46 v53 hc54)) (ca3 (ok0 (cq n false v53 v55 hc56)))) (.mu 1 (.ca cf0 (.ca (cfF cf0) (.mu 1 (.done (.nh [4] [.own (ai.c v55)] (.ret ?_)))))))
     obtain rfl := oi hr
     exact ⟨rfl, aJ.ret (vs := [.agg (ai.c v55)]) (by kernel_rfl) (Sn.pure rfl)⟩
    refine .skip (.seq ?_)
    obtain ⟨v57, hc58, hr⟩ := bd hr
    refine .g1 G (ok0 (mj n a_5 b_6 v57 hc58)) (.mu 2 (.ca cf0 (.mu 5 (.done (.nh [4, 6, 12] [.own [aB false, nS]] (.ru G (.pop ?_)))))))
    exact aA (b_6, v57.2) hr ((Wk.gc [4, 5, 6] [(0, true)] rfl trivial).to)
   replace hr := cA hb40 hr
   refine .r0 G (.p0 (v := aB false) (eB hb40) (.mu 3 (.done (.nh [4, 5, 6, 7, 9, 33] [.own [aB false, nS]] (.cF (by kernel_rfl) (.skip (.seq ?_)))))))
   obtain ⟨v59, hc60, hr⟩ := bd hr
   refine .g1 G (ok0 (mj n a_5 b_6 v59 hc60)) (.mu 2 (.ca cf0 (.mu 5 (.done (.nh [4, 6, 12] [.own [aB false, nS]] (.ru G (.pop ?_)))))))
   exact aA (b_6, v59.2) hr ((Wk.gc [4, 5, 6] [(0, true)] rfl trivial).to)
  refine .leave rfl ?_
  obtain rfl := oi hr
  exact ⟨rfl, ((Wk.gc [4, 5] [(0, true)] rfl trivial).to)⟩
 rcases o61 with a_33 | r0
 ·rintro x st' hq63
  clear hL62
  obtain ⟨rfl, hq63⟩ := hq63
  refine a9 _ rfl (.wk hq63 (.seq ?_))
  obtain ⟨v64, hc65, v66, hc67, hr⟩ := bd2 hr
  refine .gn G (ca1 (ok0 (fI n a_33 v64 hc65)) (ca3 (ok0 (cq n false v64 v66 hc67)))) (.mu 1 (.ca cf0 (.ca (cfF cf0) (.mu 1 (.done (.nh [4] [.own (ai.c v66)] (.ret ?_)))))))
  obtain rfl := oi hr
  exact aJ.r1 [.agg (ai.c v66)]
 rintro x st' hq63
 clear hL62
 obtain ⟨rfl, hq63⟩ := hq63
 obtain rfl := oi hr
 exact iK _ hq63

theorem pt (n : Nat) (a : List Int) (b : List Int) (r : List Int) (hr : jV n a b = some r) : aN Tryz.prog 191 [au a, au b] (au r) := by
 unfold jV at hr
 refine aN.bd G Tryz.func191 [.tmp 4] ?_
 unfold Tryz.f191
 simp only [gS]
 refine .seq (.r4 G [0, 1] [] (.seq ?_))
 obtain ⟨hg1, hg2, hg3, hr⟩ := gd3 hr
 refine .r0 G (.mu 6 (.e0 (v := .hs 0 0 (List.replicate (CT ((mx (a.length : Int) (b.length : Int)) + 1)).toNat ((0 : Int) : Int)).length 1) (ws := [(0, .own ((List.replicate (CT ((mx (a.length : Int) (b.length : Int)) + 1)).toNat ((0 : Int) : Int)).flatMap (iC .u32)))]) (tr (l8 (c := (iC .u32)) (z := (0 : Int)) (n := CT ((mx (a.length : Int) (b.length : Int)) + 1)) (by_ := 4) rfl hg1 hg2 hg3)) (.mu 1 (.done (.nh [0, 1, 5] [.own ((List.replicate (CT ((mx (a.length : Int) (b.length : Int)) + 1)).toNat ((0 : Int) : Int)).flatMap (iC .u32))] (.seq (.r4 G [0, 1, 5] [(6, bB 0)] (.seq (.seq (.r4 G [0, 1, 5, 6] [(17, ae ((List.replicate (CT ((mx (a.length : Int) (b.length : Int)) + 1)).toNat ((0 : Int) : Int)).length : Int)), (18, ae 0)] (.block ?_)))))))))))
 replace hr := bd hr; obtain ⟨o_15, hL26, hr⟩ := hr
 refine .aO (σ := fun z0 => match z0 with | (o_4, c_5, x_6) => ⟨mkS 41 0 [(0, au a), (1, au b), (5, .hs 0 0 o_4.length 1), (6, bB c_5), (17, ae ((List.replicate (CT ((mx (a.length : Int) (b.length : Int)) + 1)).toNat ((0 : Int) : Int)).length : Int)), (18, ae x_6)], [.own (o_4.flatMap (iC .u32))]⟩) (Q := fun x st' => x = .exit 0 /\ Wk 0 st' ⟨mkS 41 0 [(5, .hs 0 0 o_15.length 1)], [.own (o_15.flatMap (iC .u32))]⟩) hL26 ((Wk.gc [0, 1, 5, 6, 17, 18] [(0, false)] rfl (pKo (iC .u32) (aF _) (List.replicate (CT ((mx (a.length : Int) (b.length : Int)) + 1)).toNat ((0 : Int) : Int)) trivial)).to) ?_ ?_
 ·clear hr
  rintro m ⟨o_4, c_5, x_6⟩ hr
  show CQ _ _ _ _ _ ⟨_, _⟩
  refine .seq (.r4 G [0, 1, 5, 6, 17, 18] [(19, aB (decide (x_6 < ((List.replicate (CT ((mx (a.length : Int) (b.length : Int)) + 1)).toNat ((0 : Int) : Int)).length : Int))))] (.seq ?_))
  refine .cd hr ?_ ?_ <;> intro hb17 hr
  ·refine .skip (.seq (.block (.seq (.r4 G [0, 1, 5, 6, 17, 18] [(7, ae x_6)] (.seq ?_)))))
   obtain ⟨v18, hc19, v20, hc21, hr⟩ := bd2 hr
   refine .gn G (ca1 (ok0 (lR n a x_6 v18 hc19)) (ca3 (ok0 (lR n b x_6 v20 hc21)))) (.mu 2 (.ca cf0 (.mu 2 (.ca (cfA (fun h => by rw [sv hc21 hc19 (uW n h)]) cf0) (.mu 4 (.done (.nh [0, 1, 5, 7, 8, 17, 18] [.own (o_4.flatMap (iC .u32))] (.seq (.r4 G [0, 1, 5, 7, 8, 17, 18] [(6, bB 0)] (.seq (.seq (.r4 G [0, 1, 5, 6, 7, 8, 17, 18] [(31, aB (decide ((aa .u32 ((aa .u32 (v18 + v20)) + c_5)) >= 1000000000)))] ?_))))))))))))
   refine .cd hr ?_ ?_ <;> intro hb22 hr
   ·refine .r4 G [0, 1, 5, 7, 17, 18] [(6, bB 1), (8, bB (aa .u32 ((aa .u32 ((aa .u32 (v18 + v20)) + c_5)) - 1000000000)))] ?_
    obtain ⟨hg23, hr⟩ := gd hr
    refine .r0 G (.mu 3 (.p0 (v := .hp 0 (0 + x_6.toNat * 1)) (tr (ar hg23)) (.e0 (v := .unk) (ws := [(0, .own ((o_4.set x_6.toNat (aa .u32 ((aa .u32 ((aa .u32 (v18 + v20)) + c_5)) - 1000000000))).flatMap (iC .u32)))]) (tr (iF (iH (cD (n := 1) (aI .u32) (aD hg23) (lbT rfl) (by omega : 0 + x_6.toNat * 1 = x_6.toNat * 1 + 0))) (congrArg Blk.own (c7 (xs := [bB (aa .u32 ((aa .u32 ((aa .u32 (v18 + v20)) + c_5)) - 1000000000))]) (aI .u32) (aD hg23) (lbT rfl) (by omega : 0 + x_6.toNat * 1 = x_6.toNat * 1 + 0) (by kernel_rfl))))) (.done (.pop (.ru G ?_))))))
    exact aA (o_4.set x_6.toNat (aa .u32 ((aa .u32 ((aa .u32 (v18 + v20)) + c_5)) - 1000000000)), 1, CT (x_6 + 1)) hr ((Wk.iJ 5 (b := 0) (es := 1) (len := o_4.length) (o_4.set x_6.toNat (aa .u32 ((aa .u32 ((aa .u32 (v18 + v20)) + c_5)) - 1000000000))).length (by kernel_rfl) (Eq.symm (List.length_set.trans rfl))).trans ((Wk.gc [0, 1, 5, 6, 17, 18] [(0, false)] rfl (pKo (iC .u32) (aF _) (o_4.set x_6.toNat (aa .u32 ((aa .u32 ((aa .u32 (v18 + v20)) + c_5)) - 1000000000))) trivial)).to))
   refine .skip ?_
   obtain ⟨hg24, hr⟩ := gd hr
   refine .r0 G (.mu 3 (.p0 (v := .hp 0 (0 + x_6.toNat * 1)) (tr (ar hg24)) (.e0 (v := .unk) (ws := [(0, .own ((o_4.set x_6.toNat (aa .u32 ((aa .u32 (v18 + v20)) + c_5))).flatMap (iC .u32)))]) (tr (iF (iH (cD (n := 1) (aI .u32) (aD hg24) (lbT rfl) (by omega : 0 + x_6.toNat * 1 = x_6.toNat * 1 + 0))) (congrArg Blk.own (c7 (xs := [bB (aa .u32 ((aa .u32 (v18 + v20)) + c_5))]) (aI .u32) (aD hg24) (lbT rfl) (by omega : 0 + x_6.toNat * 1 = x_6.toNat * 1 + 0) (by kernel_rfl))))) (.done (.pop (.ru G ?_))))))
   exact aA (o_4.set x_6.toNat (aa .u32 ((aa .u32 (v18 + v20)) + c_5)), 0, CT (x_6 + 1)) hr ((Wk.iJ 5 (b := 0) (es := 1) (len := o_4.length) (o_4.set x_6.toNat (aa .u32 ((aa .u32 (v18 + v20)) + c_5))).length (by kernel_rfl) (Eq.symm (List.length_set.trans rfl))).trans ((Wk.gc [0, 1, 5, 6, 17, 18] [(0, false)] rfl (pKo (iC .u32) (aF _) (o_4.set x_6.toNat (aa .u32 ((aa .u32 (v18 + v20)) + c_5))) trivial)).to))
  refine .leave rfl ?_
  obtain rfl := oi hr
  exact ⟨rfl, ((Wk.gc [5] [(0, false)] rfl (pKo (iC .u32) (aF _) o_4 trivial)).to)⟩
 rintro x st' hq27
 clear hL26
 obtain ⟨rfl, hq27⟩ := hq27
 refine a9 _ rfl (.wk hq27 (.seq ?_))
 obtain ⟨v28, hc29, hr⟩ := bd hr
 refine .g1 G (cR (args := [.hs 0 0 o_15.length 1]) (l := [0]) (SnL.cons (Sn.hs rfl (.inl rfl) (SnC.pure (bc (aF _) _)) (fun h => cP h)) SnL.nil) (gT n o_15 v28 hc29)) (.mu 1 (.ca cf0 (.mu 1 (.done (.ret ?_)))))
 obtain rfl := oi hr
 exact aJ.r1 [au v28]

theorem lN (n : Nat) (a : List Int) (b : List Int) (r : List Int) (hr : iu n a b = some r) : aN Tryz.prog 192 [au a, au b] (au r) := by
 unfold iu at hr
 refine aN.bd G Tryz.func192 [.tmp 4] ?_
 unfold Tryz.f192
 simp only [gS]
 refine .seq (.r4 G [0, 1] [] (.seq ?_))
 obtain ⟨hg1, hg2, hg3, hr⟩ := gd3 hr
 refine .r0 G (.mu 2 (.e0 (v := .hs 0 0 (List.replicate (a.length : Int).toNat ((0 : Int) : Int)).length 1) (ws := [(0, .own ((List.replicate (a.length : Int).toNat ((0 : Int) : Int)).flatMap (iC .u32)))]) (tr (l8 (c := (iC .u32)) (z := (0 : Int)) (n := (a.length : Int)) (by_ := 4) rfl hg1 hg2 hg3)) (.mu 1 (.done (.nh [0, 1, 5] [.own ((List.replicate (a.length : Int).toNat ((0 : Int) : Int)).flatMap (iC .u32))] (.seq (.r4 G [0, 1, 5] [(6, bB 0)] (.seq (.seq (.r4 G [0, 1, 5, 6] [(13, ae ((List.replicate (a.length : Int).toNat ((0 : Int) : Int)).length : Int)), (14, ae 0)] (.block ?_)))))))))))
 replace hr := bd hr; obtain ⟨o_14, hL24, hr⟩ := hr
 refine .aO (σ := fun z0 => match z0 with | (o_4, b_5, x_6) => ⟨mkS 50 0 [(0, au a), (1, au b), (5, .hs 0 0 o_4.length 1), (6, bB b_5), (13, ae ((List.replicate (a.length : Int).toNat ((0 : Int) : Int)).length : Int)), (14, ae x_6)], [.own (o_4.flatMap (iC .u32))]⟩) (Q := fun x st' => x = .exit 0 /\ Wk 0 st' ⟨mkS 50 0 [(5, .hs 0 0 o_14.length 1)], [.own (o_14.flatMap (iC .u32))]⟩) hL24 ((Wk.gc [0, 1, 5, 6, 13, 14] [(0, false)] rfl (pKo (iC .u32) (aF _) (List.replicate (a.length : Int).toNat ((0 : Int) : Int)) trivial)).to) ?_ ?_
 ·clear hr
  rintro m ⟨o_4, b_5, x_6⟩ hr
  show CQ _ _ _ _ _ ⟨_, _⟩
  refine .seq (.r4 G [0, 1, 5, 6, 13, 14] [(15, aB (decide (x_6 < ((List.replicate (a.length : Int).toNat ((0 : Int) : Int)).length : Int))))] (.seq ?_))
  refine .cd hr ?_ ?_ <;> intro hb16 hr
  ·refine .skip (.seq (.block (.seq (.r4 G [0, 1, 5, 6, 13, 14] [(7, ae x_6)] (.seq ?_)))))
   obtain ⟨v17, hc18, hr⟩ := bd hr
   refine .g1 G (ok0 (lR n b x_6 v17 hc18)) (.mu 2 (.ca cf0 (.mu 3 (.done (.nh [0, 1, 5, 7, 8, 13, 14] [.own (o_4.flatMap (iC .u32))] (.seq (.r4 G [0, 1, 5, 7, 8, 13, 14] [(6, bB 0)] (.seq ?_))))))))
   obtain ⟨hg19, hr⟩ := gd hr
   refine .r0 G (.mu 2 (.p0 (v := .pp (a.flatMap (iC .u32)) (x_6.toNat * 1)) (tr (ar hg19)) (.p0 (v := bB (gt a x_6)) (tr (aH (aK (aI .u32) (aD hg19) z1 (by omega : x_6.toNat * 1 = x_6.toNat * 1 + 0) (by kernel_rfl)))) (.mu 2 (.done (.nh [0, 1, 5, 6, 7, 8, 13, 14, 27] [.own (o_4.flatMap (iC .u32))] ?_))))))
   refine .cd hr ?_ ?_ <;> intro hb20 hr
   ·obtain ⟨hg21, hr⟩ := gd hr
    refine .r0 G (.mu 4 (.p0 (v := .pp (a.flatMap (iC .u32)) (x_6.toNat * 1)) (tr (ar hg19)) (.p0 (v := bB (gt a x_6)) (tr (aH (aK (aI .u32) (aD hg19) z1 (by omega : x_6.toNat * 1 = x_6.toNat * 1 + 0) (by kernel_rfl)))) (.mu 3 (.p0 (v := .hp 0 (0 + x_6.toNat * 1)) (tr (ar hg21)) (.e0 (v := .unk) (ws := [(0, .own ((o_4.set x_6.toNat (aa .u32 ((aa .u32 ((gt a x_6) + 1000000000)) - (aa .u32 (v17 + b_5))))).flatMap (iC .u32)))]) (tr (iF (iH (cD (n := 1) (aI .u32) (aD hg21) (lbT rfl) (by omega : 0 + x_6.toNat * 1 = x_6.toNat * 1 + 0))) (congrArg Blk.own (c7 (xs := [bB (aa .u32 ((aa .u32 ((gt a x_6) + 1000000000)) - (aa .u32 (v17 + b_5))))]) (aI .u32) (aD hg21) (lbT rfl) (by omega : 0 + x_6.toNat * 1 = x_6.toNat * 1 + 0) (by kernel_rfl))))) (.mu 1 (.done (.pop (.ru G ?_))))))))))
    exact aA (o_4.set x_6.toNat (aa .u32 ((aa .u32 ((gt a x_6) + 1000000000)) - (aa .u32 (v17 + b_5)))), 1, CT (x_6 + 1)) hr ((Wk.iJ 5 (b := 0) (es := 1) (len := o_4.length) (o_4.set x_6.toNat (aa .u32 ((aa .u32 ((gt a x_6) + 1000000000)) - (aa .u32 (v17 + b_5))))).length (by kernel_rfl) (Eq.symm (List.length_set.trans rfl))).trans ((Wk.gc [0, 1, 5, 6, 13, 14] [(0, false)] rfl (pKo (iC .u32) (aF _) (o_4.set x_6.toNat (aa .u32 ((aa .u32 ((gt a x_6) + 1000000000)) - (aa .u32 (v17 + b_5))))) trivial)).to))
   obtain ⟨hg22, hr⟩ := gd hr
   refine .r0 G (.mu 4 (.p0 (v := .pp (a.flatMap (iC .u32)) (x_6.toNat * 1)) (tr (ar hg19)) (.p0 (v := bB (gt a x_6)) (tr (aH (aK (aI .u32) (aD hg19) z1 (by omega : x_6.toNat * 1 = x_6.toNat * 1 + 0) (by kernel_rfl)))) (.mu 2 (.p0 (v := .hp 0 (0 + x_6.toNat * 1)) (tr (ar hg22)) (.e0 (v := .unk) (ws := [(0, .own ((o_4.set x_6.toNat (aa .u32 ((gt a x_6) - (aa .u32 (v17 + b_5))))).flatMap (iC .u32)))]) (tr (iF (iH (cD (n := 1) (aI .u32) (aD hg22) (lbT rfl) (by omega : 0 + x_6.toNat * 1 = x_6.toNat * 1 + 0))) (congrArg Blk.own (c7 (xs := [bB (aa .u32 ((gt a x_6) - (aa .u32 (v17 + b_5))))]) (aI .u32) (aD hg22) (lbT rfl) (by omega : 0 + x_6.toNat * 1 = x_6.toNat * 1 + 0) (by kernel_rfl))))) (.done (.pop (.ru G ?_)))))))))
   exact aA (o_4.set x_6.toNat (aa .u32 ((gt a x_6) - (aa .u32 (v17 + b_5)))), 0, CT (x_6 + 1)) hr ((Wk.iJ 5 (b := 0) (es := 1) (len := o_4.length) (o_4.set x_6.toNat (aa .u32 ((gt a x_6) - (aa .u32 (v17 + b_5))))).length (by kernel_rfl) (Eq.symm (List.length_set.trans rfl))).trans ((Wk.gc [0, 1, 5, 6, 13, 14] [(0, false)] rfl (pKo (iC .u32) (aF _) (o_4.set x_6.toNat (aa .u32 ((gt a x_6) - (aa .u32 (v17 + b_5))))) trivial)).to))
  refine .leave rfl ?_
  obtain rfl := oi hr
  exact ⟨rfl, ((Wk.gc [5] [(0, false)] rfl (pKo (iC .u32) (aF _) o_4 trivial)).to)⟩
 rintro x st' hq25
 clear hL24
 obtain ⟨rfl, hq25⟩ := hq25
 refine a9 _ rfl (.wk hq25 (.seq ?_))
 obtain ⟨v26, hc27, hr⟩ := bd hr
 refine .g1 G (cR (args := [.hs 0 0 o_14.length 1]) (l := [0]) (SnL.cons (Sn.hs rfl (.inl rfl) (SnC.pure (bc (aF _) _)) (fun h => cP h)) SnL.nil) (gT n o_14 v26 hc27)) (.mu 1 (.ca cf0 (.mu 1 (.done (.ret ?_)))))
 obtain rfl := oi hr
 exact aJ.r1 [au v26]

theorem jz (n : Nat) (x' : ai) (y : ai) (r : ai × ai × Int) (hr : dR n x' y = some r) : aN Tryz.prog 160 [.agg (ai.c x'), .agg (ai.c y)] (.tup [.agg (ai.c r.1), .agg (ai.c r.2.1), ae r.2.2]) := by
 unfold dR at hr
 refine aN.bd G Tryz.func160 [.cell 4 40, .cell 5 40, .tmp 6] ?_
 unfold Tryz.f160
 simp only [gS]
 refine .seq (.r2 G 55 [(2, .hp 0 0), (3, .hp 1 0), (4, .hp 2 0), (5, .hp 3 0)] [.own (ai.c x'), .own (ai.c y), .own [aB false, nS], .own [aB false, nS]] (.seq ?_))
 obtain ⟨v1, hc2, v3, hc4, hr⟩ := bd2 hr
 refine .tn G (ca1 (ok0 (cE n x' v1 hc2)) (ca3 (ok0 (cE n y v3 hc4)))) (.mu 1 (.ca cf0 (.mu 1 (.ca (cfA (fun h => by rw [sv hc4 hc2 (gY n h)]) cf0) (.mu 2 ?_)))))
 refine .done ⟨by kernel_rfl, ?_⟩
 refine .nh [2, 3, 4, 5, 7, 8] [.own (ai.c x'), .own (ai.c y), .own [aB false, nS], .own [aB false, nS]] (.seq (.seq (.r4 G [2, 3, 4, 5, 7, 8] [(17, aB (((v3.length : Int) : Int) == 0))] ?_)))
 refine .cd hr ?_ ?_ <;> intro hb5 hr
 ·refine .seq (.r4 G [4, 5] [(6, ae 14)] (.ret ?_))
  obtain rfl := oi hr
  exact aJ.ret (vs := [.agg [aB false, nS], .agg [aB false, nS], ae 14]) (by kernel_rfl) (Sn.tup (SnL.cons (Sn.agg (Sp (SnL.cons Sn.cX SnL.nil))) (SnL.cons (Sn.agg (Sp (SnL.cons Sn.cX SnL.nil))) (Sp SnL.nil))))
 refine .skip (.seq ?_)
 obtain ⟨v6, hc7, hr⟩ := bd hr
 refine .g1 G (ok0 (mj n v1 v3 v6 hc7)) (.mu 2 (.ca cf0 (.mu 5 (.done (.nh [2, 3, 4, 5, 8, 9, 10] [.own (ai.c x'), .own (ai.c y), .own [aB false, nS], .own [aB false, nS]] (.seq ?_))))))
 obtain ⟨v8, hc9, hr⟩ := bd hr
 refine .g1 G (ok0 (fI n v6.2 v8 hc9)) (.mu 1 (.ca cf0 (.mu 1 (.done (.nh [2, 3, 4, 5, 8, 9, 10] [.own (ai.c x'), .own (ai.c y), .own [aB false, nS], .own [aB false, nS]] (.seq (.seq ?_)))))))
 rcases bT (decide ((v8.length : Int) > 0)) with hb10 | hb10
 ·replace hr := cy hb10 hr
  refine .r0 G (.mu 2 (.p0 (v := aB true) (eB hb10) (.mu 7 (.done (.nh [2, 3, 4, 5, 8, 9, 10, 37] [.own (ai.c x'), .own (ai.c y), .own [aB false, nS], .own [aB false, nS]] ?_)))))
  refine .cd hr ?_ ?_ <;> intro hb11 hr
  ·obtain ⟨v12, hc13, v14, hc15, hr⟩ := bd2 hr
   refine .gn G (ca2 [.own (ai.c x'), .own (ai.c y), .own [aB false, nS], .own [aB false, nS], .own [bB 1]] (cR (args := [au v6.1, .hs 4 0 1 1]) (l := [4]) (Sp (SnL.cons (Sn.hs rfl (.inl rfl) (SnC.cons (Sn.pure rfl) SnC.nil) (fun h => nomatch h)) SnL.nil)) (pt n v6.1 [(1 : Int)] v12 hc13)) (ca4 [.own (ai.c x'), .own (ai.c y), .own [aB false, nS], .own [aB false, nS], .fix [bB 1]] (ok0 (lN n v3 v8 v14 hc15)))) (.mu 2 (.ca cf0 (.mu 2 (.ca (cfF cf0) (.mu 2 (.done (.nh [2, 3, 4, 5, 9, 10] [.own (ai.c x'), .own (ai.c y), .own [aB false, nS], .own [aB false, nS], .fix [bB 1]] (.seq ?_))))))))
   obtain ⟨v16, hc17, v18, hc19, hr⟩ := bd2 hr
   refine .tn G (ca1 (ok0 (cq n true v12 v16 hc17)) (ca3 (ok0 (cq n y.Negative v14 v18 hc19)))) (.mu 4 (.pure (v := aB true) (by kernel_rfl) (eB hb11) (by kernel_rfl) (.mu 1 (.ca cf0 (.mu 3 (.ca (cfA (fun h => by rw [sv hc19 hc17 (mi n h)]) cf0) (.mu 3 ?_)))))))
   refine .done ⟨by kernel_rfl, ?_⟩
   refine .nh [4, 5, 6] [.own (ai.c x'), .own (ai.c y), .own (ai.c v16), .own (ai.c v18), .fix [bB 1]] (.ret ?_)
   obtain rfl := oi hr
   exact aJ.ret (vs := [.agg (ai.c v16), .agg (ai.c v18), ae 0]) (by kernel_rfl) (Sn.tup (Sp (Sp (Sp SnL.nil))))
  refine .skip (.seq ?_)
  obtain ⟨v20, hc21, v22, hc23, hr⟩ := bd2 hr
  refine .tn G (ca1 (ok0 (cq n false v6.1 v20 hc21)) (ca3 (ok0 (cq n y.Negative v8 v22 hc23)))) (.mu 4 (.pure (v := aB false) (by kernel_rfl) (eB hb11) (by kernel_rfl) (.mu 1 (.ca cf0 (.mu 3 (.ca (cfA (fun h => by rw [sv hc23 hc21 (mi n h)]) cf0) (.mu 3 ?_)))))))
  refine .done ⟨by kernel_rfl, ?_⟩
  refine .nh [4, 5, 6] [.own (ai.c x'), .own (ai.c y), .own (ai.c v20), .own (ai.c v22)] (.ret ?_)
  obtain rfl := oi hr
  exact aJ.ret (vs := [.agg (ai.c v20), .agg (ai.c v22), ae 0]) (by kernel_rfl) (Sn.tup (Sp (Sp (Sp SnL.nil))))
 replace hr := cA hb10 hr
 refine .r0 G (.mu 2 (.p0 (v := aB false) (eB hb10) (.mu 7 (.done (.nh [2, 3, 4, 5, 8, 9, 10, 37] [.own (ai.c x'), .own (ai.c y), .own [aB false, nS], .own [aB false, nS]] (.cF (by kernel_rfl) (.skip (.seq ?_))))))))
 obtain ⟨v24, hc25, v26, hc27, hr⟩ := bd2 hr
 refine .tn G (ca1 (ok0 (cq n (x'.Negative != y.Negative) v6.1 v24 hc25)) (ca3 (ok0 (cq n y.Negative v8 v26 hc27)))) (.mu 6 (.ca cf0 (.mu 3 (.ca (cfA (fun h => by rw [sv hc27 hc25 (mi n h)]) cf0) (.mu 3 ?_)))))
 refine .done ⟨by kernel_rfl, ?_⟩
 refine .nh [4, 5, 6] [.own (ai.c x'), .own (ai.c y), .own (ai.c v24), .own (ai.c v26)] (.ret ?_)
 obtain rfl := oi hr
 exact aJ.ret (vs := [.agg (ai.c v24), .agg (ai.c v26), ae 0]) (by kernel_rfl) (Sn.tup (Sp (Sp (Sp SnL.nil))))
end Go.L
