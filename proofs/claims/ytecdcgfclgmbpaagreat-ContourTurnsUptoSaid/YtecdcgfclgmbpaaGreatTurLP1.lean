
import Derived.Test.YtecdcgfclgmbpaaGreatTurLD
import Derived.Test.YtecdcgfclgmbpaaGreatL0Turs
import Derived.Test.YtecdcgfclgmbpaaGreatChecked
import Derived.KernelRfl
set_option linter.all false
set_option maxRecDepth 100000
set_option maxHeartbeats 4000000
namespace Go.L
open Go Go.Eng Go.Proofs
theorem fu (n : Nat) (r : ar) (hr : di n = some r) : aM Tryz.prog 43 [] (.agg (ar.c r)) := by
 unfold di at hr
 refine aM.bd G Tryz.func43 [.cell 0 24] ?_
 unfold Tryz.f43
 simp only [gS]
 refine .seq (.r2 G 3 [(0, .hp 0 0)] [.own [aj 0, aj 0, aj 0, aj 0, aj 0, nS]] (.seq (.r5 G [0] [] [.own [aj 0, aj 0, aj 2, aj 3, aj 3, .hs 1 0 9 1], .own [aj 0, aj 0, aj 0, aj 0, aj 4, aj 0, aj 0, aj 0, aj 0]] (.ret ?_))))
 obtain rfl := oi hr
 exact aF.ret (vs := [.agg [aj 0, aj 0, aj 2, aj 3, aj 3, .hs 1 0 9 1]]) (by kernel_rfl) (Sn.agg (Sp (Sp (Sp (Sp (Sp (SnL.cons (Sn.hs rfl (.inl rfl) (SnC.cons (Sn.pure rfl) (SnC.cons (Sn.pure rfl) (SnC.cons (Sn.pure rfl) (SnC.cons (Sn.pure rfl) (SnC.cons (Sn.pure rfl) (SnC.cons (Sn.pure rfl) (SnC.cons (Sn.pure rfl) (SnC.cons (Sn.pure rfl) (SnC.cons (Sn.pure rfl) SnC.nil))))))))) (fun h => nomatch h)) SnL.nil)))))))

theorem dW {b : Int} {a : Int} (h : ([.at (.int .i64 b)] : List AV) = [.at (.int .i64 a)]) : b = a := by
 simp only [List.cons.injEq, AV.agg.injEq, AV.at.injEq, Value.int.injEq, Value.bool.injEq, AV.fn.injEq, AV.pp.injEq, true_and, and_true] at h
 simp_all
theorem fm (n : Nat) {b : Int} {a : Int} (h : ([.at (.int .i64 b)] : List AV) = [.at (.int .i64 a)]) : e8 n b = e8 n a := by
 obtain rfl := dW h
 rfl
theorem bU (n : Nat) (b : Int) (r : Bool) (hr : e8 n b = some r) : aM Tryz.prog 103 [aj b] (aB r) := by
 unfold e8 at hr
 refine aM.bd G Tryz.func103 [.tmp 2] ?_
 unfold Tryz.f103
 simp only [gS]
 refine .seq (.r4 G [0] [] (.seq ?_))
 rcases bT (decide (b >= 2)) with a | a
 ·replace hr := b8 a hr
  refine .r0 G (.mu 1 (.p0 (v := aB true) (eB a) (.mu 5 (.done (.ret ?_)))))
  obtain rfl := oi hr
  exact aF.r1 [aB (decide (b <= 64))]
 replace hr := bX a hr
 refine .r0 G (.mu 1 (.p0 (v := aB false) (eB a) (.mu 5 (.done (.ret ?_)))))
 obtain rfl := oi hr
 exact aF.r1 [aB false]

theorem uP (n : Nat) {b : Int} {a : Int} (h : ([.at (.int .i64 b)] : List AV) = [.at (.int .i64 a)]) : iM n b = iM n a := by
 obtain rfl := dW h
 rfl
theorem kY (n : Nat) (b : Int) (r : Bool) (hr : iM n b = some r) : aM Tryz.prog 104 [aj b] (aB r) := by
 unfold iM at hr
 refine aM.bd G Tryz.func104 [.tmp 2] ?_
 unfold Tryz.f104
 simp only [gS]
 refine .seq (.r4 G [0] [] (.seq ?_))
 rcases bT (decide (b < (-1048576))) with a | a
 ·replace hr := b8 a hr
  refine .r0 G (.mu 1 (.p0 (v := aB true) (eB a) (.mu 5 (.done (.ret ?_)))))
  obtain rfl := oi hr
  exact aF.r1 [aB true]
 replace hr := bX a hr
 refine .r0 G (.mu 1 (.p0 (v := aB false) (eB a) (.mu 5 (.done (.ret ?_)))))
 obtain rfl := oi hr
 exact aF.r1 [aB (decide (b > 1048576))]

theorem rA (n : Nat) (z : Int) (r : Bool) (hr : jc n z = some r) : aM Tryz.prog 106 [aj z] (aB r) := by
 unfold jc at hr
 refine aM.bd G Tryz.func106 [.tmp 2] ?_
 unfold Tryz.f106
 simp only [gS]
 refine .seq (.r4 G [0] [] (.seq ?_))
 rcases bT ((z : Int) != (-2147483648)) with a | a
 ·replace hr := b8 a hr
  obtain ⟨c, b, hr⟩ := bd hr
  refine .g1 G (ok0 (kY n z c b)) (.mu 1 (.p0 (v := aB true) (eB a) (.mu 2 (.ca cf0 (.mu 2 (.done (.ret ?_)))))))
  obtain rfl := oi hr
  exact aF.r1 [aB c]
 replace hr := bX a hr
 refine .r0 G (.mu 1 (.p0 (v := aB false) (eB a) (.mu 5 (.done (.ret ?_)))))
 obtain rfl := oi hr
 exact aF.r1 [aB false]

theorem ig (n : Nat) (s : List Int) (r : Int) (hr : cj n s = some r) : aM Tryz.prog 146 [ch s, .fn 106 [] []] (aj r) := by
 unfold cj at hr
 refine aM.bd G Tryz.func146 [.tmp 4] ?_
 unfold Tryz.f146
 simp only [gS]
 refine .seq (.r4 G [0, 1] [] (.seq (.seq (.r4 G [0, 1] [(7, aj (s.length : Int)), (8, aj 0)] (.block ?_)))))
 replace hr := bd hr; obtain ⟨d, c, hr⟩ := hr
 refine .aL (σ := fun i => match i with | a => ⟨mkS 19 0 [(0, ch s), (1, .fn 106 [] []), (7, aj (s.length : Int)), (8, aj a)], []⟩) (Q := fun x st' => match (generalizing := false) d with | .inl _ => x = .exit 0 /\ Wk 0 st' ⟨mkS 19 0 [], []⟩ | .inr (r0) => x = .ret /\ aF Tryz.prog [.tmp 4] (aj r0) .ret st') c ((Wk.gc [0, 1, 7, 8] [] rfl pK0).to) ?_ ?_
 ·clear hr
  rintro m a hr
  show CQ _ _ _ _ _ ⟨_, _⟩
  refine .seq (.r4 G [0, 1, 7, 8] [(9, aB (decide (a < (s.length : Int))))] (.seq ?_))
  refine .cd hr ?_ ?_ <;> intro j hr
  ·refine .skip (.seq (.block (.seq (.r4 G [0, 1, 7, 8] [(5, aj a)] (.seq ?_)))))
   obtain ⟨e, hr⟩ := gd hr
   obtain ⟨g, f, hr⟩ := bd hr
   refine .g1 G (ok0 (rA n (gt s a) g f)) (.mu 3 (.p0 (v := .pp (s.flatMap (iC .i64)) (a.toNat * 1)) (tr (au e)) (.p0 (v := aj (gt s a)) (tr (aH (aK (aI .i64) (aD e) z1 (by omega : a.toNat * 1 = a.toNat * 1 + 0) (by kernel_rfl)))) (.ca cf0 (.done (.nh [0, 1, 5, 7, 8, 16] [] ?_))))))
   refine .cd hr ?_ ?_ <;> intro h hr
   ·refine .seq (.ru G (.ret ?_))
    obtain rfl := oi hr
    exact ⟨rfl, aF.ret (vs := [aj a]) (by kernel_rfl) (Sn.pure rfl)⟩
   refine .skip (.pop (.ru G ?_))
   exact aA (EN (a + 1)) hr ((Wk.gc [0, 1, 7, 8] [] rfl pK0).to)
  refine .leave rfl ?_
  obtain rfl := oi hr
  exact ⟨rfl, ((Wk.gc [] [] rfl pK0).to)⟩
 rcases d with ⟨⟩ | r0
 ·rintro x st' b
  clear c
  obtain ⟨rfl, b⟩ := b
  refine aV _ rfl (.wk b (.seq (.ru G (.ret ?_))))
  obtain rfl := oi hr
  exact aF.r1 [aj (-1)]
 rintro x st' b
 clear c
 obtain ⟨rfl, b⟩ := b
 obtain rfl := oi hr
 exact gw _ b

theorem gG (n : Nat) (s : List Int) (r : Bool) (hr : bn n s = some r) : aM Tryz.prog 105 [ch s, .fn 106 [] []] (aB r) := by
 unfold bn at hr
 refine aM.bd G Tryz.func105 [.tmp 4] ?_
 unfold Tryz.f105
 simp only [gS]
 refine .seq (.r4 G [0, 1] [] (.seq ?_))
 obtain ⟨b, a, hr⟩ := bd hr
 refine .g1 G (ok0 (ig n s b a)) (.mu 2 (.ca cf0 (.mu 2 (.done (.ret ?_)))))
 obtain rfl := oi hr
 exact aF.r1 [aB (decide (b >= 0))]

theorem oZ (n : Nat) (g : ar) (r : Int) (hr : je n g = some r) : aM Tryz.prog 58 [.agg (ar.c g)] (aj r) := by
 unfold je at hr
 refine aM.bd G Tryz.func58 [.tmp 2] ?_
 unfold Tryz.f58
 simp only [gS]
 refine .seq (.r2 G 54 [(1, .hp 0 0)] [.own (ar.c g)] (.seq (.r4 G [1] [(3, .fn 103 [] [])] (.seq (.seq ?_)))))
 obtain ⟨m, a, hr⟩ := bd hr
 rcases bT (!m) with d | d
 ·replace hr := b8 d hr
  refine .g1 G (ok0 (bU n g.Width m a)) (.mu 3 (.ca cf0 (.p0 (v := aB true) (eB d) (.mu 33 (.done (.nh [1, 41] [.own (ar.c g)] (.cT (by kernel_rfl) (.seq (.ru G (.ret ?_))))))))))
  obtain rfl := oi hr
  exact aF.r1 [aj 2]
 replace hr := bX d hr
 obtain ⟨p, b, hr⟩ := bd hr
 rcases bT (!p) with e | e
 ·replace hr := b8 e hr
  refine .gn G (ca1 (ok0 (bU n g.Width m a)) (ca3 (ok0 (bU n g.Height p b)))) (.mu 3 (.ca cf0 (.p0 (v := aB false) (eB d) (.mu 4 (.ca (cfA (fun h => by rw [sv b a (fm n h)]) cf0) (.pure (v := aB true) (by kernel_rfl) (eB e) (.mu 27 (.done (.nh [1, 41] [.own (ar.c g)] (.cT (by kernel_rfl) (.seq (.ru G (.ret ?_)))))))))))))
  obtain rfl := oi hr
  exact aF.r1 [aj 2]
 replace hr := bX e hr
 rcases bT (decide (g.Step < 2)) with f | f
 ·replace hr := b8 f hr
  refine .gn G (ca1 (ok0 (bU n g.Width m a)) (ca3 (ok0 (bU n g.Height p b)))) (.mu 3 (.ca cf0 (.p0 (v := aB false) (eB d) (.mu 4 (.ca (cfA (fun h => by rw [sv b a (fm n h)]) cf0) (.pure (v := aB false) (by kernel_rfl) (eB e) (.mu 4 (.pure (v := aB true) (by kernel_rfl) (eB f) (.mu 22 (.done (.nh [1, 41] [.own (ar.c g)] (.cT (by kernel_rfl) (.seq (.ru G (.ret ?_)))))))))))))))
  obtain rfl := oi hr
  exact aF.r1 [aj 2]
 replace hr := bX f hr
 rcases bT (decide (g.Step > 65536)) with i | i
 ·replace hr := b8 i hr
  refine .gn G (ca1 (ok0 (bU n g.Width m a)) (ca3 (ok0 (bU n g.Height p b)))) (.mu 3 (.ca cf0 (.p0 (v := aB false) (eB d) (.mu 4 (.ca (cfA (fun h => by rw [sv b a (fm n h)]) cf0) (.pure (v := aB false) (by kernel_rfl) (eB e) (.mu 4 (.pure (v := aB false) (by kernel_rfl) (eB f) (.mu 4 (.pure (v := aB true) (by kernel_rfl) (eB i) (.mu 17 (.done (.nh [1, 41] [.own (ar.c g)] (.cT (by kernel_rfl) (.seq (.ru G (.ret ?_)))))))))))))))))
  obtain rfl := oi hr
  exact aF.r1 [aj 2]
 replace hr := bX i hr
 rcases bT (((g.Step.tmod 2) : Int) != 0) with j | j
 ·replace hr := b8 j hr
  refine .gn G (ca1 (ok0 (bU n g.Width m a)) (ca3 (ok0 (bU n g.Height p b)))) (.mu 3 (.ca cf0 (.p0 (v := aB false) (eB d) (.mu 4 (.ca (cfA (fun h => by rw [sv b a (fm n h)]) cf0) (.pure (v := aB false) (by kernel_rfl) (eB e) (.mu 4 (.pure (v := aB false) (by kernel_rfl) (eB f) (.mu 4 (.pure (v := aB false) (by kernel_rfl) (eB i) (.mu 5 (.pure (v := aB true) (by kernel_rfl) (eB j) (.mu 11 (.done (.nh [1, 41] [.own (ar.c g)] (.cT (by kernel_rfl) (.seq (.ru G (.ret ?_)))))))))))))))))))
  obtain rfl := oi hr
  exact aF.r1 [aj 2]
 replace hr := bX j hr
 obtain ⟨s, k, hr⟩ := bd hr
 rcases bT s with l | l
 ·subst l
  replace hr := b8 rfl hr
  refine .gn G (ca1 (ok0 (bU n g.Width m a)) (ca1 (ok0 (bU n g.Height p b)) (ca3 (ok0 (kY n g.X0 true k))))) (.mu 3 (.ca cf0 (.p0 (v := aB false) (eB d) (.mu 4 (.ca (cfA (fun h => by rw [sv b a (fm n h)]) cf0) (.pure (v := aB false) (by kernel_rfl) (eB e) (.mu 4 (.pure (v := aB false) (by kernel_rfl) (eB f) (.mu 4 (.pure (v := aB false) (by kernel_rfl) (eB i) (.mu 5 (.pure (v := aB false) (by kernel_rfl) (eB j) (.mu 4 (.ca (cfF (cfF cf0)) (.mu 6 (.done (.nh [1, 41] [.own (ar.c g)] (.cT (by kernel_rfl) (.seq (.ru G (.ret ?_)))))))))))))))))))))
  obtain rfl := oi hr
  exact aF.r1 [aj 2]
 subst l
 replace hr := bX rfl hr
 obtain ⟨t, o, hr⟩ := bd hr
 refine .gn G (ca1 (ok0 (bU n g.Width m a)) (ca1 (ok0 (bU n g.Height p b)) (ca1 (ok0 (kY n g.X0 false k)) (ca3 (ok0 (kY n g.Y0 t o)))))) (.mu 3 (.ca cf0 (.p0 (v := aB false) (eB d) (.mu 4 (.ca (cfA (fun h => by rw [sv b a (fm n h)]) cf0) (.pure (v := aB false) (by kernel_rfl) (eB e) (.mu 4 (.pure (v := aB false) (by kernel_rfl) (eB f) (.mu 4 (.pure (v := aB false) (by kernel_rfl) (eB i) (.mu 5 (.pure (v := aB false) (by kernel_rfl) (eB j) (.mu 4 (.ca (cfF (cfF cf0)) (.mu 4 (.ca (cfF (cfF (cfA (fun h => by rw [sv o k (uP n h)]) cf0))) (.mu 1 (.done (.nh [1, 41] [.own (ar.c g)] ?_)))))))))))))))))))
 refine .cd hr ?_ ?_ <;> intro w hr
 ·refine .seq (.ru G (.ret ?_))
  obtain rfl := oi hr
  exact aF.r1 [aj 2]
 refine .skip (.seq (.seq (.r4 G [1] [(50, aB (((g.Z.length : Int) : Int) != (EN (g.Width * g.Height))))] ?_)))
 refine .cd hr ?_ ?_ <;> intro x hr
 ·refine .seq (.ru G (.ret ?_))
  obtain rfl := oi hr
  exact aF.r1 [aj 4]
 refine .skip (.seq (.seq ?_))
 obtain ⟨u, q, hr⟩ := bd hr
 refine .g1 G (ok0 (gG n g.Z u q)) (.mu 2 (.ca cf0 (.done (.nh [53] [.own (ar.c g)] ?_))))
 refine .cd hr ?_ ?_ <;> intro y hr
 ·refine .seq (.ru G (.ret ?_))
  obtain rfl := oi hr
  exact aF.r1 [aj 2]
 refine .skip (.seq (.ru G (.ret ?_)))
 obtain rfl := oi hr
 exact aF.r1 [aj 0]

theorem jm (n : Nat) (g : ar) (level : Int) (r : Int) (hr : gv n g level = some r) : aM Tryz.prog 44 [.agg (ar.c g), aj level] (aj r) := by
 unfold gv at hr
 refine aM.bd G Tryz.func44 [.tmp 4] ?_
 unfold Tryz.f44
 simp only [gS]
 refine .seq (.r5 G [1] [(2, .hp 0 0)] [.own (ar.c g)] (.seq (.seq ?_)))
 obtain ⟨b, d, hr⟩ := bd hr
 refine .g1 G (ok0 (oZ n g b d)) (.mu 1 (.ca cf0 (.mu 1 (.done (.nh [1, 5] [.own (ar.c g)] (.seq (.r4 G [1, 5] [(9, aB ((b : Int) != 0))] ?_)))))))
 refine .cd hr ?_ ?_ <;> intro e hr
 ·refine .seq (.ru G (.ret ?_))
  obtain rfl := oi hr
  exact aF.r1 [aj b]
 refine .skip (.seq (.seq (.r4 G [1] [(13, aB (((level.tmod 2) : Int) == 0))] ?_)))
 refine .cd hr ?_ ?_ <;> intro f hr
 ·refine .seq (.ru G (.ret ?_))
  obtain rfl := oi hr
  exact aF.r1 [aj 1]
 refine .skip (.seq (.seq ?_))
 rcases bT (decide (level < (-2097153))) with a | a
 ·replace hr := b8 a hr
  refine .r0 G (.mu 1 (.p0 (v := aB true) (eB a) (.mu 4 (.done (.nh [19] [.own (ar.c g)] (.cT (by kernel_rfl) (.seq (.ru G (.ret ?_)))))))))
  obtain rfl := oi hr
  exact aF.r1 [aj 2]
 replace hr := bX a hr
 refine .r0 G (.mu 1 (.p0 (v := aB false) (eB a) (.mu 4 (.done (.nh [19] [.own (ar.c g)] ?_)))))
 refine .cd hr ?_ ?_ <;> intro h hr
 ·refine .seq (.ru G (.ret ?_))
  obtain rfl := oi hr
  exact aF.r1 [aj 2]
 refine .skip (.seq (.ru G (.ret ?_)))
 obtain rfl := oi hr
 exact aF.r1 [aj 0]

theorem re {k : Int} {p : Int} {n : Int} {l : Int} {i : Int} {f : Int} {d : List Int} {b : Int} {o : Int} {q : Int} {m : Int} {j : Int} {g : Int} {e : Int} {c : List Int} {a : Int} (h : ([.at (.int .i64 k), .pp [.at (.int .i64 p), .at (.int .i64 n), .at (.int .i64 l), .at (.int .i64 i), .at (.int .i64 f), slT (iC .i64) d] 0, .pp [.at (.int .i64 b)] 0] : List AV) = [.at (.int .i64 o), .pp [.at (.int .i64 q), .at (.int .i64 m), .at (.int .i64 j), .at (.int .i64 g), .at (.int .i64 e), slT (iC .i64) c] 0, .pp [.at (.int .i64 a)] 0]) : k = o /\ p = q /\ n = m /\ l = j /\ i = g /\ f = e /\ d = c /\ b = a := by
 simp only [List.cons.injEq, AV.agg.injEq, AV.at.injEq, Value.int.injEq, Value.bool.injEq, AV.fn.injEq, AV.pp.injEq, true_and, and_true, dY] at h
 simp_all
theorem nr (n : Nat) {k : Int} {p : Int} {o : Int} {l : Int} {i : Int} {f : Int} {d : List Int} {b : Int} {q : Int} {r : Int} {m : Int} {j : Int} {g : Int} {e : Int} {c : List Int} {a : Int} (h : ([.at (.int .i64 k), .pp [.at (.int .i64 p), .at (.int .i64 o), .at (.int .i64 l), .at (.int .i64 i), .at (.int .i64 f), slT (iC .i64) d] 0, .pp [.at (.int .i64 b)] 0] : List AV) = [.at (.int .i64 q), .pp [.at (.int .i64 r), .at (.int .i64 m), .at (.int .i64 j), .at (.int .i64 g), .at (.int .i64 e), slT (iC .i64) c] 0, .pp [.at (.int .i64 a)] 0]) : fa n k p o l i f d b = fa n q r m j g e c a := by
 obtain ⟨rfl, rfl, rfl, rfl, rfl, rfl, rfl, rfl⟩ := re h
 rfl
theorem fj (n : Nat) (k : Int) (p : Int) (g : Int) (e : Int) (d : Int) (c : Int) (a : List Int) (b : Int) (r : Bool) (hr : fa n k p g e d c a b = some r) : aM Tryz.prog 88 [aj k, .pp [aj p, aj g, aj e, aj d, aj c, ch a] 0, .pp [aj b] 0] (aB r) := by
 unfold fa at hr
 refine aM.bd G Tryz.func88 [.tmp 4] ?_
 unfold Tryz.f88
 simp only [gS]
 refine .seq (.r4 G [0, 1, 2] [] (.seq ?_))
 obtain ⟨f, hr⟩ := gd hr
 refine .ei G bL (.mu 3 (.pk (v := .pp (a.flatMap (iC .i64)) (k.toNat * 1)) (tr (au f)) (.pk (v := aj (gt a k)) (tr (aH (aK (aI .i64) (aD f) z1 (by omega : k.toNat * 1 = k.toNat * 1 + 0) (by kernel_rfl)))) (.mu 4 ?_))))
 refine .done ⟨by kernel_rfl, ?_⟩
 refine .ret ?_
 obtain rfl := oi hr
 exact aF.r1 [aB (decide ((EN (2 * (gt a k))) > b))]

theorem n3 (n : Nat) (a : Int) (b : Int) (r : A2 Int) (hr : kX n a b = some r) : aM Tryz.prog 91 [aj a, aj b] (.agg (ah.c r)) := by
 unfold kX at hr
 refine aM.bd G Tryz.func91 [.cell 4 101] ?_
 unfold Tryz.f91
 simp only [gS]
 refine .seq (.r5 G [0, 1] [(4, .hp 0 0)] [.own [aj 0, aj 0]] (.seq (.r5 G [4] [] [.own [aj (mn a b), aj (mx a b)]] (.ret ?_))))
 obtain rfl := oi hr
 exact aF.r1 [.agg [aj (mn a b), aj (mx a b)]]

theorem qq (n : Nat) (t : A3 Int) (c : Int) (F : Int) (q : Int) (i : Int) (d : Int) (b : List Int) (a : Int) (p : List (A2 Int × A2 Int)) (E : List (A2 Int × Bool)) (r : List (A2 Int × A2 Int) × List (A2 Int × Bool)) (hr : kD n t c F q i d b a p E = some r) : dU 5 Tryz.prog 90 [.agg (av.c t), .hp 0 0, .hp 3 0, .hp 4 0] [.own [.fn 88 [] [.hp 1 0, .hp 2 0]], .own [aj c, aj F, aj q, aj i, aj d, ch b], .own [aj a], .own [.mp 5], .own [.mp 6], .map (p.map (mpK aw.K (gA ah.c))), .map (E.map (mpK aw.K bA))] (.tup []) [.own [.fn 88 [] [.hp 1 0, .hp 2 0]], .own [aj c, aj F, aj q, aj i, aj d, ch b], .own [aj a], .own [.mp 5], .own [.mp 6], .map (r.1.map (mpK aw.K (gA ah.c))), .map (r.2.map (mpK aw.K bA))] := by
 unfold kD at hr
 refine dU.kR G Tryz.func90 (c := (Tryz.f90.body).getD .skip) rfl (us := []) (s := mkS 55 0 [(0, .agg (av.c t)), (1, .hp 0 0), (2, .hp 3 0), (3, .hp 4 0)]) (by kernel_rfl) (rs := []) rfl ?_
 unfold Tryz.f90
 simp only [gS]
 refine .seq (.r5 G [1, 2, 3] [(4, .hp 7 0)] [.own [.fn 88 [] [.hp 1 0, .hp 2 0]], .own [aj c, aj F, aj q, aj i, aj d, ch b], .own [aj a], .own [.mp 5], .own [.mp 6], .map (p.map (mpK aw.K (gA ah.c))), .map (E.map (mpK aw.K bA)), .own (av.c t)] (.seq (.r5 G [1, 2, 3, 4] [(5, .hp 8 0), (6, .hp 9 0)] [.own [.fn 88 [] [.hp 1 0, .hp 2 0]], .own [aj c, aj F, aj q, aj i, aj d, ch b], .own [aj a], .own [.mp 5], .own [.mp 6], .map (p.map (mpK aw.K (gA ah.c))), .map (E.map (mpK aw.K bA)), .own (av.c t), .own [aj 0, aj 0], .own [aj 0, aj 0]] (.seq (.r4 G [1, 2, 3, 4, 5, 6] [(7, aB false)] (.seq (.seq (.r4 G [1, 2, 3, 4, 5, 6, 7] [(11, aj 0)] (.block ?_)))))))))
 replace hr := bd hr; obtain ⟨kB, T, hr⟩ := hr
 refine .aL (σ := fun z0 => match z0 with | (z, A, B, C, H, g) => ⟨mkS 55 0 [(1, .hp 0 0), (2, .hp 3 0), (3, .hp 4 0), (4, .hp 7 0), (5, .hp 8 0), (6, .hp 9 0), (7, aB H), (11, aj g)], [.own [.fn 88 [] [.hp 1 0, .hp 2 0]], .own [aj c, aj F, aj q, aj i, aj d, ch b], .own [aj a], .own [.mp 5], .own [.mp 6], .map (p.map (mpK aw.K (gA ah.c))), .map (E.map (mpK aw.K bA)), .own (av.c t), .own [aj z, aj A], .own [aj B, aj C]]⟩) (Q := fun x st' => match (generalizing := false) kB with | (u, w, j, o, J) => x = .exit 0 /\ Wk 5 st' ⟨mkS 55 0 [(2, .hp 3 0), (3, .hp 4 0), (5, .hp 7 0), (6, .hp 8 0), (7, aB J)], [.own [.fn 88 [] [.hp 1 0, .hp 2 0]], .own [aj c, aj F, aj q, aj i, aj d, ch b], .own [aj a], .own [.mp 5], .own [.mp 6], .map (p.map (mpK aw.K (gA ah.c))), .map (E.map (mpK aw.K bA)), .own [aj u, aj w], .own [aj j, aj o]]⟩) T ((Wk.gc [1, 2, 3, 4, 5, 6, 7, 11] [(0, true), (1, true), (2, true), (3, true), (4, true), (5, false), (6, false), (7, true), (8, true), (9, true)] rfl (pKt (pKt (pKt (pKt (pKt (pKM aw.K (gA ah.c) (fun _ => rfl) p (pKM aw.K bA (fun _ => rfl) E trivial)))))))).to) ?_ ?_
 ·clear hr
  rintro m ⟨z, A, B, C, H, g⟩ hr
  show CQ _ _ _ _ _ ⟨_, _⟩
  refine .seq (.r4 G [1, 2, 3, 4, 5, 6, 7, 11] [(12, aB (decide (g < 3)))] (.seq ?_))
  refine .cd hr ?_ ?_ <;> intro pL hr
  ·refine .skip (.seq (.block (.seq (.r4 G [1, 2, 3, 4, 5, 6, 7, 11] [(8, aj g)] (.seq ?_)))))
   obtain ⟨U, V, hr⟩ := gd2 hr
   refine .ei G bL (.mu 1 (.pk (v := .hp 7 (0 + g.toNat * 1)) (tr (au U)) (.pk (v := aj (A3.get t g)) (tr (y := bt.ofP ((av.c t)[0 + g.toNat * 1]?)) (aH (so (k := .i64) (kk := 0) (xs := [t.e0, t.e1, t.e2]) U rfl (by kernel_rfl)))) (.mu 3 (.pk (v := .hp 7 (0 + ((EN (g + 1)).tmod 3).toNat * 1)) (tr (au V)) (.pk (v := aj (A3.get t ((EN (g + 1)).tmod 3))) (tr (y := bt.ofP ((av.c t)[0 + ((EN (g + 1)).tmod 3).toNat * 1]?)) (aH (so (k := .i64) (kk := 0) (xs := [t.e0, t.e1, t.e2]) V rfl (by kernel_rfl)))) (.mu 2 ?_)))))))
   refine .done ⟨by kernel_rfl, ?_⟩
   refine .nh [1, 2, 3, 4, 5, 6, 7, 9, 10, 11] [.own [.fn 88 [] [.hp 1 0, .hp 2 0]], .own [aj c, aj F, aj q, aj i, aj d, ch b], .own [aj a], .own [.mp 5], .own [.mp 6], .map (p.map (mpK aw.K (gA ah.c))), .map (E.map (mpK aw.K bA)), .own (av.c t), .own [aj z, aj A], .own [aj B, aj C]] ?_
   obtain ⟨D, lH, hr⟩ := bd hr
   refine .wk ((Wk.refl _).to (c := ⟨mkS 55 0 [(1, .hp 0 0), (2, .hp 3 0), (3, .hp 4 0), (4, .hp 7 0), (5, .hp 8 0), (6, .hp 9 0), (7, aB H), (9, aj (A3.get t g)), (10, aj D), (11, aj g)], [.own [.fn 88 [] [.hp 1 0, .hp 2 0]], .own [aj c, aj F, aj q, aj i, aj d, ch b], .own [aj a], .own [.mp 5], .own [.mp 6], .map (p.map (mpK aw.K (gA ah.c))), .map (E.map (mpK aw.K bA)), .own (av.c t), .own [aj z, aj A], .own [aj B, aj C]]⟩) (by rw [oi lH]; first | done | kernel_rfl)) <| .block <| .seq ?_
   replace hr := bd hr; obtain ⟨l8, L, hr⟩ := hr
   refine .xA (Q := fun x st' => x = .normal /\ Wk 5 st' ⟨mkS 55 0 [(1, .hp 0 0), (2, .hp 3 0), (3, .hp 4 0), (4, .hp 7 0), (5, .hp 8 0), (6, .hp 9 0), (7, aB H), (9, aj (A3.get t g)), (10, aj D), (11, aj g), (22, aB l8)], [.own [.fn 88 [] [.hp 1 0, .hp 2 0]], .own [aj c, aj F, aj q, aj i, aj d, ch b], .own [aj a], .own [.mp 5], .own [.mp 6], .map (p.map (mpK aw.K (gA ah.c))), .map (E.map (mpK aw.K bA)), .own (av.c t), .own [aj z, aj A], .own [aj B, aj C]]⟩) ?_ ?_
   ·clear hr
    have hr := L
    clear L
    obtain ⟨mw, M, hr⟩ := bd hr
    rcases bT mw with N | N
    ·subst N
     replace hr := b8 rfl hr
     obtain ⟨nC, W, hr⟩ := bd hr
     refine .gn G (ca1 (fP (args := [aj (A3.get t g), .hp 1 0, .hp 2 0]) (l := [1, 2]) rfl (Sp (SnL.cons (Sn.hp rfl (.inl rfl) (SnC.cons (Sn.pure rfl) (SnC.cons (Sn.pure rfl) (SnC.cons (Sn.pure rfl) (SnC.cons (Sn.pure rfl) (SnC.cons (Sn.pure rfl) (SnC.cons (Sn.pure rfl) SnC.nil))))))) (SnL.cons (Sn.hp rfl (.inl rfl) (SnC.cons (Sn.pure rfl) SnC.nil)) SnL.nil))) (fj n (A3.get t g) c F q i d b a true M)) (ca3 (fP (args := [aj D, .hp 1 0, .hp 2 0]) (l := [1, 2]) rfl (Sp (SnL.cons (Sn.hp rfl (.inl rfl) (SnC.cons (Sn.pure rfl) (SnC.cons (Sn.pure rfl) (SnC.cons (Sn.pure rfl) (SnC.cons (Sn.pure rfl) (SnC.cons (Sn.pure rfl) (SnC.cons (Sn.pure rfl) SnC.nil))))))) (SnL.cons (Sn.hp rfl (.inl rfl) (SnC.cons (Sn.pure rfl) SnC.nil)) SnL.nil))) (fj n D c F q i d b a nC W)))) (.mu 2 (.ca cf0 (.mu 3 (.ca (cfA (fun h => by rw [sv W M (nr n (show ([aj D, .pp [aj c, aj F, aj q, aj i, aj d, ch b] 0, .pp [aj a] 0] : List AV) = [aj (A3.get t g), .pp [aj c, aj F, aj q, aj i, aj d, ch b] 0, .pp [aj a] 0] from (congr (congrArg List.cons (List.cons.inj h).1) (congr (congrArg List.cons rfl) (congr (congrArg List.cons rfl) rfl)))))]) cf0) (.mu 3 (.done ?_))))))
     obtain rfl := oi hr
     exact ⟨rfl, ((Wk.gc [1, 2, 3, 4, 5, 6, 7, 9, 10, 11, 22] [(0, true), (1, true), (2, true), (3, true), (4, true), (5, false), (6, false), (7, true), (8, true), (9, true)] rfl (pKt (pKt (pKt (pKt (pKt (pKM aw.K (gA ah.c) (fun _ => rfl) p (pKM aw.K bA (fun _ => rfl) E trivial)))))))).to)⟩
    subst N
    replace hr := bX rfl hr
    refine .g1 G (fP (args := [aj (A3.get t g), .hp 1 0, .hp 2 0]) (l := [1, 2]) rfl (Sp (SnL.cons (Sn.hp rfl (.inl rfl) (SnC.cons (Sn.pure rfl) (SnC.cons (Sn.pure rfl) (SnC.cons (Sn.pure rfl) (SnC.cons (Sn.pure rfl) (SnC.cons (Sn.pure rfl) (SnC.cons (Sn.pure rfl) SnC.nil))))))) (SnL.cons (Sn.hp rfl (.inl rfl) (SnC.cons (Sn.pure rfl) SnC.nil)) SnL.nil))) (fj n (A3.get t g) c F q i d b a false M)) (.mu 2 (.ca cf0 (.mu 7 (.done ?_))))
    obtain rfl := oi hr
    exact ⟨rfl, ((Wk.gc [1, 2, 3, 4, 5, 6, 7, 9, 10, 11, 22] [(0, true), (1, true), (2, true), (3, true), (4, true), (5, false), (6, false), (7, true), (8, true), (9, true)] rfl (pKt (pKt (pKt (pKt (pKt (pKM aw.K (gA ah.c) (fun _ => rfl) p (pKM aw.K bA (fun _ => rfl) E trivial)))))))).to)⟩
   rintro x st' O
   clear L
   obtain ⟨rfl, O⟩ := O
   refine .wk O ?_
   refine .cd hr ?_ ?_ <;> intro kH hr
   ·obtain ⟨X, lK, hr⟩ := bd hr
    refine .g1 G (ok0 (n3 n (A3.get t g) D X lK)) (.mu 2 (.ca cf0 (.mu 2 (.done (.pop (.pop (.ru G ?_)))))))
    exact aA (X.e0, X.e1, B, C, true, EN (g + 1)) hr ((Wk.gc [1, 2, 3, 4, 5, 6, 7, 11] [(0, true), (1, true), (2, true), (3, true), (4, true), (5, false), (6, false), (7, true), (8, true), (9, true)] rfl (pKt (pKt (pKt (pKt (pKt (pKM aw.K (gA ah.c) (fun _ => rfl) p (pKM aw.K bA (fun _ => rfl) E trivial)))))))).to)
   refine .seq ?_
   obtain ⟨Y, R, hr⟩ := bd hr
   rcases bT (!Y) with I | I
   ·replace hr := b8 I hr
    obtain ⟨nF, Z, hr⟩ := bd hr
    refine .gn G (ca1 (fP (args := [aj (A3.get t g), .hp 1 0, .hp 2 0]) (l := [1, 2]) rfl (Sp (SnL.cons (Sn.hp rfl (.inl rfl) (SnC.cons (Sn.pure rfl) (SnC.cons (Sn.pure rfl) (SnC.cons (Sn.pure rfl) (SnC.cons (Sn.pure rfl) (SnC.cons (Sn.pure rfl) (SnC.cons (Sn.pure rfl) SnC.nil))))))) (SnL.cons (Sn.hp rfl (.inl rfl) (SnC.cons (Sn.pure rfl) SnC.nil)) SnL.nil))) (fj n (A3.get t g) c F q i d b a Y R)) (ca3 (fP (args := [aj D, .hp 1 0, .hp 2 0]) (l := [1, 2]) rfl (Sp (SnL.cons (Sn.hp rfl (.inl rfl) (SnC.cons (Sn.pure rfl) (SnC.cons (Sn.pure rfl) (SnC.cons (Sn.pure rfl) (SnC.cons (Sn.pure rfl) (SnC.cons (Sn.pure rfl) (SnC.cons (Sn.pure rfl) SnC.nil))))))) (SnL.cons (Sn.hp rfl (.inl rfl) (SnC.cons (Sn.pure rfl) SnC.nil)) SnL.nil))) (fj n D c F q i d b a nF Z)))) (.mu 2 (.ca cf0 (.p0 (v := aB true) (eB I) (.mu 3 (.ca (cfA (fun h => by rw [sv Z R (nr n (show ([aj D, .pp [aj c, aj F, aj q, aj i, aj d, ch b] 0, .pp [aj a] 0] : List AV) = [aj (A3.get t g), .pp [aj c, aj F, aj q, aj i, aj d, ch b] 0, .pp [aj a] 0] from (congr (congrArg List.cons (List.cons.inj h).1) (congr (congrArg List.cons rfl) (congr (congrArg List.cons rfl) rfl)))))]) cf0) (.mu 2 (.done (.nh [1, 2, 3, 4, 5, 6, 7, 9, 10, 11, 35] [.own [.fn 88 [] [.hp 1 0, .hp 2 0]], .own [aj c, aj F, aj q, aj i, aj d, ch b], .own [aj a], .own [.mp 5], .own [.mp 6], .map (p.map (mpK aw.K (gA ah.c))), .map (E.map (mpK aw.K bA)), .own (av.c t), .own [aj z, aj A], .own [aj B, aj C]] ?_))))))))
    refine .cd hr ?_ ?_ <;> intro mN hr
    ·obtain ⟨jX, mv, hr⟩ := bd hr
     refine .g1 G (ok0 (n3 n (A3.get t g) D jX mv)) (.mu 2 (.ca cf0 (.mu 1 (.done (.pop (.pop (.ru G ?_)))))))
     exact aA (z, A, jX.e0, jX.e1, H, EN (g + 1)) hr ((Wk.gc [1, 2, 3, 4, 5, 6, 7, 11] [(0, true), (1, true), (2, true), (3, true), (4, true), (5, false), (6, false), (7, true), (8, true), (9, true)] rfl (pKt (pKt (pKt (pKt (pKt (pKM aw.K (gA ah.c) (fun _ => rfl) p (pKM aw.K bA (fun _ => rfl) E trivial)))))))).to)
    refine .skip (.pop (.pop (.ru G ?_)))
    exact aA (z, A, B, C, H, EN (g + 1)) hr ((Wk.gc [1, 2, 3, 4, 5, 6, 7, 11] [(0, true), (1, true), (2, true), (3, true), (4, true), (5, false), (6, false), (7, true), (8, true), (9, true)] rfl (pKt (pKt (pKt (pKt (pKt (pKM aw.K (gA ah.c) (fun _ => rfl) p (pKM aw.K bA (fun _ => rfl) E trivial)))))))).to)
   replace hr := bX I hr
   refine .g1 G (fP (args := [aj (A3.get t g), .hp 1 0, .hp 2 0]) (l := [1, 2]) rfl (Sp (SnL.cons (Sn.hp rfl (.inl rfl) (SnC.cons (Sn.pure rfl) (SnC.cons (Sn.pure rfl) (SnC.cons (Sn.pure rfl) (SnC.cons (Sn.pure rfl) (SnC.cons (Sn.pure rfl) (SnC.cons (Sn.pure rfl) SnC.nil))))))) (SnL.cons (Sn.hp rfl (.inl rfl) (SnC.cons (Sn.pure rfl) SnC.nil)) SnL.nil))) (fj n (A3.get t g) c F q i d b a Y R)) (.mu 2 (.ca cf0 (.p0 (v := aB false) (eB I) (.mu 6 (.done (.nh [1, 2, 3, 4, 5, 6, 7, 9, 10, 11, 35] [.own [.fn 88 [] [.hp 1 0, .hp 2 0]], .own [aj c, aj F, aj q, aj i, aj d, ch b], .own [aj a], .own [.mp 5], .own [.mp 6], .map (p.map (mpK aw.K (gA ah.c))), .map (E.map (mpK aw.K bA)), .own (av.c t), .own [aj z, aj A], .own [aj B, aj C]] (.cF (by kernel_rfl) (.skip (.pop (.pop (.ru G ?_)))))))))))
   exact aA (z, A, B, C, H, EN (g + 1)) hr ((Wk.gc [1, 2, 3, 4, 5, 6, 7, 11] [(0, true), (1, true), (2, true), (3, true), (4, true), (5, false), (6, false), (7, true), (8, true), (9, true)] rfl (pKt (pKt (pKt (pKt (pKt (pKM aw.K (gA ah.c) (fun _ => rfl) p (pKM aw.K bA (fun _ => rfl) E trivial)))))))).to)
  refine .leave rfl ?_
  obtain rfl := oi hr
  exact ⟨rfl, ((Wk.gc [2, 3, 5, 6, 7] [(0, true), (1, true), (2, true), (3, true), (4, true), (5, false), (6, false), (8, true), (9, true)] rfl (pKt (pKt (pKt (pKt (pKt (pKM aw.K (gA ah.c) (fun _ => rfl) p (pKM aw.K bA (fun _ => rfl) E trivial)))))))).to)⟩
 rcases kB with ⟨u, w, j, o, J⟩
 rintro x st' S
 clear T
 obtain ⟨rfl, S⟩ := S
 refine aV _ rfl (.wk S (.seq (.r4 G [2, 3, 5, 6] [(49, aB J)] ?_)))
 refine .cd hr ?_ ?_ <;> intro mM hr
 ·refine .seq (.r0 G (.mu 3 (.e0 (v := .unk) (ws := [(5, .map ((j5 p (A2.mk u w) (A2.mk j o)).map (mpK aw.K (gA ah.c))))]) (tr (y := iz Tryz.prog [.own [.fn 88 [] [.hp 1 0, .hp 2 0]], .own [aj c, aj F, aj q, aj i, aj d, ch b], .own [aj a], .own [.mp 5], .own [.mp 6], .map (p.map (mpK aw.K (gA ah.c))), .map (E.map (mpK aw.K bA)), .own [aj u, aj w], .own [aj j, aj o]] 124 (.mp 5) (.agg [aj u, aj w]) (.agg [aj j, aj o])) (AX (kt := 101) (e := 101) (l := p) (f := (gA ah.c)) (v := A2.mk j o) (K := aw.K) (x := A2.mk u w) aw.key (by kernel_rfl) (by kernel_rfl) (by kernel_rfl) (by kernel_rfl))) (.done (.nh [3, 6] [.own [.fn 88 [] [.hp 1 0, .hp 2 0]], .own [aj c, aj F, aj q, aj i, aj d, ch b], .own [aj a], .own [.mp 5], .own [.mp 6], .map ((j5 p (A2.mk u w) (A2.mk j o)).map (mpK aw.K (gA ah.c))), .map (E.map (mpK aw.K bA)), .own [aj u, aj w], .own [aj j, aj o]] (.r0 G (.mu 2 (.e0 (v := .unk) (ws := [(6, .map ((j5 E (A2.mk j o) true).map (mpK aw.K bA)))]) (tr (y := iz Tryz.prog [.own [.fn 88 [] [.hp 1 0, .hp 2 0]], .own [aj c, aj F, aj q, aj i, aj d, ch b], .own [aj a], .own [.mp 5], .own [.mp 6], .map ((j5 p (A2.mk u w) (A2.mk j o)).map (mpK aw.K (gA ah.c))), .map (E.map (mpK aw.K bA)), .own [aj u, aj w], .own [aj j, aj o]] 125 (.mp 6) (.agg [aj j, aj o]) (aB true)) (AX (kt := 101) (e := 4) (l := E) (f := bA) (v := true) (K := aw.K) (x := A2.mk j o) aw.key (by kernel_rfl) (by kernel_rfl) (by kernel_rfl) (by kernel_rfl))) (.done ?_)))))))))
  obtain rfl := oi hr
  exact ee.normal [] ((Wk.gc [] [(0, true), (1, true), (2, true), (3, true), (4, true), (5, false), (6, false)] rfl (pKt (pKt (pKt (pKt (pKt (pKM aw.K (gA ah.c) (fun _ => rfl) (j5 p (A2.mk u w) (A2.mk j o)) (pKM aw.K bA (fun _ => rfl) (j5 E (A2.mk j o) true) trivial)))))))).to)
 refine .skip ?_
 obtain rfl := oi hr
 exact ee.normal [] ((Wk.gc [] [(0, true), (1, true), (2, true), (3, true), (4, true), (5, false), (6, false)] rfl (pKt (pKt (pKt (pKt (pKt (pKM aw.K (gA ah.c) (fun _ => rfl) p (pKM aw.K bA (fun _ => rfl) E trivial)))))))).to)

theorem iV (n : Nat) (g : ar) (c : Int) (D : Int) (o : Int) (i : Int) (f : Int) (e : List Int) (d : Int) (q : List (A2 Int × A2 Int)) (p : List (A2 Int × Bool)) (r : List (A2 Int × A2 Int) × List (A2 Int × Bool)) (hr : bc n g c D o i f e d q p = some r) : dU 5 Tryz.prog 89 [.agg (ar.c g), .fn 90 [] [.hp 0 0, .hp 3 0, .hp 4 0]] [.own [.fn 88 [] [.hp 1 0, .hp 2 0]], .own [aj c, aj D, aj o, aj i, aj f, ch e], .own [aj d], .own [.mp 5], .own [.mp 6], .map (q.map (mpK aw.K (gA ah.c))), .map (p.map (mpK aw.K bA))] (.tup []) [.own [.fn 88 [] [.hp 1 0, .hp 2 0]], .own [aj c, aj D, aj o, aj i, aj f, ch e], .own [aj d], .own [.mp 5], .own [.mp 6], .map (r.1.map (mpK aw.K (gA ah.c))), .map (r.2.map (mpK aw.K bA))] := by
 unfold bc at hr
 refine dU.kR G Tryz.func89 (c := (Tryz.f89.body).getD .skip) rfl (us := []) (s := mkS 82 0 [(0, .agg (ar.c g)), (1, .fn 90 [] [.hp 0 0, .hp 3 0, .hp 4 0])]) (by kernel_rfl) (rs := []) rfl ?_
 unfold Tryz.f89
 simp only [gS]
 refine .seq (.r5 G [1] [(2, .hp 7 0)] [.own [.fn 88 [] [.hp 1 0, .hp 2 0]], .own [aj c, aj D, aj o, aj i, aj f, ch e], .own [aj d], .own [.mp 5], .own [.mp 6], .map (q.map (mpK aw.K (gA ah.c))), .map (p.map (mpK aw.K bA)), .own (ar.c g)] (.seq (.r4 G [1, 2] [(4, aj g.Width)] (.seq (.r4 G [1, 2, 4] [(14, aj (EN (g.Height - 1))), (15, aj 0)] (.block ?_))))))
 replace hr := bd hr; obtain ⟨jX, U, hr⟩ := hr
 refine .aL (σ := fun z0 => match z0 with | (E, F, h) => ⟨mkS 82 0 [(1, .fn 90 [] [.hp 0 0, .hp 3 0, .hp 4 0]), (2, .hp 7 0), (4, aj g.Width), (14, aj (EN (g.Height - 1))), (15, aj h)], [.own [.fn 88 [] [.hp 1 0, .hp 2 0]], .own [aj c, aj D, aj o, aj i, aj f, ch e], .own [aj d], .own [.mp 5], .own [.mp 6], .map (E.map (mpK aw.K (gA ah.c))), .map (F.map (mpK aw.K bA)), .own (ar.c g)]⟩) (Q := fun x st' => match (generalizing := false) jX with | (N, O) => x = .exit 0 /\ Wk 5 st' ⟨mkS 82 0 [], [.own [.fn 88 [] [.hp 1 0, .hp 2 0]], .own [aj c, aj D, aj o, aj i, aj f, ch e], .own [aj d], .own [.mp 5], .own [.mp 6], .map (N.map (mpK aw.K (gA ah.c))), .map (O.map (mpK aw.K bA))]⟩) U ((Wk.gc [1, 2, 4, 14, 15] [(0, true), (1, true), (2, true), (3, true), (4, true), (5, false), (6, false), (7, true)] rfl (pKt (pKt (pKt (pKt (pKt (pKM aw.K (gA ah.c) (fun _ => rfl) q (pKM aw.K bA (fun _ => rfl) p trivial)))))))).to) ?_ ?_
 ·clear hr
  rintro m ⟨E, F, h⟩ hr
  show CQ _ _ _ _ _ ⟨_, _⟩
  refine .seq (.r4 G [1, 2, 4, 14, 15] [(16, aB (decide (h < (EN (g.Height - 1)))))] (.seq ?_))
  refine .cd hr ?_ ?_ <;> intro mw hr
  ·refine .skip (.seq (.block (.seq (.r4 G [1, 2, 4, 14, 15] [(5, aj h)] (.seq (.r4 G [1, 2, 4, 5, 14, 15] [(19, aj (EN (g.Width - 1))), (20, aj 0)] (.block ?_)))))))
   replace hr := bd hr; obtain ⟨kB, V, hr⟩ := hr
   refine .aL (σ := fun z0 => match z0 with | (t, u, l) => ⟨mkS 82 0 [(1, .fn 90 [] [.hp 0 0, .hp 3 0, .hp 4 0]), (2, .hp 7 0), (4, aj g.Width), (5, aj h), (14, aj (EN (g.Height - 1))), (15, aj h), (19, aj (EN (g.Width - 1))), (20, aj l)], [.own [.fn 88 [] [.hp 1 0, .hp 2 0]], .own [aj c, aj D, aj o, aj i, aj f, ch e], .own [aj d], .own [.mp 5], .own [.mp 6], .map (t.map (mpK aw.K (gA ah.c))), .map (u.map (mpK aw.K bA)), .own (ar.c g)]⟩) (Q := fun x st' => match (generalizing := false) kB with | (H, I) => x = .exit 2 /\ Wk 5 st' ⟨mkS 82 0 [(1, .fn 90 [] [.hp 0 0, .hp 3 0, .hp 4 0]), (2, .hp 7 0), (4, aj g.Width), (14, aj (EN (g.Height - 1))), (15, aj h)], [.own [.fn 88 [] [.hp 1 0, .hp 2 0]], .own [aj c, aj D, aj o, aj i, aj f, ch e], .own [aj d], .own [.mp 5], .own [.mp 6], .map (H.map (mpK aw.K (gA ah.c))), .map (I.map (mpK aw.K bA)), .own (ar.c g)]⟩) V ((Wk.gc [1, 2, 4, 5, 14, 15, 19, 20] [(0, true), (1, true), (2, true), (3, true), (4, true), (5, false), (6, false), (7, true)] rfl (pKt (pKt (pKt (pKt (pKt (pKM aw.K (gA ah.c) (fun _ => rfl) E (pKM aw.K bA (fun _ => rfl) F trivial)))))))).to) ?_ ?_
   ·clear hr
    rintro m ⟨t, u, l⟩ hr
    show CQ _ _ _ _ _ ⟨_, _⟩
    refine .seq (.r4 G [1, 2, 4, 5, 14, 15, 19, 20] [(21, aB (decide (l < (EN (g.Width - 1)))))] (.seq ?_))
    refine .cd hr ?_ ?_ <;> intro nC hr
    ·refine .skip (.seq (.block (.seq (.r4 G [1, 2, 4, 5, 14, 15, 19, 20] [(6, aj l)] (.seq (.r4 G [1, 2, 4, 5, 14, 15, 19, 20] [(7, aj (EN ((EN (h * g.Width)) + l)))] ?_))))))
     obtain ⟨A, l8, hr⟩ := bd hr
     refine .wk ((Wk.refl _).to (c := ⟨mkS 82 0 [(1, .fn 90 [] [.hp 0 0, .hp 3 0, .hp 4 0]), (2, .hp 7 0), (4, aj g.Width), (5, aj h), (7, aj A), (14, aj (EN (g.Height - 1))), (15, aj h), (19, aj (EN (g.Width - 1))), (20, aj l)], [.own [.fn 88 [] [.hp 1 0, .hp 2 0]], .own [aj c, aj D, aj o, aj i, aj f, ch e], .own [aj d], .own [.mp 5], .own [.mp 6], .map (t.map (mpK aw.K (gA ah.c))), .map (u.map (mpK aw.K bA)), .own (ar.c g)]⟩) (by rw [oi l8]; first | done | kernel_rfl)) <| .seq <| .r5 G [1, 2, 4, 5, 14, 15, 19, 20] [(45, .hs 8 0 2 3), (46, aj 2), (47, aj 0)] [.own [.fn 88 [] [.hp 1 0, .hp 2 0]], .own [aj c, aj D, aj o, aj i, aj f, ch e], .own [aj d], .own [.mp 5], .own [.mp 6], .map (t.map (mpK aw.K (gA ah.c))), .map (u.map (mpK aw.K bA)), .own (ar.c g), .own [aj A, aj (EN (A + 1)), aj (EN ((EN (A + g.Width)) + 1)), aj A, aj (EN ((EN (A + g.Width)) + 1)), aj (EN (A + g.Width))]] <| .block ?_
     obtain ⟨b, lK, hr⟩ := bd hr
     refine .wk ((Wk.refl _).to (c := ⟨mkS 82 0 [(1, .fn 90 [] [.hp 0 0, .hp 3 0, .hp 4 0]), (2, .hp 7 0), (4, aj g.Width), (5, aj h), (14, aj (EN (g.Height - 1))), (15, aj h), (19, aj (EN (g.Width - 1))), (20, aj l), (45, .hs 8 0 b.length 3), (46, aj 2), (47, aj 0)], [.own [.fn 88 [] [.hp 1 0, .hp 2 0]], .own [aj c, aj D, aj o, aj i, aj f, ch e], .own [aj d], .own [.mp 5], .own [.mp 6], .map (t.map (mpK aw.K (gA ah.c))), .map (u.map (mpK aw.K bA)), .own (ar.c g), .own (b.flatMap av.c)]⟩) (by rw [<- oi lK]; kernel_rfl)) ?_
     replace hr := bd hr; obtain ⟨lH, W, hr⟩ := hr
     refine .aL (σ := fun z0 => match z0 with | (j, k, a) => ⟨mkS 82 0 [(1, .fn 90 [] [.hp 0 0, .hp 3 0, .hp 4 0]), (2, .hp 7 0), (4, aj g.Width), (5, aj h), (14, aj (EN (g.Height - 1))), (15, aj h), (19, aj (EN (g.Width - 1))), (20, aj l), (45, .hs 8 0 b.length 3), (46, aj 2), (47, aj a)], [.own [.fn 88 [] [.hp 1 0, .hp 2 0]], .own [aj c, aj D, aj o, aj i, aj f, ch e], .own [aj d], .own [.mp 5], .own [.mp 6], .map (j.map (mpK aw.K (gA ah.c))), .map (k.map (mpK aw.K bA)), .own (ar.c g), .own (b.flatMap av.c)]⟩) (Q := fun x st' => match (generalizing := false) lH with | (J, L) => x = .exit 4 /\ Wk 5 st' ⟨mkS 82 0 [(1, .fn 90 [] [.hp 0 0, .hp 3 0, .hp 4 0]), (2, .hp 7 0), (4, aj g.Width), (5, aj h), (14, aj (EN (g.Height - 1))), (15, aj h), (19, aj (EN (g.Width - 1))), (20, aj l)], [.own [.fn 88 [] [.hp 1 0, .hp 2 0]], .own [aj c, aj D, aj o, aj i, aj f, ch e], .own [aj d], .own [.mp 5], .own [.mp 6], .map (J.map (mpK aw.K (gA ah.c))), .map (L.map (mpK aw.K bA)), .own (ar.c g)]⟩) W ((Wk.gc [1, 2, 4, 5, 14, 15, 19, 20, 45, 46, 47] [(0, true), (1, true), (2, true), (3, true), (4, true), (5, false), (6, false), (7, true), (8, false)] rfl (pKt (pKt (pKt (pKt (pKt (pKM aw.K (gA ah.c) (fun _ => rfl) t (pKM aw.K bA (fun _ => rfl) u (pKt (pKo av.c av.pure b trivial)))))))))).to) ?_ ?_
     ·clear hr
      rintro m ⟨j, k, a⟩ hr
      show CQ _ _ _ _ _ ⟨_, _⟩
      refine .seq (.r4 G [1, 2, 4, 5, 14, 15, 19, 20, 45, 46, 47] [(48, aB (decide (a < 2)))] (.seq ?_))
      refine .cd hr ?_ ?_ <;> intro nF hr
      ·refine .skip (.seq (.block (.seq ?_)))
       obtain ⟨X, hr⟩ := gd hr
       refine .r0 G (.p0 (v := .hp 8 (0 + a.toNat * 3)) (tr (au X)) (.p0 (v := .agg (av.c (gt b a))) (tr (y := bt.ofP (dz (decide (3 <= ((b.flatMap av.c).drop (0 + a.toNat * 3)).length)) (.agg (((b.flatMap av.c).drop (0 + a.toNat * 3)).take 3)))) (bB av.len (aD X) (by decide) (by omega : 0 + a.toNat * 3 = a.toNat * 3 + 0) (by kernel_rfl))) (.mu 2 (.done (.nh [1, 2, 4, 5, 9, 14, 15, 19, 20, 45, 46, 47] [.own [.fn 88 [] [.hp 1 0, .hp 2 0]], .own [aj c, aj D, aj o, aj i, aj f, ch e], .own [aj d], .own [.mp 5], .own [.mp 6], .map (j.map (mpK aw.K (gA ah.c))), .map (k.map (mpK aw.K bA)), .own (ar.c g), .own (b.flatMap av.c), .own (av.c (gt b a))] (.seq ?_))))))
       obtain ⟨w, hr⟩ := gd hr
       rcases bT (((gt g.Z (gt b a).e0) : Int) != (-2147483648)) with z | z
       ·replace hr := b8 z hr
        obtain ⟨M, hr⟩ := gd hr
        rcases bT (((gt g.Z (gt b a).e1) : Int) != (-2147483648)) with B | B
        ·replace hr := b8 B hr
         obtain ⟨Y, hr⟩ := gd hr
         refine .r0 G (.mu 4 (.p0 (v := .pp (g.Z.flatMap (iC .i64)) ((gt b a).e0.toNat * 1)) (tr (au w)) (.p0 (v := aj (gt g.Z (gt b a).e0)) (tr (aH (aK (aI .i64) (aD w) z1 (by omega : (gt b a).e0.toNat * 1 = (gt b a).e0.toNat * 1 + 0) (by kernel_rfl)))) (.p0 (v := aB true) (eB z) (.mu 5 (.pure (v := .pp (g.Z.flatMap (iC .i64)) ((gt b a).e1.toNat * 1)) (by kernel_rfl) (tr (au M)) (.pure (v := aj (gt g.Z (gt b a).e1)) (by kernel_rfl) (tr (aH (aK (aI .i64) (aD M) z1 (by omega : (gt b a).e1.toNat * 1 = (gt b a).e1.toNat * 1 + 0) (by kernel_rfl)))) (.pure (v := aB true) (by kernel_rfl) (eB B) (.mu 6 (.pure (v := .pp (g.Z.flatMap (iC .i64)) ((gt b a).e2.toNat * 1)) (by kernel_rfl) (tr (au Y)) (.pure (v := aj (gt g.Z (gt b a).e2)) (by kernel_rfl) (tr (aH (aK (aI .i64) (aD Y) z1 (by omega : (gt b a).e2.toNat * 1 = (gt b a).e2.toNat * 1 + 0) (by kernel_rfl)))) (.mu 2 (.done (.nh [1, 2, 4, 5, 9, 14, 15, 19, 20, 45, 46, 47, 75] [.own [.fn 88 [] [.hp 1 0, .hp 2 0]], .own [aj c, aj D, aj o, aj i, aj f, ch e], .own [aj d], .own [.mp 5], .own [.mp 6], .map (j.map (mpK aw.K (gA ah.c))), .map (k.map (mpK aw.K bA)), .own (ar.c g), .own (b.flatMap av.c), .own (av.c (gt b a))] ?_))))))))))))))
         refine .cd hr ?_ ?_ <;> intro pL hr
         ·obtain ⟨C, mv, hr⟩ := bd hr
          refine .g1 G (kx 0 (.own [.fn 88 [] [.hp 1 0, .hp 2 0]]) [] [(1, .own [aj c, aj D, aj o, aj i, aj f, ch e]), (2, .own [aj d]), (3, .own [.mp 10]), (4, .own [.mp 11]), (10, .map (C.1.map (mpK aw.K (gA ah.c)))), (11, .map (C.2.map (mpK aw.K bA))), (5, .dead), (6, .dead)] (cu (args := [.agg (av.c (gt b a)), .hp 0 0, .hp 3 0, .hp 4 0]) 5 2 [(0, true), (1, true), (2, true), (3, true), (4, true), (5, false), (6, false)] [true, true, true, true, true, false, false] (qq n (gt b a) c D o i f e d j k C mv) (by exact ⟨gC (fun _ => rfl) _, ⟨gC (fun _ => rfl) _, trivial⟩⟩) (by exact ⟨gC (fun _ => rfl) _, ⟨gC (fun _ => rfl) _, trivial⟩⟩) rfl rfl (by kernel_rfl) (by kernel_rfl))) (.mu 2 (.ca cf0 (.done (.pop (.ru G ?_)))))
          exact aA (C.1, C.2, EN (a + 1)) hr ((Wk.gc [1, 2, 4, 5, 14, 15, 19, 20, 45, 46, 47] [(0, true), (1, true), (2, true), (3, true), (4, true), (10, false), (11, false), (7, true), (8, false)] rfl (pKt (pKt (pKt (pKt (pKt (pKM aw.K (gA ah.c) (fun _ => rfl) C.1 (pKM aw.K bA (fun _ => rfl) C.2 (pKt (pKo av.c av.pure b trivial)))))))))).to)
         refine .skip (.pop (.ru G ?_))
         exact aA (j, k, EN (a + 1)) hr ((Wk.gc [1, 2, 4, 5, 14, 15, 19, 20, 45, 46, 47] [(0, true), (1, true), (2, true), (3, true), (4, true), (5, false), (6, false), (7, true), (8, false)] rfl (pKt (pKt (pKt (pKt (pKt (pKM aw.K (gA ah.c) (fun _ => rfl) j (pKM aw.K bA (fun _ => rfl) k (pKt (pKo av.c av.pure b trivial)))))))))).to)
        replace hr := bX B hr
        refine .r0 G (.mu 4 (.p0 (v := .pp (g.Z.flatMap (iC .i64)) ((gt b a).e0.toNat * 1)) (tr (au w)) (.p0 (v := aj (gt g.Z (gt b a).e0)) (tr (aH (aK (aI .i64) (aD w) z1 (by omega : (gt b a).e0.toNat * 1 = (gt b a).e0.toNat * 1 + 0) (by kernel_rfl)))) (.p0 (v := aB true) (eB z) (.mu 5 (.pure (v := .pp (g.Z.flatMap (iC .i64)) ((gt b a).e1.toNat * 1)) (by kernel_rfl) (tr (au M)) (.pure (v := aj (gt g.Z (gt b a).e1)) (by kernel_rfl) (tr (aH (aK (aI .i64) (aD M) z1 (by omega : (gt b a).e1.toNat * 1 = (gt b a).e1.toNat * 1 + 0) (by kernel_rfl)))) (.pure (v := aB false) (by kernel_rfl) (eB B) (.mu 10 (.done (.nh [1, 2, 4, 5, 9, 14, 15, 19, 20, 45, 46, 47, 75] [.own [.fn 88 [] [.hp 1 0, .hp 2 0]], .own [aj c, aj D, aj o, aj i, aj f, ch e], .own [aj d], .own [.mp 5], .own [.mp 6], .map (j.map (mpK aw.K (gA ah.c))), .map (k.map (mpK aw.K bA)), .own (ar.c g), .own (b.flatMap av.c), .own (av.c (gt b a))] (.cF (by kernel_rfl) (.skip (.pop (.ru G ?_)))))))))))))))
        exact aA (j, k, EN (a + 1)) hr ((Wk.gc [1, 2, 4, 5, 14, 15, 19, 20, 45, 46, 47] [(0, true), (1, true), (2, true), (3, true), (4, true), (5, false), (6, false), (7, true), (8, false)] rfl (pKt (pKt (pKt (pKt (pKt (pKM aw.K (gA ah.c) (fun _ => rfl) j (pKM aw.K bA (fun _ => rfl) k (pKt (pKo av.c av.pure b trivial)))))))))).to)
       replace hr := bX z hr
       refine .r0 G (.mu 4 (.p0 (v := .pp (g.Z.flatMap (iC .i64)) ((gt b a).e0.toNat * 1)) (tr (au w)) (.p0 (v := aj (gt g.Z (gt b a).e0)) (tr (aH (aK (aI .i64) (aD w) z1 (by omega : (gt b a).e0.toNat * 1 = (gt b a).e0.toNat * 1 + 0) (by kernel_rfl)))) (.p0 (v := aB false) (eB z) (.mu 18 (.done (.nh [1, 2, 4, 5, 9, 14, 15, 19, 20, 45, 46, 47, 75] [.own [.fn 88 [] [.hp 1 0, .hp 2 0]], .own [aj c, aj D, aj o, aj i, aj f, ch e], .own [aj d], .own [.mp 5], .own [.mp 6], .map (j.map (mpK aw.K (gA ah.c))), .map (k.map (mpK aw.K bA)), .own (ar.c g), .own (b.flatMap av.c), .own (av.c (gt b a))] (.cF (by kernel_rfl) (.skip (.pop (.ru G ?_)))))))))))
       exact aA (j, k, EN (a + 1)) hr ((Wk.gc [1, 2, 4, 5, 14, 15, 19, 20, 45, 46, 47] [(0, true), (1, true), (2, true), (3, true), (4, true), (5, false), (6, false), (7, true), (8, false)] rfl (pKt (pKt (pKt (pKt (pKt (pKM aw.K (gA ah.c) (fun _ => rfl) j (pKM aw.K bA (fun _ => rfl) k (pKt (pKo av.c av.pure b trivial)))))))))).to)
      refine .leave rfl ?_
      obtain rfl := oi hr
      exact ⟨rfl, ((Wk.gc [1, 2, 4, 5, 14, 15, 19, 20] [(0, true), (1, true), (2, true), (3, true), (4, true), (5, false), (6, false), (7, true)] rfl (pKt (pKt (pKt (pKt (pKt (pKM aw.K (gA ah.c) (fun _ => rfl) j (pKM aw.K bA (fun _ => rfl) k trivial)))))))).to)⟩
     rcases lH with ⟨J, L⟩
     rintro x st' R
     clear W
     obtain ⟨rfl, R⟩ := R
     refine aV _ rfl (.pop (.wk R (.ru G ?_)))
     exact aA (J, L, EN (l + 1)) hr ((Wk.gc [1, 2, 4, 5, 14, 15, 19, 20] [(0, true), (1, true), (2, true), (3, true), (4, true), (5, false), (6, false), (7, true)] rfl (pKt (pKt (pKt (pKt (pKt (pKM aw.K (gA ah.c) (fun _ => rfl) J (pKM aw.K bA (fun _ => rfl) L trivial)))))))).to)
    refine .leave rfl ?_
    obtain rfl := oi hr
    exact ⟨rfl, ((Wk.gc [1, 2, 4, 14, 15] [(0, true), (1, true), (2, true), (3, true), (4, true), (5, false), (6, false), (7, true)] rfl (pKt (pKt (pKt (pKt (pKt (pKM aw.K (gA ah.c) (fun _ => rfl) t (pKM aw.K bA (fun _ => rfl) u trivial)))))))).to)⟩
   rcases kB with ⟨H, I⟩
   rintro x st' S
   clear V
   obtain ⟨rfl, S⟩ := S
   refine aV _ rfl (.pop (.wk S (.ru G ?_)))
   exact aA (H, I, EN (h + 1)) hr ((Wk.gc [1, 2, 4, 14, 15] [(0, true), (1, true), (2, true), (3, true), (4, true), (5, false), (6, false), (7, true)] rfl (pKt (pKt (pKt (pKt (pKt (pKM aw.K (gA ah.c) (fun _ => rfl) H (pKM aw.K bA (fun _ => rfl) I trivial)))))))).to)
  refine .leave rfl ?_
  obtain rfl := oi hr
  exact ⟨rfl, ((Wk.gc [] [(0, true), (1, true), (2, true), (3, true), (4, true), (5, false), (6, false)] rfl (pKt (pKt (pKt (pKt (pKt (pKM aw.K (gA ah.c) (fun _ => rfl) E (pKM aw.K bA (fun _ => rfl) F trivial)))))))).to)⟩
 rcases jX with ⟨N, O⟩
 rintro x st' T
 clear U
 obtain ⟨rfl, T⟩ := T
 refine aV _ rfl ?_
 obtain rfl := oi hr
 exact ee.wk T (ee.normal [] ((Wk.gc [] [(0, true), (1, true), (2, true), (3, true), (4, true), (5, false), (6, false)] rfl (pKt (pKt (pKt (pKt (pKt (pKM aw.K (gA ah.c) (fun _ => rfl) N (pKM aw.K bA (fun _ => rfl) O trivial)))))))).to))

theorem rB (n : Nat) (a : Int) (r : Int) (hr : my n a = some r) : aM Tryz.prog 141 [cP a] (aj r) := by
 unfold my at hr
 refine aM.bd G Tryz.func141 [.tmp 2] ?_
 unfold Tryz.f141
 simp only [gS]
 refine .seq (.r4 G [0] [(2, aj 0)] (.seq (.seq (.r4 G [0, 2] [(4, aB (decide (a >= 4294967296)))] ?_))))
 refine .cd hr ?_ ?_ <;> intro u hr
 ·refine .seq (.r3 G 25 [(0, cP (a.fdiv (2 ^ 32)))] (.r4 G [0] [(2, aj 32)] (.seq (.seq (.r4 G [0, 2] [(8, aB (decide ((a.fdiv (2 ^ 32)) >= 65536)))] ?_)))))
  refine .cd hr ?_ ?_ <;> intro w hr
  ·refine .seq (.r4 G [2] [(0, cP ((a.fdiv (2 ^ 32)).fdiv (2 ^ 16)))] (.r4 G [0] [(2, aj 48)] (.seq (.seq (.r4 G [0, 2] [(14, aB (decide (((a.fdiv (2 ^ 32)).fdiv (2 ^ 16)) >= 256)))] ?_)))))
   refine .cd hr ?_ ?_ <;> intro x hr
   ·refine .seq (.r4 G [2] [(0, cP (((a.fdiv (2 ^ 32)).fdiv (2 ^ 16)).fdiv (2 ^ 8)))] ?_)
    obtain ⟨h, j, hr⟩ := bd hr
    refine .wk ((Wk.refl _).to (c := ⟨mkS 25 0 [(0, cP h), (2, aj 48)], []⟩) (by rw [oi j]; first | done | kernel_rfl)) <| .r4 G [0] [(2, aj 56)] <| .seq ?_
    obtain ⟨l, hr⟩ := gd hr
    refine .r0 G (.mu 3 (.p0 (v := aU8 (iw gb (aa .u8 h))) (nX (s := gb) (k := .u8) (i := (aa .u8 h)) (by kernel_rfl) (by kernel_rfl) (by kernel_rfl) l) (.mu 3 (.done (.ret ?_)))))
    obtain rfl := oi hr
    exact aF.r1 [aj (EN (56 + (EN (iw gb (aa .u8 h)))))]
   refine .skip (.seq ?_)
   obtain ⟨m, hr⟩ := gd hr
   refine .r0 G (.mu 3 (.p0 (v := aU8 (iw gb (aa .u8 ((a.fdiv (2 ^ 32)).fdiv (2 ^ 16))))) (nX (s := gb) (k := .u8) (i := (aa .u8 ((a.fdiv (2 ^ 32)).fdiv (2 ^ 16)))) (by kernel_rfl) (by kernel_rfl) (by kernel_rfl) m) (.mu 3 (.done (.ret ?_)))))
   obtain rfl := oi hr
   exact aF.r1 [aj (EN (48 + (EN (iw gb (aa .u8 ((a.fdiv (2 ^ 32)).fdiv (2 ^ 16)))))))]
  refine .skip (.seq (.seq (.r4 G [0, 2] [(14, aB (decide ((a.fdiv (2 ^ 32)) >= 256)))] ?_)))
  refine .cd hr ?_ ?_ <;> intro y hr
  ·refine .seq (.r4 G [2] [(0, cP ((a.fdiv (2 ^ 32)).fdiv (2 ^ 8)))] (.r4 G [0] [(2, aj 40)] (.seq ?_)))
   obtain ⟨o, hr⟩ := gd hr
   refine .r0 G (.mu 3 (.p0 (v := aU8 (iw gb (aa .u8 ((a.fdiv (2 ^ 32)).fdiv (2 ^ 8))))) (nX (s := gb) (k := .u8) (i := (aa .u8 ((a.fdiv (2 ^ 32)).fdiv (2 ^ 8)))) (by kernel_rfl) (by kernel_rfl) (by kernel_rfl) o) (.mu 3 (.done (.ret ?_)))))
   obtain rfl := oi hr
   exact aF.r1 [aj (EN (40 + (EN (iw gb (aa .u8 ((a.fdiv (2 ^ 32)).fdiv (2 ^ 8)))))))]
  refine .skip (.seq ?_)
  obtain ⟨b, hr⟩ := gd hr
  refine .r0 G (.mu 3 (.p0 (v := aU8 (iw gb (aa .u8 (a.fdiv (2 ^ 32))))) (nX (s := gb) (k := .u8) (i := (aa .u8 (a.fdiv (2 ^ 32)))) (by kernel_rfl) (by kernel_rfl) (by kernel_rfl) b) (.mu 3 (.done (.ret ?_)))))
  obtain rfl := oi hr
  exact aF.r1 [aj (EN (32 + (EN (iw gb (aa .u8 (a.fdiv (2 ^ 32)))))))]
 refine .skip (.seq (.seq (.r4 G [0, 2] [(8, aB (decide (a >= 65536)))] ?_)))
 refine .cd hr ?_ ?_ <;> intro p hr
 ·refine .seq (.r4 G [2] [(0, cP (a.fdiv (2 ^ 16)))] (.r4 G [0] [(2, aj 16)] (.seq (.seq (.r4 G [0, 2] [(14, aB (decide ((a.fdiv (2 ^ 16)) >= 256)))] ?_)))))
  refine .cd hr ?_ ?_ <;> intro q hr
  ·refine .seq (.r4 G [2] [(0, cP ((a.fdiv (2 ^ 16)).fdiv (2 ^ 8)))] (.r4 G [0] [(2, aj 24)] (.seq ?_)))
   obtain ⟨d, hr⟩ := gd hr
   refine .r0 G (.mu 3 (.p0 (v := aU8 (iw gb (aa .u8 ((a.fdiv (2 ^ 16)).fdiv (2 ^ 8))))) (nX (s := gb) (k := .u8) (i := (aa .u8 ((a.fdiv (2 ^ 16)).fdiv (2 ^ 8)))) (by kernel_rfl) (by kernel_rfl) (by kernel_rfl) d) (.mu 3 (.done (.ret ?_)))))
   obtain rfl := oi hr
   exact aF.r1 [aj (EN (24 + (EN (iw gb (aa .u8 ((a.fdiv (2 ^ 16)).fdiv (2 ^ 8)))))))]
  refine .skip (.seq ?_)
  obtain ⟨e, hr⟩ := gd hr
  refine .r0 G (.mu 3 (.p0 (v := aU8 (iw gb (aa .u8 (a.fdiv (2 ^ 16))))) (nX (s := gb) (k := .u8) (i := (aa .u8 (a.fdiv (2 ^ 16)))) (by kernel_rfl) (by kernel_rfl) (by kernel_rfl) e) (.mu 3 (.done (.ret ?_)))))
  obtain rfl := oi hr
  exact aF.r1 [aj (EN (16 + (EN (iw gb (aa .u8 (a.fdiv (2 ^ 16)))))))]
 refine .skip (.seq (.seq (.r4 G [0, 2] [(14, aB (decide (a >= 256)))] ?_)))
 refine .cd hr ?_ ?_ <;> intro t hr
 ·refine .seq (.r4 G [2] [(0, cP (a.fdiv (2 ^ 8)))] (.r4 G [0] [(2, aj 8)] (.seq ?_)))
  obtain ⟨f, hr⟩ := gd hr
  refine .r0 G (.mu 3 (.p0 (v := aU8 (iw gb (aa .u8 (a.fdiv (2 ^ 8))))) (nX (s := gb) (k := .u8) (i := (aa .u8 (a.fdiv (2 ^ 8)))) (by kernel_rfl) (by kernel_rfl) (by kernel_rfl) f) (.mu 3 (.done (.ret ?_)))))
  obtain rfl := oi hr
  exact aF.r1 [aj (EN (8 + (EN (iw gb (aa .u8 (a.fdiv (2 ^ 8)))))))]
 refine .skip (.seq ?_)
 obtain ⟨g, hr⟩ := gd hr
 refine .r0 G (.mu 3 (.p0 (v := aU8 (iw gb (aa .u8 a))) (nX (s := gb) (k := .u8) (i := (aa .u8 a)) (by kernel_rfl) (by kernel_rfl) (by kernel_rfl) g) (.mu 3 (.done (.ret ?_)))))
 obtain rfl := oi hr
 exact aF.r1 [aj (EN (0 + (EN (iw gb (aa .u8 a)))))]

theorem lN (n : Nat) (a : Int) (r : Int) (hr : j3 n a = some r) : aM Tryz.prog 98 [cP a] (aj r) := by
 unfold j3 at hr
 refine aM.bd G Tryz.func98 [.tmp 2] ?_
 unfold Tryz.f98
 simp only [gS]
 refine .seq (.r4 G [0] [] (.seq (.cF (by kernel_rfl) (.skip (.seq ?_)))))
 obtain ⟨c, b, hr⟩ := bd hr
 refine .g1 G (ok0 (rB n a c b)) (.mu 1 (.ca cf0 (.mu 1 (.done (.ret ?_)))))
 obtain rfl := oi hr
 exact aF.r1 [aj c]

theorem iQ (n : Nat) (a : A2 Int) (b : A2 Int) (r : Int) (hr : gM n a b = some r) : aM Tryz.prog 54 [.agg (ah.c a), .agg (ah.c b)] (aj r) := by
 unfold gM at hr
 refine aM.bd G Tryz.func54 [.tmp 4] ?_
 unfold Tryz.f54
 simp only [gS]
 refine .seq (.r2 G 20 [(2, .hp 0 0), (3, .hp 1 0)] [.own (ah.c a), .own (ah.c b)] (.seq (.seq (.r4 G [2, 3] [(9, aB ((a.e0 : Int) != b.e0))] ?_))))
 refine .cd hr ?_ ?_ <;> intro d hr
 ·refine .seq (.ru G (.ret ?_))
  obtain rfl := oi hr
  exact aF.r1 [aj (EN (a.e0 - b.e0))]
 refine .skip (.seq (.ru G (.ret ?_)))
 obtain rfl := oi hr
 exact aF.r1 [aj (EN (a.e1 - b.e1))]

theorem dR (n : Nat) (data : List (A2 Int)) (a : Int) (b : Int) (r : List (A2 Int)) (hr : bk n data a b = some r) : dU 1 Tryz.prog 164 [.hs 0 0 data.length 2, aj a, aj b, .fn 54 [] []] [.own (data.flatMap ah.c)] (.tup []) [.own (r.flatMap ah.c)] := by
 unfold bk at hr
 refine dU.kR G Tryz.func164 (c := (Tryz.f164.body).getD .skip) rfl (us := []) (s := mkS 53 0 [(0, .hs 0 0 data.length 2), (1, aj a), (2, aj b), (3, .fn 54 [] [])]) (by kernel_rfl) (rs := []) rfl ?_
 unfold Tryz.f164
 simp only [gS]
 refine .seq (.r4 G [0, 1, 2, 3] [(8, aj (EN (a + 1)))] (.block ?_))
 replace hr := bd hr; obtain ⟨p, q, hr⟩ := hr
 refine .aL (σ := fun w => match w with | (i, f) => ⟨mkS 53 0 [(0, .hs 0 0 i.length 2), (1, aj a), (2, aj b), (3, .fn 54 [] []), (8, aj f)], [.own (i.flatMap ah.c)]⟩) (Q := fun x st' => x = .exit 0 /\ Wk 1 st' ⟨mkS 53 0 [], [.own (p.flatMap ah.c)]⟩) q ((Wk.gc [0, 1, 2, 3, 8] [(0, false)] rfl (pKo ah.c ah.pure data trivial)).to) ?_ ?_
 ·clear hr
  rintro m ⟨i, f⟩ hr
  show CQ _ _ _ _ _ ⟨_, _⟩
  refine .seq (.seq (.r4 G [0, 1, 2, 3, 8] [(14, aB (decide (f < b)))] ?_))
  refine .cd hr ?_ ?_ <;> intro A hr
  ·refine .skip (.seq (.block (.seq (.r4 G [0, 1, 2, 3, 8] [(9, aj f)] (.block ?_)))))
   replace hr := bd hr; obtain ⟨k, t, hr⟩ := hr
   refine .aL (σ := fun w => match w with | (e, d) => ⟨mkS 53 0 [(0, .hs 0 0 e.length 2), (1, aj a), (2, aj b), (3, .fn 54 [] []), (8, aj f), (9, aj d)], [.own (e.flatMap ah.c)]⟩) (Q := fun x st' => x = .exit 2 /\ Wk 1 st' ⟨mkS 53 0 [(0, .hs 0 0 k.length 2), (1, aj a), (2, aj b), (3, .fn 54 [] []), (8, aj f)], [.own (k.flatMap ah.c)]⟩) t ((Wk.gc [0, 1, 2, 3, 8, 9] [(0, false)] rfl (pKo ah.c ah.pure i trivial)).to) ?_ ?_
   ·clear hr
    rintro m ⟨e, d⟩ hr
    show CQ _ _ _ _ _ ⟨_, _⟩
    refine .seq (.seq ?_)
    rcases bT (decide (d > a)) with j | j
    ·replace hr := b8 j hr
     obtain ⟨g, h, hr⟩ := gd2 hr
     obtain ⟨z, u, hr⟩ := bd hr
     refine .t1 G (ok0 (iQ n (gt e d) (gt e (EN (d - 1))) z u)) (.mu 2 (.pk (v := aB true) (eB j) (.mu 4 (.pk (v := .hp 0 (0 + d.toNat * 2)) (tr (au g)) (.pk (v := .agg (ah.c (gt e d))) (tr (y := bt.ofP (dz (decide (2 <= ((e.flatMap ah.c).drop (0 + d.toNat * 2)).length)) (.agg (((e.flatMap ah.c).drop (0 + d.toNat * 2)).take 2)))) (bB ah.len (aD g) (by decide) (by omega : 0 + d.toNat * 2 = d.toNat * 2 + 0) (by kernel_rfl))) (.mu 3 (.pk (v := .hp 0 (0 + (EN (d - 1)).toNat * 2)) (tr (au h)) (.pk (v := .agg (ah.c (gt e (EN (d - 1))))) (tr (y := bt.ofP (dz (decide (2 <= ((e.flatMap ah.c).drop (0 + (EN (d - 1)).toNat * 2)).length)) (.agg (((e.flatMap ah.c).drop (0 + (EN (d - 1)).toNat * 2)).take 2)))) (bB ah.len (aD h) (by decide) (by omega : 0 + (EN (d - 1)).toNat * 2 = (EN (d - 1)).toNat * 2 + 0) (by kernel_rfl))) (.ca cf0 (.mu 2 ?_))))))))))
     refine .done ⟨by kernel_rfl, ?_⟩
     refine .nh [0, 1, 2, 3, 8, 9, 34] [.own (e.flatMap ah.c)] ?_
     refine .cd hr ?_ ?_ <;> intro B hr
     ·refine .skip (.seq (.block (.ei G bL (.mu 8 (.pk (v := .hp 0 (0 + (EN (d - 1)).toNat * 2)) (tr (au h)) (.pk (v := .agg (ah.c (gt e (EN (d - 1))))) (tr (y := bt.ofP (dz (decide (2 <= ((e.flatMap ah.c).drop (0 + (EN (d - 1)).toNat * 2)).length)) (.agg (((e.flatMap ah.c).drop (0 + (EN (d - 1)).toNat * 2)).take 2)))) (bB ah.len (aD h) (by decide) (by omega : 0 + (EN (d - 1)).toNat * 2 = (EN (d - 1)).toNat * 2 + 0) (by kernel_rfl))) (.mu 2 (.pk (v := .hp 0 (0 + d.toNat * 2)) (tr (au g)) (.pk (v := .agg (ah.c (gt e d))) (tr (y := bt.ofP (dz (decide (2 <= ((e.flatMap ah.c).drop (0 + d.toNat * 2)).length)) (.agg (((e.flatMap ah.c).drop (0 + d.toNat * 2)).take 2)))) (bB ah.len (aD g) (by decide) (by omega : 0 + d.toNat * 2 = d.toNat * 2 + 0) (by kernel_rfl))) (.pk (v := .hp 0 (0 + d.toNat * 2)) (tr (au g)) (.ek (v := .unk) (ws := [(0, .own ((e.set d.toNat (gt e (EN (d - 1)))).flatMap ah.c))]) (tr (iE (iy (cx (n := 2) ah.len (aD g) (lbT rfl) (by omega : 0 + d.toNat * 2 = d.toNat * 2 + 0))) (congrArg Blk.own (cU (xs := (ah.c (gt e (EN (d - 1))))) ah.len (aD g) (lbT rfl) (by omega : 0 + d.toNat * 2 = d.toNat * 2 + 0) (by kernel_rfl))))) (.pk (v := .hp 0 (0 + (EN (d - 1)).toNat * 2)) (tr (au h)) (.ek (v := .unk) (ws := [(0, .own (((e.set d.toNat (gt e (EN (d - 1)))).set (EN (d - 1)).toNat (gt e d)).flatMap ah.c))]) (tr (y := stO (decide ((0 + (EN (d - 1)).toNat * 2) + 2 <= ((e.set d.toNat (gt e (EN (d - 1)))).flatMap ah.c).length) && true) [(0, .own (setCells ((e.set d.toNat (gt e (EN (d - 1)))).flatMap ah.c) (0 + (EN (d - 1)).toNat * 2) (ah.c (gt e d))))]) (iE (iy (cx ah.len (aD (q0 h)) (lbT rfl) (by omega : 0 + (EN (d - 1)).toNat * 2 = (EN (d - 1)).toNat * 2 + 0))) (congrArg Blk.own (cU ah.len (aD (q0 h)) (lbT rfl) (by omega : 0 + (EN (d - 1)).toNat * 2 = (EN (d - 1)).toNat * 2 + 0) (by kernel_rfl))))) ?_)))))))))))))
      refine .done ⟨by kernel_rfl, ?_⟩
      refine .pop (.ru G ?_)
      exact aA ((e.set d.toNat (gt e (EN (d - 1)))).set (EN (d - 1)).toNat (gt e d), EN (d - 1)) hr ((Wk.iG 0 (b := 0) (es := 2) (len := e.length) ((e.set d.toNat (gt e (EN (d - 1)))).set (EN (d - 1)).toNat (gt e d)).length (by kernel_rfl) (Eq.symm (List.length_set.trans (List.length_set.trans rfl)))).trans ((Wk.gc [0, 1, 2, 3, 8, 9] [(0, false)] rfl (pKo ah.c ah.pure ((e.set d.toNat (gt e (EN (d - 1)))).set (EN (d - 1)).toNat (gt e d)) trivial)).to))
     refine .leave rfl ?_
     obtain rfl := oi hr
     exact ⟨rfl, ((Wk.gc [0, 1, 2, 3, 8] [(0, false)] rfl (pKo ah.c ah.pure e trivial)).to)⟩
    replace hr := bX j hr
    refine .ei G bL (.mu 2 (.pk (v := aB false) (eB j) (.mu 14 ?_)))
    refine .done ⟨by kernel_rfl, ?_⟩
    refine .nh [0, 1, 2, 3, 8, 9, 34] [.own (e.flatMap ah.c)] (.cF (by kernel_rfl) (.leave rfl ?_))
    obtain rfl := oi hr
    exact ⟨rfl, ((Wk.gc [0, 1, 2, 3, 8] [(0, false)] rfl (pKo ah.c ah.pure e trivial)).to)⟩
   rintro x st' l
   clear t
   obtain ⟨rfl, l⟩ := l
   refine aV _ rfl (.pop (.wk l (.ru G ?_)))
   exact aA (k, EN (f + 1)) hr ((Wk.gc [0, 1, 2, 3, 8] [(0, false)] rfl (pKo ah.c ah.pure k trivial)).to)
  refine .leave rfl ?_
  obtain rfl := oi hr
  exact ⟨rfl, ((Wk.gc [] [(0, false)] rfl (pKo ah.c ah.pure i trivial)).to)⟩
 rintro x st' o
 clear q
 obtain ⟨rfl, o⟩ := o
 refine aV _ rfl ?_
 obtain rfl := oi hr
 exact ee.wk o (ee.normal [] ((Wk.gc [] [(0, false)] rfl (pKo ah.c ah.pure p trivial)).to))

theorem eC (n : Nat) (data : List (A2 Int)) (a : Int) (b : Int) (limit : Int) (r : List (A2 Int)) (hr : bE n data a b limit = some r) : dU 1 Tryz.prog 130 [.hs 0 0 data.length 2, aj a, aj b, aj limit, .fn 54 [] []] [.own (data.flatMap ah.c)] (.tup []) [.own (r.flatMap ah.c)] := by
 unfold bE at hr
 refine dU.kR G Tryz.func130 (c := (Tryz.f130.body).getD .skip) rfl (us := []) (s := mkS 148 0 [(0, .hs 0 0 data.length 2), (1, aj a), (2, aj b), (3, aj limit), (4, .fn 54 [] [])]) (by kernel_rfl) (rs := []) rfl ?_
 unfold Tryz.f130
 simp only [gS]
 refine .seq (.r4 G [0, 1, 2, 3, 4] [(10, aB true)] (.seq (.r4 G [0, 1, 2, 3, 4, 10] [(11, aB true)] (.block ?_))))
 replace hr := bd hr; obtain ⟨r0, g, hr⟩ := hr
 refine .aL (σ := fun p => match p with | (d, e, h, i, j) => ⟨mkS 148 0 [(0, .hs 0 0 data.length 2), (1, aj d), (2, aj e), (3, aj h), (4, .fn 54 [] []), (10, aB i), (11, aB j)], [.own (data.flatMap ah.c)]⟩) (Q := fun x st' => x = .ret /\ ee 1 Tryz.prog [] [] [.own (r0.flatMap ah.c)] .ret st') g ((Wk.gc [0, 1, 2, 3, 4, 10, 11] [(0, false)] rfl (pKo ah.c ah.pure data trivial)).to) ?_ ?_
 ·clear hr
  rintro m ⟨d, e, h, i, j⟩ hr
  show CQ _ _ _ _ _ ⟨_, _⟩
  refine .block (.seq (.r4 G [0, 1, 2, 3, 4, 10, 11] [(12, aj (EN (e - d)))] (.seq (.seq (.r4 G [0, 1, 2, 3, 4, 10, 11, 12] [(25, aB (decide ((EN (e - d)) <= 12)))] ?_)))))
  obtain ⟨l, hr⟩ := gd hr
  refine .cY l (.seq ?_)
  obtain ⟨k, o, hr⟩ := bd hr
  refine .g1 G (cu (args := [.hs 0 0 data.length 2, aj d, aj e, .fn 54 [] []]) 1 0 [(0, false)] [false] (dR n data d e k o) (by exact ⟨aZ ah.pure _, trivial⟩) (by exact ⟨aZ ah.pure _, trivial⟩) rfl rfl (by kernel_rfl) (by kernel_rfl)) (.mu 4 (.ca cf0 (.done (.nh [] [.own (k.flatMap ah.c)] (.ret ?_)))))
  obtain rfl := oi hr
  exact ⟨rfl, ee.ret [] ((Wk.gc [] [(0, false)] rfl (pKo ah.c ah.pure k trivial)).to)⟩
 rintro x st' f
 clear g
 obtain ⟨rfl, f⟩ := f
 obtain rfl := oi hr
 exact gw _ f

theorem dd (n : Nat) (a : List (A2 Int)) (r : List (A2 Int)) (hr : aJ n a = some r) : dU 1 Tryz.prog 92 [.hs 0 0 a.length 2, .fn 54 [] []] [.own (a.flatMap ah.c)] (.tup []) [.own (r.flatMap ah.c)] := by
 unfold aJ at hr
 refine dU.kR G Tryz.func92 (c := (Tryz.f92.body).getD .skip) rfl (us := []) (s := mkS 14 0 [(0, .hs 0 0 a.length 2), (1, .fn 54 [] [])]) (by kernel_rfl) (rs := []) rfl ?_
 unfold Tryz.f92
 simp only [gS]
 refine .seq (.r4 G [0, 1] [(4, aj (a.length : Int))] ?_)
 obtain ⟨b, d, f, e, hr⟩ := bd2 hr
 refine .gn G (ca1 (ok0 (lN n (wFu (a.length : Int)) b d)) (ca3 (cu (args := [.hs 0 0 a.length 2, aj 0, aj (a.length : Int), aj b, .fn 54 [] []]) 1 0 [(0, false)] [false] (eC n a 0 (a.length : Int) b f e) (by exact ⟨aZ ah.pure _, trivial⟩) (by exact ⟨aZ ah.pure _, trivial⟩) rfl rfl (by kernel_rfl) (by kernel_rfl)))) (.mu 4 (.ca cf0 (.mu 1 (.ca (cfF cf0) (.done ?_)))))
 obtain rfl := oi hr
 exact ee.normal [] ((Wk.gc [] [(0, false)] rfl (pKo ah.c ah.pure f trivial)).to)

theorem s8 {b : Int} {a : Int} (h : ([.at (.int .u64 b)] : List AV) = [.at (.int .u64 a)]) : b = a := by
 simp only [List.cons.injEq, AV.agg.injEq, AV.at.injEq, Value.int.injEq, Value.bool.injEq, AV.fn.injEq, AV.pp.injEq, true_and, and_true] at h
 simp_all
theorem tW (n : Nat) {b : Int} {a : Int} (h : ([.at (.int .u64 b)] : List AV) = [.at (.int .u64 a)]) : cX n b = cX n a := by
 obtain rfl := s8 h
 rfl
theorem fk (n : Nat) (i : Int) (r : List Int) (hr : cX n i = some r) : aM Tryz.prog 148 [cP i] (aC r) := by
 unfold cX at hr
 refine aM.bd G Tryz.func148 [.tmp 2] ?_
 unfold Tryz.f148
 simp only [gS]
 refine .seq (.r4 G [0] [] (.seq (.r4 G [0] [(3, nS)] (.seq (.block ?_)))))
 replace hr := bd hr; obtain ⟨d, e, hr⟩ := hr
 refine .aL (σ := fun j => match j with | (a, b) => ⟨mkS 15 0 [(0, cP a), (3, .hs 0 0 b.length 1)], [.own (b.flatMap iCu)]⟩) (Q := fun x st' => x = .exit 0 /\ Wk 0 st' ⟨mkS 15 0 [(3, .hs 0 0 d.length 1)], [.own (d.flatMap iCu)]⟩) e ((Wk.nil 3 1 (by kernel_rfl)).trans ((Wk.gc [0, 3] [(0, false)] rfl (pKc trivial)).to)) ?_ ?_
 ·clear hr
  rintro m ⟨a, b⟩ hr
  show CQ _ _ _ _ _ ⟨_, _⟩
  refine .seq (.seq (.r4 G [0, 3] [(5, aB (decide (a > 0)))] ?_))
  refine .cd hr ?_ ?_ <;> intro k hr
  ·refine .skip (.seq (.block ?_))
   obtain ⟨g, f, hr⟩ := gd2 hr
   refine .r0 G (.mu 5 (.e0 (v := .hs 2 0 (b ++ [aa .u32 (a.tmod 1000000000)]).length 1) (ws := [(0, .dead), (2, .own ((b ++ [aa .u32 (a.tmod 1000000000)]).flatMap iCu))]) (tr (eJ (new := [br (aa .u32 (a.tmod 1000000000))]) (l := b) (xs := [aa .u32 (a.tmod 1000000000)]) (aI .u32) rfl rfl (by kernel_rfl) g f)) (.mu 1 (.done (.pop (.ru G ?_))))))
   exact aA (wFu (a.tdiv 1000000000), b ++ [aa .u32 (a.tmod 1000000000)]) hr ((Wk.gc [0, 3] [(2, false)] rfl (pKo iCu (aE _) (b ++ [aa .u32 (a.tmod 1000000000)]) trivial)).to)
  refine .leave rfl ?_
  obtain rfl := oi hr
  exact ⟨rfl, ((Wk.gc [3] [(0, false)] rfl (pKo iCu (aE _) b trivial)).to)⟩
 rintro x st' c
 clear e
 obtain ⟨rfl, c⟩ := c
 refine aV _ rfl (.wk c (.seq (.r3 G 15 [(2, .hs 0 0 d.length 1)] (.ret ?_))))
 obtain rfl := oi hr
 exact aF.ret (vs := [.hs 0 0 d.length 1]) (by kernel_rfl) (Sn.hs rfl (.inl rfl) (SnC.pure (aZ (aE _) _)) (fun h => cB h))

theorem gL (n : Nat) (g : List Int) (r : List Int) (hr : eu n g = some r) : aM Tryz.prog 184 [aC g] (aC r) := by
 unfold eu at hr
 refine aM.bd G Tryz.func184 [.tmp 2] ?_
 unfold Tryz.f184
 simp only [gS]
 refine .seq (.r4 G [0] [] (.seq (.block ?_)))
 replace hr := bd hr; obtain ⟨f, d, hr⟩ := hr
 refine .aL (σ := fun k => match k with | a => ⟨mkS 21 0 [(0, aC a)], []⟩) (Q := fun x st' => x = .exit 0 /\ Wk 0 st' ⟨mkS 21 0 [(0, aC f)], []⟩) d ((Wk.gc [0] [] rfl pK0).to) ?_ ?_
 ·clear hr
  rintro m a hr
  show CQ _ _ _ _ _ ⟨_, _⟩
  refine .seq (.seq ?_)
  rcases bT (decide ((a.length : Int) > 0)) with b | b
  ·replace hr := b8 b hr
   obtain ⟨h, hr⟩ := gd hr
   refine .r0 G (.mu 2 (.p0 (v := aB true) (eB b) (.mu 5 (.pure (v := .pp (a.flatMap iCu) ((EN ((a.length : Int) - 1)).toNat * 1)) (by kernel_rfl) (tr (au h)) (.pure (v := br (gt a (EN ((a.length : Int) - 1)))) (by kernel_rfl) (tr (aH (aK (aI .u32) (aD h) z1 (by omega : (EN ((a.length : Int) - 1)).toNat * 1 = (EN ((a.length : Int) - 1)).toNat * 1 + 0) (by kernel_rfl)))) (.mu 2 (.done (.nh [0, 14] [] ?_))))))))
   refine .cd hr ?_ ?_ <;> intro i hr
   ·refine .skip (.block ?_)
    obtain ⟨e, hr⟩ := gd hr
    refine .r0 G (.mu 4 (.p0 (v := aC ((a.drop (0 : Int).toNat).take ((EN ((a.length : Int) - 1)).toNat - (0 : Int).toNat))) (tr (y := slO (inS 0 (EN ((a.length : Int) - 1)) a.length) (0 : Int).toNat (EN ((a.length : Int) - 1)).toNat (fun z1 j => .sl true (((a.flatMap iCu).drop (z1 * 1)).take ((j - z1) * 1)) (j - z1))) (vZ e (tK (aI _) (qb e)))) (.mu 1 (.done (.pop ?_)))))
    exact aA ((a.drop (0 : Int).toNat).take ((EN ((a.length : Int) - 1)).toNat - (0 : Int).toNat)) hr ((Wk.gc [0] [] rfl pK0).to)
   refine .leave rfl ?_
   obtain rfl := oi hr
   exact ⟨rfl, ((Wk.gc [0] [] rfl pK0).to)⟩
  replace hr := bX b hr
  refine .r0 G (.mu 2 (.p0 (v := aB false) (eB b) (.mu 9 (.done (.nh [0, 14] [] (.cF (by kernel_rfl) (.leave rfl ?_)))))))
  obtain rfl := oi hr
  exact ⟨rfl, ((Wk.gc [0] [] rfl pK0).to)⟩
 rintro x st' c
 clear d
 obtain ⟨rfl, c⟩ := c
 refine aV _ rfl (.wk c (.seq (.ru G (.ret ?_))))
 obtain rfl := oi hr
 exact aF.r1 [aC f]

theorem tM {negative : Bool} {g : List Int} {negative_ : Bool} {a : List Int} (h : ([.at (.bool negative), slT iCu g] : List AV) = [.at (.bool negative_), slT iCu a]) : negative = negative_ /\ g = a := by
 simp only [List.cons.injEq, AV.agg.injEq, AV.at.injEq, Value.int.injEq, Value.bool.injEq, AV.fn.injEq, AV.pp.injEq, true_and, and_true, dY] at h
 simp_all
theorem mE (n : Nat) {negative : Bool} {g : List Int} {negative_ : Bool} {a : List Int} (h : ([.at (.bool negative), slT iCu g] : List AV) = [.at (.bool negative_), slT iCu a]) : bW n negative g = bW n negative_ a := by
 obtain ⟨rfl, rfl⟩ := tM h
 rfl
theorem cg (n : Nat) (negative : Bool) (g : List Int) (r : ai) (hr : bW n negative g = some r) : aM Tryz.prog 147 [aB negative, aC g] (.agg (ai.c r)) := by
 unfold bW at hr
 refine aM.bd G Tryz.func147 [.cell 4 40] ?_
 unfold Tryz.f147
 simp only [gS]
 refine .seq (.r5 G [0, 1] [(4, .hp 0 0)] [.own [aB false, nS]] (.seq ?_))
 obtain ⟨a, b, hr⟩ := bd hr
 refine .g1 G (ok0 (gL n g a b)) (.mu 1 (.ca cf0 (.mu 1 (.done (.nh [0, 1, 4] [.own [aB false, nS]] (.seq (.seq (.r4 G [0, 1, 4] [(9, aB (((a.length : Int) : Int) == 0))] ?_))))))))
 refine .cd hr ?_ ?_ <;> intro d hr
 ·refine .seq (.r4 G [4] [] (.ret ?_))
  obtain rfl := oi hr
  exact aF.ret (vs := [.agg [aB false, nS]]) (by kernel_rfl) (Sn.agg (Sp (SnL.cons Sn.dB SnL.nil)))
 refine .skip (.seq (.r5 G [4] [] [.own [aB negative, aC a]] (.ret ?_)))
 obtain rfl := oi hr
 exact aF.r1 [.agg [aB negative, aC a]]

theorem rj (n : Nat) {b : Int} {a : Int} (h : ([.at (.int .i64 b)] : List AV) = [.at (.int .i64 a)]) : fl n b = fl n a := by
 obtain rfl := dW h
 rfl
theorem jf (n : Nat) (a : Int) (r : ai) (hr : fl n a = some r) : aM Tryz.prog 108 [aj a] (.agg (ai.c r)) := by
 unfold fl at hr
 refine aM.bd G Tryz.func108 [.cell 2 40] ?_
 unfold Tryz.f108
 simp only [gS]
 refine .seq (.r5 G [0] [(2, .hp 0 0)] [.own [aB false, nS]] (.seq (.r4 G [0, 2] [(3, cP (wFu a))] (.seq (.seq (.r4 G [0, 2, 3] [(7, aB (decide (a < 0)))] ?_))))))
 refine .cd hr ?_ ?_ <;> intro b hr
 ·refine .r0 G (.mu 1 (.p0 (v := cP (wFu (0 - (wFu a)))) (tr (y := some (.pure (cP (IntKind.wrap .u64 (0 - (wFu a)))))) xd) (.mu 1 (.done (.nh [0, 2, 3] [.own [aB false, nS]] (.seq ?_))))))
  obtain ⟨j, d, e, f, hr⟩ := bd2 hr
  refine .gn G (ca1 (ok0 (fk n (wFu (0 - (wFu a))) j d)) (ca3 (ok0 (cg n true j e f)))) (.mu 1 (.p0 (v := aB true) (eB b) (.mu 1 (.ca cf0 (.ca (cfF cf0) (.mu 1 (.done (.nh [2] [.own (ai.c e)] (.ret ?_)))))))))
  obtain rfl := oi hr
  exact aF.r1 [.agg (ai.c e)]
 refine .skip (.seq ?_)
 obtain ⟨k, g, h, i, hr⟩ := bd2 hr
 refine .gn G (ca1 (ok0 (fk n (wFu a) k g)) (ca3 (ok0 (cg n false k h i)))) (.mu 1 (.p0 (v := aB false) (eB b) (.mu 1 (.ca cf0 (.ca (cfF cf0) (.mu 1 (.done (.nh [2] [.own (ai.c h)] (.ret ?_)))))))))
 obtain rfl := oi hr
 exact aF.r1 [.agg (ai.c h)]

theorem r7 (n : Nat) (g : Int) (r : Bool) (hr : mB n g = some r) : aM Tryz.prog 178 [br g] (aB r) := by
 unfold mB at hr
 refine aM.bd G Tryz.func178 [.tmp 2] ?_
 unfold Tryz.f178
 simp only [gS]
 refine .seq (.r4 G [0] [] (.seq (.ru G (.ret ?_))))
 obtain rfl := oi hr
 exact aF.r1 [aB (decide (g >= 1000000000))]

theorem fT (n : Nat) (s : List Int) (r : Int) (hr : bg n s = some r) : aM Tryz.prog 197 [aC s, .fn 178 [] []] (aj r) := by
 unfold bg at hr
 refine aM.bd G Tryz.func197 [.tmp 4] ?_
 unfold Tryz.f197
 simp only [gS]
 refine .seq (.r4 G [0, 1] [] (.seq (.seq (.r4 G [0, 1] [(7, aj (s.length : Int)), (8, aj 0)] (.block ?_)))))
 replace hr := bd hr; obtain ⟨d, c, hr⟩ := hr
 refine .aL (σ := fun i => match i with | a => ⟨mkS 19 0 [(0, aC s), (1, .fn 178 [] []), (7, aj (s.length : Int)), (8, aj a)], []⟩) (Q := fun x st' => match (generalizing := false) d with | .inl _ => x = .exit 0 /\ Wk 0 st' ⟨mkS 19 0 [], []⟩ | .inr (r0) => x = .ret /\ aF Tryz.prog [.tmp 4] (aj r0) .ret st') c ((Wk.gc [0, 1, 7, 8] [] rfl pK0).to) ?_ ?_
 ·clear hr
  rintro m a hr
  show CQ _ _ _ _ _ ⟨_, _⟩
  refine .seq (.r4 G [0, 1, 7, 8] [(9, aB (decide (a < (s.length : Int))))] (.seq ?_))
  refine .cd hr ?_ ?_ <;> intro j hr
  ·refine .skip (.seq (.block (.seq (.r4 G [0, 1, 7, 8] [(5, aj a)] (.seq ?_)))))
   obtain ⟨e, hr⟩ := gd hr
   obtain ⟨g, f, hr⟩ := bd hr
   refine .g1 G (ok0 (r7 n (gt s a) g f)) (.mu 3 (.p0 (v := .pp (s.flatMap iCu) (a.toNat * 1)) (tr (au e)) (.p0 (v := br (gt s a)) (tr (aH (aK (aI .u32) (aD e) z1 (by omega : a.toNat * 1 = a.toNat * 1 + 0) (by kernel_rfl)))) (.ca cf0 (.done (.nh [0, 1, 5, 7, 8, 16] [] ?_))))))
   refine .cd hr ?_ ?_ <;> intro h hr
   ·refine .seq (.ru G (.ret ?_))
    obtain rfl := oi hr
    exact ⟨rfl, aF.ret (vs := [aj a]) (by kernel_rfl) (Sn.pure rfl)⟩
   refine .skip (.pop (.ru G ?_))
   exact aA (EN (a + 1)) hr ((Wk.gc [0, 1, 7, 8] [] rfl pK0).to)
  refine .leave rfl ?_
  obtain rfl := oi hr
  exact ⟨rfl, ((Wk.gc [] [] rfl pK0).to)⟩
 rcases d with ⟨⟩ | r0
 ·rintro x st' b
  clear c
  obtain ⟨rfl, b⟩ := b
  refine aV _ rfl (.wk b (.seq (.ru G (.ret ?_))))
  obtain rfl := oi hr
  exact aF.r1 [aj (-1)]
 rintro x st' b
 clear c
 obtain ⟨rfl, b⟩ := b
 obtain rfl := oi hr
 exact gw _ b

theorem fE (n : Nat) (s : List Int) (r : Bool) (hr : aR n s = some r) : aM Tryz.prog 177 [aC s, .fn 178 [] []] (aB r) := by
 unfold aR at hr
 refine aM.bd G Tryz.func177 [.tmp 4] ?_
 unfold Tryz.f177
 simp only [gS]
 refine .seq (.r4 G [0, 1] [] (.seq ?_))
 obtain ⟨b, a, hr⟩ := bd hr
 refine .g1 G (ok0 (fT n s b a)) (.mu 2 (.ca cf0 (.mu 2 (.done (.ret ?_)))))
 obtain rfl := oi hr
 exact aF.r1 [aB (decide (b >= 0))]

theorem eQ {b : ai} {a : ai} (h : ([.agg [.at (.bool b.Negative), slT iCu b.Groups]] : List AV) = [.agg [.at (.bool a.Negative), slT iCu a.Groups]]) : b = a := by
 obtain ⟨_, _⟩ := b
 obtain ⟨_, _⟩ := a
 simp only [List.cons.injEq, AV.agg.injEq, AV.at.injEq, Value.int.injEq, Value.bool.injEq, AV.fn.injEq, AV.pp.injEq, true_and, and_true, dY] at h
 simp_all
theorem oO (n : Nat) {b : ai} {a : ai} (h : ([.agg (ai.c b)] : List AV) = [.agg (ai.c a)]) : dM n b = dM n a := by
 obtain rfl := eQ h
 rfl
theorem fo (n : Nat) (a : ai) (r : Bool) (hr : dM n a = some r) : aM Tryz.prog 142 [.agg (ai.c a)] (aB r) := by
 unfold dM at hr
 refine aM.bd G Tryz.func142 [.tmp 2] ?_
 unfold Tryz.f142
 simp only [gS]
 refine .seq (.r2 G 25 [(1, .hp 0 0)] [.own (ai.c a)] (.seq (.r4 G [1] [(3, aj (a.Groups.length : Int))] (.seq (.seq (.r4 G [1, 3] [(8, aB (((a.Groups.length : Int) : Int) == 0))] ?_))))))
 refine .cd hr ?_ ?_ <;> intro g hr
 ·refine .seq (.ru G (.ret ?_))
  obtain rfl := oi hr
  exact aF.r1 [aB (!a.Negative)]
 refine .skip (.seq ?_)
 obtain ⟨d, hr⟩ := gd hr
 rcases bT (((gt a.Groups (EN ((a.Groups.length : Int) - 1))) : Int) != 0) with b | b
 ·replace hr := b8 b hr
  obtain ⟨f, e, hr⟩ := bd hr
  refine .g1 G (ok0 (fE n a.Groups f e)) (.mu 4 (.p0 (v := .pp (a.Groups.flatMap iCu) ((EN ((a.Groups.length : Int) - 1)).toNat * 1)) (tr (au d)) (.p0 (v := br (gt a.Groups (EN ((a.Groups.length : Int) - 1)))) (tr (aH (aK (aI .u32) (aD d) z1 (by omega : (EN ((a.Groups.length : Int) - 1)).toNat * 1 = (EN ((a.Groups.length : Int) - 1)).toNat * 1 + 0) (by kernel_rfl)))) (.p0 (v := aB true) (eB b) (.mu 3 (.ca cf0 (.mu 3 (.done (.ret ?_)))))))))
  obtain rfl := oi hr
  exact aF.r1 [aB (!f)]
 replace hr := bX b hr
 refine .r0 G (.mu 4 (.p0 (v := .pp (a.Groups.flatMap iCu) ((EN ((a.Groups.length : Int) - 1)).toNat * 1)) (tr (au d)) (.p0 (v := br (gt a.Groups (EN ((a.Groups.length : Int) - 1)))) (tr (aH (aK (aI .u32) (aD d) z1 (by omega : (EN ((a.Groups.length : Int) - 1)).toNat * 1 = (EN ((a.Groups.length : Int) - 1)).toNat * 1 + 0) (by kernel_rfl)))) (.p0 (v := aB false) (eB b) (.mu 7 (.done (.ret ?_)))))))
 obtain rfl := oi hr
 exact aF.r1 [aB false]

theorem q8 (n : Nat) {b : ai} {a : ai} (h : ([.agg (ai.c b)] : List AV) = [.agg (ai.c a)]) : gh n b = gh n a := by
 obtain rfl := eQ h
 rfl
theorem mL (n : Nat) (a : ai) (r : ai) (hr : gh n a = some r) : aM Tryz.prog 190 [.agg (ai.c a)] (.agg (ai.c r)) := by
 unfold gh at hr
 refine aM.bd G Tryz.func190 [.cell 2 40] ?_
 unfold Tryz.f190
 simp only [gS]
 refine .seq (.r2 G 7 [(1, .hp 0 0), (2, .hp 1 0)] [.own (ai.c a), .own [aB false, nS]] (.seq (.seq ?_)))
 obtain ⟨f, b, hr⟩ := bd hr
 refine .g1 G (ok0 (fo n a f b)) (.mu 1 (.ca cf0 (.done (.nh [1, 2, 4] [.own (ai.c a), .own [aB false, nS]] ?_))))
 refine .cd hr ?_ ?_ <;> intro g hr
 ·refine .seq (.r5 G [2] [] [.own (ai.c a), .own (ai.c a)] (.ret ?_))
  obtain rfl := oi hr
  exact aF.r1 [.agg (ai.c a)]
 refine .skip (.seq ?_)
 obtain ⟨d, e, hr⟩ := bd hr
 refine .g1 G (ok0 (jf n 0 d e)) (.ca cf0 (.mu 1 (.done (.nh [2] [.own (ai.c a), .own (ai.c d)] (.ret ?_)))))
 obtain rfl := oi hr
 exact aF.r1 [.agg (ai.c d)]

theorem gT (n : Nat) {b : ai} {a : ai} (h : ([.agg (ai.c b)] : List AV) = [.agg (ai.c a)]) : bO n b = bO n a := by
 obtain rfl := eQ h
 rfl
theorem cy (n : Nat) (a : ai) (r : List Int) (hr : bO n a = some r) : aM Tryz.prog 162 [.agg (ai.c a)] (aC r) := by
 unfold bO at hr
 refine aM.bd G Tryz.func162 [.tmp 2] ?_
 unfold Tryz.f162
 simp only [gS]
 refine .seq (.r2 G 8 [(1, .hp 0 0)] [.own (ai.c a)] (.seq (.seq ?_)))
 obtain ⟨d, b, hr⟩ := bd hr
 refine .g1 G (ok0 (fo n a d b)) (.mu 1 (.ca cf0 (.mu 1 (.done (.nh [1, 5] [.own (ai.c a)] ?_)))))
 refine .cd hr ?_ ?_ <;> intro e hr
 ·refine .seq (.r3 G 8 [(2, nS)] (.ret ?_))
  obtain rfl := oi hr
  exact aF.ret (vs := [nS]) (by kernel_rfl) Sn.dB
 refine .skip (.seq (.ru G (.ret ?_)))
 obtain rfl := oi hr
 exact aF.r1 [aC a.Groups]

theorem uw (n : Nat) {b : ai} {a : ai} (h : ([.agg (ai.c b)] : List AV) = [.agg (ai.c a)]) : c8 n b = c8 n a := by
 obtain rfl := eQ h
 rfl
theorem fO (n : Nat) (a : ai) (r : Int) (hr : c8 n a = some r) : aM Tryz.prog 143 [.agg (ai.c a)] (aj r) := by
 unfold c8 at hr
 refine aM.bd G Tryz.func143 [.tmp 2] ?_
 unfold Tryz.f143
 simp only [gS]
 refine .seq (.r2 G 11 [(1, .hp 0 0)] [.own (ai.c a)] (.seq (.block (.seq ?_))))
 obtain ⟨d, b, hr⟩ := bd hr
 refine .g1 G (ok0 (cy n a d b)) (.mu 1 (.ca cf0 (.mu 3 (.done (.nh [1, 3] [.own (ai.c a)] ?_)))))
 refine .cd hr ?_ ?_ <;> intro e hr
 ·refine .seq (.ru G (.ret ?_))
  obtain rfl := oi hr
  exact aF.r1 [aj 0]
 refine .seq (.r3 G 11 [(8, aB a.Negative)] ?_)
 refine .cd hr ?_ ?_ <;> intro f hr
 ·refine .seq (.ru G (.ret ?_))
  obtain rfl := oi hr
  exact aF.r1 [aj (-1)]
 refine .skip (.pop (.seq (.ru G (.ret ?_))))
 obtain rfl := oi hr
 exact aF.r1 [aj 1]

theorem fD (n : Nat) (s : List Int) (r : List Int) (hr : cz n s = some r) : aM Tryz.prog 183 [aC s] (aC r) := by
 unfold cz at hr
 refine aM.bd G Tryz.func183 [.tmp 2] ?_
 unfold Tryz.f183
 simp only [gS]
 refine .seq (.r4 G [0] [] (.seq (.seq ?_)))
 refine .BU (t := 0) (cs := s.flatMap iCu) (len := s.length) (by kernel_rfl) (fun a => ?_) ?_
 ·obtain rfl : s = [] := List.length_eq_zero_iff.1 a
  have hx := gd hr; clear hr; obtain ⟨_, hr⟩ := hx
  have hx := gd hr; clear hr; obtain ⟨_, hr⟩ := hx
  refine .r4 G [0] [(4, aB true)] (.cT (by kernel_rfl) (.seq (.r3 G 8 [(2, nS)] (.ret ?_))))
  obtain rfl := oi hr
  exact aF.ret (vs := [nS]) (by kernel_rfl) Sn.dB
 refine .r4 G [0] [(4, aB false)] (.cF (by kernel_rfl) (.skip (.seq ?_)))
 obtain ⟨b, c, hr⟩ := gd2 hr
 refine .r0 G (.mu 2 (.e0 (v := .hs 1 0 s.length 1) (ws := [(0, .dead), (1, .own (s.flatMap iCu))]) (tr (y := yZ (decide (((s.flatMap iCu)).length = s.length * 1)) (s.flatMap iCu) s.length (fun z1 d => n8 (decide (0 + 0 * 1 <= (([] : List Int).flatMap iCu).length) && decide ((0 + d) * 4 <= 140737488355328) && decide (0 + d <= 4611686018427387904)) (some (.eff (.hs 1 0 (0 + d) 1) [(0, .dead), (1, .own (((([] : List Int).flatMap iCu).drop 0).take (0 * 1) ++ z1))])))) (tt (mZ (aI _)) rfl (eJ (l := ([] : List Int)) (xs := s) (aI _) rfl rfl rfl b c))) (.mu 1 (.done (.nh [2] [.dead, .own (s.flatMap iCu)] (.ret ?_))))))
 obtain rfl := oi hr
 exact aF.ret (vs := [.hs 1 0 s.length 1]) (by kernel_rfl) (Sn.hs rfl (.inl rfl) (SnC.pure (aZ (aE _) _)) (fun h => cB h))

theorem gr (n : Nat) {b : ai} {a : ai} (h : ([.agg (ai.c b)] : List AV) = [.agg (ai.c a)]) : eF n b = eF n a := by
 obtain rfl := eQ h
 rfl
theorem gu (n : Nat) (a : ai) (r : ai) (hr : eF n a = some r) : aM Tryz.prog 158 [.agg (ai.c a)] (.agg (ai.c r)) := by
 unfold eF at hr
 refine aM.bd G Tryz.func158 [.cell 2 40] ?_
 unfold Tryz.f158
 simp only [gS]
 refine .seq (.r2 G 10 [(1, .hp 0 0), (2, .hp 1 0)] [.own (ai.c a), .own [aB false, nS]] (.seq ?_))
 obtain ⟨g, b, h, d, e, f, hr⟩ := bd3 hr
 refine .tn G (ca1 (ok0 (cy n a g b)) (ca1 (ok0 (fD n g h d)) (ca3 (ok0 (cg n (!a.Negative) h e f))))) (.mu 4 (.ca cf0 (.ca (cfF cf0) (.ca (cfF (cfF cf0)) (.mu 1 ?_)))))
 refine .done ⟨by kernel_rfl, ?_⟩
 refine .nh [2] [.own (ai.c a), .own (ai.c e)] (.ret ?_)
 obtain rfl := oi hr
 exact aF.r1 [.agg (ai.c e)]




theorem th (n : Nat) (a : List Int) (b : List Int) (r : List Int) (hr : jj n a b = some r) : aM Tryz.prog 161 [aC a, aC b] (aC r) := by
 unfold jj at hr
 refine aM.bd G Tryz.func161 [.tmp 4] ?_
 unfold Tryz.f161
 simp only [gS]
 refine .seq (.r4 G [0, 1] [] (.seq ?_))
 obtain ⟨E, F, H, hr⟩ := gd3 hr
 refine .r0 G (.mu 5 (.e0 (v := .hs 0 0 (List.replicate (EN ((a.length : Int) + (b.length : Int))).toNat ((0 : Int) : Int)).length 1) (ws := [(0, .own ((List.replicate (EN ((a.length : Int) + (b.length : Int))).toNat ((0 : Int) : Int)).flatMap iCu))]) (tr (mc (c := iCu) (z := (0 : Int)) (n := EN ((a.length : Int) + (b.length : Int))) (by_ := 4) rfl E F H)) (.mu 1 (.done (.nh [0, 1, 5] [.own ((List.replicate (EN ((a.length : Int) + (b.length : Int))).toNat ((0 : Int) : Int)).flatMap iCu)] (.seq (.seq (.r4 G [1, 5] [(18, aC a), (19, aj (a.length : Int)), (20, aj 0)] (.block ?_)))))))))
 replace hr := bd hr; obtain ⟨o, u, hr⟩ := hr
 refine .aL (σ := fun I => match I with | (p, e) => ⟨mkS 69 0 [(1, aC b), (5, .hs 0 0 p.length 1), (18, aC a), (19, aj (a.length : Int)), (20, aj e)], [.own (p.flatMap iCu)]⟩) (Q := fun x st' => x = .exit 0 /\ Wk 0 st' ⟨mkS 69 0 [(5, .hs 0 0 o.length 1)], [.own (o.flatMap iCu)]⟩) u ((Wk.gc [1, 5, 18, 19, 20] [(0, false)] rfl (pKo iCu (aE _) (List.replicate (EN ((a.length : Int) + (b.length : Int))).toNat ((0 : Int) : Int)) trivial)).to) ?_ ?_
 ·clear hr
  rintro m ⟨p, e⟩ hr
  show CQ _ _ _ _ _ ⟨_, _⟩
  refine .seq (.r4 G [1, 5, 18, 19, 20] [(21, aB (decide (e < (a.length : Int))))] (.seq ?_))
  refine .cd hr ?_ ?_ <;> intro J hr
  ·refine .skip (.seq (.block (.seq ?_)))
   obtain ⟨w, hr⟩ := gd hr
   refine .r0 G (.mu 1 (.p0 (v := .pp (a.flatMap iCu) (e.toNat * 1)) (tr (au w)) (.p0 (v := br (gt a e)) (tr (aH (aK (aI .u32) (aD w) z1 (by omega : e.toNat * 1 = e.toNat * 1 + 0) (by kernel_rfl)))) (.mu 2 (.done (.nh [1, 5, 6, 7, 18, 19, 20] [.own (p.flatMap iCu)] (.seq (.r4 G [1, 5, 6, 7, 18, 19, 20] [(8, cP 0)] (.seq (.seq (.r4 G [1, 5, 6, 7, 8, 18, 19, 20] [(25, aC b), (26, aj (b.length : Int)), (27, aj 0)] (.block ?_))))))))))))
   replace hr := bd hr; obtain ⟨B, y, hr⟩ := hr
   refine .aL (σ := fun I => match I with | (f, g, d) => ⟨mkS 69 0 [(1, aC b), (5, .hs 0 0 f.length 1), (6, aj e), (7, br (gt a e)), (8, cP g), (18, aC a), (19, aj (a.length : Int)), (20, aj e), (25, aC b), (26, aj (b.length : Int)), (27, aj d)], [.own (f.flatMap iCu)]⟩) (Q := fun x st' => match (generalizing := false) B with | (i, j) => x = .exit 2 /\ Wk 0 st' ⟨mkS 69 0 [(1, aC b), (5, .hs 0 0 i.length 1), (6, aj e), (8, cP j), (18, aC a), (19, aj (a.length : Int)), (20, aj e)], [.own (i.flatMap iCu)]⟩) y ((Wk.gc [1, 5, 6, 7, 8, 18, 19, 20, 25, 26, 27] [(0, false)] rfl (pKo iCu (aE _) p trivial)).to) ?_ ?_
   ·clear hr
    rintro m ⟨f, g, d⟩ hr
    show CQ _ _ _ _ _ ⟨_, _⟩
    refine .seq (.r4 G [1, 5, 6, 7, 8, 18, 19, 20, 25, 26, 27] [(28, aB (decide (d < (b.length : Int))))] (.seq ?_))
    refine .cd hr ?_ ?_ <;> intro L hr
    ·refine .skip (.seq (.block (.seq ?_)))
     obtain ⟨A, hr⟩ := gd hr
     refine .r0 G (.mu 1 (.p0 (v := .pp (b.flatMap iCu) (d.toNat * 1)) (tr (au A)) (.p0 (v := br (gt b d)) (tr (aH (aK (aI .u32) (aD A) z1 (by omega : d.toNat * 1 = d.toNat * 1 + 0) (by kernel_rfl)))) (.mu 2 (.done (.nh [1, 5, 6, 7, 8, 9, 10, 18, 19, 20, 25, 26, 27] [.own (f.flatMap iCu)] (.seq ?_)))))))
     obtain ⟨k, hr⟩ := gd hr
     refine .r0 G (.mu 4 (.p0 (v := .hp 0 (0 + (EN (e + d)).toNat * 1)) (tr (au k)) (.p0 (v := br (gt f (EN (e + d)))) (tr (aH (aK (aI .u32) (aD k) z1 (by omega : 0 + (EN (e + d)).toNat * 1 = (EN (e + d)).toNat * 1 + 0) (by kernel_rfl)))) (.mu 10 (.done (.nh [1, 5, 6, 7, 9, 11, 18, 19, 20, 25, 26, 27] [.own (f.flatMap iCu)] (.r0 G (.mu 9 (.p0 (v := .hp 0 (0 + (EN (e + d)).toNat * 1)) (tr (au k)) (.e0 (v := .unk) (ws := [(0, .own ((f.set (EN (e + d)).toNat (aa .u32 ((wFu ((wFu ((wFu (gt f (EN (e + d)))) + (wFu ((wFu (gt a e)) * (wFu (gt b d)))))) + g)).tmod 1000000000))).flatMap iCu))]) (tr (iE (iy (cx (n := 1) (aI .u32) (aD k) (lbT rfl) (by omega : 0 + (EN (e + d)).toNat * 1 = (EN (e + d)).toNat * 1 + 0))) (congrArg Blk.own (cU (xs := [br (aa .u32 ((wFu ((wFu ((wFu (gt f (EN (e + d)))) + (wFu ((wFu (gt a e)) * (wFu (gt b d)))))) + g)).tmod 1000000000))]) (aI .u32) (aD k) (lbT rfl) (by omega : 0 + (EN (e + d)).toNat * 1 = (EN (e + d)).toNat * 1 + 0) (by kernel_rfl))))) (.mu 1 (.done (.pop (.ru G ?_))))))))))))))
     exact aA (f.set (EN (e + d)).toNat (aa .u32 ((wFu ((wFu ((wFu (gt f (EN (e + d)))) + (wFu ((wFu (gt a e)) * (wFu (gt b d)))))) + g)).tmod 1000000000)), wFu ((wFu ((wFu ((wFu (gt f (EN (e + d)))) + (wFu ((wFu (gt a e)) * (wFu (gt b d)))))) + g)).tdiv 1000000000), EN (d + 1)) hr ((Wk.iG 5 (b := 0) (es := 1) (len := f.length) (f.set (EN (e + d)).toNat (aa .u32 ((wFu ((wFu ((wFu (gt f (EN (e + d)))) + (wFu ((wFu (gt a e)) * (wFu (gt b d)))))) + g)).tmod 1000000000))).length (by kernel_rfl) (Eq.symm (List.length_set.trans rfl))).trans ((Wk.gc [1, 5, 6, 7, 8, 18, 19, 20, 25, 26, 27] [(0, false)] rfl (pKo iCu (aE _) (f.set (EN (e + d)).toNat (aa .u32 ((wFu ((wFu ((wFu (gt f (EN (e + d)))) + (wFu ((wFu (gt a e)) * (wFu (gt b d)))))) + g)).tmod 1000000000))) trivial)).to))
    refine .leave rfl ?_
    obtain rfl := oi hr
    exact ⟨rfl, ((Wk.gc [1, 5, 6, 8, 18, 19, 20] [(0, false)] rfl (pKo iCu (aE _) f trivial)).to)⟩
   rcases B with ⟨i, j⟩
   rintro x st' q
   clear y
   obtain ⟨rfl, q⟩ := q
   refine aV _ rfl (.wk q ?_)
   obtain ⟨s, hr⟩ := gd hr
   refine .r0 G (.mu 7 (.p0 (v := .hp 0 (0 + (EN (e + (b.length : Int))).toNat * 1)) (tr (au s)) (.e0 (v := .unk) (ws := [(0, .own ((i.set (EN (e + (b.length : Int))).toNat (aa .u32 j)).flatMap iCu))]) (tr (iE (iy (cx (n := 1) (aI .u32) (aD s) (lbT rfl) (by omega : 0 + (EN (e + (b.length : Int))).toNat * 1 = (EN (e + (b.length : Int))).toNat * 1 + 0))) (congrArg Blk.own (cU (xs := [br (aa .u32 j)]) (aI .u32) (aD s) (lbT rfl) (by omega : 0 + (EN (e + (b.length : Int))).toNat * 1 = (EN (e + (b.length : Int))).toNat * 1 + 0) (by kernel_rfl))))) (.done (.pop (.ru G ?_))))))
   exact aA (i.set (EN (e + (b.length : Int))).toNat (aa .u32 j), EN (e + 1)) hr ((Wk.iG 5 (b := 0) (es := 1) (len := i.length) (i.set (EN (e + (b.length : Int))).toNat (aa .u32 j)).length (by kernel_rfl) (Eq.symm (List.length_set.trans rfl))).trans ((Wk.gc [1, 5, 18, 19, 20] [(0, false)] rfl (pKo iCu (aE _) (i.set (EN (e + (b.length : Int))).toNat (aa .u32 j)) trivial)).to))
  refine .leave rfl ?_
  obtain rfl := oi hr
  exact ⟨rfl, ((Wk.gc [5] [(0, false)] rfl (pKo iCu (aE _) p trivial)).to)⟩
 rintro x st' t
 clear u
 obtain ⟨rfl, t⟩ := t
 refine aV _ rfl (.wk t (.seq ?_))
 obtain ⟨C, D, hr⟩ := bd hr
 refine .g1 G (cK (args := [.hs 0 0 o.length 1]) (l := [0]) (SnL.cons (Sn.hs rfl (.inl rfl) (SnC.pure (aZ (aE _) _)) (fun h => cB h)) SnL.nil) (gL n o C D)) (.mu 1 (.ca cf0 (.mu 1 (.done (.ret ?_)))))
 obtain rfl := oi hr
 exact aF.r1 [aC C]

theorem sF (n : Nat) (g : List Int) (r : List Int) (hr : nc n g = some r) : dU 1 Tryz.prog 184 [.hs 0 0 g.length 1] [.own (g.flatMap iCu)] (.hs 0 0 r.length 1) [.own (r.flatMap iCu)] := by
 unfold nc at hr
 refine dU.kR G Tryz.func184 (c := (Tryz.f184.body).getD .skip) rfl (us := [.hs 0 0 r.length 1]) (s := mkS 21 0 [(0, .hs 0 0 g.length 1)]) (by kernel_rfl) (rs := [.tmp 2]) rfl ?_
 unfold Tryz.f184
 simp only [gS]
 refine .seq (.r4 G [0] [] (.seq (.block ?_)))
 replace hr := bd hr; obtain ⟨b, f, hr⟩ := hr
 refine .aL (σ := fun k => match k with | a => ⟨mkS 21 0 [(0, .hs 0 0 a.length 1)], [.own (a.flatMap iCu)]⟩) (Q := fun x st' => x = .exit 0 /\ Wk 1 st' ⟨mkS 21 0 [(0, .hs 0 0 b.length 1)], [.own (b.flatMap iCu)]⟩) f ((Wk.gc [0] [(0, false)] rfl (pKo iCu (aE _) g trivial)).to) ?_ ?_
 ·clear hr
  rintro m a hr
  show CQ _ _ _ _ _ ⟨_, _⟩
  refine .seq (.seq ?_)
  rcases bT (decide ((a.length : Int) > 0)) with d | d
  ·replace hr := b8 d hr
   obtain ⟨h, hr⟩ := gd hr
   refine .r0 G (.mu 2 (.p0 (v := aB true) (eB d) (.mu 5 (.pure (v := .hp 0 (0 + (EN ((a.length : Int) - 1)).toNat * 1)) (by kernel_rfl) (tr (au h)) (.pure (v := br (gt a (EN ((a.length : Int) - 1)))) (by kernel_rfl) (tr (aH (aK (aI .u32) (aD h) z1 (by omega : 0 + (EN ((a.length : Int) - 1)).toNat * 1 = (EN ((a.length : Int) - 1)).toNat * 1 + 0) (by kernel_rfl)))) (.mu 2 (.done (.nh [0, 14] [.own (a.flatMap iCu)] ?_))))))))
   refine .cd hr ?_ ?_ <;> intro j hr
   ·refine .skip (.block ?_)
    obtain ⟨i, hr⟩ := gd hr
    refine .r0 G (.mu 4 (.p0 (v := .hs 0 0 (EN ((a.length : Int) - 1)).toNat 1) (tr (y := slH (inS 0 (EN ((a.length : Int) - 1)) a.length) true ((0 : Int).toNat) ((EN ((a.length : Int) - 1)).toNat) (fun z1 l => .hs 0 (0 + z1 * 1) (l - z1) 1)) (AL i (by kernel_rfl))) (.mu 1 (.done (.pop ?_)))))
    exact aA (a.take (EN ((a.length : Int) - 1)).toNat) hr ((Wk.Eo (c := iCu) (es := 1) 0 0 (aI _) a (EN ((a.length : Int) - 1)).toNat (qb i) (by kernel_rfl) (by kernel_rfl)).trans ((Wk.gc [0] [(0, false)] rfl (pKo iCu (aE _) (a.take (EN ((a.length : Int) - 1)).toNat) trivial)).to))
   refine .leave rfl ?_
   obtain rfl := oi hr
   exact ⟨rfl, ((Wk.gc [0] [(0, false)] rfl (pKo iCu (aE _) a trivial)).to)⟩
  replace hr := bX d hr
  refine .r0 G (.mu 2 (.p0 (v := aB false) (eB d) (.mu 9 (.done (.nh [0, 14] [.own (a.flatMap iCu)] (.cF (by kernel_rfl) (.leave rfl ?_)))))))
  obtain rfl := oi hr
  exact ⟨rfl, ((Wk.gc [0] [(0, false)] rfl (pKo iCu (aE _) a trivial)).to)⟩
 rintro x st' e
 clear f
 obtain ⟨rfl, e⟩ := e
 refine aV _ rfl (.wk e (.seq (.r3 G 21 [(2, .hs 0 0 b.length 1)] (.ret ?_))))
 obtain rfl := oi hr
 exact ee.ret [.hs 0 0 b.length 1] ((Wk.gc [0] [(0, false)] rfl (pKo iCu (aE _) b trivial)).to)

theorem m8 (n : Nat) (a : List Int) (b : List Int) (r : List Int) (hr : iW n a b = some r) : dU 1 Tryz.prog 161 [aC a, .hs 0 0 b.length 1] [.own (b.flatMap iCu)] (.hs 1 0 r.length 1) [.own (b.flatMap iCu), .own (r.flatMap iCu)] := by
 unfold iW at hr
 refine dU.kR G Tryz.func161 (c := (Tryz.f161.body).getD .skip) rfl (us := [.hs 1 0 r.length 1]) (s := mkS 69 0 [(0, aC a), (1, .hs 0 0 b.length 1)]) (by kernel_rfl) (rs := [.tmp 4]) rfl ?_
 unfold Tryz.f161
 simp only [gS]
 refine .seq (.r4 G [0, 1] [] (.seq ?_))
 obtain ⟨B, C, D, hr⟩ := gd3 hr
 refine .r0 G (.mu 5 (.e0 (v := .hs 1 0 (List.replicate (EN ((a.length : Int) + (b.length : Int))).toNat ((0 : Int) : Int)).length 1) (ws := [(1, .own ((List.replicate (EN ((a.length : Int) + (b.length : Int))).toNat ((0 : Int) : Int)).flatMap iCu))]) (tr (mc (c := iCu) (z := (0 : Int)) (n := EN ((a.length : Int) + (b.length : Int))) (by_ := 4) rfl B C D)) (.mu 1 (.done (.nh [0, 1, 5] [.own (b.flatMap iCu), .own ((List.replicate (EN ((a.length : Int) + (b.length : Int))).toNat ((0 : Int) : Int)).flatMap iCu)] (.seq (.seq (.r4 G [1, 5] [(18, aC a), (19, aj (a.length : Int)), (20, aj 0)] (.block ?_)))))))))
 replace hr := bd hr; obtain ⟨l, u, hr⟩ := hr
 refine .aL (σ := fun H => match H with | (j, d) => ⟨mkS 69 0 [(1, .hs 0 0 b.length 1), (5, .hs 1 0 j.length 1), (18, aC a), (19, aj (a.length : Int)), (20, aj d)], [.own (b.flatMap iCu), .own (j.flatMap iCu)]⟩) (Q := fun x st' => x = .exit 0 /\ Wk 1 st' ⟨mkS 69 0 [(5, .hs 1 0 l.length 1)], [.own (b.flatMap iCu), .own (l.flatMap iCu)]⟩) u ((Wk.gc [1, 5, 18, 19, 20] [(0, false), (1, false)] rfl (pKo iCu (aE _) b (pKo iCu (aE _) (List.replicate (EN ((a.length : Int) + (b.length : Int))).toNat ((0 : Int) : Int)) trivial))).to) ?_ ?_
 ·clear hr
  rintro m ⟨j, d⟩ hr
  show CQ _ _ _ _ _ ⟨_, _⟩
  refine .seq (.r4 G [1, 5, 18, 19, 20] [(21, aB (decide (d < (a.length : Int))))] (.seq ?_))
  refine .cd hr ?_ ?_ <;> intro I hr
  ·refine .skip (.seq (.block (.seq ?_)))
   obtain ⟨w, hr⟩ := gd hr
   refine .r0 G (.mu 1 (.p0 (v := .pp (a.flatMap iCu) (d.toNat * 1)) (tr (au w)) (.p0 (v := br (gt a d)) (tr (aH (aK (aI .u32) (aD w) z1 (by omega : d.toNat * 1 = d.toNat * 1 + 0) (by kernel_rfl)))) (.mu 2 (.done (.nh [1, 5, 6, 7, 18, 19, 20] [.own (b.flatMap iCu), .own (j.flatMap iCu)] (.seq (.r4 G [1, 5, 6, 7, 18, 19, 20] [(8, cP 0)] (.seq (.seq (.r4 G [1, 5, 6, 7, 8, 18, 19, 20] [(25, .hs 0 0 b.length 1), (26, aj (b.length : Int)), (27, aj 0)] (.block ?_))))))))))))
   replace hr := bd hr; obtain ⟨E, y, hr⟩ := hr
   refine .aL (σ := fun H => match H with | (f, g, e) => ⟨mkS 69 0 [(1, .hs 0 0 b.length 1), (5, .hs 1 0 f.length 1), (6, aj d), (7, br (gt a d)), (8, cP g), (18, aC a), (19, aj (a.length : Int)), (20, aj d), (25, .hs 0 0 b.length 1), (26, aj (b.length : Int)), (27, aj e)], [.own (b.flatMap iCu), .own (f.flatMap iCu)]⟩) (Q := fun x st' => match (generalizing := false) E with | (h, i) => x = .exit 2 /\ Wk 1 st' ⟨mkS 69 0 [(1, .hs 0 0 b.length 1), (5, .hs 1 0 h.length 1), (6, aj d), (8, cP i), (18, aC a), (19, aj (a.length : Int)), (20, aj d)], [.own (b.flatMap iCu), .own (h.flatMap iCu)]⟩) y ((Wk.gc [1, 5, 6, 7, 8, 18, 19, 20, 25, 26, 27] [(0, false), (1, false)] rfl (pKo iCu (aE _) b (pKo iCu (aE _) j trivial))).to) ?_ ?_
   ·clear hr
    rintro m ⟨f, g, e⟩ hr
    show CQ _ _ _ _ _ ⟨_, _⟩
    refine .seq (.r4 G [1, 5, 6, 7, 8, 18, 19, 20, 25, 26, 27] [(28, aB (decide (e < (b.length : Int))))] (.seq ?_))
    refine .cd hr ?_ ?_ <;> intro J hr
    ·refine .skip (.seq (.block (.seq ?_)))
     obtain ⟨A, hr⟩ := gd hr
     refine .r0 G (.mu 1 (.p0 (v := .hp 0 (0 + e.toNat * 1)) (tr (au A)) (.p0 (v := br (gt b e)) (tr (aH (aK (aI .u32) (aD A) z1 (by omega : 0 + e.toNat * 1 = e.toNat * 1 + 0) (by kernel_rfl)))) (.mu 2 (.done (.nh [1, 5, 6, 7, 8, 9, 10, 18, 19, 20, 25, 26, 27] [.own (b.flatMap iCu), .own (f.flatMap iCu)] (.seq ?_)))))))
     obtain ⟨k, hr⟩ := gd hr
     refine .r0 G (.mu 4 (.p0 (v := .hp 1 (0 + (EN (d + e)).toNat * 1)) (tr (au k)) (.p0 (v := br (gt f (EN (d + e)))) (tr (aH (aK (aI .u32) (aD k) z1 (by omega : 0 + (EN (d + e)).toNat * 1 = (EN (d + e)).toNat * 1 + 0) (by kernel_rfl)))) (.mu 10 (.done (.nh [1, 5, 6, 7, 9, 11, 18, 19, 20, 25, 26, 27] [.own (b.flatMap iCu), .own (f.flatMap iCu)] (.r0 G (.mu 9 (.p0 (v := .hp 1 (0 + (EN (d + e)).toNat * 1)) (tr (au k)) (.e0 (v := .unk) (ws := [(1, .own ((f.set (EN (d + e)).toNat (aa .u32 ((wFu ((wFu ((wFu (gt f (EN (d + e)))) + (wFu ((wFu (gt a d)) * (wFu (gt b e)))))) + g)).tmod 1000000000))).flatMap iCu))]) (tr (iE (iy (cx (n := 1) (aI .u32) (aD k) (lbT rfl) (by omega : 0 + (EN (d + e)).toNat * 1 = (EN (d + e)).toNat * 1 + 0))) (congrArg Blk.own (cU (xs := [br (aa .u32 ((wFu ((wFu ((wFu (gt f (EN (d + e)))) + (wFu ((wFu (gt a d)) * (wFu (gt b e)))))) + g)).tmod 1000000000))]) (aI .u32) (aD k) (lbT rfl) (by omega : 0 + (EN (d + e)).toNat * 1 = (EN (d + e)).toNat * 1 + 0) (by kernel_rfl))))) (.mu 1 (.done (.pop (.ru G ?_))))))))))))))
     exact aA (f.set (EN (d + e)).toNat (aa .u32 ((wFu ((wFu ((wFu (gt f (EN (d + e)))) + (wFu ((wFu (gt a d)) * (wFu (gt b e)))))) + g)).tmod 1000000000)), wFu ((wFu ((wFu ((wFu (gt f (EN (d + e)))) + (wFu ((wFu (gt a d)) * (wFu (gt b e)))))) + g)).tdiv 1000000000), EN (e + 1)) hr ((Wk.iG 5 (b := 1) (es := 1) (len := f.length) (f.set (EN (d + e)).toNat (aa .u32 ((wFu ((wFu ((wFu (gt f (EN (d + e)))) + (wFu ((wFu (gt a d)) * (wFu (gt b e)))))) + g)).tmod 1000000000))).length (by kernel_rfl) (Eq.symm (List.length_set.trans rfl))).trans ((Wk.gc [1, 5, 6, 7, 8, 18, 19, 20, 25, 26, 27] [(0, false), (1, false)] rfl (pKo iCu (aE _) b (pKo iCu (aE _) (f.set (EN (d + e)).toNat (aa .u32 ((wFu ((wFu ((wFu (gt f (EN (d + e)))) + (wFu ((wFu (gt a d)) * (wFu (gt b e)))))) + g)).tmod 1000000000))) trivial))).to))
    refine .leave rfl ?_
    obtain rfl := oi hr
    exact ⟨rfl, ((Wk.gc [1, 5, 6, 8, 18, 19, 20] [(0, false), (1, false)] rfl (pKo iCu (aE _) b (pKo iCu (aE _) f trivial))).to)⟩
   rcases E with ⟨h, i⟩
   rintro x st' o
   clear y
   obtain ⟨rfl, o⟩ := o
   refine aV _ rfl (.wk o ?_)
   obtain ⟨p, hr⟩ := gd hr
   refine .r0 G (.mu 7 (.p0 (v := .hp 1 (0 + (EN (d + (b.length : Int))).toNat * 1)) (tr (au p)) (.e0 (v := .unk) (ws := [(1, .own ((h.set (EN (d + (b.length : Int))).toNat (aa .u32 i)).flatMap iCu))]) (tr (iE (iy (cx (n := 1) (aI .u32) (aD p) (lbT rfl) (by omega : 0 + (EN (d + (b.length : Int))).toNat * 1 = (EN (d + (b.length : Int))).toNat * 1 + 0))) (congrArg Blk.own (cU (xs := [br (aa .u32 i)]) (aI .u32) (aD p) (lbT rfl) (by omega : 0 + (EN (d + (b.length : Int))).toNat * 1 = (EN (d + (b.length : Int))).toNat * 1 + 0) (by kernel_rfl))))) (.done (.pop (.ru G ?_))))))
   exact aA (h.set (EN (d + (b.length : Int))).toNat (aa .u32 i), EN (d + 1)) hr ((Wk.iG 5 (b := 1) (es := 1) (len := h.length) (h.set (EN (d + (b.length : Int))).toNat (aa .u32 i)).length (by kernel_rfl) (Eq.symm (List.length_set.trans rfl))).trans ((Wk.gc [1, 5, 18, 19, 20] [(0, false), (1, false)] rfl (pKo iCu (aE _) b (pKo iCu (aE _) (h.set (EN (d + (b.length : Int))).toNat (aa .u32 i)) trivial))).to))
  refine .leave rfl ?_
  obtain rfl := oi hr
  exact ⟨rfl, ((Wk.gc [5] [(0, false), (1, false)] rfl (pKo iCu (aE _) b (pKo iCu (aE _) j trivial))).to)⟩
 rintro x st' q
 clear u
 obtain ⟨rfl, q⟩ := q
 refine aV _ rfl (.wk q (.seq ?_))
 obtain ⟨t, F, hr⟩ := bd hr
 refine .g1 G (cu (args := [.hs 1 0 l.length 1]) 1 0 [(1, false)] [false] (sF n l t F) (by exact ⟨aZ (aE _) _, trivial⟩) (by exact ⟨aZ (aE _) _, trivial⟩) rfl rfl (by kernel_rfl) (by kernel_rfl)) (.mu 1 (.ca cf0 (.mu 1 (.done (.nh [4] [.own (b.flatMap iCu), .own (t.flatMap iCu)] (.ret ?_))))))
 obtain rfl := oi hr
 exact ee.ret [.hs 1 0 t.length 1] ((Wk.gc [0] [(0, false), (1, false)] rfl (pKo iCu (aE _) b (pKo iCu (aE _) t trivial))).to)

theorem qk {g : List Int} {i : Int} {a : List Int} {b : Int} (h : ([slT iCu g, .at (.int .i64 i)] : List AV) = [slT iCu a, .at (.int .i64 b)]) : g = a /\ i = b := by
 simp only [List.cons.injEq, AV.agg.injEq, AV.at.injEq, Value.int.injEq, Value.bool.injEq, AV.fn.injEq, AV.pp.injEq, true_and, and_true, dY] at h
 simp_all
theorem vQ (n : Nat) {g : List Int} {i : Int} {a : List Int} {b : Int} (h : ([slT iCu g, .at (.int .i64 i)] : List AV) = [slT iCu a, .at (.int .i64 b)]) : gz n g i = gz n a b := by
 obtain ⟨rfl, rfl⟩ := qk h
 rfl
theorem lV (n : Nat) (g : List Int) (i : Int) (r : Int) (hr : gz n g i = some r) : aM Tryz.prog 203 [aC g, aj i] (br r) := by
 unfold gz at hr
 refine aM.bd G Tryz.func203 [.tmp 4] ?_
 unfold Tryz.f203
 simp only [gS]
 refine .seq (.r4 G [0, 1] [] (.seq (.seq (.r4 G [0, 1] [(8, aB (decide (i < (g.length : Int))))] ?_))))
 refine .cd hr ?_ ?_ <;> intro b hr
 ·refine .seq ?_
  obtain ⟨a, hr⟩ := gd hr
  refine .r0 G (.mu 2 (.p0 (v := .pp (g.flatMap iCu) (i.toNat * 1)) (tr (au a)) (.p0 (v := br (gt g i)) (tr (aH (aK (aI .u32) (aD a) z1 (by omega : i.toNat * 1 = i.toNat * 1 + 0) (by kernel_rfl)))) (.mu 1 (.done (.ret ?_))))))
  obtain rfl := oi hr
  exact aF.r1 [br (gt g i)]
 refine .skip (.seq (.ru G (.ret ?_)))
 obtain rfl := oi hr
 exact aF.r1 [br 0]

theorem pU (n : Nat) (a : List Int) (b : List Int) (r : List Int × List Int) (hr : iN n a b = some r) : aM Tryz.prog 202 [aC a, aC b] (.tup [aC r.1, aC r.2]) := by
 unfold iN at hr
 refine aM.bd G Tryz.func202 [.tmp 4, .tmp 5] ?_
 unfold Tryz.f202
 simp only [gS]
 refine .seq (.r4 G [0, 1] [] (.seq ?_))
 obtain ⟨vt, zQ, hr⟩ := gd2 hr
 refine .r0 G (.mu 4 (.p0 (v := .pp (b.flatMap iCu) ((EN ((b.length : Int) - 1)).toNat * 1)) (tr (au vt)) (.p0 (v := br (gt b (EN ((b.length : Int) - 1)))) (tr (aH (aK (aI .u32) (aD vt) z1 (by omega : (EN ((b.length : Int) - 1)).toNat * 1 = (EN ((b.length : Int) - 1)).toNat * 1 + 0) (by kernel_rfl)))) (.mu 2 (.p0 (v := cP (wFu ((1000000000 : Int).tdiv (wFu ((wFu (gt b (EN ((b.length : Int) - 1)))) + 1))))) (pD (x := 1000000000) (y := wFu ((wFu (gt b (EN ((b.length : Int) - 1)))) + 1)) (by kernel_rfl) (by kernel_rfl) zQ) (.mu 2 (.done (.nh [0, 1, 6] [] (.seq ?_)))))))))
 obtain ⟨Z, zi, hr⟩ := bd hr
 refine .gn G (ca4 [.own [br (aa .u32 (wFu ((1000000000 : Int).tdiv (wFu ((wFu (gt b (EN ((b.length : Int) - 1)))) + 1)))))]] (cu (args := [aC a, .hs 0 0 1 1]) 1 1 [(0, false)] [false, false] (m8 n a [aa .u32 (wFu ((1000000000 : Int).tdiv (wFu ((wFu (gt b (EN ((b.length : Int) - 1)))) + 1))))] Z zi) (by exact ⟨rfl, trivial⟩) (by exact ⟨aZ (aE _) _, ⟨aZ (aE _) _, trivial⟩⟩) rfl rfl (by kernel_rfl) (by kernel_rfl))) (.mu 3 (.ca cf0 (.mu 1 (.done (.nh [0, 1, 6, 7] [.own ([aa .u32 (wFu ((1000000000 : Int).tdiv (wFu ((wFu (gt b (EN ((b.length : Int) - 1)))) + 1))))].flatMap iCu), .own (Z.flatMap iCu)] (.seq ?_))))))
 obtain ⟨g, x7, hr⟩ := bd hr
 refine .gn G (ca4 [.own ([aa .u32 (wFu ((1000000000 : Int).tdiv (wFu ((wFu (gt b (EN ((b.length : Int) - 1)))) + 1))))].flatMap iCu), .own (Z.flatMap iCu), .own [br (aa .u32 (wFu ((1000000000 : Int).tdiv (wFu ((wFu (gt b (EN ((b.length : Int) - 1)))) + 1)))))]] (cu (args := [aC b, .hs 2 0 1 1]) 1 1 [(2, false)] [false, false] (m8 n b [aa .u32 (wFu ((1000000000 : Int).tdiv (wFu ((wFu (gt b (EN ((b.length : Int) - 1)))) + 1))))] g x7) (by exact ⟨rfl, trivial⟩) (by exact ⟨aZ (aE _) _, ⟨aZ (aE _) _, trivial⟩⟩) rfl rfl (by kernel_rfl) (by kernel_rfl))) (.mu 3 (.ca cf0 (.mu 1 (.done (.nh [0, 6, 7, 8] [.own ([aa .u32 (wFu ((1000000000 : Int).tdiv (wFu ((wFu (gt b (EN ((b.length : Int) - 1)))) + 1))))].flatMap iCu), .own (Z.flatMap iCu), .own ([aa .u32 (wFu ((1000000000 : Int).tdiv (wFu ((wFu (gt b (EN ((b.length : Int) - 1)))) + 1))))].flatMap iCu), .own (g.flatMap iCu)] (.seq (.r4 G [0, 6, 7, 8] [(9, aj (g.length : Int))] (.seq ?_))))))))
 obtain ⟨x9, zW, hr⟩ := gd2 hr
 refine .r0 G (.mu 2 (.e0 (v := .hs 5 0 (Z ++ [(0 : Int)]).length 1) (ws := [(1, .dead), (5, .own ((Z ++ [(0 : Int)]).flatMap iCu))]) (tr (eJ (new := [br 0]) (l := Z) (xs := [(0 : Int)]) (aI .u32) rfl rfl (by kernel_rfl) x9 zW)) (.mu 1 (.done (.nh [0, 6, 7, 8, 9] [.own ([aa .u32 (wFu ((1000000000 : Int).tdiv (wFu ((wFu (gt b (EN ((b.length : Int) - 1)))) + 1))))].flatMap iCu), .dead, .own ([aa .u32 (wFu ((1000000000 : Int).tdiv (wFu ((wFu (gt b (EN ((b.length : Int) - 1)))) + 1))))].flatMap iCu), .own (g.flatMap iCu), .own [br 0], .own ((Z ++ [(0 : Int)]).flatMap iCu)] (.seq (.seq (.r4 G [6, 7, 8, 9] [(50, aB (decide (((Z ++ [(0 : Int)]).length : Int) <= (a.length : Int))))] ?_))))))))
 replace hr := bd hr; obtain ⟨R, jX, hr⟩ := hr
 refine .xA (Q := fun x st' => x = .normal /\ Wk 0 st' ⟨mkS 266 0 [(6, br (aa .u32 (wFu ((1000000000 : Int).tdiv (wFu ((wFu (gt b (EN ((b.length : Int) - 1)))) + 1)))))), (7, .hs 0 0 R.length 1), (8, .hs 1 0 g.length 1), (9, aj (g.length : Int))], [.own (R.flatMap iCu), .own (g.flatMap iCu)]⟩) ?_ ?_
 ·clear hr
  have hr := jX
  clear jX
  refine .cd hr ?_ ?_ <;> intro CH hr
  ·obtain ⟨xI, yr, hr⟩ := gd2 hr
   refine .r0 G (.mu 2 (.e0 (v := .hs 7 0 ((Z ++ [(0 : Int)]) ++ [(0 : Int)]).length 1) (ws := [(5, .dead), (7, .own (((Z ++ [(0 : Int)]) ++ [(0 : Int)]).flatMap iCu))]) (tr (eJ (new := [br 0]) (l := Z ++ [(0 : Int)]) (xs := [(0 : Int)]) (aI .u32) rfl rfl (by kernel_rfl) xI yr)) (.mu 1 (.done ?_))))
   obtain rfl := oi hr
   exact ⟨rfl, ((Wk.gc [6, 7, 8, 9] [(7, false), (3, false)] rfl (pKo iCu (aE _) ((Z ++ [(0 : Int)]) ++ [(0 : Int)]) (pKo iCu (aE _) g trivial))).to)⟩
  refine .skip ?_
  obtain rfl := oi hr
  exact ⟨rfl, ((Wk.gc [6, 7, 8, 9] [(5, false), (3, false)] rfl (pKo iCu (aE _) (Z ++ [(0 : Int)]) (pKo iCu (aE _) g trivial))).to)⟩
 rintro x st' kB
 clear jX
 obtain ⟨rfl, kB⟩ := kB
 refine .wk kB (.seq ?_)
 obtain ⟨wi, zH, zt, hr⟩ := gd3 hr
 refine .r0 G (.mu 4 (.e0 (v := .hs 2 0 (List.replicate (EN ((R.length : Int) - (g.length : Int))).toNat ((0 : Int) : Int)).length 1) (ws := [(2, .own ((List.replicate (EN ((R.length : Int) - (g.length : Int))).toNat ((0 : Int) : Int)).flatMap iCu))]) (tr (mc (c := iCu) (z := (0 : Int)) (n := EN ((R.length : Int) - (g.length : Int))) (by_ := 4) rfl wi zH zt)) (.mu 1 (.done (.nh [4, 6, 7, 8, 9] [.own (R.flatMap iCu), .own (g.flatMap iCu), .own ((List.replicate (EN ((R.length : Int) - (g.length : Int))).toNat ((0 : Int) : Int)).flatMap iCu)] (.seq (.seq (.r4 G [4, 6, 7, 8, 9] [(10, aj (EN ((EN ((R.length : Int) - (g.length : Int))) - 1)))] (.block ?_)))))))))
 replace hr := bd hr; obtain ⟨nG, lH, hr⟩ := hr
 refine .aL (σ := fun z0 => match z0 with | (i, q, d) => ⟨mkS 266 0 [(4, .hs 0 0 i.length 1), (6, br (aa .u32 (wFu ((1000000000 : Int).tdiv (wFu ((wFu (gt b (EN ((b.length : Int) - 1)))) + 1)))))), (7, .hs 1 0 q.length 1), (8, .hs 2 0 g.length 1), (9, aj (g.length : Int)), (10, aj d)], [.own (i.flatMap iCu), .own (q.flatMap iCu), .own (g.flatMap iCu)]⟩) (Q := fun x st' => match (generalizing := false) nG with | (I, J) => x = .exit 0 /\ Wk 0 st' ⟨mkS 266 0 [(4, .hs 0 0 I.length 1), (6, br (aa .u32 (wFu ((1000000000 : Int).tdiv (wFu ((wFu (gt b (EN ((b.length : Int) - 1)))) + 1)))))), (7, .hs 1 0 J.length 1), (9, aj (g.length : Int))], [.own (I.flatMap iCu), .own (J.flatMap iCu)]⟩) lH ((Wk.gc [4, 6, 7, 8, 9, 10] [(2, false), (0, false), (1, false)] rfl (pKo iCu (aE _) (List.replicate (EN ((R.length : Int) - (g.length : Int))).toNat ((0 : Int) : Int)) (pKo iCu (aE _) R (pKo iCu (aE _) g trivial)))).to) ?_ ?_
 ·clear hr
  rintro m ⟨i, q, d⟩ hr
  show CQ _ _ _ _ _ ⟨_, _⟩
  refine .seq (.seq (.r4 G [4, 6, 7, 8, 9, 10] [(65, aB (decide (d >= 0)))] ?_))
  refine .cd hr ?_ ?_ <;> intro BI hr
  ·refine .skip (.seq (.block (.seq ?_)))
   obtain ⟨S, ua, hr⟩ := bd hr
   obtain ⟨l8, hr⟩ := gd hr
   refine .t1 G (fP (args := [.hs 1 0 q.length 1, aj (EN (d + (g.length : Int)))]) (l := [1]) rfl (SnL.cons (Sn.hs rfl (.inl rfl) (SnC.pure (aZ (aE _) _)) (fun h => cB h)) (Sp SnL.nil)) (lV n q (EN (d + (g.length : Int))) S ua)) (.mu 4 (.ca cf0 (.mu 7 (.pk (v := .hp 1 (0 + (EN ((EN (d + (g.length : Int))) - 1)).toNat * 1)) (tr (au l8)) (.pk (v := br (gt q (EN ((EN (d + (g.length : Int))) - 1)))) (tr (aH (aK (aI .u32) (aD l8) z1 (by omega : 0 + (EN ((EN (d + (g.length : Int))) - 1)).toNat * 1 = (EN ((EN (d + (g.length : Int))) - 1)).toNat * 1 + 0) (by kernel_rfl)))) (.mu 3 ?_))))))
   refine .done ⟨by kernel_rfl, ?_⟩
   refine .nh [4, 6, 7, 8, 9, 10, 11] [.own (i.flatMap iCu), .own (q.flatMap iCu), .own (g.flatMap iCu)] (.seq ?_)
   obtain ⟨C, lK, hr⟩ := gd2 hr
   refine .ei G bL (.mu 4 (.pk (v := .hp 2 (0 + (EN ((g.length : Int) - 1)).toNat * 1)) (tr (au C)) (.pk (v := br (gt g (EN ((g.length : Int) - 1)))) (tr (aH (aK (aI .u32) (aD C) z1 (by omega : 0 + (EN ((g.length : Int) - 1)).toNat * 1 = (EN ((g.length : Int) - 1)).toNat * 1 + 0) (by kernel_rfl)))) (.mu 1 (.pk (v := cP (wFu ((wFu ((wFu ((wFu S) * 1000000000)) + (wFu (gt q (EN ((EN (d + (g.length : Int))) - 1)))))).tdiv (wFu (gt g (EN ((g.length : Int) - 1))))))) (pD (x := wFu ((wFu ((wFu S) * 1000000000)) + (wFu (gt q (EN ((EN (d + (g.length : Int))) - 1)))))) (y := wFu (gt g (EN ((g.length : Int) - 1)))) (by kernel_rfl) (by kernel_rfl) lK) (.mu 4 (.pk (v := .hp 2 (0 + (EN ((g.length : Int) - 1)).toNat * 1)) (tr (au C)) (.pk (v := br (gt g (EN ((g.length : Int) - 1)))) (tr (aH (aK (aI .u32) (aD C) z1 (by omega : 0 + (EN ((g.length : Int) - 1)).toNat * 1 = (EN ((g.length : Int) - 1)).toNat * 1 + 0) (by kernel_rfl)))) (.mu 1 (.pk (v := cP ((wFu ((wFu ((wFu S) * 1000000000)) + (wFu (gt q (EN ((EN (d + (g.length : Int))) - 1)))))).tmod (wFu (gt g (EN ((g.length : Int) - 1)))))) (oa (x := wFu ((wFu ((wFu S) * 1000000000)) + (wFu (gt q (EN ((EN (d + (g.length : Int))) - 1)))))) (y := wFu (gt g (EN ((g.length : Int) - 1)))) (by kernel_rfl) (by kernel_rfl) lK) (.mu 2 ?_)))))))))))
   refine .done ⟨by kernel_rfl, ?_⟩
   refine .nh [4, 6, 7, 8, 9, 10, 12, 13] [.own (i.flatMap iCu), .own (q.flatMap iCu), .own (g.flatMap iCu)] (.seq (.block ?_))
   replace hr := bd hr; obtain ⟨j, mv, hr⟩ := hr
   refine .aL (σ := fun z0 => match z0 with | (L, M) => ⟨mkS 266 0 [(4, .hs 0 0 i.length 1), (6, br (aa .u32 (wFu ((1000000000 : Int).tdiv (wFu ((wFu (gt b (EN ((b.length : Int) - 1)))) + 1)))))), (7, .hs 1 0 q.length 1), (8, .hs 2 0 g.length 1), (9, aj (g.length : Int)), (10, aj d), (12, cP L), (13, cP M)], [.own (i.flatMap iCu), .own (q.flatMap iCu), .own (g.flatMap iCu)]⟩) (Q := fun x st' => x = .exit 2 /\ Wk 0 st' ⟨mkS 266 0 [(4, .hs 0 0 i.length 1), (6, br (aa .u32 (wFu ((1000000000 : Int).tdiv (wFu ((wFu (gt b (EN ((b.length : Int) - 1)))) + 1)))))), (7, .hs 1 0 q.length 1), (8, .hs 2 0 g.length 1), (9, aj (g.length : Int)), (10, aj d), (12, cP j)], [.own (i.flatMap iCu), .own (q.flatMap iCu), .own (g.flatMap iCu)]⟩) mv ((Wk.gc [4, 6, 7, 8, 9, 10, 12, 13] kF3 rfl (pKo iCu (aE _) i (pKo iCu (aE _) q (pKo iCu (aE _) g trivial)))).to) ?_ ?_
   ·clear hr
    rintro m ⟨L, M⟩ hr
    show CQ _ _ _ _ _ ⟨_, _⟩
    refine .seq (.seq ?_)
    rcases bT (decide (L >= 1000000000)) with N | N
    ·replace hr := b8 N hr
     refine .ei G bL (.mu 1 (.pk (v := aB true) (eB N) (.mu 22 ?_)))
     refine .done ⟨by kernel_rfl, ?_⟩
     refine .nh [4, 6, 7, 8, 9, 10, 12, 13, 123] [.own (i.flatMap iCu), .own (q.flatMap iCu), .own (g.flatMap iCu)] (.cT (by kernel_rfl) (.skip (.block (.seq (.r4 G [4, 6, 7, 8, 9, 10, 13] [(12, cP (wFu (L - 1)))] (.seq (.r0 G (.mu 4 (.p0 (v := .hp 2 (0 + (EN ((g.length : Int) - 1)).toNat * 1)) (tr (au C)) (.p0 (v := br (gt g (EN ((g.length : Int) - 1)))) (tr (aH (aK (aI .u32) (aD C) z1 (by omega : 0 + (EN ((g.length : Int) - 1)).toNat * 1 = (EN ((g.length : Int) - 1)).toNat * 1 + 0) (by kernel_rfl)))) (.mu 3 (.done (.nh [4, 6, 7, 8, 9, 10, 12, 13] [.own (i.flatMap iCu), .own (q.flatMap iCu), .own (g.flatMap iCu)] (.seq (.r4 G [4, 6, 7, 8, 9, 10, 12, 13] [(135, aB (decide ((wFu (M + (wFu (gt g (EN ((g.length : Int) - 1)))))) >= 1000000000)))] ?_)))))))))))))))
     refine .cd hr ?_ ?_ <;> intro Bz hr
     ·refine .leave rfl ?_
      obtain rfl := oi hr
      exact ⟨rfl, ((Wk.gc [4, 6, 7, 8, 9, 10, 12] kF3 rfl (pKo iCu (aE _) i (pKo iCu (aE _) q (pKo iCu (aE _) g trivial)))).to)⟩
     refine .skip (.pop ?_)
     exact aA (wFu (L - 1), wFu (M + (wFu (gt g (EN ((g.length : Int) - 1)))))) hr ((Wk.gc [4, 6, 7, 8, 9, 10, 12, 13] kF3 rfl (pKo iCu (aE _) i (pKo iCu (aE _) q (pKo iCu (aE _) g trivial)))).to)
    replace hr := bX N hr
    obtain ⟨mw, nC, hr⟩ := gd2 hr
    refine .ei G bL (.mu 1 (.pk (v := aB false) (eB N) (.mu 5 (.pk (v := .hp 2 (0 + (EN ((g.length : Int) - 2)).toNat * 1)) (tr (au mw)) (.pk (v := br (gt g (EN ((g.length : Int) - 2)))) (tr (aH (aK (aI .u32) (aD mw) z1 (by omega : 0 + (EN ((g.length : Int) - 2)).toNat * 1 = (EN ((g.length : Int) - 2)).toNat * 1 + 0) (by kernel_rfl)))) (.mu 9 (.pk (v := .hp 1 (0 + (EN ((EN (d + (g.length : Int))) - 2)).toNat * 1)) (tr (au nC)) (.pk (v := br (gt q (EN ((EN (d + (g.length : Int))) - 2)))) (tr (aH (aK (aI .u32) (aD nC) z1 (by omega : 0 + (EN ((EN (d + (g.length : Int))) - 2)).toNat * 1 = (EN ((EN (d + (g.length : Int))) - 2)).toNat * 1 + 0) (by kernel_rfl)))) (.mu 4 ?_)))))))))
    refine .done ⟨by kernel_rfl, ?_⟩
    refine .nh [4, 6, 7, 8, 9, 10, 12, 13, 123] [.own (i.flatMap iCu), .own (q.flatMap iCu), .own (g.flatMap iCu)] ?_
    refine .cd hr ?_ ?_ <;> intro AQ hr
    ·refine .skip (.block (.seq (.r4 G [4, 6, 7, 8, 9, 10, 13] [(12, cP (wFu (L - 1)))] (.seq (.r0 G (.mu 4 (.p0 (v := .hp 2 (0 + (EN ((g.length : Int) - 1)).toNat * 1)) (tr (au C)) (.p0 (v := br (gt g (EN ((g.length : Int) - 1)))) (tr (aH (aK (aI .u32) (aD C) z1 (by omega : 0 + (EN ((g.length : Int) - 1)).toNat * 1 = (EN ((g.length : Int) - 1)).toNat * 1 + 0) (by kernel_rfl)))) (.mu 3 (.done (.nh [4, 6, 7, 8, 9, 10, 12, 13] [.own (i.flatMap iCu), .own (q.flatMap iCu), .own (g.flatMap iCu)] (.seq (.r4 G [4, 6, 7, 8, 9, 10, 12, 13] [(135, aB (decide ((wFu (M + (wFu (gt g (EN ((g.length : Int) - 1)))))) >= 1000000000)))] ?_)))))))))))))
     refine .cd hr ?_ ?_ <;> intro Bk hr
     ·refine .leave rfl ?_
      obtain rfl := oi hr
      exact ⟨rfl, ((Wk.gc [4, 6, 7, 8, 9, 10, 12] kF3 rfl (pKo iCu (aE _) i (pKo iCu (aE _) q (pKo iCu (aE _) g trivial)))).to)⟩
     refine .skip (.pop ?_)
     exact aA (wFu (L - 1), wFu (M + (wFu (gt g (EN ((g.length : Int) - 1)))))) hr ((Wk.gc [4, 6, 7, 8, 9, 10, 12, 13] kF3 rfl (pKo iCu (aE _) i (pKo iCu (aE _) q (pKo iCu (aE _) g trivial)))).to)
    refine .leave rfl ?_
    obtain rfl := oi hr
    exact ⟨rfl, ((Wk.gc [4, 6, 7, 8, 9, 10, 12] kF3 rfl (pKo iCu (aE _) i (pKo iCu (aE _) q (pKo iCu (aE _) g trivial)))).to)⟩
   rintro x st' T
   clear mv
   obtain ⟨rfl, T⟩ := T
   refine aV _ rfl (.wk T (.seq (.r4 G [4, 6, 7, 8, 9, 10, 12] [(14, aj 0), (15, cP 0)] (.seq (.seq (.r4 G [4, 6, 7, 8, 9, 10, 12, 14, 15] [(136, aj (g.length : Int)), (137, aj 0)] (.block ?_)))))))
   replace hr := bd hr; obtain ⟨nK, nF, hr⟩ := hr
   refine .aL (σ := fun z0 => match z0 with | (k, u, s, e) => ⟨mkS 266 0 [(4, .hs 0 0 i.length 1), (6, br (aa .u32 (wFu ((1000000000 : Int).tdiv (wFu ((wFu (gt b (EN ((b.length : Int) - 1)))) + 1)))))), (7, .hs 1 0 k.length 1), (8, .hs 2 0 g.length 1), (9, aj (g.length : Int)), (10, aj d), (12, cP j), (14, aj u), (15, cP s), (136, aj (g.length : Int)), (137, aj e)], [.own (i.flatMap iCu), .own (k.flatMap iCu), .own (g.flatMap iCu)]⟩) (Q := fun x st' => match (generalizing := false) nK with | (o, w, A) => x = .exit 4 /\ Wk 0 st' ⟨mkS 266 0 [(4, .hs 0 0 i.length 1), (6, br (aa .u32 (wFu ((1000000000 : Int).tdiv (wFu ((wFu (gt b (EN ((b.length : Int) - 1)))) + 1)))))), (7, .hs 1 0 o.length 1), (8, .hs 2 0 g.length 1), (9, aj (g.length : Int)), (10, aj d), (12, cP j), (14, aj w), (15, cP A)], [.own (i.flatMap iCu), .own (o.flatMap iCu), .own (g.flatMap iCu)]⟩) nF ((Wk.gc [4, 6, 7, 8, 9, 10, 12, 14, 15, 136, 137] kF3 rfl (pKo iCu (aE _) i (pKo iCu (aE _) q (pKo iCu (aE _) g trivial)))).to) ?_ ?_
   ·clear hr
    rintro m ⟨k, u, s, e⟩ hr
    show CQ _ _ _ _ _ ⟨_, _⟩
    refine .seq (.r4 G [4, 6, 7, 8, 9, 10, 12, 14, 15, 136, 137] [(138, aB (decide (e < (g.length : Int))))] (.seq ?_))
    refine .cd hr ?_ ?_ <;> intro Bb hr
    ·refine .skip (.seq (.block (.seq (.r4 G [4, 6, 7, 8, 9, 10, 12, 14, 15, 136, 137] [(16, aj e)] (.seq ?_)))))
     obtain ⟨pL, hr⟩ := gd hr
     refine .r0 G (.mu 3 (.p0 (v := .hp 2 (0 + e.toNat * 1)) (tr (au pL)) (.p0 (v := br (gt g e)) (tr (aH (aK (aI .u32) (aD pL) z1 (by omega : 0 + e.toNat * 1 = e.toNat * 1 + 0) (by kernel_rfl)))) (.mu 5 (.done (.nh [4, 6, 7, 8, 9, 10, 12, 14, 16, 17, 136, 137] [.own (i.flatMap iCu), .own (k.flatMap iCu), .own (g.flatMap iCu)] (.seq (.r4 G [4, 6, 7, 8, 9, 10, 12, 14, 16, 17, 136, 137] [(15, cP (wFu ((wFu ((wFu (j * (wFu (gt g e)))) + s)).tdiv 1000000000)))] (.seq ?_)))))))))
     obtain ⟨D, hr⟩ := gd hr
     refine .r0 G (.mu 4 (.p0 (v := .hp 1 (0 + (EN (e + d)).toNat * 1)) (tr (au D)) (.p0 (v := br (gt k (EN (e + d)))) (tr (aH (aK (aI .u32) (aD D) z1 (by omega : 0 + (EN (e + d)).toNat * 1 = (EN (e + d)).toNat * 1 + 0) (by kernel_rfl)))) (.mu 8 (.done (.nh [4, 6, 7, 8, 9, 10, 12, 15, 16, 18, 136, 137] [.own (i.flatMap iCu), .own (k.flatMap iCu), .own (g.flatMap iCu)] (.seq (.r4 G [4, 6, 7, 8, 9, 10, 12, 15, 16, 18, 136, 137] [(14, aj 0)] (.seq (.seq (.r4 G [4, 6, 7, 8, 9, 10, 12, 14, 15, 16, 18, 136, 137] [(165, aB (decide ((EN ((EN ((EN (gt k (EN (e + d)))) - u)) - (EN ((wFu ((wFu (j * (wFu (gt g e)))) + s)).tmod 1000000000)))) < 0)))] ?_)))))))))))
     refine .cd hr ?_ ?_ <;> intro Bt hr
     ·refine .r4 G [4, 6, 7, 8, 9, 10, 12, 15, 16, 136, 137] [(14, aj 1), (18, aj (EN ((EN ((EN ((EN (gt k (EN (e + d)))) - u)) - (EN ((wFu ((wFu (j * (wFu (gt g e)))) + s)).tmod 1000000000)))) + 1000000000)))] (.r0 G (.mu 6 (.p0 (v := .hp 1 (0 + (EN (e + d)).toNat * 1)) (tr (au D)) (.e0 (v := .unk) (ws := [(1, .own ((k.set (EN (e + d)).toNat (aa .u32 (EN ((EN ((EN ((EN (gt k (EN (e + d)))) - u)) - (EN ((wFu ((wFu (j * (wFu (gt g e)))) + s)).tmod 1000000000)))) + 1000000000)))).flatMap iCu))]) (tr (iE (iy (cx (n := 1) (aI .u32) (aD D) (lbT rfl) (by omega : 0 + (EN (e + d)).toNat * 1 = (EN (e + d)).toNat * 1 + 0))) (congrArg Blk.own (cU (xs := [br (aa .u32 (EN ((EN ((EN ((EN (gt k (EN (e + d)))) - u)) - (EN ((wFu ((wFu (j * (wFu (gt g e)))) + s)).tmod 1000000000)))) + 1000000000)))]) (aI .u32) (aD D) (lbT rfl) (by omega : 0 + (EN (e + d)).toNat * 1 = (EN (e + d)).toNat * 1 + 0) (by kernel_rfl))))) (.done (.pop (.ru G ?_)))))))
      exact aA (k.set (EN (e + d)).toNat (aa .u32 (EN ((EN ((EN ((EN (gt k (EN (e + d)))) - u)) - (EN ((wFu ((wFu (j * (wFu (gt g e)))) + s)).tmod 1000000000)))) + 1000000000))), 1, wFu ((wFu ((wFu (j * (wFu (gt g e)))) + s)).tdiv 1000000000), EN (e + 1)) hr ((Wk.iG 7 (b := 1) (es := 1) (len := k.length) (k.set (EN (e + d)).toNat (aa .u32 (EN ((EN ((EN ((EN (gt k (EN (e + d)))) - u)) - (EN ((wFu ((wFu (j * (wFu (gt g e)))) + s)).tmod 1000000000)))) + 1000000000)))).length (by kernel_rfl) (Eq.symm (List.length_set.trans rfl))).trans ((Wk.gc [4, 6, 7, 8, 9, 10, 12, 14, 15, 136, 137] kF3 rfl (pKo iCu (aE _) i (pKo iCu (aE _) (k.set (EN (e + d)).toNat (aa .u32 (EN ((EN ((EN ((EN (gt k (EN (e + d)))) - u)) - (EN ((wFu ((wFu (j * (wFu (gt g e)))) + s)).tmod 1000000000)))) + 1000000000)))) (pKo iCu (aE _) g trivial)))).to))
     refine .skip (.r0 G (.mu 6 (.p0 (v := .hp 1 (0 + (EN (e + d)).toNat * 1)) (tr (au D)) (.e0 (v := .unk) (ws := [(1, .own ((k.set (EN (e + d)).toNat (aa .u32 (EN ((EN ((EN (gt k (EN (e + d)))) - u)) - (EN ((wFu ((wFu (j * (wFu (gt g e)))) + s)).tmod 1000000000)))))).flatMap iCu))]) (tr (iE (iy (cx (n := 1) (aI .u32) (aD D) (lbT rfl) (by omega : 0 + (EN (e + d)).toNat * 1 = (EN (e + d)).toNat * 1 + 0))) (congrArg Blk.own (cU (xs := [br (aa .u32 (EN ((EN ((EN (gt k (EN (e + d)))) - u)) - (EN ((wFu ((wFu (j * (wFu (gt g e)))) + s)).tmod 1000000000)))))]) (aI .u32) (aD D) (lbT rfl) (by omega : 0 + (EN (e + d)).toNat * 1 = (EN (e + d)).toNat * 1 + 0) (by kernel_rfl))))) (.done (.pop (.ru G ?_)))))))
     exact aA (k.set (EN (e + d)).toNat (aa .u32 (EN ((EN ((EN (gt k (EN (e + d)))) - u)) - (EN ((wFu ((wFu (j * (wFu (gt g e)))) + s)).tmod 1000000000))))), 0, wFu ((wFu ((wFu (j * (wFu (gt g e)))) + s)).tdiv 1000000000), EN (e + 1)) hr ((Wk.iG 7 (b := 1) (es := 1) (len := k.length) (k.set (EN (e + d)).toNat (aa .u32 (EN ((EN ((EN (gt k (EN (e + d)))) - u)) - (EN ((wFu ((wFu (j * (wFu (gt g e)))) + s)).tmod 1000000000)))))).length (by kernel_rfl) (Eq.symm (List.length_set.trans rfl))).trans ((Wk.gc [4, 6, 7, 8, 9, 10, 12, 14, 15, 136, 137] kF3 rfl (pKo iCu (aE _) i (pKo iCu (aE _) (k.set (EN (e + d)).toNat (aa .u32 (EN ((EN ((EN (gt k (EN (e + d)))) - u)) - (EN ((wFu ((wFu (j * (wFu (gt g e)))) + s)).tmod 1000000000)))))) (pKo iCu (aE _) g trivial)))).to))
    refine .leave rfl ?_
    obtain rfl := oi hr
    exact ⟨rfl, ((Wk.gc [4, 6, 7, 8, 9, 10, 12, 14, 15] kF3 rfl (pKo iCu (aE _) i (pKo iCu (aE _) k (pKo iCu (aE _) g trivial)))).to)⟩
   rcases nK with ⟨o, w, A⟩
   rintro x st' U
   clear nF
   obtain ⟨rfl, U⟩ := U
   refine aV _ rfl (.wk U (.seq ?_))
   obtain ⟨E, hr⟩ := gd hr
   refine .r0 G (.mu 4 (.p0 (v := .hp 1 (0 + (EN (d + (g.length : Int))).toNat * 1)) (tr (au E)) (.p0 (v := br (gt o (EN (d + (g.length : Int))))) (tr (aH (aK (aI .u32) (aD E) z1 (by omega : 0 + (EN (d + (g.length : Int))).toNat * 1 = (EN (d + (g.length : Int))).toNat * 1 + 0) (by kernel_rfl)))) (.mu 7 (.done (.nh [4, 6, 7, 8, 9, 10, 12, 19] [.own (i.flatMap iCu), .own (o.flatMap iCu), .own (g.flatMap iCu)] (.seq (.seq (.r4 G [4, 6, 7, 8, 9, 10, 12, 19] [(189, aB (decide ((EN ((EN ((EN (gt o (EN (d + (g.length : Int))))) - w)) - (EN A))) < 0)))] ?_)))))))))
   refine .cd hr ?_ ?_ <;> intro BP hr
   ·refine .seq (.r0 G (.mu 7 (.p0 (v := .hp 1 (0 + (EN (d + (g.length : Int))).toNat * 1)) (tr (au E)) (.e0 (v := .unk) (ws := [(1, .own ((o.set (EN (d + (g.length : Int))).toNat (aa .u32 (EN ((EN ((EN ((EN (gt o (EN (d + (g.length : Int))))) - w)) - (EN A))) + 1000000000)))).flatMap iCu))]) (tr (iE (iy (cx (n := 1) (aI .u32) (aD E) (lbT rfl) (by omega : 0 + (EN (d + (g.length : Int))).toNat * 1 = (EN (d + (g.length : Int))).toNat * 1 + 0))) (congrArg Blk.own (cU (xs := [br (aa .u32 (EN ((EN ((EN ((EN (gt o (EN (d + (g.length : Int))))) - w)) - (EN A))) + 1000000000)))]) (aI .u32) (aD E) (lbT rfl) (by omega : 0 + (EN (d + (g.length : Int))).toNat * 1 = (EN (d + (g.length : Int))).toNat * 1 + 0) (by kernel_rfl))))) (.done (.nh [4, 6, 7, 8, 9, 10, 12] [.own (i.flatMap iCu), .own ((o.set (EN (d + (g.length : Int))).toNat (aa .u32 (EN ((EN ((EN ((EN (gt o (EN (d + (g.length : Int))))) - w)) - (EN A))) + 1000000000)))).flatMap iCu), .own (g.flatMap iCu)] (.seq (.r4 G [4, 6, 7, 8, 9, 10] [(12, cP (wFu (j - 1)))] (.seq (.r4 G [4, 6, 7, 8, 9, 10, 12] [(20, br 0)] (.seq (.seq (.r4 G [4, 6, 7, 8, 9, 10, 12, 20] [(200, aj (g.length : Int)), (201, aj 0)] (.block ?_))))))))))))))
    replace hr := bd hr; obtain ⟨qE, kH, hr⟩ := hr
    refine .aL (σ := fun z0 => match z0 with | (p, B, f) => ⟨mkS 266 0 [(4, .hs 0 0 i.length 1), (6, br (aa .u32 (wFu ((1000000000 : Int).tdiv (wFu ((wFu (gt b (EN ((b.length : Int) - 1)))) + 1)))))), (7, .hs 1 0 p.length 1), (8, .hs 2 0 g.length 1), (9, aj (g.length : Int)), (10, aj d), (12, cP (wFu (j - 1))), (20, br B), (200, aj (g.length : Int)), (201, aj f)], [.own (i.flatMap iCu), .own (p.flatMap iCu), .own (g.flatMap iCu)]⟩) (Q := fun x st' => match (generalizing := false) qE with | (t, F) => x = .exit 6 /\ Wk 0 st' ⟨mkS 266 0 [(4, .hs 0 0 i.length 1), (6, br (aa .u32 (wFu ((1000000000 : Int).tdiv (wFu ((wFu (gt b (EN ((b.length : Int) - 1)))) + 1)))))), (7, .hs 1 0 t.length 1), (8, .hs 2 0 g.length 1), (9, aj (g.length : Int)), (10, aj d), (12, cP (wFu (j - 1))), (20, br F)], [.own (i.flatMap iCu), .own (t.flatMap iCu), .own (g.flatMap iCu)]⟩) kH ((Wk.iG 7 (b := 1) (es := 1) (len := o.length) (o.set (EN (d + (g.length : Int))).toNat (aa .u32 (EN ((EN ((EN ((EN (gt o (EN (d + (g.length : Int))))) - w)) - (EN A))) + 1000000000)))).length (by kernel_rfl) (Eq.symm (List.length_set.trans rfl))).trans ((Wk.gc [4, 6, 7, 8, 9, 10, 12, 20, 200, 201] kF3 rfl (pKo iCu (aE _) i (pKo iCu (aE _) (o.set (EN (d + (g.length : Int))).toNat (aa .u32 (EN ((EN ((EN ((EN (gt o (EN (d + (g.length : Int))))) - w)) - (EN A))) + 1000000000)))) (pKo iCu (aE _) g trivial)))).to)) ?_ ?_
    ·clear hr
     rintro m ⟨p, B, f⟩ hr
     show CQ _ _ _ _ _ ⟨_, _⟩
     refine .seq (.r4 G [4, 6, 7, 8, 9, 10, 12, 20, 200, 201] [(202, aB (decide (f < (g.length : Int))))] (.seq ?_))
     refine .cd hr ?_ ?_ <;> intro CS hr
     ·refine .skip (.seq (.block (.seq (.r4 G [4, 6, 7, 8, 9, 10, 12, 20, 200, 201] [(21, aj f)] (.seq ?_)))))
      obtain ⟨H, mN, hr⟩ := gd2 hr
      refine .ei G bL (.mu 4 (.pk (v := .hp 1 (0 + (EN (f + d)).toNat * 1)) (tr (au H)) (.pk (v := br (gt p (EN (f + d)))) (tr (aH (aK (aI .u32) (aD H) z1 (by omega : 0 + (EN (f + d)).toNat * 1 = (EN (f + d)).toNat * 1 + 0) (by kernel_rfl)))) (.mu 2 (.pk (v := .hp 2 (0 + f.toNat * 1)) (tr (au mN)) (.pk (v := br (gt g f)) (tr (aH (aK (aI .u32) (aD mN) z1 (by omega : 0 + f.toNat * 1 = f.toNat * 1 + 0) (by kernel_rfl)))) (.mu 4 ?_)))))))
      refine .done ⟨by kernel_rfl, ?_⟩
      refine .nh [4, 6, 7, 8, 9, 10, 12, 21, 22, 200, 201] [.own (i.flatMap iCu), .own (p.flatMap iCu), .own (g.flatMap iCu)] (.seq (.r4 G [4, 6, 7, 8, 9, 10, 12, 21, 22, 200, 201] [(20, br 0)] (.seq (.seq (.r4 G [4, 6, 7, 8, 9, 10, 12, 20, 21, 22, 200, 201] [(218, aB (decide ((aa .u32 ((aa .u32 ((gt p (EN (f + d))) + (gt g f))) + B)) >= 1000000000)))] ?_)))))
      refine .cd hr ?_ ?_ <;> intro CO hr
      ·refine .r4 G [4, 6, 7, 8, 9, 10, 12, 21, 200, 201] [(20, br 1), (22, br (aa .u32 ((aa .u32 ((aa .u32 ((gt p (EN (f + d))) + (gt g f))) + B)) - 1000000000)))] (.r0 G (.mu 5 (.p0 (v := .hp 1 (0 + (EN (f + d)).toNat * 1)) (tr (au H)) (.e0 (v := .unk) (ws := [(1, .own ((p.set (EN (f + d)).toNat (aa .u32 ((aa .u32 ((aa .u32 ((gt p (EN (f + d))) + (gt g f))) + B)) - 1000000000))).flatMap iCu))]) (tr (iE (iy (cx (n := 1) (aI .u32) (aD H) (lbT rfl) (by omega : 0 + (EN (f + d)).toNat * 1 = (EN (f + d)).toNat * 1 + 0))) (congrArg Blk.own (cU (xs := [br (aa .u32 ((aa .u32 ((aa .u32 ((gt p (EN (f + d))) + (gt g f))) + B)) - 1000000000))]) (aI .u32) (aD H) (lbT rfl) (by omega : 0 + (EN (f + d)).toNat * 1 = (EN (f + d)).toNat * 1 + 0) (by kernel_rfl))))) (.done (.pop (.ru G ?_)))))))
       exact aA (p.set (EN (f + d)).toNat (aa .u32 ((aa .u32 ((aa .u32 ((gt p (EN (f + d))) + (gt g f))) + B)) - 1000000000)), 1, EN (f + 1)) hr ((Wk.iG 7 (b := 1) (es := 1) (len := p.length) (p.set (EN (f + d)).toNat (aa .u32 ((aa .u32 ((aa .u32 ((gt p (EN (f + d))) + (gt g f))) + B)) - 1000000000))).length (by kernel_rfl) (Eq.symm (List.length_set.trans rfl))).trans ((Wk.gc [4, 6, 7, 8, 9, 10, 12, 20, 200, 201] kF3 rfl (pKo iCu (aE _) i (pKo iCu (aE _) (p.set (EN (f + d)).toNat (aa .u32 ((aa .u32 ((aa .u32 ((gt p (EN (f + d))) + (gt g f))) + B)) - 1000000000))) (pKo iCu (aE _) g trivial)))).to))
      refine .skip (.r0 G (.mu 5 (.p0 (v := .hp 1 (0 + (EN (f + d)).toNat * 1)) (tr (au H)) (.e0 (v := .unk) (ws := [(1, .own ((p.set (EN (f + d)).toNat (aa .u32 ((aa .u32 ((gt p (EN (f + d))) + (gt g f))) + B))).flatMap iCu))]) (tr (iE (iy (cx (n := 1) (aI .u32) (aD H) (lbT rfl) (by omega : 0 + (EN (f + d)).toNat * 1 = (EN (f + d)).toNat * 1 + 0))) (congrArg Blk.own (cU (xs := [br (aa .u32 ((aa .u32 ((gt p (EN (f + d))) + (gt g f))) + B))]) (aI .u32) (aD H) (lbT rfl) (by omega : 0 + (EN (f + d)).toNat * 1 = (EN (f + d)).toNat * 1 + 0) (by kernel_rfl))))) (.done (.pop (.ru G ?_)))))))
      exact aA (p.set (EN (f + d)).toNat (aa .u32 ((aa .u32 ((gt p (EN (f + d))) + (gt g f))) + B)), 0, EN (f + 1)) hr ((Wk.iG 7 (b := 1) (es := 1) (len := p.length) (p.set (EN (f + d)).toNat (aa .u32 ((aa .u32 ((gt p (EN (f + d))) + (gt g f))) + B))).length (by kernel_rfl) (Eq.symm (List.length_set.trans rfl))).trans ((Wk.gc [4, 6, 7, 8, 9, 10, 12, 20, 200, 201] kF3 rfl (pKo iCu (aE _) i (pKo iCu (aE _) (p.set (EN (f + d)).toNat (aa .u32 ((aa .u32 ((gt p (EN (f + d))) + (gt g f))) + B))) (pKo iCu (aE _) g trivial)))).to))
     refine .leave rfl ?_
     obtain rfl := oi hr
     exact ⟨rfl, ((Wk.gc [4, 6, 7, 8, 9, 10, 12, 20] kF3 rfl (pKo iCu (aE _) i (pKo iCu (aE _) p (pKo iCu (aE _) g trivial)))).to)⟩
    rcases qE with ⟨t, F⟩
    rintro x st' V
    clear kH
    obtain ⟨rfl, V⟩ := V
    refine aV _ rfl (.wk V ?_)
    obtain ⟨O, hr⟩ := gd hr
    refine .r0 G (.mu 8 (.p0 (v := .hp 1 (0 + (EN (d + (g.length : Int))).toNat * 1)) (tr (au O)) (.p0 (v := br (gt t (EN (d + (g.length : Int))))) (tr (aH (aK (aI .u32) (aD O) z1 (by omega : 0 + (EN (d + (g.length : Int))).toNat * 1 = (EN (d + (g.length : Int))).toNat * 1 + 0) (by kernel_rfl)))) (.mu 3 (.p0 (v := .hp 1 (0 + (EN (d + (g.length : Int))).toNat * 1)) (tr (au O)) (.e0 (v := .unk) (ws := [(1, .own ((t.set (EN (d + (g.length : Int))).toNat ((aa .u32 ((gt t (EN (d + (g.length : Int)))) + F)).tmod 1000000000)).flatMap iCu))]) (tr (iE (iy (cx (n := 1) (aI .u32) (aD O) (lbT rfl) (by omega : 0 + (EN (d + (g.length : Int))).toNat * 1 = (EN (d + (g.length : Int))).toNat * 1 + 0))) (congrArg Blk.own (cU (xs := [br ((aa .u32 ((gt t (EN (d + (g.length : Int)))) + F)).tmod 1000000000)]) (aI .u32) (aD O) (lbT rfl) (by omega : 0 + (EN (d + (g.length : Int))).toNat * 1 = (EN (d + (g.length : Int))).toNat * 1 + 0) (by kernel_rfl))))) (.done (.nh [4, 6, 7, 8, 9, 10, 12] [.own (i.flatMap iCu), .own ((t.set (EN (d + (g.length : Int))).toNat ((aa .u32 ((gt t (EN (d + (g.length : Int)))) + F)).tmod 1000000000)).flatMap iCu), .own (g.flatMap iCu)] ?_))))))))
    obtain ⟨W, hr⟩ := gd hr
    refine .r0 G (.mu 4 (.p0 (v := .hp 0 (0 + d.toNat * 1)) (tr (au W)) (.e0 (v := .unk) (ws := [(0, .own ((i.set d.toNat (aa .u32 (wFu (j - 1)))).flatMap iCu))]) (tr (iE (iy (cx (n := 1) (aI .u32) (aD W) (lbT rfl) (by omega : 0 + d.toNat * 1 = d.toNat * 1 + 0))) (congrArg Blk.own (cU (xs := [br (aa .u32 (wFu (j - 1)))]) (aI .u32) (aD W) (lbT rfl) (by omega : 0 + d.toNat * 1 = d.toNat * 1 + 0) (by kernel_rfl))))) (.done (.pop (.ru G ?_))))))
    exact aA (i.set d.toNat (aa .u32 (wFu (j - 1))), t.set (EN (d + (g.length : Int))).toNat ((aa .u32 ((gt t (EN (d + (g.length : Int)))) + F)).tmod 1000000000), EN (d - 1)) hr ((Wk.iG 4 (b := 0) (es := 1) (len := i.length) (i.set d.toNat (aa .u32 (wFu (j - 1)))).length (by kernel_rfl) (Eq.symm (List.length_set.trans rfl))).trans ((Wk.iG 7 (b := 1) (es := 1) (len := t.length) (t.set (EN (d + (g.length : Int))).toNat ((aa .u32 ((gt t (EN (d + (g.length : Int)))) + F)).tmod 1000000000)).length (by kernel_rfl) (Eq.symm (List.length_set.trans rfl))).trans ((Wk.gc [4, 6, 7, 8, 9, 10] kF3 rfl (pKo iCu (aE _) (i.set d.toNat (aa .u32 (wFu (j - 1)))) (pKo iCu (aE _) (t.set (EN (d + (g.length : Int))).toNat ((aa .u32 ((gt t (EN (d + (g.length : Int)))) + F)).tmod 1000000000)) (pKo iCu (aE _) g trivial)))).to)))
   refine .r0 G (.mu 6 (.p0 (v := .hp 1 (0 + (EN (d + (g.length : Int))).toNat * 1)) (tr (au E)) (.e0 (v := .unk) (ws := [(1, .own ((o.set (EN (d + (g.length : Int))).toNat (aa .u32 (EN ((EN ((EN (gt o (EN (d + (g.length : Int))))) - w)) - (EN A))))).flatMap iCu))]) (tr (iE (iy (cx (n := 1) (aI .u32) (aD E) (lbT rfl) (by omega : 0 + (EN (d + (g.length : Int))).toNat * 1 = (EN (d + (g.length : Int))).toNat * 1 + 0))) (congrArg Blk.own (cU (xs := [br (aa .u32 (EN ((EN ((EN (gt o (EN (d + (g.length : Int))))) - w)) - (EN A))))]) (aI .u32) (aD E) (lbT rfl) (by omega : 0 + (EN (d + (g.length : Int))).toNat * 1 = (EN (d + (g.length : Int))).toNat * 1 + 0) (by kernel_rfl))))) (.done (.nh [4, 6, 7, 8, 9, 10, 12] [.own (i.flatMap iCu), .own ((o.set (EN (d + (g.length : Int))).toNat (aa .u32 (EN ((EN ((EN (gt o (EN (d + (g.length : Int))))) - w)) - (EN A))))).flatMap iCu), .own (g.flatMap iCu)] ?_)))))
   obtain ⟨X, hr⟩ := gd hr
   refine .r0 G (.mu 4 (.p0 (v := .hp 0 (0 + d.toNat * 1)) (tr (au X)) (.e0 (v := .unk) (ws := [(0, .own ((i.set d.toNat (aa .u32 j)).flatMap iCu))]) (tr (iE (iy (cx (n := 1) (aI .u32) (aD X) (lbT rfl) (by omega : 0 + d.toNat * 1 = d.toNat * 1 + 0))) (congrArg Blk.own (cU (xs := [br (aa .u32 j)]) (aI .u32) (aD X) (lbT rfl) (by omega : 0 + d.toNat * 1 = d.toNat * 1 + 0) (by kernel_rfl))))) (.done (.pop (.ru G ?_))))))
   exact aA (i.set d.toNat (aa .u32 j), o.set (EN (d + (g.length : Int))).toNat (aa .u32 (EN ((EN ((EN (gt o (EN (d + (g.length : Int))))) - w)) - (EN A)))), EN (d - 1)) hr ((Wk.iG 4 (b := 0) (es := 1) (len := i.length) (i.set d.toNat (aa .u32 j)).length (by kernel_rfl) (Eq.symm (List.length_set.trans rfl))).trans ((Wk.iG 7 (b := 1) (es := 1) (len := o.length) (o.set (EN (d + (g.length : Int))).toNat (aa .u32 (EN ((EN ((EN (gt o (EN (d + (g.length : Int))))) - w)) - (EN A))))).length (by kernel_rfl) (Eq.symm (List.length_set.trans rfl))).trans ((Wk.gc [4, 6, 7, 8, 9, 10] kF3 rfl (pKo iCu (aE _) (i.set d.toNat (aa .u32 j)) (pKo iCu (aE _) (o.set (EN (d + (g.length : Int))).toNat (aa .u32 (EN ((EN ((EN (gt o (EN (d + (g.length : Int))))) - w)) - (EN A))))) (pKo iCu (aE _) g trivial)))).to)))
  refine .leave rfl ?_
  obtain rfl := oi hr
  exact ⟨rfl, ((Wk.gc [4, 6, 7, 9] [(0, false), (1, false)] rfl (pKo iCu (aE _) i (pKo iCu (aE _) q trivial))).to)⟩
 rcases nG with ⟨I, J⟩
 rintro x st' Y
 clear lH
 obtain ⟨rfl, Y⟩ := Y
 refine aV _ rfl (.wk Y (.seq ?_))
 obtain ⟨mM, hr⟩ := gd hr
 obtain ⟨qG, vC, r9, wm, hr⟩ := bd2 hr
 refine .gn G (ca1 (cK (args := [.hs 1 0 (g.length : Int).toNat 1]) (l := [1]) (SnL.cons (Sn.hsk (aI _) (aE _) (qb mM) rfl (.inl rfl)) SnL.nil) (gL n (J.take (g.length : Int).toNat) qG vC)) (ca4 [.own (I.flatMap iCu), .fix (J.flatMap iCu)] (ok0 (lQ n qG (aa .u32 (wFu ((1000000000 : Int).tdiv (wFu ((wFu (gt b (EN ((b.length : Int) - 1)))) + 1))))) r9 wm)))) (.mu 2 (.p0 (v := .hs 1 0 (g.length : Int).toNat 1) (tr (y := slH (inS 0 (g.length : Int) J.length) true ((0 : Int).toNat) ((g.length : Int).toNat) (fun z1 z2 => .hs 1 (0 + z1 * 1) (z2 - z1) 1)) (AL mM (by kernel_rfl))) (.ca cf0 (.mu 1 (.ca (cfF cf0) (.mu 4 (.done (.nh [4, 5] [.own (I.flatMap iCu), .fix (J.flatMap iCu)] (.seq ?_)))))))))
 obtain ⟨sI, wF, hr⟩ := bd hr
 refine .g1 G (cK (args := [.hs 0 0 I.length 1]) (l := [0]) (SnL.cons (Sn.hs rfl (.inl rfl) (SnC.pure (aZ (aE _) _)) (fun h => cB h)) SnL.nil) (gL n I sI wF)) (.mu 1 (.ca cf0 (.mu 3 (.done (.ret ?_)))))
 obtain rfl := oi hr
 exact aF.ret (vs := [aC sI, aC r9.1]) (by kernel_rfl) (Sn.tup (Sp (Sp SnL.nil)))

theorem mD (n : Nat) (a : List Int) (b : List Int) (r : List Int × List Int) (hr : hS n a b = some r) : aM Tryz.prog 182 [aC a, aC b] (.tup [aC r.1, aC r.2]) := by
 unfold hS at hr
 refine aM.bd G Tryz.func182 [.tmp 4, .tmp 5] ?_
 unfold Tryz.f182
 simp only [gS]
 refine .seq (.r4 G [0, 1] [] (.seq (.seq ?_)))
 obtain ⟨L, E, hr⟩ := bd hr
 refine .g1 G (ok0 (kj n a b L E)) (.mu 2 (.ca cf0 (.mu 1 (.done (.nh [0, 1, 15] [] ?_)))))
 refine .cd hr ?_ ?_ <;> intro M hr
 ·refine .seq (.r3 G 59 [(4, nS), (5, aC a)] (.ret ?_))
  obtain rfl := oi hr
  exact aF.ret (vs := [nS, aC a]) (by kernel_rfl) (Sn.tup (SnL.cons Sn.dB (Sp SnL.nil)))
 refine .skip (.seq ?_)
 obtain ⟨d, F, hr⟩ := bd hr
 refine .g1 G (ok0 (kh n a d F)) (.mu 1 (.ca cf0 (.mu 5 (.done (.nh [0, 1, 6, 7] [] (.seq ?_))))))
 obtain ⟨k, H, hr⟩ := bd hr
 refine .g1 G (ok0 (kh n b k H)) (.mu 1 (.ca cf0 (.mu 5 (.done (.nh [0, 1, 6, 7, 8, 9] [] (.seq (.seq ?_)))))))
 rcases bT d.2 with c | c
 ·replace hr := b8 c hr
  refine .r0 G (.p0 (v := aB true) (eB c) (.mu 3 (.done (.nh [0, 1, 6, 8, 30] [] ?_))))
  refine .cd hr ?_ ?_ <;> intro N hr
  ·refine .seq ?_
   obtain ⟨e, hr⟩ := gd hr
   obtain ⟨q, f, s, g, hr⟩ := bd2 hr
   refine .tn G (ca1 (ok0 (fk n (wFu (d.1.tdiv k.1)) q f)) (ca3 (ok0 (fk n (d.1.tmod k.1) s g)))) (.mu 2 (.pk (v := cP (wFu (d.1.tdiv k.1))) (pD (x := d.1) (y := k.1) (by kernel_rfl) (by kernel_rfl) e) (.ca cf0 (.mu 2 (.pk (v := cP (d.1.tmod k.1)) (oa (x := d.1) (y := k.1) (by kernel_rfl) (by kernel_rfl) e) (.ca (cfA (fun h => by rw [sv g f (tW n h)]) cf0) (.mu 2 ?_)))))))
   refine .done ⟨by kernel_rfl, ?_⟩
   refine .ret ?_
   obtain rfl := oi hr
   exact aF.ret (vs := [aC q, aC s]) (by kernel_rfl) (Sn.tup (Sp (Sp SnL.nil)))
  refine .skip (.seq (.seq (.r4 G [0, 1] [(41, aB (((b.length : Int) : Int) == 1))] ?_)))
  refine .cd hr ?_ ?_ <;> intro I hr
  ·refine .seq ?_
   obtain ⟨i, hr⟩ := gd hr
   obtain ⟨l, t, hr⟩ := bd hr
   refine .g1 G (ok0 (lQ n a (gt b 0) l t)) (.mu 2 (.p0 (v := .pp (b.flatMap iCu) ((0 : Int).toNat * 1)) (tr (au i)) (.p0 (v := br (gt b 0)) (tr (aH (aK (aI .u32) (aD i) z1 (by omega : (0 : Int).toNat * 1 = (0 : Int).toNat * 1 + 0) (by kernel_rfl)))) (.ca cf0 (.mu 5 (.done (.nh [10, 11] [] (.seq ?_))))))))
   obtain ⟨u, w, hr⟩ := bd hr
   refine .g1 G (ok0 (fk n (wFu l.2) u w)) (.mu 3 (.ca cf0 (.mu 2 (.done (.ret ?_)))))
   obtain rfl := oi hr
   exact aF.ret (vs := [aC l.1, aC u]) (by kernel_rfl) (Sn.tup (Sp (Sp SnL.nil)))
  refine .skip (.seq ?_)
  obtain ⟨m, z, hr⟩ := bd hr
  refine .g1 G (ok0 (pU n a b m z)) (.mu 2 (.ca cf0 (.mu 4 (.done (.ret ?_)))))
  obtain rfl := oi hr
  exact aF.ret (vs := [aC m.1, aC m.2]) (by kernel_rfl) (Sn.tup (Sp (Sp SnL.nil)))
 replace hr := bX c hr
 refine .r0 G (.p0 (v := aB false) (eB c) (.mu 3 (.done (.nh [0, 1, 6, 8, 30] [] (.cF (by kernel_rfl) (.skip (.seq (.seq (.r4 G [0, 1] [(41, aB (((b.length : Int) : Int) == 1))] ?_)))))))))
 refine .cd hr ?_ ?_ <;> intro J hr
 ·refine .seq ?_
  obtain ⟨j, hr⟩ := gd hr
  obtain ⟨o, A, hr⟩ := bd hr
  refine .g1 G (ok0 (lQ n a (gt b 0) o A)) (.mu 2 (.p0 (v := .pp (b.flatMap iCu) ((0 : Int).toNat * 1)) (tr (au j)) (.p0 (v := br (gt b 0)) (tr (aH (aK (aI .u32) (aD j) z1 (by omega : (0 : Int).toNat * 1 = (0 : Int).toNat * 1 + 0) (by kernel_rfl)))) (.ca cf0 (.mu 5 (.done (.nh [10, 11] [] (.seq ?_))))))))
  obtain ⟨B, C, hr⟩ := bd hr
  refine .g1 G (ok0 (fk n (wFu o.2) B C)) (.mu 3 (.ca cf0 (.mu 2 (.done (.ret ?_)))))
  obtain rfl := oi hr
  exact aF.ret (vs := [aC o.1, aC B]) (by kernel_rfl) (Sn.tup (Sp (Sp SnL.nil)))
 refine .skip (.seq ?_)
 obtain ⟨p, D, hr⟩ := bd hr
 refine .g1 G (ok0 (pU n a b p D)) (.mu 2 (.ca cf0 (.mu 4 (.done (.ret ?_)))))
 obtain rfl := oi hr
 exact aF.ret (vs := [aC p.1, aC p.2]) (by kernel_rfl) (Sn.tup (Sp (Sp SnL.nil)))

theorem nm (n : Nat) (s : ai) (y : ai) (r : ai) (hr : hZ n s y = some r) : aM Tryz.prog 145 [.agg (ai.c s), .agg (ai.c y)] (.agg (ai.c r)) := by
 unfold hZ at hr
 refine aM.bd G Tryz.func145 [.cell 4 40] ?_
 unfold Tryz.f145
 simp only [gS]
 refine .seq (.r2 G 54 [(2, .hp 0 0), (3, .hp 1 0), (4, .hp 2 0)] [.own (ai.c s), .own (ai.c y), .own [aB false, nS]] (.seq ?_))
 obtain ⟨W, t, X, u, hr⟩ := bd2 hr
 refine .tn G (ca1 (ok0 (cy n s W t)) (ca3 (ok0 (cy n y X u)))) (.mu 1 (.ca cf0 (.mu 1 (.ca (cfA (fun h => by rw [sv u t (gT n h)]) cf0) (.mu 2 ?_)))))
 refine .done ⟨by kernel_rfl, ?_⟩
 refine .nh [4, 5, 6] [.own (ai.c s), .own (ai.c y), .own [aB false, nS]] (.seq (.block ?_))
 replace hr := bd hr; obtain ⟨w, g, hr⟩ := hr
 refine .aL (σ := fun R => match R with | (i, d) => ⟨mkS 54 0 [(4, .hp 0 0), (5, aC i), (6, aC d)], [.own [aB false, nS]]⟩) (Q := fun x st' => match (generalizing := false) w with | .inl j => x = .exit 0 /\ Wk 0 st' ⟨mkS 54 0 [(4, .hp 0 0), (5, aC j)], [.own [aB false, nS]]⟩ | .inr (r0) => x = .ret /\ aF Tryz.prog [.cell 4 40] (.agg (ai.c r0)) .ret st') g ((Wk.gc [4, 5, 6] [(2, true)] rfl trivial).to) ?_ ?_
 ·clear hr
  rintro m ⟨i, d⟩ hr
  show CQ _ _ _ _ _ ⟨_, _⟩
  refine .seq (.seq (.r4 G [4, 5, 6] [(19, aB (decide ((d.length : Int) > 0)))] ?_))
  refine .cd hr ?_ ?_ <;> intro T hr
  ·refine .skip (.block (.seq ?_))
   obtain ⟨z, A, hr⟩ := bd hr
   refine .g1 G (ok0 (kh n i z A)) (.mu 1 (.ca cf0 (.mu 5 (.done (.nh [4, 5, 6, 7, 8] [.own [aB false, nS]] (.seq ?_))))))
   obtain ⟨S, B, hr⟩ := bd hr
   refine .g1 G (ok0 (kh n d S B)) (.mu 1 (.ca cf0 (.mu 5 (.done (.nh [4, 5, 6, 7, 8, 9, 10] [.own [aB false, nS]] (.seq (.seq ?_)))))))
   rcases bT z.2 with e | e
   ·replace hr := b8 e hr
    refine .r0 G (.p0 (v := aB true) (eB e) (.mu 3 (.done (.nh [4, 5, 6, 7, 9, 33] [.own [aB false, nS]] ?_))))
    refine .cd hr ?_ ?_ <;> intro U hr
    ·refine .seq (.block ?_)
     replace hr := bd hr; obtain ⟨l, o, hr⟩ := hr
     refine .aL (σ := fun R => match R with | (f, a) => ⟨mkS 54 0 [(4, .hp 0 0), (7, cP f), (9, cP a)], [.own [aB false, nS]]⟩) (Q := fun x st' => x = .exit 2 /\ Wk 0 st' ⟨mkS 54 0 [(4, .hp 0 0), (7, cP l)], [.own [aB false, nS]]⟩) o ((Wk.gc [4, 7, 9] [(0, true)] rfl trivial).to) ?_ ?_
     ·clear hr
      rintro m ⟨f, a⟩ hr
      show CQ _ _ _ _ _ ⟨_, _⟩
      refine .seq (.seq (.r4 G [4, 7, 9] [(35, aB (decide (a > 0)))] ?_))
      refine .cd hr ?_ ?_ <;> intro V hr
      ·refine .skip (.block ?_)
       obtain ⟨C, hr⟩ := gd hr
       refine .ei G bL (.mu 3 (.pk (v := cP (f.tmod a)) (oa (x := f) (y := a) (by kernel_rfl) (by kernel_rfl) C) (.mu 2 ?_)))
       refine .done ⟨by kernel_rfl, ?_⟩
       refine .pop ?_
       exact aA (a, f.tmod a) hr ((Wk.gc [4, 7, 9] [(0, true)] rfl trivial).to)
      refine .leave rfl ?_
      obtain rfl := oi hr
      exact ⟨rfl, ((Wk.gc [4, 7] [(0, true)] rfl trivial).to)⟩
     rintro x st' k
     clear o
     obtain ⟨rfl, k⟩ := k
     refine aV _ rfl (.wk k (.seq ?_))
     obtain ⟨D, E, p, F, hr⟩ := bd2 hr
     refine .gn G (ca1 (ok0 (fk n l D E)) (ca3 (ok0 (cg n false D p F)))) (.mu 1 (.ca cf0 (.ca (cfF cf0) (.mu 1 (.done (.nh [4] [.own (ai.c p)] (.ret ?_)))))))
     obtain rfl := oi hr
     exact ⟨rfl, aF.ret (vs := [.agg (ai.c p)]) (by kernel_rfl) (Sn.pure rfl)⟩
    refine .skip (.seq ?_)
    obtain ⟨H, I, hr⟩ := bd hr
    refine .g1 G (ok0 (mD n i d H I)) (.mu 2 (.ca cf0 (.mu 5 (.done (.nh [4, 6, 12] [.own [aB false, nS]] (.ru G (.pop ?_)))))))
    exact aA (d, H.2) hr ((Wk.gc [4, 5, 6] [(0, true)] rfl trivial).to)
   replace hr := bX e hr
   refine .r0 G (.p0 (v := aB false) (eB e) (.mu 3 (.done (.nh [4, 5, 6, 7, 9, 33] [.own [aB false, nS]] (.cF (by kernel_rfl) (.skip (.seq ?_)))))))
   obtain ⟨J, L, hr⟩ := bd hr
   refine .g1 G (ok0 (mD n i d J L)) (.mu 2 (.ca cf0 (.mu 5 (.done (.nh [4, 6, 12] [.own [aB false, nS]] (.ru G (.pop ?_)))))))
   exact aA (d, J.2) hr ((Wk.gc [4, 5, 6] [(0, true)] rfl trivial).to)
  refine .leave rfl ?_
  obtain rfl := oi hr
  exact ⟨rfl, ((Wk.gc [4, 5] [(0, true)] rfl trivial).to)⟩
 rcases w with j | r0
 ·rintro x st' b
  clear g
  obtain ⟨rfl, b⟩ := b
  refine aV _ rfl (.wk b (.seq ?_))
  obtain ⟨M, N, q, O, hr⟩ := bd2 hr
  refine .gn G (ca1 (ok0 (fD n j M N)) (ca3 (ok0 (cg n false M q O)))) (.mu 1 (.ca cf0 (.ca (cfF cf0) (.mu 1 (.done (.nh [4] [.own (ai.c q)] (.ret ?_)))))))
  obtain rfl := oi hr
  exact aF.r1 [.agg (ai.c q)]
 rintro x st' b
 clear g
 obtain ⟨rfl, b⟩ := b
 obtain rfl := oi hr
 exact gw _ b

theorem pV (n : Nat) (a : List Int) (b : List Int) (r : List Int) (hr : jV n a b = some r) : aM Tryz.prog 191 [aC a, aC b] (aC r) := by
 unfold jV at hr
 refine aM.bd G Tryz.func191 [.tmp 4] ?_
 unfold Tryz.f191
 simp only [gS]
 refine .seq (.r4 G [0, 1] [] (.seq ?_))
 obtain ⟨y, A, B, hr⟩ := gd3 hr
 refine .r0 G (.mu 6 (.e0 (v := .hs 0 0 (List.replicate (EN ((mx (a.length : Int) (b.length : Int)) + 1)).toNat ((0 : Int) : Int)).length 1) (ws := [(0, .own ((List.replicate (EN ((mx (a.length : Int) (b.length : Int)) + 1)).toNat ((0 : Int) : Int)).flatMap iCu))]) (tr (mc (c := iCu) (z := (0 : Int)) (n := EN ((mx (a.length : Int) (b.length : Int)) + 1)) (by_ := 4) rfl y A B)) (.mu 1 (.done (.nh [0, 1, 5] [.own ((List.replicate (EN ((mx (a.length : Int) (b.length : Int)) + 1)).toNat ((0 : Int) : Int)).flatMap iCu)] (.seq (.r4 G [0, 1, 5] [(6, br 0)] (.seq (.seq (.r4 G [0, 1, 5, 6] [(17, aj ((List.replicate (EN ((mx (a.length : Int) (b.length : Int)) + 1)).toNat ((0 : Int) : Int)).length : Int)), (18, aj 0)] (.block ?_)))))))))))
 replace hr := bd hr; obtain ⟨j, q, hr⟩ := hr
 refine .aL (σ := fun E => match E with | (e, f, d) => ⟨mkS 41 0 [(0, aC a), (1, aC b), (5, .hs 0 0 e.length 1), (6, br f), (17, aj ((List.replicate (EN ((mx (a.length : Int) (b.length : Int)) + 1)).toNat ((0 : Int) : Int)).length : Int)), (18, aj d)], [.own (e.flatMap iCu)]⟩) (Q := fun x st' => x = .exit 0 /\ Wk 0 st' ⟨mkS 41 0 [(5, .hs 0 0 j.length 1)], [.own (j.flatMap iCu)]⟩) q ((Wk.gc [0, 1, 5, 6, 17, 18] [(0, false)] rfl (pKo iCu (aE _) (List.replicate (EN ((mx (a.length : Int) (b.length : Int)) + 1)).toNat ((0 : Int) : Int)) trivial)).to) ?_ ?_
 ·clear hr
  rintro m ⟨e, f, d⟩ hr
  show CQ _ _ _ _ _ ⟨_, _⟩
  refine .seq (.r4 G [0, 1, 5, 6, 17, 18] [(19, aB (decide (d < ((List.replicate (EN ((mx (a.length : Int) (b.length : Int)) + 1)).toNat ((0 : Int) : Int)).length : Int))))] (.seq ?_))
  refine .cd hr ?_ ?_ <;> intro C hr
  ·refine .skip (.seq (.block (.seq (.r4 G [0, 1, 5, 6, 17, 18] [(7, aj d)] (.seq ?_)))))
   obtain ⟨g, s, i, t, hr⟩ := bd2 hr
   refine .gn G (ca1 (ok0 (lV n a d g s)) (ca3 (ok0 (lV n b d i t)))) (.mu 2 (.ca cf0 (.mu 2 (.ca (cfA (fun h => by rw [sv t s (vQ n h)]) cf0) (.mu 4 (.done (.nh [0, 1, 5, 7, 8, 17, 18] [.own (e.flatMap iCu)] (.seq (.r4 G [0, 1, 5, 7, 8, 17, 18] [(6, br 0)] (.seq (.seq (.r4 G [0, 1, 5, 6, 7, 8, 17, 18] [(31, aB (decide ((aa .u32 ((aa .u32 (g + i)) + f)) >= 1000000000)))] ?_))))))))))))
   refine .cd hr ?_ ?_ <;> intro D hr
   ·refine .r4 G [0, 1, 5, 7, 17, 18] [(6, br 1), (8, br (aa .u32 ((aa .u32 ((aa .u32 (g + i)) + f)) - 1000000000)))] ?_
    obtain ⟨k, hr⟩ := gd hr
    refine .r0 G (.mu 3 (.p0 (v := .hp 0 (0 + d.toNat * 1)) (tr (au k)) (.e0 (v := .unk) (ws := [(0, .own ((e.set d.toNat (aa .u32 ((aa .u32 ((aa .u32 (g + i)) + f)) - 1000000000))).flatMap iCu))]) (tr (iE (iy (cx (n := 1) (aI .u32) (aD k) (lbT rfl) (by omega : 0 + d.toNat * 1 = d.toNat * 1 + 0))) (congrArg Blk.own (cU (xs := [br (aa .u32 ((aa .u32 ((aa .u32 (g + i)) + f)) - 1000000000))]) (aI .u32) (aD k) (lbT rfl) (by omega : 0 + d.toNat * 1 = d.toNat * 1 + 0) (by kernel_rfl))))) (.done (.pop (.ru G ?_))))))
    exact aA (e.set d.toNat (aa .u32 ((aa .u32 ((aa .u32 (g + i)) + f)) - 1000000000)), 1, EN (d + 1)) hr ((Wk.iG 5 (b := 0) (es := 1) (len := e.length) (e.set d.toNat (aa .u32 ((aa .u32 ((aa .u32 (g + i)) + f)) - 1000000000))).length (by kernel_rfl) (Eq.symm (List.length_set.trans rfl))).trans ((Wk.gc [0, 1, 5, 6, 17, 18] [(0, false)] rfl (pKo iCu (aE _) (e.set d.toNat (aa .u32 ((aa .u32 ((aa .u32 (g + i)) + f)) - 1000000000))) trivial)).to))
   refine .skip ?_
   obtain ⟨o, hr⟩ := gd hr
   refine .r0 G (.mu 3 (.p0 (v := .hp 0 (0 + d.toNat * 1)) (tr (au o)) (.e0 (v := .unk) (ws := [(0, .own ((e.set d.toNat (aa .u32 ((aa .u32 (g + i)) + f))).flatMap iCu))]) (tr (iE (iy (cx (n := 1) (aI .u32) (aD o) (lbT rfl) (by omega : 0 + d.toNat * 1 = d.toNat * 1 + 0))) (congrArg Blk.own (cU (xs := [br (aa .u32 ((aa .u32 (g + i)) + f))]) (aI .u32) (aD o) (lbT rfl) (by omega : 0 + d.toNat * 1 = d.toNat * 1 + 0) (by kernel_rfl))))) (.done (.pop (.ru G ?_))))))
   exact aA (e.set d.toNat (aa .u32 ((aa .u32 (g + i)) + f)), 0, EN (d + 1)) hr ((Wk.iG 5 (b := 0) (es := 1) (len := e.length) (e.set d.toNat (aa .u32 ((aa .u32 (g + i)) + f))).length (by kernel_rfl) (Eq.symm (List.length_set.trans rfl))).trans ((Wk.gc [0, 1, 5, 6, 17, 18] [(0, false)] rfl (pKo iCu (aE _) (e.set d.toNat (aa .u32 ((aa .u32 (g + i)) + f))) trivial)).to))
  refine .leave rfl ?_
  obtain rfl := oi hr
  exact ⟨rfl, ((Wk.gc [5] [(0, false)] rfl (pKo iCu (aE _) e trivial)).to)⟩
 rintro x st' p
 clear q
 obtain ⟨rfl, p⟩ := p
 refine aV _ rfl (.wk p (.seq ?_))
 obtain ⟨u, w, hr⟩ := bd hr
 refine .g1 G (cK (args := [.hs 0 0 j.length 1]) (l := [0]) (SnL.cons (Sn.hs rfl (.inl rfl) (SnC.pure (aZ (aE _) _)) (fun h => cB h)) SnL.nil) (gL n j u w)) (.mu 1 (.ca cf0 (.mu 1 (.done (.ret ?_)))))
 obtain rfl := oi hr
 exact aF.r1 [aC u]

theorem lE (n : Nat) (a : List Int) (b : List Int) (r : List Int) (hr : iq n a b = some r) : aM Tryz.prog 192 [aC a, aC b] (aC r) := by
 unfold iq at hr
 refine aM.bd G Tryz.func192 [.tmp 4] ?_
 unfold Tryz.f192
 simp only [gS]
 refine .seq (.r4 G [0, 1] [] (.seq ?_))
 obtain ⟨w, y, A, hr⟩ := gd3 hr
 refine .r0 G (.mu 2 (.e0 (v := .hs 0 0 (List.replicate (a.length : Int).toNat ((0 : Int) : Int)).length 1) (ws := [(0, .own ((List.replicate (a.length : Int).toNat ((0 : Int) : Int)).flatMap iCu))]) (tr (mc (c := iCu) (z := (0 : Int)) (n := (a.length : Int)) (by_ := 4) rfl w y A)) (.mu 1 (.done (.nh [0, 1, 5] [.own ((List.replicate (a.length : Int).toNat ((0 : Int) : Int)).flatMap iCu)] (.seq (.r4 G [0, 1, 5] [(6, br 0)] (.seq (.seq (.r4 G [0, 1, 5, 6] [(13, aj ((List.replicate (a.length : Int).toNat ((0 : Int) : Int)).length : Int)), (14, aj 0)] (.block ?_)))))))))))
 replace hr := bd hr; obtain ⟨j, q, hr⟩ := hr
 refine .aL (σ := fun D => match D with | (e, f, d) => ⟨mkS 50 0 [(0, aC a), (1, aC b), (5, .hs 0 0 e.length 1), (6, br f), (13, aj ((List.replicate (a.length : Int).toNat ((0 : Int) : Int)).length : Int)), (14, aj d)], [.own (e.flatMap iCu)]⟩) (Q := fun x st' => x = .exit 0 /\ Wk 0 st' ⟨mkS 50 0 [(5, .hs 0 0 j.length 1)], [.own (j.flatMap iCu)]⟩) q ((Wk.gc [0, 1, 5, 6, 13, 14] [(0, false)] rfl (pKo iCu (aE _) (List.replicate (a.length : Int).toNat ((0 : Int) : Int)) trivial)).to) ?_ ?_
 ·clear hr
  rintro m ⟨e, f, d⟩ hr
  show CQ _ _ _ _ _ ⟨_, _⟩
  refine .seq (.r4 G [0, 1, 5, 6, 13, 14] [(15, aB (decide (d < ((List.replicate (a.length : Int).toNat ((0 : Int) : Int)).length : Int))))] (.seq ?_))
  refine .cd hr ?_ ?_ <;> intro B hr
  ·refine .skip (.seq (.block (.seq (.r4 G [0, 1, 5, 6, 13, 14] [(7, aj d)] (.seq ?_)))))
   obtain ⟨g, s, hr⟩ := bd hr
   refine .g1 G (ok0 (lV n b d g s)) (.mu 2 (.ca cf0 (.mu 3 (.done (.nh [0, 1, 5, 7, 8, 13, 14] [.own (e.flatMap iCu)] (.seq (.r4 G [0, 1, 5, 7, 8, 13, 14] [(6, br 0)] (.seq ?_))))))))
   obtain ⟨i, hr⟩ := gd hr
   refine .r0 G (.mu 2 (.p0 (v := .pp (a.flatMap iCu) (d.toNat * 1)) (tr (au i)) (.p0 (v := br (gt a d)) (tr (aH (aK (aI .u32) (aD i) z1 (by omega : d.toNat * 1 = d.toNat * 1 + 0) (by kernel_rfl)))) (.mu 2 (.done (.nh [0, 1, 5, 6, 7, 8, 13, 14, 27] [.own (e.flatMap iCu)] ?_))))))
   refine .cd hr ?_ ?_ <;> intro C hr
   ·obtain ⟨k, hr⟩ := gd hr
    refine .r0 G (.mu 4 (.p0 (v := .pp (a.flatMap iCu) (d.toNat * 1)) (tr (au i)) (.p0 (v := br (gt a d)) (tr (aH (aK (aI .u32) (aD i) z1 (by omega : d.toNat * 1 = d.toNat * 1 + 0) (by kernel_rfl)))) (.mu 3 (.p0 (v := .hp 0 (0 + d.toNat * 1)) (tr (au k)) (.e0 (v := .unk) (ws := [(0, .own ((e.set d.toNat (aa .u32 ((aa .u32 ((gt a d) + 1000000000)) - (aa .u32 (g + f))))).flatMap iCu))]) (tr (iE (iy (cx (n := 1) (aI .u32) (aD k) (lbT rfl) (by omega : 0 + d.toNat * 1 = d.toNat * 1 + 0))) (congrArg Blk.own (cU (xs := [br (aa .u32 ((aa .u32 ((gt a d) + 1000000000)) - (aa .u32 (g + f))))]) (aI .u32) (aD k) (lbT rfl) (by omega : 0 + d.toNat * 1 = d.toNat * 1 + 0) (by kernel_rfl))))) (.mu 1 (.done (.pop (.ru G ?_))))))))))
    exact aA (e.set d.toNat (aa .u32 ((aa .u32 ((gt a d) + 1000000000)) - (aa .u32 (g + f)))), 1, EN (d + 1)) hr ((Wk.iG 5 (b := 0) (es := 1) (len := e.length) (e.set d.toNat (aa .u32 ((aa .u32 ((gt a d) + 1000000000)) - (aa .u32 (g + f))))).length (by kernel_rfl) (Eq.symm (List.length_set.trans rfl))).trans ((Wk.gc [0, 1, 5, 6, 13, 14] [(0, false)] rfl (pKo iCu (aE _) (e.set d.toNat (aa .u32 ((aa .u32 ((gt a d) + 1000000000)) - (aa .u32 (g + f))))) trivial)).to))
   obtain ⟨o, hr⟩ := gd hr
   refine .r0 G (.mu 4 (.p0 (v := .pp (a.flatMap iCu) (d.toNat * 1)) (tr (au i)) (.p0 (v := br (gt a d)) (tr (aH (aK (aI .u32) (aD i) z1 (by omega : d.toNat * 1 = d.toNat * 1 + 0) (by kernel_rfl)))) (.mu 2 (.p0 (v := .hp 0 (0 + d.toNat * 1)) (tr (au o)) (.e0 (v := .unk) (ws := [(0, .own ((e.set d.toNat (aa .u32 ((gt a d) - (aa .u32 (g + f))))).flatMap iCu))]) (tr (iE (iy (cx (n := 1) (aI .u32) (aD o) (lbT rfl) (by omega : 0 + d.toNat * 1 = d.toNat * 1 + 0))) (congrArg Blk.own (cU (xs := [br (aa .u32 ((gt a d) - (aa .u32 (g + f))))]) (aI .u32) (aD o) (lbT rfl) (by omega : 0 + d.toNat * 1 = d.toNat * 1 + 0) (by kernel_rfl))))) (.done (.pop (.ru G ?_)))))))))
   exact aA (e.set d.toNat (aa .u32 ((gt a d) - (aa .u32 (g + f)))), 0, EN (d + 1)) hr ((Wk.iG 5 (b := 0) (es := 1) (len := e.length) (e.set d.toNat (aa .u32 ((gt a d) - (aa .u32 (g + f))))).length (by kernel_rfl) (Eq.symm (List.length_set.trans rfl))).trans ((Wk.gc [0, 1, 5, 6, 13, 14] [(0, false)] rfl (pKo iCu (aE _) (e.set d.toNat (aa .u32 ((gt a d) - (aa .u32 (g + f))))) trivial)).to))
  refine .leave rfl ?_
  obtain rfl := oi hr
  exact ⟨rfl, ((Wk.gc [5] [(0, false)] rfl (pKo iCu (aE _) e trivial)).to)⟩
 rintro x st' p
 clear q
 obtain ⟨rfl, p⟩ := p
 refine aV _ rfl (.wk p (.seq ?_))
 obtain ⟨t, u, hr⟩ := bd hr
 refine .g1 G (cK (args := [.hs 0 0 j.length 1]) (l := [0]) (SnL.cons (Sn.hs rfl (.inl rfl) (SnC.pure (aZ (aE _) _)) (fun h => cB h)) SnL.nil) (gL n j t u)) (.mu 1 (.ca cf0 (.mu 1 (.done (.ret ?_)))))
 obtain rfl := oi hr
 exact aF.r1 [aC t]

theorem jr (n : Nat) (b : ai) (y : ai) (r : ai × ai × Int) (hr : dL n b y = some r) : aM Tryz.prog 160 [.agg (ai.c b), .agg (ai.c y)] (.tup [.agg (ai.c r.1), .agg (ai.c r.2.1), aj r.2.2]) := by
 unfold dL at hr
 refine aM.bd G Tryz.func160 [.cell 4 40, .cell 5 40, .tmp 6] ?_
 unfold Tryz.f160
 simp only [gS]
 refine .seq (.r2 G 55 [(2, .hp 0 0), (3, .hp 1 0), (4, .hp 2 0), (5, .hp 3 0)] [.own (ai.c b), .own (ai.c y), .own [aB false, nS], .own [aB false, nS]] (.seq ?_))
 obtain ⟨I, w, E, x, hr⟩ := bd2 hr
 refine .tn G (ca1 (ok0 (cy n b I w)) (ca3 (ok0 (cy n y E x)))) (.mu 1 (.ca cf0 (.mu 1 (.ca (cfA (fun h => by rw [sv x w (gT n h)]) cf0) (.mu 2 ?_)))))
 refine .done ⟨by kernel_rfl, ?_⟩
 refine .nh [2, 3, 4, 5, 7, 8] [.own (ai.c b), .own (ai.c y), .own [aB false, nS], .own [aB false, nS]] (.seq (.seq (.r4 G [2, 3, 4, 5, 7, 8] [(17, aB (((E.length : Int) : Int) == 0))] ?_)))
 refine .cd hr ?_ ?_ <;> intro J hr
 ·refine .seq (.r4 G [4, 5] [(6, aj 14)] (.ret ?_))
  obtain rfl := oi hr
  exact aF.ret (vs := [.agg [aB false, nS], .agg [aB false, nS], aj 14]) (by kernel_rfl) (Sn.tup (SnL.cons (Sn.agg (Sp (SnL.cons Sn.dB SnL.nil))) (SnL.cons (Sn.agg (Sp (SnL.cons Sn.dB SnL.nil))) (Sp SnL.nil))))
 refine .skip (.seq ?_)
 obtain ⟨u, F, hr⟩ := bd hr
 refine .g1 G (ok0 (mD n I E u F)) (.mu 2 (.ca cf0 (.mu 5 (.done (.nh [2, 3, 4, 5, 8, 9, 10] [.own (ai.c b), .own (ai.c y), .own [aB false, nS], .own [aB false, nS]] (.seq ?_))))))
 obtain ⟨z, H, hr⟩ := bd hr
 refine .g1 G (ok0 (fD n u.2 z H)) (.mu 1 (.ca cf0 (.mu 1 (.done (.nh [2, 3, 4, 5, 8, 9, 10] [.own (ai.c b), .own (ai.c y), .own [aB false, nS], .own [aB false, nS]] (.seq (.seq ?_)))))))
 rcases bT (decide ((z.length : Int) > 0)) with a | a
 ·replace hr := b8 a hr
  refine .r0 G (.mu 2 (.p0 (v := aB true) (eB a) (.mu 7 (.done (.nh [2, 3, 4, 5, 8, 9, 10, 37] [.own (ai.c b), .own (ai.c y), .own [aB false, nS], .own [aB false, nS]] ?_)))))
  refine .cd hr ?_ ?_ <;> intro d hr
  ·obtain ⟨A, B, C, D, hr⟩ := bd2 hr
   refine .gn G (ca2 [.own (ai.c b), .own (ai.c y), .own [aB false, nS], .own [aB false, nS], .own [br 1]] (cK (args := [aC u.1, .hs 4 0 1 1]) (l := [4]) (Sp (SnL.cons (Sn.hs rfl (.inl rfl) (SnC.cons (Sn.pure rfl) SnC.nil) (fun h => nomatch h)) SnL.nil)) (pV n u.1 [(1 : Int)] A B)) (ca4 [.own (ai.c b), .own (ai.c y), .own [aB false, nS], .own [aB false, nS], .fix [br 1]] (ok0 (lE n E z C D)))) (.mu 2 (.ca cf0 (.mu 2 (.ca (cfF cf0) (.mu 2 (.done (.nh [2, 3, 4, 5, 9, 10] [.own (ai.c b), .own (ai.c y), .own [aB false, nS], .own [aB false, nS], .fix [br 1]] (.seq ?_))))))))
   obtain ⟨m, e, o, f, hr⟩ := bd2 hr
   refine .tn G (ca1 (ok0 (cg n true A m e)) (ca3 (ok0 (cg n y.Negative C o f)))) (.mu 4 (.pk (v := aB true) (eB d) (.mu 1 (.ca cf0 (.mu 3 (.ca (cfA (fun h => by rw [sv f e (mE n h)]) cf0) (.mu 3 ?_)))))))
   refine .done ⟨by kernel_rfl, ?_⟩
   refine .nh [4, 5, 6] [.own (ai.c b), .own (ai.c y), .own (ai.c m), .own (ai.c o), .fix [br 1]] (.ret ?_)
   obtain rfl := oi hr
   exact aF.ret (vs := [.agg (ai.c m), .agg (ai.c o), aj 0]) (by kernel_rfl) (Sn.tup (Sp (Sp (Sp SnL.nil))))
  refine .skip (.seq ?_)
  obtain ⟨p, g, q, i, hr⟩ := bd2 hr
  refine .tn G (ca1 (ok0 (cg n false u.1 p g)) (ca3 (ok0 (cg n y.Negative z q i)))) (.mu 4 (.pk (v := aB false) (eB d) (.mu 1 (.ca cf0 (.mu 3 (.ca (cfA (fun h => by rw [sv i g (mE n h)]) cf0) (.mu 3 ?_)))))))
  refine .done ⟨by kernel_rfl, ?_⟩
  refine .nh [4, 5, 6] [.own (ai.c b), .own (ai.c y), .own (ai.c p), .own (ai.c q)] (.ret ?_)
  obtain rfl := oi hr
  exact aF.ret (vs := [.agg (ai.c p), .agg (ai.c q), aj 0]) (by kernel_rfl) (Sn.tup (Sp (Sp (Sp SnL.nil))))
 replace hr := bX a hr
 refine .r0 G (.mu 2 (.p0 (v := aB false) (eB a) (.mu 7 (.done (.nh [2, 3, 4, 5, 8, 9, 10, 37] [.own (ai.c b), .own (ai.c y), .own [aB false, nS], .own [aB false, nS]] (.cF (by kernel_rfl) (.skip (.seq ?_))))))))
 obtain ⟨s, j, t, k, hr⟩ := bd2 hr
 refine .tn G (ca1 (ok0 (cg n (b.Negative != y.Negative) u.1 s j)) (ca3 (ok0 (cg n y.Negative z t k)))) (.mu 6 (.ca cf0 (.mu 3 (.ca (cfA (fun h => by rw [sv k j (mE n h)]) cf0) (.mu 3 ?_)))))
 refine .done ⟨by kernel_rfl, ?_⟩
 refine .nh [4, 5, 6] [.own (ai.c b), .own (ai.c y), .own (ai.c s), .own (ai.c t)] (.ret ?_)
 obtain rfl := oi hr
 exact aF.ret (vs := [.agg (ai.c s), .agg (ai.c t), aj 0]) (by kernel_rfl) (Sn.tup (Sp (Sp (Sp SnL.nil))))

theorem ir (n : Nat) (num : ai) (den : ai) (r : ak) (hr : eE n num den = some r) : aM Tryz.prog 122 [.agg (ai.c num), .agg (ai.c den)] (.agg (ak.c r)) := by
 unfold eE at hr
 refine aM.bd G Tryz.func122 [.cell 4 42] ?_
 unfold Tryz.f122
 simp only [gS]
 refine .seq (.r2 G 33 [(2, .hp 0 0), (3, .hp 1 0), (4, .hp 2 0)] [.own (ai.c num), .own (ai.c den), .own zN2] (.seq (.seq ?_)))
 obtain ⟨v, t, hr⟩ := bd hr
 refine .g1 G (ok0 (fO n den v t)) (.mu 1 (.ca cf0 (.mu 1 (.done (.nh [2, 3, 4, 8] [.own (ai.c num), .own (ai.c den), .own zN2] ?_)))))
 refine .cd hr ?_ ?_ <;> intro w hr
 ·obtain ⟨j, k, i, l, hr⟩ := bd2 hr
  refine .tn G (ca1 (ok0 (gu n num j k)) (ca3 (ok0 (gu n den i l)))) (.mu 1 (.ca cf0 (.mu 1 (.ca (cfA (fun h => by rw [sv l k (gr n h)]) cf0) (.mu 2 ?_)))))
  refine .done ⟨by kernel_rfl, ?_⟩
  refine .nh [2, 3, 4] [.own (ai.c j), .own (ai.c i), .own zN2] (.seq ?_)
  obtain ⟨g, u, hr⟩ := bd hr
  refine .g1 G (ok0 (nm n j i g u)) (.mu 2 (.ca cf0 (.mu 2 (.done (.nh [2, 3, 4, 5] [.own (ai.c j), .own (ai.c i), .own zN2, .own (ai.c g)] (.seq ?_))))))
  obtain ⟨a, m, hr⟩ := bd hr
  refine .g1 G (ok0 (jr n j g a m)) (.mu 2 (.ca cf0 (.mu 5 (.done (.nh [2, 3, 4, 5] [.own (ai.c a.1), .own (ai.c i), .own zN2, .own (ai.c g)] (.seq ?_))))))
  obtain ⟨d, o, hr⟩ := bd hr
  refine .g1 G (ok0 (jr n i g d o)) (.mu 2 (.ca cf0 (.mu 5 (.done (.nh [2, 3, 4] [.own (ai.c a.1), .own (ai.c d.1), .own zN2, .own (ai.c g)] (.seq (.r5 G [4] [] [.own (ai.c a.1), .own (ai.c d.1), .own [aB a.1.Negative, aC a.1.Groups, aB d.1.Negative, aC d.1.Groups], .own (ai.c g)] (.ret ?_))))))))
  obtain rfl := oi hr
  exact aF.r1 [.agg [aB a.1.Negative, aC a.1.Groups, aB d.1.Negative, aC d.1.Groups]]
 refine .skip (.seq ?_)
 obtain ⟨e, p, hr⟩ := bd hr
 refine .g1 G (ok0 (nm n num den e p)) (.mu 2 (.ca cf0 (.mu 2 (.done (.nh [2, 3, 4, 5] [.own (ai.c num), .own (ai.c den), .own zN2, .own (ai.c e)] (.seq ?_))))))
 obtain ⟨b, q, hr⟩ := bd hr
 refine .g1 G (ok0 (jr n num e b q)) (.mu 2 (.ca cf0 (.mu 5 (.done (.nh [2, 3, 4, 5] [.own (ai.c b.1), .own (ai.c den), .own zN2, .own (ai.c e)] (.seq ?_))))))
 obtain ⟨f, s, hr⟩ := bd hr
 refine .g1 G (ok0 (jr n den e f s)) (.mu 2 (.ca cf0 (.mu 5 (.done (.nh [2, 3, 4] [.own (ai.c b.1), .own (ai.c f.1), .own zN2, .own (ai.c e)] (.seq (.r5 G [4] [] [.own (ai.c b.1), .own (ai.c f.1), .own [aB b.1.Negative, aC b.1.Groups, aB f.1.Negative, aC f.1.Groups], .own (ai.c e)] (.ret ?_))))))))
 obtain rfl := oi hr
 exact aF.r1 [.agg [aB b.1.Negative, aC b.1.Groups, aB f.1.Negative, aC f.1.Groups]]
end Go.L
