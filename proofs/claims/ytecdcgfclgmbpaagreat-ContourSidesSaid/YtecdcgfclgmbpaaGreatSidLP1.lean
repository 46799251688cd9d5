
import Derived.Test.YtecdcgfclgmbpaaGreatSidLD
import Derived.Test.YtecdcgfclgmbpaaGreatL0Sids
import Derived.Test.YtecdcgfclgmbpaaGreatSortCSids
import Derived.Test.YtecdcgfclgmbpaaGreatSortKSids
import Derived.Test.YtecdcgfclgmbpaaGreatChecked
import Derived.KernelRfl
set_option linter.all false
set_option maxRecDepth 100000
set_option maxHeartbeats 4000000
namespace Go.L
open Go Go.Eng Go.Proofs
theorem eM (n : Nat) (r : al) (hr : cz n = some r) : aK Tryz.prog 43 [] (.agg (al.c r)) := by
 unfold cz at hr
 refine aK.bd G Tryz.func43 [.cell 0 24] ?_
 unfold Tryz.f43
 simp only [gS]
 refine .seq (.r2 G 3 [(0, .hp 0 0)] [.own [ag 0, ag 0, ag 0, ag 0, ag 0, nS]] (.seq (.r5 G [0] [] [.own [ag 0, ag 0, ag 2, ag 3, ag 3, .hs 1 0 9 1], .own [ag 0, ag 0, ag 0, ag 0, ag 4, ag 0, ag 0, ag 0, ag 0]] (.ret ?_))))
 obtain rfl := oi hr
 exact aH.ret (vs := [.agg [ag 0, ag 0, ag 2, ag 3, ag 3, .hs 1 0 9 1]]) kRf (Sn.agg (Sp (Sp (Sp (Sp (Sp (SnL.cons (Sn.hs rfl (.inl rfl) (SnC.cons (Sn.pure rfl) (SnC.cons (Sn.pure rfl) (SnC.cons (Sn.pure rfl) (SnC.cons (Sn.pure rfl) (SnC.cons (Sn.pure rfl) (SnC.cons (Sn.pure rfl) (SnC.cons (Sn.pure rfl) (SnC.cons (Sn.pure rfl) (SnC.cons (Sn.pure rfl) SnC.nil))))))))) (fun h => nomatch h)) SnL.nil)))))))

theorem dP {b : Int} {a : Int} (h : ([.at (.int .i64 b)] : List AV) = [.at (.int .i64 a)]) : b = a := by
 simp only [List.cons.injEq, AV.agg.injEq, AV.at.injEq, Value.int.injEq, Value.bool.injEq, AV.fn.injEq, AV.pp.injEq, true_and, and_true] at h
 simp_all
theorem eA (n : Nat) {b : Int} {a : Int} (h : ([.at (.int .i64 b)] : List AV) = [.at (.int .i64 a)]) : dU n b = dU n a := by
 obtain rfl := dP h
 rfl
theorem bh (n : Nat) (b : Int) (r : Bool) (hr : dU n b = some r) : aK Tryz.prog 103 [ag b] (aB r) := by
 unfold dU at hr
 refine aK.bd G Tryz.func103 [.tmp 2] ?_
 unfold Tryz.f103
 simp only [gS]
 refine .seq (.r4 G [0] [] (.seq ?_))
 rcases bT (decide (b >= 2)) with a | a
 ·replace hr := bY a hr
  refine .r0 G (.mu 1 (.p0 (v := aB true) (eB a) (.mu 5 (.done (.ret ?_)))))
  obtain rfl := oi hr
  exact aH.r1 [aB (decide (b <= 64))]
 replace hr := bW a hr
 refine .r0 G (.mu 1 (.p0 (v := aB false) (eB a) (.mu 5 (.done (.ret ?_)))))
 obtain rfl := oi hr
 exact aH.r1 [aB false]

theorem uU (n : Nat) {b : Int} {a : Int} (h : ([.at (.int .i64 b)] : List AV) = [.at (.int .i64 a)]) : gB n b = gB n a := by
 obtain rfl := dP h
 rfl
theorem kg (n : Nat) (b : Int) (r : Bool) (hr : gB n b = some r) : aK Tryz.prog 104 [ag b] (aB r) := by
 unfold gB at hr
 refine aK.bd G Tryz.func104 [.tmp 2] ?_
 unfold Tryz.f104
 simp only [gS]
 refine .seq (.r4 G [0] [] (.seq ?_))
 rcases bT (decide (b < (-1048576))) with a | a
 ·replace hr := bY a hr
  refine .r0 G (.mu 1 (.p0 (v := aB true) (eB a) (.mu 5 (.done (.ret ?_)))))
  obtain rfl := oi hr
  exact aH.r1 [aB true]
 replace hr := bW a hr
 refine .r0 G (.mu 1 (.p0 (v := aB false) (eB a) (.mu 5 (.done (.ret ?_)))))
 obtain rfl := oi hr
 exact aH.r1 [aB (decide (b > 1048576))]

theorem rE (n : Nat) (z : Int) (r : Bool) (hr : g9 n z = some r) : aK Tryz.prog 106 [ag z] (aB r) := by
 unfold g9 at hr
 refine aK.bd G Tryz.func106 [.tmp 2] ?_
 unfold Tryz.f106
 simp only [gS]
 refine .seq (.r4 G [0] [] (.seq ?_))
 rcases bT ((z : Int) != (-2147483648)) with a | a
 ·replace hr := bY a hr
  obtain ⟨c, b, hr⟩ := bd hr
  refine .g1 G (ok0 (kg n z c b)) (.mu 1 (.p0 (v := aB true) (eB a) (.mu 2 (.ca cf0 (.mu 2 (.done (.ret ?_)))))))
  obtain rfl := oi hr
  exact aH.r1 [aB c]
 replace hr := bW a hr
 refine .r0 G (.mu 1 (.p0 (v := aB false) (eB a) (.mu 5 (.done (.ret ?_)))))
 obtain rfl := oi hr
 exact aH.r1 [aB false]

theorem gi (n : Nat) (s : List Int) (r : Int) (hr : bH n s = some r) : aK Tryz.prog 146 [bu s, .fn 106 [] []] (ag r) := by
 unfold bH at hr
 refine aK.bd G Tryz.func146 [.tmp 4] ?_
 unfold Tryz.f146
 simp only [gS]
 refine .seq (.r4 G [0, 1] [] (.seq (.seq (.r4 G [0, 1] [(7, ag (s.length : Int)), (8, ag 0)] (.block ?_)))))
 replace hr := bd hr; obtain ⟨d, c, hr⟩ := hr
 refine .aN (σ := fun i => match i with | a => ⟨mkS 19 0 [(0, bu s), (1, .fn 106 [] []), (7, ag (s.length : Int)), (8, ag a)], []⟩) (Q := fun x st' => match (generalizing := false) d with | .inl _ => x = .exit 0 /\ Wk 0 st' ⟨mkS 19 0 [], []⟩ | .inr (r0) => x = .ret /\ aH Tryz.prog [.tmp 4] (ag r0) .ret st') c ((Wk.gc [0, 1, 7, 8] [] rfl pK0).to) ?_ ?_
 ·clear hr
  rintro m a hr
  refine CQ.sh ?_
  refine .seq (.r4 G [0, 1, 7, 8] [(9, aB (decide (a < (s.length : Int))))] (.seq ?_))
  refine .cd hr ?_ ?_ <;> intro j hr
  ·refine .skip (.seq (.block (.seq (.r4 G [0, 1, 7, 8] [(5, ag a)] (.seq ?_)))))
   obtain ⟨e, hr⟩ := gd hr
   obtain ⟨g, f, hr⟩ := bd hr
   refine .g1 G (ok0 (rE n (gt s a) g f)) (.mu 3 (.p0 (v := .pp (s.flatMap (iC .i64)) (a.toNat * 1)) (tr (ar e)) (.p0 (v := ag (gt s a)) (tr (aI (aJ (aG .i64) (aE e) z1 (by omega : a.toNat * 1 = a.toNat * 1 + 0) kRf))) (.ca cf0 (.done (.nh [0, 1, 5, 7, 8, 16] [] ?_))))))
   refine .cd hr ?_ ?_ <;> intro h hr
   ·refine .seq (.ru G (.ret ?_))
    obtain rfl := oi hr
    exact ⟨rfl, aH.ret (vs := [ag a]) kRf (Sn.pure rfl)⟩
   refine .skip (.pop (.ru G ?_))
   exact az (G1 (a + 1)) hr ((Wk.gc [0, 1, 7, 8] [] rfl pK0).to)
  refine .leave rfl ?_
  obtain rfl := oi hr
  exact ⟨rfl, ((Wk.gc [] [] rfl pK0).to)⟩
 rcases d with ⟨⟩ | r0
 ·rintro x st' b
  clear c
  obtain ⟨rfl, b⟩ := b
  refine aU _ rfl (.wk b (.seq (.ru G (.ret ?_))))
  obtain rfl := oi hr
  exact aH.r1 [ag (-1)]
 rintro x st' b
 clear c
 obtain ⟨rfl, b⟩ := b
 obtain rfl := oi hr
 exact gJ _ b

theorem fJ (n : Nat) (s : List Int) (r : Bool) (hr : aZ n s = some r) : aK Tryz.prog 105 [bu s, .fn 106 [] []] (aB r) := by
 unfold aZ at hr
 refine aK.bd G Tryz.func105 [.tmp 4] ?_
 unfold Tryz.f105
 simp only [gS]
 refine .seq (.r4 G [0, 1] [] (.seq ?_))
 obtain ⟨b, a, hr⟩ := bd hr
 refine .g1 G (ok0 (gi n s b a)) (.mu 2 (.ca cf0 (.mu 2 (.done (.ret ?_)))))
 obtain rfl := oi hr
 exact aH.r1 [aB (decide (b >= 0))]

theorem oh (n : Nat) (g : al) (r : Int) (hr : ie n g = some r) : aK Tryz.prog 58 [.agg (al.c g)] (ag r) := by
 unfold ie at hr
 refine aK.bd G Tryz.func58 [.tmp 2] ?_
 unfold Tryz.f58
 simp only [gS]
 refine .seq (.r2 G 54 [(1, .hp 0 0)] [.own (al.c g)] (.seq (.r4 G [1] [(3, .fn 103 [] [])] (.seq (.seq ?_)))))
 obtain ⟨m, a, hr⟩ := bd hr
 rcases bT (!m) with d | d
 ·replace hr := bY d hr
  refine .g1 G (ok0 (bh n g.Width m a)) (.mu 3 (.ca cf0 (.p0 (v := aB true) (eB d) (.mu 33 (.done (.nh [1, 41] [.own (al.c g)] (.cT kRf (.seq (.ru G (.ret ?_))))))))))
  obtain rfl := oi hr
  exact aH.r1 [ag 2]
 replace hr := bW d hr
 obtain ⟨p, b, hr⟩ := bd hr
 rcases bT (!p) with e | e
 ·replace hr := bY e hr
  refine .gn G (ca1 (ok0 (bh n g.Width m a)) (ca3 (ok0 (bh n g.Height p b)))) (.mu 3 (.ca cf0 (.p0 (v := aB false) (eB d) (.mu 4 (.ca (cfA (fun h => by rw [sv b a (eA n h)]) cf0) (.pure (v := aB true) kRf (eB e) (.mu 27 (.done (.nh [1, 41] [.own (al.c g)] (.cT kRf (.seq (.ru G (.ret ?_)))))))))))))
  obtain rfl := oi hr
  exact aH.r1 [ag 2]
 replace hr := bW e hr
 rcases bT (decide (g.Step < 2)) with f | f
 ·replace hr := bY f hr
  refine .gn G (ca1 (ok0 (bh n g.Width m a)) (ca3 (ok0 (bh n g.Height p b)))) (.mu 3 (.ca cf0 (.p0 (v := aB false) (eB d) (.mu 4 (.ca (cfA (fun h => by rw [sv b a (eA n h)]) cf0) (.pure (v := aB false) kRf (eB e) (.mu 4 (.pure (v := aB true) kRf (eB f) (.mu 22 (.done (.nh [1, 41] [.own (al.c g)] (.cT kRf (.seq (.ru G (.ret ?_)))))))))))))))
  obtain rfl := oi hr
  exact aH.r1 [ag 2]
 replace hr := bW f hr
 rcases bT (decide (g.Step > 65536)) with i | i
 ·replace hr := bY i hr
  refine .gn G (ca1 (ok0 (bh n g.Width m a)) (ca3 (ok0 (bh n g.Height p b)))) (.mu 3 (.ca cf0 (.p0 (v := aB false) (eB d) (.mu 4 (.ca (cfA (fun h => by rw [sv b a (eA n h)]) cf0) (.pure (v := aB false) kRf (eB e) (.mu 4 (.pure (v := aB false) kRf (eB f) (.mu 4 (.pure (v := aB true) kRf (eB i) (.mu 17 (.done (.nh [1, 41] [.own (al.c g)] (.cT kRf (.seq (.ru G (.ret ?_)))))))))))))))))
  obtain rfl := oi hr
  exact aH.r1 [ag 2]
 replace hr := bW i hr
 rcases bT (((g.Step.tmod 2) : Int) != 0) with j | j
 ·replace hr := bY j hr
  refine .gn G (ca1 (ok0 (bh n g.Width m a)) (ca3 (ok0 (bh n g.Height p b)))) (.mu 3 (.ca cf0 (.p0 (v := aB false) (eB d) (.mu 4 (.ca (cfA (fun h => by rw [sv b a (eA n h)]) cf0) (.pure (v := aB false) kRf (eB e) (.mu 4 (.pure (v := aB false) kRf (eB f) (.mu 4 (.pure (v := aB false) kRf (eB i) (.mu 5 (.pure (v := aB true) kRf (eB j) (.mu 11 (.done (.nh [1, 41] [.own (al.c g)] (.cT kRf (.seq (.ru G (.ret ?_)))))))))))))))))))
  obtain rfl := oi hr
  exact aH.r1 [ag 2]
 replace hr := bW j hr
 obtain ⟨s, k, hr⟩ := bd hr
 rcases bT s with l | l
 ·subst l
  replace hr := bY rfl hr
  refine .gn G (ca1 (ok0 (bh n g.Width m a)) (ca1 (ok0 (bh n g.Height p b)) (ca3 (ok0 (kg n g.X0 true k))))) (.mu 3 (.ca cf0 (.p0 (v := aB false) (eB d) (.mu 4 (.ca (cfA (fun h => by rw [sv b a (eA n h)]) cf0) (.pure (v := aB false) kRf (eB e) (.mu 4 (.pure (v := aB false) kRf (eB f) (.mu 4 (.pure (v := aB false) kRf (eB i) (.mu 5 (.pure (v := aB false) kRf (eB j) (.mu 4 (.ca (cfF (cfF cf0)) (.mu 6 (.done (.nh [1, 41] [.own (al.c g)] (.cT kRf (.seq (.ru G (.ret ?_)))))))))))))))))))))
  obtain rfl := oi hr
  exact aH.r1 [ag 2]
 subst l
 replace hr := bW rfl hr
 obtain ⟨t, o, hr⟩ := bd hr
 refine .gn G (ca1 (ok0 (bh n g.Width m a)) (ca1 (ok0 (bh n g.Height p b)) (ca1 (ok0 (kg n g.X0 false k)) (ca3 (ok0 (kg n g.Y0 t o)))))) (.mu 3 (.ca cf0 (.p0 (v := aB false) (eB d) (.mu 4 (.ca (cfA (fun h => by rw [sv b a (eA n h)]) cf0) (.pure (v := aB false) kRf (eB e) (.mu 4 (.pure (v := aB false) kRf (eB f) (.mu 4 (.pure (v := aB false) kRf (eB i) (.mu 5 (.pure (v := aB false) kRf (eB j) (.mu 4 (.ca (cfF (cfF cf0)) (.mu 4 (.ca (cfF (cfF (cfA (fun h => by rw [sv o k (uU n h)]) cf0))) (.mu 1 (.done (.nh [1, 41] [.own (al.c g)] ?_)))))))))))))))))))
 refine .cd hr ?_ ?_ <;> intro w hr
 ·refine .seq (.ru G (.ret ?_))
  obtain rfl := oi hr
  exact aH.r1 [ag 2]
 refine .skip (.seq (.seq (.r4 G [1] [(50, aB (((g.Z.length : Int) : Int) != (G1 (g.Width * g.Height))))] ?_)))
 refine .cd hr ?_ ?_ <;> intro x hr
 ·refine .seq (.ru G (.ret ?_))
  obtain rfl := oi hr
  exact aH.r1 [ag 4]
 refine .skip (.seq (.seq ?_))
 obtain ⟨u, q, hr⟩ := bd hr
 refine .g1 G (ok0 (fJ n g.Z u q)) (.mu 2 (.ca cf0 (.done (.nh [53] [.own (al.c g)] ?_))))
 refine .cd hr ?_ ?_ <;> intro y hr
 ·refine .seq (.ru G (.ret ?_))
  obtain rfl := oi hr
  exact aH.r1 [ag 2]
 refine .skip (.seq (.ru G (.ret ?_)))
 obtain rfl := oi hr
 exact aH.r1 [ag 0]

theorem iA (n : Nat) (g : al) (level : Int) (r : Int) (hr : dh n g level = some r) : aK Tryz.prog 44 [.agg (al.c g), ag level] (ag r) := by
 unfold dh at hr
 refine aK.bd G Tryz.func44 [.tmp 4] ?_
 unfold Tryz.f44
 simp only [gS]
 refine .seq (.r5 G [1] [(2, .hp 0 0)] [.own (al.c g)] (.seq (.seq ?_)))
 obtain ⟨b, d, hr⟩ := bd hr
 refine .g1 G (ok0 (oh n g b d)) (.mu 1 (.ca cf0 (.mu 1 (.done (.nh [1, 5] [.own (al.c g)] (.seq (.r4 G [1, 5] [(9, aB ((b : Int) != 0))] ?_)))))))
 refine .cd hr ?_ ?_ <;> intro e hr
 ·refine .seq (.ru G (.ret ?_))
  obtain rfl := oi hr
  exact aH.r1 [ag b]
 refine .skip (.seq (.seq (.r4 G [1] [(13, aB (((level.tmod 2) : Int) == 0))] ?_)))
 refine .cd hr ?_ ?_ <;> intro f hr
 ·refine .seq (.ru G (.ret ?_))
  obtain rfl := oi hr
  exact aH.r1 [ag 1]
 refine .skip (.seq (.seq ?_))
 rcases bT (decide (level < (-2097153))) with a | a
 ·replace hr := bY a hr
  refine .r0 G (.mu 1 (.p0 (v := aB true) (eB a) (.mu 4 (.done (.nh [19] [.own (al.c g)] (.cT kRf (.seq (.ru G (.ret ?_)))))))))
  obtain rfl := oi hr
  exact aH.r1 [ag 2]
 replace hr := bW a hr
 refine .r0 G (.mu 1 (.p0 (v := aB false) (eB a) (.mu 4 (.done (.nh [19] [.own (al.c g)] ?_)))))
 refine .cd hr ?_ ?_ <;> intro h hr
 ·refine .seq (.ru G (.ret ?_))
  obtain rfl := oi hr
  exact aH.r1 [ag 2]
 refine .skip (.seq (.ru G (.ret ?_)))
 obtain rfl := oi hr
 exact aH.r1 [ag 0]

theorem qJ {k : Int} {p : Int} {n : Int} {l : Int} {i : Int} {f : Int} {d : List Int} {b : Int} {o : Int} {q : Int} {m : Int} {j : Int} {g : Int} {e : Int} {c : List Int} {a : Int} (h : ([.at (.int .i64 k), .pp [.at (.int .i64 p), .at (.int .i64 n), .at (.int .i64 l), .at (.int .i64 i), .at (.int .i64 f), slT (iC .i64) d] 0, .pp [.at (.int .i64 b)] 0] : List AV) = [.at (.int .i64 o), .pp [.at (.int .i64 q), .at (.int .i64 m), .at (.int .i64 j), .at (.int .i64 g), .at (.int .i64 e), slT (iC .i64) c] 0, .pp [.at (.int .i64 a)] 0]) : k = o /\ p = q /\ n = m /\ l = j /\ i = g /\ f = e /\ d = c /\ b = a := by
 simp only [List.cons.injEq, AV.agg.injEq, AV.at.injEq, Value.int.injEq, Value.bool.injEq, AV.fn.injEq, AV.pp.injEq, true_and, and_true, dt] at h
 simp_all
theorem mC (n : Nat) {k : Int} {p : Int} {o : Int} {l : Int} {i : Int} {f : Int} {d : List Int} {b : Int} {q : Int} {r : Int} {m : Int} {j : Int} {g : Int} {e : Int} {c : List Int} {a : Int} (h : ([.at (.int .i64 k), .pp [.at (.int .i64 p), .at (.int .i64 o), .at (.int .i64 l), .at (.int .i64 i), .at (.int .i64 f), slT (iC .i64) d] 0, .pp [.at (.int .i64 b)] 0] : List AV) = [.at (.int .i64 q), .pp [.at (.int .i64 r), .at (.int .i64 m), .at (.int .i64 j), .at (.int .i64 g), .at (.int .i64 e), slT (iC .i64) c] 0, .pp [.at (.int .i64 a)] 0]) : cQ n k p o l i f d b = cQ n q r m j g e c a := by
 obtain ⟨rfl, rfl, rfl, rfl, rfl, rfl, rfl, rfl⟩ := qJ h
 rfl
theorem eG (n : Nat) (k : Int) (p : Int) (g : Int) (e : Int) (d : Int) (c : Int) (a : List Int) (b : Int) (r : Bool) (hr : cQ n k p g e d c a b = some r) : aK Tryz.prog 88 [ag k, .pp [ag p, ag g, ag e, ag d, ag c, bu a] 0, .pp [ag b] 0] (aB r) := by
 unfold cQ at hr
 refine aK.bd G Tryz.func88 [.tmp 4] ?_
 unfold Tryz.f88
 simp only [gS]
 refine .seq (.r4 G [0, 1, 2] [] (.seq ?_))
 obtain ⟨f, hr⟩ := gd hr
 refine .eX G bO (.mu 3 (.pk (v := .pp (a.flatMap (iC .i64)) (k.toNat * 1)) (tr (ar f)) (.pk (v := ag (gt a k)) (tr (aI (aJ (aG .i64) (aE f) z1 (by omega : k.toNat * 1 = k.toNat * 1 + 0) kRf))) (.mu 4 ?_))))
 refine .done (kRa ?_)
 refine .ret ?_
 obtain rfl := oi hr
 exact aH.r1 [aB (decide ((G1 (2 * (gt a k))) > b))]

theorem m8 (n : Nat) (a : Int) (b : Int) (r : A2 Int) (hr : jY n a b = some r) : aK Tryz.prog 91 [ag a, ag b] (.agg (ai.c r)) := by
 unfold jY at hr
 refine aK.bd G Tryz.func91 [.cell 4 101] ?_
 unfold Tryz.f91
 simp only [gS]
 refine .seq (.r5 G [0, 1] [(4, .hp 0 0)] [.own [ag 0, ag 0]] (.seq (.r5 G [4] [] [.own [ag (mn a b), ag (mx a b)]] (.ret ?_))))
 obtain rfl := oi hr
 exact aH.r1 [.agg [ag (mn a b), ag (mx a b)]]

theorem pY (n : Nat) (t : A3 Int) (c : Int) (F : Int) (q : Int) (i : Int) (d : Int) (b : List Int) (a : Int) (p : List (A2 Int × A2 Int)) (E : List (A2 Int × Bool)) (r : List (A2 Int × A2 Int) × List (A2 Int × Bool)) (hr : eV n t c F q i d b a p E = some r) : dz 5 Tryz.prog 90 [.agg (aD.c t), .hp 0 0, .hp 3 0, .hp 4 0] [.own [.fn 88 [] [.hp 1 0, .hp 2 0]], .own [ag c, ag F, ag q, ag i, ag d, bu b], .own [ag a], .own [.mp 5], .own [.mp 6], .map (p.map (mpK an.K (gA ai.c))), .map (E.map (mpK an.K bA))] (.tup []) [.own [.fn 88 [] [.hp 1 0, .hp 2 0]], .own [ag c, ag F, ag q, ag i, ag d, bu b], .own [ag a], .own [.mp 5], .own [.mp 6], .map (r.1.map (mpK an.K (gA ai.c))), .map (r.2.map (mpK an.K bA))] := by
 unfold eV at hr
 refine dz.qQ G Tryz.func90 (c := (Tryz.f90.body).getD .skip) rfl (us := []) (s := mkS 55 0 [(0, .agg (aD.c t)), (1, .hp 0 0), (2, .hp 3 0), (3, .hp 4 0)]) kRf (rs := []) rfl ?_
 unfold Tryz.f90
 simp only [gS]
 refine .seq (.r5 G [1, 2, 3] [(4, .hp 7 0)] [.own [.fn 88 [] [.hp 1 0, .hp 2 0]], .own [ag c, ag F, ag q, ag i, ag d, bu b], .own [ag a], .own [.mp 5], .own [.mp 6], .map (p.map (mpK an.K (gA ai.c))), .map (E.map (mpK an.K bA)), .own (aD.c t)] (.seq (.r5 G [1, 2, 3, 4] [(5, .hp 8 0), (6, .hp 9 0)] [.own [.fn 88 [] [.hp 1 0, .hp 2 0]], .own [ag c, ag F, ag q, ag i, ag d, bu b], .own [ag a], .own [.mp 5], .own [.mp 6], .map (p.map (mpK an.K (gA ai.c))), .map (E.map (mpK an.K bA)), .own (aD.c t), .own [ag 0, ag 0], .own [ag 0, ag 0]] (.seq (.r4 G [1, 2, 3, 4, 5, 6] [(7, aB false)] (.seq (.seq (.r4 G [1, 2, 3, 4, 5, 6, 7] [(11, ag 0)] (.block ?_)))))))))
 replace hr := bd hr; obtain ⟨ki, T, hr⟩ := hr
 refine .aN (σ := fun z0 => match z0 with | (z, A, B, C, H, g) => ⟨mkS 55 0 [(1, .hp 0 0), (2, .hp 3 0), (3, .hp 4 0), (4, .hp 7 0), (5, .hp 8 0), (6, .hp 9 0), (7, aB H), (11, ag g)], [.own [.fn 88 [] [.hp 1 0, .hp 2 0]], .own [ag c, ag F, ag q, ag i, ag d, bu b], .own [ag a], .own [.mp 5], .own [.mp 6], .map (p.map (mpK an.K (gA ai.c))), .map (E.map (mpK an.K bA)), .own (aD.c t), .own [ag z, ag A], .own [ag B, ag C]]⟩) (Q := fun x st' => match (generalizing := false) ki with | (u, w, j, o, J) => x = .exit 0 /\ Wk 5 st' ⟨mkS 55 0 [(2, .hp 3 0), (3, .hp 4 0), (5, .hp 7 0), (6, .hp 8 0), (7, aB J)], [.own [.fn 88 [] [.hp 1 0, .hp 2 0]], .own [ag c, ag F, ag q, ag i, ag d, bu b], .own [ag a], .own [.mp 5], .own [.mp 6], .map (p.map (mpK an.K (gA ai.c))), .map (E.map (mpK an.K bA)), .own [ag u, ag w], .own [ag j, ag o]]⟩) T ((Wk.gc [1, 2, 3, 4, 5, 6, 7, 11] [(0, true), (1, true), (2, true), (3, true), (4, true), (5, false), (6, false), (7, true), (8, true), (9, true)] rfl (pKt (pKt (pKt (pKt (pKt (pKM an.K (gA ai.c) (fun _ => rfl) p (pKM an.K bA (fun _ => rfl) E trivial)))))))).to) ?_ ?_
 ·clear hr
  rintro m ⟨z, A, B, C, H, g⟩ hr
  refine CQ.sh ?_
  refine .seq (.r4 G [1, 2, 3, 4, 5, 6, 7, 11] [(12, aB (decide (g < 3)))] (.seq ?_))
  refine .cd hr ?_ ?_ <;> intro py hr
  ·refine .skip (.seq (.block (.seq (.r4 G [1, 2, 3, 4, 5, 6, 7, 11] [(8, ag g)] (.seq ?_)))))
   obtain ⟨U, V, hr⟩ := gd2 hr
   refine .eX G bO (.mu 1 (.pk (v := .hp 7 (0 + g.toNat * 1)) (tr (ar U)) (.pk (v := ag (A3.get t g)) (tr (y := bt.ofP ((aD.c t)[0 + g.toNat * 1]?)) (aI (xS (k := .i64) (kk := 0) (xs := [t.e0, t.e1, t.e2]) U rfl kRf))) (.mu 3 (.pk (v := .hp 7 (0 + ((G1 (g + 1)).tmod 3).toNat * 1)) (tr (ar V)) (.pk (v := ag (A3.get t ((G1 (g + 1)).tmod 3))) (tr (y := bt.ofP ((aD.c t)[0 + ((G1 (g + 1)).tmod 3).toNat * 1]?)) (aI (xS (k := .i64) (kk := 0) (xs := [t.e0, t.e1, t.e2]) V rfl kRf))) (.mu 2 ?_)))))))
   refine .done (kRa ?_)
   refine .nh [1, 2, 3, 4, 5, 6, 7, 9, 10, 11] [.own [.fn 88 [] [.hp 1 0, .hp 2 0]], .own [ag c, ag F, ag q, ag i, ag d, bu b], .own [ag a], .own [.mp 5], .own [.mp 6], .map (p.map (mpK an.K (gA ai.c))), .map (E.map (mpK an.K bA)), .own (aD.c t), .own [ag z, ag A], .own [ag B, ag C]] ?_
   obtain ⟨D, lP, hr⟩ := bd hr
   refine .wk ((Wk.refl _).to (c := ⟨mkS 55 0 [(1, .hp 0 0), (2, .hp 3 0), (3, .hp 4 0), (4, .hp 7 0), (5, .hp 8 0), (6, .hp 9 0), (7, aB H), (9, ag (A3.get t g)), (10, ag D), (11, ag g)], [.own [.fn 88 [] [.hp 1 0, .hp 2 0]], .own [ag c, ag F, ag q, ag i, ag d, bu b], .own [ag a], .own [.mp 5], .own [.mp 6], .map (p.map (mpK an.K (gA ai.c))), .map (E.map (mpK an.K bA)), .own (aD.c t), .own [ag z, ag A], .own [ag B, ag C]]⟩) (by rw [oi lP]; first | done | kernel_rfl)) <| .block <| .seq ?_
   replace hr := bd hr; obtain ⟨l8, L, hr⟩ := hr
   refine .xZ (Q := fun x st' => x = .normal /\ Wk 5 st' ⟨mkS 55 0 [(1, .hp 0 0), (2, .hp 3 0), (3, .hp 4 0), (4, .hp 7 0), (5, .hp 8 0), (6, .hp 9 0), (7, aB H), (9, ag (A3.get t g)), (10, ag D), (11, ag g), (22, aB l8)], [.own [.fn 88 [] [.hp 1 0, .hp 2 0]], .own [ag c, ag F, ag q, ag i, ag d, bu b], .own [ag a], .own [.mp 5], .own [.mp 6], .map (p.map (mpK an.K (gA ai.c))), .map (E.map (mpK an.K bA)), .own (aD.c t), .own [ag z, ag A], .own [ag B, ag C]]⟩) ?_ ?_
   ·clear hr
    have hr := L
    clear L
    obtain ⟨mz, M, hr⟩ := bd hr
    rcases bT mz with N | N
    ·subst N
     replace hr := bY rfl hr
     obtain ⟨oq, W, hr⟩ := bd hr
     refine .gn G (ca1 (fF (args := [ag (A3.get t g), .hp 1 0, .hp 2 0]) (l := [1, 2]) rfl (Sp (SnL.cons (Sn.hp rfl (.inl rfl) (SnC.cons (Sn.pure rfl) (SnC.cons (Sn.pure rfl) (SnC.cons (Sn.pure rfl) (SnC.cons (Sn.pure rfl) (SnC.cons (Sn.pure rfl) (SnC.cons (Sn.pure rfl) SnC.nil))))))) (SnL.cons (Sn.hp rfl (.inl rfl) (SnC.cons (Sn.pure rfl) SnC.nil)) SnL.nil))) (eG n (A3.get t g) c F q i d b a true M)) (ca3 (fF (args := [ag D, .hp 1 0, .hp 2 0]) (l := [1, 2]) rfl (Sp (SnL.cons (Sn.hp rfl (.inl rfl) (SnC.cons (Sn.pure rfl) (SnC.cons (Sn.pure rfl) (SnC.cons (Sn.pure rfl) (SnC.cons (Sn.pure rfl) (SnC.cons (Sn.pure rfl) (SnC.cons (Sn.pure rfl) SnC.nil))))))) (SnL.cons (Sn.hp rfl (.inl rfl) (SnC.cons (Sn.pure rfl) SnC.nil)) SnL.nil))) (eG n D c F q i d b a oq W)))) (.mu 2 (.ca cf0 (.mu 3 (.ca (cfA (fun h => by rw [sv W M (mC n (show ([ag D, .pp [ag c, ag F, ag q, ag i, ag d, bu b] 0, .pp [ag a] 0] : List AV) = [ag (A3.get t g), .pp [ag c, ag F, ag q, ag i, ag d, bu b] 0, .pp [ag a] 0] from (congr (congrArg List.cons (List.cons.inj h).1) (congr (congrArg List.cons rfl) (congr (congrArg List.cons rfl) rfl)))))]) cf0) (.mu 3 (.done ?_))))))
     obtain rfl := oi hr
     exact ⟨rfl, ((Wk.gc [1, 2, 3, 4, 5, 6, 7, 9, 10, 11, 22] [(0, true), (1, true), (2, true), (3, true), (4, true), (5, false), (6, false), (7, true), (8, true), (9, true)] rfl (pKt (pKt (pKt (pKt (pKt (pKM an.K (gA ai.c) (fun _ => rfl) p (pKM an.K bA (fun _ => rfl) E trivial)))))))).to)⟩
    subst N
    replace hr := bW rfl hr
    refine .g1 G (fF (args := [ag (A3.get t g), .hp 1 0, .hp 2 0]) (l := [1, 2]) rfl (Sp (SnL.cons (Sn.hp rfl (.inl rfl) (SnC.cons (Sn.pure rfl) (SnC.cons (Sn.pure rfl) (SnC.cons (Sn.pure rfl) (SnC.cons (Sn.pure rfl) (SnC.cons (Sn.pure rfl) (SnC.cons (Sn.pure rfl) SnC.nil))))))) (SnL.cons (Sn.hp rfl (.inl rfl) (SnC.cons (Sn.pure rfl) SnC.nil)) SnL.nil))) (eG n (A3.get t g) c F q i d b a false M)) (.mu 2 (.ca cf0 (.mu 7 (.done ?_))))
    obtain rfl := oi hr
    exact ⟨rfl, ((Wk.gc [1, 2, 3, 4, 5, 6, 7, 9, 10, 11, 22] [(0, true), (1, true), (2, true), (3, true), (4, true), (5, false), (6, false), (7, true), (8, true), (9, true)] rfl (pKt (pKt (pKt (pKt (pKt (pKM an.K (gA ai.c) (fun _ => rfl) p (pKM an.K bA (fun _ => rfl) E trivial)))))))).to)⟩
   rintro x st' O
   clear L
   obtain ⟨rfl, O⟩ := O
   refine .wk O ?_
   refine .cd hr ?_ ?_ <;> intro km hr
   ·obtain ⟨X, lG, hr⟩ := bd hr
    refine .g1 G (ok0 (m8 n (A3.get t g) D X lG)) (.mu 2 (.ca cf0 (.mu 2 (.done (.pop (.pop (.ru G ?_)))))))
    exact az (X.e0, X.e1, B, C, true, G1 (g + 1)) hr ((Wk.gc [1, 2, 3, 4, 5, 6, 7, 11] [(0, true), (1, true), (2, true), (3, true), (4, true), (5, false), (6, false), (7, true), (8, true), (9, true)] rfl (pKt (pKt (pKt (pKt (pKt (pKM an.K (gA ai.c) (fun _ => rfl) p (pKM an.K bA (fun _ => rfl) E trivial)))))))).to)
   refine .seq ?_
   obtain ⟨Y, R, hr⟩ := bd hr
   rcases bT (!Y) with I | I
   ·replace hr := bY I hr
    obtain ⟨ov, Z, hr⟩ := bd hr
    refine .gn G (ca1 (fF (args := [ag (A3.get t g), .hp 1 0, .hp 2 0]) (l := [1, 2]) rfl (Sp (SnL.cons (Sn.hp rfl (.inl rfl) (SnC.cons (Sn.pure rfl) (SnC.cons (Sn.pure rfl) (SnC.cons (Sn.pure rfl) (SnC.cons (Sn.pure rfl) (SnC.cons (Sn.pure rfl) (SnC.cons (Sn.pure rfl) SnC.nil))))))) (SnL.cons (Sn.hp rfl (.inl rfl) (SnC.cons (Sn.pure rfl) SnC.nil)) SnL.nil))) (eG n (A3.get t g) c F q i d b a Y R)) (ca3 (fF (args := [ag D, .hp 1 0, .hp 2 0]) (l := [1, 2]) rfl (Sp (SnL.cons (Sn.hp rfl (.inl rfl) (SnC.cons (Sn.pure rfl) (SnC.cons (Sn.pure rfl) (SnC.cons (Sn.pure rfl) (SnC.cons (Sn.pure rfl) (SnC.cons (Sn.pure rfl) (SnC.cons (Sn.pure rfl) SnC.nil))))))) (SnL.cons (Sn.hp rfl (.inl rfl) (SnC.cons (Sn.pure rfl) SnC.nil)) SnL.nil))) (eG n D c F q i d b a ov Z)))) (.mu 2 (.ca cf0 (.p0 (v := aB true) (eB I) (.mu 3 (.ca (cfA (fun h => by rw [sv Z R (mC n (show ([ag D, .pp [ag c, ag F, ag q, ag i, ag d, bu b] 0, .pp [ag a] 0] : List AV) = [ag (A3.get t g), .pp [ag c, ag F, ag q, ag i, ag d, bu b] 0, .pp [ag a] 0] from (congr (congrArg List.cons (List.cons.inj h).1) (congr (congrArg List.cons rfl) (congr (congrArg List.cons rfl) rfl)))))]) cf0) (.mu 2 (.done (.nh [1, 2, 3, 4, 5, 6, 7, 9, 10, 11, 35] [.own [.fn 88 [] [.hp 1 0, .hp 2 0]], .own [ag c, ag F, ag q, ag i, ag d, bu b], .own [ag a], .own [.mp 5], .own [.mp 6], .map (p.map (mpK an.K (gA ai.c))), .map (E.map (mpK an.K bA)), .own (aD.c t), .own [ag z, ag A], .own [ag B, ag C]] ?_))))))))
    refine .cd hr ?_ ?_ <;> intro lY hr
    ·obtain ⟨jD, mM, hr⟩ := bd hr
     refine .g1 G (ok0 (m8 n (A3.get t g) D jD mM)) (.mu 2 (.ca cf0 (.mu 1 (.done (.pop (.pop (.ru G ?_)))))))
     exact az (z, A, jD.e0, jD.e1, H, G1 (g + 1)) hr ((Wk.gc [1, 2, 3, 4, 5, 6, 7, 11] [(0, true), (1, true), (2, true), (3, true), (4, true), (5, false), (6, false), (7, true), (8, true), (9, true)] rfl (pKt (pKt (pKt (pKt (pKt (pKM an.K (gA ai.c) (fun _ => rfl) p (pKM an.K bA (fun _ => rfl) E trivial)))))))).to)
    refine .skip (.pop (.pop (.ru G ?_)))
    exact az (z, A, B, C, H, G1 (g + 1)) hr ((Wk.gc [1, 2, 3, 4, 5, 6, 7, 11] [(0, true), (1, true), (2, true), (3, true), (4, true), (5, false), (6, false), (7, true), (8, true), (9, true)] rfl (pKt (pKt (pKt (pKt (pKt (pKM an.K (gA ai.c) (fun _ => rfl) p (pKM an.K bA (fun _ => rfl) E trivial)))))))).to)
   replace hr := bW I hr
   refine .g1 G (fF (args := [ag (A3.get t g), .hp 1 0, .hp 2 0]) (l := [1, 2]) rfl (Sp (SnL.cons (Sn.hp rfl (.inl rfl) (SnC.cons (Sn.pure rfl) (SnC.cons (Sn.pure rfl) (SnC.cons (Sn.pure rfl) (SnC.cons (Sn.pure rfl) (SnC.cons (Sn.pure rfl) (SnC.cons (Sn.pure rfl) SnC.nil))))))) (SnL.cons (Sn.hp rfl (.inl rfl) (SnC.cons (Sn.pure rfl) SnC.nil)) SnL.nil))) (eG n (A3.get t g) c F q i d b a Y R)) (.mu 2 (.ca cf0 (.p0 (v := aB false) (eB I) (.mu 6 (.done (.nh [1, 2, 3, 4, 5, 6, 7, 9, 10, 11, 35] [.own [.fn 88 [] [.hp 1 0, .hp 2 0]], .own [ag c, ag F, ag q, ag i, ag d, bu b], .own [ag a], .own [.mp 5], .own [.mp 6], .map (p.map (mpK an.K (gA ai.c))), .map (E.map (mpK an.K bA)), .own (aD.c t), .own [ag z, ag A], .own [ag B, ag C]] (.cF kRf (.skip (.pop (.pop (.ru G ?_)))))))))))
   exact az (z, A, B, C, H, G1 (g + 1)) hr ((Wk.gc [1, 2, 3, 4, 5, 6, 7, 11] [(0, true), (1, true), (2, true), (3, true), (4, true), (5, false), (6, false), (7, true), (8, true), (9, true)] rfl (pKt (pKt (pKt (pKt (pKt (pKM an.K (gA ai.c) (fun _ => rfl) p (pKM an.K bA (fun _ => rfl) E trivial)))))))).to)
  refine .leave rfl ?_
  obtain rfl := oi hr
  exact ⟨rfl, ((Wk.gc [2, 3, 5, 6, 7] [(0, true), (1, true), (2, true), (3, true), (4, true), (5, false), (6, false), (8, true), (9, true)] rfl (pKt (pKt (pKt (pKt (pKt (pKM an.K (gA ai.c) (fun _ => rfl) p (pKM an.K bA (fun _ => rfl) E trivial)))))))).to)⟩
 rcases ki with ⟨u, w, j, o, J⟩
 rintro x st' S
 clear T
 obtain ⟨rfl, S⟩ := S
 refine aU _ rfl (.wk S (.seq (.r4 G [2, 3, 5, 6] [(49, aB J)] ?_)))
 refine .cd hr ?_ ?_ <;> intro lW hr
 ·refine .seq (.r0 G (.mu 3 (.e0 (v := .unk) (ws := [(5, .map ((eE p (A2.mk u w) (A2.mk j o)).map (mpK an.K (gA ai.c))))]) (tr (y := gu Tryz.prog [.own [.fn 88 [] [.hp 1 0, .hp 2 0]], .own [ag c, ag F, ag q, ag i, ag d, bu b], .own [ag a], .own [.mp 5], .own [.mp 6], .map (p.map (mpK an.K (gA ai.c))), .map (E.map (mpK an.K bA)), .own [ag u, ag w], .own [ag j, ag o]] 124 (.mp 5) (.agg [ag u, ag w]) (.agg [ag j, ag o])) (CY (kt := 101) (e := 101) (l := p) (f := (gA ai.c)) (v := A2.mk j o) (K := an.K) (x := A2.mk u w) an.key kRf kRf kRf kRf)) (.done (.nh [3, 6] [.own [.fn 88 [] [.hp 1 0, .hp 2 0]], .own [ag c, ag F, ag q, ag i, ag d, bu b], .own [ag a], .own [.mp 5], .own [.mp 6], .map ((eE p (A2.mk u w) (A2.mk j o)).map (mpK an.K (gA ai.c))), .map (E.map (mpK an.K bA)), .own [ag u, ag w], .own [ag j, ag o]] (.r0 G (.mu 2 (.e0 (v := .unk) (ws := [(6, .map ((eE E (A2.mk j o) true).map (mpK an.K bA)))]) (tr (y := gu Tryz.prog [.own [.fn 88 [] [.hp 1 0, .hp 2 0]], .own [ag c, ag F, ag q, ag i, ag d, bu b], .own [ag a], .own [.mp 5], .own [.mp 6], .map ((eE p (A2.mk u w) (A2.mk j o)).map (mpK an.K (gA ai.c))), .map (E.map (mpK an.K bA)), .own [ag u, ag w], .own [ag j, ag o]] 125 (.mp 6) (.agg [ag j, ag o]) (aB true)) (CY (kt := 101) (e := 4) (l := E) (f := bA) (v := true) (K := an.K) (x := A2.mk j o) an.key kRf kRf kRf kRf)) (.done ?_)))))))))
  obtain rfl := oi hr
  exact gj.normal [] ((Wk.gc [] [(0, true), (1, true), (2, true), (3, true), (4, true), (5, false), (6, false)] rfl (pKt (pKt (pKt (pKt (pKt (pKM an.K (gA ai.c) (fun _ => rfl) (eE p (A2.mk u w) (A2.mk j o)) (pKM an.K bA (fun _ => rfl) (eE E (A2.mk j o) true) trivial)))))))).to)
 refine .skip ?_
 obtain rfl := oi hr
 exact gj.normal [] ((Wk.gc [] [(0, true), (1, true), (2, true), (3, true), (4, true), (5, false), (6, false)] rfl (pKt (pKt (pKt (pKt (pKt (pKM an.K (gA ai.c) (fun _ => rfl) p (pKM an.K bA (fun _ => rfl) E trivial)))))))).to)

theorem gT (n : Nat) (g : al) (c : Int) (D : Int) (o : Int) (i : Int) (f : Int) (e : List Int) (d : Int) (q : List (A2 Int × A2 Int)) (p : List (A2 Int × Bool)) (r : List (A2 Int × A2 Int) × List (A2 Int × Bool)) (hr : aS n g c D o i f e d q p = some r) : dz 5 Tryz.prog 89 [.agg (al.c g), .fn 90 [] [.hp 0 0, .hp 3 0, .hp 4 0]] [.own [.fn 88 [] [.hp 1 0, .hp 2 0]], .own [ag c, ag D, ag o, ag i, ag f, bu e], .own [ag d], .own [.mp 5], .own [.mp 6], .map (q.map (mpK an.K (gA ai.c))), .map (p.map (mpK an.K bA))] (.tup []) [.own [.fn 88 [] [.hp 1 0, .hp 2 0]], .own [ag c, ag D, ag o, ag i, ag f, bu e], .own [ag d], .own [.mp 5], .own [.mp 6], .map (r.1.map (mpK an.K (gA ai.c))), .map (r.2.map (mpK an.K bA))] := by
 unfold aS at hr
 refine dz.qQ G Tryz.func89 (c := (Tryz.f89.body).getD .skip) rfl (us := []) (s := mkS 82 0 [(0, .agg (al.c g)), (1, .fn 90 [] [.hp 0 0, .hp 3 0, .hp 4 0])]) kRf (rs := []) rfl ?_
 unfold Tryz.f89
 simp only [gS]
 refine .seq (.r5 G [1] [(2, .hp 7 0)] [.own [.fn 88 [] [.hp 1 0, .hp 2 0]], .own [ag c, ag D, ag o, ag i, ag f, bu e], .own [ag d], .own [.mp 5], .own [.mp 6], .map (q.map (mpK an.K (gA ai.c))), .map (p.map (mpK an.K bA)), .own (al.c g)] (.seq (.r4 G [1, 2] [(4, ag g.Width)] (.seq (.r4 G [1, 2, 4] [(14, ag (G1 (g.Height - 1))), (15, ag 0)] (.block ?_))))))
 replace hr := bd hr; obtain ⟨jD, U, hr⟩ := hr
 refine .aN (σ := fun z0 => match z0 with | (E, F, h) => ⟨mkS 82 0 [(1, .fn 90 [] [.hp 0 0, .hp 3 0, .hp 4 0]), (2, .hp 7 0), (4, ag g.Width), (14, ag (G1 (g.Height - 1))), (15, ag h)], [.own [.fn 88 [] [.hp 1 0, .hp 2 0]], .own [ag c, ag D, ag o, ag i, ag f, bu e], .own [ag d], .own [.mp 5], .own [.mp 6], .map (E.map (mpK an.K (gA ai.c))), .map (F.map (mpK an.K bA)), .own (al.c g)]⟩) (Q := fun x st' => match (generalizing := false) jD with | (N, O) => x = .exit 0 /\ Wk 5 st' ⟨mkS 82 0 [], [.own [.fn 88 [] [.hp 1 0, .hp 2 0]], .own [ag c, ag D, ag o, ag i, ag f, bu e], .own [ag d], .own [.mp 5], .own [.mp 6], .map (N.map (mpK an.K (gA ai.c))), .map (O.map (mpK an.K bA))]⟩) U ((Wk.gc [1, 2, 4, 14, 15] [(0, true), (1, true), (2, true), (3, true), (4, true), (5, false), (6, false), (7, true)] rfl (pKt (pKt (pKt (pKt (pKt (pKM an.K (gA ai.c) (fun _ => rfl) q (pKM an.K bA (fun _ => rfl) p trivial)))))))).to) ?_ ?_
 ·clear hr
  rintro m ⟨E, F, h⟩ hr
  refine CQ.sh ?_
  refine .seq (.r4 G [1, 2, 4, 14, 15] [(16, aB (decide (h < (G1 (g.Height - 1)))))] (.seq ?_))
  refine .cd hr ?_ ?_ <;> intro mz hr
  ·refine .skip (.seq (.block (.seq (.r4 G [1, 2, 4, 14, 15] [(5, ag h)] (.seq (.r4 G [1, 2, 4, 5, 14, 15] [(19, ag (G1 (g.Width - 1))), (20, ag 0)] (.block ?_)))))))
   replace hr := bd hr; obtain ⟨ki, V, hr⟩ := hr
   refine .aN (σ := fun z0 => match z0 with | (t, u, l) => ⟨mkS 82 0 [(1, .fn 90 [] [.hp 0 0, .hp 3 0, .hp 4 0]), (2, .hp 7 0), (4, ag g.Width), (5, ag h), (14, ag (G1 (g.Height - 1))), (15, ag h), (19, ag (G1 (g.Width - 1))), (20, ag l)], [.own [.fn 88 [] [.hp 1 0, .hp 2 0]], .own [ag c, ag D, ag o, ag i, ag f, bu e], .own [ag d], .own [.mp 5], .own [.mp 6], .map (t.map (mpK an.K (gA ai.c))), .map (u.map (mpK an.K bA)), .own (al.c g)]⟩) (Q := fun x st' => match (generalizing := false) ki with | (H, I) => x = .exit 2 /\ Wk 5 st' ⟨mkS 82 0 [(1, .fn 90 [] [.hp 0 0, .hp 3 0, .hp 4 0]), (2, .hp 7 0), (4, ag g.Width), (14, ag (G1 (g.Height - 1))), (15, ag h)], [.own [.fn 88 [] [.hp 1 0, .hp 2 0]], .own [ag c, ag D, ag o, ag i, ag f, bu e], .own [ag d], .own [.mp 5], .own [.mp 6], .map (H.map (mpK an.K (gA ai.c))), .map (I.map (mpK an.K bA)), .own (al.c g)]⟩) V ((Wk.gc [1, 2, 4, 5, 14, 15, 19, 20] [(0, true), (1, true), (2, true), (3, true), (4, true), (5, false), (6, false), (7, true)] rfl (pKt (pKt (pKt (pKt (pKt (pKM an.K (gA ai.c) (fun _ => rfl) E (pKM an.K bA (fun _ => rfl) F trivial)))))))).to) ?_ ?_
   ·clear hr
    rintro m ⟨t, u, l⟩ hr
    refine CQ.sh ?_
    refine .seq (.r4 G [1, 2, 4, 5, 14, 15, 19, 20] [(21, aB (decide (l < (G1 (g.Width - 1)))))] (.seq ?_))
    refine .cd hr ?_ ?_ <;> intro oq hr
    ·refine .skip (.seq (.block (.seq (.r4 G [1, 2, 4, 5, 14, 15, 19, 20] [(6, ag l)] (.seq (.r4 G [1, 2, 4, 5, 14, 15, 19, 20] [(7, ag (G1 ((G1 (h * g.Width)) + l)))] ?_))))))
     obtain ⟨A, l8, hr⟩ := bd hr
     refine .wk ((Wk.refl _).to (c := ⟨mkS 82 0 [(1, .fn 90 [] [.hp 0 0, .hp 3 0, .hp 4 0]), (2, .hp 7 0), (4, ag g.Width), (5, ag h), (7, ag A), (14, ag (G1 (g.Height - 1))), (15, ag h), (19, ag (G1 (g.Width - 1))), (20, ag l)], [.own [.fn 88 [] [.hp 1 0, .hp 2 0]], .own [ag c, ag D, ag o, ag i, ag f, bu e], .own [ag d], .own [.mp 5], .own [.mp 6], .map (t.map (mpK an.K (gA ai.c))), .map (u.map (mpK an.K bA)), .own (al.c g)]⟩) (by rw [oi l8]; first | done | kernel_rfl)) <| .seq <| .r5 G [1, 2, 4, 5, 14, 15, 19, 20] [(45, .hs 8 0 2 3), (46, ag 2), (47, ag 0)] [.own [.fn 88 [] [.hp 1 0, .hp 2 0]], .own [ag c, ag D, ag o, ag i, ag f, bu e], .own [ag d], .own [.mp 5], .own [.mp 6], .map (t.map (mpK an.K (gA ai.c))), .map (u.map (mpK an.K bA)), .own (al.c g), .own [ag A, ag (G1 (A + 1)), ag (G1 ((G1 (A + g.Width)) + 1)), ag A, ag (G1 ((G1 (A + g.Width)) + 1)), ag (G1 (A + g.Width))]] <| .block ?_
     obtain ⟨b, lG, hr⟩ := bd hr
     refine .wk ((Wk.refl _).to (c := ⟨mkS 82 0 [(1, .fn 90 [] [.hp 0 0, .hp 3 0, .hp 4 0]), (2, .hp 7 0), (4, ag g.Width), (5, ag h), (14, ag (G1 (g.Height - 1))), (15, ag h), (19, ag (G1 (g.Width - 1))), (20, ag l), (45, .hs 8 0 b.length 3), (46, ag 2), (47, ag 0)], [.own [.fn 88 [] [.hp 1 0, .hp 2 0]], .own [ag c, ag D, ag o, ag i, ag f, bu e], .own [ag d], .own [.mp 5], .own [.mp 6], .map (t.map (mpK an.K (gA ai.c))), .map (u.map (mpK an.K bA)), .own (al.c g), .own (b.flatMap aD.c)]⟩) (by rw [<- oi lG]; kernel_rfl)) ?_
     replace hr := bd hr; obtain ⟨lP, W, hr⟩ := hr
     refine .aN (σ := fun z0 => match z0 with | (j, k, a) => ⟨mkS 82 0 [(1, .fn 90 [] [.hp 0 0, .hp 3 0, .hp 4 0]), (2, .hp 7 0), (4, ag g.Width), (5, ag h), (14, ag (G1 (g.Height - 1))), (15, ag h), (19, ag (G1 (g.Width - 1))), (20, ag l), (45, .hs 8 0 b.length 3), (46, ag 2), (47, ag a)], [.own [.fn 88 [] [.hp 1 0, .hp 2 0]], .own [ag c, ag D, ag o, ag i, ag f, bu e], .own [ag d], .own [.mp 5], .own [.mp 6], .map (j.map (mpK an.K (gA ai.c))), .map (k.map (mpK an.K bA)), .own (al.c g), .own (b.flatMap aD.c)]⟩) (Q := fun x st' => match (generalizing := false) lP with | (J, L) => x = .exit 4 /\ Wk 5 st' ⟨mkS 82 0 [(1, .fn 90 [] [.hp 0 0, .hp 3 0, .hp 4 0]), (2, .hp 7 0), (4, ag g.Width), (5, ag h), (14, ag (G1 (g.Height - 1))), (15, ag h), (19, ag (G1 (g.Width - 1))), (20, ag l)], [.own [.fn 88 [] [.hp 1 0, .hp 2 0]], .own [ag c, ag D, ag o, ag i, ag f, bu e], .own [ag d], .own [.mp 5], .own [.mp 6], .map (J.map (mpK an.K (gA ai.c))), .map (L.map (mpK an.K bA)), .own (al.c g)]⟩) W ((Wk.gc [1, 2, 4, 5, 14, 15, 19, 20, 45, 46, 47] [(0, true), (1, true), (2, true), (3, true), (4, true), (5, false), (6, false), (7, true), (8, false)] rfl (pKt (pKt (pKt (pKt (pKt (pKM an.K (gA ai.c) (fun _ => rfl) t (pKM an.K bA (fun _ => rfl) u (pKt (pKo aD.c aD.pure b trivial)))))))))).to) ?_ ?_
     ·clear hr
      rintro m ⟨j, k, a⟩ hr
      refine CQ.sh ?_
      refine .seq (.r4 G [1, 2, 4, 5, 14, 15, 19, 20, 45, 46, 47] [(48, aB (decide (a < 2)))] (.seq ?_))
      refine .cd hr ?_ ?_ <;> intro ov hr
      ·refine .skip (.seq (.block (.seq ?_)))
       obtain ⟨X, hr⟩ := gd hr
       refine .r0 G (.p0 (v := .hp 8 (0 + a.toNat * 3)) (tr (ar X)) (.p0 (v := .agg (aD.c (gt b a))) (tr (y := bt.ofP (gO (decide (3 <= ((b.flatMap aD.c).drop (0 + a.toNat * 3)).length)) (.agg (((b.flatMap aD.c).drop (0 + a.toNat * 3)).take 3)))) (dr aD.len (aE X) (by decide) (by omega : 0 + a.toNat * 3 = a.toNat * 3 + 0) kRf)) (.mu 2 (.done (.nh [1, 2, 4, 5, 9, 14, 15, 19, 20, 45, 46, 47] [.own [.fn 88 [] [.hp 1 0, .hp 2 0]], .own [ag c, ag D, ag o, ag i, ag f, bu e], .own [ag d], .own [.mp 5], .own [.mp 6], .map (j.map (mpK an.K (gA ai.c))), .map (k.map (mpK an.K bA)), .own (al.c g), .own (b.flatMap aD.c), .own (aD.c (gt b a))] (.seq ?_))))))
       obtain ⟨w, hr⟩ := gd hr
       rcases bT (((gt g.Z (gt b a).e0) : Int) != (-2147483648)) with z | z
       ·replace hr := bY z hr
        obtain ⟨M, hr⟩ := gd hr
        rcases bT (((gt g.Z (gt b a).e1) : Int) != (-2147483648)) with B | B
        ·replace hr := bY B hr
         obtain ⟨Y, hr⟩ := gd hr
         refine .r0 G (.mu 4 (.p0 (v := .pp (g.Z.flatMap (iC .i64)) ((gt b a).e0.toNat * 1)) (tr (ar w)) (.p0 (v := ag (gt g.Z (gt b a).e0)) (tr (aI (aJ (aG .i64) (aE w) z1 (by omega : (gt b a).e0.toNat * 1 = (gt b a).e0.toNat * 1 + 0) kRf))) (.p0 (v := aB true) (eB z) (.mu 5 (.pure (v := .pp (g.Z.flatMap (iC .i64)) ((gt b a).e1.toNat * 1)) kRf (tr (ar M)) (.pure (v := ag (gt g.Z (gt b a).e1)) kRf (tr (aI (aJ (aG .i64) (aE M) z1 (by omega : (gt b a).e1.toNat * 1 = (gt b a).e1.toNat * 1 + 0) kRf))) (.pure (v := aB true) kRf (eB B) (.mu 6 (.pure (v := .pp (g.Z.flatMap (iC .i64)) ((gt b a).e2.toNat * 1)) kRf (tr (ar Y)) (.pure (v := ag (gt g.Z (gt b a).e2)) kRf (tr (aI (aJ (aG .i64) (aE Y) z1 (by omega : (gt b a).e2.toNat * 1 = (gt b a).e2.toNat * 1 + 0) kRf))) (.mu 2 (.done (.nh [1, 2, 4, 5, 9, 14, 15, 19, 20, 45, 46, 47, 75] [.own [.fn 88 [] [.hp 1 0, .hp 2 0]], .own [ag c, ag D, ag o, ag i, ag f, bu e], .own [ag d], .own [.mp 5], .own [.mp 6], .map (j.map (mpK an.K (gA ai.c))), .map (k.map (mpK an.K bA)), .own (al.c g), .own (b.flatMap aD.c), .own (aD.c (gt b a))] ?_))))))))))))))
         refine .cd hr ?_ ?_ <;> intro py hr
         ·obtain ⟨C, mM, hr⟩ := bd hr
          refine .g1 G (jO 0 (.own [.fn 88 [] [.hp 1 0, .hp 2 0]]) [] [(1, .own [ag c, ag D, ag o, ag i, ag f, bu e]), (2, .own [ag d]), (3, .own [.mp 10]), (4, .own [.mp 11]), (10, .map (C.1.map (mpK an.K (gA ai.c)))), (11, .map (C.2.map (mpK an.K bA))), (5, .dead), (6, .dead)] (cL (args := [.agg (aD.c (gt b a)), .hp 0 0, .hp 3 0, .hp 4 0]) 5 2 [(0, true), (1, true), (2, true), (3, true), (4, true), (5, false), (6, false)] [true, true, true, true, true, false, false] (pY n (gt b a) c D o i f e d j k C mM) (by exact ⟨fI (fun _ => rfl) _, ⟨fI (fun _ => rfl) _, trivial⟩⟩) (by exact ⟨fI (fun _ => rfl) _, ⟨fI (fun _ => rfl) _, trivial⟩⟩) rfl rfl kRf kRf)) (.mu 2 (.ca cf0 (.done (.pop (.ru G ?_)))))
          exact az (C.1, C.2, G1 (a + 1)) hr ((Wk.gc [1, 2, 4, 5, 14, 15, 19, 20, 45, 46, 47] [(0, true), (1, true), (2, true), (3, true), (4, true), (10, false), (11, false), (7, true), (8, false)] rfl (pKt (pKt (pKt (pKt (pKt (pKM an.K (gA ai.c) (fun _ => rfl) C.1 (pKM an.K bA (fun _ => rfl) C.2 (pKt (pKo aD.c aD.pure b trivial)))))))))).to)
         refine .skip (.pop (.ru G ?_))
         exact az (j, k, G1 (a + 1)) hr ((Wk.gc [1, 2, 4, 5, 14, 15, 19, 20, 45, 46, 47] [(0, true), (1, true), (2, true), (3, true), (4, true), (5, false), (6, false), (7, true), (8, false)] rfl (pKt (pKt (pKt (pKt (pKt (pKM an.K (gA ai.c) (fun _ => rfl) j (pKM an.K bA (fun _ => rfl) k (pKt (pKo aD.c aD.pure b trivial)))))))))).to)
        replace hr := bW B hr
        refine .r0 G (.mu 4 (.p0 (v := .pp (g.Z.flatMap (iC .i64)) ((gt b a).e0.toNat * 1)) (tr (ar w)) (.p0 (v := ag (gt g.Z (gt b a).e0)) (tr (aI (aJ (aG .i64) (aE w) z1 (by omega : (gt b a).e0.toNat * 1 = (gt b a).e0.toNat * 1 + 0) kRf))) (.p0 (v := aB true) (eB z) (.mu 5 (.pure (v := .pp (g.Z.flatMap (iC .i64)) ((gt b a).e1.toNat * 1)) kRf (tr (ar M)) (.pure (v := ag (gt g.Z (gt b a).e1)) kRf (tr (aI (aJ (aG .i64) (aE M) z1 (by omega : (gt b a).e1.toNat * 1 = (gt b a).e1.toNat * 1 + 0) kRf))) (.pure (v := aB false) kRf (eB B) (.mu 10 (.done (.nh [1, 2, 4, 5, 9, 14, 15, 19, 20, 45, 46, 47, 75] [.own [.fn 88 [] [.hp 1 0, .hp 2 0]], .own [ag c, ag D, ag o, ag i, ag f, bu e], .own [ag d], .own [.mp 5], .own [.mp 6], .map (j.map (mpK an.K (gA ai.c))), .map (k.map (mpK an.K bA)), .own (al.c g), .own (b.flatMap aD.c), .own (aD.c (gt b a))] (.cF kRf (.skip (.pop (.ru G ?_)))))))))))))))
        exact az (j, k, G1 (a + 1)) hr ((Wk.gc [1, 2, 4, 5, 14, 15, 19, 20, 45, 46, 47] [(0, true), (1, true), (2, true), (3, true), (4, true), (5, false), (6, false), (7, true), (8, false)] rfl (pKt (pKt (pKt (pKt (pKt (pKM an.K (gA ai.c) (fun _ => rfl) j (pKM an.K bA (fun _ => rfl) k (pKt (pKo aD.c aD.pure b trivial)))))))))).to)
       replace hr := bW z hr
       refine .r0 G (.mu 4 (.p0 (v := .pp (g.Z.flatMap (iC .i64)) ((gt b a).e0.toNat * 1)) (tr (ar w)) (.p0 (v := ag (gt g.Z (gt b a).e0)) (tr (aI (aJ (aG .i64) (aE w) z1 (by omega : (gt b a).e0.toNat * 1 = (gt b a).e0.toNat * 1 + 0) kRf))) (.p0 (v := aB false) (eB z) (.mu 18 (.done (.nh [1, 2, 4, 5, 9, 14, 15, 19, 20, 45, 46, 47, 75] [.own [.fn 88 [] [.hp 1 0, .hp 2 0]], .own [ag c, ag D, ag o, ag i, ag f, bu e], .own [ag d], .own [.mp 5], .own [.mp 6], .map (j.map (mpK an.K (gA ai.c))), .map (k.map (mpK an.K bA)), .own (al.c g), .own (b.flatMap aD.c), .own (aD.c (gt b a))] (.cF kRf (.skip (.pop (.ru G ?_)))))))))))
       exact az (j, k, G1 (a + 1)) hr ((Wk.gc [1, 2, 4, 5, 14, 15, 19, 20, 45, 46, 47] [(0, true), (1, true), (2, true), (3, true), (4, true), (5, false), (6, false), (7, true), (8, false)] rfl (pKt (pKt (pKt (pKt (pKt (pKM an.K (gA ai.c) (fun _ => rfl) j (pKM an.K bA (fun _ => rfl) k (pKt (pKo aD.c aD.pure b trivial)))))))))).to)
      refine .leave rfl ?_
      obtain rfl := oi hr
      exact ⟨rfl, ((Wk.gc [1, 2, 4, 5, 14, 15, 19, 20] [(0, true), (1, true), (2, true), (3, true), (4, true), (5, false), (6, false), (7, true)] rfl (pKt (pKt (pKt (pKt (pKt (pKM an.K (gA ai.c) (fun _ => rfl) j (pKM an.K bA (fun _ => rfl) k trivial)))))))).to)⟩
     rcases lP with ⟨J, L⟩
     rintro x st' R
     clear W
     obtain ⟨rfl, R⟩ := R
     refine aU _ rfl (.pop (.wk R (.ru G ?_)))
     exact az (J, L, G1 (l + 1)) hr ((Wk.gc [1, 2, 4, 5, 14, 15, 19, 20] [(0, true), (1, true), (2, true), (3, true), (4, true), (5, false), (6, false), (7, true)] rfl (pKt (pKt (pKt (pKt (pKt (pKM an.K (gA ai.c) (fun _ => rfl) J (pKM an.K bA (fun _ => rfl) L trivial)))))))).to)
    refine .leave rfl ?_
    obtain rfl := oi hr
    exact ⟨rfl, ((Wk.gc [1, 2, 4, 14, 15] [(0, true), (1, true), (2, true), (3, true), (4, true), (5, false), (6, false), (7, true)] rfl (pKt (pKt (pKt (pKt (pKt (pKM an.K (gA ai.c) (fun _ => rfl) t (pKM an.K bA (fun _ => rfl) u trivial)))))))).to)⟩
   rcases ki with ⟨H, I⟩
   rintro x st' S
   clear V
   obtain ⟨rfl, S⟩ := S
   refine aU _ rfl (.pop (.wk S (.ru G ?_)))
   exact az (H, I, G1 (h + 1)) hr ((Wk.gc [1, 2, 4, 14, 15] [(0, true), (1, true), (2, true), (3, true), (4, true), (5, false), (6, false), (7, true)] rfl (pKt (pKt (pKt (pKt (pKt (pKM an.K (gA ai.c) (fun _ => rfl) H (pKM an.K bA (fun _ => rfl) I trivial)))))))).to)
  refine .leave rfl ?_
  obtain rfl := oi hr
  exact ⟨rfl, ((Wk.gc [] [(0, true), (1, true), (2, true), (3, true), (4, true), (5, false), (6, false)] rfl (pKt (pKt (pKt (pKt (pKt (pKM an.K (gA ai.c) (fun _ => rfl) E (pKM an.K bA (fun _ => rfl) F trivial)))))))).to)⟩
 rcases jD with ⟨N, O⟩
 rintro x st' T
 clear U
 obtain ⟨rfl, T⟩ := T
 refine aU _ rfl ?_
 obtain rfl := oi hr
 exact gj.wk T (gj.normal [] ((Wk.gc [] [(0, true), (1, true), (2, true), (3, true), (4, true), (5, false), (6, false)] rfl (pKt (pKt (pKt (pKt (pKt (pKM an.K (gA ai.c) (fun _ => rfl) N (pKM an.K bA (fun _ => rfl) O trivial)))))))).to))

theorem gP [Dr] (n : Nat) (a : A2 Int) (b : A2 Int) (r : Int) (hr : dd n a b = some r) : aK Tryz.prog 54 [.agg (ai.c a), .agg (ai.c b)] (ag r) := by
 unfold dd at hr
 refine aK.bd G Tryz.func54 [.tmp 4] ?_
 unfold Tryz.f54
 simp only [gS]
 refine .seq (.r2 G 20 [(2, .hp 0 0), (3, .hp 1 0)] [.own (ai.c a), .own (ai.c b)] (.seq (.seq (.r4 G [2, 3] [(9, aB ((a.e0 : Int) != b.e0))] ?_))))
 refine .cd hr ?_ ?_ <;> intro d hr
 ·refine .seq (.ru G (.ret ?_))
  obtain rfl := oi hr
  exact aH.r1 [ag (G1 (a.e0 - b.e0))]
 refine .skip (.seq (.ru G (.ret ?_)))
 obtain rfl := oi hr
 exact aH.r1 [ag (G1 (a.e1 - b.e1))]

theorem cu (n : Nat) (a : List (A2 Int)) (r : List (A2 Int)) (hr : au n a = some r) : dz 1 Tryz.prog 92 [.hs 0 0 a.length 2, .fn 54 [] []] [.own (a.flatMap ai.c)] (.tup []) [.own (r.flatMap ai.c)] := by
 unfold au at hr
 obtain ⟨b, hr⟩ := gd hr
 exact dz.Cb (c := ai.c) (caps' := []) (Go.Proofs.YtecdcgfclgmbpaaGreat.vG (enters_of Tryz.func54 kRf rfl)) Go.Proofs.YtecdcgfclgmbpaaGreat.BK ai.len ai.pure hr (dcT b) SnL.nil (fun x y r hc => @gP ⟨true⟩ n x y r hc)

theorem se {b : Int} {a : Int} (h : ([.at (.int .u64 b)] : List AV) = [.at (.int .u64 a)]) : b = a := by
 simp only [List.cons.injEq, AV.agg.injEq, AV.at.injEq, Value.int.injEq, Value.bool.injEq, AV.fn.injEq, AV.pp.injEq, true_and, and_true] at h
 simp_all
theorem ti (n : Nat) {b : Int} {a : Int} (h : ([.at (.int .u64 b)] : List AV) = [.at (.int .u64 a)]) : ck n b = ck n a := by
 obtain rfl := se h
 rfl
theorem et (n : Nat) (i : Int) (r : List Int) (hr : ck n i = some r) : aK Tryz.prog 148 [cx i] (av r) := by
 unfold ck at hr
 refine aK.bd G Tryz.func148 [.tmp 2] ?_
 unfold Tryz.f148
 simp only [gS]
 refine .seq (.r4 G [0] [] (.seq (.r4 G [0] [(3, nS)] (.seq (.block ?_)))))
 replace hr := bd hr; obtain ⟨d, e, hr⟩ := hr
 refine .aN (σ := fun j => match j with | (a, b) => ⟨mkS 15 0 [(0, cx a), (3, .hs 0 0 b.length 1)], [.own (b.flatMap iCu)]⟩) (Q := fun x st' => x = .exit 0 /\ Wk 0 st' ⟨mkS 15 0 [(3, .hs 0 0 d.length 1)], [.own (d.flatMap iCu)]⟩) e ((Wk.nil 3 1 kRf).trans ((Wk.gc [0, 3] [(0, false)] rfl (pKc trivial)).to)) ?_ ?_
 ·clear hr
  rintro m ⟨a, b⟩ hr
  refine CQ.sh ?_
  refine .seq (.seq (.r4 G [0, 3] [(5, aB (decide (a > 0)))] ?_))
  refine .cd hr ?_ ?_ <;> intro k hr
  ·refine .skip (.seq (.block ?_))
   obtain ⟨g, f, hr⟩ := gd2 hr
   refine .r0 G (.mu 5 (.e0 (v := .hs 2 0 (b ++ [aa .u32 (a.tmod 1000000000)]).length 1) (ws := [(0, .dead), (2, .own ((b ++ [aa .u32 (a.tmod 1000000000)]).flatMap iCu))]) (tr (dX (new := [a7 (aa .u32 (a.tmod 1000000000))]) (l := b) (xs := [aa .u32 (a.tmod 1000000000)]) (aG .u32) rfl rfl kRf g f)) (.mu 1 (.done (.pop (.ru G ?_))))))
   exact az (wFu (a.tdiv 1000000000), b ++ [aa .u32 (a.tmod 1000000000)]) hr ((Wk.gc [0, 3] [(2, false)] rfl (pKo iCu (aA _) (b ++ [aa .u32 (a.tmod 1000000000)]) trivial)).to)
  refine .leave rfl ?_
  obtain rfl := oi hr
  exact ⟨rfl, ((Wk.gc [3] [(0, false)] rfl (pKo iCu (aA _) b trivial)).to)⟩
 rintro x st' c
 clear e
 obtain ⟨rfl, c⟩ := c
 refine aU _ rfl (.wk c (.seq (.r3 G 15 [(2, .hs 0 0 d.length 1)] (.ret ?_))))
 obtain rfl := oi hr
 exact aH.ret (vs := [.hs 0 0 d.length 1]) kRf (Sn.hs rfl (.inl rfl) (SnC.pure (aY (aA _) _)) (fun h => cc h))

theorem fN (n : Nat) (g : List Int) (r : List Int) (hr : de n g = some r) : aK Tryz.prog 184 [av g] (av r) := by
 unfold de at hr
 refine aK.bd G Tryz.func184 [.tmp 2] ?_
 unfold Tryz.f184
 simp only [gS]
 refine .seq (.r4 G [0] [] (.seq (.block ?_)))
 replace hr := bd hr; obtain ⟨f, d, hr⟩ := hr
 refine .aN (σ := fun k => match k with | a => ⟨mkS 21 0 [(0, av a)], []⟩) (Q := fun x st' => x = .exit 0 /\ Wk 0 st' ⟨mkS 21 0 [(0, av f)], []⟩) d ((Wk.gc [0] [] rfl pK0).to) ?_ ?_
 ·clear hr
  rintro m a hr
  refine CQ.sh ?_
  refine .seq (.seq ?_)
  rcases bT (decide ((a.length : Int) > 0)) with b | b
  ·replace hr := bY b hr
   obtain ⟨h, hr⟩ := gd hr
   refine .r0 G (.mu 2 (.p0 (v := aB true) (eB b) (.mu 5 (.pure (v := .pp (a.flatMap iCu) ((G1 ((a.length : Int) - 1)).toNat * 1)) kRf (tr (ar h)) (.pure (v := a7 (gt a (G1 ((a.length : Int) - 1)))) kRf (tr (aI (aJ (aG .u32) (aE h) z1 (by omega : (G1 ((a.length : Int) - 1)).toNat * 1 = (G1 ((a.length : Int) - 1)).toNat * 1 + 0) kRf))) (.mu 2 (.done (.nh [0, 14] [] ?_))))))))
   refine .cd hr ?_ ?_ <;> intro i hr
   ·refine .skip (.block ?_)
    obtain ⟨e, hr⟩ := gd hr
    refine .r0 G (.mu 4 (.p0 (v := av ((a.drop (0 : Int).toNat).take ((G1 ((a.length : Int) - 1)).toNat - (0 : Int).toNat))) (tr (y := slO (inS 0 (G1 ((a.length : Int) - 1)) a.length) (0 : Int).toNat (G1 ((a.length : Int) - 1)).toNat (fun z1 j => .sl true (((a.flatMap iCu).drop (z1 * 1)).take ((j - z1) * 1)) (j - z1))) (wu e (td (aG _) (pR e)))) (.mu 1 (.done (.pop ?_)))))
    exact az ((a.drop (0 : Int).toNat).take ((G1 ((a.length : Int) - 1)).toNat - (0 : Int).toNat)) hr ((Wk.gc [0] [] rfl pK0).to)
   refine .leave rfl ?_
   obtain rfl := oi hr
   exact ⟨rfl, ((Wk.gc [0] [] rfl pK0).to)⟩
  replace hr := bW b hr
  refine .r0 G (.mu 2 (.p0 (v := aB false) (eB b) (.mu 9 (.done (.nh [0, 14] [] (.cF kRf (.leave rfl ?_)))))))
  obtain rfl := oi hr
  exact ⟨rfl, ((Wk.gc [0] [] rfl pK0).to)⟩
 rintro x st' c
 clear d
 obtain ⟨rfl, c⟩ := c
 refine aU _ rfl (.wk c (.seq (.ru G (.ret ?_))))
 obtain rfl := oi hr
 exact aH.r1 [av f]

theorem sZ {negative : Bool} {g : List Int} {negative_ : Bool} {a : List Int} (h : ([.at (.bool negative), slT iCu g] : List AV) = [.at (.bool negative_), slT iCu a]) : negative = negative_ /\ g = a := by
 simp only [List.cons.injEq, AV.agg.injEq, AV.at.injEq, Value.int.injEq, Value.bool.injEq, AV.fn.injEq, AV.pp.injEq, true_and, and_true, dt] at h
 simp_all
theorem lE (n : Nat) {negative : Bool} {g : List Int} {negative_ : Bool} {a : List Int} (h : ([.at (.bool negative), slT iCu g] : List AV) = [.at (.bool negative_), slT iCu a]) : bj n negative g = bj n negative_ a := by
 obtain ⟨rfl, rfl⟩ := sZ h
 rfl
theorem bF (n : Nat) (negative : Bool) (g : List Int) (r : ae) (hr : bj n negative g = some r) : aK Tryz.prog 147 [aB negative, av g] (.agg (ae.c r)) := by
 unfold bj at hr
 refine aK.bd G Tryz.func147 [.cell 4 40] ?_
 unfold Tryz.f147
 simp only [gS]
 refine .seq (.r5 G [0, 1] [(4, .hp 0 0)] [.own [aB false, nS]] (.seq ?_))
 obtain ⟨a, b, hr⟩ := bd hr
 refine .g1 G (ok0 (fN n g a b)) (.mu 1 (.ca cf0 (.mu 1 (.done (.nh [0, 1, 4] [.own [aB false, nS]] (.seq (.seq (.r4 G [0, 1, 4] [(9, aB (((a.length : Int) : Int) == 0))] ?_))))))))
 refine .cd hr ?_ ?_ <;> intro d hr
 ·refine .seq (.r4 G [4] [] (.ret ?_))
  obtain rfl := oi hr
  exact aH.ret (vs := [.agg [aB false, nS]]) kRf (Sn.agg (Sp (SnL.cons Sn.ft SnL.nil)))
 refine .skip (.seq (.r5 G [4] [] [.own [aB negative, av a]] (.ret ?_)))
 obtain rfl := oi hr
 exact aH.r1 [.agg [aB negative, av a]]

theorem qO (n : Nat) {b : Int} {a : Int} (h : ([.at (.int .i64 b)] : List AV) = [.at (.int .i64 a)]) : e9 n b = e9 n a := by
 obtain rfl := dP h
 rfl
theorem im (n : Nat) (a : Int) (r : ae) (hr : e9 n a = some r) : aK Tryz.prog 108 [ag a] (.agg (ae.c r)) := by
 unfold e9 at hr
 refine aK.bd G Tryz.func108 [.cell 2 40] ?_
 unfold Tryz.f108
 simp only [gS]
 refine .seq (.r5 G [0] [(2, .hp 0 0)] [.own [aB false, nS]] (.seq (.r4 G [0, 2] [(3, cx (wFu a))] (.seq (.seq (.r4 G [0, 2, 3] [(7, aB (decide (a < 0)))] ?_))))))
 refine .cd hr ?_ ?_ <;> intro b hr
 ·refine .r0 G (.mu 1 (.p0 (v := cx (wFu (0 - (wFu a)))) (tr (y := some (.pure (cx (IntKind.wrap .u64 (0 - (wFu a)))))) xy) (.mu 1 (.done (.nh [0, 2, 3] [.own [aB false, nS]] (.seq ?_))))))
  obtain ⟨j, d, e, f, hr⟩ := bd2 hr
  refine .gn G (ca1 (ok0 (et n (wFu (0 - (wFu a))) j d)) (ca3 (ok0 (bF n true j e f)))) (.mu 1 (.p0 (v := aB true) (eB b) (.mu 1 (.ca cf0 (.ca (cfF cf0) (.mu 1 (.done (.nh [2] [.own (ae.c e)] (.ret ?_)))))))))
  obtain rfl := oi hr
  exact aH.r1 [.agg (ae.c e)]
 refine .skip (.seq ?_)
 obtain ⟨k, g, h, i, hr⟩ := bd2 hr
 refine .gn G (ca1 (ok0 (et n (wFu a) k g)) (ca3 (ok0 (bF n false k h i)))) (.mu 1 (.p0 (v := aB false) (eB b) (.mu 1 (.ca cf0 (.ca (cfF cf0) (.mu 1 (.done (.nh [2] [.own (ae.c h)] (.ret ?_)))))))))
 obtain rfl := oi hr
 exact aH.r1 [.agg (ae.c h)]

theorem rJ (n : Nat) (g : Int) (r : Bool) (hr : lC n g = some r) : aK Tryz.prog 178 [a7 g] (aB r) := by
 unfold lC at hr
 refine aK.bd G Tryz.func178 [.tmp 2] ?_
 unfold Tryz.f178
 simp only [gS]
 refine .seq (.r4 G [0] [] (.seq (.ru G (.ret ?_))))
 obtain rfl := oi hr
 exact aH.r1 [aB (decide (g >= 1000000000))]

theorem fk (n : Nat) (s : List Int) (r : Int) (hr : bc n s = some r) : aK Tryz.prog 197 [av s, .fn 178 [] []] (ag r) := by
 unfold bc at hr
 refine aK.bd G Tryz.func197 [.tmp 4] ?_
 unfold Tryz.f197
 simp only [gS]
 refine .seq (.r4 G [0, 1] [] (.seq (.seq (.r4 G [0, 1] [(7, ag (s.length : Int)), (8, ag 0)] (.block ?_)))))
 replace hr := bd hr; obtain ⟨d, c, hr⟩ := hr
 refine .aN (σ := fun i => match i with | a => ⟨mkS 19 0 [(0, av s), (1, .fn 178 [] []), (7, ag (s.length : Int)), (8, ag a)], []⟩) (Q := fun x st' => match (generalizing := false) d with | .inl _ => x = .exit 0 /\ Wk 0 st' ⟨mkS 19 0 [], []⟩ | .inr (r0) => x = .ret /\ aH Tryz.prog [.tmp 4] (ag r0) .ret st') c ((Wk.gc [0, 1, 7, 8] [] rfl pK0).to) ?_ ?_
 ·clear hr
  rintro m a hr
  refine CQ.sh ?_
  refine .seq (.r4 G [0, 1, 7, 8] [(9, aB (decide (a < (s.length : Int))))] (.seq ?_))
  refine .cd hr ?_ ?_ <;> intro j hr
  ·refine .skip (.seq (.block (.seq (.r4 G [0, 1, 7, 8] [(5, ag a)] (.seq ?_)))))
   obtain ⟨e, hr⟩ := gd hr
   obtain ⟨g, f, hr⟩ := bd hr
   refine .g1 G (ok0 (rJ n (gt s a) g f)) (.mu 3 (.p0 (v := .pp (s.flatMap iCu) (a.toNat * 1)) (tr (ar e)) (.p0 (v := a7 (gt s a)) (tr (aI (aJ (aG .u32) (aE e) z1 (by omega : a.toNat * 1 = a.toNat * 1 + 0) kRf))) (.ca cf0 (.done (.nh [0, 1, 5, 7, 8, 16] [] ?_))))))
   refine .cd hr ?_ ?_ <;> intro h hr
   ·refine .seq (.ru G (.ret ?_))
    obtain rfl := oi hr
    exact ⟨rfl, aH.ret (vs := [ag a]) kRf (Sn.pure rfl)⟩
   refine .skip (.pop (.ru G ?_))
   exact az (G1 (a + 1)) hr ((Wk.gc [0, 1, 7, 8] [] rfl pK0).to)
  refine .leave rfl ?_
  obtain rfl := oi hr
  exact ⟨rfl, ((Wk.gc [] [] rfl pK0).to)⟩
 rcases d with ⟨⟩ | r0
 ·rintro x st' b
  clear c
  obtain ⟨rfl, b⟩ := b
  refine aU _ rfl (.wk b (.seq (.ru G (.ret ?_))))
  obtain rfl := oi hr
  exact aH.r1 [ag (-1)]
 rintro x st' b
 clear c
 obtain ⟨rfl, b⟩ := b
 obtain rfl := oi hr
 exact gJ _ b

theorem eR (n : Nat) (s : List Int) (r : Bool) (hr : aW n s = some r) : aK Tryz.prog 177 [av s, .fn 178 [] []] (aB r) := by
 unfold aW at hr
 refine aK.bd G Tryz.func177 [.tmp 4] ?_
 unfold Tryz.f177
 simp only [gS]
 refine .seq (.r4 G [0, 1] [] (.seq ?_))
 obtain ⟨b, a, hr⟩ := bd hr
 refine .g1 G (ok0 (fk n s b a)) (.mu 2 (.ca cf0 (.mu 2 (.done (.ret ?_)))))
 obtain rfl := oi hr
 exact aH.r1 [aB (decide (b >= 0))]

theorem dK {b : ae} {a : ae} (h : ([.agg [.at (.bool b.Negative), slT iCu b.Groups]] : List AV) = [.agg [.at (.bool a.Negative), slT iCu a.Groups]]) : b = a := by
 obtain ⟨_, _⟩ := b
 obtain ⟨_, _⟩ := a
 simp only [List.cons.injEq, AV.agg.injEq, AV.at.injEq, Value.int.injEq, Value.bool.injEq, AV.fn.injEq, AV.pp.injEq, true_and, and_true, dt] at h
 simp_all
theorem n9 (n : Nat) {b : ae} {a : ae} (h : ([.agg (ae.c b)] : List AV) = [.agg (ae.c a)]) : dD n b = dD n a := by
 obtain rfl := dK h
 rfl
theorem eC (n : Nat) (a : ae) (r : Bool) (hr : dD n a = some r) : aK Tryz.prog 142 [.agg (ae.c a)] (aB r) := by
 unfold dD at hr
 refine aK.bd G Tryz.func142 [.tmp 2] ?_
 unfold Tryz.f142
 simp only [gS]
 refine .seq (.r2 G 25 [(1, .hp 0 0)] [.own (ae.c a)] (.seq (.r4 G [1] [(3, ag (a.Groups.length : Int))] (.seq (.seq (.r4 G [1, 3] [(8, aB (((a.Groups.length : Int) : Int) == 0))] ?_))))))
 refine .cd hr ?_ ?_ <;> intro g hr
 ·refine .seq (.ru G (.ret ?_))
  obtain rfl := oi hr
  exact aH.r1 [aB (!a.Negative)]
 refine .skip (.seq ?_)
 obtain ⟨d, hr⟩ := gd hr
 rcases bT (((gt a.Groups (G1 ((a.Groups.length : Int) - 1))) : Int) != 0) with b | b
 ·replace hr := bY b hr
  obtain ⟨f, e, hr⟩ := bd hr
  refine .g1 G (ok0 (eR n a.Groups f e)) (.mu 4 (.p0 (v := .pp (a.Groups.flatMap iCu) ((G1 ((a.Groups.length : Int) - 1)).toNat * 1)) (tr (ar d)) (.p0 (v := a7 (gt a.Groups (G1 ((a.Groups.length : Int) - 1)))) (tr (aI (aJ (aG .u32) (aE d) z1 (by omega : (G1 ((a.Groups.length : Int) - 1)).toNat * 1 = (G1 ((a.Groups.length : Int) - 1)).toNat * 1 + 0) kRf))) (.p0 (v := aB true) (eB b) (.mu 3 (.ca cf0 (.mu 3 (.done (.ret ?_)))))))))
  obtain rfl := oi hr
  exact aH.r1 [aB (!f)]
 replace hr := bW b hr
 refine .r0 G (.mu 4 (.p0 (v := .pp (a.Groups.flatMap iCu) ((G1 ((a.Groups.length : Int) - 1)).toNat * 1)) (tr (ar d)) (.p0 (v := a7 (gt a.Groups (G1 ((a.Groups.length : Int) - 1)))) (tr (aI (aJ (aG .u32) (aE d) z1 (by omega : (G1 ((a.Groups.length : Int) - 1)).toNat * 1 = (G1 ((a.Groups.length : Int) - 1)).toNat * 1 + 0) kRf))) (.p0 (v := aB false) (eB b) (.mu 7 (.done (.ret ?_)))))))
 obtain rfl := oi hr
 exact aH.r1 [aB false]

theorem qM (n : Nat) {b : ae} {a : ae} (h : ([.agg (ae.c b)] : List AV) = [.agg (ae.c a)]) : ee n b = ee n a := by
 obtain rfl := dK h
 rfl
theorem lT (n : Nat) (a : ae) (r : ae) (hr : ee n a = some r) : aK Tryz.prog 190 [.agg (ae.c a)] (.agg (ae.c r)) := by
 unfold ee at hr
 refine aK.bd G Tryz.func190 [.cell 2 40] ?_
 unfold Tryz.f190
 simp only [gS]
 refine .seq (.r2 G 7 [(1, .hp 0 0), (2, .hp 1 0)] [.own (ae.c a), .own [aB false, nS]] (.seq (.seq ?_)))
 obtain ⟨f, b, hr⟩ := bd hr
 refine .g1 G (ok0 (eC n a f b)) (.mu 1 (.ca cf0 (.done (.nh [1, 2, 4] [.own (ae.c a), .own [aB false, nS]] ?_))))
 refine .cd hr ?_ ?_ <;> intro g hr
 ·refine .seq (.r5 G [2] [] [.own (ae.c a), .own (ae.c a)] (.ret ?_))
  obtain rfl := oi hr
  exact aH.r1 [.agg (ae.c a)]
 refine .skip (.seq ?_)
 obtain ⟨d, e, hr⟩ := bd hr
 refine .g1 G (ok0 (im n 0 d e)) (.ca cf0 (.mu 1 (.done (.nh [2] [.own (ae.c a), .own (ae.c d)] (.ret ?_)))))
 obtain rfl := oi hr
 exact aH.r1 [.agg (ae.c d)]

theorem fU (n : Nat) {b : ae} {a : ae} (h : ([.agg (ae.c b)] : List AV) = [.agg (ae.c a)]) : bg n b = bg n a := by
 obtain rfl := dK h
 rfl
theorem bM (n : Nat) (a : ae) (r : List Int) (hr : bg n a = some r) : aK Tryz.prog 162 [.agg (ae.c a)] (av r) := by
 unfold bg at hr
 refine aK.bd G Tryz.func162 [.tmp 2] ?_
 unfold Tryz.f162
 simp only [gS]
 refine .seq (.r2 G 8 [(1, .hp 0 0)] [.own (ae.c a)] (.seq (.seq ?_)))
 obtain ⟨d, b, hr⟩ := bd hr
 refine .g1 G (ok0 (eC n a d b)) (.mu 1 (.ca cf0 (.mu 1 (.done (.nh [1, 5] [.own (ae.c a)] ?_)))))
 refine .cd hr ?_ ?_ <;> intro e hr
 ·refine .seq (.r3 G 8 [(2, nS)] (.ret ?_))
  obtain rfl := oi hr
  exact aH.ret (vs := [nS]) kRf Sn.ft
 refine .skip (.seq (.ru G (.ret ?_)))
 obtain rfl := oi hr
 exact aH.r1 [av a.Groups]

theorem uf (n : Nat) {b : ae} {a : ae} (h : ([.agg (ae.c b)] : List AV) = [.agg (ae.c a)]) : cU n b = cU n a := by
 obtain rfl := dK h
 rfl
theorem eZ (n : Nat) (a : ae) (r : Int) (hr : cU n a = some r) : aK Tryz.prog 143 [.agg (ae.c a)] (ag r) := by
 unfold cU at hr
 refine aK.bd G Tryz.func143 [.tmp 2] ?_
 unfold Tryz.f143
 simp only [gS]
 refine .seq (.r2 G 11 [(1, .hp 0 0)] [.own (ae.c a)] (.seq (.block (.seq ?_))))
 obtain ⟨d, b, hr⟩ := bd hr
 refine .g1 G (ok0 (bM n a d b)) (.mu 1 (.ca cf0 (.mu 3 (.done (.nh [1, 3] [.own (ae.c a)] ?_)))))
 refine .cd hr ?_ ?_ <;> intro e hr
 ·refine .seq (.ru G (.ret ?_))
  obtain rfl := oi hr
  exact aH.r1 [ag 0]
 refine .seq (.r3 G 11 [(8, aB a.Negative)] ?_)
 refine .cd hr ?_ ?_ <;> intro f hr
 ·refine .seq (.ru G (.ret ?_))
  obtain rfl := oi hr
  exact aH.r1 [ag (-1)]
 refine .skip (.pop (.seq (.ru G (.ret ?_))))
 obtain rfl := oi hr
 exact aH.r1 [ag 1]

theorem eP (n : Nat) (s : List Int) (r : List Int) (hr : bV n s = some r) : aK Tryz.prog 183 [av s] (av r) := by
 unfold bV at hr
 refine aK.bd G Tryz.func183 [.tmp 2] ?_
 unfold Tryz.f183
 simp only [gS]
 refine .seq (.r4 G [0] [] (.seq (.seq ?_)))
 refine .DR (t := 0) (cs := s.flatMap iCu) (len := s.length) kRf (fun a => ?_) ?_
 ·obtain rfl : s = [] := List.length_eq_zero_iff.1 a
  have hx := gd hr; clear hr; obtain ⟨_, hr⟩ := hx
  have hx := gd hr; clear hr; obtain ⟨_, hr⟩ := hx
  refine .r4 G [0] [(4, aB true)] (.cT kRf (.seq (.r3 G 8 [(2, nS)] (.ret ?_))))
  obtain rfl := oi hr
  exact aH.ret (vs := [nS]) kRf Sn.ft
 refine .r4 G [0] [(4, aB false)] (.cF kRf (.skip (.seq ?_)))
 obtain ⟨b, c, hr⟩ := gd2 hr
 refine .r0 G (.mu 2 (.e0 (v := .hs 1 0 s.length 1) (ws := [(0, .dead), (1, .own (s.flatMap iCu))]) (tr (y := zU (decide (((s.flatMap iCu)).length = s.length * 1)) (s.flatMap iCu) s.length (fun z1 d => ni (decide (0 + 0 * 1 <= (([] : List Int).flatMap iCu).length) && decide ((0 + d) * 4 <= 140737488355328) && decide (0 + d <= 4611686018427387904)) (some (.eff (.hs 1 0 (0 + d) 1) [(0, .dead), (1, .own (((([] : List Int).flatMap iCu).drop 0).take (0 * 1) ++ z1))])))) (tD (mc (aG _)) rfl (dX (l := ([] : List Int)) (xs := s) (aG _) rfl rfl rfl b c))) (.mu 1 (.done (.nh [2] [.dead, .own (s.flatMap iCu)] (.ret ?_))))))
 obtain rfl := oi hr
 exact aH.ret (vs := [.hs 1 0 s.length 1]) kRf (Sn.hs rfl (.inl rfl) (SnC.pure (aY (aA _) _)) (fun h => cc h))

theorem fA (n : Nat) {b : ae} {a : ae} (h : ([.agg (ae.c b)] : List AV) = [.agg (ae.c a)]) : dw n b = dw n a := by
 obtain rfl := dK h
 rfl
theorem fC (n : Nat) (a : ae) (r : ae) (hr : dw n a = some r) : aK Tryz.prog 158 [.agg (ae.c a)] (.agg (ae.c r)) := by
 unfold dw at hr
 refine aK.bd G Tryz.func158 [.cell 2 40] ?_
 unfold Tryz.f158
 simp only [gS]
 refine .seq (.r2 G 10 [(1, .hp 0 0), (2, .hp 1 0)] [.own (ae.c a), .own [aB false, nS]] (.seq ?_))
 obtain ⟨g, b, h, d, e, f, hr⟩ := bd3 hr
 refine .tn G (ca1 (ok0 (bM n a g b)) (ca1 (ok0 (eP n g h d)) (ca3 (ok0 (bF n (!a.Negative) h e f))))) (.mu 4 (.ca cf0 (.ca (cfF cf0) (.ca (cfF (cfF cf0)) (.mu 1 ?_)))))
 refine .done (kRa ?_)
 refine .nh [2] [.own (ae.c a), .own (ae.c e)] (.ret ?_)
 obtain rfl := oi hr
 exact aH.r1 [.agg (ae.c e)]




theorem tF (n : Nat) (a : List Int) (b : List Int) (r : List Int) (hr : ib n a b = some r) : aK Tryz.prog 161 [av a, av b] (av r) := by
 unfold ib at hr
 refine aK.bd G Tryz.func161 [.tmp 4] ?_
 unfold Tryz.f161
 simp only [gS]
 refine .seq (.r4 G [0, 1] [] (.seq ?_))
 obtain ⟨E, F, H, hr⟩ := gd3 hr
 refine .r0 G (.mu 5 (.e0 (v := .hs 0 0 (List.replicate (G1 ((a.length : Int) + (b.length : Int))).toNat ((0 : Int) : Int)).length 1) (ws := [(0, .own ((List.replicate (G1 ((a.length : Int) + (b.length : Int))).toNat ((0 : Int) : Int)).flatMap iCu))]) (tr (ln (c := iCu) (z := (0 : Int)) (n := G1 ((a.length : Int) + (b.length : Int))) (by_ := 4) rfl E F H)) (.mu 1 (.done (.nh [0, 1, 5] [.own ((List.replicate (G1 ((a.length : Int) + (b.length : Int))).toNat ((0 : Int) : Int)).flatMap iCu)] (.seq (.seq (.r4 G [1, 5] [(18, av a), (19, ag (a.length : Int)), (20, ag 0)] (.block ?_)))))))))
 replace hr := bd hr; obtain ⟨o, u, hr⟩ := hr
 refine .aN (σ := fun I => match I with | (p, e) => ⟨mkS 69 0 [(1, av b), (5, .hs 0 0 p.length 1), (18, av a), (19, ag (a.length : Int)), (20, ag e)], [.own (p.flatMap iCu)]⟩) (Q := fun x st' => x = .exit 0 /\ Wk 0 st' ⟨mkS 69 0 [(5, .hs 0 0 o.length 1)], [.own (o.flatMap iCu)]⟩) u ((Wk.gc [1, 5, 18, 19, 20] [(0, false)] rfl (pKo iCu (aA _) (List.replicate (G1 ((a.length : Int) + (b.length : Int))).toNat ((0 : Int) : Int)) trivial)).to) ?_ ?_
 ·clear hr
  rintro m ⟨p, e⟩ hr
  refine CQ.sh ?_
  refine .seq (.r4 G [1, 5, 18, 19, 20] [(21, aB (decide (e < (a.length : Int))))] (.seq ?_))
  refine .cd hr ?_ ?_ <;> intro J hr
  ·refine .skip (.seq (.block (.seq ?_)))
   obtain ⟨w, hr⟩ := gd hr
   refine .r0 G (.mu 1 (.p0 (v := .pp (a.flatMap iCu) (e.toNat * 1)) (tr (ar w)) (.p0 (v := a7 (gt a e)) (tr (aI (aJ (aG .u32) (aE w) z1 (by omega : e.toNat * 1 = e.toNat * 1 + 0) kRf))) (.mu 2 (.done (.nh [1, 5, 6, 7, 18, 19, 20] [.own (p.flatMap iCu)] (.seq (.r4 G [1, 5, 6, 7, 18, 19, 20] [(8, cx 0)] (.seq (.seq (.r4 G [1, 5, 6, 7, 8, 18, 19, 20] [(25, av b), (26, ag (b.length : Int)), (27, ag 0)] (.block ?_))))))))))))
   replace hr := bd hr; obtain ⟨B, y, hr⟩ := hr
   refine .aN (σ := fun I => match I with | (f, g, d) => ⟨mkS 69 0 [(1, av b), (5, .hs 0 0 f.length 1), (6, ag e), (7, a7 (gt a e)), (8, cx g), (18, av a), (19, ag (a.length : Int)), (20, ag e), (25, av b), (26, ag (b.length : Int)), (27, ag d)], [.own (f.flatMap iCu)]⟩) (Q := fun x st' => match (generalizing := false) B with | (i, j) => x = .exit 2 /\ Wk 0 st' ⟨mkS 69 0 [(1, av b), (5, .hs 0 0 i.length 1), (6, ag e), (8, cx j), (18, av a), (19, ag (a.length : Int)), (20, ag e)], [.own (i.flatMap iCu)]⟩) y ((Wk.gc [1, 5, 6, 7, 8, 18, 19, 20, 25, 26, 27] [(0, false)] rfl (pKo iCu (aA _) p trivial)).to) ?_ ?_
   ·clear hr
    rintro m ⟨f, g, d⟩ hr
    refine CQ.sh ?_
    refine .seq (.r4 G [1, 5, 6, 7, 8, 18, 19, 20, 25, 26, 27] [(28, aB (decide (d < (b.length : Int))))] (.seq ?_))
    refine .cd hr ?_ ?_ <;> intro L hr
    ·refine .skip (.seq (.block (.seq ?_)))
     obtain ⟨A, hr⟩ := gd hr
     refine .r0 G (.mu 1 (.p0 (v := .pp (b.flatMap iCu) (d.toNat * 1)) (tr (ar A)) (.p0 (v := a7 (gt b d)) (tr (aI (aJ (aG .u32) (aE A) z1 (by omega : d.toNat * 1 = d.toNat * 1 + 0) kRf))) (.mu 2 (.done (.nh [1, 5, 6, 7, 8, 9, 10, 18, 19, 20, 25, 26, 27] [.own (f.flatMap iCu)] (.seq ?_)))))))
     obtain ⟨k, hr⟩ := gd hr
     refine .r0 G (.mu 4 (.p0 (v := .hp 0 (0 + (G1 (e + d)).toNat * 1)) (tr (ar k)) (.p0 (v := a7 (gt f (G1 (e + d)))) (tr (aI (aJ (aG .u32) (aE k) z1 (by omega : 0 + (G1 (e + d)).toNat * 1 = (G1 (e + d)).toNat * 1 + 0) kRf))) (.mu 10 (.done (.nh [1, 5, 6, 7, 9, 11, 18, 19, 20, 25, 26, 27] [.own (f.flatMap iCu)] (.r0 G (.mu 9 (.p0 (v := .hp 0 (0 + (G1 (e + d)).toNat * 1)) (tr (ar k)) (.e0 (v := .unk) (ws := [(0, .own ((f.set (G1 (e + d)).toNat (aa .u32 ((wFu ((wFu ((wFu (gt f (G1 (e + d)))) + (wFu ((wFu (gt a e)) * (wFu (gt b d)))))) + g)).tmod 1000000000))).flatMap iCu))]) (tr (jn (ju (cy (n := 1) (aG .u32) (aE k) (lbT rfl) (by omega : 0 + (G1 (e + d)).toNat * 1 = (G1 (e + d)).toNat * 1 + 0))) (congrArg Blk.own (dc (xs := [a7 (aa .u32 ((wFu ((wFu ((wFu (gt f (G1 (e + d)))) + (wFu ((wFu (gt a e)) * (wFu (gt b d)))))) + g)).tmod 1000000000))]) (aG .u32) (aE k) (lbT rfl) (by omega : 0 + (G1 (e + d)).toNat * 1 = (G1 (e + d)).toNat * 1 + 0) kRf)))) (.mu 1 (.done (.pop (.ru G ?_))))))))))))))
     exact az (f.set (G1 (e + d)).toNat (aa .u32 ((wFu ((wFu ((wFu (gt f (G1 (e + d)))) + (wFu ((wFu (gt a e)) * (wFu (gt b d)))))) + g)).tmod 1000000000)), wFu ((wFu ((wFu ((wFu (gt f (G1 (e + d)))) + (wFu ((wFu (gt a e)) * (wFu (gt b d)))))) + g)).tdiv 1000000000), G1 (d + 1)) hr ((Wk.iF 5 (b := 0) (es := 1) (len := f.length) (f.set (G1 (e + d)).toNat (aa .u32 ((wFu ((wFu ((wFu (gt f (G1 (e + d)))) + (wFu ((wFu (gt a e)) * (wFu (gt b d)))))) + g)).tmod 1000000000))).length kRf (Eq.symm (List.length_set.trans rfl))).trans ((Wk.gc [1, 5, 6, 7, 8, 18, 19, 20, 25, 26, 27] [(0, false)] rfl (pKo iCu (aA _) (f.set (G1 (e + d)).toNat (aa .u32 ((wFu ((wFu ((wFu (gt f (G1 (e + d)))) + (wFu ((wFu (gt a e)) * (wFu (gt b d)))))) + g)).tmod 1000000000))) trivial)).to))
    refine .leave rfl ?_
    obtain rfl := oi hr
    exact ⟨rfl, ((Wk.gc [1, 5, 6, 8, 18, 19, 20] [(0, false)] rfl (pKo iCu (aA _) f trivial)).to)⟩
   rcases B with ⟨i, j⟩
   rintro x st' q
   clear y
   obtain ⟨rfl, q⟩ := q
   refine aU _ rfl (.wk q ?_)
   obtain ⟨s, hr⟩ := gd hr
   refine .r0 G (.mu 7 (.p0 (v := .hp 0 (0 + (G1 (e + (b.length : Int))).toNat * 1)) (tr (ar s)) (.e0 (v := .unk) (ws := [(0, .own ((i.set (G1 (e + (b.length : Int))).toNat (aa .u32 j)).flatMap iCu))]) (tr (jn (ju (cy (n := 1) (aG .u32) (aE s) (lbT rfl) (by omega : 0 + (G1 (e + (b.length : Int))).toNat * 1 = (G1 (e + (b.length : Int))).toNat * 1 + 0))) (congrArg Blk.own (dc (xs := [a7 (aa .u32 j)]) (aG .u32) (aE s) (lbT rfl) (by omega : 0 + (G1 (e + (b.length : Int))).toNat * 1 = (G1 (e + (b.length : Int))).toNat * 1 + 0) kRf)))) (.done (.pop (.ru G ?_))))))
   exact az (i.set (G1 (e + (b.length : Int))).toNat (aa .u32 j), G1 (e + 1)) hr ((Wk.iF 5 (b := 0) (es := 1) (len := i.length) (i.set (G1 (e + (b.length : Int))).toNat (aa .u32 j)).length kRf (Eq.symm (List.length_set.trans rfl))).trans ((Wk.gc [1, 5, 18, 19, 20] [(0, false)] rfl (pKo iCu (aA _) (i.set (G1 (e + (b.length : Int))).toNat (aa .u32 j)) trivial)).to))
  refine .leave rfl ?_
  obtain rfl := oi hr
  exact ⟨rfl, ((Wk.gc [5] [(0, false)] rfl (pKo iCu (aA _) p trivial)).to)⟩
 rintro x st' t
 clear u
 obtain ⟨rfl, t⟩ := t
 refine aU _ rfl (.wk t (.seq ?_))
 obtain ⟨C, D, hr⟩ := bd hr
 refine .g1 G (b8 (args := [.hs 0 0 o.length 1]) (l := [0]) (SnL.cons (Sn.hs rfl (.inl rfl) (SnC.pure (aY (aA _) _)) (fun h => cc h)) SnL.nil) (fN n o C D)) (.mu 1 (.ca cf0 (.mu 1 (.done (.ret ?_)))))
 obtain rfl := oi hr
 exact aH.r1 [av C]

theorem sI (n : Nat) (g : List Int) (r : List Int) (hr : mE n g = some r) : dz 1 Tryz.prog 184 [.hs 0 0 g.length 1] [.own (g.flatMap iCu)] (.hs 0 0 r.length 1) [.own (r.flatMap iCu)] := by
 unfold mE at hr
 refine dz.qQ G Tryz.func184 (c := (Tryz.f184.body).getD .skip) rfl (us := [.hs 0 0 r.length 1]) (s := mkS 21 0 [(0, .hs 0 0 g.length 1)]) kRf (rs := [.tmp 2]) rfl ?_
 unfold Tryz.f184
 simp only [gS]
 refine .seq (.r4 G [0] [] (.seq (.block ?_)))
 replace hr := bd hr; obtain ⟨b, f, hr⟩ := hr
 refine .aN (σ := fun k => match k with | a => ⟨mkS 21 0 [(0, .hs 0 0 a.length 1)], [.own (a.flatMap iCu)]⟩) (Q := fun x st' => x = .exit 0 /\ Wk 1 st' ⟨mkS 21 0 [(0, .hs 0 0 b.length 1)], [.own (b.flatMap iCu)]⟩) f ((Wk.gc [0] [(0, false)] rfl (pKo iCu (aA _) g trivial)).to) ?_ ?_
 ·clear hr
  rintro m a hr
  refine CQ.sh ?_
  refine .seq (.seq ?_)
  rcases bT (decide ((a.length : Int) > 0)) with d | d
  ·replace hr := bY d hr
   obtain ⟨h, hr⟩ := gd hr
   refine .r0 G (.mu 2 (.p0 (v := aB true) (eB d) (.mu 5 (.pure (v := .hp 0 (0 + (G1 ((a.length : Int) - 1)).toNat * 1)) kRf (tr (ar h)) (.pure (v := a7 (gt a (G1 ((a.length : Int) - 1)))) kRf (tr (aI (aJ (aG .u32) (aE h) z1 (by omega : 0 + (G1 ((a.length : Int) - 1)).toNat * 1 = (G1 ((a.length : Int) - 1)).toNat * 1 + 0) kRf))) (.mu 2 (.done (.nh [0, 14] [.own (a.flatMap iCu)] ?_))))))))
   refine .cd hr ?_ ?_ <;> intro j hr
   ·refine .skip (.block ?_)
    obtain ⟨i, hr⟩ := gd hr
    refine .r0 G (.mu 4 (.p0 (v := .hs 0 0 (G1 ((a.length : Int) - 1)).toNat 1) (tr (y := slH (inS 0 (G1 ((a.length : Int) - 1)) a.length) true ((0 : Int).toNat) ((G1 ((a.length : Int) - 1)).toNat) (fun z1 l => .hs 0 (0 + z1 * 1) (l - z1) 1)) (CI i kRf)) (.mu 1 (.done (.pop ?_)))))
    exact az (a.take (G1 ((a.length : Int) - 1)).toNat) hr ((Wk.GB (c := iCu) (es := 1) 0 0 (aG _) a (G1 ((a.length : Int) - 1)).toNat (pR i) kRf kRf).trans ((Wk.gc [0] [(0, false)] rfl (pKo iCu (aA _) (a.take (G1 ((a.length : Int) - 1)).toNat) trivial)).to))
   refine .leave rfl ?_
   obtain rfl := oi hr
   exact ⟨rfl, ((Wk.gc [0] [(0, false)] rfl (pKo iCu (aA _) a trivial)).to)⟩
  replace hr := bW d hr
  refine .r0 G (.mu 2 (.p0 (v := aB false) (eB d) (.mu 9 (.done (.nh [0, 14] [.own (a.flatMap iCu)] (.cF kRf (.leave rfl ?_)))))))
  obtain rfl := oi hr
  exact ⟨rfl, ((Wk.gc [0] [(0, false)] rfl (pKo iCu (aA _) a trivial)).to)⟩
 rintro x st' e
 clear f
 obtain ⟨rfl, e⟩ := e
 refine aU _ rfl (.wk e (.seq (.r3 G 21 [(2, .hs 0 0 b.length 1)] (.ret ?_))))
 obtain rfl := oi hr
 exact gj.ret [.hs 0 0 b.length 1] ((Wk.gc [0] [(0, false)] rfl (pKo iCu (aA _) b trivial)).to)

theorem mL (n : Nat) (a : List Int) (b : List Int) (r : List Int) (hr : gQ n a b = some r) : dz 1 Tryz.prog 161 [av a, .hs 0 0 b.length 1] [.own (b.flatMap iCu)] (.hs 1 0 r.length 1) [.own (b.flatMap iCu), .own (r.flatMap iCu)] := by
 unfold gQ at hr
 refine dz.qQ G Tryz.func161 (c := (Tryz.f161.body).getD .skip) rfl (us := [.hs 1 0 r.length 1]) (s := mkS 69 0 [(0, av a), (1, .hs 0 0 b.length 1)]) kRf (rs := [.tmp 4]) rfl ?_
 unfold Tryz.f161
 simp only [gS]
 refine .seq (.r4 G [0, 1] [] (.seq ?_))
 obtain ⟨B, C, D, hr⟩ := gd3 hr
 refine .r0 G (.mu 5 (.e0 (v := .hs 1 0 (List.replicate (G1 ((a.length : Int) + (b.length : Int))).toNat ((0 : Int) : Int)).length 1) (ws := [(1, .own ((List.replicate (G1 ((a.length : Int) + (b.length : Int))).toNat ((0 : Int) : Int)).flatMap iCu))]) (tr (ln (c := iCu) (z := (0 : Int)) (n := G1 ((a.length : Int) + (b.length : Int))) (by_ := 4) rfl B C D)) (.mu 1 (.done (.nh [0, 1, 5] [.own (b.flatMap iCu), .own ((List.replicate (G1 ((a.length : Int) + (b.length : Int))).toNat ((0 : Int) : Int)).flatMap iCu)] (.seq (.seq (.r4 G [1, 5] [(18, av a), (19, ag (a.length : Int)), (20, ag 0)] (.block ?_)))))))))
 replace hr := bd hr; obtain ⟨l, u, hr⟩ := hr
 refine .aN (σ := fun H => match H with | (j, d) => ⟨mkS 69 0 [(1, .hs 0 0 b.length 1), (5, .hs 1 0 j.length 1), (18, av a), (19, ag (a.length : Int)), (20, ag d)], [.own (b.flatMap iCu), .own (j.flatMap iCu)]⟩) (Q := fun x st' => x = .exit 0 /\ Wk 1 st' ⟨mkS 69 0 [(5, .hs 1 0 l.length 1)], [.own (b.flatMap iCu), .own (l.flatMap iCu)]⟩) u ((Wk.gc [1, 5, 18, 19, 20] [(0, false), (1, false)] rfl (pKo iCu (aA _) b (pKo iCu (aA _) (List.replicate (G1 ((a.length : Int) + (b.length : Int))).toNat ((0 : Int) : Int)) trivial))).to) ?_ ?_
 ·clear hr
  rintro m ⟨j, d⟩ hr
  refine CQ.sh ?_
  refine .seq (.r4 G [1, 5, 18, 19, 20] [(21, aB (decide (d < (a.length : Int))))] (.seq ?_))
  refine .cd hr ?_ ?_ <;> intro I hr
  ·refine .skip (.seq (.block (.seq ?_)))
   obtain ⟨w, hr⟩ := gd hr
   refine .r0 G (.mu 1 (.p0 (v := .pp (a.flatMap iCu) (d.toNat * 1)) (tr (ar w)) (.p0 (v := a7 (gt a d)) (tr (aI (aJ (aG .u32) (aE w) z1 (by omega : d.toNat * 1 = d.toNat * 1 + 0) kRf))) (.mu 2 (.done (.nh [1, 5, 6, 7, 18, 19, 20] [.own (b.flatMap iCu), .own (j.flatMap iCu)] (.seq (.r4 G [1, 5, 6, 7, 18, 19, 20] [(8, cx 0)] (.seq (.seq (.r4 G [1, 5, 6, 7, 8, 18, 19, 20] [(25, .hs 0 0 b.length 1), (26, ag (b.length : Int)), (27, ag 0)] (.block ?_))))))))))))
   replace hr := bd hr; obtain ⟨E, y, hr⟩ := hr
   refine .aN (σ := fun H => match H with | (f, g, e) => ⟨mkS 69 0 [(1, .hs 0 0 b.length 1), (5, .hs 1 0 f.length 1), (6, ag d), (7, a7 (gt a d)), (8, cx g), (18, av a), (19, ag (a.length : Int)), (20, ag d), (25, .hs 0 0 b.length 1), (26, ag (b.length : Int)), (27, ag e)], [.own (b.flatMap iCu), .own (f.flatMap iCu)]⟩) (Q := fun x st' => match (generalizing := false) E with | (h, i) => x = .exit 2 /\ Wk 1 st' ⟨mkS 69 0 [(1, .hs 0 0 b.length 1), (5, .hs 1 0 h.length 1), (6, ag d), (8, cx i), (18, av a), (19, ag (a.length : Int)), (20, ag d)], [.own (b.flatMap iCu), .own (h.flatMap iCu)]⟩) y ((Wk.gc [1, 5, 6, 7, 8, 18, 19, 20, 25, 26, 27] [(0, false), (1, false)] rfl (pKo iCu (aA _) b (pKo iCu (aA _) j trivial))).to) ?_ ?_
   ·clear hr
    rintro m ⟨f, g, e⟩ hr
    refine CQ.sh ?_
    refine .seq (.r4 G [1, 5, 6, 7, 8, 18, 19, 20, 25, 26, 27] [(28, aB (decide (e < (b.length : Int))))] (.seq ?_))
    refine .cd hr ?_ ?_ <;> intro J hr
    ·refine .skip (.seq (.block (.seq ?_)))
     obtain ⟨A, hr⟩ := gd hr
     refine .r0 G (.mu 1 (.p0 (v := .hp 0 (0 + e.toNat * 1)) (tr (ar A)) (.p0 (v := a7 (gt b e)) (tr (aI (aJ (aG .u32) (aE A) z1 (by omega : 0 + e.toNat * 1 = e.toNat * 1 + 0) kRf))) (.mu 2 (.done (.nh [1, 5, 6, 7, 8, 9, 10, 18, 19, 20, 25, 26, 27] [.own (b.flatMap iCu), .own (f.flatMap iCu)] (.seq ?_)))))))
     obtain ⟨k, hr⟩ := gd hr
     refine .r0 G (.mu 4 (.p0 (v := .hp 1 (0 + (G1 (d + e)).toNat * 1)) (tr (ar k)) (.p0 (v := a7 (gt f (G1 (d + e)))) (tr (aI (aJ (aG .u32) (aE k) z1 (by omega : 0 + (G1 (d + e)).toNat * 1 = (G1 (d + e)).toNat * 1 + 0) kRf))) (.mu 10 (.done (.nh [1, 5, 6, 7, 9, 11, 18, 19, 20, 25, 26, 27] [.own (b.flatMap iCu), .own (f.flatMap iCu)] (.r0 G (.mu 9 (.p0 (v := .hp 1 (0 + (G1 (d + e)).toNat * 1)) (tr (ar k)) (.e0 (v := .unk) (ws := [(1, .own ((f.set (G1 (d + e)).toNat (aa .u32 ((wFu ((wFu ((wFu (gt f (G1 (d + e)))) + (wFu ((wFu (gt a d)) * (wFu (gt b e)))))) + g)).tmod 1000000000))).flatMap iCu))]) (tr (jn (ju (cy (n := 1) (aG .u32) (aE k) (lbT rfl) (by omega : 0 + (G1 (d + e)).toNat * 1 = (G1 (d + e)).toNat * 1 + 0))) (congrArg Blk.own (dc (xs := [a7 (aa .u32 ((wFu ((wFu ((wFu (gt f (G1 (d + e)))) + (wFu ((wFu (gt a d)) * (wFu (gt b e)))))) + g)).tmod 1000000000))]) (aG .u32) (aE k) (lbT rfl) (by omega : 0 + (G1 (d + e)).toNat * 1 = (G1 (d + e)).toNat * 1 + 0) kRf)))) (.mu 1 (.done (.pop (.ru G ?_))))))))))))))
     exact az (f.set (G1 (d + e)).toNat (aa .u32 ((wFu ((wFu ((wFu (gt f (G1 (d + e)))) + (wFu ((wFu (gt a d)) * (wFu (gt b e)))))) + g)).tmod 1000000000)), wFu ((wFu ((wFu ((wFu (gt f (G1 (d + e)))) + (wFu ((wFu (gt a d)) * (wFu (gt b e)))))) + g)).tdiv 1000000000), G1 (e + 1)) hr ((Wk.iF 5 (b := 1) (es := 1) (len := f.length) (f.set (G1 (d + e)).toNat (aa .u32 ((wFu ((wFu ((wFu (gt f (G1 (d + e)))) + (wFu ((wFu (gt a d)) * (wFu (gt b e)))))) + g)).tmod 1000000000))).length kRf (Eq.symm (List.length_set.trans rfl))).trans ((Wk.gc [1, 5, 6, 7, 8, 18, 19, 20, 25, 26, 27] [(0, false), (1, false)] rfl (pKo iCu (aA _) b (pKo iCu (aA _) (f.set (G1 (d + e)).toNat (aa .u32 ((wFu ((wFu ((wFu (gt f (G1 (d + e)))) + (wFu ((wFu (gt a d)) * (wFu (gt b e)))))) + g)).tmod 1000000000))) trivial))).to))
    refine .leave rfl ?_
    obtain rfl := oi hr
    exact ⟨rfl, ((Wk.gc [1, 5, 6, 8, 18, 19, 20] [(0, false), (1, false)] rfl (pKo iCu (aA _) b (pKo iCu (aA _) f trivial))).to)⟩
   rcases E with ⟨h, i⟩
   rintro x st' o
   clear y
   obtain ⟨rfl, o⟩ := o
   refine aU _ rfl (.wk o ?_)
   obtain ⟨p, hr⟩ := gd hr
   refine .r0 G (.mu 7 (.p0 (v := .hp 1 (0 + (G1 (d + (b.length : Int))).toNat * 1)) (tr (ar p)) (.e0 (v := .unk) (ws := [(1, .own ((h.set (G1 (d + (b.length : Int))).toNat (aa .u32 i)).flatMap iCu))]) (tr (jn (ju (cy (n := 1) (aG .u32) (aE p) (lbT rfl) (by omega : 0 + (G1 (d + (b.length : Int))).toNat * 1 = (G1 (d + (b.length : Int))).toNat * 1 + 0))) (congrArg Blk.own (dc (xs := [a7 (aa .u32 i)]) (aG .u32) (aE p) (lbT rfl) (by omega : 0 + (G1 (d + (b.length : Int))).toNat * 1 = (G1 (d + (b.length : Int))).toNat * 1 + 0) kRf)))) (.done (.pop (.ru G ?_))))))
   exact az (h.set (G1 (d + (b.length : Int))).toNat (aa .u32 i), G1 (d + 1)) hr ((Wk.iF 5 (b := 1) (es := 1) (len := h.length) (h.set (G1 (d + (b.length : Int))).toNat (aa .u32 i)).length kRf (Eq.symm (List.length_set.trans rfl))).trans ((Wk.gc [1, 5, 18, 19, 20] [(0, false), (1, false)] rfl (pKo iCu (aA _) b (pKo iCu (aA _) (h.set (G1 (d + (b.length : Int))).toNat (aa .u32 i)) trivial))).to))
  refine .leave rfl ?_
  obtain rfl := oi hr
  exact ⟨rfl, ((Wk.gc [5] [(0, false), (1, false)] rfl (pKo iCu (aA _) b (pKo iCu (aA _) j trivial))).to)⟩
 rintro x st' q
 clear u
 obtain ⟨rfl, q⟩ := q
 refine aU _ rfl (.wk q (.seq ?_))
 obtain ⟨t, F, hr⟩ := bd hr
 refine .g1 G (cL (args := [.hs 1 0 l.length 1]) 1 0 [(1, false)] [false] (sI n l t F) (by exact ⟨aY (aA _) _, trivial⟩) (by exact ⟨aY (aA _) _, trivial⟩) rfl rfl kRf kRf) (.mu 1 (.ca cf0 (.mu 1 (.done (.nh [4] [.own (b.flatMap iCu), .own (t.flatMap iCu)] (.ret ?_))))))
 obtain rfl := oi hr
 exact gj.ret [.hs 1 0 t.length 1] ((Wk.gc [0] [(0, false), (1, false)] rfl (pKo iCu (aA _) b (pKo iCu (aA _) t trivial))).to)

theorem p9 {g : List Int} {i : Int} {a : List Int} {b : Int} (h : ([slT iCu g, .at (.int .i64 i)] : List AV) = [slT iCu a, .at (.int .i64 b)]) : g = a /\ i = b := by
 simp only [List.cons.injEq, AV.agg.injEq, AV.at.injEq, Value.int.injEq, Value.bool.injEq, AV.fn.injEq, AV.pp.injEq, true_and, and_true, dt] at h
 simp_all
theorem vP (n : Nat) {g : List Int} {i : Int} {a : List Int} {b : Int} (h : ([slT iCu g, .at (.int .i64 i)] : List AV) = [slT iCu a, .at (.int .i64 b)]) : fB n g i = fB n a b := by
 obtain ⟨rfl, rfl⟩ := p9 h
 rfl
theorem kO (n : Nat) (g : List Int) (i : Int) (r : Int) (hr : fB n g i = some r) : aK Tryz.prog 203 [av g, ag i] (a7 r) := by
 unfold fB at hr
 refine aK.bd G Tryz.func203 [.tmp 4] ?_
 unfold Tryz.f203
 simp only [gS]
 refine .seq (.r4 G [0, 1] [] (.seq (.seq (.r4 G [0, 1] [(8, aB (decide (i < (g.length : Int))))] ?_))))
 refine .cd hr ?_ ?_ <;> intro b hr
 ·refine .seq ?_
  obtain ⟨a, hr⟩ := gd hr
  refine .r0 G (.mu 2 (.p0 (v := .pp (g.flatMap iCu) (i.toNat * 1)) (tr (ar a)) (.p0 (v := a7 (gt g i)) (tr (aI (aJ (aG .u32) (aE a) z1 (by omega : i.toNat * 1 = i.toNat * 1 + 0) kRf))) (.mu 1 (.done (.ret ?_))))))
  obtain rfl := oi hr
  exact aH.r1 [a7 (gt g i)]
 refine .skip (.seq (.ru G (.ret ?_)))
 obtain rfl := oi hr
 exact aH.r1 [a7 0]

theorem pj (n : Nat) (a : List Int) (b : List Int) (r : List Int × List Int) (hr : gF n a b = some r) : aK Tryz.prog 202 [av a, av b] (.tup [av r.1, av r.2]) := by
 unfold gF at hr
 refine aK.bd G Tryz.func202 [.tmp 4, .tmp 5] ?_
 unfold Tryz.f202
 simp only [gS]
 refine .seq (.r4 G [0, 1] [] (.seq ?_))
 obtain ⟨uy, A0, hr⟩ := gd2 hr
 refine .r0 G (.mu 4 (.p0 (v := .pp (b.flatMap iCu) ((G1 ((b.length : Int) - 1)).toNat * 1)) (tr (ar uy)) (.p0 (v := a7 (gt b (G1 ((b.length : Int) - 1)))) (tr (aI (aJ (aG .u32) (aE uy) z1 (by omega : (G1 ((b.length : Int) - 1)).toNat * 1 = (G1 ((b.length : Int) - 1)).toNat * 1 + 0) kRf))) (.mu 2 (.p0 (v := cx (wFu ((1000000000 : Int).tdiv (wFu ((wFu (gt b (G1 ((b.length : Int) - 1)))) + 1))))) (oD (x := 1000000000) (y := wFu ((wFu (gt b (G1 ((b.length : Int) - 1)))) + 1)) kRf kRf A0) (.mu 2 (.done (.nh [0, 1, 6] [] (.seq ?_)))))))))
 obtain ⟨Z, A7, hr⟩ := bd hr
 refine .gn G (ca4 [.own [a7 (aa .u32 (wFu ((1000000000 : Int).tdiv (wFu ((wFu (gt b (G1 ((b.length : Int) - 1)))) + 1)))))]] (cL (args := [av a, .hs 0 0 1 1]) 1 1 [(0, false)] [false, false] (mL n a [aa .u32 (wFu ((1000000000 : Int).tdiv (wFu ((wFu (gt b (G1 ((b.length : Int) - 1)))) + 1))))] Z A7) (by exact ⟨rfl, trivial⟩) (by exact ⟨aY (aA _) _, ⟨aY (aA _) _, trivial⟩⟩) rfl rfl kRf kRf)) (.mu 3 (.ca cf0 (.mu 1 (.done (.nh [0, 1, 6, 7] [.own ([aa .u32 (wFu ((1000000000 : Int).tdiv (wFu ((wFu (gt b (G1 ((b.length : Int) - 1)))) + 1))))].flatMap iCu), .own (Z.flatMap iCu)] (.seq ?_))))))
 obtain ⟨g, x8, hr⟩ := bd hr
 refine .gn G (ca4 [.own ([aa .u32 (wFu ((1000000000 : Int).tdiv (wFu ((wFu (gt b (G1 ((b.length : Int) - 1)))) + 1))))].flatMap iCu), .own (Z.flatMap iCu), .own [a7 (aa .u32 (wFu ((1000000000 : Int).tdiv (wFu ((wFu (gt b (G1 ((b.length : Int) - 1)))) + 1)))))]] (cL (args := [av b, .hs 2 0 1 1]) 1 1 [(2, false)] [false, false] (mL n b [aa .u32 (wFu ((1000000000 : Int).tdiv (wFu ((wFu (gt b (G1 ((b.length : Int) - 1)))) + 1))))] g x8) (by exact ⟨rfl, trivial⟩) (by exact ⟨aY (aA _) _, ⟨aY (aA _) _, trivial⟩⟩) rfl rfl kRf kRf)) (.mu 3 (.ca cf0 (.mu 1 (.done (.nh [0, 6, 7, 8] [.own ([aa .u32 (wFu ((1000000000 : Int).tdiv (wFu ((wFu (gt b (G1 ((b.length : Int) - 1)))) + 1))))].flatMap iCu), .own (Z.flatMap iCu), .own ([aa .u32 (wFu ((1000000000 : Int).tdiv (wFu ((wFu (gt b (G1 ((b.length : Int) - 1)))) + 1))))].flatMap iCu), .own (g.flatMap iCu)] (.seq (.r4 G [0, 6, 7, 8] [(9, ag (g.length : Int))] (.seq ?_))))))))
 obtain ⟨xV, AH, hr⟩ := gd2 hr
 refine .r0 G (.mu 2 (.e0 (v := .hs 5 0 (Z ++ [(0 : Int)]).length 1) (ws := [(1, .dead), (5, .own ((Z ++ [(0 : Int)]).flatMap iCu))]) (tr (dX (new := [a7 0]) (l := Z) (xs := [(0 : Int)]) (aG .u32) rfl rfl kRf xV AH)) (.mu 1 (.done (.nh [0, 6, 7, 8, 9] [.own ([aa .u32 (wFu ((1000000000 : Int).tdiv (wFu ((wFu (gt b (G1 ((b.length : Int) - 1)))) + 1))))].flatMap iCu), .dead, .own ([aa .u32 (wFu ((1000000000 : Int).tdiv (wFu ((wFu (gt b (G1 ((b.length : Int) - 1)))) + 1))))].flatMap iCu), .own (g.flatMap iCu), .own [a7 0], .own ((Z ++ [(0 : Int)]).flatMap iCu)] (.seq (.seq (.r4 G [6, 7, 8, 9] [(50, aB (decide (((Z ++ [(0 : Int)]).length : Int) <= (a.length : Int))))] ?_))))))))
 replace hr := bd hr; obtain ⟨R, jD, hr⟩ := hr
 refine .xZ (Q := fun x st' => x = .normal /\ Wk 0 st' ⟨mkS 266 0 [(6, a7 (aa .u32 (wFu ((1000000000 : Int).tdiv (wFu ((wFu (gt b (G1 ((b.length : Int) - 1)))) + 1)))))), (7, .hs 0 0 R.length 1), (8, .hs 1 0 g.length 1), (9, ag (g.length : Int))], [.own (R.flatMap iCu), .own (g.flatMap iCu)]⟩) ?_ ?_
 ·clear hr
  have hr := jD
  clear jD
  refine .cd hr ?_ ?_ <;> intro Ez hr
  ·obtain ⟨y6, yN, hr⟩ := gd2 hr
   refine .r0 G (.mu 2 (.e0 (v := .hs 7 0 ((Z ++ [(0 : Int)]) ++ [(0 : Int)]).length 1) (ws := [(5, .dead), (7, .own (((Z ++ [(0 : Int)]) ++ [(0 : Int)]).flatMap iCu))]) (tr (dX (new := [a7 0]) (l := Z ++ [(0 : Int)]) (xs := [(0 : Int)]) (aG .u32) rfl rfl kRf y6 yN)) (.mu 1 (.done ?_))))
   obtain rfl := oi hr
   exact ⟨rfl, ((Wk.gc [6, 7, 8, 9] [(7, false), (3, false)] rfl (pKo iCu (aA _) ((Z ++ [(0 : Int)]) ++ [(0 : Int)]) (pKo iCu (aA _) g trivial))).to)⟩
  refine .skip ?_
  obtain rfl := oi hr
  exact ⟨rfl, ((Wk.gc [6, 7, 8, 9] [(5, false), (3, false)] rfl (pKo iCu (aA _) (Z ++ [(0 : Int)]) (pKo iCu (aA _) g trivial))).to)⟩
 rintro x st' ki
 clear jD
 obtain ⟨rfl, ki⟩ := ki
 refine .wk ki (.seq ?_)
 obtain ⟨wh, Af, AY, hr⟩ := gd3 hr
 refine .r0 G (.mu 4 (.e0 (v := .hs 2 0 (List.replicate (G1 ((R.length : Int) - (g.length : Int))).toNat ((0 : Int) : Int)).length 1) (ws := [(2, .own ((List.replicate (G1 ((R.length : Int) - (g.length : Int))).toNat ((0 : Int) : Int)).flatMap iCu))]) (tr (ln (c := iCu) (z := (0 : Int)) (n := G1 ((R.length : Int) - (g.length : Int))) (by_ := 4) rfl wh Af AY)) (.mu 1 (.done (.nh [4, 6, 7, 8, 9] [.own (R.flatMap iCu), .own (g.flatMap iCu), .own ((List.replicate (G1 ((R.length : Int) - (g.length : Int))).toNat ((0 : Int) : Int)).flatMap iCu)] (.seq (.seq (.r4 G [4, 6, 7, 8, 9] [(10, ag (G1 ((G1 ((R.length : Int) - (g.length : Int))) - 1)))] (.block ?_)))))))))
 replace hr := bd hr; obtain ⟨mZ, lP, hr⟩ := hr
 refine .aN (σ := fun z0 => match z0 with | (i, q, d) => ⟨mkS 266 0 [(4, .hs 0 0 i.length 1), (6, a7 (aa .u32 (wFu ((1000000000 : Int).tdiv (wFu ((wFu (gt b (G1 ((b.length : Int) - 1)))) + 1)))))), (7, .hs 1 0 q.length 1), (8, .hs 2 0 g.length 1), (9, ag (g.length : Int)), (10, ag d)], [.own (i.flatMap iCu), .own (q.flatMap iCu), .own (g.flatMap iCu)]⟩) (Q := fun x st' => match (generalizing := false) mZ with | (I, J) => x = .exit 0 /\ Wk 0 st' ⟨mkS 266 0 [(4, .hs 0 0 I.length 1), (6, a7 (aa .u32 (wFu ((1000000000 : Int).tdiv (wFu ((wFu (gt b (G1 ((b.length : Int) - 1)))) + 1)))))), (7, .hs 1 0 J.length 1), (9, ag (g.length : Int))], [.own (I.flatMap iCu), .own (J.flatMap iCu)]⟩) lP ((Wk.gc [4, 6, 7, 8, 9, 10] [(2, false), (0, false), (1, false)] rfl (pKo iCu (aA _) (List.replicate (G1 ((R.length : Int) - (g.length : Int))).toNat ((0 : Int) : Int)) (pKo iCu (aA _) R (pKo iCu (aA _) g trivial)))).to) ?_ ?_
 ·clear hr
  rintro m ⟨i, q, d⟩ hr
  refine CQ.sh ?_
  refine .seq (.seq (.r4 G [4, 6, 7, 8, 9, 10] [(65, aB (decide (d >= 0)))] ?_))
  refine .cd hr ?_ ?_ <;> intro C6 hr
  ·refine .skip (.seq (.block (.seq ?_)))
   obtain ⟨S, tR, hr⟩ := bd hr
   obtain ⟨l8, hr⟩ := gd hr
   refine .t1 G (fF (args := [.hs 1 0 q.length 1, ag (G1 (d + (g.length : Int)))]) (l := [1]) rfl (SnL.cons (Sn.hs rfl (.inl rfl) (SnC.pure (aY (aA _) _)) (fun h => cc h)) (Sp SnL.nil)) (kO n q (G1 (d + (g.length : Int))) S tR)) (.mu 4 (.ca cf0 (.mu 7 (.pk (v := .hp 1 (0 + (G1 ((G1 (d + (g.length : Int))) - 1)).toNat * 1)) (tr (ar l8)) (.pk (v := a7 (gt q (G1 ((G1 (d + (g.length : Int))) - 1)))) (tr (aI (aJ (aG .u32) (aE l8) z1 (by omega : 0 + (G1 ((G1 (d + (g.length : Int))) - 1)).toNat * 1 = (G1 ((G1 (d + (g.length : Int))) - 1)).toNat * 1 + 0) kRf))) (.mu 3 ?_))))))
   refine .done (kRa ?_)
   refine .nh [4, 6, 7, 8, 9, 10, 11] [.own (i.flatMap iCu), .own (q.flatMap iCu), .own (g.flatMap iCu)] (.seq ?_)
   obtain ⟨C, lG, hr⟩ := gd2 hr
   refine .eX G bO (.mu 4 (.pk (v := .hp 2 (0 + (G1 ((g.length : Int) - 1)).toNat * 1)) (tr (ar C)) (.pk (v := a7 (gt g (G1 ((g.length : Int) - 1)))) (tr (aI (aJ (aG .u32) (aE C) z1 (by omega : 0 + (G1 ((g.length : Int) - 1)).toNat * 1 = (G1 ((g.length : Int) - 1)).toNat * 1 + 0) kRf))) (.mu 1 (.pk (v := cx (wFu ((wFu ((wFu ((wFu S) * 1000000000)) + (wFu (gt q (G1 ((G1 (d + (g.length : Int))) - 1)))))).tdiv (wFu (gt g (G1 ((g.length : Int) - 1))))))) (oD (x := wFu ((wFu ((wFu S) * 1000000000)) + (wFu (gt q (G1 ((G1 (d + (g.length : Int))) - 1)))))) (y := wFu (gt g (G1 ((g.length : Int) - 1)))) kRf kRf lG) (.mu 4 (.pk (v := .hp 2 (0 + (G1 ((g.length : Int) - 1)).toNat * 1)) (tr (ar C)) (.pk (v := a7 (gt g (G1 ((g.length : Int) - 1)))) (tr (aI (aJ (aG .u32) (aE C) z1 (by omega : 0 + (G1 ((g.length : Int) - 1)).toNat * 1 = (G1 ((g.length : Int) - 1)).toNat * 1 + 0) kRf))) (.mu 1 (.pk (v := cx ((wFu ((wFu ((wFu S) * 1000000000)) + (wFu (gt q (G1 ((G1 (d + (g.length : Int))) - 1)))))).tmod (wFu (gt g (G1 ((g.length : Int) - 1)))))) (mi (x := wFu ((wFu ((wFu S) * 1000000000)) + (wFu (gt q (G1 ((G1 (d + (g.length : Int))) - 1)))))) (y := wFu (gt g (G1 ((g.length : Int) - 1)))) kRf kRf lG) (.mu 2 ?_)))))))))))
   refine .done (kRa ?_)
   refine .nh [4, 6, 7, 8, 9, 10, 12, 13] [.own (i.flatMap iCu), .own (q.flatMap iCu), .own (g.flatMap iCu)] (.seq (.block ?_))
   replace hr := bd hr; obtain ⟨j, mM, hr⟩ := hr
   refine .aN (σ := fun z0 => match z0 with | (L, M) => ⟨mkS 266 0 [(4, .hs 0 0 i.length 1), (6, a7 (aa .u32 (wFu ((1000000000 : Int).tdiv (wFu ((wFu (gt b (G1 ((b.length : Int) - 1)))) + 1)))))), (7, .hs 1 0 q.length 1), (8, .hs 2 0 g.length 1), (9, ag (g.length : Int)), (10, ag d), (12, cx L), (13, cx M)], [.own (i.flatMap iCu), .own (q.flatMap iCu), .own (g.flatMap iCu)]⟩) (Q := fun x st' => x = .exit 2 /\ Wk 0 st' ⟨mkS 266 0 [(4, .hs 0 0 i.length 1), (6, a7 (aa .u32 (wFu ((1000000000 : Int).tdiv (wFu ((wFu (gt b (G1 ((b.length : Int) - 1)))) + 1)))))), (7, .hs 1 0 q.length 1), (8, .hs 2 0 g.length 1), (9, ag (g.length : Int)), (10, ag d), (12, cx j)], [.own (i.flatMap iCu), .own (q.flatMap iCu), .own (g.flatMap iCu)]⟩) mM ((Wk.gc [4, 6, 7, 8, 9, 10, 12, 13] kF3 rfl (pKo iCu (aA _) i (pKo iCu (aA _) q (pKo iCu (aA _) g trivial)))).to) ?_ ?_
   ·clear hr
    rintro m ⟨L, M⟩ hr
    refine CQ.sh ?_
    refine .seq (.seq ?_)
    rcases bT (decide (L >= 1000000000)) with N | N
    ·replace hr := bY N hr
     refine .eX G bO (.mu 1 (.pk (v := aB true) (eB N) (.mu 22 ?_)))
     refine .done (kRa ?_)
     refine .nh [4, 6, 7, 8, 9, 10, 12, 13, 123] [.own (i.flatMap iCu), .own (q.flatMap iCu), .own (g.flatMap iCu)] (.cT kRf (.skip (.block (.seq (.r4 G [4, 6, 7, 8, 9, 10, 13] [(12, cx (wFu (L - 1)))] (.seq (.r0 G (.mu 4 (.p0 (v := .hp 2 (0 + (G1 ((g.length : Int) - 1)).toNat * 1)) (tr (ar C)) (.p0 (v := a7 (gt g (G1 ((g.length : Int) - 1)))) (tr (aI (aJ (aG .u32) (aE C) z1 (by omega : 0 + (G1 ((g.length : Int) - 1)).toNat * 1 = (G1 ((g.length : Int) - 1)).toNat * 1 + 0) kRf))) (.mu 3 (.done (.nh [4, 6, 7, 8, 9, 10, 12, 13] [.own (i.flatMap iCu), .own (q.flatMap iCu), .own (g.flatMap iCu)] (.seq (.r4 G [4, 6, 7, 8, 9, 10, 12, 13] [(135, aB (decide ((wFu (M + (wFu (gt g (G1 ((g.length : Int) - 1)))))) >= 1000000000)))] ?_)))))))))))))))
     refine .cd hr ?_ ?_ <;> intro BZ hr
     ·refine .leave rfl ?_
      obtain rfl := oi hr
      exact ⟨rfl, ((Wk.gc [4, 6, 7, 8, 9, 10, 12] kF3 rfl (pKo iCu (aA _) i (pKo iCu (aA _) q (pKo iCu (aA _) g trivial)))).to)⟩
     refine .skip (.pop ?_)
     exact az (wFu (L - 1), wFu (M + (wFu (gt g (G1 ((g.length : Int) - 1)))))) hr ((Wk.gc [4, 6, 7, 8, 9, 10, 12, 13] kF3 rfl (pKo iCu (aA _) i (pKo iCu (aA _) q (pKo iCu (aA _) g trivial)))).to)
    replace hr := bW N hr
    obtain ⟨mz, oq, hr⟩ := gd2 hr
    refine .eX G bO (.mu 1 (.pk (v := aB false) (eB N) (.mu 5 (.pk (v := .hp 2 (0 + (G1 ((g.length : Int) - 2)).toNat * 1)) (tr (ar mz)) (.pk (v := a7 (gt g (G1 ((g.length : Int) - 2)))) (tr (aI (aJ (aG .u32) (aE mz) z1 (by omega : 0 + (G1 ((g.length : Int) - 2)).toNat * 1 = (G1 ((g.length : Int) - 2)).toNat * 1 + 0) kRf))) (.mu 9 (.pk (v := .hp 1 (0 + (G1 ((G1 (d + (g.length : Int))) - 2)).toNat * 1)) (tr (ar oq)) (.pk (v := a7 (gt q (G1 ((G1 (d + (g.length : Int))) - 2)))) (tr (aI (aJ (aG .u32) (aE oq) z1 (by omega : 0 + (G1 ((G1 (d + (g.length : Int))) - 2)).toNat * 1 = (G1 ((G1 (d + (g.length : Int))) - 2)).toNat * 1 + 0) kRf))) (.mu 4 ?_)))))))))
    refine .done (kRa ?_)
    refine .nh [4, 6, 7, 8, 9, 10, 12, 13, 123] [.own (i.flatMap iCu), .own (q.flatMap iCu), .own (g.flatMap iCu)] ?_
    refine .cd hr ?_ ?_ <;> intro Ci hr
    ·refine .skip (.block (.seq (.r4 G [4, 6, 7, 8, 9, 10, 13] [(12, cx (wFu (L - 1)))] (.seq (.r0 G (.mu 4 (.p0 (v := .hp 2 (0 + (G1 ((g.length : Int) - 1)).toNat * 1)) (tr (ar C)) (.p0 (v := a7 (gt g (G1 ((g.length : Int) - 1)))) (tr (aI (aJ (aG .u32) (aE C) z1 (by omega : 0 + (G1 ((g.length : Int) - 1)).toNat * 1 = (G1 ((g.length : Int) - 1)).toNat * 1 + 0) kRf))) (.mu 3 (.done (.nh [4, 6, 7, 8, 9, 10, 12, 13] [.own (i.flatMap iCu), .own (q.flatMap iCu), .own (g.flatMap iCu)] (.seq (.r4 G [4, 6, 7, 8, 9, 10, 12, 13] [(135, aB (decide ((wFu (M + (wFu (gt g (G1 ((g.length : Int) - 1)))))) >= 1000000000)))] ?_)))))))))))))
     refine .cd hr ?_ ?_ <;> intro BW hr
     ·refine .leave rfl ?_
      obtain rfl := oi hr
      exact ⟨rfl, ((Wk.gc [4, 6, 7, 8, 9, 10, 12] kF3 rfl (pKo iCu (aA _) i (pKo iCu (aA _) q (pKo iCu (aA _) g trivial)))).to)⟩
     refine .skip (.pop ?_)
     exact az (wFu (L - 1), wFu (M + (wFu (gt g (G1 ((g.length : Int) - 1)))))) hr ((Wk.gc [4, 6, 7, 8, 9, 10, 12, 13] kF3 rfl (pKo iCu (aA _) i (pKo iCu (aA _) q (pKo iCu (aA _) g trivial)))).to)
    refine .leave rfl ?_
    obtain rfl := oi hr
    exact ⟨rfl, ((Wk.gc [4, 6, 7, 8, 9, 10, 12] kF3 rfl (pKo iCu (aA _) i (pKo iCu (aA _) q (pKo iCu (aA _) g trivial)))).to)⟩
   rintro x st' T
   clear mM
   obtain ⟨rfl, T⟩ := T
   refine aU _ rfl (.wk T (.seq (.r4 G [4, 6, 7, 8, 9, 10, 12] [(14, ag 0), (15, cx 0)] (.seq (.seq (.r4 G [4, 6, 7, 8, 9, 10, 12, 14, 15] [(136, ag (g.length : Int)), (137, ag 0)] (.block ?_)))))))
   replace hr := bd hr; obtain ⟨na, ov, hr⟩ := hr
   refine .aN (σ := fun z0 => match z0 with | (k, u, s, e) => ⟨mkS 266 0 [(4, .hs 0 0 i.length 1), (6, a7 (aa .u32 (wFu ((1000000000 : Int).tdiv (wFu ((wFu (gt b (G1 ((b.length : Int) - 1)))) + 1)))))), (7, .hs 1 0 k.length 1), (8, .hs 2 0 g.length 1), (9, ag (g.length : Int)), (10, ag d), (12, cx j), (14, ag u), (15, cx s), (136, ag (g.length : Int)), (137, ag e)], [.own (i.flatMap iCu), .own (k.flatMap iCu), .own (g.flatMap iCu)]⟩) (Q := fun x st' => match (generalizing := false) na with | (o, w, A) => x = .exit 4 /\ Wk 0 st' ⟨mkS 266 0 [(4, .hs 0 0 i.length 1), (6, a7 (aa .u32 (wFu ((1000000000 : Int).tdiv (wFu ((wFu (gt b (G1 ((b.length : Int) - 1)))) + 1)))))), (7, .hs 1 0 o.length 1), (8, .hs 2 0 g.length 1), (9, ag (g.length : Int)), (10, ag d), (12, cx j), (14, ag w), (15, cx A)], [.own (i.flatMap iCu), .own (o.flatMap iCu), .own (g.flatMap iCu)]⟩) ov ((Wk.gc [4, 6, 7, 8, 9, 10, 12, 14, 15, 136, 137] kF3 rfl (pKo iCu (aA _) i (pKo iCu (aA _) q (pKo iCu (aA _) g trivial)))).to) ?_ ?_
   ·clear hr
    rintro m ⟨k, u, s, e⟩ hr
    refine CQ.sh ?_
    refine .seq (.r4 G [4, 6, 7, 8, 9, 10, 12, 14, 15, 136, 137] [(138, aB (decide (e < (g.length : Int))))] (.seq ?_))
    refine .cd hr ?_ ?_ <;> intro CL hr
    ·refine .skip (.seq (.block (.seq (.r4 G [4, 6, 7, 8, 9, 10, 12, 14, 15, 136, 137] [(16, ag e)] (.seq ?_)))))
     obtain ⟨py, hr⟩ := gd hr
     refine .r0 G (.mu 3 (.p0 (v := .hp 2 (0 + e.toNat * 1)) (tr (ar py)) (.p0 (v := a7 (gt g e)) (tr (aI (aJ (aG .u32) (aE py) z1 (by omega : 0 + e.toNat * 1 = e.toNat * 1 + 0) kRf))) (.mu 5 (.done (.nh [4, 6, 7, 8, 9, 10, 12, 14, 16, 17, 136, 137] [.own (i.flatMap iCu), .own (k.flatMap iCu), .own (g.flatMap iCu)] (.seq (.r4 G [4, 6, 7, 8, 9, 10, 12, 14, 16, 17, 136, 137] [(15, cx (wFu ((wFu ((wFu (j * (wFu (gt g e)))) + s)).tdiv 1000000000)))] (.seq ?_)))))))))
     obtain ⟨D, hr⟩ := gd hr
     refine .r0 G (.mu 4 (.p0 (v := .hp 1 (0 + (G1 (e + d)).toNat * 1)) (tr (ar D)) (.p0 (v := a7 (gt k (G1 (e + d)))) (tr (aI (aJ (aG .u32) (aE D) z1 (by omega : 0 + (G1 (e + d)).toNat * 1 = (G1 (e + d)).toNat * 1 + 0) kRf))) (.mu 8 (.done (.nh [4, 6, 7, 8, 9, 10, 12, 15, 16, 18, 136, 137] [.own (i.flatMap iCu), .own (k.flatMap iCu), .own (g.flatMap iCu)] (.seq (.r4 G [4, 6, 7, 8, 9, 10, 12, 15, 16, 18, 136, 137] [(14, ag 0)] (.seq (.seq (.r4 G [4, 6, 7, 8, 9, 10, 12, 14, 15, 16, 18, 136, 137] [(165, aB (decide ((G1 ((G1 ((G1 (gt k (G1 (e + d)))) - u)) - (G1 ((wFu ((wFu (j * (wFu (gt g e)))) + s)).tmod 1000000000)))) < 0)))] ?_)))))))))))
     refine .cd hr ?_ ?_ <;> intro Cf hr
     ·refine .r4 G [4, 6, 7, 8, 9, 10, 12, 15, 16, 136, 137] [(14, ag 1), (18, ag (G1 ((G1 ((G1 ((G1 (gt k (G1 (e + d)))) - u)) - (G1 ((wFu ((wFu (j * (wFu (gt g e)))) + s)).tmod 1000000000)))) + 1000000000)))] (.r0 G (.mu 6 (.p0 (v := .hp 1 (0 + (G1 (e + d)).toNat * 1)) (tr (ar D)) (.e0 (v := .unk) (ws := [(1, .own ((k.set (G1 (e + d)).toNat (aa .u32 (G1 ((G1 ((G1 ((G1 (gt k (G1 (e + d)))) - u)) - (G1 ((wFu ((wFu (j * (wFu (gt g e)))) + s)).tmod 1000000000)))) + 1000000000)))).flatMap iCu))]) (tr (jn (ju (cy (n := 1) (aG .u32) (aE D) (lbT rfl) (by omega : 0 + (G1 (e + d)).toNat * 1 = (G1 (e + d)).toNat * 1 + 0))) (congrArg Blk.own (dc (xs := [a7 (aa .u32 (G1 ((G1 ((G1 ((G1 (gt k (G1 (e + d)))) - u)) - (G1 ((wFu ((wFu (j * (wFu (gt g e)))) + s)).tmod 1000000000)))) + 1000000000)))]) (aG .u32) (aE D) (lbT rfl) (by omega : 0 + (G1 (e + d)).toNat * 1 = (G1 (e + d)).toNat * 1 + 0) kRf)))) (.done (.pop (.ru G ?_)))))))
      exact az (k.set (G1 (e + d)).toNat (aa .u32 (G1 ((G1 ((G1 ((G1 (gt k (G1 (e + d)))) - u)) - (G1 ((wFu ((wFu (j * (wFu (gt g e)))) + s)).tmod 1000000000)))) + 1000000000))), 1, wFu ((wFu ((wFu (j * (wFu (gt g e)))) + s)).tdiv 1000000000), G1 (e + 1)) hr ((Wk.iF 7 (b := 1) (es := 1) (len := k.length) (k.set (G1 (e + d)).toNat (aa .u32 (G1 ((G1 ((G1 ((G1 (gt k (G1 (e + d)))) - u)) - (G1 ((wFu ((wFu (j * (wFu (gt g e)))) + s)).tmod 1000000000)))) + 1000000000)))).length kRf (Eq.symm (List.length_set.trans rfl))).trans ((Wk.gc [4, 6, 7, 8, 9, 10, 12, 14, 15, 136, 137] kF3 rfl (pKo iCu (aA _) i (pKo iCu (aA _) (k.set (G1 (e + d)).toNat (aa .u32 (G1 ((G1 ((G1 ((G1 (gt k (G1 (e + d)))) - u)) - (G1 ((wFu ((wFu (j * (wFu (gt g e)))) + s)).tmod 1000000000)))) + 1000000000)))) (pKo iCu (aA _) g trivial)))).to))
     refine .skip (.r0 G (.mu 6 (.p0 (v := .hp 1 (0 + (G1 (e + d)).toNat * 1)) (tr (ar D)) (.e0 (v := .unk) (ws := [(1, .own ((k.set (G1 (e + d)).toNat (aa .u32 (G1 ((G1 ((G1 (gt k (G1 (e + d)))) - u)) - (G1 ((wFu ((wFu (j * (wFu (gt g e)))) + s)).tmod 1000000000)))))).flatMap iCu))]) (tr (jn (ju (cy (n := 1) (aG .u32) (aE D) (lbT rfl) (by omega : 0 + (G1 (e + d)).toNat * 1 = (G1 (e + d)).toNat * 1 + 0))) (congrArg Blk.own (dc (xs := [a7 (aa .u32 (G1 ((G1 ((G1 (gt k (G1 (e + d)))) - u)) - (G1 ((wFu ((wFu (j * (wFu (gt g e)))) + s)).tmod 1000000000)))))]) (aG .u32) (aE D) (lbT rfl) (by omega : 0 + (G1 (e + d)).toNat * 1 = (G1 (e + d)).toNat * 1 + 0) kRf)))) (.done (.pop (.ru G ?_)))))))
     exact az (k.set (G1 (e + d)).toNat (aa .u32 (G1 ((G1 ((G1 (gt k (G1 (e + d)))) - u)) - (G1 ((wFu ((wFu (j * (wFu (gt g e)))) + s)).tmod 1000000000))))), 0, wFu ((wFu ((wFu (j * (wFu (gt g e)))) + s)).tdiv 1000000000), G1 (e + 1)) hr ((Wk.iF 7 (b := 1) (es := 1) (len := k.length) (k.set (G1 (e + d)).toNat (aa .u32 (G1 ((G1 ((G1 (gt k (G1 (e + d)))) - u)) - (G1 ((wFu ((wFu (j * (wFu (gt g e)))) + s)).tmod 1000000000)))))).length kRf (Eq.symm (List.length_set.trans rfl))).trans ((Wk.gc [4, 6, 7, 8, 9, 10, 12, 14, 15, 136, 137] kF3 rfl (pKo iCu (aA _) i (pKo iCu (aA _) (k.set (G1 (e + d)).toNat (aa .u32 (G1 ((G1 ((G1 (gt k (G1 (e + d)))) - u)) - (G1 ((wFu ((wFu (j * (wFu (gt g e)))) + s)).tmod 1000000000)))))) (pKo iCu (aA _) g trivial)))).to))
    refine .leave rfl ?_
    obtain rfl := oi hr
    exact ⟨rfl, ((Wk.gc [4, 6, 7, 8, 9, 10, 12, 14, 15] kF3 rfl (pKo iCu (aA _) i (pKo iCu (aA _) k (pKo iCu (aA _) g trivial)))).to)⟩
   rcases na with ⟨o, w, A⟩
   rintro x st' U
   clear ov
   obtain ⟨rfl, U⟩ := U
   refine aU _ rfl (.wk U (.seq ?_))
   obtain ⟨E, hr⟩ := gd hr
   refine .r0 G (.mu 4 (.p0 (v := .hp 1 (0 + (G1 (d + (g.length : Int))).toNat * 1)) (tr (ar E)) (.p0 (v := a7 (gt o (G1 (d + (g.length : Int))))) (tr (aI (aJ (aG .u32) (aE E) z1 (by omega : 0 + (G1 (d + (g.length : Int))).toNat * 1 = (G1 (d + (g.length : Int))).toNat * 1 + 0) kRf))) (.mu 7 (.done (.nh [4, 6, 7, 8, 9, 10, 12, 19] [.own (i.flatMap iCu), .own (o.flatMap iCu), .own (g.flatMap iCu)] (.seq (.seq (.r4 G [4, 6, 7, 8, 9, 10, 12, 19] [(189, aB (decide ((G1 ((G1 ((G1 (gt o (G1 (d + (g.length : Int))))) - w)) - (G1 A))) < 0)))] ?_)))))))))
   refine .cd hr ?_ ?_ <;> intro BX hr
   ·refine .seq (.r0 G (.mu 7 (.p0 (v := .hp 1 (0 + (G1 (d + (g.length : Int))).toNat * 1)) (tr (ar E)) (.e0 (v := .unk) (ws := [(1, .own ((o.set (G1 (d + (g.length : Int))).toNat (aa .u32 (G1 ((G1 ((G1 ((G1 (gt o (G1 (d + (g.length : Int))))) - w)) - (G1 A))) + 1000000000)))).flatMap iCu))]) (tr (jn (ju (cy (n := 1) (aG .u32) (aE E) (lbT rfl) (by omega : 0 + (G1 (d + (g.length : Int))).toNat * 1 = (G1 (d + (g.length : Int))).toNat * 1 + 0))) (congrArg Blk.own (dc (xs := [a7 (aa .u32 (G1 ((G1 ((G1 ((G1 (gt o (G1 (d + (g.length : Int))))) - w)) - (G1 A))) + 1000000000)))]) (aG .u32) (aE E) (lbT rfl) (by omega : 0 + (G1 (d + (g.length : Int))).toNat * 1 = (G1 (d + (g.length : Int))).toNat * 1 + 0) kRf)))) (.done (.nh [4, 6, 7, 8, 9, 10, 12] [.own (i.flatMap iCu), .own ((o.set (G1 (d + (g.length : Int))).toNat (aa .u32 (G1 ((G1 ((G1 ((G1 (gt o (G1 (d + (g.length : Int))))) - w)) - (G1 A))) + 1000000000)))).flatMap iCu), .own (g.flatMap iCu)] (.seq (.r4 G [4, 6, 7, 8, 9, 10] [(12, cx (wFu (j - 1)))] (.seq (.r4 G [4, 6, 7, 8, 9, 10, 12] [(20, a7 0)] (.seq (.seq (.r4 G [4, 6, 7, 8, 9, 10, 12, 20] [(200, ag (g.length : Int)), (201, ag 0)] (.block ?_))))))))))))))
    replace hr := bd hr; obtain ⟨pN, km, hr⟩ := hr
    refine .aN (σ := fun z0 => match z0 with | (p, B, f) => ⟨mkS 266 0 [(4, .hs 0 0 i.length 1), (6, a7 (aa .u32 (wFu ((1000000000 : Int).tdiv (wFu ((wFu (gt b (G1 ((b.length : Int) - 1)))) + 1)))))), (7, .hs 1 0 p.length 1), (8, .hs 2 0 g.length 1), (9, ag (g.length : Int)), (10, ag d), (12, cx (wFu (j - 1))), (20, a7 B), (200, ag (g.length : Int)), (201, ag f)], [.own (i.flatMap iCu), .own (p.flatMap iCu), .own (g.flatMap iCu)]⟩) (Q := fun x st' => match (generalizing := false) pN with | (t, F) => x = .exit 6 /\ Wk 0 st' ⟨mkS 266 0 [(4, .hs 0 0 i.length 1), (6, a7 (aa .u32 (wFu ((1000000000 : Int).tdiv (wFu ((wFu (gt b (G1 ((b.length : Int) - 1)))) + 1)))))), (7, .hs 1 0 t.length 1), (8, .hs 2 0 g.length 1), (9, ag (g.length : Int)), (10, ag d), (12, cx (wFu (j - 1))), (20, a7 F)], [.own (i.flatMap iCu), .own (t.flatMap iCu), .own (g.flatMap iCu)]⟩) km ((Wk.iF 7 (b := 1) (es := 1) (len := o.length) (o.set (G1 (d + (g.length : Int))).toNat (aa .u32 (G1 ((G1 ((G1 ((G1 (gt o (G1 (d + (g.length : Int))))) - w)) - (G1 A))) + 1000000000)))).length kRf (Eq.symm (List.length_set.trans rfl))).trans ((Wk.gc [4, 6, 7, 8, 9, 10, 12, 20, 200, 201] kF3 rfl (pKo iCu (aA _) i (pKo iCu (aA _) (o.set (G1 (d + (g.length : Int))).toNat (aa .u32 (G1 ((G1 ((G1 ((G1 (gt o (G1 (d + (g.length : Int))))) - w)) - (G1 A))) + 1000000000)))) (pKo iCu (aA _) g trivial)))).to)) ?_ ?_
    ·clear hr
     rintro m ⟨p, B, f⟩ hr
     refine CQ.sh ?_
     refine .seq (.r4 G [4, 6, 7, 8, 9, 10, 12, 20, 200, 201] [(202, aB (decide (f < (g.length : Int))))] (.seq ?_))
     refine .cd hr ?_ ?_ <;> intro Em hr
     ·refine .skip (.seq (.block (.seq (.r4 G [4, 6, 7, 8, 9, 10, 12, 20, 200, 201] [(21, ag f)] (.seq ?_)))))
      obtain ⟨H, lY, hr⟩ := gd2 hr
      refine .eX G bO (.mu 4 (.pk (v := .hp 1 (0 + (G1 (f + d)).toNat * 1)) (tr (ar H)) (.pk (v := a7 (gt p (G1 (f + d)))) (tr (aI (aJ (aG .u32) (aE H) z1 (by omega : 0 + (G1 (f + d)).toNat * 1 = (G1 (f + d)).toNat * 1 + 0) kRf))) (.mu 2 (.pk (v := .hp 2 (0 + f.toNat * 1)) (tr (ar lY)) (.pk (v := a7 (gt g f)) (tr (aI (aJ (aG .u32) (aE lY) z1 (by omega : 0 + f.toNat * 1 = f.toNat * 1 + 0) kRf))) (.mu 4 ?_)))))))
      refine .done (kRa ?_)
      refine .nh [4, 6, 7, 8, 9, 10, 12, 21, 22, 200, 201] [.own (i.flatMap iCu), .own (p.flatMap iCu), .own (g.flatMap iCu)] (.seq (.r4 G [4, 6, 7, 8, 9, 10, 12, 21, 22, 200, 201] [(20, a7 0)] (.seq (.seq (.r4 G [4, 6, 7, 8, 9, 10, 12, 20, 21, 22, 200, 201] [(218, aB (decide ((aa .u32 ((aa .u32 ((gt p (G1 (f + d))) + (gt g f))) + B)) >= 1000000000)))] ?_)))))
      refine .cd hr ?_ ?_ <;> intro Eu hr
      ·refine .r4 G [4, 6, 7, 8, 9, 10, 12, 21, 200, 201] [(20, a7 1), (22, a7 (aa .u32 ((aa .u32 ((aa .u32 ((gt p (G1 (f + d))) + (gt g f))) + B)) - 1000000000)))] (.r0 G (.mu 5 (.p0 (v := .hp 1 (0 + (G1 (f + d)).toNat * 1)) (tr (ar H)) (.e0 (v := .unk) (ws := [(1, .own ((p.set (G1 (f + d)).toNat (aa .u32 ((aa .u32 ((aa .u32 ((gt p (G1 (f + d))) + (gt g f))) + B)) - 1000000000))).flatMap iCu))]) (tr (jn (ju (cy (n := 1) (aG .u32) (aE H) (lbT rfl) (by omega : 0 + (G1 (f + d)).toNat * 1 = (G1 (f + d)).toNat * 1 + 0))) (congrArg Blk.own (dc (xs := [a7 (aa .u32 ((aa .u32 ((aa .u32 ((gt p (G1 (f + d))) + (gt g f))) + B)) - 1000000000))]) (aG .u32) (aE H) (lbT rfl) (by omega : 0 + (G1 (f + d)).toNat * 1 = (G1 (f + d)).toNat * 1 + 0) kRf)))) (.done (.pop (.ru G ?_)))))))
       exact az (p.set (G1 (f + d)).toNat (aa .u32 ((aa .u32 ((aa .u32 ((gt p (G1 (f + d))) + (gt g f))) + B)) - 1000000000)), 1, G1 (f + 1)) hr ((Wk.iF 7 (b := 1) (es := 1) (len := p.length) (p.set (G1 (f + d)).toNat (aa .u32 ((aa .u32 ((aa .u32 ((gt p (G1 (f + d))) + (gt g f))) + B)) - 1000000000))).length kRf (Eq.symm (List.length_set.trans rfl))).trans ((Wk.gc [4, 6, 7, 8, 9, 10, 12, 20, 200, 201] kF3 rfl (pKo iCu (aA _) i (pKo iCu (aA _) (p.set (G1 (f + d)).toNat (aa .u32 ((aa .u32 ((aa .u32 ((gt p (G1 (f + d))) + (gt g f))) + B)) - 1000000000))) (pKo iCu (aA _) g trivial)))).to))
      refine .skip (.r0 G (.mu 5 (.p0 (v := .hp 1 (0 + (G1 (f + d)).toNat * 1)) (tr (ar H)) (.e0 (v := .unk) (ws := [(1, .own ((p.set (G1 (f + d)).toNat (aa .u32 ((aa .u32 ((gt p (G1 (f + d))) + (gt g f))) + B))).flatMap iCu))]) (tr (jn (ju (cy (n := 1) (aG .u32) (aE H) (lbT rfl) (by omega : 0 + (G1 (f + d)).toNat * 1 = (G1 (f + d)).toNat * 1 + 0))) (congrArg Blk.own (dc (xs := [a7 (aa .u32 ((aa .u32 ((gt p (G1 (f + d))) + (gt g f))) + B))]) (aG .u32) (aE H) (lbT rfl) (by omega : 0 + (G1 (f + d)).toNat * 1 = (G1 (f + d)).toNat * 1 + 0) kRf)))) (.done (.pop (.ru G ?_)))))))
      exact az (p.set (G1 (f + d)).toNat (aa .u32 ((aa .u32 ((gt p (G1 (f + d))) + (gt g f))) + B)), 0, G1 (f + 1)) hr ((Wk.iF 7 (b := 1) (es := 1) (len := p.length) (p.set (G1 (f + d)).toNat (aa .u32 ((aa .u32 ((gt p (G1 (f + d))) + (gt g f))) + B))).length kRf (Eq.symm (List.length_set.trans rfl))).trans ((Wk.gc [4, 6, 7, 8, 9, 10, 12, 20, 200, 201] kF3 rfl (pKo iCu (aA _) i (pKo iCu (aA _) (p.set (G1 (f + d)).toNat (aa .u32 ((aa .u32 ((gt p (G1 (f + d))) + (gt g f))) + B))) (pKo iCu (aA _) g trivial)))).to))
     refine .leave rfl ?_
     obtain rfl := oi hr
     exact ⟨rfl, ((Wk.gc [4, 6, 7, 8, 9, 10, 12, 20] kF3 rfl (pKo iCu (aA _) i (pKo iCu (aA _) p (pKo iCu (aA _) g trivial)))).to)⟩
    rcases pN with ⟨t, F⟩
    rintro x st' V
    clear km
    obtain ⟨rfl, V⟩ := V
    refine aU _ rfl (.wk V ?_)
    obtain ⟨O, hr⟩ := gd hr
    refine .r0 G (.mu 8 (.p0 (v := .hp 1 (0 + (G1 (d + (g.length : Int))).toNat * 1)) (tr (ar O)) (.p0 (v := a7 (gt t (G1 (d + (g.length : Int))))) (tr (aI (aJ (aG .u32) (aE O) z1 (by omega : 0 + (G1 (d + (g.length : Int))).toNat * 1 = (G1 (d + (g.length : Int))).toNat * 1 + 0) kRf))) (.mu 3 (.p0 (v := .hp 1 (0 + (G1 (d + (g.length : Int))).toNat * 1)) (tr (ar O)) (.e0 (v := .unk) (ws := [(1, .own ((t.set (G1 (d + (g.length : Int))).toNat ((aa .u32 ((gt t (G1 (d + (g.length : Int)))) + F)).tmod 1000000000)).flatMap iCu))]) (tr (jn (ju (cy (n := 1) (aG .u32) (aE O) (lbT rfl) (by omega : 0 + (G1 (d + (g.length : Int))).toNat * 1 = (G1 (d + (g.length : Int))).toNat * 1 + 0))) (congrArg Blk.own (dc (xs := [a7 ((aa .u32 ((gt t (G1 (d + (g.length : Int)))) + F)).tmod 1000000000)]) (aG .u32) (aE O) (lbT rfl) (by omega : 0 + (G1 (d + (g.length : Int))).toNat * 1 = (G1 (d + (g.length : Int))).toNat * 1 + 0) kRf)))) (.done (.nh [4, 6, 7, 8, 9, 10, 12] [.own (i.flatMap iCu), .own ((t.set (G1 (d + (g.length : Int))).toNat ((aa .u32 ((gt t (G1 (d + (g.length : Int)))) + F)).tmod 1000000000)).flatMap iCu), .own (g.flatMap iCu)] ?_))))))))
    obtain ⟨W, hr⟩ := gd hr
    refine .r0 G (.mu 4 (.p0 (v := .hp 0 (0 + d.toNat * 1)) (tr (ar W)) (.e0 (v := .unk) (ws := [(0, .own ((i.set d.toNat (aa .u32 (wFu (j - 1)))).flatMap iCu))]) (tr (jn (ju (cy (n := 1) (aG .u32) (aE W) (lbT rfl) (by omega : 0 + d.toNat * 1 = d.toNat * 1 + 0))) (congrArg Blk.own (dc (xs := [a7 (aa .u32 (wFu (j - 1)))]) (aG .u32) (aE W) (lbT rfl) (by omega : 0 + d.toNat * 1 = d.toNat * 1 + 0) kRf)))) (.done (.pop (.ru G ?_))))))
    exact az (i.set d.toNat (aa .u32 (wFu (j - 1))), t.set (G1 (d + (g.length : Int))).toNat ((aa .u32 ((gt t (G1 (d + (g.length : Int)))) + F)).tmod 1000000000), G1 (d - 1)) hr ((Wk.iF 4 (b := 0) (es := 1) (len := i.length) (i.set d.toNat (aa .u32 (wFu (j - 1)))).length kRf (Eq.symm (List.length_set.trans rfl))).trans ((Wk.iF 7 (b := 1) (es := 1) (len := t.length) (t.set (G1 (d + (g.length : Int))).toNat ((aa .u32 ((gt t (G1 (d + (g.length : Int)))) + F)).tmod 1000000000)).length kRf (Eq.symm (List.length_set.trans rfl))).trans ((Wk.gc [4, 6, 7, 8, 9, 10] kF3 rfl (pKo iCu (aA _) (i.set d.toNat (aa .u32 (wFu (j - 1)))) (pKo iCu (aA _) (t.set (G1 (d + (g.length : Int))).toNat ((aa .u32 ((gt t (G1 (d + (g.length : Int)))) + F)).tmod 1000000000)) (pKo iCu (aA _) g trivial)))).to)))
   refine .r0 G (.mu 6 (.p0 (v := .hp 1 (0 + (G1 (d + (g.length : Int))).toNat * 1)) (tr (ar E)) (.e0 (v := .unk) (ws := [(1, .own ((o.set (G1 (d + (g.length : Int))).toNat (aa .u32 (G1 ((G1 ((G1 (gt o (G1 (d + (g.length : Int))))) - w)) - (G1 A))))).flatMap iCu))]) (tr (jn (ju (cy (n := 1) (aG .u32) (aE E) (lbT rfl) (by omega : 0 + (G1 (d + (g.length : Int))).toNat * 1 = (G1 (d + (g.length : Int))).toNat * 1 + 0))) (congrArg Blk.own (dc (xs := [a7 (aa .u32 (G1 ((G1 ((G1 (gt o (G1 (d + (g.length : Int))))) - w)) - (G1 A))))]) (aG .u32) (aE E) (lbT rfl) (by omega : 0 + (G1 (d + (g.length : Int))).toNat * 1 = (G1 (d + (g.length : Int))).toNat * 1 + 0) kRf)))) (.done (.nh [4, 6, 7, 8, 9, 10, 12] [.own (i.flatMap iCu), .own ((o.set (G1 (d + (g.length : Int))).toNat (aa .u32 (G1 ((G1 ((G1 (gt o (G1 (d + (g.length : Int))))) - w)) - (G1 A))))).flatMap iCu), .own (g.flatMap iCu)] ?_)))))
   obtain ⟨X, hr⟩ := gd hr
   refine .r0 G (.mu 4 (.p0 (v := .hp 0 (0 + d.toNat * 1)) (tr (ar X)) (.e0 (v := .unk) (ws := [(0, .own ((i.set d.toNat (aa .u32 j)).flatMap iCu))]) (tr (jn (ju (cy (n := 1) (aG .u32) (aE X) (lbT rfl) (by omega : 0 + d.toNat * 1 = d.toNat * 1 + 0))) (congrArg Blk.own (dc (xs := [a7 (aa .u32 j)]) (aG .u32) (aE X) (lbT rfl) (by omega : 0 + d.toNat * 1 = d.toNat * 1 + 0) kRf)))) (.done (.pop (.ru G ?_))))))
   exact az (i.set d.toNat (aa .u32 j), o.set (G1 (d + (g.length : Int))).toNat (aa .u32 (G1 ((G1 ((G1 (gt o (G1 (d + (g.length : Int))))) - w)) - (G1 A)))), G1 (d - 1)) hr ((Wk.iF 4 (b := 0) (es := 1) (len := i.length) (i.set d.toNat (aa .u32 j)).length kRf (Eq.symm (List.length_set.trans rfl))).trans ((Wk.iF 7 (b := 1) (es := 1) (len := o.length) (o.set (G1 (d + (g.length : Int))).toNat (aa .u32 (G1 ((G1 ((G1 (gt o (G1 (d + (g.length : Int))))) - w)) - (G1 A))))).length kRf (Eq.symm (List.length_set.trans rfl))).trans ((Wk.gc [4, 6, 7, 8, 9, 10] kF3 rfl (pKo iCu (aA _) (i.set d.toNat (aa .u32 j)) (pKo iCu (aA _) (o.set (G1 (d + (g.length : Int))).toNat (aa .u32 (G1 ((G1 ((G1 (gt o (G1 (d + (g.length : Int))))) - w)) - (G1 A))))) (pKo iCu (aA _) g trivial)))).to)))
  refine .leave rfl ?_
  obtain rfl := oi hr
  exact ⟨rfl, ((Wk.gc [4, 6, 7, 9] [(0, false), (1, false)] rfl (pKo iCu (aA _) i (pKo iCu (aA _) q trivial))).to)⟩
 rcases mZ with ⟨I, J⟩
 rintro x st' Y
 clear lP
 obtain ⟨rfl, Y⟩ := Y
 refine aU _ rfl (.wk Y (.seq ?_))
 obtain ⟨lW, hr⟩ := gd hr
 obtain ⟨p8, uF, sN, wN, hr⟩ := bd2 hr
 refine .gn G (ca1 (b8 (args := [.hs 1 0 (g.length : Int).toNat 1]) (l := [1]) (SnL.cons (Sn.hsk (aG _) (aA _) (pR lW) rfl (.inl rfl)) SnL.nil) (fN n (J.take (g.length : Int).toNat) p8 uF)) (ca4 [.own (I.flatMap iCu), .fix (J.flatMap iCu)] (ok0 (kI n p8 (aa .u32 (wFu ((1000000000 : Int).tdiv (wFu ((wFu (gt b (G1 ((b.length : Int) - 1)))) + 1))))) sN wN)))) (.mu 2 (.p0 (v := .hs 1 0 (g.length : Int).toNat 1) (tr (y := slH (inS 0 (g.length : Int) J.length) true ((0 : Int).toNat) ((g.length : Int).toNat) (fun z1 z2 => .hs 1 (0 + z1 * 1) (z2 - z1) 1)) (CI lW kRf)) (.ca cf0 (.mu 1 (.ca (cfF cf0) (.mu 4 (.done (.nh [4, 5] [.own (I.flatMap iCu), .fix (J.flatMap iCu)] (.seq ?_)))))))))
 obtain ⟨so, wF, hr⟩ := bd hr
 refine .g1 G (b8 (args := [.hs 0 0 I.length 1]) (l := [0]) (SnL.cons (Sn.hs rfl (.inl rfl) (SnC.pure (aY (aA _) _)) (fun h => cc h)) SnL.nil) (fN n I so wF)) (.mu 1 (.ca cf0 (.mu 3 (.done (.ret ?_)))))
 obtain rfl := oi hr
 exact aH.ret (vs := [av so, av sN.1]) kRf (Sn.tup (Sp (Sp SnL.nil)))

theorem lI (n : Nat) (a : List Int) (b : List Int) (r : List Int × List Int) (hr : gb n a b = some r) : aK Tryz.prog 182 [av a, av b] (.tup [av r.1, av r.2]) := by
 unfold gb at hr
 refine aK.bd G Tryz.func182 [.tmp 4, .tmp 5] ?_
 unfold Tryz.f182
 simp only [gS]
 refine .seq (.r4 G [0, 1] [] (.seq (.seq ?_)))
 obtain ⟨L, E, hr⟩ := bd hr
 refine .g1 G (ok0 (jL n a b L E)) (.mu 2 (.ca cf0 (.mu 1 (.done (.nh [0, 1, 15] [] ?_)))))
 refine .cd hr ?_ ?_ <;> intro M hr
 ·refine .seq (.r3 G 59 [(4, nS), (5, av a)] (.ret ?_))
  obtain rfl := oi hr
  exact aH.ret (vs := [nS, av a]) kRf (Sn.tup (SnL.cons Sn.ft (Sp SnL.nil)))
 refine .skip (.seq ?_)
 obtain ⟨d, F, hr⟩ := bd hr
 refine .g1 G (ok0 (jy n a d F)) (.mu 1 (.ca cf0 (.mu 5 (.done (.nh [0, 1, 6, 7] [] (.seq ?_))))))
 obtain ⟨k, H, hr⟩ := bd hr
 refine .g1 G (ok0 (jy n b k H)) (.mu 1 (.ca cf0 (.mu 5 (.done (.nh [0, 1, 6, 7, 8, 9] [] (.seq (.seq ?_)))))))
 rcases bT d.2 with c | c
 ·replace hr := bY c hr
  refine .r0 G (.p0 (v := aB true) (eB c) (.mu 3 (.done (.nh [0, 1, 6, 8, 30] [] ?_))))
  refine .cd hr ?_ ?_ <;> intro N hr
  ·refine .seq ?_
   obtain ⟨e, hr⟩ := gd hr
   obtain ⟨q, f, s, g, hr⟩ := bd2 hr
   refine .tn G (ca1 (ok0 (et n (wFu (d.1.tdiv k.1)) q f)) (ca3 (ok0 (et n (d.1.tmod k.1) s g)))) (.mu 2 (.pk (v := cx (wFu (d.1.tdiv k.1))) (oD (x := d.1) (y := k.1) kRf kRf e) (.ca cf0 (.mu 2 (.pk (v := cx (d.1.tmod k.1)) (mi (x := d.1) (y := k.1) kRf kRf e) (.ca (cfA (fun h => by rw [sv g f (ti n h)]) cf0) (.mu 2 ?_)))))))
   refine .done (kRa ?_)
   refine .ret ?_
   obtain rfl := oi hr
   exact aH.ret (vs := [av q, av s]) kRf (Sn.tup (Sp (Sp SnL.nil)))
  refine .skip (.seq (.seq (.r4 G [0, 1] [(41, aB (((b.length : Int) : Int) == 1))] ?_)))
  refine .cd hr ?_ ?_ <;> intro I hr
  ·refine .seq ?_
   obtain ⟨i, hr⟩ := gd hr
   obtain ⟨l, t, hr⟩ := bd hr
   refine .g1 G (ok0 (kI n a (gt b 0) l t)) (.mu 2 (.p0 (v := .pp (b.flatMap iCu) ((0 : Int).toNat * 1)) (tr (ar i)) (.p0 (v := a7 (gt b 0)) (tr (aI (aJ (aG .u32) (aE i) z1 (by omega : (0 : Int).toNat * 1 = (0 : Int).toNat * 1 + 0) kRf))) (.ca cf0 (.mu 5 (.done (.nh [10, 11] [] (.seq ?_))))))))
   obtain ⟨u, w, hr⟩ := bd hr
   refine .g1 G (ok0 (et n (wFu l.2) u w)) (.mu 3 (.ca cf0 (.mu 2 (.done (.ret ?_)))))
   obtain rfl := oi hr
   exact aH.ret (vs := [av l.1, av u]) kRf (Sn.tup (Sp (Sp SnL.nil)))
  refine .skip (.seq ?_)
  obtain ⟨m, z, hr⟩ := bd hr
  refine .g1 G (ok0 (pj n a b m z)) (.mu 2 (.ca cf0 (.mu 4 (.done (.ret ?_)))))
  obtain rfl := oi hr
  exact aH.ret (vs := [av m.1, av m.2]) kRf (Sn.tup (Sp (Sp SnL.nil)))
 replace hr := bW c hr
 refine .r0 G (.p0 (v := aB false) (eB c) (.mu 3 (.done (.nh [0, 1, 6, 8, 30] [] (.cF kRf (.skip (.seq (.seq (.r4 G [0, 1] [(41, aB (((b.length : Int) : Int) == 1))] ?_)))))))))
 refine .cd hr ?_ ?_ <;> intro J hr
 ·refine .seq ?_
  obtain ⟨j, hr⟩ := gd hr
  obtain ⟨o, A, hr⟩ := bd hr
  refine .g1 G (ok0 (kI n a (gt b 0) o A)) (.mu 2 (.p0 (v := .pp (b.flatMap iCu) ((0 : Int).toNat * 1)) (tr (ar j)) (.p0 (v := a7 (gt b 0)) (tr (aI (aJ (aG .u32) (aE j) z1 (by omega : (0 : Int).toNat * 1 = (0 : Int).toNat * 1 + 0) kRf))) (.ca cf0 (.mu 5 (.done (.nh [10, 11] [] (.seq ?_))))))))
  obtain ⟨B, C, hr⟩ := bd hr
  refine .g1 G (ok0 (et n (wFu o.2) B C)) (.mu 3 (.ca cf0 (.mu 2 (.done (.ret ?_)))))
  obtain rfl := oi hr
  exact aH.ret (vs := [av o.1, av B]) kRf (Sn.tup (Sp (Sp SnL.nil)))
 refine .skip (.seq ?_)
 obtain ⟨p, D, hr⟩ := bd hr
 refine .g1 G (ok0 (pj n a b p D)) (.mu 2 (.ca cf0 (.mu 4 (.done (.ret ?_)))))
 obtain rfl := oi hr
 exact aH.ret (vs := [av p.1, av p.2]) kRf (Sn.tup (Sp (Sp SnL.nil)))

theorem mF (n : Nat) (s : ae) (y : ae) (r : ae) (hr : gC n s y = some r) : aK Tryz.prog 145 [.agg (ae.c s), .agg (ae.c y)] (.agg (ae.c r)) := by
 unfold gC at hr
 refine aK.bd G Tryz.func145 [.cell 4 40] ?_
 unfold Tryz.f145
 simp only [gS]
 refine .seq (.r2 G 54 [(2, .hp 0 0), (3, .hp 1 0), (4, .hp 2 0)] [.own (ae.c s), .own (ae.c y), .own [aB false, nS]] (.seq ?_))
 obtain ⟨W, t, X, u, hr⟩ := bd2 hr
 refine .tn G (ca1 (ok0 (bM n s W t)) (ca3 (ok0 (bM n y X u)))) (.mu 1 (.ca cf0 (.mu 1 (.ca (cfA (fun h => by rw [sv u t (fU n h)]) cf0) (.mu 2 ?_)))))
 refine .done (kRa ?_)
 refine .nh [4, 5, 6] [.own (ae.c s), .own (ae.c y), .own [aB false, nS]] (.seq (.block ?_))
 replace hr := bd hr; obtain ⟨w, g, hr⟩ := hr
 refine .aN (σ := fun R => match R with | (i, d) => ⟨mkS 54 0 [(4, .hp 0 0), (5, av i), (6, av d)], [.own [aB false, nS]]⟩) (Q := fun x st' => match (generalizing := false) w with | .inl j => x = .exit 0 /\ Wk 0 st' ⟨mkS 54 0 [(4, .hp 0 0), (5, av j)], [.own [aB false, nS]]⟩ | .inr (r0) => x = .ret /\ aH Tryz.prog [.cell 4 40] (.agg (ae.c r0)) .ret st') g ((Wk.gc [4, 5, 6] [(2, true)] rfl trivial).to) ?_ ?_
 ·clear hr
  rintro m ⟨i, d⟩ hr
  refine CQ.sh ?_
  refine .seq (.seq (.r4 G [4, 5, 6] [(19, aB (decide ((d.length : Int) > 0)))] ?_))
  refine .cd hr ?_ ?_ <;> intro T hr
  ·refine .skip (.block (.seq ?_))
   obtain ⟨z, A, hr⟩ := bd hr
   refine .g1 G (ok0 (jy n i z A)) (.mu 1 (.ca cf0 (.mu 5 (.done (.nh [4, 5, 6, 7, 8] [.own [aB false, nS]] (.seq ?_))))))
   obtain ⟨S, B, hr⟩ := bd hr
   refine .g1 G (ok0 (jy n d S B)) (.mu 1 (.ca cf0 (.mu 5 (.done (.nh [4, 5, 6, 7, 8, 9, 10] [.own [aB false, nS]] (.seq (.seq ?_)))))))
   rcases bT z.2 with e | e
   ·replace hr := bY e hr
    refine .r0 G (.p0 (v := aB true) (eB e) (.mu 3 (.done (.nh [4, 5, 6, 7, 9, 33] [.own [aB false, nS]] ?_))))
    refine .cd hr ?_ ?_ <;> intro U hr
    ·refine .seq (.block ?_)
     replace hr := bd hr; obtain ⟨l, o, hr⟩ := hr
     refine .aN (σ := fun R => match R with | (f, a) => ⟨mkS 54 0 [(4, .hp 0 0), (7, cx f), (9, cx a)], [.own [aB false, nS]]⟩) (Q := fun x st' => x = .exit 2 /\ Wk 0 st' ⟨mkS 54 0 [(4, .hp 0 0), (7, cx l)], [.own [aB false, nS]]⟩) o ((Wk.gc [4, 7, 9] [(0, true)] rfl trivial).to) ?_ ?_
     ·clear hr
      rintro m ⟨f, a⟩ hr
      refine CQ.sh ?_
      refine .seq (.seq (.r4 G [4, 7, 9] [(35, aB (decide (a > 0)))] ?_))
      refine .cd hr ?_ ?_ <;> intro V hr
      ·refine .skip (.block ?_)
       obtain ⟨C, hr⟩ := gd hr
       refine .eX G bO (.mu 3 (.pk (v := cx (f.tmod a)) (mi (x := f) (y := a) kRf kRf C) (.mu 2 ?_)))
       refine .done (kRa ?_)
       refine .pop ?_
       exact az (a, f.tmod a) hr ((Wk.gc [4, 7, 9] [(0, true)] rfl trivial).to)
      refine .leave rfl ?_
      obtain rfl := oi hr
      exact ⟨rfl, ((Wk.gc [4, 7] [(0, true)] rfl trivial).to)⟩
     rintro x st' k
     clear o
     obtain ⟨rfl, k⟩ := k
     refine aU _ rfl (.wk k (.seq ?_))
     obtain ⟨D, E, p, F, hr⟩ := bd2 hr
     refine .gn G (ca1 (ok0 (et n l D E)) (ca3 (ok0 (bF n false D p F)))) (.mu 1 (.ca cf0 (.ca (cfF cf0) (.mu 1 (.done (.nh [4] [.own (ae.c p)] (.ret ?_)))))))
     obtain rfl := oi hr
     exact ⟨rfl, aH.ret (vs := [.agg (ae.c p)]) kRf (Sn.pure rfl)⟩
    refine .skip (.seq ?_)
    obtain ⟨H, I, hr⟩ := bd hr
    refine .g1 G (ok0 (lI n i d H I)) (.mu 2 (.ca cf0 (.mu 5 (.done (.nh [4, 6, 12] [.own [aB false, nS]] (.ru G (.pop ?_)))))))
    exact az (d, H.2) hr ((Wk.gc [4, 5, 6] [(0, true)] rfl trivial).to)
   replace hr := bW e hr
   refine .r0 G (.p0 (v := aB false) (eB e) (.mu 3 (.done (.nh [4, 5, 6, 7, 9, 33] [.own [aB false, nS]] (.cF kRf (.skip (.seq ?_)))))))
   obtain ⟨J, L, hr⟩ := bd hr
   refine .g1 G (ok0 (lI n i d J L)) (.mu 2 (.ca cf0 (.mu 5 (.done (.nh [4, 6, 12] [.own [aB false, nS]] (.ru G (.pop ?_)))))))
   exact az (d, J.2) hr ((Wk.gc [4, 5, 6] [(0, true)] rfl trivial).to)
  refine .leave rfl ?_
  obtain rfl := oi hr
  exact ⟨rfl, ((Wk.gc [4, 5] [(0, true)] rfl trivial).to)⟩
 rcases w with j | r0
 ·rintro x st' b
  clear g
  obtain ⟨rfl, b⟩ := b
  refine aU _ rfl (.wk b (.seq ?_))
  obtain ⟨M, N, q, O, hr⟩ := bd2 hr
  refine .gn G (ca1 (ok0 (eP n j M N)) (ca3 (ok0 (bF n false M q O)))) (.mu 1 (.ca cf0 (.ca (cfF cf0) (.mu 1 (.done (.nh [4] [.own (ae.c q)] (.ret ?_)))))))
  obtain rfl := oi hr
  exact aH.r1 [.agg (ae.c q)]
 rintro x st' b
 clear g
 obtain ⟨rfl, b⟩ := b
 obtain rfl := oi hr
 exact gJ _ b

theorem pv (n : Nat) (a : List Int) (b : List Int) (r : List Int) (hr : je n a b = some r) : aK Tryz.prog 191 [av a, av b] (av r) := by
 unfold je at hr
 refine aK.bd G Tryz.func191 [.tmp 4] ?_
 unfold Tryz.f191
 simp only [gS]
 refine .seq (.r4 G [0, 1] [] (.seq ?_))
 obtain ⟨y, A, B, hr⟩ := gd3 hr
 refine .r0 G (.mu 6 (.e0 (v := .hs 0 0 (List.replicate (G1 ((mx (a.length : Int) (b.length : Int)) + 1)).toNat ((0 : Int) : Int)).length 1) (ws := [(0, .own ((List.replicate (G1 ((mx (a.length : Int) (b.length : Int)) + 1)).toNat ((0 : Int) : Int)).flatMap iCu))]) (tr (ln (c := iCu) (z := (0 : Int)) (n := G1 ((mx (a.length : Int) (b.length : Int)) + 1)) (by_ := 4) rfl y A B)) (.mu 1 (.done (.nh [0, 1, 5] [.own ((List.replicate (G1 ((mx (a.length : Int) (b.length : Int)) + 1)).toNat ((0 : Int) : Int)).flatMap iCu)] (.seq (.r4 G [0, 1, 5] [(6, a7 0)] (.seq (.seq (.r4 G [0, 1, 5, 6] [(17, ag ((List.replicate (G1 ((mx (a.length : Int) (b.length : Int)) + 1)).toNat ((0 : Int) : Int)).length : Int)), (18, ag 0)] (.block ?_)))))))))))
 replace hr := bd hr; obtain ⟨j, q, hr⟩ := hr
 refine .aN (σ := fun E => match E with | (e, f, d) => ⟨mkS 41 0 [(0, av a), (1, av b), (5, .hs 0 0 e.length 1), (6, a7 f), (17, ag ((List.replicate (G1 ((mx (a.length : Int) (b.length : Int)) + 1)).toNat ((0 : Int) : Int)).length : Int)), (18, ag d)], [.own (e.flatMap iCu)]⟩) (Q := fun x st' => x = .exit 0 /\ Wk 0 st' ⟨mkS 41 0 [(5, .hs 0 0 j.length 1)], [.own (j.flatMap iCu)]⟩) q ((Wk.gc [0, 1, 5, 6, 17, 18] [(0, false)] rfl (pKo iCu (aA _) (List.replicate (G1 ((mx (a.length : Int) (b.length : Int)) + 1)).toNat ((0 : Int) : Int)) trivial)).to) ?_ ?_
 ·clear hr
  rintro m ⟨e, f, d⟩ hr
  refine CQ.sh ?_
  refine .seq (.r4 G [0, 1, 5, 6, 17, 18] [(19, aB (decide (d < ((List.replicate (G1 ((mx (a.length : Int) (b.length : Int)) + 1)).toNat ((0 : Int) : Int)).length : Int))))] (.seq ?_))
  refine .cd hr ?_ ?_ <;> intro C hr
  ·refine .skip (.seq (.block (.seq (.r4 G [0, 1, 5, 6, 17, 18] [(7, ag d)] (.seq ?_)))))
   obtain ⟨g, s, i, t, hr⟩ := bd2 hr
   refine .gn G (ca1 (ok0 (kO n a d g s)) (ca3 (ok0 (kO n b d i t)))) (.mu 2 (.ca cf0 (.mu 2 (.ca (cfA (fun h => by rw [sv t s (vP n h)]) cf0) (.mu 4 (.done (.nh [0, 1, 5, 7, 8, 17, 18] [.own (e.flatMap iCu)] (.seq (.r4 G [0, 1, 5, 7, 8, 17, 18] [(6, a7 0)] (.seq (.seq (.r4 G [0, 1, 5, 6, 7, 8, 17, 18] [(31, aB (decide ((aa .u32 ((aa .u32 (g + i)) + f)) >= 1000000000)))] ?_))))))))))))
   refine .cd hr ?_ ?_ <;> intro D hr
   ·refine .r4 G [0, 1, 5, 7, 17, 18] [(6, a7 1), (8, a7 (aa .u32 ((aa .u32 ((aa .u32 (g + i)) + f)) - 1000000000)))] ?_
    obtain ⟨k, hr⟩ := gd hr
    refine .r0 G (.mu 3 (.p0 (v := .hp 0 (0 + d.toNat * 1)) (tr (ar k)) (.e0 (v := .unk) (ws := [(0, .own ((e.set d.toNat (aa .u32 ((aa .u32 ((aa .u32 (g + i)) + f)) - 1000000000))).flatMap iCu))]) (tr (jn (ju (cy (n := 1) (aG .u32) (aE k) (lbT rfl) (by omega : 0 + d.toNat * 1 = d.toNat * 1 + 0))) (congrArg Blk.own (dc (xs := [a7 (aa .u32 ((aa .u32 ((aa .u32 (g + i)) + f)) - 1000000000))]) (aG .u32) (aE k) (lbT rfl) (by omega : 0 + d.toNat * 1 = d.toNat * 1 + 0) kRf)))) (.done (.pop (.ru G ?_))))))
    exact az (e.set d.toNat (aa .u32 ((aa .u32 ((aa .u32 (g + i)) + f)) - 1000000000)), 1, G1 (d + 1)) hr ((Wk.iF 5 (b := 0) (es := 1) (len := e.length) (e.set d.toNat (aa .u32 ((aa .u32 ((aa .u32 (g + i)) + f)) - 1000000000))).length kRf (Eq.symm (List.length_set.trans rfl))).trans ((Wk.gc [0, 1, 5, 6, 17, 18] [(0, false)] rfl (pKo iCu (aA _) (e.set d.toNat (aa .u32 ((aa .u32 ((aa .u32 (g + i)) + f)) - 1000000000))) trivial)).to))
   refine .skip ?_
   obtain ⟨o, hr⟩ := gd hr
   refine .r0 G (.mu 3 (.p0 (v := .hp 0 (0 + d.toNat * 1)) (tr (ar o)) (.e0 (v := .unk) (ws := [(0, .own ((e.set d.toNat (aa .u32 ((aa .u32 (g + i)) + f))).flatMap iCu))]) (tr (jn (ju (cy (n := 1) (aG .u32) (aE o) (lbT rfl) (by omega : 0 + d.toNat * 1 = d.toNat * 1 + 0))) (congrArg Blk.own (dc (xs := [a7 (aa .u32 ((aa .u32 (g + i)) + f))]) (aG .u32) (aE o) (lbT rfl) (by omega : 0 + d.toNat * 1 = d.toNat * 1 + 0) kRf)))) (.done (.pop (.ru G ?_))))))
   exact az (e.set d.toNat (aa .u32 ((aa .u32 (g + i)) + f)), 0, G1 (d + 1)) hr ((Wk.iF 5 (b := 0) (es := 1) (len := e.length) (e.set d.toNat (aa .u32 ((aa .u32 (g + i)) + f))).length kRf (Eq.symm (List.length_set.trans rfl))).trans ((Wk.gc [0, 1, 5, 6, 17, 18] [(0, false)] rfl (pKo iCu (aA _) (e.set d.toNat (aa .u32 ((aa .u32 (g + i)) + f))) trivial)).to))
  refine .leave rfl ?_
  obtain rfl := oi hr
  exact ⟨rfl, ((Wk.gc [5] [(0, false)] rfl (pKo iCu (aA _) e trivial)).to)⟩
 rintro x st' p
 clear q
 obtain ⟨rfl, p⟩ := p
 refine aU _ rfl (.wk p (.seq ?_))
 obtain ⟨u, w, hr⟩ := bd hr
 refine .g1 G (b8 (args := [.hs 0 0 j.length 1]) (l := [0]) (SnL.cons (Sn.hs rfl (.inl rfl) (SnC.pure (aY (aA _) _)) (fun h => cc h)) SnL.nil) (fN n j u w)) (.mu 1 (.ca cf0 (.mu 1 (.done (.ret ?_)))))
 obtain rfl := oi hr
 exact aH.r1 [av u]

theorem kB (n : Nat) (a : List Int) (b : List Int) (r : List Int) (hr : gh n a b = some r) : aK Tryz.prog 192 [av a, av b] (av r) := by
 unfold gh at hr
 refine aK.bd G Tryz.func192 [.tmp 4] ?_
 unfold Tryz.f192
 simp only [gS]
 refine .seq (.r4 G [0, 1] [] (.seq ?_))
 obtain ⟨w, y, A, hr⟩ := gd3 hr
 refine .r0 G (.mu 2 (.e0 (v := .hs 0 0 (List.replicate (a.length : Int).toNat ((0 : Int) : Int)).length 1) (ws := [(0, .own ((List.replicate (a.length : Int).toNat ((0 : Int) : Int)).flatMap iCu))]) (tr (ln (c := iCu) (z := (0 : Int)) (n := (a.length : Int)) (by_ := 4) rfl w y A)) (.mu 1 (.done (.nh [0, 1, 5] [.own ((List.replicate (a.length : Int).toNat ((0 : Int) : Int)).flatMap iCu)] (.seq (.r4 G [0, 1, 5] [(6, a7 0)] (.seq (.seq (.r4 G [0, 1, 5, 6] [(13, ag ((List.replicate (a.length : Int).toNat ((0 : Int) : Int)).length : Int)), (14, ag 0)] (.block ?_)))))))))))
 replace hr := bd hr; obtain ⟨j, q, hr⟩ := hr
 refine .aN (σ := fun D => match D with | (e, f, d) => ⟨mkS 50 0 [(0, av a), (1, av b), (5, .hs 0 0 e.length 1), (6, a7 f), (13, ag ((List.replicate (a.length : Int).toNat ((0 : Int) : Int)).length : Int)), (14, ag d)], [.own (e.flatMap iCu)]⟩) (Q := fun x st' => x = .exit 0 /\ Wk 0 st' ⟨mkS 50 0 [(5, .hs 0 0 j.length 1)], [.own (j.flatMap iCu)]⟩) q ((Wk.gc [0, 1, 5, 6, 13, 14] [(0, false)] rfl (pKo iCu (aA _) (List.replicate (a.length : Int).toNat ((0 : Int) : Int)) trivial)).to) ?_ ?_
 ·clear hr
  rintro m ⟨e, f, d⟩ hr
  refine CQ.sh ?_
  refine .seq (.r4 G [0, 1, 5, 6, 13, 14] [(15, aB (decide (d < ((List.replicate (a.length : Int).toNat ((0 : Int) : Int)).length : Int))))] (.seq ?_))
  refine .cd hr ?_ ?_ <;> intro B hr
  ·refine .skip (.seq (.block (.seq (.r4 G [0, 1, 5, 6, 13, 14] [(7, ag d)] (.seq ?_)))))
   obtain ⟨g, s, hr⟩ := bd hr
   refine .g1 G (ok0 (kO n b d g s)) (.mu 2 (.ca cf0 (.mu 3 (.done (.nh [0, 1, 5, 7, 8, 13, 14] [.own (e.flatMap iCu)] (.seq (.r4 G [0, 1, 5, 7, 8, 13, 14] [(6, a7 0)] (.seq ?_))))))))
   obtain ⟨i, hr⟩ := gd hr
   refine .r0 G (.mu 2 (.p0 (v := .pp (a.flatMap iCu) (d.toNat * 1)) (tr (ar i)) (.p0 (v := a7 (gt a d)) (tr (aI (aJ (aG .u32) (aE i) z1 (by omega : d.toNat * 1 = d.toNat * 1 + 0) kRf))) (.mu 2 (.done (.nh [0, 1, 5, 6, 7, 8, 13, 14, 27] [.own (e.flatMap iCu)] ?_))))))
   refine .cd hr ?_ ?_ <;> intro C hr
   ·obtain ⟨k, hr⟩ := gd hr
    refine .r0 G (.mu 4 (.p0 (v := .pp (a.flatMap iCu) (d.toNat * 1)) (tr (ar i)) (.p0 (v := a7 (gt a d)) (tr (aI (aJ (aG .u32) (aE i) z1 (by omega : d.toNat * 1 = d.toNat * 1 + 0) kRf))) (.mu 3 (.p0 (v := .hp 0 (0 + d.toNat * 1)) (tr (ar k)) (.e0 (v := .unk) (ws := [(0, .own ((e.set d.toNat (aa .u32 ((aa .u32 ((gt a d) + 1000000000)) - (aa .u32 (g + f))))).flatMap iCu))]) (tr (jn (ju (cy (n := 1) (aG .u32) (aE k) (lbT rfl) (by omega : 0 + d.toNat * 1 = d.toNat * 1 + 0))) (congrArg Blk.own (dc (xs := [a7 (aa .u32 ((aa .u32 ((gt a d) + 1000000000)) - (aa .u32 (g + f))))]) (aG .u32) (aE k) (lbT rfl) (by omega : 0 + d.toNat * 1 = d.toNat * 1 + 0) kRf)))) (.mu 1 (.done (.pop (.ru G ?_))))))))))
    exact az (e.set d.toNat (aa .u32 ((aa .u32 ((gt a d) + 1000000000)) - (aa .u32 (g + f)))), 1, G1 (d + 1)) hr ((Wk.iF 5 (b := 0) (es := 1) (len := e.length) (e.set d.toNat (aa .u32 ((aa .u32 ((gt a d) + 1000000000)) - (aa .u32 (g + f))))).length kRf (Eq.symm (List.length_set.trans rfl))).trans ((Wk.gc [0, 1, 5, 6, 13, 14] [(0, false)] rfl (pKo iCu (aA _) (e.set d.toNat (aa .u32 ((aa .u32 ((gt a d) + 1000000000)) - (aa .u32 (g + f))))) trivial)).to))
   obtain ⟨o, hr⟩ := gd hr
   refine .r0 G (.mu 4 (.p0 (v := .pp (a.flatMap iCu) (d.toNat * 1)) (tr (ar i)) (.p0 (v := a7 (gt a d)) (tr (aI (aJ (aG .u32) (aE i) z1 (by omega : d.toNat * 1 = d.toNat * 1 + 0) kRf))) (.mu 2 (.p0 (v := .hp 0 (0 + d.toNat * 1)) (tr (ar o)) (.e0 (v := .unk) (ws := [(0, .own ((e.set d.toNat (aa .u32 ((gt a d) - (aa .u32 (g + f))))).flatMap iCu))]) (tr (jn (ju (cy (n := 1) (aG .u32) (aE o) (lbT rfl) (by omega : 0 + d.toNat * 1 = d.toNat * 1 + 0))) (congrArg Blk.own (dc (xs := [a7 (aa .u32 ((gt a d) - (aa .u32 (g + f))))]) (aG .u32) (aE o) (lbT rfl) (by omega : 0 + d.toNat * 1 = d.toNat * 1 + 0) kRf)))) (.done (.pop (.ru G ?_)))))))))
   exact az (e.set d.toNat (aa .u32 ((gt a d) - (aa .u32 (g + f)))), 0, G1 (d + 1)) hr ((Wk.iF 5 (b := 0) (es := 1) (len := e.length) (e.set d.toNat (aa .u32 ((gt a d) - (aa .u32 (g + f))))).length kRf (Eq.symm (List.length_set.trans rfl))).trans ((Wk.gc [0, 1, 5, 6, 13, 14] [(0, false)] rfl (pKo iCu (aA _) (e.set d.toNat (aa .u32 ((gt a d) - (aa .u32 (g + f))))) trivial)).to))
  refine .leave rfl ?_
  obtain rfl := oi hr
  exact ⟨rfl, ((Wk.gc [5] [(0, false)] rfl (pKo iCu (aA _) e trivial)).to)⟩
 rintro x st' p
 clear q
 obtain ⟨rfl, p⟩ := p
 refine aU _ rfl (.wk p (.seq ?_))
 obtain ⟨t, u, hr⟩ := bd hr
 refine .g1 G (b8 (args := [.hs 0 0 j.length 1]) (l := [0]) (SnL.cons (Sn.hs rfl (.inl rfl) (SnC.pure (aY (aA _) _)) (fun h => cc h)) SnL.nil) (fN n j t u)) (.mu 1 (.ca cf0 (.mu 1 (.done (.ret ?_)))))
 obtain rfl := oi hr
 exact aH.r1 [av t]

theorem iJ (n : Nat) (b : ae) (y : ae) (r : ae × ae × Int) (hr : cG n b y = some r) : aK Tryz.prog 160 [.agg (ae.c b), .agg (ae.c y)] (.tup [.agg (ae.c r.1), .agg (ae.c r.2.1), ag r.2.2]) := by
 unfold cG at hr
 refine aK.bd G Tryz.func160 [.cell 4 40, .cell 5 40, .tmp 6] ?_
 unfold Tryz.f160
 simp only [gS]
 refine .seq (.r2 G 55 [(2, .hp 0 0), (3, .hp 1 0), (4, .hp 2 0), (5, .hp 3 0)] [.own (ae.c b), .own (ae.c y), .own [aB false, nS], .own [aB false, nS]] (.seq ?_))
 obtain ⟨I, w, E, x, hr⟩ := bd2 hr
 refine .tn G (ca1 (ok0 (bM n b I w)) (ca3 (ok0 (bM n y E x)))) (.mu 1 (.ca cf0 (.mu 1 (.ca (cfA (fun h => by rw [sv x w (fU n h)]) cf0) (.mu 2 ?_)))))
 refine .done (kRa ?_)
 refine .nh [2, 3, 4, 5, 7, 8] [.own (ae.c b), .own (ae.c y), .own [aB false, nS], .own [aB false, nS]] (.seq (.seq (.r4 G [2, 3, 4, 5, 7, 8] [(17, aB (((E.length : Int) : Int) == 0))] ?_)))
 refine .cd hr ?_ ?_ <;> intro J hr
 ·refine .seq (.r4 G [4, 5] [(6, ag 14)] (.ret ?_))
  obtain rfl := oi hr
  exact aH.ret (vs := [.agg [aB false, nS], .agg [aB false, nS], ag 14]) kRf (Sn.tup (SnL.cons (Sn.agg (Sp (SnL.cons Sn.ft SnL.nil))) (SnL.cons (Sn.agg (Sp (SnL.cons Sn.ft SnL.nil))) (Sp SnL.nil))))
 refine .skip (.seq ?_)
 obtain ⟨u, F, hr⟩ := bd hr
 refine .g1 G (ok0 (lI n I E u F)) (.mu 2 (.ca cf0 (.mu 5 (.done (.nh [2, 3, 4, 5, 8, 9, 10] [.own (ae.c b), .own (ae.c y), .own [aB false, nS], .own [aB false, nS]] (.seq ?_))))))
 obtain ⟨z, H, hr⟩ := bd hr
 refine .g1 G (ok0 (eP n u.2 z H)) (.mu 1 (.ca cf0 (.mu 1 (.done (.nh [2, 3, 4, 5, 8, 9, 10] [.own (ae.c b), .own (ae.c y), .own [aB false, nS], .own [aB false, nS]] (.seq (.seq ?_)))))))
 rcases bT (decide ((z.length : Int) > 0)) with a | a
 ·replace hr := bY a hr
  refine .r0 G (.mu 2 (.p0 (v := aB true) (eB a) (.mu 7 (.done (.nh [2, 3, 4, 5, 8, 9, 10, 37] [.own (ae.c b), .own (ae.c y), .own [aB false, nS], .own [aB false, nS]] ?_)))))
  refine .cd hr ?_ ?_ <;> intro d hr
  ·obtain ⟨A, B, C, D, hr⟩ := bd2 hr
   refine .gn G (ca2 [.own (ae.c b), .own (ae.c y), .own [aB false, nS], .own [aB false, nS], .own [a7 1]] (b8 (args := [av u.1, .hs 4 0 1 1]) (l := [4]) (Sp (SnL.cons (Sn.hs rfl (.inl rfl) (SnC.cons (Sn.pure rfl) SnC.nil) (fun h => nomatch h)) SnL.nil)) (pv n u.1 [(1 : Int)] A B)) (ca4 [.own (ae.c b), .own (ae.c y), .own [aB false, nS], .own [aB false, nS], .fix [a7 1]] (ok0 (kB n E z C D)))) (.mu 2 (.ca cf0 (.mu 2 (.ca (cfF cf0) (.mu 2 (.done (.nh [2, 3, 4, 5, 9, 10] [.own (ae.c b), .own (ae.c y), .own [aB false, nS], .own [aB false, nS], .fix [a7 1]] (.seq ?_))))))))
   obtain ⟨m, e, o, f, hr⟩ := bd2 hr
   refine .tn G (ca1 (ok0 (bF n true A m e)) (ca3 (ok0 (bF n y.Negative C o f)))) (.mu 4 (.pk (v := aB true) (eB d) (.mu 1 (.ca cf0 (.mu 3 (.ca (cfA (fun h => by rw [sv f e (lE n h)]) cf0) (.mu 3 ?_)))))))
   refine .done (kRa ?_)
   refine .nh [4, 5, 6] [.own (ae.c b), .own (ae.c y), .own (ae.c m), .own (ae.c o), .fix [a7 1]] (.ret ?_)
   obtain rfl := oi hr
   exact aH.ret (vs := [.agg (ae.c m), .agg (ae.c o), ag 0]) kRf (Sn.tup (Sp (Sp (Sp SnL.nil))))
  refine .skip (.seq ?_)
  obtain ⟨p, g, q, i, hr⟩ := bd2 hr
  refine .tn G (ca1 (ok0 (bF n false u.1 p g)) (ca3 (ok0 (bF n y.Negative z q i)))) (.mu 4 (.pk (v := aB false) (eB d) (.mu 1 (.ca cf0 (.mu 3 (.ca (cfA (fun h => by rw [sv i g (lE n h)]) cf0) (.mu 3 ?_)))))))
  refine .done (kRa ?_)
  refine .nh [4, 5, 6] [.own (ae.c b), .own (ae.c y), .own (ae.c p), .own (ae.c q)] (.ret ?_)
  obtain rfl := oi hr
  exact aH.ret (vs := [.agg (ae.c p), .agg (ae.c q), ag 0]) kRf (Sn.tup (Sp (Sp (Sp SnL.nil))))
 replace hr := bW a hr
 refine .r0 G (.mu 2 (.p0 (v := aB false) (eB a) (.mu 7 (.done (.nh [2, 3, 4, 5, 8, 9, 10, 37] [.own (ae.c b), .own (ae.c y), .own [aB false, nS], .own [aB false, nS]] (.cF kRf (.skip (.seq ?_))))))))
 obtain ⟨s, j, t, k, hr⟩ := bd2 hr
 refine .tn G (ca1 (ok0 (bF n (b.Negative != y.Negative) u.1 s j)) (ca3 (ok0 (bF n y.Negative z t k)))) (.mu 6 (.ca cf0 (.mu 3 (.ca (cfA (fun h => by rw [sv k j (lE n h)]) cf0) (.mu 3 ?_)))))
 refine .done (kRa ?_)
 refine .nh [4, 5, 6] [.own (ae.c b), .own (ae.c y), .own (ae.c s), .own (ae.c t)] (.ret ?_)
 obtain rfl := oi hr
 exact aH.ret (vs := [.agg (ae.c s), .agg (ae.c t), ag 0]) kRf (Sn.tup (Sp (Sp (Sp SnL.nil))))

theorem gl (n : Nat) (num : ae) (den : ae) (r : aj) (hr : dj n num den = some r) : aK Tryz.prog 122 [.agg (ae.c num), .agg (ae.c den)] (.agg (aj.c r)) := by
 unfold dj at hr
 refine aK.bd G Tryz.func122 [.cell 4 42] ?_
 unfold Tryz.f122
 simp only [gS]
 refine .seq (.r2 G 33 [(2, .hp 0 0), (3, .hp 1 0), (4, .hp 2 0)] [.own (ae.c num), .own (ae.c den), .own zN2] (.seq (.seq ?_)))
 obtain ⟨v, t, hr⟩ := bd hr
 refine .g1 G (ok0 (eZ n den v t)) (.mu 1 (.ca cf0 (.mu 1 (.done (.nh [2, 3, 4, 8] [.own (ae.c num), .own (ae.c den), .own zN2] ?_)))))
 refine .cd hr ?_ ?_ <;> intro w hr
 ·obtain ⟨j, k, i, l, hr⟩ := bd2 hr
  refine .tn G (ca1 (ok0 (fC n num j k)) (ca3 (ok0 (fC n den i l)))) (.mu 1 (.ca cf0 (.mu 1 (.ca (cfA (fun h => by rw [sv l k (fA n h)]) cf0) (.mu 2 ?_)))))
  refine .done (kRa ?_)
  refine .nh [2, 3, 4] [.own (ae.c j), .own (ae.c i), .own zN2] (.seq ?_)
  obtain ⟨g, u, hr⟩ := bd hr
  refine .g1 G (ok0 (mF n j i g u)) (.mu 2 (.ca cf0 (.mu 2 (.done (.nh [2, 3, 4, 5] [.own (ae.c j), .own (ae.c i), .own zN2, .own (ae.c g)] (.seq ?_))))))
  obtain ⟨a, m, hr⟩ := bd hr
  refine .g1 G (ok0 (iJ n j g a m)) (.mu 2 (.ca cf0 (.mu 5 (.done (.nh [2, 3, 4, 5] [.own (ae.c a.1), .own (ae.c i), .own zN2, .own (ae.c g)] (.seq ?_))))))
  obtain ⟨d, o, hr⟩ := bd hr
  refine .g1 G (ok0 (iJ n i g d o)) (.mu 2 (.ca cf0 (.mu 5 (.done (.nh [2, 3, 4] [.own (ae.c a.1), .own (ae.c d.1), .own zN2, .own (ae.c g)] (.seq (.r5 G [4] [] [.own (ae.c a.1), .own (ae.c d.1), .own [aB a.1.Negative, av a.1.Groups, aB d.1.Negative, av d.1.Groups], .own (ae.c g)] (.ret ?_))))))))
  obtain rfl := oi hr
  exact aH.r1 [.agg [aB a.1.Negative, av a.1.Groups, aB d.1.Negative, av d.1.Groups]]
 refine .skip (.seq ?_)
 obtain ⟨e, p, hr⟩ := bd hr
 refine .g1 G (ok0 (mF n num den e p)) (.mu 2 (.ca cf0 (.mu 2 (.done (.nh [2, 3, 4, 5] [.own (ae.c num), .own (ae.c den), .own zN2, .own (ae.c e)] (.seq ?_))))))
 obtain ⟨b, q, hr⟩ := bd hr
 refine .g1 G (ok0 (iJ n num e b q)) (.mu 2 (.ca cf0 (.mu 5 (.done (.nh [2, 3, 4, 5] [.own (ae.c b.1), .own (ae.c den), .own zN2, .own (ae.c e)] (.seq ?_))))))
 obtain ⟨f, s, hr⟩ := bd hr
 refine .g1 G (ok0 (iJ n den e f s)) (.mu 2 (.ca cf0 (.mu 5 (.done (.nh [2, 3, 4] [.own (ae.c b.1), .own (ae.c f.1), .own zN2, .own (ae.c e)] (.seq (.r5 G [4] [] [.own (ae.c b.1), .own (ae.c f.1), .own [aB b.1.Negative, av b.1.Groups, aB f.1.Negative, av f.1.Groups], .own (ae.c e)] (.ret ?_))))))))
 obtain rfl := oi hr
 exact aH.r1 [.agg [aB b.1.Negative, av b.1.Groups, aB f.1.Negative, av f.1.Groups]]

theorem uh (n : Nat) (num : ae) (den : ae) (r : aj × Int) (hr : j4 n num den = some r) : aK Tryz.prog 157 [.agg (ae.c num), .agg (ae.c den)] (.tup [.agg (aj.c r.1), ag r.2]) := by
 unfold j4 at hr
 refine aK.bd G Tryz.func157 [.cell 4 42, .tmp 5] ?_
 unfold Tryz.f157
 simp only [gS]
 refine .seq (.r2 G 17 [(2, .hp 0 0), (3, .hp 1 0), (4, .hp 2 0)] [.own (ae.c num), .own (ae.c den), .own zN2] (.seq ?_))
 obtain ⟨b, d, a, e, hr⟩ := bd2 hr
 refine .tn G (ca1 (ok0 (lT n num b d)) (ca3 (ok0 (lT n den a e)))) (.mu 1 (.ca cf0 (.mu 1 (.ca (cfA (fun h => by rw [sv e d (qM n h)]) cf0) (.mu 2 ?_)))))
 refine .done (kRa ?_)
 refine .nh [2, 3, 4] [.own (ae.c b), .own (ae.c a), .own zN2] (.seq (.seq ?_))
 obtain ⟨j, f, hr⟩ := bd hr
 refine .g1 G (ok0 (eZ n a j f)) (.mu 1 (.ca cf0 (.mu 1 (.done (.nh [2, 3, 4, 12] [.own (ae.c b), .own (ae.c a), .own zN2] ?_)))))
 refine .cd hr ?_ ?_ <;> intro k hr
 ·refine .seq (.r4 G [4] [(5, ag 14)] (.ret ?_))
  obtain rfl := oi hr
  exact aH.ret (vs := [.agg zN2, ag 14]) kRf (Sn.tup (SnL.cons (Sn.agg (Sp (SnL.cons Sn.ft (Sp (SnL.cons Sn.ft SnL.nil))))) (Sp SnL.nil)))
 refine .skip (.seq ?_)
 obtain ⟨g, i, hr⟩ := bd hr
 refine .g1 G (ok0 (gl n b a g i)) (.mu 2 (.ca cf0 (.mu 2 (.done (.nh [4, 5] [.own (ae.c b), .own (ae.c a), .own (aj.c g)] (.ret ?_))))))
 obtain rfl := oi hr
 exact aH.ret (vs := [.agg (aj.c g), ag 0]) kRf (Sn.tup (Sp (Sp SnL.nil)))

theorem iQ (n : Nat) (f : Int) (d : Int) (r : aj × Int) (hr : fY n f d = some r) : aK Tryz.prog 118 [ag f, ag d] (.tup [.agg (aj.c r.1), ag r.2]) := by
 unfold fY at hr
 refine aK.bd G Tryz.func118 [.cell 4 42, .tmp 5] ?_
 unfold Tryz.f118
 simp only [gS]
 refine .seq (.r5 G [0, 1] [(4, .hp 0 0)] [.own zN2] (.seq ?_))
 obtain ⟨i, a, j, b, e, g, hr⟩ := bd3 hr
 refine .gn G (ca1 (ok0 (im n f i a)) (ca1 (ok0 (im n d j b)) (ca3 (ok0 (uh n i j e g))))) (.mu 1 (.ca cf0 (.mu 1 (.ca (cfA (fun h => by rw [sv b a (qO n h)]) cf0) (.ca (cfF (cfF cf0)) (.mu 4 (.done (.nh [4, 5] [.own (aj.c e.1)] (.ret ?_)))))))))
 obtain rfl := oi hr
 exact aH.ret (vs := [.agg (aj.c e.1), ag e.2]) kRf (Sn.tup (Sp (Sp SnL.nil)))

theorem qK (n : Nat) (g : al) (level : Int) (e : A2 Int) (r : ak) (hr : cj n g level e = some r) : aK Tryz.prog 94 [.agg (al.c g), ag level, .agg (ai.c e)] (.agg (ak.c r)) := by
 unfold cj at hr
 refine aK.bd G Tryz.func94 [.cell 6 44] ?_
 unfold Tryz.f94
 simp only [gS]
 refine .seq (.r5 G [1] [(3, .hp 0 0), (5, .hp 1 0), (6, .hp 2 0)] [.own (al.c g), .own (ai.c e), .own [ag 0, ag 0, aB false, nS, aB false, nS]] (.seq ?_))
 obtain ⟨b, d, hr⟩ := gd2 hr
 refine .eX G bO (.mu 4 (.pk (v := .pp (g.Z.flatMap (iC .i64)) (e.e0.toNat * 1)) (tr (ar b)) (.pk (v := ag (gt g.Z e.e0)) (tr (aI (aJ (aG .i64) (aE b) z1 (by omega : e.e0.toNat * 1 = e.e0.toNat * 1 + 0) kRf))) (.mu 4 (.pk (v := .pp (g.Z.flatMap (iC .i64)) (e.e1.toNat * 1)) (tr (ar d)) (.pk (v := ag (gt g.Z e.e1)) (tr (aI (aJ (aG .i64) (aE d) z1 (by omega : e.e1.toNat * 1 = e.e1.toNat * 1 + 0) kRf))) (.mu 2 ?_)))))))
 refine .done (kRa ?_)
 refine .nh [1, 5, 6, 7, 8] [.own (al.c g), .own (ai.c e), .own [ag 0, ag 0, aB false, nS, aB false, nS]] (.seq ?_)
 obtain ⟨a, f, hr⟩ := bd hr
 refine .g1 G (ok0 (iQ n (G1 (level - (G1 (2 * (gt g.Z e.e0))))) (G1 (2 * (G1 ((gt g.Z e.e1) - (gt g.Z e.e0))))) a f)) (.mu 8 (.ca cf0 (.mu 6 (.done (.nh [5, 6, 9] [.own (al.c g), .own (ai.c e), .own [ag 0, ag 0, aB false, nS, aB false, nS], .own (aj.c a.1)] (.seq (.r5 G [6] [] [.own (al.c g), .own (ai.c e), .own [ag e.e0, ag e.e1, aB a.1.Num.Negative, av a.1.Num.Groups, aB a.1.Den.Negative, av a.1.Den.Groups], .own (aj.c a.1)] (.ret ?_))))))))
 obtain rfl := oi hr
 exact aH.r1 [.agg [ag e.e0, ag e.e1, aB a.1.Num.Negative, av a.1.Num.Groups, aB a.1.Den.Negative, av a.1.Den.Groups]]
end Go.L
