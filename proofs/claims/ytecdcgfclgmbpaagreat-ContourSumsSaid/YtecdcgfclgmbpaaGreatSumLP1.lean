
import Derived.Test.YtecdcgfclgmbpaaGreatSumLD
import Derived.Test.YtecdcgfclgmbpaaGreatL0Sums
import Derived.Test.YtecdcgfclgmbpaaGreatChecked
import Derived.KernelRfl
set_option linter.all false
set_option maxRecDepth 100000
set_option maxHeartbeats 4000000
namespace Go.L
open Go Go.Eng Go.Proofs
theorem fB (n : Nat) (r : al) (hr : dj n = some r) : aL Tryz.prog 43 [] (.agg (al.c r)) := by
 unfold dj at hr
 refine aL.bd G Tryz.func43 [.cell 0 24] ?_
 unfold Tryz.f43
 simp only [gS]
 refine .seq (.r2 G 3 [(0, .hp 0 0)] [.own [ae 0, ae 0, ae 0, ae 0, ae 0, nS]] (.seq (.r5 G [0] [] [.own [ae 0, ae 0, ae 2, ae 3, ae 3, .hs 1 0 9 1], .own [ae 0, ae 0, ae 0, ae 0, ae 4, ae 0, ae 0, ae 0, ae 0]] (.ret ?_))))
 obtain rfl := oi hr
 exact aG.ret (vs := [.agg [ae 0, ae 0, ae 2, ae 3, ae 3, .hs 1 0 9 1]]) (by kernel_rfl) (Sn.agg (Sp (Sp (Sp (Sp (Sp (SnL.cons (Sn.hs rfl (.inl rfl) (SnC.cons (Sn.pure rfl) (SnC.cons (Sn.pure rfl) (SnC.cons (Sn.pure rfl) (SnC.cons (Sn.pure rfl) (SnC.cons (Sn.pure rfl) (SnC.cons (Sn.pure rfl) (SnC.cons (Sn.pure rfl) (SnC.cons (Sn.pure rfl) (SnC.cons (Sn.pure rfl) SnC.nil))))))))) (fun h => nomatch h)) SnL.nil)))))))

theorem dS {b : Int} {a : Int} (h : ([.at (.int .i64 b)] : List AV) = [.at (.int .i64 a)]) : b = a := by
 simp only [List.cons.injEq, AV.agg.injEq, AV.at.injEq, Value.int.injEq, Value.bool.injEq, AV.fn.injEq, AV.pp.injEq, true_and, and_true] at h
 simp_all
theorem fq (n : Nat) {b : Int} {a : Int} (h : ([.at (.int .i64 b)] : List AV) = [.at (.int .i64 a)]) : e8 n b = e8 n a := by
 obtain rfl := dS h
 rfl
theorem bP (n : Nat) (b : Int) (r : Bool) (hr : e8 n b = some r) : aL Tryz.prog 103 [ae b] (aB r) := by
 unfold e8 at hr
 refine aL.bd G Tryz.func103 [.tmp 2] ?_
 unfold Tryz.f103
 simp only [gS]
 refine .seq (.r4 G [0] [] (.seq ?_))
 rcases bT (decide (b >= 2)) with a | a
 ·replace hr := cy a hr
  refine .r0 G (.mu 1 (.p0 (v := aB true) (eB a) (.mu 5 (.done (.ret ?_)))))
  obtain rfl := oi hr
  exact aG.r1 [aB (decide (b <= 64))]
 replace hr := cz a hr
 refine .r0 G (.mu 1 (.p0 (v := aB false) (eB a) (.mu 5 (.done (.ret ?_)))))
 obtain rfl := oi hr
 exact aG.r1 [aB false]

theorem vC (n : Nat) {b : Int} {a : Int} (h : ([.at (.int .i64 b)] : List AV) = [.at (.int .i64 a)]) : iY n b = iY n a := by
 obtain rfl := dS h
 rfl
theorem lL (n : Nat) (b : Int) (r : Bool) (hr : iY n b = some r) : aL Tryz.prog 104 [ae b] (aB r) := by
 unfold iY at hr
 refine aL.bd G Tryz.func104 [.tmp 2] ?_
 unfold Tryz.f104
 simp only [gS]
 refine .seq (.r4 G [0] [] (.seq ?_))
 rcases bT (decide (b < (-1048576))) with a | a
 ·replace hr := cy a hr
  refine .r0 G (.mu 1 (.p0 (v := aB true) (eB a) (.mu 5 (.done (.ret ?_)))))
  obtain rfl := oi hr
  exact aG.r1 [aB true]
 replace hr := cz a hr
 refine .r0 G (.mu 1 (.p0 (v := aB false) (eB a) (.mu 5 (.done (.ret ?_)))))
 obtain rfl := oi hr
 exact aG.r1 [aB (decide (b > 1048576))]

theorem sd (n : Nat) (z : Int) (r : Bool) (hr : jo n z = some r) : aL Tryz.prog 106 [ae z] (aB r) := by
 unfold jo at hr
 refine aL.bd G Tryz.func106 [.tmp 2] ?_
 unfold Tryz.f106
 simp only [gS]
 refine .seq (.r4 G [0] [] (.seq ?_))
 rcases bT ((z : Int) != (-2147483648)) with a | a
 ·replace hr := cy a hr
  obtain ⟨c, b, hr⟩ := bd hr
  refine .g1 G (ok0 (lL n z c b)) (.mu 1 (.p0 (v := aB true) (eB a) (.mu 2 (.ca cf0 (.mu 2 (.done (.ret ?_)))))))
  obtain rfl := oi hr
  exact aG.r1 [aB c]
 replace hr := cz a hr
 refine .r0 G (.mu 1 (.p0 (v := aB false) (eB a) (.mu 5 (.done (.ret ?_)))))
 obtain rfl := oi hr
 exact aG.r1 [aB false]

theorem iz (n : Nat) (s : List Int) (r : Int) (hr : cf n s = some r) : aL Tryz.prog 146 [bf s, .fn 106 [] []] (ae r) := by
 unfold cf at hr
 refine aL.bd G Tryz.func146 [.tmp 4] ?_
 unfold Tryz.f146
 simp only [gS]
 refine .seq (.r4 G [0, 1] [] (.seq (.seq (.r4 G [0, 1] [(7, ae (s.length : Int)), (8, ae 0)] (.block ?_)))))
 replace hr := bd hr; obtain ⟨d, c, hr⟩ := hr
 refine .aH (σ := fun i => match i with | a => ⟨mkS 19 0 [(0, bf s), (1, .fn 106 [] []), (7, ae (s.length : Int)), (8, ae a)], []⟩) (Q := fun x st' => match (generalizing := false) d with | .inl _ => x = .exit 0 /\ Wk 0 st' ⟨mkS 19 0 [], []⟩ | .inr (r0) => x = .ret /\ aG Tryz.prog [.tmp 4] (ae r0) .ret st') c ((Wk.gc [0, 1, 7, 8] [] rfl pK0).to) ?_ ?_
 ·clear hr
  rintro m a hr
  show CQ _ _ _ _ _ ⟨_, _⟩
  refine .seq (.r4 G [0, 1, 7, 8] [(9, aB (decide (a < (s.length : Int))))] (.seq ?_))
  refine .cd hr ?_ ?_ <;> intro j hr
  ·refine .skip (.seq (.block (.seq (.r4 G [0, 1, 7, 8] [(5, ae a)] (.seq ?_)))))
   obtain ⟨e, hr⟩ := gd hr
   obtain ⟨g, f, hr⟩ := bd hr
   refine .g1 G (ok0 (sd n (gt s a) g f)) (.mu 3 (.p0 (v := .pp (s.flatMap (iC .i64)) (a.toNat * 1)) (tr (ar e)) (.p0 (v := ae (gt s a)) (tr (aD (aE (aF .i64) (aA e) z1 (by omega : a.toNat * 1 = a.toNat * 1 + 0) (by kernel_rfl)))) (.ca cf0 (.done (.nh [0, 1, 5, 7, 8, 16] [] ?_))))))
   refine .cd hr ?_ ?_ <;> intro h hr
   ·refine .seq (.ru G (.ret ?_))
    obtain rfl := oi hr
    exact ⟨rfl, aG.ret (vs := [ae a]) (by kernel_rfl) (Sn.pure rfl)⟩
   refine .skip (.pop (.ru G ?_))
   exact az (Fc (a + 1)) hr ((Wk.gc [0, 1, 7, 8] [] rfl pK0).to)
  refine .leave rfl ?_
  obtain rfl := oi hr
  exact ⟨rfl, ((Wk.gc [] [] rfl pK0).to)⟩
 rcases d with ⟨⟩ | r0
 ·rintro x st' b
  clear c
  obtain ⟨rfl, b⟩ := b
  refine aQ _ rfl (.wk b (.seq (.ru G (.ret ?_))))
  obtain rfl := oi hr
  exact aG.r1 [ae (-1)]
 rintro x st' b
 clear c
 obtain ⟨rfl, b⟩ := b
 obtain rfl := oi hr
 exact iT _ b

theorem gR (n : Nat) (s : List Int) (r : Bool) (hr : br n s = some r) : aL Tryz.prog 105 [bf s, .fn 106 [] []] (aB r) := by
 unfold br at hr
 refine aL.bd G Tryz.func105 [.tmp 4] ?_
 unfold Tryz.f105
 simp only [gS]
 refine .seq (.r4 G [0, 1] [] (.seq ?_))
 obtain ⟨b, a, hr⟩ := bd hr
 refine .g1 G (ok0 (iz n s b a)) (.mu 2 (.ca cf0 (.mu 2 (.done (.ret ?_)))))
 obtain rfl := oi hr
 exact aG.r1 [aB (decide (b >= 0))]

theorem oQ (n : Nat) (g : al) (r : Int) (hr : jC n g = some r) : aL Tryz.prog 58 [.agg (al.c g)] (ae r) := by
 unfold jC at hr
 refine aL.bd G Tryz.func58 [.tmp 2] ?_
 unfold Tryz.f58
 simp only [gS]
 refine .seq (.r2 G 54 [(1, .hp 0 0)] [.own (al.c g)] (.seq (.r4 G [1] [(3, .fn 103 [] [])] (.seq (.seq ?_)))))
 obtain ⟨m, a, hr⟩ := bd hr
 rcases bT (!m) with d | d
 ·replace hr := cy d hr
  refine .g1 G (ok0 (bP n g.Width m a)) (.mu 3 (.ca cf0 (.p0 (v := aB true) (eB d) (.mu 33 (.done (.nh [1, 41] [.own (al.c g)] (.cT (by kernel_rfl) (.seq (.ru G (.ret ?_))))))))))
  obtain rfl := oi hr
  exact aG.r1 [ae 2]
 replace hr := cz d hr
 obtain ⟨p, b, hr⟩ := bd hr
 rcases bT (!p) with e | e
 ·replace hr := cy e hr
  refine .gn G (ca1 (ok0 (bP n g.Width m a)) (ca3 (ok0 (bP n g.Height p b)))) (.mu 3 (.ca cf0 (.p0 (v := aB false) (eB d) (.mu 4 (.ca (cfA (fun h => by rw [sv b a (fq n h)]) cf0) (.pure (v := aB true) (by kernel_rfl) (eB e) (.mu 27 (.done (.nh [1, 41] [.own (al.c g)] (.cT (by kernel_rfl) (.seq (.ru G (.ret ?_)))))))))))))
  obtain rfl := oi hr
  exact aG.r1 [ae 2]
 replace hr := cz e hr
 rcases bT (decide (g.Step < 2)) with f | f
 ·replace hr := cy f hr
  refine .gn G (ca1 (ok0 (bP n g.Width m a)) (ca3 (ok0 (bP n g.Height p b)))) (.mu 3 (.ca cf0 (.p0 (v := aB false) (eB d) (.mu 4 (.ca (cfA (fun h => by rw [sv b a (fq n h)]) cf0) (.pure (v := aB false) (by kernel_rfl) (eB e) (.mu 4 (.pure (v := aB true) (by kernel_rfl) (eB f) (.mu 22 (.done (.nh [1, 41] [.own (al.c g)] (.cT (by kernel_rfl) (.seq (.ru G (.ret ?_)))))))))))))))
  obtain rfl := oi hr
  exact aG.r1 [ae 2]
 replace hr := cz f hr
 rcases bT (decide (g.Step > 65536)) with i | i
 ·replace hr := cy i hr
  refine .gn G (ca1 (ok0 (bP n g.Width m a)) (ca3 (ok0 (bP n g.Height p b)))) (.mu 3 (.ca cf0 (.p0 (v := aB false) (eB d) (.mu 4 (.ca (cfA (fun h => by rw [sv b a (fq n h)]) cf0) (.pure (v := aB false) (by kernel_rfl) (eB e) (.mu 4 (.pure (v := aB false) (by kernel_rfl) (eB f) (.mu 4 (.pure (v := aB true) (by kernel_rfl) (eB i) (.mu 17 (.done (.nh [1, 41] [.own (al.c g)] (.cT (by kernel_rfl) (.seq (.ru G (.ret ?_)))))))))))))))))
  obtain rfl := oi hr
  exact aG.r1 [ae 2]
 replace hr := cz i hr
 rcases bT (((g.Step.tmod 2) : Int) != 0) with j | j
 ·replace hr := cy j hr
  refine .gn G (ca1 (ok0 (bP n g.Width m a)) (ca3 (ok0 (bP n g.Height p b)))) (.mu 3 (.ca cf0 (.p0 (v := aB false) (eB d) (.mu 4 (.ca (cfA (fun h => by rw [sv b a (fq n h)]) cf0) (.pure (v := aB false) (by kernel_rfl) (eB e) (.mu 4 (.pure (v := aB false) (by kernel_rfl) (eB f) (.mu 4 (.pure (v := aB false) (by kernel_rfl) (eB i) (.mu 5 (.pure (v := aB true) (by kernel_rfl) (eB j) (.mu 11 (.done (.nh [1, 41] [.own (al.c g)] (.cT (by kernel_rfl) (.seq (.ru G (.ret ?_)))))))))))))))))))
  obtain rfl := oi hr
  exact aG.r1 [ae 2]
 replace hr := cz j hr
 obtain ⟨s, k, hr⟩ := bd hr
 rcases bT s with l | l
 ·subst l
  replace hr := cy rfl hr
  refine .gn G (ca1 (ok0 (bP n g.Width m a)) (ca1 (ok0 (bP n g.Height p b)) (ca3 (ok0 (lL n g.X0 true k))))) (.mu 3 (.ca cf0 (.p0 (v := aB false) (eB d) (.mu 4 (.ca (cfA (fun h => by rw [sv b a (fq n h)]) cf0) (.pure (v := aB false) (by kernel_rfl) (eB e) (.mu 4 (.pure (v := aB false) (by kernel_rfl) (eB f) (.mu 4 (.pure (v := aB false) (by kernel_rfl) (eB i) (.mu 5 (.pure (v := aB false) (by kernel_rfl) (eB j) (.mu 4 (.ca (cfF (cfF cf0)) (.mu 6 (.done (.nh [1, 41] [.own (al.c g)] (.cT (by kernel_rfl) (.seq (.ru G (.ret ?_)))))))))))))))))))))
  obtain rfl := oi hr
  exact aG.r1 [ae 2]
 subst l
 replace hr := cz rfl hr
 obtain ⟨t, o, hr⟩ := bd hr
 refine .gn G (ca1 (ok0 (bP n g.Width m a)) (ca1 (ok0 (bP n g.Height p b)) (ca1 (ok0 (lL n g.X0 false k)) (ca3 (ok0 (lL n g.Y0 t o)))))) (.mu 3 (.ca cf0 (.p0 (v := aB false) (eB d) (.mu 4 (.ca (cfA (fun h => by rw [sv b a (fq n h)]) cf0) (.pure (v := aB false) (by kernel_rfl) (eB e) (.mu 4 (.pure (v := aB false) (by kernel_rfl) (eB f) (.mu 4 (.pure (v := aB false) (by kernel_rfl) (eB i) (.mu 5 (.pure (v := aB false) (by kernel_rfl) (eB j) (.mu 4 (.ca (cfF (cfF cf0)) (.mu 4 (.ca (cfF (cfF (cfA (fun h => by rw [sv o k (vC n h)]) cf0))) (.mu 1 (.done (.nh [1, 41] [.own (al.c g)] ?_)))))))))))))))))))
 refine .cd hr ?_ ?_ <;> intro w hr
 ·refine .seq (.ru G (.ret ?_))
  obtain rfl := oi hr
  exact aG.r1 [ae 2]
 refine .skip (.seq (.seq (.r4 G [1] [(50, aB (((g.Z.length : Int) : Int) != (Fc (g.Width * g.Height))))] ?_)))
 refine .cd hr ?_ ?_ <;> intro x hr
 ·refine .seq (.ru G (.ret ?_))
  obtain rfl := oi hr
  exact aG.r1 [ae 4]
 refine .skip (.seq (.seq ?_))
 obtain ⟨u, q, hr⟩ := bd hr
 refine .g1 G (ok0 (gR n g.Z u q)) (.mu 2 (.ca cf0 (.done (.nh [53] [.own (al.c g)] ?_))))
 refine .cd hr ?_ ?_ <;> intro y hr
 ·refine .seq (.ru G (.ret ?_))
  obtain rfl := oi hr
  exact aG.r1 [ae 2]
 refine .skip (.seq (.ru G (.ret ?_)))
 obtain rfl := oi hr
 exact aG.r1 [ae 0]

theorem gN (n : Nat) (g : al) (level : Int) (r : Int) (hr : dF n g level = some r) : aL Tryz.prog 44 [.agg (al.c g), ae level] (ae r) := by
 unfold dF at hr
 refine aL.bd G Tryz.func44 [.tmp 4] ?_
 unfold Tryz.f44
 simp only [gS]
 refine .seq (.r5 G [1] [(2, .hp 0 0)] [.own (al.c g)] (.seq (.seq ?_)))
 obtain ⟨b, d, hr⟩ := bd hr
 refine .g1 G (ok0 (oQ n g b d)) (.mu 1 (.ca cf0 (.mu 1 (.done (.nh [1, 5] [.own (al.c g)] (.seq (.r4 G [1, 5] [(9, aB ((b : Int) != 0))] ?_)))))))
 refine .cd hr ?_ ?_ <;> intro e hr
 ·refine .seq (.ru G (.ret ?_))
  obtain rfl := oi hr
  exact aG.r1 [ae b]
 refine .skip (.seq (.seq (.r4 G [1] [(13, aB (((level.tmod 2) : Int) == 0))] ?_)))
 refine .cd hr ?_ ?_ <;> intro f hr
 ·refine .seq (.ru G (.ret ?_))
  obtain rfl := oi hr
  exact aG.r1 [ae 1]
 refine .skip (.seq (.seq ?_))
 rcases bT (decide (level < (-2097153))) with a | a
 ·replace hr := cy a hr
  refine .r0 G (.mu 1 (.p0 (v := aB true) (eB a) (.mu 4 (.done (.nh [19] [.own (al.c g)] (.cT (by kernel_rfl) (.seq (.ru G (.ret ?_)))))))))
  obtain rfl := oi hr
  exact aG.r1 [ae 2]
 replace hr := cz a hr
 refine .r0 G (.mu 1 (.p0 (v := aB false) (eB a) (.mu 4 (.done (.nh [19] [.own (al.c g)] ?_)))))
 refine .cd hr ?_ ?_ <;> intro h hr
 ·refine .seq (.ru G (.ret ?_))
  obtain rfl := oi hr
  exact aG.r1 [ae 2]
 refine .skip (.seq (.ru G (.ret ?_)))
 obtain rfl := oi hr
 exact aG.r1 [ae 0]

theorem rO {k : Int} {p : Int} {n : Int} {l : Int} {i : Int} {f : Int} {d : List Int} {b : Int} {o : Int} {q : Int} {m : Int} {j : Int} {g : Int} {e : Int} {c : List Int} {a : Int} (h : ([.at (.int .i64 k), .pp [.at (.int .i64 p), .at (.int .i64 n), .at (.int .i64 l), .at (.int .i64 i), .at (.int .i64 f), slT (iC .i64) d] 0, .pp [.at (.int .i64 b)] 0] : List AV) = [.at (.int .i64 o), .pp [.at (.int .i64 q), .at (.int .i64 m), .at (.int .i64 j), .at (.int .i64 g), .at (.int .i64 e), slT (iC .i64) c] 0, .pp [.at (.int .i64 a)] 0]) : k = o /\ p = q /\ n = m /\ l = j /\ i = g /\ f = e /\ d = c /\ b = a := by
 simp only [List.cons.injEq, AV.agg.injEq, AV.at.injEq, Value.int.injEq, Value.bool.injEq, AV.fn.injEq, AV.pp.injEq, true_and, and_true, eZ] at h
 simp_all
theorem nT (n : Nat) {k : Int} {p : Int} {o : Int} {l : Int} {i : Int} {f : Int} {d : List Int} {b : Int} {q : Int} {r : Int} {m : Int} {j : Int} {g : Int} {e : Int} {c : List Int} {a : Int} (h : ([.at (.int .i64 k), .pp [.at (.int .i64 p), .at (.int .i64 o), .at (.int .i64 l), .at (.int .i64 i), .at (.int .i64 f), slT (iC .i64) d] 0, .pp [.at (.int .i64 b)] 0] : List AV) = [.at (.int .i64 q), .pp [.at (.int .i64 r), .at (.int .i64 m), .at (.int .i64 j), .at (.int .i64 g), .at (.int .i64 e), slT (iC .i64) c] 0, .pp [.at (.int .i64 a)] 0]) : fb n k p o l i f d b = fb n q r m j g e c a := by
 obtain ⟨rfl, rfl, rfl, rfl, rfl, rfl, rfl, rfl⟩ := rO h
 rfl
theorem fp (n : Nat) (k : Int) (p : Int) (g : Int) (e : Int) (d : Int) (c : Int) (a : List Int) (b : Int) (r : Bool) (hr : fb n k p g e d c a b = some r) : aL Tryz.prog 88 [ae k, .pp [ae p, ae g, ae e, ae d, ae c, bf a] 0, .pp [ae b] 0] (aB r) := by
 unfold fb at hr
 refine aL.bd G Tryz.func88 [.tmp 4] ?_
 unfold Tryz.f88
 simp only [gS]
 refine .seq (.r4 G [0, 1, 2] [] (.seq ?_))
 obtain ⟨f, hr⟩ := gd hr
 refine .eu G bJ (.mu 3 (.pk (v := .pp (a.flatMap (iC .i64)) (k.toNat * 1)) (tr (ar f)) (.pk (v := ae (gt a k)) (tr (aD (aE (aF .i64) (aA f) z1 (by omega : k.toNat * 1 = k.toNat * 1 + 0) (by kernel_rfl)))) (.mu 4 ?_))))
 refine .done ⟨by kernel_rfl, ?_⟩
 refine .ret ?_
 obtain rfl := oi hr
 exact aG.r1 [aB (decide ((Fc (2 * (gt a k))) > b))]

theorem n6 (n : Nat) (a : Int) (b : Int) (r : A2 Int) (hr : lF n a b = some r) : aL Tryz.prog 91 [ae a, ae b] (.agg (aj.c r)) := by
 unfold lF at hr
 refine aL.bd G Tryz.func91 [.cell 4 101] ?_
 unfold Tryz.f91
 simp only [gS]
 refine .seq (.r5 G [0, 1] [(4, .hp 0 0)] [.own [ae 0, ae 0]] (.seq (.r5 G [4] [] [.own [ae (mn a b), ae (mx a b)]] (.ret ?_))))
 obtain rfl := oi hr
 exact aG.r1 [.agg [ae (mn a b), ae (mx a b)]]

theorem qU (n : Nat) (t : A3 Int) (c : Int) (F : Int) (q : Int) (i : Int) (d : Int) (b : List Int) (a : Int) (p : List (A2 Int × A2 Int)) (E : List (A2 Int × Bool)) (r : List (A2 Int × A2 Int) × List (A2 Int × Bool)) (hr : lQ n t c F q i d b a p E = some r) : dm 5 Tryz.prog 90 [.agg (an.c t), .hp 0 0, .hp 3 0, .hp 4 0] [.own [.fn 88 [] [.hp 1 0, .hp 2 0]], .own [ae c, ae F, ae q, ae i, ae d, bf b], .own [ae a], .own [.mp 5], .own [.mp 6], .map (p.map (mpK av.K (gA aj.c))), .map (E.map (mpK av.K bA))] (.tup []) [.own [.fn 88 [] [.hp 1 0, .hp 2 0]], .own [ae c, ae F, ae q, ae i, ae d, bf b], .own [ae a], .own [.mp 5], .own [.mp 6], .map (r.1.map (mpK av.K (gA aj.c))), .map (r.2.map (mpK av.K bA))] := by
 unfold lQ at hr
 refine dm.kF G Tryz.func90 (c := (Tryz.f90.body).getD .skip) rfl (us := []) (s := mkS 55 0 [(0, .agg (an.c t)), (1, .hp 0 0), (2, .hp 3 0), (3, .hp 4 0)]) (by kernel_rfl) (rs := []) rfl ?_
 unfold Tryz.f90
 simp only [gS]
 refine .seq (.r5 G [1, 2, 3] [(4, .hp 7 0)] [.own [.fn 88 [] [.hp 1 0, .hp 2 0]], .own [ae c, ae F, ae q, ae i, ae d, bf b], .own [ae a], .own [.mp 5], .own [.mp 6], .map (p.map (mpK av.K (gA aj.c))), .map (E.map (mpK av.K bA)), .own (an.c t)] (.seq (.r5 G [1, 2, 3, 4] [(5, .hp 8 0), (6, .hp 9 0)] [.own [.fn 88 [] [.hp 1 0, .hp 2 0]], .own [ae c, ae F, ae q, ae i, ae d, bf b], .own [ae a], .own [.mp 5], .own [.mp 6], .map (p.map (mpK av.K (gA aj.c))), .map (E.map (mpK av.K bA)), .own (an.c t), .own [ae 0, ae 0], .own [ae 0, ae 0]] (.seq (.r4 G [1, 2, 3, 4, 5, 6] [(7, aB false)] (.seq (.seq (.r4 G [1, 2, 3, 4, 5, 6, 7] [(11, ae 0)] (.block ?_)))))))))
 replace hr := bd hr; obtain ⟨iV, T, hr⟩ := hr
 refine .aH (σ := fun z0 => match z0 with | (z, A, B, C, H, g) => ⟨mkS 55 0 [(1, .hp 0 0), (2, .hp 3 0), (3, .hp 4 0), (4, .hp 7 0), (5, .hp 8 0), (6, .hp 9 0), (7, aB H), (11, ae g)], [.own [.fn 88 [] [.hp 1 0, .hp 2 0]], .own [ae c, ae F, ae q, ae i, ae d, bf b], .own [ae a], .own [.mp 5], .own [.mp 6], .map (p.map (mpK av.K (gA aj.c))), .map (E.map (mpK av.K bA)), .own (an.c t), .own [ae z, ae A], .own [ae B, ae C]]⟩) (Q := fun x st' => match (generalizing := false) iV with | (u, w, j, o, J) => x = .exit 0 /\ Wk 5 st' ⟨mkS 55 0 [(2, .hp 3 0), (3, .hp 4 0), (5, .hp 7 0), (6, .hp 8 0), (7, aB J)], [.own [.fn 88 [] [.hp 1 0, .hp 2 0]], .own [ae c, ae F, ae q, ae i, ae d, bf b], .own [ae a], .own [.mp 5], .own [.mp 6], .map (p.map (mpK av.K (gA aj.c))), .map (E.map (mpK av.K bA)), .own [ae u, ae w], .own [ae j, ae o]]⟩) T ((Wk.gc [1, 2, 3, 4, 5, 6, 7, 11] [(0, true), (1, true), (2, true), (3, true), (4, true), (5, false), (6, false), (7, true), (8, true), (9, true)] rfl (pKt (pKt (pKt (pKt (pKt (pKM av.K (gA aj.c) (fun _ => rfl) p (pKM av.K bA (fun _ => rfl) E trivial)))))))).to) ?_ ?_
 ·clear hr
  rintro m ⟨z, A, B, C, H, g⟩ hr
  show CQ _ _ _ _ _ ⟨_, _⟩
  refine .seq (.r4 G [1, 2, 3, 4, 5, 6, 7, 11] [(12, aB (decide (g < 3)))] (.seq ?_))
  refine .cd hr ?_ ?_ <;> intro mM hr
  ·refine .skip (.seq (.block (.seq (.r4 G [1, 2, 3, 4, 5, 6, 7, 11] [(8, ae g)] (.seq ?_)))))
   obtain ⟨U, V, hr⟩ := gd2 hr
   refine .eu G bJ (.mu 1 (.pk (v := .hp 7 (0 + g.toNat * 1)) (tr (ar U)) (.pk (v := ae (A3.get t g)) (tr (y := bu.ofP ((an.c t)[0 + g.toNat * 1]?)) (aD (yZ (k := .i64) (kk := 0) (xs := [t.e0, t.e1, t.e2]) U rfl (by kernel_rfl)))) (.mu 3 (.pk (v := .hp 7 (0 + ((Fc (g + 1)).tmod 3).toNat * 1)) (tr (ar V)) (.pk (v := ae (A3.get t ((Fc (g + 1)).tmod 3))) (tr (y := bu.ofP ((an.c t)[0 + ((Fc (g + 1)).tmod 3).toNat * 1]?)) (aD (yZ (k := .i64) (kk := 0) (xs := [t.e0, t.e1, t.e2]) V rfl (by kernel_rfl)))) (.mu 2 ?_)))))))
   refine .done ⟨by kernel_rfl, ?_⟩
   refine .nh [1, 2, 3, 4, 5, 6, 7, 9, 10, 11] [.own [.fn 88 [] [.hp 1 0, .hp 2 0]], .own [ae c, ae F, ae q, ae i, ae d, bf b], .own [ae a], .own [.mp 5], .own [.mp 6], .map (p.map (mpK av.K (gA aj.c))), .map (E.map (mpK av.K bA)), .own (an.c t), .own [ae z, ae A], .own [ae B, ae C]] ?_
   obtain ⟨D, jS, hr⟩ := bd hr
   refine .wk ((Wk.refl _).to (c := ⟨mkS 55 0 [(1, .hp 0 0), (2, .hp 3 0), (3, .hp 4 0), (4, .hp 7 0), (5, .hp 8 0), (6, .hp 9 0), (7, aB H), (9, ae (A3.get t g)), (10, ae D), (11, ae g)], [.own [.fn 88 [] [.hp 1 0, .hp 2 0]], .own [ae c, ae F, ae q, ae i, ae d, bf b], .own [ae a], .own [.mp 5], .own [.mp 6], .map (p.map (mpK av.K (gA aj.c))), .map (E.map (mpK av.K bA)), .own (an.c t), .own [ae z, ae A], .own [ae B, ae C]]⟩) (by rw [oi jS]; first | done | kernel_rfl)) <| .block <| .seq ?_
   replace hr := bd hr; obtain ⟨kb, L, hr⟩ := hr
   refine .vY (Q := fun x st' => x = .normal /\ Wk 5 st' ⟨mkS 55 0 [(1, .hp 0 0), (2, .hp 3 0), (3, .hp 4 0), (4, .hp 7 0), (5, .hp 8 0), (6, .hp 9 0), (7, aB H), (9, ae (A3.get t g)), (10, ae D), (11, ae g), (22, aB kb)], [.own [.fn 88 [] [.hp 1 0, .hp 2 0]], .own [ae c, ae F, ae q, ae i, ae d, bf b], .own [ae a], .own [.mp 5], .own [.mp 6], .map (p.map (mpK av.K (gA aj.c))), .map (E.map (mpK av.K bA)), .own (an.c t), .own [ae z, ae A], .own [ae B, ae C]]⟩) ?_ ?_
   ·clear hr
    have hr := L
    clear L
    obtain ⟨kE, M, hr⟩ := bd hr
    rcases bT kE with N | N
    ·subst N
     replace hr := cy rfl hr
     obtain ⟨lP, W, hr⟩ := bd hr
     refine .gn G (ca1 (gx (args := [ae (A3.get t g), .hp 1 0, .hp 2 0]) (l := [1, 2]) rfl (Sp (SnL.cons (Sn.hp rfl (.inl rfl) (SnC.cons (Sn.pure rfl) (SnC.cons (Sn.pure rfl) (SnC.cons (Sn.pure rfl) (SnC.cons (Sn.pure rfl) (SnC.cons (Sn.pure rfl) (SnC.cons (Sn.pure rfl) SnC.nil))))))) (SnL.cons (Sn.hp rfl (.inl rfl) (SnC.cons (Sn.pure rfl) SnC.nil)) SnL.nil))) (fp n (A3.get t g) c F q i d b a true M)) (ca3 (gx (args := [ae D, .hp 1 0, .hp 2 0]) (l := [1, 2]) rfl (Sp (SnL.cons (Sn.hp rfl (.inl rfl) (SnC.cons (Sn.pure rfl) (SnC.cons (Sn.pure rfl) (SnC.cons (Sn.pure rfl) (SnC.cons (Sn.pure rfl) (SnC.cons (Sn.pure rfl) (SnC.cons (Sn.pure rfl) SnC.nil))))))) (SnL.cons (Sn.hp rfl (.inl rfl) (SnC.cons (Sn.pure rfl) SnC.nil)) SnL.nil))) (fp n D c F q i d b a lP W)))) (.mu 2 (.ca cf0 (.mu 3 (.ca (cfA (fun h => by rw [sv W M (nT n (show ([ae D, .pp [ae c, ae F, ae q, ae i, ae d, bf b] 0, .pp [ae a] 0] : List AV) = [ae (A3.get t g), .pp [ae c, ae F, ae q, ae i, ae d, bf b] 0, .pp [ae a] 0] from (congr (congrArg List.cons (List.cons.inj h).1) (congr (congrArg List.cons rfl) (congr (congrArg List.cons rfl) rfl)))))]) cf0) (.mu 3 (.done ?_))))))
     obtain rfl := oi hr
     exact ⟨rfl, ((Wk.gc [1, 2, 3, 4, 5, 6, 7, 9, 10, 11, 22] [(0, true), (1, true), (2, true), (3, true), (4, true), (5, false), (6, false), (7, true), (8, true), (9, true)] rfl (pKt (pKt (pKt (pKt (pKt (pKM av.K (gA aj.c) (fun _ => rfl) p (pKM av.K bA (fun _ => rfl) E trivial)))))))).to)⟩
    subst N
    replace hr := cz rfl hr
    refine .g1 G (gx (args := [ae (A3.get t g), .hp 1 0, .hp 2 0]) (l := [1, 2]) rfl (Sp (SnL.cons (Sn.hp rfl (.inl rfl) (SnC.cons (Sn.pure rfl) (SnC.cons (Sn.pure rfl) (SnC.cons (Sn.pure rfl) (SnC.cons (Sn.pure rfl) (SnC.cons (Sn.pure rfl) (SnC.cons (Sn.pure rfl) SnC.nil))))))) (SnL.cons (Sn.hp rfl (.inl rfl) (SnC.cons (Sn.pure rfl) SnC.nil)) SnL.nil))) (fp n (A3.get t g) c F q i d b a false M)) (.mu 2 (.ca cf0 (.mu 7 (.done ?_))))
    obtain rfl := oi hr
    exact ⟨rfl, ((Wk.gc [1, 2, 3, 4, 5, 6, 7, 9, 10, 11, 22] [(0, true), (1, true), (2, true), (3, true), (4, true), (5, false), (6, false), (7, true), (8, true), (9, true)] rfl (pKt (pKt (pKt (pKt (pKt (pKM av.K (gA aj.c) (fun _ => rfl) p (pKM av.K bA (fun _ => rfl) E trivial)))))))).to)⟩
   rintro x st' O
   clear L
   obtain ⟨rfl, O⟩ := O
   refine .wk O ?_
   refine .cd hr ?_ ?_ <;> intro iZ hr
   ·obtain ⟨X, jW, hr⟩ := bd hr
    refine .g1 G (ok0 (n6 n (A3.get t g) D X jW)) (.mu 2 (.ca cf0 (.mu 2 (.done (.pop (.pop (.ru G ?_)))))))
    exact az (X.e0, X.e1, B, C, true, Fc (g + 1)) hr ((Wk.gc [1, 2, 3, 4, 5, 6, 7, 11] [(0, true), (1, true), (2, true), (3, true), (4, true), (5, false), (6, false), (7, true), (8, true), (9, true)] rfl (pKt (pKt (pKt (pKt (pKt (pKM av.K (gA aj.c) (fun _ => rfl) p (pKM av.K bA (fun _ => rfl) E trivial)))))))).to)
   refine .seq ?_
   obtain ⟨Y, R, hr⟩ := bd hr
   rcases bT (!Y) with I | I
   ·replace hr := cy I hr
    obtain ⟨lE, Z, hr⟩ := bd hr
    refine .gn G (ca1 (gx (args := [ae (A3.get t g), .hp 1 0, .hp 2 0]) (l := [1, 2]) rfl (Sp (SnL.cons (Sn.hp rfl (.inl rfl) (SnC.cons (Sn.pure rfl) (SnC.cons (Sn.pure rfl) (SnC.cons (Sn.pure rfl) (SnC.cons (Sn.pure rfl) (SnC.cons (Sn.pure rfl) (SnC.cons (Sn.pure rfl) SnC.nil))))))) (SnL.cons (Sn.hp rfl (.inl rfl) (SnC.cons (Sn.pure rfl) SnC.nil)) SnL.nil))) (fp n (A3.get t g) c F q i d b a Y R)) (ca3 (gx (args := [ae D, .hp 1 0, .hp 2 0]) (l := [1, 2]) rfl (Sp (SnL.cons (Sn.hp rfl (.inl rfl) (SnC.cons (Sn.pure rfl) (SnC.cons (Sn.pure rfl) (SnC.cons (Sn.pure rfl) (SnC.cons (Sn.pure rfl) (SnC.cons (Sn.pure rfl) (SnC.cons (Sn.pure rfl) SnC.nil))))))) (SnL.cons (Sn.hp rfl (.inl rfl) (SnC.cons (Sn.pure rfl) SnC.nil)) SnL.nil))) (fp n D c F q i d b a lE Z)))) (.mu 2 (.ca cf0 (.p0 (v := aB true) (eB I) (.mu 3 (.ca (cfA (fun h => by rw [sv Z R (nT n (show ([ae D, .pp [ae c, ae F, ae q, ae i, ae d, bf b] 0, .pp [ae a] 0] : List AV) = [ae (A3.get t g), .pp [ae c, ae F, ae q, ae i, ae d, bf b] 0, .pp [ae a] 0] from (congr (congrArg List.cons (List.cons.inj h).1) (congr (congrArg List.cons rfl) (congr (congrArg List.cons rfl) rfl)))))]) cf0) (.mu 2 (.done (.nh [1, 2, 3, 4, 5, 6, 7, 9, 10, 11, 35] [.own [.fn 88 [] [.hp 1 0, .hp 2 0]], .own [ae c, ae F, ae q, ae i, ae d, bf b], .own [ae a], .own [.mp 5], .own [.mp 6], .map (p.map (mpK av.K (gA aj.c))), .map (E.map (mpK av.K bA)), .own (an.c t), .own [ae z, ae A], .own [ae B, ae C]] ?_))))))))
    refine .cd hr ?_ ?_ <;> intro jQ hr
    ·obtain ⟨gU, ki, hr⟩ := bd hr
     refine .g1 G (ok0 (n6 n (A3.get t g) D gU ki)) (.mu 2 (.ca cf0 (.mu 1 (.done (.pop (.pop (.ru G ?_)))))))
     exact az (z, A, gU.e0, gU.e1, H, Fc (g + 1)) hr ((Wk.gc [1, 2, 3, 4, 5, 6, 7, 11] [(0, true), (1, true), (2, true), (3, true), (4, true), (5, false), (6, false), (7, true), (8, true), (9, true)] rfl (pKt (pKt (pKt (pKt (pKt (pKM av.K (gA aj.c) (fun _ => rfl) p (pKM av.K bA (fun _ => rfl) E trivial)))))))).to)
    refine .skip (.pop (.pop (.ru G ?_)))
    exact az (z, A, B, C, H, Fc (g + 1)) hr ((Wk.gc [1, 2, 3, 4, 5, 6, 7, 11] [(0, true), (1, true), (2, true), (3, true), (4, true), (5, false), (6, false), (7, true), (8, true), (9, true)] rfl (pKt (pKt (pKt (pKt (pKt (pKM av.K (gA aj.c) (fun _ => rfl) p (pKM av.K bA (fun _ => rfl) E trivial)))))))).to)
   replace hr := cz I hr
   refine .g1 G (gx (args := [ae (A3.get t g), .hp 1 0, .hp 2 0]) (l := [1, 2]) rfl (Sp (SnL.cons (Sn.hp rfl (.inl rfl) (SnC.cons (Sn.pure rfl) (SnC.cons (Sn.pure rfl) (SnC.cons (Sn.pure rfl) (SnC.cons (Sn.pure rfl) (SnC.cons (Sn.pure rfl) (SnC.cons (Sn.pure rfl) SnC.nil))))))) (SnL.cons (Sn.hp rfl (.inl rfl) (SnC.cons (Sn.pure rfl) SnC.nil)) SnL.nil))) (fp n (A3.get t g) c F q i d b a Y R)) (.mu 2 (.ca cf0 (.p0 (v := aB false) (eB I) (.mu 6 (.done (.nh [1, 2, 3, 4, 5, 6, 7, 9, 10, 11, 35] [.own [.fn 88 [] [.hp 1 0, .hp 2 0]], .own [ae c, ae F, ae q, ae i, ae d, bf b], .own [ae a], .own [.mp 5], .own [.mp 6], .map (p.map (mpK av.K (gA aj.c))), .map (E.map (mpK av.K bA)), .own (an.c t), .own [ae z, ae A], .own [ae B, ae C]] (.cF (by kernel_rfl) (.skip (.pop (.pop (.ru G ?_)))))))))))
   exact az (z, A, B, C, H, Fc (g + 1)) hr ((Wk.gc [1, 2, 3, 4, 5, 6, 7, 11] [(0, true), (1, true), (2, true), (3, true), (4, true), (5, false), (6, false), (7, true), (8, true), (9, true)] rfl (pKt (pKt (pKt (pKt (pKt (pKM av.K (gA aj.c) (fun _ => rfl) p (pKM av.K bA (fun _ => rfl) E trivial)))))))).to)
  refine .leave rfl ?_
  obtain rfl := oi hr
  exact ⟨rfl, ((Wk.gc [2, 3, 5, 6, 7] [(0, true), (1, true), (2, true), (3, true), (4, true), (5, false), (6, false), (8, true), (9, true)] rfl (pKt (pKt (pKt (pKt (pKt (pKM av.K (gA aj.c) (fun _ => rfl) p (pKM av.K bA (fun _ => rfl) E trivial)))))))).to)⟩
 rcases iV with ⟨u, w, j, o, J⟩
 rintro x st' S
 clear T
 obtain ⟨rfl, S⟩ := S
 refine aQ _ rfl (.wk S (.seq (.r4 G [2, 3, 5, 6] [(49, aB J)] ?_)))
 refine .cd hr ?_ ?_ <;> intro jN hr
 ·refine .seq (.r0 G (.mu 3 (.e0 (v := .unk) (ws := [(5, .map ((kq p (A2.mk u w) (A2.mk j o)).map (mpK av.K (gA aj.c))))]) (tr (y := iP Tryz.prog [.own [.fn 88 [] [.hp 1 0, .hp 2 0]], .own [ae c, ae F, ae q, ae i, ae d, bf b], .own [ae a], .own [.mp 5], .own [.mp 6], .map (p.map (mpK av.K (gA aj.c))), .map (E.map (mpK av.K bA)), .own [ae u, ae w], .own [ae j, ae o]] 124 (.mp 5) (.agg [ae u, ae w]) (.agg [ae j, ae o])) (A8 (kt := 101) (e := 101) (l := p) (f := (gA aj.c)) (v := A2.mk j o) (K := av.K) (x := A2.mk u w) av.key (by kernel_rfl) (by kernel_rfl) (by kernel_rfl) (by kernel_rfl))) (.done (.nh [3, 6] [.own [.fn 88 [] [.hp 1 0, .hp 2 0]], .own [ae c, ae F, ae q, ae i, ae d, bf b], .own [ae a], .own [.mp 5], .own [.mp 6], .map ((kq p (A2.mk u w) (A2.mk j o)).map (mpK av.K (gA aj.c))), .map (E.map (mpK av.K bA)), .own [ae u, ae w], .own [ae j, ae o]] (.r0 G (.mu 2 (.e0 (v := .unk) (ws := [(6, .map ((kq E (A2.mk j o) true).map (mpK av.K bA)))]) (tr (y := iP Tryz.prog [.own [.fn 88 [] [.hp 1 0, .hp 2 0]], .own [ae c, ae F, ae q, ae i, ae d, bf b], .own [ae a], .own [.mp 5], .own [.mp 6], .map ((kq p (A2.mk u w) (A2.mk j o)).map (mpK av.K (gA aj.c))), .map (E.map (mpK av.K bA)), .own [ae u, ae w], .own [ae j, ae o]] 125 (.mp 6) (.agg [ae j, ae o]) (aB true)) (A8 (kt := 101) (e := 4) (l := E) (f := bA) (v := true) (K := av.K) (x := A2.mk j o) av.key (by kernel_rfl) (by kernel_rfl) (by kernel_rfl) (by kernel_rfl))) (.done ?_)))))))))
  obtain rfl := oi hr
  exact dk.normal [] ((Wk.gc [] [(0, true), (1, true), (2, true), (3, true), (4, true), (5, false), (6, false)] rfl (pKt (pKt (pKt (pKt (pKt (pKM av.K (gA aj.c) (fun _ => rfl) (kq p (A2.mk u w) (A2.mk j o)) (pKM av.K bA (fun _ => rfl) (kq E (A2.mk j o) true) trivial)))))))).to)
 refine .skip ?_
 obtain rfl := oi hr
 exact dk.normal [] ((Wk.gc [] [(0, true), (1, true), (2, true), (3, true), (4, true), (5, false), (6, false)] rfl (pKt (pKt (pKt (pKt (pKt (pKM av.K (gA aj.c) (fun _ => rfl) p (pKM av.K bA (fun _ => rfl) E trivial)))))))).to)

theorem jv (n : Nat) (g : al) (c : Int) (D : Int) (o : Int) (i : Int) (f : Int) (e : List Int) (d : Int) (q : List (A2 Int × A2 Int)) (p : List (A2 Int × Bool)) (r : List (A2 Int × A2 Int) × List (A2 Int × Bool)) (hr : bh n g c D o i f e d q p = some r) : dm 5 Tryz.prog 89 [.agg (al.c g), .fn 90 [] [.hp 0 0, .hp 3 0, .hp 4 0]] [.own [.fn 88 [] [.hp 1 0, .hp 2 0]], .own [ae c, ae D, ae o, ae i, ae f, bf e], .own [ae d], .own [.mp 5], .own [.mp 6], .map (q.map (mpK av.K (gA aj.c))), .map (p.map (mpK av.K bA))] (.tup []) [.own [.fn 88 [] [.hp 1 0, .hp 2 0]], .own [ae c, ae D, ae o, ae i, ae f, bf e], .own [ae d], .own [.mp 5], .own [.mp 6], .map (r.1.map (mpK av.K (gA aj.c))), .map (r.2.map (mpK av.K bA))] := by
 unfold bh at hr
 refine dm.kF G Tryz.func89 (c := (Tryz.f89.body).getD .skip) rfl (us := []) (s := mkS 82 0 [(0, .agg (al.c g)), (1, .fn 90 [] [.hp 0 0, .hp 3 0, .hp 4 0])]) (by kernel_rfl) (rs := []) rfl ?_
 unfold Tryz.f89
 simp only [gS]
 refine .seq (.r5 G [1] [(2, .hp 7 0)] [.own [.fn 88 [] [.hp 1 0, .hp 2 0]], .own [ae c, ae D, ae o, ae i, ae f, bf e], .own [ae d], .own [.mp 5], .own [.mp 6], .map (q.map (mpK av.K (gA aj.c))), .map (p.map (mpK av.K bA)), .own (al.c g)] (.seq (.r4 G [1, 2] [(4, ae g.Width)] (.seq (.r4 G [1, 2, 4] [(14, ae (Fc (g.Height - 1))), (15, ae 0)] (.block ?_))))))
 replace hr := bd hr; obtain ⟨gU, U, hr⟩ := hr
 refine .aH (σ := fun z0 => match z0 with | (E, F, h) => ⟨mkS 82 0 [(1, .fn 90 [] [.hp 0 0, .hp 3 0, .hp 4 0]), (2, .hp 7 0), (4, ae g.Width), (14, ae (Fc (g.Height - 1))), (15, ae h)], [.own [.fn 88 [] [.hp 1 0, .hp 2 0]], .own [ae c, ae D, ae o, ae i, ae f, bf e], .own [ae d], .own [.mp 5], .own [.mp 6], .map (E.map (mpK av.K (gA aj.c))), .map (F.map (mpK av.K bA)), .own (al.c g)]⟩) (Q := fun x st' => match (generalizing := false) gU with | (N, O) => x = .exit 0 /\ Wk 5 st' ⟨mkS 82 0 [], [.own [.fn 88 [] [.hp 1 0, .hp 2 0]], .own [ae c, ae D, ae o, ae i, ae f, bf e], .own [ae d], .own [.mp 5], .own [.mp 6], .map (N.map (mpK av.K (gA aj.c))), .map (O.map (mpK av.K bA))]⟩) U ((Wk.gc [1, 2, 4, 14, 15] [(0, true), (1, true), (2, true), (3, true), (4, true), (5, false), (6, false), (7, true)] rfl (pKt (pKt (pKt (pKt (pKt (pKM av.K (gA aj.c) (fun _ => rfl) q (pKM av.K bA (fun _ => rfl) p trivial)))))))).to) ?_ ?_
 ·clear hr
  rintro m ⟨E, F, h⟩ hr
  show CQ _ _ _ _ _ ⟨_, _⟩
  refine .seq (.r4 G [1, 2, 4, 14, 15] [(16, aB (decide (h < (Fc (g.Height - 1)))))] (.seq ?_))
  refine .cd hr ?_ ?_ <;> intro kE hr
  ·refine .skip (.seq (.block (.seq (.r4 G [1, 2, 4, 14, 15] [(5, ae h)] (.seq (.r4 G [1, 2, 4, 5, 14, 15] [(19, ae (Fc (g.Width - 1))), (20, ae 0)] (.block ?_)))))))
   replace hr := bd hr; obtain ⟨iV, V, hr⟩ := hr
   refine .aH (σ := fun z0 => match z0 with | (t, u, l) => ⟨mkS 82 0 [(1, .fn 90 [] [.hp 0 0, .hp 3 0, .hp 4 0]), (2, .hp 7 0), (4, ae g.Width), (5, ae h), (14, ae (Fc (g.Height - 1))), (15, ae h), (19, ae (Fc (g.Width - 1))), (20, ae l)], [.own [.fn 88 [] [.hp 1 0, .hp 2 0]], .own [ae c, ae D, ae o, ae i, ae f, bf e], .own [ae d], .own [.mp 5], .own [.mp 6], .map (t.map (mpK av.K (gA aj.c))), .map (u.map (mpK av.K bA)), .own (al.c g)]⟩) (Q := fun x st' => match (generalizing := false) iV with | (H, I) => x = .exit 2 /\ Wk 5 st' ⟨mkS 82 0 [(1, .fn 90 [] [.hp 0 0, .hp 3 0, .hp 4 0]), (2, .hp 7 0), (4, ae g.Width), (14, ae (Fc (g.Height - 1))), (15, ae h)], [.own [.fn 88 [] [.hp 1 0, .hp 2 0]], .own [ae c, ae D, ae o, ae i, ae f, bf e], .own [ae d], .own [.mp 5], .own [.mp 6], .map (H.map (mpK av.K (gA aj.c))), .map (I.map (mpK av.K bA)), .own (al.c g)]⟩) V ((Wk.gc [1, 2, 4, 5, 14, 15, 19, 20] [(0, true), (1, true), (2, true), (3, true), (4, true), (5, false), (6, false), (7, true)] rfl (pKt (pKt (pKt (pKt (pKt (pKM av.K (gA aj.c) (fun _ => rfl) E (pKM av.K bA (fun _ => rfl) F trivial)))))))).to) ?_ ?_
   ·clear hr
    rintro m ⟨t, u, l⟩ hr
    show CQ _ _ _ _ _ ⟨_, _⟩
    refine .seq (.r4 G [1, 2, 4, 5, 14, 15, 19, 20] [(21, aB (decide (l < (Fc (g.Width - 1)))))] (.seq ?_))
    refine .cd hr ?_ ?_ <;> intro lP hr
    ·refine .skip (.seq (.block (.seq (.r4 G [1, 2, 4, 5, 14, 15, 19, 20] [(6, ae l)] (.seq (.r4 G [1, 2, 4, 5, 14, 15, 19, 20] [(7, ae (Fc ((Fc (h * g.Width)) + l)))] ?_))))))
     obtain ⟨A, kb, hr⟩ := bd hr
     refine .wk ((Wk.refl _).to (c := ⟨mkS 82 0 [(1, .fn 90 [] [.hp 0 0, .hp 3 0, .hp 4 0]), (2, .hp 7 0), (4, ae g.Width), (5, ae h), (7, ae A), (14, ae (Fc (g.Height - 1))), (15, ae h), (19, ae (Fc (g.Width - 1))), (20, ae l)], [.own [.fn 88 [] [.hp 1 0, .hp 2 0]], .own [ae c, ae D, ae o, ae i, ae f, bf e], .own [ae d], .own [.mp 5], .own [.mp 6], .map (t.map (mpK av.K (gA aj.c))), .map (u.map (mpK av.K bA)), .own (al.c g)]⟩) (by rw [oi kb]; first | done | kernel_rfl)) <| .seq <| .r5 G [1, 2, 4, 5, 14, 15, 19, 20] [(45, .hs 8 0 2 3), (46, ae 2), (47, ae 0)] [.own [.fn 88 [] [.hp 1 0, .hp 2 0]], .own [ae c, ae D, ae o, ae i, ae f, bf e], .own [ae d], .own [.mp 5], .own [.mp 6], .map (t.map (mpK av.K (gA aj.c))), .map (u.map (mpK av.K bA)), .own (al.c g), .own [ae A, ae (Fc (A + 1)), ae (Fc ((Fc (A + g.Width)) + 1)), ae A, ae (Fc ((Fc (A + g.Width)) + 1)), ae (Fc (A + g.Width))]] <| .block ?_
     obtain ⟨b, jW, hr⟩ := bd hr
     refine .wk ((Wk.refl _).to (c := ⟨mkS 82 0 [(1, .fn 90 [] [.hp 0 0, .hp 3 0, .hp 4 0]), (2, .hp 7 0), (4, ae g.Width), (5, ae h), (14, ae (Fc (g.Height - 1))), (15, ae h), (19, ae (Fc (g.Width - 1))), (20, ae l), (45, .hs 8 0 b.length 3), (46, ae 2), (47, ae 0)], [.own [.fn 88 [] [.hp 1 0, .hp 2 0]], .own [ae c, ae D, ae o, ae i, ae f, bf e], .own [ae d], .own [.mp 5], .own [.mp 6], .map (t.map (mpK av.K (gA aj.c))), .map (u.map (mpK av.K bA)), .own (al.c g), .own (b.flatMap an.c)]⟩) (by rw [<- oi jW]; kernel_rfl)) ?_
     replace hr := bd hr; obtain ⟨jS, W, hr⟩ := hr
     refine .aH (σ := fun z0 => match z0 with | (j, k, a) => ⟨mkS 82 0 [(1, .fn 90 [] [.hp 0 0, .hp 3 0, .hp 4 0]), (2, .hp 7 0), (4, ae g.Width), (5, ae h), (14, ae (Fc (g.Height - 1))), (15, ae h), (19, ae (Fc (g.Width - 1))), (20, ae l), (45, .hs 8 0 b.length 3), (46, ae 2), (47, ae a)], [.own [.fn 88 [] [.hp 1 0, .hp 2 0]], .own [ae c, ae D, ae o, ae i, ae f, bf e], .own [ae d], .own [.mp 5], .own [.mp 6], .map (j.map (mpK av.K (gA aj.c))), .map (k.map (mpK av.K bA)), .own (al.c g), .own (b.flatMap an.c)]⟩) (Q := fun x st' => match (generalizing := false) jS with | (J, L) => x = .exit 4 /\ Wk 5 st' ⟨mkS 82 0 [(1, .fn 90 [] [.hp 0 0, .hp 3 0, .hp 4 0]), (2, .hp 7 0), (4, ae g.Width), (5, ae h), (14, ae (Fc (g.Height - 1))), (15, ae h), (19, ae (Fc (g.Width - 1))), (20, ae l)], [.own [.fn 88 [] [.hp 1 0, .hp 2 0]], .own [ae c, ae D, ae o, ae i, ae f, bf e], .own [ae d], .own [.mp 5], .own [.mp 6], .map (J.map (mpK av.K (gA aj.c))), .map (L.map (mpK av.K bA)), .own (al.c g)]⟩) W ((Wk.gc [1, 2, 4, 5, 14, 15, 19, 20, 45, 46, 47] [(0, true), (1, true), (2, true), (3, true), (4, true), (5, false), (6, false), (7, true), (8, false)] rfl (pKt (pKt (pKt (pKt (pKt (pKM av.K (gA aj.c) (fun _ => rfl) t (pKM av.K bA (fun _ => rfl) u (pKt (pKo an.c an.pure b trivial)))))))))).to) ?_ ?_
     ·clear hr
      rintro m ⟨j, k, a⟩ hr
      show CQ _ _ _ _ _ ⟨_, _⟩
      refine .seq (.r4 G [1, 2, 4, 5, 14, 15, 19, 20, 45, 46, 47] [(48, aB (decide (a < 2)))] (.seq ?_))
      refine .cd hr ?_ ?_ <;> intro lE hr
      ·refine .skip (.seq (.block (.seq ?_)))
       obtain ⟨X, hr⟩ := gd hr
       refine .r0 G (.p0 (v := .hp 8 (0 + a.toNat * 3)) (tr (ar X)) (.p0 (v := .agg (an.c (gt b a))) (tr (y := bu.ofP (dR (decide (3 <= ((b.flatMap an.c).drop (0 + a.toNat * 3)).length)) (.agg (((b.flatMap an.c).drop (0 + a.toNat * 3)).take 3)))) (bO an.len (aA X) (by decide) (by omega : 0 + a.toNat * 3 = a.toNat * 3 + 0) (by kernel_rfl))) (.mu 2 (.done (.nh [1, 2, 4, 5, 9, 14, 15, 19, 20, 45, 46, 47] [.own [.fn 88 [] [.hp 1 0, .hp 2 0]], .own [ae c, ae D, ae o, ae i, ae f, bf e], .own [ae d], .own [.mp 5], .own [.mp 6], .map (j.map (mpK av.K (gA aj.c))), .map (k.map (mpK av.K bA)), .own (al.c g), .own (b.flatMap an.c), .own (an.c (gt b a))] (.seq ?_))))))
       obtain ⟨w, hr⟩ := gd hr
       rcases bT (((gt g.Z (gt b a).e0) : Int) != (-2147483648)) with z | z
       ·replace hr := cy z hr
        obtain ⟨M, hr⟩ := gd hr
        rcases bT (((gt g.Z (gt b a).e1) : Int) != (-2147483648)) with B | B
        ·replace hr := cy B hr
         obtain ⟨Y, hr⟩ := gd hr
         refine .r0 G (.mu 4 (.p0 (v := .pp (g.Z.flatMap (iC .i64)) ((gt b a).e0.toNat * 1)) (tr (ar w)) (.p0 (v := ae (gt g.Z (gt b a).e0)) (tr (aD (aE (aF .i64) (aA w) z1 (by omega : (gt b a).e0.toNat * 1 = (gt b a).e0.toNat * 1 + 0) (by kernel_rfl)))) (.p0 (v := aB true) (eB z) (.mu 5 (.pure (v := .pp (g.Z.flatMap (iC .i64)) ((gt b a).e1.toNat * 1)) (by kernel_rfl) (tr (ar M)) (.pure (v := ae (gt g.Z (gt b a).e1)) (by kernel_rfl) (tr (aD (aE (aF .i64) (aA M) z1 (by omega : (gt b a).e1.toNat * 1 = (gt b a).e1.toNat * 1 + 0) (by kernel_rfl)))) (.pure (v := aB true) (by kernel_rfl) (eB B) (.mu 6 (.pure (v := .pp (g.Z.flatMap (iC .i64)) ((gt b a).e2.toNat * 1)) (by kernel_rfl) (tr (ar Y)) (.pure (v := ae (gt g.Z (gt b a).e2)) (by kernel_rfl) (tr (aD (aE (aF .i64) (aA Y) z1 (by omega : (gt b a).e2.toNat * 1 = (gt b a).e2.toNat * 1 + 0) (by kernel_rfl)))) (.mu 2 (.done (.nh [1, 2, 4, 5, 9, 14, 15, 19, 20, 45, 46, 47, 75] [.own [.fn 88 [] [.hp 1 0, .hp 2 0]], .own [ae c, ae D, ae o, ae i, ae f, bf e], .own [ae d], .own [.mp 5], .own [.mp 6], .map (j.map (mpK av.K (gA aj.c))), .map (k.map (mpK av.K bA)), .own (al.c g), .own (b.flatMap an.c), .own (an.c (gt b a))] ?_))))))))))))))
         refine .cd hr ?_ ?_ <;> intro mM hr
         ·obtain ⟨C, ki, hr⟩ := bd hr
          refine .g1 G (kR 0 (.own [.fn 88 [] [.hp 1 0, .hp 2 0]]) [] [(1, .own [ae c, ae D, ae o, ae i, ae f, bf e]), (2, .own [ae d]), (3, .own [.mp 10]), (4, .own [.mp 11]), (10, .map (C.1.map (mpK av.K (gA aj.c)))), (11, .map (C.2.map (mpK av.K bA))), (5, .dead), (6, .dead)] (bZ (args := [.agg (an.c (gt b a)), .hp 0 0, .hp 3 0, .hp 4 0]) 5 2 [(0, true), (1, true), (2, true), (3, true), (4, true), (5, false), (6, false)] [true, true, true, true, true, false, false] (qU n (gt b a) c D o i f e d j k C ki) (by exact ⟨gO (fun _ => rfl) _, ⟨gO (fun _ => rfl) _, trivial⟩⟩) (by exact ⟨gO (fun _ => rfl) _, ⟨gO (fun _ => rfl) _, trivial⟩⟩) rfl rfl (by kernel_rfl) (by kernel_rfl))) (.mu 2 (.ca cf0 (.done (.pop (.ru G ?_)))))
          exact az (C.1, C.2, Fc (a + 1)) hr ((Wk.gc [1, 2, 4, 5, 14, 15, 19, 20, 45, 46, 47] [(0, true), (1, true), (2, true), (3, true), (4, true), (10, false), (11, false), (7, true), (8, false)] rfl (pKt (pKt (pKt (pKt (pKt (pKM av.K (gA aj.c) (fun _ => rfl) C.1 (pKM av.K bA (fun _ => rfl) C.2 (pKt (pKo an.c an.pure b trivial)))))))))).to)
         refine .skip (.pop (.ru G ?_))
         exact az (j, k, Fc (a + 1)) hr ((Wk.gc [1, 2, 4, 5, 14, 15, 19, 20, 45, 46, 47] [(0, true), (1, true), (2, true), (3, true), (4, true), (5, false), (6, false), (7, true), (8, false)] rfl (pKt (pKt (pKt (pKt (pKt (pKM av.K (gA aj.c) (fun _ => rfl) j (pKM av.K bA (fun _ => rfl) k (pKt (pKo an.c an.pure b trivial)))))))))).to)
        replace hr := cz B hr
        refine .r0 G (.mu 4 (.p0 (v := .pp (g.Z.flatMap (iC .i64)) ((gt b a).e0.toNat * 1)) (tr (ar w)) (.p0 (v := ae (gt g.Z (gt b a).e0)) (tr (aD (aE (aF .i64) (aA w) z1 (by omega : (gt b a).e0.toNat * 1 = (gt b a).e0.toNat * 1 + 0) (by kernel_rfl)))) (.p0 (v := aB true) (eB z) (.mu 5 (.pure (v := .pp (g.Z.flatMap (iC .i64)) ((gt b a).e1.toNat * 1)) (by kernel_rfl) (tr (ar M)) (.pure (v := ae (gt g.Z (gt b a).e1)) (by kernel_rfl) (tr (aD (aE (aF .i64) (aA M) z1 (by omega : (gt b a).e1.toNat * 1 = (gt b a).e1.toNat * 1 + 0) (by kernel_rfl)))) (.pure (v := aB false) (by kernel_rfl) (eB B) (.mu 10 (.done (.nh [1, 2, 4, 5, 9, 14, 15, 19, 20, 45, 46, 47, 75] [.own [.fn 88 [] [.hp 1 0, .hp 2 0]], .own [ae c, ae D, ae o, ae i, ae f, bf e], .own [ae d], .own [.mp 5], .own [.mp 6], .map (j.map (mpK av.K (gA aj.c))), .map (k.map (mpK av.K bA)), .own (al.c g), .own (b.flatMap an.c), .own (an.c (gt b a))] (.cF (by kernel_rfl) (.skip (.pop (.ru G ?_)))))))))))))))
        exact az (j, k, Fc (a + 1)) hr ((Wk.gc [1, 2, 4, 5, 14, 15, 19, 20, 45, 46, 47] [(0, true), (1, true), (2, true), (3, true), (4, true), (5, false), (6, false), (7, true), (8, false)] rfl (pKt (pKt (pKt (pKt (pKt (pKM av.K (gA aj.c) (fun _ => rfl) j (pKM av.K bA (fun _ => rfl) k (pKt (pKo an.c an.pure b trivial)))))))))).to)
       replace hr := cz z hr
       refine .r0 G (.mu 4 (.p0 (v := .pp (g.Z.flatMap (iC .i64)) ((gt b a).e0.toNat * 1)) (tr (ar w)) (.p0 (v := ae (gt g.Z (gt b a).e0)) (tr (aD (aE (aF .i64) (aA w) z1 (by omega : (gt b a).e0.toNat * 1 = (gt b a).e0.toNat * 1 + 0) (by kernel_rfl)))) (.p0 (v := aB false) (eB z) (.mu 18 (.done (.nh [1, 2, 4, 5, 9, 14, 15, 19, 20, 45, 46, 47, 75] [.own [.fn 88 [] [.hp 1 0, .hp 2 0]], .own [ae c, ae D, ae o, ae i, ae f, bf e], .own [ae d], .own [.mp 5], .own [.mp 6], .map (j.map (mpK av.K (gA aj.c))), .map (k.map (mpK av.K bA)), .own (al.c g), .own (b.flatMap an.c), .own (an.c (gt b a))] (.cF (by kernel_rfl) (.skip (.pop (.ru G ?_)))))))))))
       exact az (j, k, Fc (a + 1)) hr ((Wk.gc [1, 2, 4, 5, 14, 15, 19, 20, 45, 46, 47] [(0, true), (1, true), (2, true), (3, true), (4, true), (5, false), (6, false), (7, true), (8, false)] rfl (pKt (pKt (pKt (pKt (pKt (pKM av.K (gA aj.c) (fun _ => rfl) j (pKM av.K bA (fun _ => rfl) k (pKt (pKo an.c an.pure b trivial)))))))))).to)
      refine .leave rfl ?_
      obtain rfl := oi hr
      exact ⟨rfl, ((Wk.gc [1, 2, 4, 5, 14, 15, 19, 20] [(0, true), (1, true), (2, true), (3, true), (4, true), (5, false), (6, false), (7, true)] rfl (pKt (pKt (pKt (pKt (pKt (pKM av.K (gA aj.c) (fun _ => rfl) j (pKM av.K bA (fun _ => rfl) k trivial)))))))).to)⟩
     rcases jS with ⟨J, L⟩
     rintro x st' R
     clear W
     obtain ⟨rfl, R⟩ := R
     refine aQ _ rfl (.pop (.wk R (.ru G ?_)))
     exact az (J, L, Fc (l + 1)) hr ((Wk.gc [1, 2, 4, 5, 14, 15, 19, 20] [(0, true), (1, true), (2, true), (3, true), (4, true), (5, false), (6, false), (7, true)] rfl (pKt (pKt (pKt (pKt (pKt (pKM av.K (gA aj.c) (fun _ => rfl) J (pKM av.K bA (fun _ => rfl) L trivial)))))))).to)
    refine .leave rfl ?_
    obtain rfl := oi hr
    exact ⟨rfl, ((Wk.gc [1, 2, 4, 14, 15] [(0, true), (1, true), (2, true), (3, true), (4, true), (5, false), (6, false), (7, true)] rfl (pKt (pKt (pKt (pKt (pKt (pKM av.K (gA aj.c) (fun _ => rfl) t (pKM av.K bA (fun _ => rfl) u trivial)))))))).to)⟩
   rcases iV with ⟨H, I⟩
   rintro x st' S
   clear V
   obtain ⟨rfl, S⟩ := S
   refine aQ _ rfl (.pop (.wk S (.ru G ?_)))
   exact az (H, I, Fc (h + 1)) hr ((Wk.gc [1, 2, 4, 14, 15] [(0, true), (1, true), (2, true), (3, true), (4, true), (5, false), (6, false), (7, true)] rfl (pKt (pKt (pKt (pKt (pKt (pKM av.K (gA aj.c) (fun _ => rfl) H (pKM av.K bA (fun _ => rfl) I trivial)))))))).to)
  refine .leave rfl ?_
  obtain rfl := oi hr
  exact ⟨rfl, ((Wk.gc [] [(0, true), (1, true), (2, true), (3, true), (4, true), (5, false), (6, false)] rfl (pKt (pKt (pKt (pKt (pKt (pKM av.K (gA aj.c) (fun _ => rfl) E (pKM av.K bA (fun _ => rfl) F trivial)))))))).to)⟩
 rcases gU with ⟨N, O⟩
 rintro x st' T
 clear U
 obtain ⟨rfl, T⟩ := T
 refine aQ _ rfl ?_
 obtain rfl := oi hr
 exact dk.wk T (dk.normal [] ((Wk.gc [] [(0, true), (1, true), (2, true), (3, true), (4, true), (5, false), (6, false)] rfl (pKt (pKt (pKt (pKt (pKt (pKM av.K (gA aj.c) (fun _ => rfl) N (pKM av.K bA (fun _ => rfl) O trivial)))))))).to))

theorem sB (n : Nat) (a : Int) (r : Int) (hr : mR n a = some r) : aL Tryz.prog 141 [cO a] (ae r) := by
 unfold mR at hr
 refine aL.bd G Tryz.func141 [.tmp 2] ?_
 unfold Tryz.f141
 simp only [gS]
 refine .seq (.r4 G [0] [(2, ae 0)] (.seq (.seq (.r4 G [0, 2] [(4, aB (decide (a >= 4294967296)))] ?_))))
 refine .cd hr ?_ ?_ <;> intro u hr
 ·refine .seq (.r3 G 25 [(0, cO (a.fdiv (2 ^ 32)))] (.r4 G [0] [(2, ae 32)] (.seq (.seq (.r4 G [0, 2] [(8, aB (decide ((a.fdiv (2 ^ 32)) >= 65536)))] ?_)))))
  refine .cd hr ?_ ?_ <;> intro w hr
  ·refine .seq (.r4 G [2] [(0, cO ((a.fdiv (2 ^ 32)).fdiv (2 ^ 16)))] (.r4 G [0] [(2, ae 48)] (.seq (.seq (.r4 G [0, 2] [(14, aB (decide (((a.fdiv (2 ^ 32)).fdiv (2 ^ 16)) >= 256)))] ?_)))))
   refine .cd hr ?_ ?_ <;> intro x hr
   ·refine .seq (.r4 G [2] [(0, cO (((a.fdiv (2 ^ 32)).fdiv (2 ^ 16)).fdiv (2 ^ 8)))] ?_)
    obtain ⟨h, j, hr⟩ := bd hr
    refine .wk ((Wk.refl _).to (c := ⟨mkS 25 0 [(0, cO h), (2, ae 48)], []⟩) (by rw [oi j]; first | done | kernel_rfl)) <| .r4 G [0] [(2, ae 56)] <| .seq ?_
    obtain ⟨l, hr⟩ := gd hr
    refine .r0 G (.mu 3 (.p0 (v := aU8 (iO gu (aa .u8 h))) (ou (s := gu) (k := .u8) (i := (aa .u8 h)) (by kernel_rfl) (by kernel_rfl) (by kernel_rfl) l) (.mu 3 (.done (.ret ?_)))))
    obtain rfl := oi hr
    exact aG.r1 [ae (Fc (56 + (Fc (iO gu (aa .u8 h)))))]
   refine .skip (.seq ?_)
   obtain ⟨m, hr⟩ := gd hr
   refine .r0 G (.mu 3 (.p0 (v := aU8 (iO gu (aa .u8 ((a.fdiv (2 ^ 32)).fdiv (2 ^ 16))))) (ou (s := gu) (k := .u8) (i := (aa .u8 ((a.fdiv (2 ^ 32)).fdiv (2 ^ 16)))) (by kernel_rfl) (by kernel_rfl) (by kernel_rfl) m) (.mu 3 (.done (.ret ?_)))))
   obtain rfl := oi hr
   exact aG.r1 [ae (Fc (48 + (Fc (iO gu (aa .u8 ((a.fdiv (2 ^ 32)).fdiv (2 ^ 16)))))))]
  refine .skip (.seq (.seq (.r4 G [0, 2] [(14, aB (decide ((a.fdiv (2 ^ 32)) >= 256)))] ?_)))
  refine .cd hr ?_ ?_ <;> intro y hr
  ·refine .seq (.r4 G [2] [(0, cO ((a.fdiv (2 ^ 32)).fdiv (2 ^ 8)))] (.r4 G [0] [(2, ae 40)] (.seq ?_)))
   obtain ⟨o, hr⟩ := gd hr
   refine .r0 G (.mu 3 (.p0 (v := aU8 (iO gu (aa .u8 ((a.fdiv (2 ^ 32)).fdiv (2 ^ 8))))) (ou (s := gu) (k := .u8) (i := (aa .u8 ((a.fdiv (2 ^ 32)).fdiv (2 ^ 8)))) (by kernel_rfl) (by kernel_rfl) (by kernel_rfl) o) (.mu 3 (.done (.ret ?_)))))
   obtain rfl := oi hr
   exact aG.r1 [ae (Fc (40 + (Fc (iO gu (aa .u8 ((a.fdiv (2 ^ 32)).fdiv (2 ^ 8)))))))]
  refine .skip (.seq ?_)
  obtain ⟨b, hr⟩ := gd hr
  refine .r0 G (.mu 3 (.p0 (v := aU8 (iO gu (aa .u8 (a.fdiv (2 ^ 32))))) (ou (s := gu) (k := .u8) (i := (aa .u8 (a.fdiv (2 ^ 32)))) (by kernel_rfl) (by kernel_rfl) (by kernel_rfl) b) (.mu 3 (.done (.ret ?_)))))
  obtain rfl := oi hr
  exact aG.r1 [ae (Fc (32 + (Fc (iO gu (aa .u8 (a.fdiv (2 ^ 32)))))))]
 refine .skip (.seq (.seq (.r4 G [0, 2] [(8, aB (decide (a >= 65536)))] ?_)))
 refine .cd hr ?_ ?_ <;> intro p hr
 ·refine .seq (.r4 G [2] [(0, cO (a.fdiv (2 ^ 16)))] (.r4 G [0] [(2, ae 16)] (.seq (.seq (.r4 G [0, 2] [(14, aB (decide ((a.fdiv (2 ^ 16)) >= 256)))] ?_)))))
  refine .cd hr ?_ ?_ <;> intro q hr
  ·refine .seq (.r4 G [2] [(0, cO ((a.fdiv (2 ^ 16)).fdiv (2 ^ 8)))] (.r4 G [0] [(2, ae 24)] (.seq ?_)))
   obtain ⟨d, hr⟩ := gd hr
   refine .r0 G (.mu 3 (.p0 (v := aU8 (iO gu (aa .u8 ((a.fdiv (2 ^ 16)).fdiv (2 ^ 8))))) (ou (s := gu) (k := .u8) (i := (aa .u8 ((a.fdiv (2 ^ 16)).fdiv (2 ^ 8)))) (by kernel_rfl) (by kernel_rfl) (by kernel_rfl) d) (.mu 3 (.done (.ret ?_)))))
   obtain rfl := oi hr
   exact aG.r1 [ae (Fc (24 + (Fc (iO gu (aa .u8 ((a.fdiv (2 ^ 16)).fdiv (2 ^ 8)))))))]
  refine .skip (.seq ?_)
  obtain ⟨e, hr⟩ := gd hr
  refine .r0 G (.mu 3 (.p0 (v := aU8 (iO gu (aa .u8 (a.fdiv (2 ^ 16))))) (ou (s := gu) (k := .u8) (i := (aa .u8 (a.fdiv (2 ^ 16)))) (by kernel_rfl) (by kernel_rfl) (by kernel_rfl) e) (.mu 3 (.done (.ret ?_)))))
  obtain rfl := oi hr
  exact aG.r1 [ae (Fc (16 + (Fc (iO gu (aa .u8 (a.fdiv (2 ^ 16)))))))]
 refine .skip (.seq (.seq (.r4 G [0, 2] [(14, aB (decide (a >= 256)))] ?_)))
 refine .cd hr ?_ ?_ <;> intro t hr
 ·refine .seq (.r4 G [2] [(0, cO (a.fdiv (2 ^ 8)))] (.r4 G [0] [(2, ae 8)] (.seq ?_)))
  obtain ⟨f, hr⟩ := gd hr
  refine .r0 G (.mu 3 (.p0 (v := aU8 (iO gu (aa .u8 (a.fdiv (2 ^ 8))))) (ou (s := gu) (k := .u8) (i := (aa .u8 (a.fdiv (2 ^ 8)))) (by kernel_rfl) (by kernel_rfl) (by kernel_rfl) f) (.mu 3 (.done (.ret ?_)))))
  obtain rfl := oi hr
  exact aG.r1 [ae (Fc (8 + (Fc (iO gu (aa .u8 (a.fdiv (2 ^ 8)))))))]
 refine .skip (.seq ?_)
 obtain ⟨g, hr⟩ := gd hr
 refine .r0 G (.mu 3 (.p0 (v := aU8 (iO gu (aa .u8 a))) (ou (s := gu) (k := .u8) (i := (aa .u8 a)) (by kernel_rfl) (by kernel_rfl) (by kernel_rfl) g) (.mu 3 (.done (.ret ?_)))))
 obtain rfl := oi hr
 exact aG.r1 [ae (Fc (0 + (Fc (iO gu (aa .u8 a)))))]

theorem ma (n : Nat) (a : Int) (r : Int) (hr : kA n a = some r) : aL Tryz.prog 98 [cO a] (ae r) := by
 unfold kA at hr
 refine aL.bd G Tryz.func98 [.tmp 2] ?_
 unfold Tryz.f98
 simp only [gS]
 refine .seq (.r4 G [0] [] (.seq (.cF (by kernel_rfl) (.skip (.seq ?_)))))
 obtain ⟨c, b, hr⟩ := bd hr
 refine .g1 G (ok0 (sB n a c b)) (.mu 1 (.ca cf0 (.mu 1 (.done (.ret ?_)))))
 obtain rfl := oi hr
 exact aG.r1 [ae c]

theorem jf (n : Nat) (a : A2 Int) (b : A2 Int) (r : Int) (hr : gX n a b = some r) : aL Tryz.prog 54 [.agg (aj.c a), .agg (aj.c b)] (ae r) := by
 unfold gX at hr
 refine aL.bd G Tryz.func54 [.tmp 4] ?_
 unfold Tryz.f54
 simp only [gS]
 refine .seq (.r2 G 20 [(2, .hp 0 0), (3, .hp 1 0)] [.own (aj.c a), .own (aj.c b)] (.seq (.seq (.r4 G [2, 3] [(9, aB ((a.e0 : Int) != b.e0))] ?_))))
 refine .cd hr ?_ ?_ <;> intro d hr
 ·refine .seq (.ru G (.ret ?_))
  obtain rfl := oi hr
  exact aG.r1 [ae (Fc (a.e0 - b.e0))]
 refine .skip (.seq (.ru G (.ret ?_)))
 obtain rfl := oi hr
 exact aG.r1 [ae (Fc (a.e1 - b.e1))]

theorem dJ (n : Nat) (data : List (A2 Int)) (a : Int) (b : Int) (r : List (A2 Int)) (hr : bm n data a b = some r) : dm 1 Tryz.prog 164 [.hs 0 0 data.length 2, ae a, ae b, .fn 54 [] []] [.own (data.flatMap aj.c)] (.tup []) [.own (r.flatMap aj.c)] := by
 unfold bm at hr
 refine dm.kF G Tryz.func164 (c := (Tryz.f164.body).getD .skip) rfl (us := []) (s := mkS 53 0 [(0, .hs 0 0 data.length 2), (1, ae a), (2, ae b), (3, .fn 54 [] [])]) (by kernel_rfl) (rs := []) rfl ?_
 unfold Tryz.f164
 simp only [gS]
 refine .seq (.r4 G [0, 1, 2, 3] [(8, ae (Fc (a + 1)))] (.block ?_))
 replace hr := bd hr; obtain ⟨p, q, hr⟩ := hr
 refine .aH (σ := fun w => match w with | (i, f) => ⟨mkS 53 0 [(0, .hs 0 0 i.length 2), (1, ae a), (2, ae b), (3, .fn 54 [] []), (8, ae f)], [.own (i.flatMap aj.c)]⟩) (Q := fun x st' => x = .exit 0 /\ Wk 1 st' ⟨mkS 53 0 [], [.own (p.flatMap aj.c)]⟩) q ((Wk.gc [0, 1, 2, 3, 8] [(0, false)] rfl (pKo aj.c aj.pure data trivial)).to) ?_ ?_
 ·clear hr
  rintro m ⟨i, f⟩ hr
  show CQ _ _ _ _ _ ⟨_, _⟩
  refine .seq (.seq (.r4 G [0, 1, 2, 3, 8] [(14, aB (decide (f < b)))] ?_))
  refine .cd hr ?_ ?_ <;> intro A hr
  ·refine .skip (.seq (.block (.seq (.r4 G [0, 1, 2, 3, 8] [(9, ae f)] (.block ?_)))))
   replace hr := bd hr; obtain ⟨k, t, hr⟩ := hr
   refine .aH (σ := fun w => match w with | (e, d) => ⟨mkS 53 0 [(0, .hs 0 0 e.length 2), (1, ae a), (2, ae b), (3, .fn 54 [] []), (8, ae f), (9, ae d)], [.own (e.flatMap aj.c)]⟩) (Q := fun x st' => x = .exit 2 /\ Wk 1 st' ⟨mkS 53 0 [(0, .hs 0 0 k.length 2), (1, ae a), (2, ae b), (3, .fn 54 [] []), (8, ae f)], [.own (k.flatMap aj.c)]⟩) t ((Wk.gc [0, 1, 2, 3, 8, 9] [(0, false)] rfl (pKo aj.c aj.pure i trivial)).to) ?_ ?_
   ·clear hr
    rintro m ⟨e, d⟩ hr
    show CQ _ _ _ _ _ ⟨_, _⟩
    refine .seq (.seq ?_)
    rcases bT (decide (d > a)) with j | j
    ·replace hr := cy j hr
     obtain ⟨g, h, hr⟩ := gd2 hr
     obtain ⟨z, u, hr⟩ := bd hr
     refine .t1 G (ok0 (jf n (gt e d) (gt e (Fc (d - 1))) z u)) (.mu 2 (.pk (v := aB true) (eB j) (.mu 4 (.pk (v := .hp 0 (0 + d.toNat * 2)) (tr (ar g)) (.pk (v := .agg (aj.c (gt e d))) (tr (y := bu.ofP (dR (decide (2 <= ((e.flatMap aj.c).drop (0 + d.toNat * 2)).length)) (.agg (((e.flatMap aj.c).drop (0 + d.toNat * 2)).take 2)))) (bO aj.len (aA g) (by decide) (by omega : 0 + d.toNat * 2 = d.toNat * 2 + 0) (by kernel_rfl))) (.mu 3 (.pk (v := .hp 0 (0 + (Fc (d - 1)).toNat * 2)) (tr (ar h)) (.pk (v := .agg (aj.c (gt e (Fc (d - 1))))) (tr (y := bu.ofP (dR (decide (2 <= ((e.flatMap aj.c).drop (0 + (Fc (d - 1)).toNat * 2)).length)) (.agg (((e.flatMap aj.c).drop (0 + (Fc (d - 1)).toNat * 2)).take 2)))) (bO aj.len (aA h) (by decide) (by omega : 0 + (Fc (d - 1)).toNat * 2 = (Fc (d - 1)).toNat * 2 + 0) (by kernel_rfl))) (.ca cf0 (.mu 2 ?_))))))))))
     refine .done ⟨by kernel_rfl, ?_⟩
     refine .nh [0, 1, 2, 3, 8, 9, 34] [.own (e.flatMap aj.c)] ?_
     refine .cd hr ?_ ?_ <;> intro B hr
     ·refine .skip (.seq (.block (.eu G bJ (.mu 8 (.pk (v := .hp 0 (0 + (Fc (d - 1)).toNat * 2)) (tr (ar h)) (.pk (v := .agg (aj.c (gt e (Fc (d - 1))))) (tr (y := bu.ofP (dR (decide (2 <= ((e.flatMap aj.c).drop (0 + (Fc (d - 1)).toNat * 2)).length)) (.agg (((e.flatMap aj.c).drop (0 + (Fc (d - 1)).toNat * 2)).take 2)))) (bO aj.len (aA h) (by decide) (by omega : 0 + (Fc (d - 1)).toNat * 2 = (Fc (d - 1)).toNat * 2 + 0) (by kernel_rfl))) (.mu 2 (.pk (v := .hp 0 (0 + d.toNat * 2)) (tr (ar g)) (.pk (v := .agg (aj.c (gt e d))) (tr (y := bu.ofP (dR (decide (2 <= ((e.flatMap aj.c).drop (0 + d.toNat * 2)).length)) (.agg (((e.flatMap aj.c).drop (0 + d.toNat * 2)).take 2)))) (bO aj.len (aA g) (by decide) (by omega : 0 + d.toNat * 2 = d.toNat * 2 + 0) (by kernel_rfl))) (.pk (v := .hp 0 (0 + d.toNat * 2)) (tr (ar g)) (.ek (v := .unk) (ws := [(0, .own ((e.set d.toNat (gt e (Fc (d - 1)))).flatMap aj.c))]) (tr (iF (iH (ct (n := 2) aj.len (aA g) (lbT rfl) (by omega : 0 + d.toNat * 2 = d.toNat * 2 + 0))) (congrArg Blk.own (cS (xs := (aj.c (gt e (Fc (d - 1))))) aj.len (aA g) (lbT rfl) (by omega : 0 + d.toNat * 2 = d.toNat * 2 + 0) (by kernel_rfl))))) (.pk (v := .hp 0 (0 + (Fc (d - 1)).toNat * 2)) (tr (ar h)) (.ek (v := .unk) (ws := [(0, .own (((e.set d.toNat (gt e (Fc (d - 1)))).set (Fc (d - 1)).toNat (gt e d)).flatMap aj.c))]) (tr (y := stO (decide ((0 + (Fc (d - 1)).toNat * 2) + 2 <= ((e.set d.toNat (gt e (Fc (d - 1)))).flatMap aj.c).length) && true) [(0, .own (setCells ((e.set d.toNat (gt e (Fc (d - 1)))).flatMap aj.c) (0 + (Fc (d - 1)).toNat * 2) (aj.c (gt e d))))]) (iF (iH (ct aj.len (aA (rr h)) (lbT rfl) (by omega : 0 + (Fc (d - 1)).toNat * 2 = (Fc (d - 1)).toNat * 2 + 0))) (congrArg Blk.own (cS aj.len (aA (rr h)) (lbT rfl) (by omega : 0 + (Fc (d - 1)).toNat * 2 = (Fc (d - 1)).toNat * 2 + 0) (by kernel_rfl))))) ?_)))))))))))))
      refine .done ⟨by kernel_rfl, ?_⟩
      refine .pop (.ru G ?_)
      exact az ((e.set d.toNat (gt e (Fc (d - 1)))).set (Fc (d - 1)).toNat (gt e d), Fc (d - 1)) hr ((Wk.iQ 0 (b := 0) (es := 2) (len := e.length) ((e.set d.toNat (gt e (Fc (d - 1)))).set (Fc (d - 1)).toNat (gt e d)).length (by kernel_rfl) (Eq.symm (List.length_set.trans (List.length_set.trans rfl)))).trans ((Wk.gc [0, 1, 2, 3, 8, 9] [(0, false)] rfl (pKo aj.c aj.pure ((e.set d.toNat (gt e (Fc (d - 1)))).set (Fc (d - 1)).toNat (gt e d)) trivial)).to))
     refine .leave rfl ?_
     obtain rfl := oi hr
     exact ⟨rfl, ((Wk.gc [0, 1, 2, 3, 8] [(0, false)] rfl (pKo aj.c aj.pure e trivial)).to)⟩
    replace hr := cz j hr
    refine .eu G bJ (.mu 2 (.pk (v := aB false) (eB j) (.mu 14 ?_)))
    refine .done ⟨by kernel_rfl, ?_⟩
    refine .nh [0, 1, 2, 3, 8, 9, 34] [.own (e.flatMap aj.c)] (.cF (by kernel_rfl) (.leave rfl ?_))
    obtain rfl := oi hr
    exact ⟨rfl, ((Wk.gc [0, 1, 2, 3, 8] [(0, false)] rfl (pKo aj.c aj.pure e trivial)).to)⟩
   rintro x st' l
   clear t
   obtain ⟨rfl, l⟩ := l
   refine aQ _ rfl (.pop (.wk l (.ru G ?_)))
   exact az (k, Fc (f + 1)) hr ((Wk.gc [0, 1, 2, 3, 8] [(0, false)] rfl (pKo aj.c aj.pure k trivial)).to)
  refine .leave rfl ?_
  obtain rfl := oi hr
  exact ⟨rfl, ((Wk.gc [] [(0, false)] rfl (pKo aj.c aj.pure i trivial)).to)⟩
 rintro x st' o
 clear q
 obtain ⟨rfl, o⟩ := o
 refine aQ _ rfl ?_
 obtain rfl := oi hr
 exact dk.wk o (dk.normal [] ((Wk.gc [] [(0, false)] rfl (pKo aj.c aj.pure p trivial)).to))

theorem eC (n : Nat) (data : List (A2 Int)) (a : Int) (b : Int) (limit : Int) (r : List (A2 Int)) (hr : bE n data a b limit = some r) : dm 1 Tryz.prog 130 [.hs 0 0 data.length 2, ae a, ae b, ae limit, .fn 54 [] []] [.own (data.flatMap aj.c)] (.tup []) [.own (r.flatMap aj.c)] := by
 unfold bE at hr
 refine dm.kF G Tryz.func130 (c := (Tryz.f130.body).getD .skip) rfl (us := []) (s := mkS 148 0 [(0, .hs 0 0 data.length 2), (1, ae a), (2, ae b), (3, ae limit), (4, .fn 54 [] [])]) (by kernel_rfl) (rs := []) rfl ?_
 unfold Tryz.f130
 simp only [gS]
 refine .seq (.r4 G [0, 1, 2, 3, 4] [(10, aB true)] (.seq (.r4 G [0, 1, 2, 3, 4, 10] [(11, aB true)] (.block ?_))))
 replace hr := bd hr; obtain ⟨r0, g, hr⟩ := hr
 refine .aH (σ := fun p => match p with | (d, e, h, i, j) => ⟨mkS 148 0 [(0, .hs 0 0 data.length 2), (1, ae d), (2, ae e), (3, ae h), (4, .fn 54 [] []), (10, aB i), (11, aB j)], [.own (data.flatMap aj.c)]⟩) (Q := fun x st' => x = .ret /\ dk 1 Tryz.prog [] [] [.own (r0.flatMap aj.c)] .ret st') g ((Wk.gc [0, 1, 2, 3, 4, 10, 11] [(0, false)] rfl (pKo aj.c aj.pure data trivial)).to) ?_ ?_
 ·clear hr
  rintro m ⟨d, e, h, i, j⟩ hr
  show CQ _ _ _ _ _ ⟨_, _⟩
  refine .block (.seq (.r4 G [0, 1, 2, 3, 4, 10, 11] [(12, ae (Fc (e - d)))] (.seq (.seq (.r4 G [0, 1, 2, 3, 4, 10, 11, 12] [(25, aB (decide ((Fc (e - d)) <= 12)))] ?_)))))
  obtain ⟨l, hr⟩ := gd hr
  refine .cY l (.seq ?_)
  obtain ⟨k, o, hr⟩ := bd hr
  refine .g1 G (bZ (args := [.hs 0 0 data.length 2, ae d, ae e, .fn 54 [] []]) 1 0 [(0, false)] [false] (dJ n data d e k o) (by exact ⟨aW aj.pure _, trivial⟩) (by exact ⟨aW aj.pure _, trivial⟩) rfl rfl (by kernel_rfl) (by kernel_rfl)) (.mu 4 (.ca cf0 (.done (.nh [] [.own (k.flatMap aj.c)] (.ret ?_)))))
  obtain rfl := oi hr
  exact ⟨rfl, dk.ret [] ((Wk.gc [] [(0, false)] rfl (pKo aj.c aj.pure k trivial)).to)⟩
 rintro x st' f
 clear g
 obtain ⟨rfl, f⟩ := f
 obtain rfl := oi hr
 exact iT _ f

theorem c9 (n : Nat) (a : List (A2 Int)) (r : List (A2 Int)) (hr : aK n a = some r) : dm 1 Tryz.prog 92 [.hs 0 0 a.length 2, .fn 54 [] []] [.own (a.flatMap aj.c)] (.tup []) [.own (r.flatMap aj.c)] := by
 unfold aK at hr
 refine dm.kF G Tryz.func92 (c := (Tryz.f92.body).getD .skip) rfl (us := []) (s := mkS 14 0 [(0, .hs 0 0 a.length 2), (1, .fn 54 [] [])]) (by kernel_rfl) (rs := []) rfl ?_
 unfold Tryz.f92
 simp only [gS]
 refine .seq (.r4 G [0, 1] [(4, ae (a.length : Int))] ?_)
 obtain ⟨b, d, f, e, hr⟩ := bd2 hr
 refine .gn G (ca1 (ok0 (ma n (wFu (a.length : Int)) b d)) (ca3 (bZ (args := [.hs 0 0 a.length 2, ae 0, ae (a.length : Int), ae b, .fn 54 [] []]) 1 0 [(0, false)] [false] (eC n a 0 (a.length : Int) b f e) (by exact ⟨aW aj.pure _, trivial⟩) (by exact ⟨aW aj.pure _, trivial⟩) rfl rfl (by kernel_rfl) (by kernel_rfl)))) (.mu 4 (.ca cf0 (.mu 1 (.ca (cfF cf0) (.done ?_)))))
 obtain rfl := oi hr
 exact dk.normal [] ((Wk.gc [] [(0, false)] rfl (pKo aj.c aj.pure f trivial)).to)

theorem tD {b : Int} {a : Int} (h : ([.at (.int .u64 b)] : List AV) = [.at (.int .u64 a)]) : b = a := by
 simp only [List.cons.injEq, AV.agg.injEq, AV.at.injEq, Value.int.injEq, Value.bool.injEq, AV.fn.injEq, AV.pp.injEq, true_and, and_true] at h
 simp_all
theorem ud (n : Nat) {b : Int} {a : Int} (h : ([.at (.int .u64 b)] : List AV) = [.at (.int .u64 a)]) : cX n b = cX n a := by
 obtain rfl := tD h
 rfl
theorem fu (n : Nat) (i : Int) (r : List Int) (hr : cX n i = some r) : aL Tryz.prog 148 [cO i] (au r) := by
 unfold cX at hr
 refine aL.bd G Tryz.func148 [.tmp 2] ?_
 unfold Tryz.f148
 simp only [gS]
 refine .seq (.r4 G [0] [] (.seq (.r4 G [0] [(3, nS)] (.seq (.block ?_)))))
 replace hr := bd hr; obtain ⟨d, e, hr⟩ := hr
 refine .aH (σ := fun j => match j with | (a, b) => ⟨mkS 15 0 [(0, cO a), (3, .hs 0 0 b.length 1)], [.own (b.flatMap iCu)]⟩) (Q := fun x st' => x = .exit 0 /\ Wk 0 st' ⟨mkS 15 0 [(3, .hs 0 0 d.length 1)], [.own (d.flatMap iCu)]⟩) e ((Wk.nil 3 1 (by kernel_rfl)).trans ((Wk.gc [0, 3] [(0, false)] rfl (pKc trivial)).to)) ?_ ?_
 ·clear hr
  rintro m ⟨a, b⟩ hr
  show CQ _ _ _ _ _ ⟨_, _⟩
  refine .seq (.seq (.r4 G [0, 3] [(5, aB (decide (a > 0)))] ?_))
  refine .cd hr ?_ ?_ <;> intro k hr
  ·refine .skip (.seq (.block ?_))
   obtain ⟨g, f, hr⟩ := gd2 hr
   refine .r0 G (.mu 5 (.e0 (v := .hs 2 0 (b ++ [aa .u32 (a.tmod 1000000000)]).length 1) (ws := [(0, .dead), (2, .own ((b ++ [aa .u32 (a.tmod 1000000000)]).flatMap iCu))]) (tr (eM (new := [bt (aa .u32 (a.tmod 1000000000))]) (l := b) (xs := [aa .u32 (a.tmod 1000000000)]) (aF .u32) rfl rfl (by kernel_rfl) g f)) (.mu 1 (.done (.pop (.ru G ?_))))))
   exact az (wFu (a.tdiv 1000000000), b ++ [aa .u32 (a.tmod 1000000000)]) hr ((Wk.gc [0, 3] [(2, false)] rfl (pKo iCu (aC _) (b ++ [aa .u32 (a.tmod 1000000000)]) trivial)).to)
  refine .leave rfl ?_
  obtain rfl := oi hr
  exact ⟨rfl, ((Wk.gc [3] [(0, false)] rfl (pKo iCu (aC _) b trivial)).to)⟩
 rintro x st' c
 clear e
 obtain ⟨rfl, c⟩ := c
 refine aQ _ rfl (.wk c (.seq (.r3 G 15 [(2, .hs 0 0 d.length 1)] (.ret ?_))))
 obtain rfl := oi hr
 exact aG.ret (vs := [.hs 0 0 d.length 1]) (by kernel_rfl) (Sn.hs rfl (.inl rfl) (SnC.pure (aW (aC _) _)) (fun h => cG h))

theorem gW (n : Nat) (g : List Int) (r : List Int) (hr : ei n g = some r) : aL Tryz.prog 184 [au g] (au r) := by
 unfold ei at hr
 refine aL.bd G Tryz.func184 [.tmp 2] ?_
 unfold Tryz.f184
 simp only [gS]
 refine .seq (.r4 G [0] [] (.seq (.block ?_)))
 replace hr := bd hr; obtain ⟨f, d, hr⟩ := hr
 refine .aH (σ := fun k => match k with | a => ⟨mkS 21 0 [(0, au a)], []⟩) (Q := fun x st' => x = .exit 0 /\ Wk 0 st' ⟨mkS 21 0 [(0, au f)], []⟩) d ((Wk.gc [0] [] rfl pK0).to) ?_ ?_
 ·clear hr
  rintro m a hr
  show CQ _ _ _ _ _ ⟨_, _⟩
  refine .seq (.seq ?_)
  rcases bT (decide ((a.length : Int) > 0)) with b | b
  ·replace hr := cy b hr
   obtain ⟨h, hr⟩ := gd hr
   refine .r0 G (.mu 2 (.p0 (v := aB true) (eB b) (.mu 5 (.pure (v := .pp (a.flatMap iCu) ((Fc ((a.length : Int) - 1)).toNat * 1)) (by kernel_rfl) (tr (ar h)) (.pure (v := bt (gt a (Fc ((a.length : Int) - 1)))) (by kernel_rfl) (tr (aD (aE (aF .u32) (aA h) z1 (by omega : (Fc ((a.length : Int) - 1)).toNat * 1 = (Fc ((a.length : Int) - 1)).toNat * 1 + 0) (by kernel_rfl)))) (.mu 2 (.done (.nh [0, 14] [] ?_))))))))
   refine .cd hr ?_ ?_ <;> intro i hr
   ·refine .skip (.block ?_)
    obtain ⟨e, hr⟩ := gd hr
    refine .r0 G (.mu 4 (.p0 (v := au ((a.drop (0 : Int).toNat).take ((Fc ((a.length : Int) - 1)).toNat - (0 : Int).toNat))) (tr (y := slO (inS 0 (Fc ((a.length : Int) - 1)) a.length) (0 : Int).toNat (Fc ((a.length : Int) - 1)).toNat (fun z1 j => .sl true (((a.flatMap iCu).drop (z1 * 1)).take ((j - z1) * 1)) (j - z1))) (xt e (tZ (aF _) (qJ e)))) (.mu 1 (.done (.pop ?_)))))
    exact az ((a.drop (0 : Int).toNat).take ((Fc ((a.length : Int) - 1)).toNat - (0 : Int).toNat)) hr ((Wk.gc [0] [] rfl pK0).to)
   refine .leave rfl ?_
   obtain rfl := oi hr
   exact ⟨rfl, ((Wk.gc [0] [] rfl pK0).to)⟩
  replace hr := cz b hr
  refine .r0 G (.mu 2 (.p0 (v := aB false) (eB b) (.mu 9 (.done (.nh [0, 14] [] (.cF (by kernel_rfl) (.leave rfl ?_)))))))
  obtain rfl := oi hr
  exact ⟨rfl, ((Wk.gc [0] [] rfl pK0).to)⟩
 rintro x st' c
 clear d
 obtain ⟨rfl, c⟩ := c
 refine aQ _ rfl (.wk c (.seq (.ru G (.ret ?_))))
 obtain rfl := oi hr
 exact aG.r1 [au f]

theorem uv {negative : Bool} {g : List Int} {negative_ : Bool} {a : List Int} (h : ([.at (.bool negative), slT iCu g] : List AV) = [.at (.bool negative_), slT iCu a]) : negative = negative_ /\ g = a := by
 simp only [List.cons.injEq, AV.agg.injEq, AV.at.injEq, Value.int.injEq, Value.bool.injEq, AV.fn.injEq, AV.pp.injEq, true_and, and_true, eZ] at h
 simp_all
theorem mZ (n : Nat) {negative : Bool} {g : List Int} {negative_ : Bool} {a : List Int} (h : ([.at (.bool negative), slT iCu g] : List AV) = [.at (.bool negative_), slT iCu a]) : bV n negative g = bV n negative_ a := by
 obtain ⟨rfl, rfl⟩ := uv h
 rfl
theorem b9 (n : Nat) (negative : Bool) (g : List Int) (r : ah) (hr : bV n negative g = some r) : aL Tryz.prog 147 [aB negative, au g] (.agg (ah.c r)) := by
 unfold bV at hr
 refine aL.bd G Tryz.func147 [.cell 4 40] ?_
 unfold Tryz.f147
 simp only [gS]
 refine .seq (.r5 G [0, 1] [(4, .hp 0 0)] [.own [aB false, nS]] (.seq ?_))
 obtain ⟨a, b, hr⟩ := bd hr
 refine .g1 G (ok0 (gW n g a b)) (.mu 1 (.ca cf0 (.mu 1 (.done (.nh [0, 1, 4] [.own [aB false, nS]] (.seq (.seq (.r4 G [0, 1, 4] [(9, aB (((a.length : Int) : Int) == 0))] ?_))))))))
 refine .cd hr ?_ ?_ <;> intro d hr
 ·refine .seq (.r4 G [4] [] (.ret ?_))
  obtain rfl := oi hr
  exact aG.ret (vs := [.agg [aB false, nS]]) (by kernel_rfl) (Sn.agg (Sp (SnL.cons Sn.fZ SnL.nil)))
 refine .skip (.seq (.r5 G [4] [] [.own [aB negative, au a]] (.ret ?_)))
 obtain rfl := oi hr
 exact aG.r1 [.agg [aB negative, au a]]

theorem rV (n : Nat) {b : Int} {a : Int} (h : ([.at (.int .i64 b)] : List AV) = [.at (.int .i64 a)]) : fV n b = fV n a := by
 obtain rfl := dS h
 rfl
theorem jA (n : Nat) (a : Int) (r : ah) (hr : fV n a = some r) : aL Tryz.prog 108 [ae a] (.agg (ah.c r)) := by
 unfold fV at hr
 refine aL.bd G Tryz.func108 [.cell 2 40] ?_
 unfold Tryz.f108
 simp only [gS]
 refine .seq (.r5 G [0] [(2, .hp 0 0)] [.own [aB false, nS]] (.seq (.r4 G [0, 2] [(3, cO (wFu a))] (.seq (.seq (.r4 G [0, 2, 3] [(7, aB (decide (a < 0)))] ?_))))))
 refine .cd hr ?_ ?_ <;> intro b hr
 ·refine .r0 G (.mu 1 (.p0 (v := cO (wFu (0 - (wFu a)))) (tr (y := some (.pure (cO (IntKind.wrap .u64 (0 - (wFu a)))))) ni) (.mu 1 (.done (.nh [0, 2, 3] [.own [aB false, nS]] (.seq ?_))))))
  obtain ⟨j, d, e, f, hr⟩ := bd2 hr
  refine .gn G (ca1 (ok0 (fu n (wFu (0 - (wFu a))) j d)) (ca3 (ok0 (b9 n true j e f)))) (.mu 1 (.p0 (v := aB true) (eB b) (.mu 1 (.ca cf0 (.ca (cfF cf0) (.mu 1 (.done (.nh [2] [.own (ah.c e)] (.ret ?_)))))))))
  obtain rfl := oi hr
  exact aG.r1 [.agg (ah.c e)]
 refine .skip (.seq ?_)
 obtain ⟨k, g, h, i, hr⟩ := bd2 hr
 refine .gn G (ca1 (ok0 (fu n (wFu a) k g)) (ca3 (ok0 (b9 n false k h i)))) (.mu 1 (.p0 (v := aB false) (eB b) (.mu 1 (.ca cf0 (.ca (cfF cf0) (.mu 1 (.done (.nh [2] [.own (ah.c h)] (.ret ?_)))))))))
 obtain rfl := oi hr
 exact aG.r1 [.agg (ah.c h)]

theorem ss (n : Nat) (g : Int) (r : Bool) (hr : mS n g = some r) : aL Tryz.prog 178 [bt g] (aB r) := by
 unfold mS at hr
 refine aL.bd G Tryz.func178 [.tmp 2] ?_
 unfold Tryz.f178
 simp only [gS]
 refine .seq (.r4 G [0] [] (.seq (.ru G (.ret ?_))))
 obtain rfl := oi hr
 exact aG.r1 [aB (decide (g >= 1000000000))]

theorem gi (n : Nat) (s : List Int) (r : Int) (hr : bH n s = some r) : aL Tryz.prog 197 [au s, .fn 178 [] []] (ae r) := by
 unfold bH at hr
 refine aL.bd G Tryz.func197 [.tmp 4] ?_
 unfold Tryz.f197
 simp only [gS]
 refine .seq (.r4 G [0, 1] [] (.seq (.seq (.r4 G [0, 1] [(7, ae (s.length : Int)), (8, ae 0)] (.block ?_)))))
 replace hr := bd hr; obtain ⟨d, c, hr⟩ := hr
 refine .aH (σ := fun i => match i with | a => ⟨mkS 19 0 [(0, au s), (1, .fn 178 [] []), (7, ae (s.length : Int)), (8, ae a)], []⟩) (Q := fun x st' => match (generalizing := false) d with | .inl _ => x = .exit 0 /\ Wk 0 st' ⟨mkS 19 0 [], []⟩ | .inr (r0) => x = .ret /\ aG Tryz.prog [.tmp 4] (ae r0) .ret st') c ((Wk.gc [0, 1, 7, 8] [] rfl pK0).to) ?_ ?_
 ·clear hr
  rintro m a hr
  show CQ _ _ _ _ _ ⟨_, _⟩
  refine .seq (.r4 G [0, 1, 7, 8] [(9, aB (decide (a < (s.length : Int))))] (.seq ?_))
  refine .cd hr ?_ ?_ <;> intro j hr
  ·refine .skip (.seq (.block (.seq (.r4 G [0, 1, 7, 8] [(5, ae a)] (.seq ?_)))))
   obtain ⟨e, hr⟩ := gd hr
   obtain ⟨g, f, hr⟩ := bd hr
   refine .g1 G (ok0 (ss n (gt s a) g f)) (.mu 3 (.p0 (v := .pp (s.flatMap iCu) (a.toNat * 1)) (tr (ar e)) (.p0 (v := bt (gt s a)) (tr (aD (aE (aF .u32) (aA e) z1 (by omega : a.toNat * 1 = a.toNat * 1 + 0) (by kernel_rfl)))) (.ca cf0 (.done (.nh [0, 1, 5, 7, 8, 16] [] ?_))))))
   refine .cd hr ?_ ?_ <;> intro h hr
   ·refine .seq (.ru G (.ret ?_))
    obtain rfl := oi hr
    exact ⟨rfl, aG.ret (vs := [ae a]) (by kernel_rfl) (Sn.pure rfl)⟩
   refine .skip (.pop (.ru G ?_))
   exact az (Fc (a + 1)) hr ((Wk.gc [0, 1, 7, 8] [] rfl pK0).to)
  refine .leave rfl ?_
  obtain rfl := oi hr
  exact ⟨rfl, ((Wk.gc [] [] rfl pK0).to)⟩
 rcases d with ⟨⟩ | r0
 ·rintro x st' b
  clear c
  obtain ⟨rfl, b⟩ := b
  refine aQ _ rfl (.wk b (.seq (.ru G (.ret ?_))))
  obtain rfl := oi hr
  exact aG.r1 [ae (-1)]
 rintro x st' b
 clear c
 obtain ⟨rfl, b⟩ := b
 obtain rfl := oi hr
 exact iT _ b

theorem fI (n : Nat) (s : List Int) (r : Bool) (hr : a9 n s = some r) : aL Tryz.prog 177 [au s, .fn 178 [] []] (aB r) := by
 unfold a9 at hr
 refine aL.bd G Tryz.func177 [.tmp 4] ?_
 unfold Tryz.f177
 simp only [gS]
 refine .seq (.r4 G [0, 1] [] (.seq ?_))
 obtain ⟨b, a, hr⟩ := bd hr
 refine .g1 G (ok0 (gi n s b a)) (.mu 2 (.ca cf0 (.mu 2 (.done (.ret ?_)))))
 obtain rfl := oi hr
 exact aG.r1 [aB (decide (b >= 0))]

theorem eV {b : ah} {a : ah} (h : ([.agg [.at (.bool b.Negative), slT iCu b.Groups]] : List AV) = [.agg [.at (.bool a.Negative), slT iCu a.Groups]]) : b = a := by
 obtain ⟨_, _⟩ := b
 obtain ⟨_, _⟩ := a
 simp only [List.cons.injEq, AV.agg.injEq, AV.at.injEq, Value.int.injEq, Value.bool.injEq, AV.fn.injEq, AV.pp.injEq, true_and, and_true, eZ] at h
 simp_all
theorem oR (n : Nat) {b : ah} {a : ah} (h : ([.agg (ah.c b)] : List AV) = [.agg (ah.c a)]) : eL n b = eL n a := by
 obtain rfl := eV h
 rfl
theorem fl (n : Nat) (a : ah) (r : Bool) (hr : eL n a = some r) : aL Tryz.prog 142 [.agg (ah.c a)] (aB r) := by
 unfold eL at hr
 refine aL.bd G Tryz.func142 [.tmp 2] ?_
 unfold Tryz.f142
 simp only [gS]
 refine .seq (.r2 G 25 [(1, .hp 0 0)] [.own (ah.c a)] (.seq (.r4 G [1] [(3, ae (a.Groups.length : Int))] (.seq (.seq (.r4 G [1, 3] [(8, aB (((a.Groups.length : Int) : Int) == 0))] ?_))))))
 refine .cd hr ?_ ?_ <;> intro g hr
 ·refine .seq (.ru G (.ret ?_))
  obtain rfl := oi hr
  exact aG.r1 [aB (!a.Negative)]
 refine .skip (.seq ?_)
 obtain ⟨d, hr⟩ := gd hr
 rcases bT (((gt a.Groups (Fc ((a.Groups.length : Int) - 1))) : Int) != 0) with b | b
 ·replace hr := cy b hr
  obtain ⟨f, e, hr⟩ := bd hr
  refine .g1 G (ok0 (fI n a.Groups f e)) (.mu 4 (.p0 (v := .pp (a.Groups.flatMap iCu) ((Fc ((a.Groups.length : Int) - 1)).toNat * 1)) (tr (ar d)) (.p0 (v := bt (gt a.Groups (Fc ((a.Groups.length : Int) - 1)))) (tr (aD (aE (aF .u32) (aA d) z1 (by omega : (Fc ((a.Groups.length : Int) - 1)).toNat * 1 = (Fc ((a.Groups.length : Int) - 1)).toNat * 1 + 0) (by kernel_rfl)))) (.p0 (v := aB true) (eB b) (.mu 3 (.ca cf0 (.mu 3 (.done (.ret ?_)))))))))
  obtain rfl := oi hr
  exact aG.r1 [aB (!f)]
 replace hr := cz b hr
 refine .r0 G (.mu 4 (.p0 (v := .pp (a.Groups.flatMap iCu) ((Fc ((a.Groups.length : Int) - 1)).toNat * 1)) (tr (ar d)) (.p0 (v := bt (gt a.Groups (Fc ((a.Groups.length : Int) - 1)))) (tr (aD (aE (aF .u32) (aA d) z1 (by omega : (Fc ((a.Groups.length : Int) - 1)).toNat * 1 = (Fc ((a.Groups.length : Int) - 1)).toNat * 1 + 0) (by kernel_rfl)))) (.p0 (v := aB false) (eB b) (.mu 7 (.done (.ret ?_)))))))
 obtain rfl := oi hr
 exact aG.r1 [aB false]

theorem rP (n : Nat) {b : ah} {a : ah} (h : ([.agg (ah.c b)] : List AV) = [.agg (ah.c a)]) : fr n b = fr n a := by
 obtain rfl := eV h
 rfl
theorem m8 (n : Nat) (a : ah) (r : ah) (hr : fr n a = some r) : aL Tryz.prog 190 [.agg (ah.c a)] (.agg (ah.c r)) := by
 unfold fr at hr
 refine aL.bd G Tryz.func190 [.cell 2 40] ?_
 unfold Tryz.f190
 simp only [gS]
 refine .seq (.r2 G 7 [(1, .hp 0 0), (2, .hp 1 0)] [.own (ah.c a), .own [aB false, nS]] (.seq (.seq ?_)))
 obtain ⟨f, b, hr⟩ := bd hr
 refine .g1 G (ok0 (fl n a f b)) (.mu 1 (.ca cf0 (.done (.nh [1, 2, 4] [.own (ah.c a), .own [aB false, nS]] ?_))))
 refine .cd hr ?_ ?_ <;> intro g hr
 ·refine .seq (.r5 G [2] [] [.own (ah.c a), .own (ah.c a)] (.ret ?_))
  obtain rfl := oi hr
  exact aG.r1 [.agg (ah.c a)]
 refine .skip (.seq ?_)
 obtain ⟨d, e, hr⟩ := bd hr
 refine .g1 G (ok0 (jA n 0 d e)) (.ca cf0 (.mu 1 (.done (.nh [2] [.own (ah.c a), .own (ah.c d)] (.ret ?_)))))
 obtain rfl := oi hr
 exact aG.r1 [.agg (ah.c d)]

theorem ie (n : Nat) {b : ah} {a : ah} (h : ([.agg (ah.c b)] : List AV) = [.agg (ah.c a)]) : bL n b = bL n a := by
 obtain rfl := eV h
 rfl
theorem cx (n : Nat) (a : ah) (r : List Int) (hr : bL n a = some r) : aL Tryz.prog 162 [.agg (ah.c a)] (au r) := by
 unfold bL at hr
 refine aL.bd G Tryz.func162 [.tmp 2] ?_
 unfold Tryz.f162
 simp only [gS]
 refine .seq (.r2 G 8 [(1, .hp 0 0)] [.own (ah.c a)] (.seq (.seq ?_)))
 obtain ⟨d, b, hr⟩ := bd hr
 refine .g1 G (ok0 (fl n a d b)) (.mu 1 (.ca cf0 (.mu 1 (.done (.nh [1, 5] [.own (ah.c a)] ?_)))))
 refine .cd hr ?_ ?_ <;> intro e hr
 ·refine .seq (.r3 G 8 [(2, nS)] (.ret ?_))
  obtain rfl := oi hr
  exact aG.ret (vs := [nS]) (by kernel_rfl) Sn.fZ
 refine .skip (.seq (.ru G (.ret ?_)))
 obtain rfl := oi hr
 exact aG.r1 [au a.Groups]

theorem uZ (n : Nat) {b : ah} {a : ah} (h : ([.agg (ah.c b)] : List AV) = [.agg (ah.c a)]) : dL n b = dL n a := by
 obtain rfl := eV h
 rfl
theorem fS (n : Nat) (a : ah) (r : Int) (hr : dL n a = some r) : aL Tryz.prog 143 [.agg (ah.c a)] (ae r) := by
 unfold dL at hr
 refine aL.bd G Tryz.func143 [.tmp 2] ?_
 unfold Tryz.f143
 simp only [gS]
 refine .seq (.r2 G 11 [(1, .hp 0 0)] [.own (ah.c a)] (.seq (.block (.seq ?_))))
 obtain ⟨d, b, hr⟩ := bd hr
 refine .g1 G (ok0 (cx n a d b)) (.mu 1 (.ca cf0 (.mu 3 (.done (.nh [1, 3] [.own (ah.c a)] ?_)))))
 refine .cd hr ?_ ?_ <;> intro e hr
 ·refine .seq (.ru G (.ret ?_))
  obtain rfl := oi hr
  exact aG.r1 [ae 0]
 refine .seq (.r3 G 11 [(8, aB a.Negative)] ?_)
 refine .cd hr ?_ ?_ <;> intro f hr
 ·refine .seq (.ru G (.ret ?_))
  obtain rfl := oi hr
  exact aG.r1 [ae (-1)]
 refine .skip (.pop (.seq (.ru G (.ret ?_))))
 obtain rfl := oi hr
 exact aG.r1 [ae 1]

theorem fE (n : Nat) (s : List Int) (r : List Int) (hr : cB n s = some r) : aL Tryz.prog 183 [au s] (au r) := by
 unfold cB at hr
 refine aL.bd G Tryz.func183 [.tmp 2] ?_
 unfold Tryz.f183
 simp only [gS]
 refine .seq (.r4 G [0] [] (.seq (.seq ?_)))
 refine .Dl (t := 0) (cs := s.flatMap iCu) (len := s.length) (by kernel_rfl) (fun a => ?_) ?_
 ·obtain rfl : s = [] := List.length_eq_zero_iff.1 a
  have hx := gd hr; clear hr; obtain ⟨_, hr⟩ := hx
  have hx := gd hr; clear hr; obtain ⟨_, hr⟩ := hx
  refine .r4 G [0] [(4, aB true)] (.cT (by kernel_rfl) (.seq (.r3 G 8 [(2, nS)] (.ret ?_))))
  obtain rfl := oi hr
  exact aG.ret (vs := [nS]) (by kernel_rfl) Sn.fZ
 refine .r4 G [0] [(4, aB false)] (.cF (by kernel_rfl) (.skip (.seq ?_)))
 obtain ⟨b, c, hr⟩ := gd2 hr
 refine .r0 G (.mu 2 (.e0 (v := .hs 1 0 s.length 1) (ws := [(0, .dead), (1, .own (s.flatMap iCu))]) (tr (y := ze (decide (((s.flatMap iCu)).length = s.length * 1)) (s.flatMap iCu) s.length (fun z1 d => oA (decide (0 + 0 * 1 <= (([] : List Int).flatMap iCu).length) && decide ((0 + d) * 4 <= 140737488355328) && decide (0 + d <= 4611686018427387904)) (some (.eff (.hs 1 0 (0 + d) 1) [(0, .dead), (1, .own (((([] : List Int).flatMap iCu).drop 0).take (0 * 1) ++ z1))])))) (uj (nt (aF _)) rfl (eM (l := ([] : List Int)) (xs := s) (aF _) rfl rfl rfl b c))) (.mu 1 (.done (.nh [2] [.dead, .own (s.flatMap iCu)] (.ret ?_))))))
 obtain rfl := oi hr
 exact aG.ret (vs := [.hs 1 0 s.length 1]) (by kernel_rfl) (Sn.hs rfl (.inl rfl) (SnC.pure (aW (aC _) _)) (fun h => cG h))

theorem gG (n : Nat) {b : ah} {a : ah} (h : ([.agg (ah.c b)] : List AV) = [.agg (ah.c a)]) : eI n b = eI n a := by
 obtain rfl := eV h
 rfl
theorem gL (n : Nat) (a : ah) (r : ah) (hr : eI n a = some r) : aL Tryz.prog 158 [.agg (ah.c a)] (.agg (ah.c r)) := by
 unfold eI at hr
 refine aL.bd G Tryz.func158 [.cell 2 40] ?_
 unfold Tryz.f158
 simp only [gS]
 refine .seq (.r2 G 10 [(1, .hp 0 0), (2, .hp 1 0)] [.own (ah.c a), .own [aB false, nS]] (.seq ?_))
 obtain ⟨g, b, h, d, e, f, hr⟩ := bd3 hr
 refine .tn G (ca1 (ok0 (cx n a g b)) (ca1 (ok0 (fE n g h d)) (ca3 (ok0 (b9 n (!a.Negative) h e f))))) (.mu 4 (.ca cf0 (.ca (cfF cf0) (.ca (cfF (cfF cf0)) (.mu 1 ?_)))))
 refine .done ⟨by kernel_rfl, ?_⟩
 refine .nh [2] [.own (ah.c a), .own (ah.c e)] (.ret ?_)
 obtain rfl := oi hr
 exact aG.r1 [.agg (ah.c e)]




theorem tP (n : Nat) (a : List Int) (b : List Int) (r : List Int) (hr : jy n a b = some r) : aL Tryz.prog 161 [au a, au b] (au r) := by
 unfold jy at hr
 refine aL.bd G Tryz.func161 [.tmp 4] ?_
 unfold Tryz.f161
 simp only [gS]
 refine .seq (.r4 G [0, 1] [] (.seq ?_))
 obtain ⟨E, F, H, hr⟩ := gd3 hr
 refine .r0 G (.mu 5 (.e0 (v := .hs 0 0 (List.replicate (Fc ((a.length : Int) + (b.length : Int))).toNat ((0 : Int) : Int)).length 1) (ws := [(0, .own ((List.replicate (Fc ((a.length : Int) + (b.length : Int))).toNat ((0 : Int) : Int)).flatMap iCu))]) (tr (mO (c := iCu) (z := (0 : Int)) (n := Fc ((a.length : Int) + (b.length : Int))) (by_ := 4) rfl E F H)) (.mu 1 (.done (.nh [0, 1, 5] [.own ((List.replicate (Fc ((a.length : Int) + (b.length : Int))).toNat ((0 : Int) : Int)).flatMap iCu)] (.seq (.seq (.r4 G [1, 5] [(18, au a), (19, ae (a.length : Int)), (20, ae 0)] (.block ?_)))))))))
 replace hr := bd hr; obtain ⟨o, u, hr⟩ := hr
 refine .aH (σ := fun I => match I with | (p, e) => ⟨mkS 69 0 [(1, au b), (5, .hs 0 0 p.length 1), (18, au a), (19, ae (a.length : Int)), (20, ae e)], [.own (p.flatMap iCu)]⟩) (Q := fun x st' => x = .exit 0 /\ Wk 0 st' ⟨mkS 69 0 [(5, .hs 0 0 o.length 1)], [.own (o.flatMap iCu)]⟩) u ((Wk.gc [1, 5, 18, 19, 20] [(0, false)] rfl (pKo iCu (aC _) (List.replicate (Fc ((a.length : Int) + (b.length : Int))).toNat ((0 : Int) : Int)) trivial)).to) ?_ ?_
 ·clear hr
  rintro m ⟨p, e⟩ hr
  show CQ _ _ _ _ _ ⟨_, _⟩
  refine .seq (.r4 G [1, 5, 18, 19, 20] [(21, aB (decide (e < (a.length : Int))))] (.seq ?_))
  refine .cd hr ?_ ?_ <;> intro J hr
  ·refine .skip (.seq (.block (.seq ?_)))
   obtain ⟨w, hr⟩ := gd hr
   refine .r0 G (.mu 1 (.p0 (v := .pp (a.flatMap iCu) (e.toNat * 1)) (tr (ar w)) (.p0 (v := bt (gt a e)) (tr (aD (aE (aF .u32) (aA w) z1 (by omega : e.toNat * 1 = e.toNat * 1 + 0) (by kernel_rfl)))) (.mu 2 (.done (.nh [1, 5, 6, 7, 18, 19, 20] [.own (p.flatMap iCu)] (.seq (.r4 G [1, 5, 6, 7, 18, 19, 20] [(8, cO 0)] (.seq (.seq (.r4 G [1, 5, 6, 7, 8, 18, 19, 20] [(25, au b), (26, ae (b.length : Int)), (27, ae 0)] (.block ?_))))))))))))
   replace hr := bd hr; obtain ⟨B, y, hr⟩ := hr
   refine .aH (σ := fun I => match I with | (f, g, d) => ⟨mkS 69 0 [(1, au b), (5, .hs 0 0 f.length 1), (6, ae e), (7, bt (gt a e)), (8, cO g), (18, au a), (19, ae (a.length : Int)), (20, ae e), (25, au b), (26, ae (b.length : Int)), (27, ae d)], [.own (f.flatMap iCu)]⟩) (Q := fun x st' => match (generalizing := false) B with | (i, j) => x = .exit 2 /\ Wk 0 st' ⟨mkS 69 0 [(1, au b), (5, .hs 0 0 i.length 1), (6, ae e), (8, cO j), (18, au a), (19, ae (a.length : Int)), (20, ae e)], [.own (i.flatMap iCu)]⟩) y ((Wk.gc [1, 5, 6, 7, 8, 18, 19, 20, 25, 26, 27] [(0, false)] rfl (pKo iCu (aC _) p trivial)).to) ?_ ?_
   ·clear hr
    rintro m ⟨f, g, d⟩ hr
    show CQ _ _ _ _ _ ⟨_, _⟩
    refine .seq (.r4 G [1, 5, 6, 7, 8, 18, 19, 20, 25, 26, 27] [(28, aB (decide (d < (b.length : Int))))] (.seq ?_))
    refine .cd hr ?_ ?_ <;> intro L hr
    ·refine .skip (.seq (.block (.seq ?_)))
     obtain ⟨A, hr⟩ := gd hr
     refine .r0 G (.mu 1 (.p0 (v := .pp (b.flatMap iCu) (d.toNat * 1)) (tr (ar A)) (.p0 (v := bt (gt b d)) (tr (aD (aE (aF .u32) (aA A) z1 (by omega : d.toNat * 1 = d.toNat * 1 + 0) (by kernel_rfl)))) (.mu 2 (.done (.nh [1, 5, 6, 7, 8, 9, 10, 18, 19, 20, 25, 26, 27] [.own (f.flatMap iCu)] (.seq ?_)))))))
     obtain ⟨k, hr⟩ := gd hr
     refine .r0 G (.mu 4 (.p0 (v := .hp 0 (0 + (Fc (e + d)).toNat * 1)) (tr (ar k)) (.p0 (v := bt (gt f (Fc (e + d)))) (tr (aD (aE (aF .u32) (aA k) z1 (by omega : 0 + (Fc (e + d)).toNat * 1 = (Fc (e + d)).toNat * 1 + 0) (by kernel_rfl)))) (.mu 10 (.done (.nh [1, 5, 6, 7, 9, 11, 18, 19, 20, 25, 26, 27] [.own (f.flatMap iCu)] (.r0 G (.mu 9 (.p0 (v := .hp 0 (0 + (Fc (e + d)).toNat * 1)) (tr (ar k)) (.e0 (v := .unk) (ws := [(0, .own ((f.set (Fc (e + d)).toNat (aa .u32 ((wFu ((wFu ((wFu (gt f (Fc (e + d)))) + (wFu ((wFu (gt a e)) * (wFu (gt b d)))))) + g)).tmod 1000000000))).flatMap iCu))]) (tr (iF (iH (ct (n := 1) (aF .u32) (aA k) (lbT rfl) (by omega : 0 + (Fc (e + d)).toNat * 1 = (Fc (e + d)).toNat * 1 + 0))) (congrArg Blk.own (cS (xs := [bt (aa .u32 ((wFu ((wFu ((wFu (gt f (Fc (e + d)))) + (wFu ((wFu (gt a e)) * (wFu (gt b d)))))) + g)).tmod 1000000000))]) (aF .u32) (aA k) (lbT rfl) (by omega : 0 + (Fc (e + d)).toNat * 1 = (Fc (e + d)).toNat * 1 + 0) (by kernel_rfl))))) (.mu 1 (.done (.pop (.ru G ?_))))))))))))))
     exact az (f.set (Fc (e + d)).toNat (aa .u32 ((wFu ((wFu ((wFu (gt f (Fc (e + d)))) + (wFu ((wFu (gt a e)) * (wFu (gt b d)))))) + g)).tmod 1000000000)), wFu ((wFu ((wFu ((wFu (gt f (Fc (e + d)))) + (wFu ((wFu (gt a e)) * (wFu (gt b d)))))) + g)).tdiv 1000000000), Fc (d + 1)) hr ((Wk.iQ 5 (b := 0) (es := 1) (len := f.length) (f.set (Fc (e + d)).toNat (aa .u32 ((wFu ((wFu ((wFu (gt f (Fc (e + d)))) + (wFu ((wFu (gt a e)) * (wFu (gt b d)))))) + g)).tmod 1000000000))).length (by kernel_rfl) (Eq.symm (List.length_set.trans rfl))).trans ((Wk.gc [1, 5, 6, 7, 8, 18, 19, 20, 25, 26, 27] [(0, false)] rfl (pKo iCu (aC _) (f.set (Fc (e + d)).toNat (aa .u32 ((wFu ((wFu ((wFu (gt f (Fc (e + d)))) + (wFu ((wFu (gt a e)) * (wFu (gt b d)))))) + g)).tmod 1000000000))) trivial)).to))
    refine .leave rfl ?_
    obtain rfl := oi hr
    exact ⟨rfl, ((Wk.gc [1, 5, 6, 8, 18, 19, 20] [(0, false)] rfl (pKo iCu (aC _) f trivial)).to)⟩
   rcases B with ⟨i, j⟩
   rintro x st' q
   clear y
   obtain ⟨rfl, q⟩ := q
   refine aQ _ rfl (.wk q ?_)
   obtain ⟨s, hr⟩ := gd hr
   refine .r0 G (.mu 7 (.p0 (v := .hp 0 (0 + (Fc (e + (b.length : Int))).toNat * 1)) (tr (ar s)) (.e0 (v := .unk) (ws := [(0, .own ((i.set (Fc (e + (b.length : Int))).toNat (aa .u32 j)).flatMap iCu))]) (tr (iF (iH (ct (n := 1) (aF .u32) (aA s) (lbT rfl) (by omega : 0 + (Fc (e + (b.length : Int))).toNat * 1 = (Fc (e + (b.length : Int))).toNat * 1 + 0))) (congrArg Blk.own (cS (xs := [bt (aa .u32 j)]) (aF .u32) (aA s) (lbT rfl) (by omega : 0 + (Fc (e + (b.length : Int))).toNat * 1 = (Fc (e + (b.length : Int))).toNat * 1 + 0) (by kernel_rfl))))) (.done (.pop (.ru G ?_))))))
   exact az (i.set (Fc (e + (b.length : Int))).toNat (aa .u32 j), Fc (e + 1)) hr ((Wk.iQ 5 (b := 0) (es := 1) (len := i.length) (i.set (Fc (e + (b.length : Int))).toNat (aa .u32 j)).length (by kernel_rfl) (Eq.symm (List.length_set.trans rfl))).trans ((Wk.gc [1, 5, 18, 19, 20] [(0, false)] rfl (pKo iCu (aC _) (i.set (Fc (e + (b.length : Int))).toNat (aa .u32 j)) trivial)).to))
  refine .leave rfl ?_
  obtain rfl := oi hr
  exact ⟨rfl, ((Wk.gc [5] [(0, false)] rfl (pKo iCu (aC _) p trivial)).to)⟩
 rintro x st' t
 clear u
 obtain ⟨rfl, t⟩ := t
 refine aQ _ rfl (.wk t (.seq ?_))
 obtain ⟨C, D, hr⟩ := bd hr
 refine .g1 G (cK (args := [.hs 0 0 o.length 1]) (l := [0]) (SnL.cons (Sn.hs rfl (.inl rfl) (SnC.pure (aW (aC _) _)) (fun h => cG h)) SnL.nil) (gW n o C D)) (.mu 1 (.ca cf0 (.mu 1 (.done (.ret ?_)))))
 obtain rfl := oi hr
 exact aG.r1 [au C]

theorem sT (n : Nat) (g : List Int) (r : List Int) (hr : nN n g = some r) : dm 1 Tryz.prog 184 [.hs 0 0 g.length 1] [.own (g.flatMap iCu)] (.hs 0 0 r.length 1) [.own (r.flatMap iCu)] := by
 unfold nN at hr
 refine dm.kF G Tryz.func184 (c := (Tryz.f184.body).getD .skip) rfl (us := [.hs 0 0 r.length 1]) (s := mkS 21 0 [(0, .hs 0 0 g.length 1)]) (by kernel_rfl) (rs := [.tmp 2]) rfl ?_
 unfold Tryz.f184
 simp only [gS]
 refine .seq (.r4 G [0] [] (.seq (.block ?_)))
 replace hr := bd hr; obtain ⟨b, f, hr⟩ := hr
 refine .aH (σ := fun k => match k with | a => ⟨mkS 21 0 [(0, .hs 0 0 a.length 1)], [.own (a.flatMap iCu)]⟩) (Q := fun x st' => x = .exit 0 /\ Wk 1 st' ⟨mkS 21 0 [(0, .hs 0 0 b.length 1)], [.own (b.flatMap iCu)]⟩) f ((Wk.gc [0] [(0, false)] rfl (pKo iCu (aC _) g trivial)).to) ?_ ?_
 ·clear hr
  rintro m a hr
  show CQ _ _ _ _ _ ⟨_, _⟩
  refine .seq (.seq ?_)
  rcases bT (decide ((a.length : Int) > 0)) with d | d
  ·replace hr := cy d hr
   obtain ⟨h, hr⟩ := gd hr
   refine .r0 G (.mu 2 (.p0 (v := aB true) (eB d) (.mu 5 (.pure (v := .hp 0 (0 + (Fc ((a.length : Int) - 1)).toNat * 1)) (by kernel_rfl) (tr (ar h)) (.pure (v := bt (gt a (Fc ((a.length : Int) - 1)))) (by kernel_rfl) (tr (aD (aE (aF .u32) (aA h) z1 (by omega : 0 + (Fc ((a.length : Int) - 1)).toNat * 1 = (Fc ((a.length : Int) - 1)).toNat * 1 + 0) (by kernel_rfl)))) (.mu 2 (.done (.nh [0, 14] [.own (a.flatMap iCu)] ?_))))))))
   refine .cd hr ?_ ?_ <;> intro j hr
   ·refine .skip (.block ?_)
    obtain ⟨i, hr⟩ := gd hr
    refine .r0 G (.mu 4 (.p0 (v := .hs 0 0 (Fc ((a.length : Int) - 1)).toNat 1) (tr (y := slH (inS 0 (Fc ((a.length : Int) - 1)) a.length) true ((0 : Int).toNat) ((Fc ((a.length : Int) - 1)).toNat) (fun z1 l => .hs 0 (0 + z1 * 1) (l - z1) 1)) (BR i (by kernel_rfl))) (.mu 1 (.done (.pop ?_)))))
    exact az (a.take (Fc ((a.length : Int) - 1)).toNat) hr ((Wk.EY (c := iCu) (es := 1) 0 0 (aF _) a (Fc ((a.length : Int) - 1)).toNat (qJ i) (by kernel_rfl) (by kernel_rfl)).trans ((Wk.gc [0] [(0, false)] rfl (pKo iCu (aC _) (a.take (Fc ((a.length : Int) - 1)).toNat) trivial)).to))
   refine .leave rfl ?_
   obtain rfl := oi hr
   exact ⟨rfl, ((Wk.gc [0] [(0, false)] rfl (pKo iCu (aC _) a trivial)).to)⟩
  replace hr := cz d hr
  refine .r0 G (.mu 2 (.p0 (v := aB false) (eB d) (.mu 9 (.done (.nh [0, 14] [.own (a.flatMap iCu)] (.cF (by kernel_rfl) (.leave rfl ?_)))))))
  obtain rfl := oi hr
  exact ⟨rfl, ((Wk.gc [0] [(0, false)] rfl (pKo iCu (aC _) a trivial)).to)⟩
 rintro x st' e
 clear f
 obtain ⟨rfl, e⟩ := e
 refine aQ _ rfl (.wk e (.seq (.r3 G 21 [(2, .hs 0 0 b.length 1)] (.ret ?_))))
 obtain rfl := oi hr
 exact dk.ret [.hs 0 0 b.length 1] ((Wk.gc [0] [(0, false)] rfl (pKo iCu (aC _) b trivial)).to)

theorem nZ (n : Nat) (a : List Int) (b : List Int) (r : List Int) (hr : jw n a b = some r) : dm 1 Tryz.prog 161 [au a, .hs 0 0 b.length 1] [.own (b.flatMap iCu)] (.hs 1 0 r.length 1) [.own (b.flatMap iCu), .own (r.flatMap iCu)] := by
 unfold jw at hr
 refine dm.kF G Tryz.func161 (c := (Tryz.f161.body).getD .skip) rfl (us := [.hs 1 0 r.length 1]) (s := mkS 69 0 [(0, au a), (1, .hs 0 0 b.length 1)]) (by kernel_rfl) (rs := [.tmp 4]) rfl ?_
 unfold Tryz.f161
 simp only [gS]
 refine .seq (.r4 G [0, 1] [] (.seq ?_))
 obtain ⟨B, C, D, hr⟩ := gd3 hr
 refine .r0 G (.mu 5 (.e0 (v := .hs 1 0 (List.replicate (Fc ((a.length : Int) + (b.length : Int))).toNat ((0 : Int) : Int)).length 1) (ws := [(1, .own ((List.replicate (Fc ((a.length : Int) + (b.length : Int))).toNat ((0 : Int) : Int)).flatMap iCu))]) (tr (mO (c := iCu) (z := (0 : Int)) (n := Fc ((a.length : Int) + (b.length : Int))) (by_ := 4) rfl B C D)) (.mu 1 (.done (.nh [0, 1, 5] [.own (b.flatMap iCu), .own ((List.replicate (Fc ((a.length : Int) + (b.length : Int))).toNat ((0 : Int) : Int)).flatMap iCu)] (.seq (.seq (.r4 G [1, 5] [(18, au a), (19, ae (a.length : Int)), (20, ae 0)] (.block ?_)))))))))
 replace hr := bd hr; obtain ⟨l, u, hr⟩ := hr
 refine .aH (σ := fun H => match H with | (j, d) => ⟨mkS 69 0 [(1, .hs 0 0 b.length 1), (5, .hs 1 0 j.length 1), (18, au a), (19, ae (a.length : Int)), (20, ae d)], [.own (b.flatMap iCu), .own (j.flatMap iCu)]⟩) (Q := fun x st' => x = .exit 0 /\ Wk 1 st' ⟨mkS 69 0 [(5, .hs 1 0 l.length 1)], [.own (b.flatMap iCu), .own (l.flatMap iCu)]⟩) u ((Wk.gc [1, 5, 18, 19, 20] [(0, false), (1, false)] rfl (pKo iCu (aC _) b (pKo iCu (aC _) (List.replicate (Fc ((a.length : Int) + (b.length : Int))).toNat ((0 : Int) : Int)) trivial))).to) ?_ ?_
 ·clear hr
  rintro m ⟨j, d⟩ hr
  show CQ _ _ _ _ _ ⟨_, _⟩
  refine .seq (.r4 G [1, 5, 18, 19, 20] [(21, aB (decide (d < (a.length : Int))))] (.seq ?_))
  refine .cd hr ?_ ?_ <;> intro I hr
  ·refine .skip (.seq (.block (.seq ?_)))
   obtain ⟨w, hr⟩ := gd hr
   refine .r0 G (.mu 1 (.p0 (v := .pp (a.flatMap iCu) (d.toNat * 1)) (tr (ar w)) (.p0 (v := bt (gt a d)) (tr (aD (aE (aF .u32) (aA w) z1 (by omega : d.toNat * 1 = d.toNat * 1 + 0) (by kernel_rfl)))) (.mu 2 (.done (.nh [1, 5, 6, 7, 18, 19, 20] [.own (b.flatMap iCu), .own (j.flatMap iCu)] (.seq (.r4 G [1, 5, 6, 7, 18, 19, 20] [(8, cO 0)] (.seq (.seq (.r4 G [1, 5, 6, 7, 8, 18, 19, 20] [(25, .hs 0 0 b.length 1), (26, ae (b.length : Int)), (27, ae 0)] (.block ?_))))))))))))
   replace hr := bd hr; obtain ⟨E, y, hr⟩ := hr
   refine .aH (σ := fun H => match H with | (f, g, e) => ⟨mkS 69 0 [(1, .hs 0 0 b.length 1), (5, .hs 1 0 f.length 1), (6, ae d), (7, bt (gt a d)), (8, cO g), (18, au a), (19, ae (a.length : Int)), (20, ae d), (25, .hs 0 0 b.length 1), (26, ae (b.length : Int)), (27, ae e)], [.own (b.flatMap iCu), .own (f.flatMap iCu)]⟩) (Q := fun x st' => match (generalizing := false) E with | (h, i) => x = .exit 2 /\ Wk 1 st' ⟨mkS 69 0 [(1, .hs 0 0 b.length 1), (5, .hs 1 0 h.length 1), (6, ae d), (8, cO i), (18, au a), (19, ae (a.length : Int)), (20, ae d)], [.own (b.flatMap iCu), .own (h.flatMap iCu)]⟩) y ((Wk.gc [1, 5, 6, 7, 8, 18, 19, 20, 25, 26, 27] [(0, false), (1, false)] rfl (pKo iCu (aC _) b (pKo iCu (aC _) j trivial))).to) ?_ ?_
   ·clear hr
    rintro m ⟨f, g, e⟩ hr
    show CQ _ _ _ _ _ ⟨_, _⟩
    refine .seq (.r4 G [1, 5, 6, 7, 8, 18, 19, 20, 25, 26, 27] [(28, aB (decide (e < (b.length : Int))))] (.seq ?_))
    refine .cd hr ?_ ?_ <;> intro J hr
    ·refine .skip (.seq (.block (.seq ?_)))
     obtain ⟨A, hr⟩ := gd hr
     refine .r0 G (.mu 1 (.p0 (v := .hp 0 (0 + e.toNat * 1)) (tr (ar A)) (.p0 (v := bt (gt b e)) (tr (aD (aE (aF .u32) (aA A) z1 (by omega : 0 + e.toNat * 1 = e.toNat * 1 + 0) (by kernel_rfl)))) (.mu 2 (.done (.nh [1, 5, 6, 7, 8, 9, 10, 18, 19, 20, 25, 26, 27] [.own (b.flatMap iCu), .own (f.flatMap iCu)] (.seq ?_)))))))
     obtain ⟨k, hr⟩ := gd hr
     refine .r0 G (.mu 4 (.p0 (v := .hp 1 (0 + (Fc (d + e)).toNat * 1)) (tr (ar k)) (.p0 (v := bt (gt f (Fc (d + e)))) (tr (aD (aE (aF .u32) (aA k) z1 (by omega : 0 + (Fc (d + e)).toNat * 1 = (Fc (d + e)).toNat * 1 + 0) (by kernel_rfl)))) (.mu 10 (.done (.nh [1, 5, 6, 7, 9, 11, 18, 19, 20, 25, 26, 27] [.own (b.flatMap iCu), .own (f.flatMap iCu)] (.r0 G (.mu 9 (.p0 (v := .hp 1 (0 + (Fc (d + e)).toNat * 1)) (tr (ar k)) (.e0 (v := .unk) (ws := [(1, .own ((f.set (Fc (d + e)).toNat (aa .u32 ((wFu ((wFu ((wFu (gt f (Fc (d + e)))) + (wFu ((wFu (gt a d)) * (wFu (gt b e)))))) + g)).tmod 1000000000))).flatMap iCu))]) (tr (iF (iH (ct (n := 1) (aF .u32) (aA k) (lbT rfl) (by omega : 0 + (Fc (d + e)).toNat * 1 = (Fc (d + e)).toNat * 1 + 0))) (congrArg Blk.own (cS (xs := [bt (aa .u32 ((wFu ((wFu ((wFu (gt f (Fc (d + e)))) + (wFu ((wFu (gt a d)) * (wFu (gt b e)))))) + g)).tmod 1000000000))]) (aF .u32) (aA k) (lbT rfl) (by omega : 0 + (Fc (d + e)).toNat * 1 = (Fc (d + e)).toNat * 1 + 0) (by kernel_rfl))))) (.mu 1 (.done (.pop (.ru G ?_))))))))))))))
     exact az (f.set (Fc (d + e)).toNat (aa .u32 ((wFu ((wFu ((wFu (gt f (Fc (d + e)))) + (wFu ((wFu (gt a d)) * (wFu (gt b e)))))) + g)).tmod 1000000000)), wFu ((wFu ((wFu ((wFu (gt f (Fc (d + e)))) + (wFu ((wFu (gt a d)) * (wFu (gt b e)))))) + g)).tdiv 1000000000), Fc (e + 1)) hr ((Wk.iQ 5 (b := 1) (es := 1) (len := f.length) (f.set (Fc (d + e)).toNat (aa .u32 ((wFu ((wFu ((wFu (gt f (Fc (d + e)))) + (wFu ((wFu (gt a d)) * (wFu (gt b e)))))) + g)).tmod 1000000000))).length (by kernel_rfl) (Eq.symm (List.length_set.trans rfl))).trans ((Wk.gc [1, 5, 6, 7, 8, 18, 19, 20, 25, 26, 27] [(0, false), (1, false)] rfl (pKo iCu (aC _) b (pKo iCu (aC _) (f.set (Fc (d + e)).toNat (aa .u32 ((wFu ((wFu ((wFu (gt f (Fc (d + e)))) + (wFu ((wFu (gt a d)) * (wFu (gt b e)))))) + g)).tmod 1000000000))) trivial))).to))
    refine .leave rfl ?_
    obtain rfl := oi hr
    exact ⟨rfl, ((Wk.gc [1, 5, 6, 8, 18, 19, 20] [(0, false), (1, false)] rfl (pKo iCu (aC _) b (pKo iCu (aC _) f trivial))).to)⟩
   rcases E with ⟨h, i⟩
   rintro x st' o
   clear y
   obtain ⟨rfl, o⟩ := o
   refine aQ _ rfl (.wk o ?_)
   obtain ⟨p, hr⟩ := gd hr
   refine .r0 G (.mu 7 (.p0 (v := .hp 1 (0 + (Fc (d + (b.length : Int))).toNat * 1)) (tr (ar p)) (.e0 (v := .unk) (ws := [(1, .own ((h.set (Fc (d + (b.length : Int))).toNat (aa .u32 i)).flatMap iCu))]) (tr (iF (iH (ct (n := 1) (aF .u32) (aA p) (lbT rfl) (by omega : 0 + (Fc (d + (b.length : Int))).toNat * 1 = (Fc (d + (b.length : Int))).toNat * 1 + 0))) (congrArg Blk.own (cS (xs := [bt (aa .u32 i)]) (aF .u32) (aA p) (lbT rfl) (by omega : 0 + (Fc (d + (b.length : Int))).toNat * 1 = (Fc (d + (b.length : Int))).toNat * 1 + 0) (by kernel_rfl))))) (.done (.pop (.ru G ?_))))))
   exact az (h.set (Fc (d + (b.length : Int))).toNat (aa .u32 i), Fc (d + 1)) hr ((Wk.iQ 5 (b := 1) (es := 1) (len := h.length) (h.set (Fc (d + (b.length : Int))).toNat (aa .u32 i)).length (by kernel_rfl) (Eq.symm (List.length_set.trans rfl))).trans ((Wk.gc [1, 5, 18, 19, 20] [(0, false), (1, false)] rfl (pKo iCu (aC _) b (pKo iCu (aC _) (h.set (Fc (d + (b.length : Int))).toNat (aa .u32 i)) trivial))).to))
  refine .leave rfl ?_
  obtain rfl := oi hr
  exact ⟨rfl, ((Wk.gc [5] [(0, false), (1, false)] rfl (pKo iCu (aC _) b (pKo iCu (aC _) j trivial))).to)⟩
 rintro x st' q
 clear u
 obtain ⟨rfl, q⟩ := q
 refine aQ _ rfl (.wk q (.seq ?_))
 obtain ⟨t, F, hr⟩ := bd hr
 refine .g1 G (bZ (args := [.hs 1 0 l.length 1]) 1 0 [(1, false)] [false] (sT n l t F) (by exact ⟨aW (aC _) _, trivial⟩) (by exact ⟨aW (aC _) _, trivial⟩) rfl rfl (by kernel_rfl) (by kernel_rfl)) (.mu 1 (.ca cf0 (.mu 1 (.done (.nh [4] [.own (b.flatMap iCu), .own (t.flatMap iCu)] (.ret ?_))))))
 obtain rfl := oi hr
 exact dk.ret [.hs 1 0 t.length 1] ((Wk.gc [0] [(0, false), (1, false)] rfl (pKo iCu (aC _) b (pKo iCu (aC _) t trivial))).to)

theorem qR {g : List Int} {i : Int} {a : List Int} {b : Int} (h : ([slT iCu g, .at (.int .i64 i)] : List AV) = [slT iCu a, .at (.int .i64 b)]) : g = a /\ i = b := by
 simp only [List.cons.injEq, AV.agg.injEq, AV.at.injEq, Value.int.injEq, Value.bool.injEq, AV.fn.injEq, AV.pp.injEq, true_and, and_true, eZ] at h
 simp_all
theorem wI (n : Nat) {g : List Int} {i : Int} {a : List Int} {b : Int} (h : ([slT iCu g, .at (.int .i64 i)] : List AV) = [slT iCu a, .at (.int .i64 b)]) : gF n g i = gF n a b := by
 obtain ⟨rfl, rfl⟩ := qR h
 rfl
theorem mv (n : Nat) (g : List Int) (i : Int) (r : Int) (hr : gF n g i = some r) : aL Tryz.prog 203 [au g, ae i] (bt r) := by
 unfold gF at hr
 refine aL.bd G Tryz.func203 [.tmp 4] ?_
 unfold Tryz.f203
 simp only [gS]
 refine .seq (.r4 G [0, 1] [] (.seq (.seq (.r4 G [0, 1] [(8, aB (decide (i < (g.length : Int))))] ?_))))
 refine .cd hr ?_ ?_ <;> intro b hr
 ·refine .seq ?_
  obtain ⟨a, hr⟩ := gd hr
  refine .r0 G (.mu 2 (.p0 (v := .pp (g.flatMap iCu) (i.toNat * 1)) (tr (ar a)) (.p0 (v := bt (gt g i)) (tr (aD (aE (aF .u32) (aA a) z1 (by omega : i.toNat * 1 = i.toNat * 1 + 0) (by kernel_rfl)))) (.mu 1 (.done (.ret ?_))))))
  obtain rfl := oi hr
  exact aG.r1 [bt (gt g i)]
 refine .skip (.seq (.ru G (.ret ?_)))
 obtain rfl := oi hr
 exact aG.r1 [bt 0]

theorem qc (n : Nat) (a : List Int) (b : List Int) (r : List Int × List Int) (hr : jg n a b = some r) : aL Tryz.prog 202 [au a, au b] (.tup [au r.1, au r.2]) := by
 unfold jg at hr
 refine aL.bd G Tryz.func202 [.tmp 4, .tmp 5] ?_
 unfold Tryz.f202
 simp only [gS]
 refine .seq (.r4 G [0, 1] [] (.seq ?_))
 obtain ⟨qg, vR, hr⟩ := gd2 hr
 refine .r0 G (.mu 4 (.p0 (v := .pp (b.flatMap iCu) ((Fc ((b.length : Int) - 1)).toNat * 1)) (tr (ar qg)) (.p0 (v := bt (gt b (Fc ((b.length : Int) - 1)))) (tr (aD (aE (aF .u32) (aA qg) z1 (by omega : (Fc ((b.length : Int) - 1)).toNat * 1 = (Fc ((b.length : Int) - 1)).toNat * 1 + 0) (by kernel_rfl)))) (.mu 2 (.p0 (v := cO (wFu ((1000000000 : Int).tdiv (wFu ((wFu (gt b (Fc ((b.length : Int) - 1)))) + 1))))) (rh (x := 1000000000) (y := wFu ((wFu (gt b (Fc ((b.length : Int) - 1)))) + 1)) (by kernel_rfl) (by kernel_rfl) vR) (.mu 2 (.done (.nh [0, 1, 6] [] (.seq ?_)))))))))
 obtain ⟨Z, vF, hr⟩ := bd hr
 refine .gn G (ca4 [.own [bt (aa .u32 (wFu ((1000000000 : Int).tdiv (wFu ((wFu (gt b (Fc ((b.length : Int) - 1)))) + 1)))))]] (bZ (args := [au a, .hs 0 0 1 1]) 1 1 [(0, false)] [false, false] (nZ n a [aa .u32 (wFu ((1000000000 : Int).tdiv (wFu ((wFu (gt b (Fc ((b.length : Int) - 1)))) + 1))))] Z vF) (by exact ⟨rfl, trivial⟩) (by exact ⟨aW (aC _) _, ⟨aW (aC _) _, trivial⟩⟩) rfl rfl (by kernel_rfl) (by kernel_rfl))) (.mu 3 (.ca cf0 (.mu 1 (.done (.nh [0, 1, 6, 7] [.own ([aa .u32 (wFu ((1000000000 : Int).tdiv (wFu ((wFu (gt b (Fc ((b.length : Int) - 1)))) + 1))))].flatMap iCu), .own (Z.flatMap iCu)] (.seq ?_))))))
 obtain ⟨g, uI, hr⟩ := bd hr
 refine .gn G (ca4 [.own ([aa .u32 (wFu ((1000000000 : Int).tdiv (wFu ((wFu (gt b (Fc ((b.length : Int) - 1)))) + 1))))].flatMap iCu), .own (Z.flatMap iCu), .own [bt (aa .u32 (wFu ((1000000000 : Int).tdiv (wFu ((wFu (gt b (Fc ((b.length : Int) - 1)))) + 1)))))]] (bZ (args := [au b, .hs 2 0 1 1]) 1 1 [(2, false)] [false, false] (nZ n b [aa .u32 (wFu ((1000000000 : Int).tdiv (wFu ((wFu (gt b (Fc ((b.length : Int) - 1)))) + 1))))] g uI) (by exact ⟨rfl, trivial⟩) (by exact ⟨aW (aC _) _, ⟨aW (aC _) _, trivial⟩⟩) rfl rfl (by kernel_rfl) (by kernel_rfl))) (.mu 3 (.ca cf0 (.mu 1 (.done (.nh [0, 6, 7, 8] [.own ([aa .u32 (wFu ((1000000000 : Int).tdiv (wFu ((wFu (gt b (Fc ((b.length : Int) - 1)))) + 1))))].flatMap iCu), .own (Z.flatMap iCu), .own ([aa .u32 (wFu ((1000000000 : Int).tdiv (wFu ((wFu (gt b (Fc ((b.length : Int) - 1)))) + 1))))].flatMap iCu), .own (g.flatMap iCu)] (.seq (.r4 G [0, 6, 7, 8] [(9, ae (g.length : Int))] (.seq ?_))))))))
 obtain ⟨th, uW, hr⟩ := gd2 hr
 refine .r0 G (.mu 2 (.e0 (v := .hs 5 0 (Z ++ [(0 : Int)]).length 1) (ws := [(1, .dead), (5, .own ((Z ++ [(0 : Int)]).flatMap iCu))]) (tr (eM (new := [bt 0]) (l := Z) (xs := [(0 : Int)]) (aF .u32) rfl rfl (by kernel_rfl) th uW)) (.mu 1 (.done (.nh [0, 6, 7, 8, 9] [.own ([aa .u32 (wFu ((1000000000 : Int).tdiv (wFu ((wFu (gt b (Fc ((b.length : Int) - 1)))) + 1))))].flatMap iCu), .dead, .own ([aa .u32 (wFu ((1000000000 : Int).tdiv (wFu ((wFu (gt b (Fc ((b.length : Int) - 1)))) + 1))))].flatMap iCu), .own (g.flatMap iCu), .own [bt 0], .own ((Z ++ [(0 : Int)]).flatMap iCu)] (.seq (.seq (.r4 G [6, 7, 8, 9] [(50, aB (decide (((Z ++ [(0 : Int)]).length : Int) <= (a.length : Int))))] ?_))))))))
 replace hr := bd hr; obtain ⟨R, gU, hr⟩ := hr
 refine .vY (Q := fun x st' => x = .normal /\ Wk 0 st' ⟨mkS 266 0 [(6, bt (aa .u32 (wFu ((1000000000 : Int).tdiv (wFu ((wFu (gt b (Fc ((b.length : Int) - 1)))) + 1)))))), (7, .hs 0 0 R.length 1), (8, .hs 1 0 g.length 1), (9, ae (g.length : Int))], [.own (R.flatMap iCu), .own (g.flatMap iCu)]⟩) ?_ ?_
 ·clear hr
  have hr := gU
  clear gU
  refine .cd hr ?_ ?_ <;> intro Aj hr
  ·obtain ⟨sU, tG, hr⟩ := gd2 hr
   refine .r0 G (.mu 2 (.e0 (v := .hs 7 0 ((Z ++ [(0 : Int)]) ++ [(0 : Int)]).length 1) (ws := [(5, .dead), (7, .own (((Z ++ [(0 : Int)]) ++ [(0 : Int)]).flatMap iCu))]) (tr (eM (new := [bt 0]) (l := Z ++ [(0 : Int)]) (xs := [(0 : Int)]) (aF .u32) rfl rfl (by kernel_rfl) sU tG)) (.mu 1 (.done ?_))))
   obtain rfl := oi hr
   exact ⟨rfl, ((Wk.gc [6, 7, 8, 9] [(7, false), (3, false)] rfl (pKo iCu (aC _) ((Z ++ [(0 : Int)]) ++ [(0 : Int)]) (pKo iCu (aC _) g trivial))).to)⟩
  refine .skip ?_
  obtain rfl := oi hr
  exact ⟨rfl, ((Wk.gc [6, 7, 8, 9] [(5, false), (3, false)] rfl (pKo iCu (aC _) (Z ++ [(0 : Int)]) (pKo iCu (aC _) g trivial))).to)⟩
 rintro x st' iV
 clear gU
 obtain ⟨rfl, iV⟩ := iV
 refine .wk iV (.seq ?_)
 obtain ⟨rT, ta, vL, hr⟩ := gd3 hr
 refine .r0 G (.mu 4 (.e0 (v := .hs 2 0 (List.replicate (Fc ((R.length : Int) - (g.length : Int))).toNat ((0 : Int) : Int)).length 1) (ws := [(2, .own ((List.replicate (Fc ((R.length : Int) - (g.length : Int))).toNat ((0 : Int) : Int)).flatMap iCu))]) (tr (mO (c := iCu) (z := (0 : Int)) (n := Fc ((R.length : Int) - (g.length : Int))) (by_ := 4) rfl rT ta vL)) (.mu 1 (.done (.nh [4, 6, 7, 8, 9] [.own (R.flatMap iCu), .own (g.flatMap iCu), .own ((List.replicate (Fc ((R.length : Int) - (g.length : Int))).toNat ((0 : Int) : Int)).flatMap iCu)] (.seq (.seq (.r4 G [4, 6, 7, 8, 9] [(10, ae (Fc ((Fc ((R.length : Int) - (g.length : Int))) - 1)))] (.block ?_)))))))))
 replace hr := bd hr; obtain ⟨ko, jS, hr⟩ := hr
 refine .aH (σ := fun z0 => match z0 with | (i, q, d) => ⟨mkS 266 0 [(4, .hs 0 0 i.length 1), (6, bt (aa .u32 (wFu ((1000000000 : Int).tdiv (wFu ((wFu (gt b (Fc ((b.length : Int) - 1)))) + 1)))))), (7, .hs 1 0 q.length 1), (8, .hs 2 0 g.length 1), (9, ae (g.length : Int)), (10, ae d)], [.own (i.flatMap iCu), .own (q.flatMap iCu), .own (g.flatMap iCu)]⟩) (Q := fun x st' => match (generalizing := false) ko with | (I, J) => x = .exit 0 /\ Wk 0 st' ⟨mkS 266 0 [(4, .hs 0 0 I.length 1), (6, bt (aa .u32 (wFu ((1000000000 : Int).tdiv (wFu ((wFu (gt b (Fc ((b.length : Int) - 1)))) + 1)))))), (7, .hs 1 0 J.length 1), (9, ae (g.length : Int))], [.own (I.flatMap iCu), .own (J.flatMap iCu)]⟩) jS ((Wk.gc [4, 6, 7, 8, 9, 10] [(2, false), (0, false), (1, false)] rfl (pKo iCu (aC _) (List.replicate (Fc ((R.length : Int) - (g.length : Int))).toNat ((0 : Int) : Int)) (pKo iCu (aC _) R (pKo iCu (aC _) g trivial)))).to) ?_ ?_
 ·clear hr
  rintro m ⟨i, q, d⟩ hr
  show CQ _ _ _ _ _ ⟨_, _⟩
  refine .seq (.seq (.r4 G [4, 6, 7, 8, 9, 10] [(65, aB (decide (d >= 0)))] ?_))
  refine .cd hr ?_ ?_ <;> intro xj hr
  ·refine .skip (.seq (.block (.seq ?_)))
   obtain ⟨S, ov, hr⟩ := bd hr
   obtain ⟨kb, hr⟩ := gd hr
   refine .t1 G (gx (args := [.hs 1 0 q.length 1, ae (Fc (d + (g.length : Int)))]) (l := [1]) rfl (SnL.cons (Sn.hs rfl (.inl rfl) (SnC.pure (aW (aC _) _)) (fun h => cG h)) (Sp SnL.nil)) (mv n q (Fc (d + (g.length : Int))) S ov)) (.mu 4 (.ca cf0 (.mu 7 (.pk (v := .hp 1 (0 + (Fc ((Fc (d + (g.length : Int))) - 1)).toNat * 1)) (tr (ar kb)) (.pk (v := bt (gt q (Fc ((Fc (d + (g.length : Int))) - 1)))) (tr (aD (aE (aF .u32) (aA kb) z1 (by omega : 0 + (Fc ((Fc (d + (g.length : Int))) - 1)).toNat * 1 = (Fc ((Fc (d + (g.length : Int))) - 1)).toNat * 1 + 0) (by kernel_rfl)))) (.mu 3 ?_))))))
   refine .done ⟨by kernel_rfl, ?_⟩
   refine .nh [4, 6, 7, 8, 9, 10, 11] [.own (i.flatMap iCu), .own (q.flatMap iCu), .own (g.flatMap iCu)] (.seq ?_)
   obtain ⟨C, jW, hr⟩ := gd2 hr
   refine .eu G bJ (.mu 4 (.pk (v := .hp 2 (0 + (Fc ((g.length : Int) - 1)).toNat * 1)) (tr (ar C)) (.pk (v := bt (gt g (Fc ((g.length : Int) - 1)))) (tr (aD (aE (aF .u32) (aA C) z1 (by omega : 0 + (Fc ((g.length : Int) - 1)).toNat * 1 = (Fc ((g.length : Int) - 1)).toNat * 1 + 0) (by kernel_rfl)))) (.mu 1 (.pk (v := cO (wFu ((wFu ((wFu ((wFu S) * 1000000000)) + (wFu (gt q (Fc ((Fc (d + (g.length : Int))) - 1)))))).tdiv (wFu (gt g (Fc ((g.length : Int) - 1))))))) (rh (x := wFu ((wFu ((wFu S) * 1000000000)) + (wFu (gt q (Fc ((Fc (d + (g.length : Int))) - 1)))))) (y := wFu (gt g (Fc ((g.length : Int) - 1)))) (by kernel_rfl) (by kernel_rfl) jW) (.mu 4 (.pk (v := .hp 2 (0 + (Fc ((g.length : Int) - 1)).toNat * 1)) (tr (ar C)) (.pk (v := bt (gt g (Fc ((g.length : Int) - 1)))) (tr (aD (aE (aF .u32) (aA C) z1 (by omega : 0 + (Fc ((g.length : Int) - 1)).toNat * 1 = (Fc ((g.length : Int) - 1)).toNat * 1 + 0) (by kernel_rfl)))) (.mu 1 (.pk (v := cO ((wFu ((wFu ((wFu S) * 1000000000)) + (wFu (gt q (Fc ((Fc (d + (g.length : Int))) - 1)))))).tmod (wFu (gt g (Fc ((g.length : Int) - 1)))))) (qE (x := wFu ((wFu ((wFu S) * 1000000000)) + (wFu (gt q (Fc ((Fc (d + (g.length : Int))) - 1)))))) (y := wFu (gt g (Fc ((g.length : Int) - 1)))) (by kernel_rfl) (by kernel_rfl) jW) (.mu 2 ?_)))))))))))
   refine .done ⟨by kernel_rfl, ?_⟩
   refine .nh [4, 6, 7, 8, 9, 10, 12, 13] [.own (i.flatMap iCu), .own (q.flatMap iCu), .own (g.flatMap iCu)] (.seq (.block ?_))
   replace hr := bd hr; obtain ⟨j, ki, hr⟩ := hr
   refine .aH (σ := fun z0 => match z0 with | (L, M) => ⟨mkS 266 0 [(4, .hs 0 0 i.length 1), (6, bt (aa .u32 (wFu ((1000000000 : Int).tdiv (wFu ((wFu (gt b (Fc ((b.length : Int) - 1)))) + 1)))))), (7, .hs 1 0 q.length 1), (8, .hs 2 0 g.length 1), (9, ae (g.length : Int)), (10, ae d), (12, cO L), (13, cO M)], [.own (i.flatMap iCu), .own (q.flatMap iCu), .own (g.flatMap iCu)]⟩) (Q := fun x st' => x = .exit 2 /\ Wk 0 st' ⟨mkS 266 0 [(4, .hs 0 0 i.length 1), (6, bt (aa .u32 (wFu ((1000000000 : Int).tdiv (wFu ((wFu (gt b (Fc ((b.length : Int) - 1)))) + 1)))))), (7, .hs 1 0 q.length 1), (8, .hs 2 0 g.length 1), (9, ae (g.length : Int)), (10, ae d), (12, cO j)], [.own (i.flatMap iCu), .own (q.flatMap iCu), .own (g.flatMap iCu)]⟩) ki ((Wk.gc [4, 6, 7, 8, 9, 10, 12, 13] kF3 rfl (pKo iCu (aC _) i (pKo iCu (aC _) q (pKo iCu (aC _) g trivial)))).to) ?_ ?_
   ·clear hr
    rintro m ⟨L, M⟩ hr
    show CQ _ _ _ _ _ ⟨_, _⟩
    refine .seq (.seq ?_)
    rcases bT (decide (L >= 1000000000)) with N | N
    ·replace hr := cy N hr
     refine .eu G bJ (.mu 1 (.pk (v := aB true) (eB N) (.mu 22 ?_)))
     refine .done ⟨by kernel_rfl, ?_⟩
     refine .nh [4, 6, 7, 8, 9, 10, 12, 13, 123] [.own (i.flatMap iCu), .own (q.flatMap iCu), .own (g.flatMap iCu)] (.cT (by kernel_rfl) (.skip (.block (.seq (.r4 G [4, 6, 7, 8, 9, 10, 13] [(12, cO (wFu (L - 1)))] (.seq (.r0 G (.mu 4 (.p0 (v := .hp 2 (0 + (Fc ((g.length : Int) - 1)).toNat * 1)) (tr (ar C)) (.p0 (v := bt (gt g (Fc ((g.length : Int) - 1)))) (tr (aD (aE (aF .u32) (aA C) z1 (by omega : 0 + (Fc ((g.length : Int) - 1)).toNat * 1 = (Fc ((g.length : Int) - 1)).toNat * 1 + 0) (by kernel_rfl)))) (.mu 3 (.done (.nh [4, 6, 7, 8, 9, 10, 12, 13] [.own (i.flatMap iCu), .own (q.flatMap iCu), .own (g.flatMap iCu)] (.seq (.r4 G [4, 6, 7, 8, 9, 10, 12, 13] [(135, aB (decide ((wFu (M + (wFu (gt g (Fc ((g.length : Int) - 1)))))) >= 1000000000)))] ?_)))))))))))))))
     refine .cd hr ?_ ?_ <;> intro wS hr
     ·refine .leave rfl ?_
      obtain rfl := oi hr
      exact ⟨rfl, ((Wk.gc [4, 6, 7, 8, 9, 10, 12] kF3 rfl (pKo iCu (aC _) i (pKo iCu (aC _) q (pKo iCu (aC _) g trivial)))).to)⟩
     refine .skip (.pop ?_)
     exact az (wFu (L - 1), wFu (M + (wFu (gt g (Fc ((g.length : Int) - 1)))))) hr ((Wk.gc [4, 6, 7, 8, 9, 10, 12, 13] kF3 rfl (pKo iCu (aC _) i (pKo iCu (aC _) q (pKo iCu (aC _) g trivial)))).to)
    replace hr := cz N hr
    obtain ⟨kE, lP, hr⟩ := gd2 hr
    refine .eu G bJ (.mu 1 (.pk (v := aB false) (eB N) (.mu 5 (.pk (v := .hp 2 (0 + (Fc ((g.length : Int) - 2)).toNat * 1)) (tr (ar kE)) (.pk (v := bt (gt g (Fc ((g.length : Int) - 2)))) (tr (aD (aE (aF .u32) (aA kE) z1 (by omega : 0 + (Fc ((g.length : Int) - 2)).toNat * 1 = (Fc ((g.length : Int) - 2)).toNat * 1 + 0) (by kernel_rfl)))) (.mu 9 (.pk (v := .hp 1 (0 + (Fc ((Fc (d + (g.length : Int))) - 2)).toNat * 1)) (tr (ar lP)) (.pk (v := bt (gt q (Fc ((Fc (d + (g.length : Int))) - 2)))) (tr (aD (aE (aF .u32) (aA lP) z1 (by omega : 0 + (Fc ((Fc (d + (g.length : Int))) - 2)).toNat * 1 = (Fc ((Fc (d + (g.length : Int))) - 2)).toNat * 1 + 0) (by kernel_rfl)))) (.mu 4 ?_)))))))))
    refine .done ⟨by kernel_rfl, ?_⟩
    refine .nh [4, 6, 7, 8, 9, 10, 12, 13, 123] [.own (i.flatMap iCu), .own (q.flatMap iCu), .own (g.flatMap iCu)] ?_
    refine .cd hr ?_ ?_ <;> intro wQ hr
    ·refine .skip (.block (.seq (.r4 G [4, 6, 7, 8, 9, 10, 13] [(12, cO (wFu (L - 1)))] (.seq (.r0 G (.mu 4 (.p0 (v := .hp 2 (0 + (Fc ((g.length : Int) - 1)).toNat * 1)) (tr (ar C)) (.p0 (v := bt (gt g (Fc ((g.length : Int) - 1)))) (tr (aD (aE (aF .u32) (aA C) z1 (by omega : 0 + (Fc ((g.length : Int) - 1)).toNat * 1 = (Fc ((g.length : Int) - 1)).toNat * 1 + 0) (by kernel_rfl)))) (.mu 3 (.done (.nh [4, 6, 7, 8, 9, 10, 12, 13] [.own (i.flatMap iCu), .own (q.flatMap iCu), .own (g.flatMap iCu)] (.seq (.r4 G [4, 6, 7, 8, 9, 10, 12, 13] [(135, aB (decide ((wFu (M + (wFu (gt g (Fc ((g.length : Int) - 1)))))) >= 1000000000)))] ?_)))))))))))))
     refine .cd hr ?_ ?_ <;> intro w7 hr
     ·refine .leave rfl ?_
      obtain rfl := oi hr
      exact ⟨rfl, ((Wk.gc [4, 6, 7, 8, 9, 10, 12] kF3 rfl (pKo iCu (aC _) i (pKo iCu (aC _) q (pKo iCu (aC _) g trivial)))).to)⟩
     refine .skip (.pop ?_)
     exact az (wFu (L - 1), wFu (M + (wFu (gt g (Fc ((g.length : Int) - 1)))))) hr ((Wk.gc [4, 6, 7, 8, 9, 10, 12, 13] kF3 rfl (pKo iCu (aC _) i (pKo iCu (aC _) q (pKo iCu (aC _) g trivial)))).to)
    refine .leave rfl ?_
    obtain rfl := oi hr
    exact ⟨rfl, ((Wk.gc [4, 6, 7, 8, 9, 10, 12] kF3 rfl (pKo iCu (aC _) i (pKo iCu (aC _) q (pKo iCu (aC _) g trivial)))).to)⟩
   rintro x st' T
   clear ki
   obtain ⟨rfl, T⟩ := T
   refine aQ _ rfl (.wk T (.seq (.r4 G [4, 6, 7, 8, 9, 10, 12] [(14, ae 0), (15, cO 0)] (.seq (.seq (.r4 G [4, 6, 7, 8, 9, 10, 12, 14, 15] [(136, ae (g.length : Int)), (137, ae 0)] (.block ?_)))))))
   replace hr := bd hr; obtain ⟨ky, lE, hr⟩ := hr
   refine .aH (σ := fun z0 => match z0 with | (k, u, s, e) => ⟨mkS 266 0 [(4, .hs 0 0 i.length 1), (6, bt (aa .u32 (wFu ((1000000000 : Int).tdiv (wFu ((wFu (gt b (Fc ((b.length : Int) - 1)))) + 1)))))), (7, .hs 1 0 k.length 1), (8, .hs 2 0 g.length 1), (9, ae (g.length : Int)), (10, ae d), (12, cO j), (14, ae u), (15, cO s), (136, ae (g.length : Int)), (137, ae e)], [.own (i.flatMap iCu), .own (k.flatMap iCu), .own (g.flatMap iCu)]⟩) (Q := fun x st' => match (generalizing := false) ky with | (o, w, A) => x = .exit 4 /\ Wk 0 st' ⟨mkS 266 0 [(4, .hs 0 0 i.length 1), (6, bt (aa .u32 (wFu ((1000000000 : Int).tdiv (wFu ((wFu (gt b (Fc ((b.length : Int) - 1)))) + 1)))))), (7, .hs 1 0 o.length 1), (8, .hs 2 0 g.length 1), (9, ae (g.length : Int)), (10, ae d), (12, cO j), (14, ae w), (15, cO A)], [.own (i.flatMap iCu), .own (o.flatMap iCu), .own (g.flatMap iCu)]⟩) lE ((Wk.gc [4, 6, 7, 8, 9, 10, 12, 14, 15, 136, 137] kF3 rfl (pKo iCu (aC _) i (pKo iCu (aC _) q (pKo iCu (aC _) g trivial)))).to) ?_ ?_
   ·clear hr
    rintro m ⟨k, u, s, e⟩ hr
    show CQ _ _ _ _ _ ⟨_, _⟩
    refine .seq (.r4 G [4, 6, 7, 8, 9, 10, 12, 14, 15, 136, 137] [(138, aB (decide (e < (g.length : Int))))] (.seq ?_))
    refine .cd hr ?_ ?_ <;> intro w6 hr
    ·refine .skip (.seq (.block (.seq (.r4 G [4, 6, 7, 8, 9, 10, 12, 14, 15, 136, 137] [(16, ae e)] (.seq ?_)))))
     obtain ⟨mM, hr⟩ := gd hr
     refine .r0 G (.mu 3 (.p0 (v := .hp 2 (0 + e.toNat * 1)) (tr (ar mM)) (.p0 (v := bt (gt g e)) (tr (aD (aE (aF .u32) (aA mM) z1 (by omega : 0 + e.toNat * 1 = e.toNat * 1 + 0) (by kernel_rfl)))) (.mu 5 (.done (.nh [4, 6, 7, 8, 9, 10, 12, 14, 16, 17, 136, 137] [.own (i.flatMap iCu), .own (k.flatMap iCu), .own (g.flatMap iCu)] (.seq (.r4 G [4, 6, 7, 8, 9, 10, 12, 14, 16, 17, 136, 137] [(15, cO (wFu ((wFu ((wFu (j * (wFu (gt g e)))) + s)).tdiv 1000000000)))] (.seq ?_)))))))))
     obtain ⟨D, hr⟩ := gd hr
     refine .r0 G (.mu 4 (.p0 (v := .hp 1 (0 + (Fc (e + d)).toNat * 1)) (tr (ar D)) (.p0 (v := bt (gt k (Fc (e + d)))) (tr (aD (aE (aF .u32) (aA D) z1 (by omega : 0 + (Fc (e + d)).toNat * 1 = (Fc (e + d)).toNat * 1 + 0) (by kernel_rfl)))) (.mu 8 (.done (.nh [4, 6, 7, 8, 9, 10, 12, 15, 16, 18, 136, 137] [.own (i.flatMap iCu), .own (k.flatMap iCu), .own (g.flatMap iCu)] (.seq (.r4 G [4, 6, 7, 8, 9, 10, 12, 15, 16, 18, 136, 137] [(14, ae 0)] (.seq (.seq (.r4 G [4, 6, 7, 8, 9, 10, 12, 14, 15, 16, 18, 136, 137] [(165, aB (decide ((Fc ((Fc ((Fc (gt k (Fc (e + d)))) - u)) - (Fc ((wFu ((wFu (j * (wFu (gt g e)))) + s)).tmod 1000000000)))) < 0)))] ?_)))))))))))
     refine .cd hr ?_ ?_ <;> intro w9 hr
     ·refine .r4 G [4, 6, 7, 8, 9, 10, 12, 15, 16, 136, 137] [(14, ae 1), (18, ae (Fc ((Fc ((Fc ((Fc (gt k (Fc (e + d)))) - u)) - (Fc ((wFu ((wFu (j * (wFu (gt g e)))) + s)).tmod 1000000000)))) + 1000000000)))] (.r0 G (.mu 6 (.p0 (v := .hp 1 (0 + (Fc (e + d)).toNat * 1)) (tr (ar D)) (.e0 (v := .unk) (ws := [(1, .own ((k.set (Fc (e + d)).toNat (aa .u32 (Fc ((Fc ((Fc ((Fc (gt k (Fc (e + d)))) - u)) - (Fc ((wFu ((wFu (j * (wFu (gt g e)))) + s)).tmod 1000000000)))) + 1000000000)))).flatMap iCu))]) (tr (iF (iH (ct (n := 1) (aF .u32) (aA D) (lbT rfl) (by omega : 0 + (Fc (e + d)).toNat * 1 = (Fc (e + d)).toNat * 1 + 0))) (congrArg Blk.own (cS (xs := [bt (aa .u32 (Fc ((Fc ((Fc ((Fc (gt k (Fc (e + d)))) - u)) - (Fc ((wFu ((wFu (j * (wFu (gt g e)))) + s)).tmod 1000000000)))) + 1000000000)))]) (aF .u32) (aA D) (lbT rfl) (by omega : 0 + (Fc (e + d)).toNat * 1 = (Fc (e + d)).toNat * 1 + 0) (by kernel_rfl))))) (.done (.pop (.ru G ?_)))))))
      exact az (k.set (Fc (e + d)).toNat (aa .u32 (Fc ((Fc ((Fc ((Fc (gt k (Fc (e + d)))) - u)) - (Fc ((wFu ((wFu (j * (wFu (gt g e)))) + s)).tmod 1000000000)))) + 1000000000))), 1, wFu ((wFu ((wFu (j * (wFu (gt g e)))) + s)).tdiv 1000000000), Fc (e + 1)) hr ((Wk.iQ 7 (b := 1) (es := 1) (len := k.length) (k.set (Fc (e + d)).toNat (aa .u32 (Fc ((Fc ((Fc ((Fc (gt k (Fc (e + d)))) - u)) - (Fc ((wFu ((wFu (j * (wFu (gt g e)))) + s)).tmod 1000000000)))) + 1000000000)))).length (by kernel_rfl) (Eq.symm (List.length_set.trans rfl))).trans ((Wk.gc [4, 6, 7, 8, 9, 10, 12, 14, 15, 136, 137] kF3 rfl (pKo iCu (aC _) i (pKo iCu (aC _) (k.set (Fc (e + d)).toNat (aa .u32 (Fc ((Fc ((Fc ((Fc (gt k (Fc (e + d)))) - u)) - (Fc ((wFu ((wFu (j * (wFu (gt g e)))) + s)).tmod 1000000000)))) + 1000000000)))) (pKo iCu (aC _) g trivial)))).to))
     refine .skip (.r0 G (.mu 6 (.p0 (v := .hp 1 (0 + (Fc (e + d)).toNat * 1)) (tr (ar D)) (.e0 (v := .unk) (ws := [(1, .own ((k.set (Fc (e + d)).toNat (aa .u32 (Fc ((Fc ((Fc (gt k (Fc (e + d)))) - u)) - (Fc ((wFu ((wFu (j * (wFu (gt g e)))) + s)).tmod 1000000000)))))).flatMap iCu))]) (tr (iF (iH (ct (n := 1) (aF .u32) (aA D) (lbT rfl) (by omega : 0 + (Fc (e + d)).toNat * 1 = (Fc (e + d)).toNat * 1 + 0))) (congrArg Blk.own (cS (xs := [bt (aa .u32 (Fc ((Fc ((Fc (gt k (Fc (e + d)))) - u)) - (Fc ((wFu ((wFu (j * (wFu (gt g e)))) + s)).tmod 1000000000)))))]) (aF .u32) (aA D) (lbT rfl) (by omega : 0 + (Fc (e + d)).toNat * 1 = (Fc (e + d)).toNat * 1 + 0) (by kernel_rfl))))) (.done (.pop (.ru G ?_)))))))
     exact az (k.set (Fc (e + d)).toNat (aa .u32 (Fc ((Fc ((Fc (gt k (Fc (e + d)))) - u)) - (Fc ((wFu ((wFu (j * (wFu (gt g e)))) + s)).tmod 1000000000))))), 0, wFu ((wFu ((wFu (j * (wFu (gt g e)))) + s)).tdiv 1000000000), Fc (e + 1)) hr ((Wk.iQ 7 (b := 1) (es := 1) (len := k.length) (k.set (Fc (e + d)).toNat (aa .u32 (Fc ((Fc ((Fc (gt k (Fc (e + d)))) - u)) - (Fc ((wFu ((wFu (j * (wFu (gt g e)))) + s)).tmod 1000000000)))))).length (by kernel_rfl) (Eq.symm (List.length_set.trans rfl))).trans ((Wk.gc [4, 6, 7, 8, 9, 10, 12, 14, 15, 136, 137] kF3 rfl (pKo iCu (aC _) i (pKo iCu (aC _) (k.set (Fc (e + d)).toNat (aa .u32 (Fc ((Fc ((Fc (gt k (Fc (e + d)))) - u)) - (Fc ((wFu ((wFu (j * (wFu (gt g e)))) + s)).tmod 1000000000)))))) (pKo iCu (aC _) g trivial)))).to))
    refine .leave rfl ?_
    obtain rfl := oi hr
    exact ⟨rfl, ((Wk.gc [4, 6, 7, 8, 9, 10, 12, 14, 15] kF3 rfl (pKo iCu (aC _) i (pKo iCu (aC _) k (pKo iCu (aC _) g trivial)))).to)⟩
   rcases ky with ⟨o, w, A⟩
   rintro x st' U
   clear lE
   obtain ⟨rfl, U⟩ := U
   refine aQ _ rfl (.wk U (.seq ?_))
   obtain ⟨E, hr⟩ := gd hr
   refine .r0 G (.mu 4 (.p0 (v := .hp 1 (0 + (Fc (d + (g.length : Int))).toNat * 1)) (tr (ar E)) (.p0 (v := bt (gt o (Fc (d + (g.length : Int))))) (tr (aD (aE (aF .u32) (aA E) z1 (by omega : 0 + (Fc (d + (g.length : Int))).toNat * 1 = (Fc (d + (g.length : Int))).toNat * 1 + 0) (by kernel_rfl)))) (.mu 7 (.done (.nh [4, 6, 7, 8, 9, 10, 12, 19] [.own (i.flatMap iCu), .own (o.flatMap iCu), .own (g.flatMap iCu)] (.seq (.seq (.r4 G [4, 6, 7, 8, 9, 10, 12, 19] [(189, aB (decide ((Fc ((Fc ((Fc (gt o (Fc (d + (g.length : Int))))) - w)) - (Fc A))) < 0)))] ?_)))))))))
   refine .cd hr ?_ ?_ <;> intro wV hr
   ·refine .seq (.r0 G (.mu 7 (.p0 (v := .hp 1 (0 + (Fc (d + (g.length : Int))).toNat * 1)) (tr (ar E)) (.e0 (v := .unk) (ws := [(1, .own ((o.set (Fc (d + (g.length : Int))).toNat (aa .u32 (Fc ((Fc ((Fc ((Fc (gt o (Fc (d + (g.length : Int))))) - w)) - (Fc A))) + 1000000000)))).flatMap iCu))]) (tr (iF (iH (ct (n := 1) (aF .u32) (aA E) (lbT rfl) (by omega : 0 + (Fc (d + (g.length : Int))).toNat * 1 = (Fc (d + (g.length : Int))).toNat * 1 + 0))) (congrArg Blk.own (cS (xs := [bt (aa .u32 (Fc ((Fc ((Fc ((Fc (gt o (Fc (d + (g.length : Int))))) - w)) - (Fc A))) + 1000000000)))]) (aF .u32) (aA E) (lbT rfl) (by omega : 0 + (Fc (d + (g.length : Int))).toNat * 1 = (Fc (d + (g.length : Int))).toNat * 1 + 0) (by kernel_rfl))))) (.done (.nh [4, 6, 7, 8, 9, 10, 12] [.own (i.flatMap iCu), .own ((o.set (Fc (d + (g.length : Int))).toNat (aa .u32 (Fc ((Fc ((Fc ((Fc (gt o (Fc (d + (g.length : Int))))) - w)) - (Fc A))) + 1000000000)))).flatMap iCu), .own (g.flatMap iCu)] (.seq (.r4 G [4, 6, 7, 8, 9, 10] [(12, cO (wFu (j - 1)))] (.seq (.r4 G [4, 6, 7, 8, 9, 10, 12] [(20, bt 0)] (.seq (.seq (.r4 G [4, 6, 7, 8, 9, 10, 12, 20] [(200, ae (g.length : Int)), (201, ae 0)] (.block ?_))))))))))))))
    replace hr := bd hr; obtain ⟨kZ, iZ, hr⟩ := hr
    refine .aH (σ := fun z0 => match z0 with | (p, B, f) => ⟨mkS 266 0 [(4, .hs 0 0 i.length 1), (6, bt (aa .u32 (wFu ((1000000000 : Int).tdiv (wFu ((wFu (gt b (Fc ((b.length : Int) - 1)))) + 1)))))), (7, .hs 1 0 p.length 1), (8, .hs 2 0 g.length 1), (9, ae (g.length : Int)), (10, ae d), (12, cO (wFu (j - 1))), (20, bt B), (200, ae (g.length : Int)), (201, ae f)], [.own (i.flatMap iCu), .own (p.flatMap iCu), .own (g.flatMap iCu)]⟩) (Q := fun x st' => match (generalizing := false) kZ with | (t, F) => x = .exit 6 /\ Wk 0 st' ⟨mkS 266 0 [(4, .hs 0 0 i.length 1), (6, bt (aa .u32 (wFu ((1000000000 : Int).tdiv (wFu ((wFu (gt b (Fc ((b.length : Int) - 1)))) + 1)))))), (7, .hs 1 0 t.length 1), (8, .hs 2 0 g.length 1), (9, ae (g.length : Int)), (10, ae d), (12, cO (wFu (j - 1))), (20, bt F)], [.own (i.flatMap iCu), .own (t.flatMap iCu), .own (g.flatMap iCu)]⟩) iZ ((Wk.iQ 7 (b := 1) (es := 1) (len := o.length) (o.set (Fc (d + (g.length : Int))).toNat (aa .u32 (Fc ((Fc ((Fc ((Fc (gt o (Fc (d + (g.length : Int))))) - w)) - (Fc A))) + 1000000000)))).length (by kernel_rfl) (Eq.symm (List.length_set.trans rfl))).trans ((Wk.gc [4, 6, 7, 8, 9, 10, 12, 20, 200, 201] kF3 rfl (pKo iCu (aC _) i (pKo iCu (aC _) (o.set (Fc (d + (g.length : Int))).toNat (aa .u32 (Fc ((Fc ((Fc ((Fc (gt o (Fc (d + (g.length : Int))))) - w)) - (Fc A))) + 1000000000)))) (pKo iCu (aC _) g trivial)))).to)) ?_ ?_
    ·clear hr
     rintro m ⟨p, B, f⟩ hr
     show CQ _ _ _ _ _ ⟨_, _⟩
     refine .seq (.r4 G [4, 6, 7, 8, 9, 10, 12, 20, 200, 201] [(202, aB (decide (f < (g.length : Int))))] (.seq ?_))
     refine .cd hr ?_ ?_ <;> intro yY hr
     ·refine .skip (.seq (.block (.seq (.r4 G [4, 6, 7, 8, 9, 10, 12, 20, 200, 201] [(21, ae f)] (.seq ?_)))))
      obtain ⟨H, jQ, hr⟩ := gd2 hr
      refine .eu G bJ (.mu 4 (.pk (v := .hp 1 (0 + (Fc (f + d)).toNat * 1)) (tr (ar H)) (.pk (v := bt (gt p (Fc (f + d)))) (tr (aD (aE (aF .u32) (aA H) z1 (by omega : 0 + (Fc (f + d)).toNat * 1 = (Fc (f + d)).toNat * 1 + 0) (by kernel_rfl)))) (.mu 2 (.pk (v := .hp 2 (0 + f.toNat * 1)) (tr (ar jQ)) (.pk (v := bt (gt g f)) (tr (aD (aE (aF .u32) (aA jQ) z1 (by omega : 0 + f.toNat * 1 = f.toNat * 1 + 0) (by kernel_rfl)))) (.mu 4 ?_)))))))
      refine .done ⟨by kernel_rfl, ?_⟩
      refine .nh [4, 6, 7, 8, 9, 10, 12, 21, 22, 200, 201] [.own (i.flatMap iCu), .own (p.flatMap iCu), .own (g.flatMap iCu)] (.seq (.r4 G [4, 6, 7, 8, 9, 10, 12, 21, 22, 200, 201] [(20, bt 0)] (.seq (.seq (.r4 G [4, 6, 7, 8, 9, 10, 12, 20, 21, 22, 200, 201] [(218, aB (decide ((aa .u32 ((aa .u32 ((gt p (Fc (f + d))) + (gt g f))) + B)) >= 1000000000)))] ?_)))))
      refine .cd hr ?_ ?_ <;> intro zX hr
      ·refine .r4 G [4, 6, 7, 8, 9, 10, 12, 21, 200, 201] [(20, bt 1), (22, bt (aa .u32 ((aa .u32 ((aa .u32 ((gt p (Fc (f + d))) + (gt g f))) + B)) - 1000000000)))] (.r0 G (.mu 5 (.p0 (v := .hp 1 (0 + (Fc (f + d)).toNat * 1)) (tr (ar H)) (.e0 (v := .unk) (ws := [(1, .own ((p.set (Fc (f + d)).toNat (aa .u32 ((aa .u32 ((aa .u32 ((gt p (Fc (f + d))) + (gt g f))) + B)) - 1000000000))).flatMap iCu))]) (tr (iF (iH (ct (n := 1) (aF .u32) (aA H) (lbT rfl) (by omega : 0 + (Fc (f + d)).toNat * 1 = (Fc (f + d)).toNat * 1 + 0))) (congrArg Blk.own (cS (xs := [bt (aa .u32 ((aa .u32 ((aa .u32 ((gt p (Fc (f + d))) + (gt g f))) + B)) - 1000000000))]) (aF .u32) (aA H) (lbT rfl) (by omega : 0 + (Fc (f + d)).toNat * 1 = (Fc (f + d)).toNat * 1 + 0) (by kernel_rfl))))) (.done (.pop (.ru G ?_)))))))
       exact az (p.set (Fc (f + d)).toNat (aa .u32 ((aa .u32 ((aa .u32 ((gt p (Fc (f + d))) + (gt g f))) + B)) - 1000000000)), 1, Fc (f + 1)) hr ((Wk.iQ 7 (b := 1) (es := 1) (len := p.length) (p.set (Fc (f + d)).toNat (aa .u32 ((aa .u32 ((aa .u32 ((gt p (Fc (f + d))) + (gt g f))) + B)) - 1000000000))).length (by kernel_rfl) (Eq.symm (List.length_set.trans rfl))).trans ((Wk.gc [4, 6, 7, 8, 9, 10, 12, 20, 200, 201] kF3 rfl (pKo iCu (aC _) i (pKo iCu (aC _) (p.set (Fc (f + d)).toNat (aa .u32 ((aa .u32 ((aa .u32 ((gt p (Fc (f + d))) + (gt g f))) + B)) - 1000000000))) (pKo iCu (aC _) g trivial)))).to))
      refine .skip (.r0 G (.mu 5 (.p0 (v := .hp 1 (0 + (Fc (f + d)).toNat * 1)) (tr (ar H)) (.e0 (v := .unk) (ws := [(1, .own ((p.set (Fc (f + d)).toNat (aa .u32 ((aa .u32 ((gt p (Fc (f + d))) + (gt g f))) + B))).flatMap iCu))]) (tr (iF (iH (ct (n := 1) (aF .u32) (aA H) (lbT rfl) (by omega : 0 + (Fc (f + d)).toNat * 1 = (Fc (f + d)).toNat * 1 + 0))) (congrArg Blk.own (cS (xs := [bt (aa .u32 ((aa .u32 ((gt p (Fc (f + d))) + (gt g f))) + B))]) (aF .u32) (aA H) (lbT rfl) (by omega : 0 + (Fc (f + d)).toNat * 1 = (Fc (f + d)).toNat * 1 + 0) (by kernel_rfl))))) (.done (.pop (.ru G ?_)))))))
      exact az (p.set (Fc (f + d)).toNat (aa .u32 ((aa .u32 ((gt p (Fc (f + d))) + (gt g f))) + B)), 0, Fc (f + 1)) hr ((Wk.iQ 7 (b := 1) (es := 1) (len := p.length) (p.set (Fc (f + d)).toNat (aa .u32 ((aa .u32 ((gt p (Fc (f + d))) + (gt g f))) + B))).length (by kernel_rfl) (Eq.symm (List.length_set.trans rfl))).trans ((Wk.gc [4, 6, 7, 8, 9, 10, 12, 20, 200, 201] kF3 rfl (pKo iCu (aC _) i (pKo iCu (aC _) (p.set (Fc (f + d)).toNat (aa .u32 ((aa .u32 ((gt p (Fc (f + d))) + (gt g f))) + B))) (pKo iCu (aC _) g trivial)))).to))
     refine .leave rfl ?_
     obtain rfl := oi hr
     exact ⟨rfl, ((Wk.gc [4, 6, 7, 8, 9, 10, 12, 20] kF3 rfl (pKo iCu (aC _) i (pKo iCu (aC _) p (pKo iCu (aC _) g trivial)))).to)⟩
    rcases kZ with ⟨t, F⟩
    rintro x st' V
    clear iZ
    obtain ⟨rfl, V⟩ := V
    refine aQ _ rfl (.wk V ?_)
    obtain ⟨O, hr⟩ := gd hr
    refine .r0 G (.mu 8 (.p0 (v := .hp 1 (0 + (Fc (d + (g.length : Int))).toNat * 1)) (tr (ar O)) (.p0 (v := bt (gt t (Fc (d + (g.length : Int))))) (tr (aD (aE (aF .u32) (aA O) z1 (by omega : 0 + (Fc (d + (g.length : Int))).toNat * 1 = (Fc (d + (g.length : Int))).toNat * 1 + 0) (by kernel_rfl)))) (.mu 3 (.p0 (v := .hp 1 (0 + (Fc (d + (g.length : Int))).toNat * 1)) (tr (ar O)) (.e0 (v := .unk) (ws := [(1, .own ((t.set (Fc (d + (g.length : Int))).toNat ((aa .u32 ((gt t (Fc (d + (g.length : Int)))) + F)).tmod 1000000000)).flatMap iCu))]) (tr (iF (iH (ct (n := 1) (aF .u32) (aA O) (lbT rfl) (by omega : 0 + (Fc (d + (g.length : Int))).toNat * 1 = (Fc (d + (g.length : Int))).toNat * 1 + 0))) (congrArg Blk.own (cS (xs := [bt ((aa .u32 ((gt t (Fc (d + (g.length : Int)))) + F)).tmod 1000000000)]) (aF .u32) (aA O) (lbT rfl) (by omega : 0 + (Fc (d + (g.length : Int))).toNat * 1 = (Fc (d + (g.length : Int))).toNat * 1 + 0) (by kernel_rfl))))) (.done (.nh [4, 6, 7, 8, 9, 10, 12] [.own (i.flatMap iCu), .own ((t.set (Fc (d + (g.length : Int))).toNat ((aa .u32 ((gt t (Fc (d + (g.length : Int)))) + F)).tmod 1000000000)).flatMap iCu), .own (g.flatMap iCu)] ?_))))))))
    obtain ⟨W, hr⟩ := gd hr
    refine .r0 G (.mu 4 (.p0 (v := .hp 0 (0 + d.toNat * 1)) (tr (ar W)) (.e0 (v := .unk) (ws := [(0, .own ((i.set d.toNat (aa .u32 (wFu (j - 1)))).flatMap iCu))]) (tr (iF (iH (ct (n := 1) (aF .u32) (aA W) (lbT rfl) (by omega : 0 + d.toNat * 1 = d.toNat * 1 + 0))) (congrArg Blk.own (cS (xs := [bt (aa .u32 (wFu (j - 1)))]) (aF .u32) (aA W) (lbT rfl) (by omega : 0 + d.toNat * 1 = d.toNat * 1 + 0) (by kernel_rfl))))) (.done (.pop (.ru G ?_))))))
    exact az (i.set d.toNat (aa .u32 (wFu (j - 1))), t.set (Fc (d + (g.length : Int))).toNat ((aa .u32 ((gt t (Fc (d + (g.length : Int)))) + F)).tmod 1000000000), Fc (d - 1)) hr ((Wk.iQ 4 (b := 0) (es := 1) (len := i.length) (i.set d.toNat (aa .u32 (wFu (j - 1)))).length (by kernel_rfl) (Eq.symm (List.length_set.trans rfl))).trans ((Wk.iQ 7 (b := 1) (es := 1) (len := t.length) (t.set (Fc (d + (g.length : Int))).toNat ((aa .u32 ((gt t (Fc (d + (g.length : Int)))) + F)).tmod 1000000000)).length (by kernel_rfl) (Eq.symm (List.length_set.trans rfl))).trans ((Wk.gc [4, 6, 7, 8, 9, 10] kF3 rfl (pKo iCu (aC _) (i.set d.toNat (aa .u32 (wFu (j - 1)))) (pKo iCu (aC _) (t.set (Fc (d + (g.length : Int))).toNat ((aa .u32 ((gt t (Fc (d + (g.length : Int)))) + F)).tmod 1000000000)) (pKo iCu (aC _) g trivial)))).to)))
   refine .r0 G (.mu 6 (.p0 (v := .hp 1 (0 + (Fc (d + (g.length : Int))).toNat * 1)) (tr (ar E)) (.e0 (v := .unk) (ws := [(1, .own ((o.set (Fc (d + (g.length : Int))).toNat (aa .u32 (Fc ((Fc ((Fc (gt o (Fc (d + (g.length : Int))))) - w)) - (Fc A))))).flatMap iCu))]) (tr (iF (iH (ct (n := 1) (aF .u32) (aA E) (lbT rfl) (by omega : 0 + (Fc (d + (g.length : Int))).toNat * 1 = (Fc (d + (g.length : Int))).toNat * 1 + 0))) (congrArg Blk.own (cS (xs := [bt (aa .u32 (Fc ((Fc ((Fc (gt o (Fc (d + (g.length : Int))))) - w)) - (Fc A))))]) (aF .u32) (aA E) (lbT rfl) (by omega : 0 + (Fc (d + (g.length : Int))).toNat * 1 = (Fc (d + (g.length : Int))).toNat * 1 + 0) (by kernel_rfl))))) (.done (.nh [4, 6, 7, 8, 9, 10, 12] [.own (i.flatMap iCu), .own ((o.set (Fc (d + (g.length : Int))).toNat (aa .u32 (Fc ((Fc ((Fc (gt o (Fc (d + (g.length : Int))))) - w)) - (Fc A))))).flatMap iCu), .own (g.flatMap iCu)] ?_)))))
   obtain ⟨X, hr⟩ := gd hr
   refine .r0 G (.mu 4 (.p0 (v := .hp 0 (0 + d.toNat * 1)) (tr (ar X)) (.e0 (v := .unk) (ws := [(0, .own ((i.set d.toNat (aa .u32 j)).flatMap iCu))]) (tr (iF (iH (ct (n := 1) (aF .u32) (aA X) (lbT rfl) (by omega : 0 + d.toNat * 1 = d.toNat * 1 + 0))) (congrArg Blk.own (cS (xs := [bt (aa .u32 j)]) (aF .u32) (aA X) (lbT rfl) (by omega : 0 + d.toNat * 1 = d.toNat * 1 + 0) (by kernel_rfl))))) (.done (.pop (.ru G ?_))))))
   exact az (i.set d.toNat (aa .u32 j), o.set (Fc (d + (g.length : Int))).toNat (aa .u32 (Fc ((Fc ((Fc (gt o (Fc (d + (g.length : Int))))) - w)) - (Fc A)))), Fc (d - 1)) hr ((Wk.iQ 4 (b := 0) (es := 1) (len := i.length) (i.set d.toNat (aa .u32 j)).length (by kernel_rfl) (Eq.symm (List.length_set.trans rfl))).trans ((Wk.iQ 7 (b := 1) (es := 1) (len := o.length) (o.set (Fc (d + (g.length : Int))).toNat (aa .u32 (Fc ((Fc ((Fc (gt o (Fc (d + (g.length : Int))))) - w)) - (Fc A))))).length (by kernel_rfl) (Eq.symm (List.length_set.trans rfl))).trans ((Wk.gc [4, 6, 7, 8, 9, 10] kF3 rfl (pKo iCu (aC _) (i.set d.toNat (aa .u32 j)) (pKo iCu (aC _) (o.set (Fc (d + (g.length : Int))).toNat (aa .u32 (Fc ((Fc ((Fc (gt o (Fc (d + (g.length : Int))))) - w)) - (Fc A))))) (pKo iCu (aC _) g trivial)))).to)))
  refine .leave rfl ?_
  obtain rfl := oi hr
  exact ⟨rfl, ((Wk.gc [4, 6, 7, 9] [(0, false), (1, false)] rfl (pKo iCu (aC _) i (pKo iCu (aC _) q trivial))).to)⟩
 rcases ko with ⟨I, J⟩
 rintro x st' Y
 clear jS
 obtain ⟨rfl, Y⟩ := Y
 refine aQ _ rfl (.wk Y (.seq ?_))
 obtain ⟨jN, hr⟩ := gd hr
 obtain ⟨l5, p7, nE, q8, hr⟩ := bd2 hr
 refine .gn G (ca1 (cK (args := [.hs 1 0 (g.length : Int).toNat 1]) (l := [1]) (SnL.cons (Sn.hsk (aF _) (aC _) (qJ jN) rfl (.inl rfl)) SnL.nil) (gW n (J.take (g.length : Int).toNat) l5 p7)) (ca4 [.own (I.flatMap iCu), .fix (J.flatMap iCu)] (ok0 (l8 n l5 (aa .u32 (wFu ((1000000000 : Int).tdiv (wFu ((wFu (gt b (Fc ((b.length : Int) - 1)))) + 1))))) nE q8)))) (.mu 2 (.p0 (v := .hs 1 0 (g.length : Int).toNat 1) (tr (y := slH (inS 0 (g.length : Int) J.length) true ((0 : Int).toNat) ((g.length : Int).toNat) (fun z1 z2 => .hs 1 (0 + z1 * 1) (z2 - z1) 1)) (BR jN (by kernel_rfl))) (.ca cf0 (.mu 1 (.ca (cfF cf0) (.mu 4 (.done (.nh [4, 5] [.own (I.flatMap iCu), .fix (J.flatMap iCu)] (.seq ?_)))))))))
 obtain ⟨nO, qy, hr⟩ := bd hr
 refine .g1 G (cK (args := [.hs 0 0 I.length 1]) (l := [0]) (SnL.cons (Sn.hs rfl (.inl rfl) (SnC.pure (aW (aC _) _)) (fun h => cG h)) SnL.nil) (gW n I nO qy)) (.mu 1 (.ca cf0 (.mu 3 (.done (.ret ?_)))))
 obtain rfl := oi hr
 exact aG.ret (vs := [au nO, au nE.1]) (by kernel_rfl) (Sn.tup (Sp (Sp SnL.nil)))

theorem mU (n : Nat) (a : List Int) (b : List Int) (r : List Int × List Int) (hr : iq n a b = some r) : aL Tryz.prog 182 [au a, au b] (.tup [au r.1, au r.2]) := by
 unfold iq at hr
 refine aL.bd G Tryz.func182 [.tmp 4, .tmp 5] ?_
 unfold Tryz.f182
 simp only [gS]
 refine .seq (.r4 G [0, 1] [] (.seq (.seq ?_)))
 obtain ⟨L, E, hr⟩ := bd hr
 refine .g1 G (ok0 (kO n a b L E)) (.mu 2 (.ca cf0 (.mu 1 (.done (.nh [0, 1, 15] [] ?_)))))
 refine .cd hr ?_ ?_ <;> intro M hr
 ·refine .seq (.r3 G 59 [(4, nS), (5, au a)] (.ret ?_))
  obtain rfl := oi hr
  exact aG.ret (vs := [nS, au a]) (by kernel_rfl) (Sn.tup (SnL.cons Sn.fZ (Sp SnL.nil)))
 refine .skip (.seq ?_)
 obtain ⟨d, F, hr⟩ := bd hr
 refine .g1 G (ok0 (kI n a d F)) (.mu 1 (.ca cf0 (.mu 5 (.done (.nh [0, 1, 6, 7] [] (.seq ?_))))))
 obtain ⟨k, H, hr⟩ := bd hr
 refine .g1 G (ok0 (kI n b k H)) (.mu 1 (.ca cf0 (.mu 5 (.done (.nh [0, 1, 6, 7, 8, 9] [] (.seq (.seq ?_)))))))
 rcases bT d.2 with c | c
 ·replace hr := cy c hr
  refine .r0 G (.p0 (v := aB true) (eB c) (.mu 3 (.done (.nh [0, 1, 6, 8, 30] [] ?_))))
  refine .cd hr ?_ ?_ <;> intro N hr
  ·refine .seq ?_
   obtain ⟨e, hr⟩ := gd hr
   obtain ⟨q, f, s, g, hr⟩ := bd2 hr
   refine .tn G (ca1 (ok0 (fu n (wFu (d.1.tdiv k.1)) q f)) (ca3 (ok0 (fu n (d.1.tmod k.1) s g)))) (.mu 2 (.pk (v := cO (wFu (d.1.tdiv k.1))) (rh (x := d.1) (y := k.1) (by kernel_rfl) (by kernel_rfl) e) (.ca cf0 (.mu 2 (.pk (v := cO (d.1.tmod k.1)) (qE (x := d.1) (y := k.1) (by kernel_rfl) (by kernel_rfl) e) (.ca (cfA (fun h => by rw [sv g f (ud n h)]) cf0) (.mu 2 ?_)))))))
   refine .done ⟨by kernel_rfl, ?_⟩
   refine .ret ?_
   obtain rfl := oi hr
   exact aG.ret (vs := [au q, au s]) (by kernel_rfl) (Sn.tup (Sp (Sp SnL.nil)))
  refine .skip (.seq (.seq (.r4 G [0, 1] [(41, aB (((b.length : Int) : Int) == 1))] ?_)))
  refine .cd hr ?_ ?_ <;> intro I hr
  ·refine .seq ?_
   obtain ⟨i, hr⟩ := gd hr
   obtain ⟨l, t, hr⟩ := bd hr
   refine .g1 G (ok0 (l8 n a (gt b 0) l t)) (.mu 2 (.p0 (v := .pp (b.flatMap iCu) ((0 : Int).toNat * 1)) (tr (ar i)) (.p0 (v := bt (gt b 0)) (tr (aD (aE (aF .u32) (aA i) z1 (by omega : (0 : Int).toNat * 1 = (0 : Int).toNat * 1 + 0) (by kernel_rfl)))) (.ca cf0 (.mu 5 (.done (.nh [10, 11] [] (.seq ?_))))))))
   obtain ⟨u, w, hr⟩ := bd hr
   refine .g1 G (ok0 (fu n (wFu l.2) u w)) (.mu 3 (.ca cf0 (.mu 2 (.done (.ret ?_)))))
   obtain rfl := oi hr
   exact aG.ret (vs := [au l.1, au u]) (by kernel_rfl) (Sn.tup (Sp (Sp SnL.nil)))
  refine .skip (.seq ?_)
  obtain ⟨m, z, hr⟩ := bd hr
  refine .g1 G (ok0 (qc n a b m z)) (.mu 2 (.ca cf0 (.mu 4 (.done (.ret ?_)))))
  obtain rfl := oi hr
  exact aG.ret (vs := [au m.1, au m.2]) (by kernel_rfl) (Sn.tup (Sp (Sp SnL.nil)))
 replace hr := cz c hr
 refine .r0 G (.p0 (v := aB false) (eB c) (.mu 3 (.done (.nh [0, 1, 6, 8, 30] [] (.cF (by kernel_rfl) (.skip (.seq (.seq (.r4 G [0, 1] [(41, aB (((b.length : Int) : Int) == 1))] ?_)))))))))
 refine .cd hr ?_ ?_ <;> intro J hr
 ·refine .seq ?_
  obtain ⟨j, hr⟩ := gd hr
  obtain ⟨o, A, hr⟩ := bd hr
  refine .g1 G (ok0 (l8 n a (gt b 0) o A)) (.mu 2 (.p0 (v := .pp (b.flatMap iCu) ((0 : Int).toNat * 1)) (tr (ar j)) (.p0 (v := bt (gt b 0)) (tr (aD (aE (aF .u32) (aA j) z1 (by omega : (0 : Int).toNat * 1 = (0 : Int).toNat * 1 + 0) (by kernel_rfl)))) (.ca cf0 (.mu 5 (.done (.nh [10, 11] [] (.seq ?_))))))))
  obtain ⟨B, C, hr⟩ := bd hr
  refine .g1 G (ok0 (fu n (wFu o.2) B C)) (.mu 3 (.ca cf0 (.mu 2 (.done (.ret ?_)))))
  obtain rfl := oi hr
  exact aG.ret (vs := [au o.1, au B]) (by kernel_rfl) (Sn.tup (Sp (Sp SnL.nil)))
 refine .skip (.seq ?_)
 obtain ⟨p, D, hr⟩ := bd hr
 refine .g1 G (ok0 (qc n a b p D)) (.mu 2 (.ca cf0 (.mu 4 (.done (.ret ?_)))))
 obtain rfl := oi hr
 exact aG.ret (vs := [au p.1, au p.2]) (by kernel_rfl) (Sn.tup (Sp (Sp SnL.nil)))

theorem nJ (n : Nat) (s : ah) (y : ah) (r : ah) (hr : iW n s y = some r) : aL Tryz.prog 145 [.agg (ah.c s), .agg (ah.c y)] (.agg (ah.c r)) := by
 unfold iW at hr
 refine aL.bd G Tryz.func145 [.cell 4 40] ?_
 unfold Tryz.f145
 simp only [gS]
 refine .seq (.r2 G 54 [(2, .hp 0 0), (3, .hp 1 0), (4, .hp 2 0)] [.own (ah.c s), .own (ah.c y), .own [aB false, nS]] (.seq ?_))
 obtain ⟨W, t, X, u, hr⟩ := bd2 hr
 refine .tn G (ca1 (ok0 (cx n s W t)) (ca3 (ok0 (cx n y X u)))) (.mu 1 (.ca cf0 (.mu 1 (.ca (cfA (fun h => by rw [sv u t (ie n h)]) cf0) (.mu 2 ?_)))))
 refine .done ⟨by kernel_rfl, ?_⟩
 refine .nh [4, 5, 6] [.own (ah.c s), .own (ah.c y), .own [aB false, nS]] (.seq (.block ?_))
 replace hr := bd hr; obtain ⟨w, g, hr⟩ := hr
 refine .aH (σ := fun R => match R with | (i, d) => ⟨mkS 54 0 [(4, .hp 0 0), (5, au i), (6, au d)], [.own [aB false, nS]]⟩) (Q := fun x st' => match (generalizing := false) w with | .inl j => x = .exit 0 /\ Wk 0 st' ⟨mkS 54 0 [(4, .hp 0 0), (5, au j)], [.own [aB false, nS]]⟩ | .inr (r0) => x = .ret /\ aG Tryz.prog [.cell 4 40] (.agg (ah.c r0)) .ret st') g ((Wk.gc [4, 5, 6] [(2, true)] rfl trivial).to) ?_ ?_
 ·clear hr
  rintro m ⟨i, d⟩ hr
  show CQ _ _ _ _ _ ⟨_, _⟩
  refine .seq (.seq (.r4 G [4, 5, 6] [(19, aB (decide ((d.length : Int) > 0)))] ?_))
  refine .cd hr ?_ ?_ <;> intro T hr
  ·refine .skip (.block (.seq ?_))
   obtain ⟨z, A, hr⟩ := bd hr
   refine .g1 G (ok0 (kI n i z A)) (.mu 1 (.ca cf0 (.mu 5 (.done (.nh [4, 5, 6, 7, 8] [.own [aB false, nS]] (.seq ?_))))))
   obtain ⟨S, B, hr⟩ := bd hr
   refine .g1 G (ok0 (kI n d S B)) (.mu 1 (.ca cf0 (.mu 5 (.done (.nh [4, 5, 6, 7, 8, 9, 10] [.own [aB false, nS]] (.seq (.seq ?_)))))))
   rcases bT z.2 with e | e
   ·replace hr := cy e hr
    refine .r0 G (.p0 (v := aB true) (eB e) (.mu 3 (.done (.nh [4, 5, 6, 7, 9, 33] [.own [aB false, nS]] ?_))))
    refine .cd hr ?_ ?_ <;> intro U hr
    ·refine .seq (.block ?_)
     replace hr := bd hr; obtain ⟨l, o, hr⟩ := hr
     refine .aH (σ := fun R => match R with | (f, a) => ⟨mkS 54 0 [(4, .hp 0 0), (7, cO f), (9, cO a)], [.own [aB false, nS]]⟩) (Q := fun x st' => x = .exit 2 /\ Wk 0 st' ⟨mkS 54 0 [(4, .hp 0 0), (7, cO l)], [.own [aB false, nS]]⟩) o ((Wk.gc [4, 7, 9] [(0, true)] rfl trivial).to) ?_ ?_
     ·clear hr
      rintro m ⟨f, a⟩ hr
      show CQ _ _ _ _ _ ⟨_, _⟩
      refine .seq (.seq (.r4 G [4, 7, 9] [(35, aB (decide (a > 0)))] ?_))
      refine .cd hr ?_ ?_ <;> intro V hr
      ·refine .skip (.block ?_)
       obtain ⟨C, hr⟩ := gd hr
       refine .eu G bJ (.mu 3 (.pk (v := cO (f.tmod a)) (qE (x := f) (y := a) (by kernel_rfl) (by kernel_rfl) C) (.mu 2 ?_)))
       refine .done ⟨by kernel_rfl, ?_⟩
       refine .pop ?_
       exact az (a, f.tmod a) hr ((Wk.gc [4, 7, 9] [(0, true)] rfl trivial).to)
      refine .leave rfl ?_
      obtain rfl := oi hr
      exact ⟨rfl, ((Wk.gc [4, 7] [(0, true)] rfl trivial).to)⟩
     rintro x st' k
     clear o
     obtain ⟨rfl, k⟩ := k
     refine aQ _ rfl (.wk k (.seq ?_))
     obtain ⟨D, E, p, F, hr⟩ := bd2 hr
     refine .gn G (ca1 (ok0 (fu n l D E)) (ca3 (ok0 (b9 n false D p F)))) (.mu 1 (.ca cf0 (.ca (cfF cf0) (.mu 1 (.done (.nh [4] [.own (ah.c p)] (.ret ?_)))))))
     obtain rfl := oi hr
     exact ⟨rfl, aG.ret (vs := [.agg (ah.c p)]) (by kernel_rfl) (Sn.pure rfl)⟩
    refine .skip (.seq ?_)
    obtain ⟨H, I, hr⟩ := bd hr
    refine .g1 G (ok0 (mU n i d H I)) (.mu 2 (.ca cf0 (.mu 5 (.done (.nh [4, 6, 12] [.own [aB false, nS]] (.ru G (.pop ?_)))))))
    exact az (d, H.2) hr ((Wk.gc [4, 5, 6] [(0, true)] rfl trivial).to)
   replace hr := cz e hr
   refine .r0 G (.p0 (v := aB false) (eB e) (.mu 3 (.done (.nh [4, 5, 6, 7, 9, 33] [.own [aB false, nS]] (.cF (by kernel_rfl) (.skip (.seq ?_)))))))
   obtain ⟨J, L, hr⟩ := bd hr
   refine .g1 G (ok0 (mU n i d J L)) (.mu 2 (.ca cf0 (.mu 5 (.done (.nh [4, 6, 12] [.own [aB false, nS]] (.ru G (.pop ?_)))))))
   exact az (d, J.2) hr ((Wk.gc [4, 5, 6] [(0, true)] rfl trivial).to)
  refine .leave rfl ?_
  obtain rfl := oi hr
  exact ⟨rfl, ((Wk.gc [4, 5] [(0, true)] rfl trivial).to)⟩
 rcases w with j | r0
 ·rintro x st' b
  clear g
  obtain ⟨rfl, b⟩ := b
  refine aQ _ rfl (.wk b (.seq ?_))
  obtain ⟨M, N, q, O, hr⟩ := bd2 hr
  refine .gn G (ca1 (ok0 (fE n j M N)) (ca3 (ok0 (b9 n false M q O)))) (.mu 1 (.ca cf0 (.ca (cfF cf0) (.mu 1 (.done (.nh [4] [.own (ah.c q)] (.ret ?_)))))))
  obtain rfl := oi hr
  exact aG.r1 [.agg (ah.c q)]
 rintro x st' b
 clear g
 obtain ⟨rfl, b⟩ := b
 obtain rfl := oi hr
 exact iT _ b

theorem qf (n : Nat) (a : List Int) (b : List Int) (r : List Int) (hr : kf n a b = some r) : aL Tryz.prog 191 [au a, au b] (au r) := by
 unfold kf at hr
 refine aL.bd G Tryz.func191 [.tmp 4] ?_
 unfold Tryz.f191
 simp only [gS]
 refine .seq (.r4 G [0, 1] [] (.seq ?_))
 obtain ⟨y, A, B, hr⟩ := gd3 hr
 refine .r0 G (.mu 6 (.e0 (v := .hs 0 0 (List.replicate (Fc ((mx (a.length : Int) (b.length : Int)) + 1)).toNat ((0 : Int) : Int)).length 1) (ws := [(0, .own ((List.replicate (Fc ((mx (a.length : Int) (b.length : Int)) + 1)).toNat ((0 : Int) : Int)).flatMap iCu))]) (tr (mO (c := iCu) (z := (0 : Int)) (n := Fc ((mx (a.length : Int) (b.length : Int)) + 1)) (by_ := 4) rfl y A B)) (.mu 1 (.done (.nh [0, 1, 5] [.own ((List.replicate (Fc ((mx (a.length : Int) (b.length : Int)) + 1)).toNat ((0 : Int) : Int)).flatMap iCu)] (.seq (.r4 G [0, 1, 5] [(6, bt 0)] (.seq (.seq (.r4 G [0, 1, 5, 6] [(17, ae ((List.replicate (Fc ((mx (a.length : Int) (b.length : Int)) + 1)).toNat ((0 : Int) : Int)).length : Int)), (18, ae 0)] (.block ?_)))))))))))
 replace hr := bd hr; obtain ⟨j, q, hr⟩ := hr
 refine .aH (σ := fun E => match E with | (e, f, d) => ⟨mkS 41 0 [(0, au a), (1, au b), (5, .hs 0 0 e.length 1), (6, bt f), (17, ae ((List.replicate (Fc ((mx (a.length : Int) (b.length : Int)) + 1)).toNat ((0 : Int) : Int)).length : Int)), (18, ae d)], [.own (e.flatMap iCu)]⟩) (Q := fun x st' => x = .exit 0 /\ Wk 0 st' ⟨mkS 41 0 [(5, .hs 0 0 j.length 1)], [.own (j.flatMap iCu)]⟩) q ((Wk.gc [0, 1, 5, 6, 17, 18] [(0, false)] rfl (pKo iCu (aC _) (List.replicate (Fc ((mx (a.length : Int) (b.length : Int)) + 1)).toNat ((0 : Int) : Int)) trivial)).to) ?_ ?_
 ·clear hr
  rintro m ⟨e, f, d⟩ hr
  show CQ _ _ _ _ _ ⟨_, _⟩
  refine .seq (.r4 G [0, 1, 5, 6, 17, 18] [(19, aB (decide (d < ((List.replicate (Fc ((mx (a.length : Int) (b.length : Int)) + 1)).toNat ((0 : Int) : Int)).length : Int))))] (.seq ?_))
  refine .cd hr ?_ ?_ <;> intro C hr
  ·refine .skip (.seq (.block (.seq (.r4 G [0, 1, 5, 6, 17, 18] [(7, ae d)] (.seq ?_)))))
   obtain ⟨g, s, i, t, hr⟩ := bd2 hr
   refine .gn G (ca1 (ok0 (mv n a d g s)) (ca3 (ok0 (mv n b d i t)))) (.mu 2 (.ca cf0 (.mu 2 (.ca (cfA (fun h => by rw [sv t s (wI n h)]) cf0) (.mu 4 (.done (.nh [0, 1, 5, 7, 8, 17, 18] [.own (e.flatMap iCu)] (.seq (.r4 G [0, 1, 5, 7, 8, 17, 18] [(6, bt 0)] (.seq (.seq (.r4 G [0, 1, 5, 6, 7, 8, 17, 18] [(31, aB (decide ((aa .u32 ((aa .u32 (g + i)) + f)) >= 1000000000)))] ?_))))))))))))
   refine .cd hr ?_ ?_ <;> intro D hr
   ·refine .r4 G [0, 1, 5, 7, 17, 18] [(6, bt 1), (8, bt (aa .u32 ((aa .u32 ((aa .u32 (g + i)) + f)) - 1000000000)))] ?_
    obtain ⟨k, hr⟩ := gd hr
    refine .r0 G (.mu 3 (.p0 (v := .hp 0 (0 + d.toNat * 1)) (tr (ar k)) (.e0 (v := .unk) (ws := [(0, .own ((e.set d.toNat (aa .u32 ((aa .u32 ((aa .u32 (g + i)) + f)) - 1000000000))).flatMap iCu))]) (tr (iF (iH (ct (n := 1) (aF .u32) (aA k) (lbT rfl) (by omega : 0 + d.toNat * 1 = d.toNat * 1 + 0))) (congrArg Blk.own (cS (xs := [bt (aa .u32 ((aa .u32 ((aa .u32 (g + i)) + f)) - 1000000000))]) (aF .u32) (aA k) (lbT rfl) (by omega : 0 + d.toNat * 1 = d.toNat * 1 + 0) (by kernel_rfl))))) (.done (.pop (.ru G ?_))))))
    exact az (e.set d.toNat (aa .u32 ((aa .u32 ((aa .u32 (g + i)) + f)) - 1000000000)), 1, Fc (d + 1)) hr ((Wk.iQ 5 (b := 0) (es := 1) (len := e.length) (e.set d.toNat (aa .u32 ((aa .u32 ((aa .u32 (g + i)) + f)) - 1000000000))).length (by kernel_rfl) (Eq.symm (List.length_set.trans rfl))).trans ((Wk.gc [0, 1, 5, 6, 17, 18] [(0, false)] rfl (pKo iCu (aC _) (e.set d.toNat (aa .u32 ((aa .u32 ((aa .u32 (g + i)) + f)) - 1000000000))) trivial)).to))
   refine .skip ?_
   obtain ⟨o, hr⟩ := gd hr
   refine .r0 G (.mu 3 (.p0 (v := .hp 0 (0 + d.toNat * 1)) (tr (ar o)) (.e0 (v := .unk) (ws := [(0, .own ((e.set d.toNat (aa .u32 ((aa .u32 (g + i)) + f))).flatMap iCu))]) (tr (iF (iH (ct (n := 1) (aF .u32) (aA o) (lbT rfl) (by omega : 0 + d.toNat * 1 = d.toNat * 1 + 0))) (congrArg Blk.own (cS (xs := [bt (aa .u32 ((aa .u32 (g + i)) + f))]) (aF .u32) (aA o) (lbT rfl) (by omega : 0 + d.toNat * 1 = d.toNat * 1 + 0) (by kernel_rfl))))) (.done (.pop (.ru G ?_))))))
   exact az (e.set d.toNat (aa .u32 ((aa .u32 (g + i)) + f)), 0, Fc (d + 1)) hr ((Wk.iQ 5 (b := 0) (es := 1) (len := e.length) (e.set d.toNat (aa .u32 ((aa .u32 (g + i)) + f))).length (by kernel_rfl) (Eq.symm (List.length_set.trans rfl))).trans ((Wk.gc [0, 1, 5, 6, 17, 18] [(0, false)] rfl (pKo iCu (aC _) (e.set d.toNat (aa .u32 ((aa .u32 (g + i)) + f))) trivial)).to))
  refine .leave rfl ?_
  obtain rfl := oi hr
  exact ⟨rfl, ((Wk.gc [5] [(0, false)] rfl (pKo iCu (aC _) e trivial)).to)⟩
 rintro x st' p
 clear q
 obtain ⟨rfl, p⟩ := p
 refine aQ _ rfl (.wk p (.seq ?_))
 obtain ⟨u, w, hr⟩ := bd hr
 refine .g1 G (cK (args := [.hs 0 0 j.length 1]) (l := [0]) (SnL.cons (Sn.hs rfl (.inl rfl) (SnC.pure (aW (aC _) _)) (fun h => cG h)) SnL.nil) (gW n j u w)) (.mu 1 (.ca cf0 (.mu 1 (.done (.ret ?_)))))
 obtain rfl := oi hr
 exact aG.r1 [au u]

theorem l9 (n : Nat) (a : List Int) (b : List Int) (r : List Int) (hr : iA n a b = some r) : aL Tryz.prog 192 [au a, au b] (au r) := by
 unfold iA at hr
 refine aL.bd G Tryz.func192 [.tmp 4] ?_
 unfold Tryz.f192
 simp only [gS]
 refine .seq (.r4 G [0, 1] [] (.seq ?_))
 obtain ⟨w, y, A, hr⟩ := gd3 hr
 refine .r0 G (.mu 2 (.e0 (v := .hs 0 0 (List.replicate (a.length : Int).toNat ((0 : Int) : Int)).length 1) (ws := [(0, .own ((List.replicate (a.length : Int).toNat ((0 : Int) : Int)).flatMap iCu))]) (tr (mO (c := iCu) (z := (0 : Int)) (n := (a.length : Int)) (by_ := 4) rfl w y A)) (.mu 1 (.done (.nh [0, 1, 5] [.own ((List.replicate (a.length : Int).toNat ((0 : Int) : Int)).flatMap iCu)] (.seq (.r4 G [0, 1, 5] [(6, bt 0)] (.seq (.seq (.r4 G [0, 1, 5, 6] [(13, ae ((List.replicate (a.length : Int).toNat ((0 : Int) : Int)).length : Int)), (14, ae 0)] (.block ?_)))))))))))
 replace hr := bd hr; obtain ⟨j, q, hr⟩ := hr
 refine .aH (σ := fun D => match D with | (e, f, d) => ⟨mkS 50 0 [(0, au a), (1, au b), (5, .hs 0 0 e.length 1), (6, bt f), (13, ae ((List.replicate (a.length : Int).toNat ((0 : Int) : Int)).length : Int)), (14, ae d)], [.own (e.flatMap iCu)]⟩) (Q := fun x st' => x = .exit 0 /\ Wk 0 st' ⟨mkS 50 0 [(5, .hs 0 0 j.length 1)], [.own (j.flatMap iCu)]⟩) q ((Wk.gc [0, 1, 5, 6, 13, 14] [(0, false)] rfl (pKo iCu (aC _) (List.replicate (a.length : Int).toNat ((0 : Int) : Int)) trivial)).to) ?_ ?_
 ·clear hr
  rintro m ⟨e, f, d⟩ hr
  show CQ _ _ _ _ _ ⟨_, _⟩
  refine .seq (.r4 G [0, 1, 5, 6, 13, 14] [(15, aB (decide (d < ((List.replicate (a.length : Int).toNat ((0 : Int) : Int)).length : Int))))] (.seq ?_))
  refine .cd hr ?_ ?_ <;> intro B hr
  ·refine .skip (.seq (.block (.seq (.r4 G [0, 1, 5, 6, 13, 14] [(7, ae d)] (.seq ?_)))))
   obtain ⟨g, s, hr⟩ := bd hr
   refine .g1 G (ok0 (mv n b d g s)) (.mu 2 (.ca cf0 (.mu 3 (.done (.nh [0, 1, 5, 7, 8, 13, 14] [.own (e.flatMap iCu)] (.seq (.r4 G [0, 1, 5, 7, 8, 13, 14] [(6, bt 0)] (.seq ?_))))))))
   obtain ⟨i, hr⟩ := gd hr
   refine .r0 G (.mu 2 (.p0 (v := .pp (a.flatMap iCu) (d.toNat * 1)) (tr (ar i)) (.p0 (v := bt (gt a d)) (tr (aD (aE (aF .u32) (aA i) z1 (by omega : d.toNat * 1 = d.toNat * 1 + 0) (by kernel_rfl)))) (.mu 2 (.done (.nh [0, 1, 5, 6, 7, 8, 13, 14, 27] [.own (e.flatMap iCu)] ?_))))))
   refine .cd hr ?_ ?_ <;> intro C hr
   ·obtain ⟨k, hr⟩ := gd hr
    refine .r0 G (.mu 4 (.p0 (v := .pp (a.flatMap iCu) (d.toNat * 1)) (tr (ar i)) (.p0 (v := bt (gt a d)) (tr (aD (aE (aF .u32) (aA i) z1 (by omega : d.toNat * 1 = d.toNat * 1 + 0) (by kernel_rfl)))) (.mu 3 (.p0 (v := .hp 0 (0 + d.toNat * 1)) (tr (ar k)) (.e0 (v := .unk) (ws := [(0, .own ((e.set d.toNat (aa .u32 ((aa .u32 ((gt a d) + 1000000000)) - (aa .u32 (g + f))))).flatMap iCu))]) (tr (iF (iH (ct (n := 1) (aF .u32) (aA k) (lbT rfl) (by omega : 0 + d.toNat * 1 = d.toNat * 1 + 0))) (congrArg Blk.own (cS (xs := [bt (aa .u32 ((aa .u32 ((gt a d) + 1000000000)) - (aa .u32 (g + f))))]) (aF .u32) (aA k) (lbT rfl) (by omega : 0 + d.toNat * 1 = d.toNat * 1 + 0) (by kernel_rfl))))) (.mu 1 (.done (.pop (.ru G ?_))))))))))
    exact az (e.set d.toNat (aa .u32 ((aa .u32 ((gt a d) + 1000000000)) - (aa .u32 (g + f)))), 1, Fc (d + 1)) hr ((Wk.iQ 5 (b := 0) (es := 1) (len := e.length) (e.set d.toNat (aa .u32 ((aa .u32 ((gt a d) + 1000000000)) - (aa .u32 (g + f))))).length (by kernel_rfl) (Eq.symm (List.length_set.trans rfl))).trans ((Wk.gc [0, 1, 5, 6, 13, 14] [(0, false)] rfl (pKo iCu (aC _) (e.set d.toNat (aa .u32 ((aa .u32 ((gt a d) + 1000000000)) - (aa .u32 (g + f))))) trivial)).to))
   obtain ⟨o, hr⟩ := gd hr
   refine .r0 G (.mu 4 (.p0 (v := .pp (a.flatMap iCu) (d.toNat * 1)) (tr (ar i)) (.p0 (v := bt (gt a d)) (tr (aD (aE (aF .u32) (aA i) z1 (by omega : d.toNat * 1 = d.toNat * 1 + 0) (by kernel_rfl)))) (.mu 2 (.p0 (v := .hp 0 (0 + d.toNat * 1)) (tr (ar o)) (.e0 (v := .unk) (ws := [(0, .own ((e.set d.toNat (aa .u32 ((gt a d) - (aa .u32 (g + f))))).flatMap iCu))]) (tr (iF (iH (ct (n := 1) (aF .u32) (aA o) (lbT rfl) (by omega : 0 + d.toNat * 1 = d.toNat * 1 + 0))) (congrArg Blk.own (cS (xs := [bt (aa .u32 ((gt a d) - (aa .u32 (g + f))))]) (aF .u32) (aA o) (lbT rfl) (by omega : 0 + d.toNat * 1 = d.toNat * 1 + 0) (by kernel_rfl))))) (.done (.pop (.ru G ?_)))))))))
   exact az (e.set d.toNat (aa .u32 ((gt a d) - (aa .u32 (g + f)))), 0, Fc (d + 1)) hr ((Wk.iQ 5 (b := 0) (es := 1) (len := e.length) (e.set d.toNat (aa .u32 ((gt a d) - (aa .u32 (g + f))))).length (by kernel_rfl) (Eq.symm (List.length_set.trans rfl))).trans ((Wk.gc [0, 1, 5, 6, 13, 14] [(0, false)] rfl (pKo iCu (aC _) (e.set d.toNat (aa .u32 ((gt a d) - (aa .u32 (g + f))))) trivial)).to))
  refine .leave rfl ?_
  obtain rfl := oi hr
  exact ⟨rfl, ((Wk.gc [5] [(0, false)] rfl (pKo iCu (aC _) e trivial)).to)⟩
 rintro x st' p
 clear q
 obtain ⟨rfl, p⟩ := p
 refine aQ _ rfl (.wk p (.seq ?_))
 obtain ⟨t, u, hr⟩ := bd hr
 refine .g1 G (cK (args := [.hs 0 0 j.length 1]) (l := [0]) (SnL.cons (Sn.hs rfl (.inl rfl) (SnC.pure (aW (aC _) _)) (fun h => cG h)) SnL.nil) (gW n j t u)) (.mu 1 (.ca cf0 (.mu 1 (.done (.ret ?_)))))
 obtain rfl := oi hr
 exact aG.r1 [au t]

theorem jM (n : Nat) (b : ah) (y : ah) (r : ah × ah × Int) (hr : dB n b y = some r) : aL Tryz.prog 160 [.agg (ah.c b), .agg (ah.c y)] (.tup [.agg (ah.c r.1), .agg (ah.c r.2.1), ae r.2.2]) := by
 unfold dB at hr
 refine aL.bd G Tryz.func160 [.cell 4 40, .cell 5 40, .tmp 6] ?_
 unfold Tryz.f160
 simp only [gS]
 refine .seq (.r2 G 55 [(2, .hp 0 0), (3, .hp 1 0), (4, .hp 2 0), (5, .hp 3 0)] [.own (ah.c b), .own (ah.c y), .own [aB false, nS], .own [aB false, nS]] (.seq ?_))
 obtain ⟨I, w, E, x, hr⟩ := bd2 hr
 refine .tn G (ca1 (ok0 (cx n b I w)) (ca3 (ok0 (cx n y E x)))) (.mu 1 (.ca cf0 (.mu 1 (.ca (cfA (fun h => by rw [sv x w (ie n h)]) cf0) (.mu 2 ?_)))))
 refine .done ⟨by kernel_rfl, ?_⟩
 refine .nh [2, 3, 4, 5, 7, 8] [.own (ah.c b), .own (ah.c y), .own [aB false, nS], .own [aB false, nS]] (.seq (.seq (.r4 G [2, 3, 4, 5, 7, 8] [(17, aB (((E.length : Int) : Int) == 0))] ?_)))
 refine .cd hr ?_ ?_ <;> intro J hr
 ·refine .seq (.r4 G [4, 5] [(6, ae 14)] (.ret ?_))
  obtain rfl := oi hr
  exact aG.ret (vs := [.agg [aB false, nS], .agg [aB false, nS], ae 14]) (by kernel_rfl) (Sn.tup (SnL.cons (Sn.agg (Sp (SnL.cons Sn.fZ SnL.nil))) (SnL.cons (Sn.agg (Sp (SnL.cons Sn.fZ SnL.nil))) (Sp SnL.nil))))
 refine .skip (.seq ?_)
 obtain ⟨u, F, hr⟩ := bd hr
 refine .g1 G (ok0 (mU n I E u F)) (.mu 2 (.ca cf0 (.mu 5 (.done (.nh [2, 3, 4, 5, 8, 9, 10] [.own (ah.c b), .own (ah.c y), .own [aB false, nS], .own [aB false, nS]] (.seq ?_))))))
 obtain ⟨z, H, hr⟩ := bd hr
 refine .g1 G (ok0 (fE n u.2 z H)) (.mu 1 (.ca cf0 (.mu 1 (.done (.nh [2, 3, 4, 5, 8, 9, 10] [.own (ah.c b), .own (ah.c y), .own [aB false, nS], .own [aB false, nS]] (.seq (.seq ?_)))))))
 rcases bT (decide ((z.length : Int) > 0)) with a | a
 ·replace hr := cy a hr
  refine .r0 G (.mu 2 (.p0 (v := aB true) (eB a) (.mu 7 (.done (.nh [2, 3, 4, 5, 8, 9, 10, 37] [.own (ah.c b), .own (ah.c y), .own [aB false, nS], .own [aB false, nS]] ?_)))))
  refine .cd hr ?_ ?_ <;> intro d hr
  ·obtain ⟨A, B, C, D, hr⟩ := bd2 hr
   refine .gn G (ca2 [.own (ah.c b), .own (ah.c y), .own [aB false, nS], .own [aB false, nS], .own [bt 1]] (cK (args := [au u.1, .hs 4 0 1 1]) (l := [4]) (Sp (SnL.cons (Sn.hs rfl (.inl rfl) (SnC.cons (Sn.pure rfl) SnC.nil) (fun h => nomatch h)) SnL.nil)) (qf n u.1 [(1 : Int)] A B)) (ca4 [.own (ah.c b), .own (ah.c y), .own [aB false, nS], .own [aB false, nS], .fix [bt 1]] (ok0 (l9 n E z C D)))) (.mu 2 (.ca cf0 (.mu 2 (.ca (cfF cf0) (.mu 2 (.done (.nh [2, 3, 4, 5, 9, 10] [.own (ah.c b), .own (ah.c y), .own [aB false, nS], .own [aB false, nS], .fix [bt 1]] (.seq ?_))))))))
   obtain ⟨m, e, o, f, hr⟩ := bd2 hr
   refine .tn G (ca1 (ok0 (b9 n true A m e)) (ca3 (ok0 (b9 n y.Negative C o f)))) (.mu 4 (.pk (v := aB true) (eB d) (.mu 1 (.ca cf0 (.mu 3 (.ca (cfA (fun h => by rw [sv f e (mZ n h)]) cf0) (.mu 3 ?_)))))))
   refine .done ⟨by kernel_rfl, ?_⟩
   refine .nh [4, 5, 6] [.own (ah.c b), .own (ah.c y), .own (ah.c m), .own (ah.c o), .fix [bt 1]] (.ret ?_)
   obtain rfl := oi hr
   exact aG.ret (vs := [.agg (ah.c m), .agg (ah.c o), ae 0]) (by kernel_rfl) (Sn.tup (Sp (Sp (Sp SnL.nil))))
  refine .skip (.seq ?_)
  obtain ⟨p, g, q, i, hr⟩ := bd2 hr
  refine .tn G (ca1 (ok0 (b9 n false u.1 p g)) (ca3 (ok0 (b9 n y.Negative z q i)))) (.mu 4 (.pk (v := aB false) (eB d) (.mu 1 (.ca cf0 (.mu 3 (.ca (cfA (fun h => by rw [sv i g (mZ n h)]) cf0) (.mu 3 ?_)))))))
  refine .done ⟨by kernel_rfl, ?_⟩
  refine .nh [4, 5, 6] [.own (ah.c b), .own (ah.c y), .own (ah.c p), .own (ah.c q)] (.ret ?_)
  obtain rfl := oi hr
  exact aG.ret (vs := [.agg (ah.c p), .agg (ah.c q), ae 0]) (by kernel_rfl) (Sn.tup (Sp (Sp (Sp SnL.nil))))
 replace hr := cz a hr
 refine .r0 G (.mu 2 (.p0 (v := aB false) (eB a) (.mu 7 (.done (.nh [2, 3, 4, 5, 8, 9, 10, 37] [.own (ah.c b), .own (ah.c y), .own [aB false, nS], .own [aB false, nS]] (.cF (by kernel_rfl) (.skip (.seq ?_))))))))
 obtain ⟨s, j, t, k, hr⟩ := bd2 hr
 refine .tn G (ca1 (ok0 (b9 n (b.Negative != y.Negative) u.1 s j)) (ca3 (ok0 (b9 n y.Negative z t k)))) (.mu 6 (.ca cf0 (.mu 3 (.ca (cfA (fun h => by rw [sv k j (mZ n h)]) cf0) (.mu 3 ?_)))))
 refine .done ⟨by kernel_rfl, ?_⟩
 refine .nh [4, 5, 6] [.own (ah.c b), .own (ah.c y), .own (ah.c s), .own (ah.c t)] (.ret ?_)
 obtain rfl := oi hr
 exact aG.ret (vs := [.agg (ah.c s), .agg (ah.c t), ae 0]) (by kernel_rfl) (Sn.tup (Sp (Sp (Sp SnL.nil))))

theorem iD (n : Nat) (num : ah) (den : ah) (r : ag) (hr : eF n num den = some r) : aL Tryz.prog 122 [.agg (ah.c num), .agg (ah.c den)] (.agg (ag.c r)) := by
 unfold eF at hr
 refine aL.bd G Tryz.func122 [.cell 4 42] ?_
 unfold Tryz.f122
 simp only [gS]
 refine .seq (.r2 G 33 [(2, .hp 0 0), (3, .hp 1 0), (4, .hp 2 0)] [.own (ah.c num), .own (ah.c den), .own zN2] (.seq (.seq ?_)))
 obtain ⟨v, t, hr⟩ := bd hr
 refine .g1 G (ok0 (fS n den v t)) (.mu 1 (.ca cf0 (.mu 1 (.done (.nh [2, 3, 4, 8] [.own (ah.c num), .own (ah.c den), .own zN2] ?_)))))
 refine .cd hr ?_ ?_ <;> intro w hr
 ·obtain ⟨j, k, i, l, hr⟩ := bd2 hr
  refine .tn G (ca1 (ok0 (gL n num j k)) (ca3 (ok0 (gL n den i l)))) (.mu 1 (.ca cf0 (.mu 1 (.ca (cfA (fun h => by rw [sv l k (gG n h)]) cf0) (.mu 2 ?_)))))
  refine .done ⟨by kernel_rfl, ?_⟩
  refine .nh [2, 3, 4] [.own (ah.c j), .own (ah.c i), .own zN2] (.seq ?_)
  obtain ⟨g, u, hr⟩ := bd hr
  refine .g1 G (ok0 (nJ n j i g u)) (.mu 2 (.ca cf0 (.mu 2 (.done (.nh [2, 3, 4, 5] [.own (ah.c j), .own (ah.c i), .own zN2, .own (ah.c g)] (.seq ?_))))))
  obtain ⟨a, m, hr⟩ := bd hr
  refine .g1 G (ok0 (jM n j g a m)) (.mu 2 (.ca cf0 (.mu 5 (.done (.nh [2, 3, 4, 5] [.own (ah.c a.1), .own (ah.c i), .own zN2, .own (ah.c g)] (.seq ?_))))))
  obtain ⟨d, o, hr⟩ := bd hr
  refine .g1 G (ok0 (jM n i g d o)) (.mu 2 (.ca cf0 (.mu 5 (.done (.nh [2, 3, 4] [.own (ah.c a.1), .own (ah.c d.1), .own zN2, .own (ah.c g)] (.seq (.r5 G [4] [] [.own (ah.c a.1), .own (ah.c d.1), .own [aB a.1.Negative, au a.1.Groups, aB d.1.Negative, au d.1.Groups], .own (ah.c g)] (.ret ?_))))))))
  obtain rfl := oi hr
  exact aG.r1 [.agg [aB a.1.Negative, au a.1.Groups, aB d.1.Negative, au d.1.Groups]]
 refine .skip (.seq ?_)
 obtain ⟨e, p, hr⟩ := bd hr
 refine .g1 G (ok0 (nJ n num den e p)) (.mu 2 (.ca cf0 (.mu 2 (.done (.nh [2, 3, 4, 5] [.own (ah.c num), .own (ah.c den), .own zN2, .own (ah.c e)] (.seq ?_))))))
 obtain ⟨b, q, hr⟩ := bd hr
 refine .g1 G (ok0 (jM n num e b q)) (.mu 2 (.ca cf0 (.mu 5 (.done (.nh [2, 3, 4, 5] [.own (ah.c b.1), .own (ah.c den), .own zN2, .own (ah.c e)] (.seq ?_))))))
 obtain ⟨f, s, hr⟩ := bd hr
 refine .g1 G (ok0 (jM n den e f s)) (.mu 2 (.ca cf0 (.mu 5 (.done (.nh [2, 3, 4] [.own (ah.c b.1), .own (ah.c f.1), .own zN2, .own (ah.c e)] (.seq (.r5 G [4] [] [.own (ah.c b.1), .own (ah.c f.1), .own [aB b.1.Negative, au b.1.Groups, aB f.1.Negative, au f.1.Groups], .own (ah.c e)] (.ret ?_))))))))
 obtain rfl := oi hr
 exact aG.r1 [.agg [aB b.1.Negative, au b.1.Groups, aB f.1.Negative, au f.1.Groups]]
end Go.L
