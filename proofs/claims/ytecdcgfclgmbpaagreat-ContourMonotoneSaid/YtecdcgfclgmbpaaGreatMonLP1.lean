
import Derived.Test.YtecdcgfclgmbpaaGreatMonLD
import Derived.Test.YtecdcgfclgmbpaaGreatL0Mons
import Derived.Test.YtecdcgfclgmbpaaGreatChecked
import Derived.KernelRfl
set_option linter.all false
set_option maxRecDepth 100000
set_option maxHeartbeats 4000000
namespace Go.L
open Go Go.Eng Go.Proofs
theorem fw (n : Nat) (r : al) (hr : di n = some r) : aL Tryz.prog 43 [] (.agg (al.c r)) := by
 unfold di at hr
 refine aL.bd G Tryz.func43 [.cell 0 24] ?_
 unfold Tryz.f43
 simp only [gS]
 refine .seq (.r2 G 3 [(0, .hp 0 0)] [.own [ae 0, ae 0, ae 0, ae 0, ae 0, nS]] (.seq (.r5 G [0] [] [.own [ae 0, ae 0, ae 2, ae 3, ae 3, .hs 1 0 9 1], .own [ae 0, ae 0, ae 0, ae 0, ae 4, ae 0, ae 0, ae 0, ae 0]] (.ret ?_))))
 obtain rfl := oi hr
 exact aK.ret (vs := [.agg [ae 0, ae 0, ae 2, ae 3, ae 3, .hs 1 0 9 1]]) (by kernel_rfl) (Sn.agg (Sp (Sp (Sp (Sp (Sp (SnL.cons (Sn.hs rfl (.inl rfl) (SnC.cons (Sn.pure rfl) (SnC.cons (Sn.pure rfl) (SnC.cons (Sn.pure rfl) (SnC.cons (Sn.pure rfl) (SnC.cons (Sn.pure rfl) (SnC.cons (Sn.pure rfl) (SnC.cons (Sn.pure rfl) (SnC.cons (Sn.pure rfl) (SnC.cons (Sn.pure rfl) SnC.nil))))))))) (fun h => nomatch h)) SnL.nil)))))))

theorem eW {b : Int} {a : Int} (h : ([.at (.int .i64 b)] : List AV) = [.at (.int .i64 a)]) : b = a := by
 simp only [List.cons.injEq, AV.agg.injEq, AV.at.injEq, Value.int.injEq, Value.bool.injEq, AV.fn.injEq, AV.pp.injEq, true_and, and_true] at h
 simp_all
theorem fh (n : Nat) {b : Int} {a : Int} (h : ([.at (.int .i64 b)] : List AV) = [.at (.int .i64 a)]) : eX n b = eX n a := by
 obtain rfl := eW h
 rfl
theorem bL (n : Nat) (b : Int) (r : Bool) (hr : eX n b = some r) : aL Tryz.prog 103 [ae b] (aB r) := by
 unfold eX at hr
 refine aL.bd G Tryz.func103 [.tmp 2] ?_
 unfold Tryz.f103
 simp only [gS]
 refine .seq (.r4 G [0] [] (.seq ?_))
 rcases bT (decide (b >= 2)) with a | a
 ·replace hr := cC a hr
  refine .r0 G (.mu 1 (.p0 (v := aB true) (eB a) (.mu 5 (.done (.ret ?_)))))
  obtain rfl := oi hr
  exact aK.r1 [aB (decide (b <= 64))]
 replace hr := cB a hr
 refine .r0 G (.mu 1 (.p0 (v := aB false) (eB a) (.mu 5 (.done (.ret ?_)))))
 obtain rfl := oi hr
 exact aK.r1 [aB false]

theorem vW (n : Nat) {b : Int} {a : Int} (h : ([.at (.int .i64 b)] : List AV) = [.at (.int .i64 a)]) : iR n b = iR n a := by
 obtain rfl := eW h
 rfl
theorem lI (n : Nat) (b : Int) (r : Bool) (hr : iR n b = some r) : aL Tryz.prog 104 [ae b] (aB r) := by
 unfold iR at hr
 refine aL.bd G Tryz.func104 [.tmp 2] ?_
 unfold Tryz.f104
 simp only [gS]
 refine .seq (.r4 G [0] [] (.seq ?_))
 rcases bT (decide (b < (-1048576))) with a | a
 ·replace hr := cC a hr
  refine .r0 G (.mu 1 (.p0 (v := aB true) (eB a) (.mu 5 (.done (.ret ?_)))))
  obtain rfl := oi hr
  exact aK.r1 [aB true]
 replace hr := cB a hr
 refine .r0 G (.mu 1 (.p0 (v := aB false) (eB a) (.mu 5 (.done (.ret ?_)))))
 obtain rfl := oi hr
 exact aK.r1 [aB (decide (b > 1048576))]

theorem sm (n : Nat) (z : Int) (r : Bool) (hr : jl n z = some r) : aL Tryz.prog 106 [ae z] (aB r) := by
 unfold jl at hr
 refine aL.bd G Tryz.func106 [.tmp 2] ?_
 unfold Tryz.f106
 simp only [gS]
 refine .seq (.r4 G [0] [] (.seq ?_))
 rcases bT ((z : Int) != (-2147483648)) with a | a
 ·replace hr := cC a hr
  obtain ⟨c, b, hr⟩ := bd hr
  refine .g1 G (ok0 (lI n z c b)) (.mu 1 (.p0 (v := aB true) (eB a) (.mu 2 (.ca cf0 (.mu 2 (.done (.ret ?_)))))))
  obtain rfl := oi hr
  exact aK.r1 [aB c]
 replace hr := cB a hr
 refine .r0 G (.mu 1 (.p0 (v := aB false) (eB a) (.mu 5 (.done (.ret ?_)))))
 obtain rfl := oi hr
 exact aK.r1 [aB false]

theorem ik (n : Nat) (s : List Int) (r : Int) (hr : cf n s = some r) : aL Tryz.prog 146 [bf s, .fn 106 [] []] (ae r) := by
 unfold cf at hr
 refine aL.bd G Tryz.func146 [.tmp 4] ?_
 unfold Tryz.f146
 simp only [gS]
 refine .seq (.r4 G [0, 1] [] (.seq (.seq (.r4 G [0, 1] [(7, ae (s.length : Int)), (8, ae 0)] (.block ?_)))))
 replace hr := bd hr; obtain ⟨d, c, hr⟩ := hr
 refine .aM (σ := fun i => match i with | a => ⟨mkS 19 0 [(0, bf s), (1, .fn 106 [] []), (7, ae (s.length : Int)), (8, ae a)], []⟩) (Q := fun x st' => match (generalizing := false) d with | .inl _ => x = .exit 0 /\ Wk 0 st' ⟨mkS 19 0 [], []⟩ | .inr (r0) => x = .ret /\ aK Tryz.prog [.tmp 4] (ae r0) .ret st') c ((Wk.gc [0, 1, 7, 8] [] rfl pK0).to) ?_ ?_
 ·clear hr
  rintro m a hr
  show CQ _ _ _ _ _ ⟨_, _⟩
  refine .seq (.r4 G [0, 1, 7, 8] [(9, aB (decide (a < (s.length : Int))))] (.seq ?_))
  refine .cd hr ?_ ?_ <;> intro j hr
  ·refine .skip (.seq (.block (.seq (.r4 G [0, 1, 7, 8] [(5, ae a)] (.seq ?_)))))
   obtain ⟨e, hr⟩ := gd hr
   obtain ⟨g, f, hr⟩ := bd hr
   refine .g1 G (ok0 (sm n (gt s a) g f)) (.mu 3 (.p0 (v := .pp (s.flatMap (iC .i64)) (a.toNat * 1)) (tr (au e)) (.p0 (v := ae (gt s a)) (tr (aG (aH (aE .i64) (aC e) z1 (by omega : a.toNat * 1 = a.toNat * 1 + 0) (by kernel_rfl)))) (.ca cf0 (.done (.nh [0, 1, 5, 7, 8, 16] [] ?_))))))
   refine .cd hr ?_ ?_ <;> intro h hr
   ·refine .seq (.ru G (.ret ?_))
    obtain rfl := oi hr
    exact ⟨rfl, aK.ret (vs := [ae a]) (by kernel_rfl) (Sn.pure rfl)⟩
   refine .skip (.pop (.ru G ?_))
   exact aA (Fj (a + 1)) hr ((Wk.gc [0, 1, 7, 8] [] rfl pK0).to)
  refine .leave rfl ?_
  obtain rfl := oi hr
  exact ⟨rfl, ((Wk.gc [] [] rfl pK0).to)⟩
 rcases d with ⟨⟩ | r0
 ·rintro x st' b
  clear c
  obtain ⟨rfl, b⟩ := b
  refine aW _ rfl (.wk b (.seq (.ru G (.ret ?_))))
  obtain rfl := oi hr
  exact aK.r1 [ae (-1)]
 rintro x st' b
 clear c
 obtain ⟨rfl, b⟩ := b
 obtain rfl := oi hr
 exact iz _ b

theorem gI (n : Nat) (s : List Int) (r : Bool) (hr : bn n s = some r) : aL Tryz.prog 105 [bf s, .fn 106 [] []] (aB r) := by
 unfold bn at hr
 refine aL.bd G Tryz.func105 [.tmp 4] ?_
 unfold Tryz.f105
 simp only [gS]
 refine .seq (.r4 G [0, 1] [] (.seq ?_))
 obtain ⟨b, a, hr⟩ := bd hr
 refine .g1 G (ok0 (ik n s b a)) (.mu 2 (.ca cf0 (.mu 2 (.done (.ret ?_)))))
 obtain rfl := oi hr
 exact aK.r1 [aB (decide (b >= 0))]

theorem ph (n : Nat) (g : al) (r : Int) (hr : jz n g = some r) : aL Tryz.prog 58 [.agg (al.c g)] (ae r) := by
 unfold jz at hr
 refine aL.bd G Tryz.func58 [.tmp 2] ?_
 unfold Tryz.f58
 simp only [gS]
 refine .seq (.r2 G 54 [(1, .hp 0 0)] [.own (al.c g)] (.seq (.r4 G [1] [(3, .fn 103 [] [])] (.seq (.seq ?_)))))
 obtain ⟨m, a, hr⟩ := bd hr
 rcases bT (!m) with d | d
 ·replace hr := cC d hr
  refine .g1 G (ok0 (bL n g.Width m a)) (.mu 3 (.ca cf0 (.p0 (v := aB true) (eB d) (.mu 33 (.done (.nh [1, 41] [.own (al.c g)] (.cT (by kernel_rfl) (.seq (.ru G (.ret ?_))))))))))
  obtain rfl := oi hr
  exact aK.r1 [ae 2]
 replace hr := cB d hr
 obtain ⟨p, b, hr⟩ := bd hr
 rcases bT (!p) with e | e
 ·replace hr := cC e hr
  refine .gn G (ca1 (ok0 (bL n g.Width m a)) (ca3 (ok0 (bL n g.Height p b)))) (.mu 3 (.ca cf0 (.p0 (v := aB false) (eB d) (.mu 4 (.ca (cfA (fun h => by rw [sv b a (fh n h)]) cf0) (.pure (v := aB true) (by kernel_rfl) (eB e) (.mu 27 (.done (.nh [1, 41] [.own (al.c g)] (.cT (by kernel_rfl) (.seq (.ru G (.ret ?_)))))))))))))
  obtain rfl := oi hr
  exact aK.r1 [ae 2]
 replace hr := cB e hr
 rcases bT (decide (g.Step < 2)) with f | f
 ·replace hr := cC f hr
  refine .gn G (ca1 (ok0 (bL n g.Width m a)) (ca3 (ok0 (bL n g.Height p b)))) (.mu 3 (.ca cf0 (.p0 (v := aB false) (eB d) (.mu 4 (.ca (cfA (fun h => by rw [sv b a (fh n h)]) cf0) (.pure (v := aB false) (by kernel_rfl) (eB e) (.mu 4 (.pure (v := aB true) (by kernel_rfl) (eB f) (.mu 22 (.done (.nh [1, 41] [.own (al.c g)] (.cT (by kernel_rfl) (.seq (.ru G (.ret ?_)))))))))))))))
  obtain rfl := oi hr
  exact aK.r1 [ae 2]
 replace hr := cB f hr
 rcases bT (decide (g.Step > 65536)) with i | i
 ·replace hr := cC i hr
  refine .gn G (ca1 (ok0 (bL n g.Width m a)) (ca3 (ok0 (bL n g.Height p b)))) (.mu 3 (.ca cf0 (.p0 (v := aB false) (eB d) (.mu 4 (.ca (cfA (fun h => by rw [sv b a (fh n h)]) cf0) (.pure (v := aB false) (by kernel_rfl) (eB e) (.mu 4 (.pure (v := aB false) (by kernel_rfl) (eB f) (.mu 4 (.pure (v := aB true) (by kernel_rfl) (eB i) (.mu 17 (.done (.nh [1, 41] [.own (al.c g)] (.cT (by kernel_rfl) (.seq (.ru G (.ret ?_)))))))))))))))))
  obtain rfl := oi hr
  exact aK.r1 [ae 2]
 replace hr := cB i hr
 rcases bT (((g.Step.tmod 2) : Int) != 0) with j | j
 ·replace hr := cC j hr
  refine .gn G (ca1 (ok0 (bL n g.Width m a)) (ca3 (ok0 (bL n g.Height p b)))) (.mu 3 (.ca cf0 (.p0 (v := aB false) (eB d) (.mu 4 (.ca (cfA (fun h => by rw [sv b a (fh n h)]) cf0) (.pure (v := aB false) (by kernel_rfl) (eB e) (.mu 4 (.pure (v := aB false) (by kernel_rfl) (eB f) (.mu 4 (.pure (v := aB false) (by kernel_rfl) (eB i) (.mu 5 (.pure (v := aB true) (by kernel_rfl) (eB j) (.mu 11 (.done (.nh [1, 41] [.own (al.c g)] (.cT (by kernel_rfl) (.seq (.ru G (.ret ?_)))))))))))))))))))
  obtain rfl := oi hr
  exact aK.r1 [ae 2]
 replace hr := cB j hr
 obtain ⟨s, k, hr⟩ := bd hr
 rcases bT s with l | l
 ·subst l
  replace hr := cC rfl hr
  refine .gn G (ca1 (ok0 (bL n g.Width m a)) (ca1 (ok0 (bL n g.Height p b)) (ca3 (ok0 (lI n g.X0 true k))))) (.mu 3 (.ca cf0 (.p0 (v := aB false) (eB d) (.mu 4 (.ca (cfA (fun h => by rw [sv b a (fh n h)]) cf0) (.pure (v := aB false) (by kernel_rfl) (eB e) (.mu 4 (.pure (v := aB false) (by kernel_rfl) (eB f) (.mu 4 (.pure (v := aB false) (by kernel_rfl) (eB i) (.mu 5 (.pure (v := aB false) (by kernel_rfl) (eB j) (.mu 4 (.ca (cfF (cfF cf0)) (.mu 6 (.done (.nh [1, 41] [.own (al.c g)] (.cT (by kernel_rfl) (.seq (.ru G (.ret ?_)))))))))))))))))))))
  obtain rfl := oi hr
  exact aK.r1 [ae 2]
 subst l
 replace hr := cB rfl hr
 obtain ⟨t, o, hr⟩ := bd hr
 refine .gn G (ca1 (ok0 (bL n g.Width m a)) (ca1 (ok0 (bL n g.Height p b)) (ca1 (ok0 (lI n g.X0 false k)) (ca3 (ok0 (lI n g.Y0 t o)))))) (.mu 3 (.ca cf0 (.p0 (v := aB false) (eB d) (.mu 4 (.ca (cfA (fun h => by rw [sv b a (fh n h)]) cf0) (.pure (v := aB false) (by kernel_rfl) (eB e) (.mu 4 (.pure (v := aB false) (by kernel_rfl) (eB f) (.mu 4 (.pure (v := aB false) (by kernel_rfl) (eB i) (.mu 5 (.pure (v := aB false) (by kernel_rfl) (eB j) (.mu 4 (.ca (cfF (cfF cf0)) (.mu 4 (.ca (cfF (cfF (cfA (fun h => by rw [sv o k (vW n h)]) cf0))) (.mu 1 (.done (.nh [1, 41] [.own (al.c g)] ?_)))))))))))))))))))
 refine .cd hr ?_ ?_ <;> intro w hr
 ·refine .seq (.ru G (.ret ?_))
  obtain rfl := oi hr
  exact aK.r1 [ae 2]
 refine .skip (.seq (.seq (.r4 G [1] [(50, aB (((g.Z.length : Int) : Int) != (Fj (g.Width * g.Height))))] ?_)))
 refine .cd hr ?_ ?_ <;> intro x hr
 ·refine .seq (.ru G (.ret ?_))
  obtain rfl := oi hr
  exact aK.r1 [ae 4]
 refine .skip (.seq (.seq ?_))
 obtain ⟨u, q, hr⟩ := bd hr
 refine .g1 G (ok0 (gI n g.Z u q)) (.mu 2 (.ca cf0 (.done (.nh [53] [.own (al.c g)] ?_))))
 refine .cd hr ?_ ?_ <;> intro y hr
 ·refine .seq (.ru G (.ret ?_))
  obtain rfl := oi hr
  exact aK.r1 [ae 2]
 refine .skip (.seq (.ru G (.ret ?_)))
 obtain rfl := oi hr
 exact aK.r1 [ae 0]

theorem gC (n : Nat) (g : al) (level : Int) (r : Int) (hr : dD n g level = some r) : aL Tryz.prog 44 [.agg (al.c g), ae level] (ae r) := by
 unfold dD at hr
 refine aL.bd G Tryz.func44 [.tmp 4] ?_
 unfold Tryz.f44
 simp only [gS]
 refine .seq (.r5 G [1] [(2, .hp 0 0)] [.own (al.c g)] (.seq (.seq ?_)))
 obtain ⟨b, d, hr⟩ := bd hr
 refine .g1 G (ok0 (ph n g b d)) (.mu 1 (.ca cf0 (.mu 1 (.done (.nh [1, 5] [.own (al.c g)] (.seq (.r4 G [1, 5] [(9, aB ((b : Int) != 0))] ?_)))))))
 refine .cd hr ?_ ?_ <;> intro e hr
 ·refine .seq (.ru G (.ret ?_))
  obtain rfl := oi hr
  exact aK.r1 [ae b]
 refine .skip (.seq (.seq (.r4 G [1] [(13, aB (((level.tmod 2) : Int) == 0))] ?_)))
 refine .cd hr ?_ ?_ <;> intro f hr
 ·refine .seq (.ru G (.ret ?_))
  obtain rfl := oi hr
  exact aK.r1 [ae 1]
 refine .skip (.seq (.seq ?_))
 rcases bT (decide (level < (-2097153))) with a | a
 ·replace hr := cC a hr
  refine .r0 G (.mu 1 (.p0 (v := aB true) (eB a) (.mu 4 (.done (.nh [19] [.own (al.c g)] (.cT (by kernel_rfl) (.seq (.ru G (.ret ?_)))))))))
  obtain rfl := oi hr
  exact aK.r1 [ae 2]
 replace hr := cB a hr
 refine .r0 G (.mu 1 (.p0 (v := aB false) (eB a) (.mu 4 (.done (.nh [19] [.own (al.c g)] ?_)))))
 refine .cd hr ?_ ?_ <;> intro h hr
 ·refine .seq (.ru G (.ret ?_))
  obtain rfl := oi hr
  exact aK.r1 [ae 2]
 refine .skip (.seq (.ru G (.ret ?_)))
 obtain rfl := oi hr
 exact aK.r1 [ae 0]

theorem rO {k : Int} {p : Int} {n : Int} {l : Int} {i : Int} {f : Int} {d : List Int} {b : Int} {o : Int} {q : Int} {m : Int} {j : Int} {g : Int} {e : Int} {c : List Int} {a : Int} (h : ([.at (.int .i64 k), .pp [.at (.int .i64 p), .at (.int .i64 n), .at (.int .i64 l), .at (.int .i64 i), .at (.int .i64 f), slT (iC .i64) d] 0, .pp [.at (.int .i64 b)] 0] : List AV) = [.at (.int .i64 o), .pp [.at (.int .i64 q), .at (.int .i64 m), .at (.int .i64 j), .at (.int .i64 g), .at (.int .i64 e), slT (iC .i64) c] 0, .pp [.at (.int .i64 a)] 0]) : k = o /\ p = q /\ n = m /\ l = j /\ i = g /\ f = e /\ d = c /\ b = a := by
 simp only [List.cons.injEq, AV.agg.injEq, AV.at.injEq, Value.int.injEq, Value.bool.injEq, AV.fn.injEq, AV.pp.injEq, true_and, and_true, eC] at h
 simp_all
theorem nW (n : Nat) {k : Int} {p : Int} {o : Int} {l : Int} {i : Int} {f : Int} {d : List Int} {b : Int} {q : Int} {r : Int} {m : Int} {j : Int} {g : Int} {e : Int} {c : List Int} {a : Int} (h : ([.at (.int .i64 k), .pp [.at (.int .i64 p), .at (.int .i64 o), .at (.int .i64 l), .at (.int .i64 i), .at (.int .i64 f), slT (iC .i64) d] 0, .pp [.at (.int .i64 b)] 0] : List AV) = [.at (.int .i64 q), .pp [.at (.int .i64 r), .at (.int .i64 m), .at (.int .i64 j), .at (.int .i64 g), .at (.int .i64 e), slT (iC .i64) c] 0, .pp [.at (.int .i64 a)] 0]) : e8 n k p o l i f d b = e8 n q r m j g e c a := by
 obtain ⟨rfl, rfl, rfl, rfl, rfl, rfl, rfl, rfl⟩ := rO h
 rfl
theorem fj (n : Nat) (k : Int) (p : Int) (g : Int) (e : Int) (d : Int) (c : Int) (a : List Int) (b : Int) (r : Bool) (hr : e8 n k p g e d c a b = some r) : aL Tryz.prog 88 [ae k, .pp [ae p, ae g, ae e, ae d, ae c, bf a] 0, .pp [ae b] 0] (aB r) := by
 unfold e8 at hr
 refine aL.bd G Tryz.func88 [.tmp 4] ?_
 unfold Tryz.f88
 simp only [gS]
 refine .seq (.r4 G [0, 1, 2] [] (.seq ?_))
 obtain ⟨f, hr⟩ := gd hr
 refine .dZ G bI (.mu 3 (.pk (v := .pp (a.flatMap (iC .i64)) (k.toNat * 1)) (tr (au f)) (.pk (v := ae (gt a k)) (tr (aG (aH (aE .i64) (aC f) z1 (by omega : k.toNat * 1 = k.toNat * 1 + 0) (by kernel_rfl)))) (.mu 4 ?_))))
 refine .done ⟨by kernel_rfl, ?_⟩
 refine .ret ?_
 obtain rfl := oi hr
 exact aK.r1 [aB (decide ((Fj (2 * (gt a k))) > b))]

theorem ox (n : Nat) (a : Int) (b : Int) (r : A2 Int) (hr : lG n a b = some r) : aL Tryz.prog 91 [ae a, ae b] (.agg (aj.c r)) := by
 unfold lG at hr
 refine aL.bd G Tryz.func91 [.cell 4 101] ?_
 unfold Tryz.f91
 simp only [gS]
 refine .seq (.r5 G [0, 1] [(4, .hp 0 0)] [.own [ae 0, ae 0]] (.seq (.r5 G [4] [] [.own [ae (mn a b), ae (mx a b)]] (.ret ?_))))
 obtain rfl := oi hr
 exact aK.r1 [.agg [ae (mn a b), ae (mx a b)]]

theorem qI (n : Nat) (t : A3 Int) (c : Int) (F : Int) (q : Int) (i : Int) (d : Int) (b : List Int) (a : Int) (p : List (A2 Int × A2 Int)) (E : List (A2 Int × Bool)) (r : List (A2 Int × A2 Int) × List (A2 Int × Bool)) (hr : lQ n t c F q i d b a p E = some r) : dk 5 Tryz.prog 90 [.agg (aw.c t), .hp 0 0, .hp 3 0, .hp 4 0] [.own [.fn 88 [] [.hp 1 0, .hp 2 0]], .own [ae c, ae F, ae q, ae i, ae d, bf b], .own [ae a], .own [.mp 5], .own [.mp 6], .map (p.map (mpK av.K (gA aj.c))), .map (E.map (mpK av.K bA))] (.tup []) [.own [.fn 88 [] [.hp 1 0, .hp 2 0]], .own [ae c, ae F, ae q, ae i, ae d, bf b], .own [ae a], .own [.mp 5], .own [.mp 6], .map (r.1.map (mpK av.K (gA aj.c))), .map (r.2.map (mpK av.K bA))] := by
 unfold lQ at hr
 refine dk.kp G Tryz.func90 (c := (Tryz.f90.body).getD .skip) rfl (us := []) (s := mkS 55 0 [(0, .agg (aw.c t)), (1, .hp 0 0), (2, .hp 3 0), (3, .hp 4 0)]) (by kernel_rfl) (rs := []) rfl ?_
 unfold Tryz.f90
 simp only [gS]
 refine .seq (.r5 G [1, 2, 3] [(4, .hp 7 0)] [.own [.fn 88 [] [.hp 1 0, .hp 2 0]], .own [ae c, ae F, ae q, ae i, ae d, bf b], .own [ae a], .own [.mp 5], .own [.mp 6], .map (p.map (mpK av.K (gA aj.c))), .map (E.map (mpK av.K bA)), .own (aw.c t)] (.seq (.r5 G [1, 2, 3, 4] [(5, .hp 8 0), (6, .hp 9 0)] [.own [.fn 88 [] [.hp 1 0, .hp 2 0]], .own [ae c, ae F, ae q, ae i, ae d, bf b], .own [ae a], .own [.mp 5], .own [.mp 6], .map (p.map (mpK av.K (gA aj.c))), .map (E.map (mpK av.K bA)), .own (aw.c t), .own [ae 0, ae 0], .own [ae 0, ae 0]] (.seq (.r4 G [1, 2, 3, 4, 5, 6] [(7, aB false)] (.seq (.seq (.r4 G [1, 2, 3, 4, 5, 6, 7] [(11, ae 0)] (.block ?_)))))))))
 replace hr := bd hr; obtain ⟨j4, T, hr⟩ := hr
 refine .aM (σ := fun z0 => match z0 with | (z, A, B, C, H, g) => ⟨mkS 55 0 [(1, .hp 0 0), (2, .hp 3 0), (3, .hp 4 0), (4, .hp 7 0), (5, .hp 8 0), (6, .hp 9 0), (7, aB H), (11, ae g)], [.own [.fn 88 [] [.hp 1 0, .hp 2 0]], .own [ae c, ae F, ae q, ae i, ae d, bf b], .own [ae a], .own [.mp 5], .own [.mp 6], .map (p.map (mpK av.K (gA aj.c))), .map (E.map (mpK av.K bA)), .own (aw.c t), .own [ae z, ae A], .own [ae B, ae C]]⟩) (Q := fun x st' => match (generalizing := false) j4 with | (u, w, j, o, J) => x = .exit 0 /\ Wk 5 st' ⟨mkS 55 0 [(2, .hp 3 0), (3, .hp 4 0), (5, .hp 7 0), (6, .hp 8 0), (7, aB J)], [.own [.fn 88 [] [.hp 1 0, .hp 2 0]], .own [ae c, ae F, ae q, ae i, ae d, bf b], .own [ae a], .own [.mp 5], .own [.mp 6], .map (p.map (mpK av.K (gA aj.c))), .map (E.map (mpK av.K bA)), .own [ae u, ae w], .own [ae j, ae o]]⟩) T ((Wk.gc [1, 2, 3, 4, 5, 6, 7, 11] [(0, true), (1, true), (2, true), (3, true), (4, true), (5, false), (6, false), (7, true), (8, true), (9, true)] rfl (pKt (pKt (pKt (pKt (pKt (pKM av.K (gA aj.c) (fun _ => rfl) p (pKM av.K bA (fun _ => rfl) E trivial)))))))).to) ?_ ?_
 ·clear hr
  rintro m ⟨z, A, B, C, H, g⟩ hr
  show CQ _ _ _ _ _ ⟨_, _⟩
  refine .seq (.r4 G [1, 2, 3, 4, 5, 6, 7, 11] [(12, aB (decide (g < 3)))] (.seq ?_))
  refine .cd hr ?_ ?_ <;> intro mc hr
  ·refine .skip (.seq (.block (.seq (.r4 G [1, 2, 3, 4, 5, 6, 7, 11] [(8, ae g)] (.seq ?_)))))
   obtain ⟨U, V, hr⟩ := gd2 hr
   refine .dZ G bI (.mu 1 (.pk (v := .hp 7 (0 + g.toNat * 1)) (tr (au U)) (.pk (v := ae (A3.get t g)) (tr (y := bB.ofP ((aw.c t)[0 + g.toNat * 1]?)) (aG (yB (k := .i64) (kk := 0) (xs := [t.e0, t.e1, t.e2]) U rfl (by kernel_rfl)))) (.mu 3 (.pk (v := .hp 7 (0 + ((Fj (g + 1)).tmod 3).toNat * 1)) (tr (au V)) (.pk (v := ae (A3.get t ((Fj (g + 1)).tmod 3))) (tr (y := bB.ofP ((aw.c t)[0 + ((Fj (g + 1)).tmod 3).toNat * 1]?)) (aG (yB (k := .i64) (kk := 0) (xs := [t.e0, t.e1, t.e2]) V rfl (by kernel_rfl)))) (.mu 2 ?_)))))))
   refine .done ⟨by kernel_rfl, ?_⟩
   refine .nh [1, 2, 3, 4, 5, 6, 7, 9, 10, 11] [.own [.fn 88 [] [.hp 1 0, .hp 2 0]], .own [ae c, ae F, ae q, ae i, ae d, bf b], .own [ae a], .own [.mp 5], .own [.mp 6], .map (p.map (mpK av.K (gA aj.c))), .map (E.map (mpK av.K bA)), .own (aw.c t), .own [ae z, ae A], .own [ae B, ae C]] ?_
   obtain ⟨D, ko, hr⟩ := bd hr
   refine .wk ((Wk.refl _).to (c := ⟨mkS 55 0 [(1, .hp 0 0), (2, .hp 3 0), (3, .hp 4 0), (4, .hp 7 0), (5, .hp 8 0), (6, .hp 9 0), (7, aB H), (9, ae (A3.get t g)), (10, ae D), (11, ae g)], [.own [.fn 88 [] [.hp 1 0, .hp 2 0]], .own [ae c, ae F, ae q, ae i, ae d, bf b], .own [ae a], .own [.mp 5], .own [.mp 6], .map (p.map (mpK av.K (gA aj.c))), .map (E.map (mpK av.K bA)), .own (aw.c t), .own [ae z, ae A], .own [ae B, ae C]]⟩) (by rw [oi ko]; first | done | kernel_rfl)) <| .block <| .seq ?_
   replace hr := bd hr; obtain ⟨kj, L, hr⟩ := hr
   refine .vD (Q := fun x st' => x = .normal /\ Wk 5 st' ⟨mkS 55 0 [(1, .hp 0 0), (2, .hp 3 0), (3, .hp 4 0), (4, .hp 7 0), (5, .hp 8 0), (6, .hp 9 0), (7, aB H), (9, ae (A3.get t g)), (10, ae D), (11, ae g), (22, aB kj)], [.own [.fn 88 [] [.hp 1 0, .hp 2 0]], .own [ae c, ae F, ae q, ae i, ae d, bf b], .own [ae a], .own [.mp 5], .own [.mp 6], .map (p.map (mpK av.K (gA aj.c))), .map (E.map (mpK av.K bA)), .own (aw.c t), .own [ae z, ae A], .own [ae B, ae C]]⟩) ?_ ?_
   ·clear hr
    have hr := L
    clear L
    obtain ⟨kO, M, hr⟩ := bd hr
    rcases bT kO with N | N
    ·subst N
     replace hr := cC rfl hr
     obtain ⟨lj, W, hr⟩ := bd hr
     refine .gn G (ca1 (gu (args := [ae (A3.get t g), .hp 1 0, .hp 2 0]) (l := [1, 2]) rfl (Sp (SnL.cons (Sn.hp rfl (.inl rfl) (SnC.cons (Sn.pure rfl) (SnC.cons (Sn.pure rfl) (SnC.cons (Sn.pure rfl) (SnC.cons (Sn.pure rfl) (SnC.cons (Sn.pure rfl) (SnC.cons (Sn.pure rfl) SnC.nil))))))) (SnL.cons (Sn.hp rfl (.inl rfl) (SnC.cons (Sn.pure rfl) SnC.nil)) SnL.nil))) (fj n (A3.get t g) c F q i d b a true M)) (ca3 (gu (args := [ae D, .hp 1 0, .hp 2 0]) (l := [1, 2]) rfl (Sp (SnL.cons (Sn.hp rfl (.inl rfl) (SnC.cons (Sn.pure rfl) (SnC.cons (Sn.pure rfl) (SnC.cons (Sn.pure rfl) (SnC.cons (Sn.pure rfl) (SnC.cons (Sn.pure rfl) (SnC.cons (Sn.pure rfl) SnC.nil))))))) (SnL.cons (Sn.hp rfl (.inl rfl) (SnC.cons (Sn.pure rfl) SnC.nil)) SnL.nil))) (fj n D c F q i d b a lj W)))) (.mu 2 (.ca cf0 (.mu 3 (.ca (cfA (fun h => by rw [sv W M (nW n (show ([ae D, .pp [ae c, ae F, ae q, ae i, ae d, bf b] 0, .pp [ae a] 0] : List AV) = [ae (A3.get t g), .pp [ae c, ae F, ae q, ae i, ae d, bf b] 0, .pp [ae a] 0] from (congr (congrArg List.cons (List.cons.inj h).1) (congr (congrArg List.cons rfl) (congr (congrArg List.cons rfl) rfl)))))]) cf0) (.mu 3 (.done ?_))))))
     obtain rfl := oi hr
     exact ⟨rfl, ((Wk.gc [1, 2, 3, 4, 5, 6, 7, 9, 10, 11, 22] [(0, true), (1, true), (2, true), (3, true), (4, true), (5, false), (6, false), (7, true), (8, true), (9, true)] rfl (pKt (pKt (pKt (pKt (pKt (pKM av.K (gA aj.c) (fun _ => rfl) p (pKM av.K bA (fun _ => rfl) E trivial)))))))).to)⟩
    subst N
    replace hr := cB rfl hr
    refine .g1 G (gu (args := [ae (A3.get t g), .hp 1 0, .hp 2 0]) (l := [1, 2]) rfl (Sp (SnL.cons (Sn.hp rfl (.inl rfl) (SnC.cons (Sn.pure rfl) (SnC.cons (Sn.pure rfl) (SnC.cons (Sn.pure rfl) (SnC.cons (Sn.pure rfl) (SnC.cons (Sn.pure rfl) (SnC.cons (Sn.pure rfl) SnC.nil))))))) (SnL.cons (Sn.hp rfl (.inl rfl) (SnC.cons (Sn.pure rfl) SnC.nil)) SnL.nil))) (fj n (A3.get t g) c F q i d b a false M)) (.mu 2 (.ca cf0 (.mu 7 (.done ?_))))
    obtain rfl := oi hr
    exact ⟨rfl, ((Wk.gc [1, 2, 3, 4, 5, 6, 7, 9, 10, 11, 22] [(0, true), (1, true), (2, true), (3, true), (4, true), (5, false), (6, false), (7, true), (8, true), (9, true)] rfl (pKt (pKt (pKt (pKt (pKt (pKM av.K (gA aj.c) (fun _ => rfl) p (pKM av.K bA (fun _ => rfl) E trivial)))))))).to)⟩
   rintro x st' O
   clear L
   obtain ⟨rfl, O⟩ := O
   refine .wk O ?_
   refine .cd hr ?_ ?_ <;> intro jo hr
   ·obtain ⟨X, kz, hr⟩ := bd hr
    refine .g1 G (ok0 (ox n (A3.get t g) D X kz)) (.mu 2 (.ca cf0 (.mu 2 (.done (.pop (.pop (.ru G ?_)))))))
    exact aA (X.e0, X.e1, B, C, true, Fj (g + 1)) hr ((Wk.gc [1, 2, 3, 4, 5, 6, 7, 11] [(0, true), (1, true), (2, true), (3, true), (4, true), (5, false), (6, false), (7, true), (8, true), (9, true)] rfl (pKt (pKt (pKt (pKt (pKt (pKM av.K (gA aj.c) (fun _ => rfl) p (pKM av.K bA (fun _ => rfl) E trivial)))))))).to)
   refine .seq ?_
   obtain ⟨Y, R, hr⟩ := bd hr
   rcases bT (!Y) with I | I
   ·replace hr := cC I hr
    obtain ⟨ml, Z, hr⟩ := bd hr
    refine .gn G (ca1 (gu (args := [ae (A3.get t g), .hp 1 0, .hp 2 0]) (l := [1, 2]) rfl (Sp (SnL.cons (Sn.hp rfl (.inl rfl) (SnC.cons (Sn.pure rfl) (SnC.cons (Sn.pure rfl) (SnC.cons (Sn.pure rfl) (SnC.cons (Sn.pure rfl) (SnC.cons (Sn.pure rfl) (SnC.cons (Sn.pure rfl) SnC.nil))))))) (SnL.cons (Sn.hp rfl (.inl rfl) (SnC.cons (Sn.pure rfl) SnC.nil)) SnL.nil))) (fj n (A3.get t g) c F q i d b a Y R)) (ca3 (gu (args := [ae D, .hp 1 0, .hp 2 0]) (l := [1, 2]) rfl (Sp (SnL.cons (Sn.hp rfl (.inl rfl) (SnC.cons (Sn.pure rfl) (SnC.cons (Sn.pure rfl) (SnC.cons (Sn.pure rfl) (SnC.cons (Sn.pure rfl) (SnC.cons (Sn.pure rfl) (SnC.cons (Sn.pure rfl) SnC.nil))))))) (SnL.cons (Sn.hp rfl (.inl rfl) (SnC.cons (Sn.pure rfl) SnC.nil)) SnL.nil))) (fj n D c F q i d b a ml Z)))) (.mu 2 (.ca cf0 (.p0 (v := aB true) (eB I) (.mu 3 (.ca (cfA (fun h => by rw [sv Z R (nW n (show ([ae D, .pp [ae c, ae F, ae q, ae i, ae d, bf b] 0, .pp [ae a] 0] : List AV) = [ae (A3.get t g), .pp [ae c, ae F, ae q, ae i, ae d, bf b] 0, .pp [ae a] 0] from (congr (congrArg List.cons (List.cons.inj h).1) (congr (congrArg List.cons rfl) (congr (congrArg List.cons rfl) rfl)))))]) cf0) (.mu 2 (.done (.nh [1, 2, 3, 4, 5, 6, 7, 9, 10, 11, 35] [.own [.fn 88 [] [.hp 1 0, .hp 2 0]], .own [ae c, ae F, ae q, ae i, ae d, bf b], .own [ae a], .own [.mp 5], .own [.mp 6], .map (p.map (mpK av.K (gA aj.c))), .map (E.map (mpK av.K bA)), .own (aw.c t), .own [ae z, ae A], .own [ae B, ae C]] ?_))))))))
    refine .cd hr ?_ ?_ <;> intro jJ hr
    ·obtain ⟨iP, ki, hr⟩ := bd hr
     refine .g1 G (ok0 (ox n (A3.get t g) D iP ki)) (.mu 2 (.ca cf0 (.mu 1 (.done (.pop (.pop (.ru G ?_)))))))
     exact aA (z, A, iP.e0, iP.e1, H, Fj (g + 1)) hr ((Wk.gc [1, 2, 3, 4, 5, 6, 7, 11] [(0, true), (1, true), (2, true), (3, true), (4, true), (5, false), (6, false), (7, true), (8, true), (9, true)] rfl (pKt (pKt (pKt (pKt (pKt (pKM av.K (gA aj.c) (fun _ => rfl) p (pKM av.K bA (fun _ => rfl) E trivial)))))))).to)
    refine .skip (.pop (.pop (.ru G ?_)))
    exact aA (z, A, B, C, H, Fj (g + 1)) hr ((Wk.gc [1, 2, 3, 4, 5, 6, 7, 11] [(0, true), (1, true), (2, true), (3, true), (4, true), (5, false), (6, false), (7, true), (8, true), (9, true)] rfl (pKt (pKt (pKt (pKt (pKt (pKM av.K (gA aj.c) (fun _ => rfl) p (pKM av.K bA (fun _ => rfl) E trivial)))))))).to)
   replace hr := cB I hr
   refine .g1 G (gu (args := [ae (A3.get t g), .hp 1 0, .hp 2 0]) (l := [1, 2]) rfl (Sp (SnL.cons (Sn.hp rfl (.inl rfl) (SnC.cons (Sn.pure rfl) (SnC.cons (Sn.pure rfl) (SnC.cons (Sn.pure rfl) (SnC.cons (Sn.pure rfl) (SnC.cons (Sn.pure rfl) (SnC.cons (Sn.pure rfl) SnC.nil))))))) (SnL.cons (Sn.hp rfl (.inl rfl) (SnC.cons (Sn.pure rfl) SnC.nil)) SnL.nil))) (fj n (A3.get t g) c F q i d b a Y R)) (.mu 2 (.ca cf0 (.p0 (v := aB false) (eB I) (.mu 6 (.done (.nh [1, 2, 3, 4, 5, 6, 7, 9, 10, 11, 35] [.own [.fn 88 [] [.hp 1 0, .hp 2 0]], .own [ae c, ae F, ae q, ae i, ae d, bf b], .own [ae a], .own [.mp 5], .own [.mp 6], .map (p.map (mpK av.K (gA aj.c))), .map (E.map (mpK av.K bA)), .own (aw.c t), .own [ae z, ae A], .own [ae B, ae C]] (.cF (by kernel_rfl) (.skip (.pop (.pop (.ru G ?_)))))))))))
   exact aA (z, A, B, C, H, Fj (g + 1)) hr ((Wk.gc [1, 2, 3, 4, 5, 6, 7, 11] [(0, true), (1, true), (2, true), (3, true), (4, true), (5, false), (6, false), (7, true), (8, true), (9, true)] rfl (pKt (pKt (pKt (pKt (pKt (pKM av.K (gA aj.c) (fun _ => rfl) p (pKM av.K bA (fun _ => rfl) E trivial)))))))).to)
  refine .leave rfl ?_
  obtain rfl := oi hr
  exact ⟨rfl, ((Wk.gc [2, 3, 5, 6, 7] [(0, true), (1, true), (2, true), (3, true), (4, true), (5, false), (6, false), (8, true), (9, true)] rfl (pKt (pKt (pKt (pKt (pKt (pKM av.K (gA aj.c) (fun _ => rfl) p (pKM av.K bA (fun _ => rfl) E trivial)))))))).to)⟩
 rcases j4 with ⟨u, w, j, o, J⟩
 rintro x st' S
 clear T
 obtain ⟨rfl, S⟩ := S
 refine aW _ rfl (.wk S (.seq (.r4 G [2, 3, 5, 6] [(49, aB J)] ?_)))
 refine .cd hr ?_ ?_ <;> intro jL hr
 ·refine .seq (.r0 G (.mu 3 (.e0 (v := .unk) (ws := [(5, .map ((ky p (A2.mk u w) (A2.mk j o)).map (mpK av.K (gA aj.c))))]) (tr (y := iM Tryz.prog [.own [.fn 88 [] [.hp 1 0, .hp 2 0]], .own [ae c, ae F, ae q, ae i, ae d, bf b], .own [ae a], .own [.mp 5], .own [.mp 6], .map (p.map (mpK av.K (gA aj.c))), .map (E.map (mpK av.K bA)), .own [ae u, ae w], .own [ae j, ae o]] 124 (.mp 5) (.agg [ae u, ae w]) (.agg [ae j, ae o])) (AZ (kt := 101) (e := 101) (l := p) (f := (gA aj.c)) (v := A2.mk j o) (K := av.K) (x := A2.mk u w) av.key (by kernel_rfl) (by kernel_rfl) (by kernel_rfl) (by kernel_rfl))) (.done (.nh [3, 6] [.own [.fn 88 [] [.hp 1 0, .hp 2 0]], .own [ae c, ae F, ae q, ae i, ae d, bf b], .own [ae a], .own [.mp 5], .own [.mp 6], .map ((ky p (A2.mk u w) (A2.mk j o)).map (mpK av.K (gA aj.c))), .map (E.map (mpK av.K bA)), .own [ae u, ae w], .own [ae j, ae o]] (.r0 G (.mu 2 (.e0 (v := .unk) (ws := [(6, .map ((ky E (A2.mk j o) true).map (mpK av.K bA)))]) (tr (y := iM Tryz.prog [.own [.fn 88 [] [.hp 1 0, .hp 2 0]], .own [ae c, ae F, ae q, ae i, ae d, bf b], .own [ae a], .own [.mp 5], .own [.mp 6], .map ((ky p (A2.mk u w) (A2.mk j o)).map (mpK av.K (gA aj.c))), .map (E.map (mpK av.K bA)), .own [ae u, ae w], .own [ae j, ae o]] 125 (.mp 6) (.agg [ae j, ae o]) (aB true)) (AZ (kt := 101) (e := 4) (l := E) (f := bA) (v := true) (K := av.K) (x := A2.mk j o) av.key (by kernel_rfl) (by kernel_rfl) (by kernel_rfl) (by kernel_rfl))) (.done ?_)))))))))
  obtain rfl := oi hr
  exact dm.normal [] ((Wk.gc [] [(0, true), (1, true), (2, true), (3, true), (4, true), (5, false), (6, false)] rfl (pKt (pKt (pKt (pKt (pKt (pKM av.K (gA aj.c) (fun _ => rfl) (ky p (A2.mk u w) (A2.mk j o)) (pKM av.K bA (fun _ => rfl) (ky E (A2.mk j o) true) trivial)))))))).to)
 refine .skip ?_
 obtain rfl := oi hr
 exact dm.normal [] ((Wk.gc [] [(0, true), (1, true), (2, true), (3, true), (4, true), (5, false), (6, false)] rfl (pKt (pKt (pKt (pKt (pKt (pKM av.K (gA aj.c) (fun _ => rfl) p (pKM av.K bA (fun _ => rfl) E trivial)))))))).to)

theorem jn (n : Nat) (g : al) (c : Int) (D : Int) (o : Int) (i : Int) (f : Int) (e : List Int) (d : Int) (q : List (A2 Int × A2 Int)) (p : List (A2 Int × Bool)) (r : List (A2 Int × A2 Int) × List (A2 Int × Bool)) (hr : bh n g c D o i f e d q p = some r) : dk 5 Tryz.prog 89 [.agg (al.c g), .fn 90 [] [.hp 0 0, .hp 3 0, .hp 4 0]] [.own [.fn 88 [] [.hp 1 0, .hp 2 0]], .own [ae c, ae D, ae o, ae i, ae f, bf e], .own [ae d], .own [.mp 5], .own [.mp 6], .map (q.map (mpK av.K (gA aj.c))), .map (p.map (mpK av.K bA))] (.tup []) [.own [.fn 88 [] [.hp 1 0, .hp 2 0]], .own [ae c, ae D, ae o, ae i, ae f, bf e], .own [ae d], .own [.mp 5], .own [.mp 6], .map (r.1.map (mpK av.K (gA aj.c))), .map (r.2.map (mpK av.K bA))] := by
 unfold bh at hr
 refine dk.kp G Tryz.func89 (c := (Tryz.f89.body).getD .skip) rfl (us := []) (s := mkS 82 0 [(0, .agg (al.c g)), (1, .fn 90 [] [.hp 0 0, .hp 3 0, .hp 4 0])]) (by kernel_rfl) (rs := []) rfl ?_
 unfold Tryz.f89
 simp only [gS]
 refine .seq (.r5 G [1] [(2, .hp 7 0)] [.own [.fn 88 [] [.hp 1 0, .hp 2 0]], .own [ae c, ae D, ae o, ae i, ae f, bf e], .own [ae d], .own [.mp 5], .own [.mp 6], .map (q.map (mpK av.K (gA aj.c))), .map (p.map (mpK av.K bA)), .own (al.c g)] (.seq (.r4 G [1, 2] [(4, ae g.Width)] (.seq (.r4 G [1, 2, 4] [(14, ae (Fj (g.Height - 1))), (15, ae 0)] (.block ?_))))))
 replace hr := bd hr; obtain ⟨iP, U, hr⟩ := hr
 refine .aM (σ := fun z0 => match z0 with | (E, F, h) => ⟨mkS 82 0 [(1, .fn 90 [] [.hp 0 0, .hp 3 0, .hp 4 0]), (2, .hp 7 0), (4, ae g.Width), (14, ae (Fj (g.Height - 1))), (15, ae h)], [.own [.fn 88 [] [.hp 1 0, .hp 2 0]], .own [ae c, ae D, ae o, ae i, ae f, bf e], .own [ae d], .own [.mp 5], .own [.mp 6], .map (E.map (mpK av.K (gA aj.c))), .map (F.map (mpK av.K bA)), .own (al.c g)]⟩) (Q := fun x st' => match (generalizing := false) iP with | (N, O) => x = .exit 0 /\ Wk 5 st' ⟨mkS 82 0 [], [.own [.fn 88 [] [.hp 1 0, .hp 2 0]], .own [ae c, ae D, ae o, ae i, ae f, bf e], .own [ae d], .own [.mp 5], .own [.mp 6], .map (N.map (mpK av.K (gA aj.c))), .map (O.map (mpK av.K bA))]⟩) U ((Wk.gc [1, 2, 4, 14, 15] [(0, true), (1, true), (2, true), (3, true), (4, true), (5, false), (6, false), (7, true)] rfl (pKt (pKt (pKt (pKt (pKt (pKM av.K (gA aj.c) (fun _ => rfl) q (pKM av.K bA (fun _ => rfl) p trivial)))))))).to) ?_ ?_
 ·clear hr
  rintro m ⟨E, F, h⟩ hr
  show CQ _ _ _ _ _ ⟨_, _⟩
  refine .seq (.r4 G [1, 2, 4, 14, 15] [(16, aB (decide (h < (Fj (g.Height - 1)))))] (.seq ?_))
  refine .cd hr ?_ ?_ <;> intro kO hr
  ·refine .skip (.seq (.block (.seq (.r4 G [1, 2, 4, 14, 15] [(5, ae h)] (.seq (.r4 G [1, 2, 4, 5, 14, 15] [(19, ae (Fj (g.Width - 1))), (20, ae 0)] (.block ?_)))))))
   replace hr := bd hr; obtain ⟨j4, V, hr⟩ := hr
   refine .aM (σ := fun z0 => match z0 with | (t, u, l) => ⟨mkS 82 0 [(1, .fn 90 [] [.hp 0 0, .hp 3 0, .hp 4 0]), (2, .hp 7 0), (4, ae g.Width), (5, ae h), (14, ae (Fj (g.Height - 1))), (15, ae h), (19, ae (Fj (g.Width - 1))), (20, ae l)], [.own [.fn 88 [] [.hp 1 0, .hp 2 0]], .own [ae c, ae D, ae o, ae i, ae f, bf e], .own [ae d], .own [.mp 5], .own [.mp 6], .map (t.map (mpK av.K (gA aj.c))), .map (u.map (mpK av.K bA)), .own (al.c g)]⟩) (Q := fun x st' => match (generalizing := false) j4 with | (H, I) => x = .exit 2 /\ Wk 5 st' ⟨mkS 82 0 [(1, .fn 90 [] [.hp 0 0, .hp 3 0, .hp 4 0]), (2, .hp 7 0), (4, ae g.Width), (14, ae (Fj (g.Height - 1))), (15, ae h)], [.own [.fn 88 [] [.hp 1 0, .hp 2 0]], .own [ae c, ae D, ae o, ae i, ae f, bf e], .own [ae d], .own [.mp 5], .own [.mp 6], .map (H.map (mpK av.K (gA aj.c))), .map (I.map (mpK av.K bA)), .own (al.c g)]⟩) V ((Wk.gc [1, 2, 4, 5, 14, 15, 19, 20] [(0, true), (1, true), (2, true), (3, true), (4, true), (5, false), (6, false), (7, true)] rfl (pKt (pKt (pKt (pKt (pKt (pKM av.K (gA aj.c) (fun _ => rfl) E (pKM av.K bA (fun _ => rfl) F trivial)))))))).to) ?_ ?_
   ·clear hr
    rintro m ⟨t, u, l⟩ hr
    show CQ _ _ _ _ _ ⟨_, _⟩
    refine .seq (.r4 G [1, 2, 4, 5, 14, 15, 19, 20] [(21, aB (decide (l < (Fj (g.Width - 1)))))] (.seq ?_))
    refine .cd hr ?_ ?_ <;> intro lj hr
    ·refine .skip (.seq (.block (.seq (.r4 G [1, 2, 4, 5, 14, 15, 19, 20] [(6, ae l)] (.seq (.r4 G [1, 2, 4, 5, 14, 15, 19, 20] [(7, ae (Fj ((Fj (h * g.Width)) + l)))] ?_))))))
     obtain ⟨A, kj, hr⟩ := bd hr
     refine .wk ((Wk.refl _).to (c := ⟨mkS 82 0 [(1, .fn 90 [] [.hp 0 0, .hp 3 0, .hp 4 0]), (2, .hp 7 0), (4, ae g.Width), (5, ae h), (7, ae A), (14, ae (Fj (g.Height - 1))), (15, ae h), (19, ae (Fj (g.Width - 1))), (20, ae l)], [.own [.fn 88 [] [.hp 1 0, .hp 2 0]], .own [ae c, ae D, ae o, ae i, ae f, bf e], .own [ae d], .own [.mp 5], .own [.mp 6], .map (t.map (mpK av.K (gA aj.c))), .map (u.map (mpK av.K bA)), .own (al.c g)]⟩) (by rw [oi kj]; first | done | kernel_rfl)) <| .seq <| .r5 G [1, 2, 4, 5, 14, 15, 19, 20] [(45, .hs 8 0 2 3), (46, ae 2), (47, ae 0)] [.own [.fn 88 [] [.hp 1 0, .hp 2 0]], .own [ae c, ae D, ae o, ae i, ae f, bf e], .own [ae d], .own [.mp 5], .own [.mp 6], .map (t.map (mpK av.K (gA aj.c))), .map (u.map (mpK av.K bA)), .own (al.c g), .own [ae A, ae (Fj (A + 1)), ae (Fj ((Fj (A + g.Width)) + 1)), ae A, ae (Fj ((Fj (A + g.Width)) + 1)), ae (Fj (A + g.Width))]] <| .block ?_
     obtain ⟨b, kz, hr⟩ := bd hr
     refine .wk ((Wk.refl _).to (c := ⟨mkS 82 0 [(1, .fn 90 [] [.hp 0 0, .hp 3 0, .hp 4 0]), (2, .hp 7 0), (4, ae g.Width), (5, ae h), (14, ae (Fj (g.Height - 1))), (15, ae h), (19, ae (Fj (g.Width - 1))), (20, ae l), (45, .hs 8 0 b.length 3), (46, ae 2), (47, ae 0)], [.own [.fn 88 [] [.hp 1 0, .hp 2 0]], .own [ae c, ae D, ae o, ae i, ae f, bf e], .own [ae d], .own [.mp 5], .own [.mp 6], .map (t.map (mpK av.K (gA aj.c))), .map (u.map (mpK av.K bA)), .own (al.c g), .own (b.flatMap aw.c)]⟩) (by rw [<- oi kz]; kernel_rfl)) ?_
     replace hr := bd hr; obtain ⟨ko, W, hr⟩ := hr
     refine .aM (σ := fun z0 => match z0 with | (j, k, a) => ⟨mkS 82 0 [(1, .fn 90 [] [.hp 0 0, .hp 3 0, .hp 4 0]), (2, .hp 7 0), (4, ae g.Width), (5, ae h), (14, ae (Fj (g.Height - 1))), (15, ae h), (19, ae (Fj (g.Width - 1))), (20, ae l), (45, .hs 8 0 b.length 3), (46, ae 2), (47, ae a)], [.own [.fn 88 [] [.hp 1 0, .hp 2 0]], .own [ae c, ae D, ae o, ae i, ae f, bf e], .own [ae d], .own [.mp 5], .own [.mp 6], .map (j.map (mpK av.K (gA aj.c))), .map (k.map (mpK av.K bA)), .own (al.c g), .own (b.flatMap aw.c)]⟩) (Q := fun x st' => match (generalizing := false) ko with | (J, L) => x = .exit 4 /\ Wk 5 st' ⟨mkS 82 0 [(1, .fn 90 [] [.hp 0 0, .hp 3 0, .hp 4 0]), (2, .hp 7 0), (4, ae g.Width), (5, ae h), (14, ae (Fj (g.Height - 1))), (15, ae h), (19, ae (Fj (g.Width - 1))), (20, ae l)], [.own [.fn 88 [] [.hp 1 0, .hp 2 0]], .own [ae c, ae D, ae o, ae i, ae f, bf e], .own [ae d], .own [.mp 5], .own [.mp 6], .map (J.map (mpK av.K (gA aj.c))), .map (L.map (mpK av.K bA)), .own (al.c g)]⟩) W ((Wk.gc [1, 2, 4, 5, 14, 15, 19, 20, 45, 46, 47] [(0, true), (1, true), (2, true), (3, true), (4, true), (5, false), (6, false), (7, true), (8, false)] rfl (pKt (pKt (pKt (pKt (pKt (pKM av.K (gA aj.c) (fun _ => rfl) t (pKM av.K bA (fun _ => rfl) u (pKt (pKo aw.c aw.pure b trivial)))))))))).to) ?_ ?_
     ·clear hr
      rintro m ⟨j, k, a⟩ hr
      show CQ _ _ _ _ _ ⟨_, _⟩
      refine .seq (.r4 G [1, 2, 4, 5, 14, 15, 19, 20, 45, 46, 47] [(48, aB (decide (a < 2)))] (.seq ?_))
      refine .cd hr ?_ ?_ <;> intro ml hr
      ·refine .skip (.seq (.block (.seq ?_)))
       obtain ⟨X, hr⟩ := gd hr
       refine .r0 G (.p0 (v := .hp 8 (0 + a.toNat * 3)) (tr (au X)) (.p0 (v := .agg (aw.c (gt b a))) (tr (y := bB.ofP (ei (decide (3 <= ((b.flatMap aw.c).drop (0 + a.toNat * 3)).length)) (.agg (((b.flatMap aw.c).drop (0 + a.toNat * 3)).take 3)))) (b6 aw.len (aC X) (by decide) (by omega : 0 + a.toNat * 3 = a.toNat * 3 + 0) (by kernel_rfl))) (.mu 2 (.done (.nh [1, 2, 4, 5, 9, 14, 15, 19, 20, 45, 46, 47] [.own [.fn 88 [] [.hp 1 0, .hp 2 0]], .own [ae c, ae D, ae o, ae i, ae f, bf e], .own [ae d], .own [.mp 5], .own [.mp 6], .map (j.map (mpK av.K (gA aj.c))), .map (k.map (mpK av.K bA)), .own (al.c g), .own (b.flatMap aw.c), .own (aw.c (gt b a))] (.seq ?_))))))
       obtain ⟨w, hr⟩ := gd hr
       rcases bT (((gt g.Z (gt b a).e0) : Int) != (-2147483648)) with z | z
       ·replace hr := cC z hr
        obtain ⟨M, hr⟩ := gd hr
        rcases bT (((gt g.Z (gt b a).e1) : Int) != (-2147483648)) with B | B
        ·replace hr := cC B hr
         obtain ⟨Y, hr⟩ := gd hr
         refine .r0 G (.mu 4 (.p0 (v := .pp (g.Z.flatMap (iC .i64)) ((gt b a).e0.toNat * 1)) (tr (au w)) (.p0 (v := ae (gt g.Z (gt b a).e0)) (tr (aG (aH (aE .i64) (aC w) z1 (by omega : (gt b a).e0.toNat * 1 = (gt b a).e0.toNat * 1 + 0) (by kernel_rfl)))) (.p0 (v := aB true) (eB z) (.mu 5 (.pure (v := .pp (g.Z.flatMap (iC .i64)) ((gt b a).e1.toNat * 1)) (by kernel_rfl) (tr (au M)) (.pure (v := ae (gt g.Z (gt b a).e1)) (by kernel_rfl) (tr (aG (aH (aE .i64) (aC M) z1 (by omega : (gt b a).e1.toNat * 1 = (gt b a).e1.toNat * 1 + 0) (by kernel_rfl)))) (.pure (v := aB true) (by kernel_rfl) (eB B) (.mu 6 (.pure (v := .pp (g.Z.flatMap (iC .i64)) ((gt b a).e2.toNat * 1)) (by kernel_rfl) (tr (au Y)) (.pure (v := ae (gt g.Z (gt b a).e2)) (by kernel_rfl) (tr (aG (aH (aE .i64) (aC Y) z1 (by omega : (gt b a).e2.toNat * 1 = (gt b a).e2.toNat * 1 + 0) (by kernel_rfl)))) (.mu 2 (.done (.nh [1, 2, 4, 5, 9, 14, 15, 19, 20, 45, 46, 47, 75] [.own [.fn 88 [] [.hp 1 0, .hp 2 0]], .own [ae c, ae D, ae o, ae i, ae f, bf e], .own [ae d], .own [.mp 5], .own [.mp 6], .map (j.map (mpK av.K (gA aj.c))), .map (k.map (mpK av.K bA)), .own (al.c g), .own (b.flatMap aw.c), .own (aw.c (gt b a))] ?_))))))))))))))
         refine .cd hr ?_ ?_ <;> intro mc hr
         ·obtain ⟨C, ki, hr⟩ := bd hr
          refine .g1 G (lf 0 (.own [.fn 88 [] [.hp 1 0, .hp 2 0]]) [] [(1, .own [ae c, ae D, ae o, ae i, ae f, bf e]), (2, .own [ae d]), (3, .own [.mp 10]), (4, .own [.mp 11]), (10, .map (C.1.map (mpK av.K (gA aj.c)))), (11, .map (C.2.map (mpK av.K bA))), (5, .dead), (6, .dead)] (bX (args := [.agg (aw.c (gt b a)), .hp 0 0, .hp 3 0, .hp 4 0]) 5 2 [(0, true), (1, true), (2, true), (3, true), (4, true), (5, false), (6, false)] [true, true, true, true, true, false, false] (qI n (gt b a) c D o i f e d j k C ki) (by exact ⟨gD (fun _ => rfl) _, ⟨gD (fun _ => rfl) _, trivial⟩⟩) (by exact ⟨gD (fun _ => rfl) _, ⟨gD (fun _ => rfl) _, trivial⟩⟩) rfl rfl (by kernel_rfl) (by kernel_rfl))) (.mu 2 (.ca cf0 (.done (.pop (.ru G ?_)))))
          exact aA (C.1, C.2, Fj (a + 1)) hr ((Wk.gc [1, 2, 4, 5, 14, 15, 19, 20, 45, 46, 47] [(0, true), (1, true), (2, true), (3, true), (4, true), (10, false), (11, false), (7, true), (8, false)] rfl (pKt (pKt (pKt (pKt (pKt (pKM av.K (gA aj.c) (fun _ => rfl) C.1 (pKM av.K bA (fun _ => rfl) C.2 (pKt (pKo aw.c aw.pure b trivial)))))))))).to)
         refine .skip (.pop (.ru G ?_))
         exact aA (j, k, Fj (a + 1)) hr ((Wk.gc [1, 2, 4, 5, 14, 15, 19, 20, 45, 46, 47] [(0, true), (1, true), (2, true), (3, true), (4, true), (5, false), (6, false), (7, true), (8, false)] rfl (pKt (pKt (pKt (pKt (pKt (pKM av.K (gA aj.c) (fun _ => rfl) j (pKM av.K bA (fun _ => rfl) k (pKt (pKo aw.c aw.pure b trivial)))))))))).to)
        replace hr := cB B hr
        refine .r0 G (.mu 4 (.p0 (v := .pp (g.Z.flatMap (iC .i64)) ((gt b a).e0.toNat * 1)) (tr (au w)) (.p0 (v := ae (gt g.Z (gt b a).e0)) (tr (aG (aH (aE .i64) (aC w) z1 (by omega : (gt b a).e0.toNat * 1 = (gt b a).e0.toNat * 1 + 0) (by kernel_rfl)))) (.p0 (v := aB true) (eB z) (.mu 5 (.pure (v := .pp (g.Z.flatMap (iC .i64)) ((gt b a).e1.toNat * 1)) (by kernel_rfl) (tr (au M)) (.pure (v := ae (gt g.Z (gt b a).e1)) (by kernel_rfl) (tr (aG (aH (aE .i64) (aC M) z1 (by omega : (gt b a).e1.toNat * 1 = (gt b a).e1.toNat * 1 + 0) (by kernel_rfl)))) (.pure (v := aB false) (by kernel_rfl) (eB B) (.mu 10 (.done (.nh [1, 2, 4, 5, 9, 14, 15, 19, 20, 45, 46, 47, 75] [.own [.fn 88 [] [.hp 1 0, .hp 2 0]], .own [ae c, ae D, ae o, ae i, ae f, bf e], .own [ae d], .own [.mp 5], .own [.mp 6], .map (j.map (mpK av.K (gA aj.c))), .map (k.map (mpK av.K bA)), .own (al.c g), .own (b.flatMap aw.c), .own (aw.c (gt b a))] (.cF (by kernel_rfl) (.skip (.pop (.ru G ?_)))))))))))))))
        exact aA (j, k, Fj (a + 1)) hr ((Wk.gc [1, 2, 4, 5, 14, 15, 19, 20, 45, 46, 47] [(0, true), (1, true), (2, true), (3, true), (4, true), (5, false), (6, false), (7, true), (8, false)] rfl (pKt (pKt (pKt (pKt (pKt (pKM av.K (gA aj.c) (fun _ => rfl) j (pKM av.K bA (fun _ => rfl) k (pKt (pKo aw.c aw.pure b trivial)))))))))).to)
       replace hr := cB z hr
       refine .r0 G (.mu 4 (.p0 (v := .pp (g.Z.flatMap (iC .i64)) ((gt b a).e0.toNat * 1)) (tr (au w)) (.p0 (v := ae (gt g.Z (gt b a).e0)) (tr (aG (aH (aE .i64) (aC w) z1 (by omega : (gt b a).e0.toNat * 1 = (gt b a).e0.toNat * 1 + 0) (by kernel_rfl)))) (.p0 (v := aB false) (eB z) (.mu 18 (.done (.nh [1, 2, 4, 5, 9, 14, 15, 19, 20, 45, 46, 47, 75] [.own [.fn 88 [] [.hp 1 0, .hp 2 0]], .own [ae c, ae D, ae o, ae i, ae f, bf e], .own [ae d], .own [.mp 5], .own [.mp 6], .map (j.map (mpK av.K (gA aj.c))), .map (k.map (mpK av.K bA)), .own (al.c g), .own (b.flatMap aw.c), .own (aw.c (gt b a))] (.cF (by kernel_rfl) (.skip (.pop (.ru G ?_)))))))))))
       exact aA (j, k, Fj (a + 1)) hr ((Wk.gc [1, 2, 4, 5, 14, 15, 19, 20, 45, 46, 47] [(0, true), (1, true), (2, true), (3, true), (4, true), (5, false), (6, false), (7, true), (8, false)] rfl (pKt (pKt (pKt (pKt (pKt (pKM av.K (gA aj.c) (fun _ => rfl) j (pKM av.K bA (fun _ => rfl) k (pKt (pKo aw.c aw.pure b trivial)))))))))).to)
      refine .leave rfl ?_
      obtain rfl := oi hr
      exact ⟨rfl, ((Wk.gc [1, 2, 4, 5, 14, 15, 19, 20] [(0, true), (1, true), (2, true), (3, true), (4, true), (5, false), (6, false), (7, true)] rfl (pKt (pKt (pKt (pKt (pKt (pKM av.K (gA aj.c) (fun _ => rfl) j (pKM av.K bA (fun _ => rfl) k trivial)))))))).to)⟩
     rcases ko with ⟨J, L⟩
     rintro x st' R
     clear W
     obtain ⟨rfl, R⟩ := R
     refine aW _ rfl (.pop (.wk R (.ru G ?_)))
     exact aA (J, L, Fj (l + 1)) hr ((Wk.gc [1, 2, 4, 5, 14, 15, 19, 20] [(0, true), (1, true), (2, true), (3, true), (4, true), (5, false), (6, false), (7, true)] rfl (pKt (pKt (pKt (pKt (pKt (pKM av.K (gA aj.c) (fun _ => rfl) J (pKM av.K bA (fun _ => rfl) L trivial)))))))).to)
    refine .leave rfl ?_
    obtain rfl := oi hr
    exact ⟨rfl, ((Wk.gc [1, 2, 4, 14, 15] [(0, true), (1, true), (2, true), (3, true), (4, true), (5, false), (6, false), (7, true)] rfl (pKt (pKt (pKt (pKt (pKt (pKM av.K (gA aj.c) (fun _ => rfl) t (pKM av.K bA (fun _ => rfl) u trivial)))))))).to)⟩
   rcases j4 with ⟨H, I⟩
   rintro x st' S
   clear V
   obtain ⟨rfl, S⟩ := S
   refine aW _ rfl (.pop (.wk S (.ru G ?_)))
   exact aA (H, I, Fj (h + 1)) hr ((Wk.gc [1, 2, 4, 14, 15] [(0, true), (1, true), (2, true), (3, true), (4, true), (5, false), (6, false), (7, true)] rfl (pKt (pKt (pKt (pKt (pKt (pKM av.K (gA aj.c) (fun _ => rfl) H (pKM av.K bA (fun _ => rfl) I trivial)))))))).to)
  refine .leave rfl ?_
  obtain rfl := oi hr
  exact ⟨rfl, ((Wk.gc [] [(0, true), (1, true), (2, true), (3, true), (4, true), (5, false), (6, false)] rfl (pKt (pKt (pKt (pKt (pKt (pKM av.K (gA aj.c) (fun _ => rfl) E (pKM av.K bA (fun _ => rfl) F trivial)))))))).to)⟩
 rcases iP with ⟨N, O⟩
 rintro x st' T
 clear U
 obtain ⟨rfl, T⟩ := T
 refine aW _ rfl ?_
 obtain rfl := oi hr
 exact dm.wk T (dm.normal [] ((Wk.gc [] [(0, true), (1, true), (2, true), (3, true), (4, true), (5, false), (6, false)] rfl (pKt (pKt (pKt (pKt (pKt (pKM av.K (gA aj.c) (fun _ => rfl) N (pKM av.K bA (fun _ => rfl) O trivial)))))))).to))

theorem sE (n : Nat) (a : Int) (r : Int) (hr : m6 n a = some r) : aL Tryz.prog 141 [cK a] (ae r) := by
 unfold m6 at hr
 refine aL.bd G Tryz.func141 [.tmp 2] ?_
 unfold Tryz.f141
 simp only [gS]
 refine .seq (.r4 G [0] [(2, ae 0)] (.seq (.seq (.r4 G [0, 2] [(4, aB (decide (a >= 4294967296)))] ?_))))
 refine .cd hr ?_ ?_ <;> intro u hr
 ·refine .seq (.r3 G 25 [(0, cK (a.fdiv (2 ^ 32)))] (.r4 G [0] [(2, ae 32)] (.seq (.seq (.r4 G [0, 2] [(8, aB (decide ((a.fdiv (2 ^ 32)) >= 65536)))] ?_)))))
  refine .cd hr ?_ ?_ <;> intro w hr
  ·refine .seq (.r4 G [2] [(0, cK ((a.fdiv (2 ^ 32)).fdiv (2 ^ 16)))] (.r4 G [0] [(2, ae 48)] (.seq (.seq (.r4 G [0, 2] [(14, aB (decide (((a.fdiv (2 ^ 32)).fdiv (2 ^ 16)) >= 256)))] ?_)))))
   refine .cd hr ?_ ?_ <;> intro x hr
   ·refine .seq (.r4 G [2] [(0, cK (((a.fdiv (2 ^ 32)).fdiv (2 ^ 16)).fdiv (2 ^ 8)))] ?_)
    obtain ⟨h, j, hr⟩ := bd hr
    refine .wk ((Wk.refl _).to (c := ⟨mkS 25 0 [(0, cK h), (2, ae 48)], []⟩) (by rw [oi j]; first | done | kernel_rfl)) <| .r4 G [0] [(2, ae 56)] <| .seq ?_
    obtain ⟨l, hr⟩ := gd hr
    refine .r0 G (.mu 3 (.p0 (v := aU8 (iO gb (aa .u8 h))) (oa (s := gb) (k := .u8) (i := (aa .u8 h)) (by kernel_rfl) (by kernel_rfl) (by kernel_rfl) l) (.mu 3 (.done (.ret ?_)))))
    obtain rfl := oi hr
    exact aK.r1 [ae (Fj (56 + (Fj (iO gb (aa .u8 h)))))]
   refine .skip (.seq ?_)
   obtain ⟨m, hr⟩ := gd hr
   refine .r0 G (.mu 3 (.p0 (v := aU8 (iO gb (aa .u8 ((a.fdiv (2 ^ 32)).fdiv (2 ^ 16))))) (oa (s := gb) (k := .u8) (i := (aa .u8 ((a.fdiv (2 ^ 32)).fdiv (2 ^ 16)))) (by kernel_rfl) (by kernel_rfl) (by kernel_rfl) m) (.mu 3 (.done (.ret ?_)))))
   obtain rfl := oi hr
   exact aK.r1 [ae (Fj (48 + (Fj (iO gb (aa .u8 ((a.fdiv (2 ^ 32)).fdiv (2 ^ 16)))))))]
  refine .skip (.seq (.seq (.r4 G [0, 2] [(14, aB (decide ((a.fdiv (2 ^ 32)) >= 256)))] ?_)))
  refine .cd hr ?_ ?_ <;> intro y hr
  ·refine .seq (.r4 G [2] [(0, cK ((a.fdiv (2 ^ 32)).fdiv (2 ^ 8)))] (.r4 G [0] [(2, ae 40)] (.seq ?_)))
   obtain ⟨o, hr⟩ := gd hr
   refine .r0 G (.mu 3 (.p0 (v := aU8 (iO gb (aa .u8 ((a.fdiv (2 ^ 32)).fdiv (2 ^ 8))))) (oa (s := gb) (k := .u8) (i := (aa .u8 ((a.fdiv (2 ^ 32)).fdiv (2 ^ 8)))) (by kernel_rfl) (by kernel_rfl) (by kernel_rfl) o) (.mu 3 (.done (.ret ?_)))))
   obtain rfl := oi hr
   exact aK.r1 [ae (Fj (40 + (Fj (iO gb (aa .u8 ((a.fdiv (2 ^ 32)).fdiv (2 ^ 8)))))))]
  refine .skip (.seq ?_)
  obtain ⟨b, hr⟩ := gd hr
  refine .r0 G (.mu 3 (.p0 (v := aU8 (iO gb (aa .u8 (a.fdiv (2 ^ 32))))) (oa (s := gb) (k := .u8) (i := (aa .u8 (a.fdiv (2 ^ 32)))) (by kernel_rfl) (by kernel_rfl) (by kernel_rfl) b) (.mu 3 (.done (.ret ?_)))))
  obtain rfl := oi hr
  exact aK.r1 [ae (Fj (32 + (Fj (iO gb (aa .u8 (a.fdiv (2 ^ 32)))))))]
 refine .skip (.seq (.seq (.r4 G [0, 2] [(8, aB (decide (a >= 65536)))] ?_)))
 refine .cd hr ?_ ?_ <;> intro p hr
 ·refine .seq (.r4 G [2] [(0, cK (a.fdiv (2 ^ 16)))] (.r4 G [0] [(2, ae 16)] (.seq (.seq (.r4 G [0, 2] [(14, aB (decide ((a.fdiv (2 ^ 16)) >= 256)))] ?_)))))
  refine .cd hr ?_ ?_ <;> intro q hr
  ·refine .seq (.r4 G [2] [(0, cK ((a.fdiv (2 ^ 16)).fdiv (2 ^ 8)))] (.r4 G [0] [(2, ae 24)] (.seq ?_)))
   obtain ⟨d, hr⟩ := gd hr
   refine .r0 G (.mu 3 (.p0 (v := aU8 (iO gb (aa .u8 ((a.fdiv (2 ^ 16)).fdiv (2 ^ 8))))) (oa (s := gb) (k := .u8) (i := (aa .u8 ((a.fdiv (2 ^ 16)).fdiv (2 ^ 8)))) (by kernel_rfl) (by kernel_rfl) (by kernel_rfl) d) (.mu 3 (.done (.ret ?_)))))
   obtain rfl := oi hr
   exact aK.r1 [ae (Fj (24 + (Fj (iO gb (aa .u8 ((a.fdiv (2 ^ 16)).fdiv (2 ^ 8)))))))]
  refine .skip (.seq ?_)
  obtain ⟨e, hr⟩ := gd hr
  refine .r0 G (.mu 3 (.p0 (v := aU8 (iO gb (aa .u8 (a.fdiv (2 ^ 16))))) (oa (s := gb) (k := .u8) (i := (aa .u8 (a.fdiv (2 ^ 16)))) (by kernel_rfl) (by kernel_rfl) (by kernel_rfl) e) (.mu 3 (.done (.ret ?_)))))
  obtain rfl := oi hr
  exact aK.r1 [ae (Fj (16 + (Fj (iO gb (aa .u8 (a.fdiv (2 ^ 16)))))))]
 refine .skip (.seq (.seq (.r4 G [0, 2] [(14, aB (decide (a >= 256)))] ?_)))
 refine .cd hr ?_ ?_ <;> intro t hr
 ·refine .seq (.r4 G [2] [(0, cK (a.fdiv (2 ^ 8)))] (.r4 G [0] [(2, ae 8)] (.seq ?_)))
  obtain ⟨f, hr⟩ := gd hr
  refine .r0 G (.mu 3 (.p0 (v := aU8 (iO gb (aa .u8 (a.fdiv (2 ^ 8))))) (oa (s := gb) (k := .u8) (i := (aa .u8 (a.fdiv (2 ^ 8)))) (by kernel_rfl) (by kernel_rfl) (by kernel_rfl) f) (.mu 3 (.done (.ret ?_)))))
  obtain rfl := oi hr
  exact aK.r1 [ae (Fj (8 + (Fj (iO gb (aa .u8 (a.fdiv (2 ^ 8)))))))]
 refine .skip (.seq ?_)
 obtain ⟨g, hr⟩ := gd hr
 refine .r0 G (.mu 3 (.p0 (v := aU8 (iO gb (aa .u8 a))) (oa (s := gb) (k := .u8) (i := (aa .u8 a)) (by kernel_rfl) (by kernel_rfl) (by kernel_rfl) g) (.mu 3 (.done (.ret ?_)))))
 obtain rfl := oi hr
 exact aK.r1 [ae (Fj (0 + (Fj (iO gb (aa .u8 a)))))]

theorem mi (n : Nat) (a : Int) (r : Int) (hr : kH n a = some r) : aL Tryz.prog 98 [cK a] (ae r) := by
 unfold kH at hr
 refine aL.bd G Tryz.func98 [.tmp 2] ?_
 unfold Tryz.f98
 simp only [gS]
 refine .seq (.r4 G [0] [] (.seq (.cF (by kernel_rfl) (.skip (.seq ?_)))))
 obtain ⟨c, b, hr⟩ := bd hr
 refine .g1 G (ok0 (sE n a c b)) (.mu 1 (.ca cf0 (.mu 1 (.done (.ret ?_)))))
 obtain rfl := oi hr
 exact aK.r1 [ae c]

theorem ja (n : Nat) (a : A2 Int) (b : A2 Int) (r : Int) (hr : gK n a b = some r) : aL Tryz.prog 54 [.agg (aj.c a), .agg (aj.c b)] (ae r) := by
 unfold gK at hr
 refine aL.bd G Tryz.func54 [.tmp 4] ?_
 unfold Tryz.f54
 simp only [gS]
 refine .seq (.r2 G 20 [(2, .hp 0 0), (3, .hp 1 0)] [.own (aj.c a), .own (aj.c b)] (.seq (.seq (.r4 G [2, 3] [(9, aB ((a.e0 : Int) != b.e0))] ?_))))
 refine .cd hr ?_ ?_ <;> intro d hr
 ·refine .seq (.ru G (.ret ?_))
  obtain rfl := oi hr
  exact aK.r1 [ae (Fj (a.e0 - b.e0))]
 refine .skip (.seq (.ru G (.ret ?_)))
 obtain rfl := oi hr
 exact aK.r1 [ae (Fj (a.e1 - b.e1))]

theorem dN (n : Nat) (data : List (A2 Int)) (a : Int) (b : Int) (r : List (A2 Int)) (hr : bm n data a b = some r) : dk 1 Tryz.prog 164 [.hs 0 0 data.length 2, ae a, ae b, .fn 54 [] []] [.own (data.flatMap aj.c)] (.tup []) [.own (r.flatMap aj.c)] := by
 unfold bm at hr
 refine dk.kp G Tryz.func164 (c := (Tryz.f164.body).getD .skip) rfl (us := []) (s := mkS 53 0 [(0, .hs 0 0 data.length 2), (1, ae a), (2, ae b), (3, .fn 54 [] [])]) (by kernel_rfl) (rs := []) rfl ?_
 unfold Tryz.f164
 simp only [gS]
 refine .seq (.r4 G [0, 1, 2, 3] [(8, ae (Fj (a + 1)))] (.block ?_))
 replace hr := bd hr; obtain ⟨p, q, hr⟩ := hr
 refine .aM (σ := fun w => match w with | (i, f) => ⟨mkS 53 0 [(0, .hs 0 0 i.length 2), (1, ae a), (2, ae b), (3, .fn 54 [] []), (8, ae f)], [.own (i.flatMap aj.c)]⟩) (Q := fun x st' => x = .exit 0 /\ Wk 1 st' ⟨mkS 53 0 [], [.own (p.flatMap aj.c)]⟩) q ((Wk.gc [0, 1, 2, 3, 8] [(0, false)] rfl (pKo aj.c aj.pure data trivial)).to) ?_ ?_
 ·clear hr
  rintro m ⟨i, f⟩ hr
  show CQ _ _ _ _ _ ⟨_, _⟩
  refine .seq (.seq (.r4 G [0, 1, 2, 3, 8] [(14, aB (decide (f < b)))] ?_))
  refine .cd hr ?_ ?_ <;> intro A hr
  ·refine .skip (.seq (.block (.seq (.r4 G [0, 1, 2, 3, 8] [(9, ae f)] (.block ?_)))))
   replace hr := bd hr; obtain ⟨k, t, hr⟩ := hr
   refine .aM (σ := fun w => match w with | (e, d) => ⟨mkS 53 0 [(0, .hs 0 0 e.length 2), (1, ae a), (2, ae b), (3, .fn 54 [] []), (8, ae f), (9, ae d)], [.own (e.flatMap aj.c)]⟩) (Q := fun x st' => x = .exit 2 /\ Wk 1 st' ⟨mkS 53 0 [(0, .hs 0 0 k.length 2), (1, ae a), (2, ae b), (3, .fn 54 [] []), (8, ae f)], [.own (k.flatMap aj.c)]⟩) t ((Wk.gc [0, 1, 2, 3, 8, 9] [(0, false)] rfl (pKo aj.c aj.pure i trivial)).to) ?_ ?_
   ·clear hr
    rintro m ⟨e, d⟩ hr
    show CQ _ _ _ _ _ ⟨_, _⟩
    refine .seq (.seq ?_)
    rcases bT (decide (d > a)) with j | j
    ·replace hr := cC j hr
     obtain ⟨g, h, hr⟩ := gd2 hr
     obtain ⟨z, u, hr⟩ := bd hr
     refine .t1 G (ok0 (ja n (gt e d) (gt e (Fj (d - 1))) z u)) (.mu 2 (.pk (v := aB true) (eB j) (.mu 4 (.pk (v := .hp 0 (0 + d.toNat * 2)) (tr (au g)) (.pk (v := .agg (aj.c (gt e d))) (tr (y := bB.ofP (ei (decide (2 <= ((e.flatMap aj.c).drop (0 + d.toNat * 2)).length)) (.agg (((e.flatMap aj.c).drop (0 + d.toNat * 2)).take 2)))) (b6 aj.len (aC g) (by decide) (by omega : 0 + d.toNat * 2 = d.toNat * 2 + 0) (by kernel_rfl))) (.mu 3 (.pk (v := .hp 0 (0 + (Fj (d - 1)).toNat * 2)) (tr (au h)) (.pk (v := .agg (aj.c (gt e (Fj (d - 1))))) (tr (y := bB.ofP (ei (decide (2 <= ((e.flatMap aj.c).drop (0 + (Fj (d - 1)).toNat * 2)).length)) (.agg (((e.flatMap aj.c).drop (0 + (Fj (d - 1)).toNat * 2)).take 2)))) (b6 aj.len (aC h) (by decide) (by omega : 0 + (Fj (d - 1)).toNat * 2 = (Fj (d - 1)).toNat * 2 + 0) (by kernel_rfl))) (.ca cf0 (.mu 2 ?_))))))))))
     refine .done ⟨by kernel_rfl, ?_⟩
     refine .nh [0, 1, 2, 3, 8, 9, 34] [.own (e.flatMap aj.c)] ?_
     refine .cd hr ?_ ?_ <;> intro B hr
     ·refine .skip (.seq (.block (.dZ G bI (.mu 8 (.pk (v := .hp 0 (0 + (Fj (d - 1)).toNat * 2)) (tr (au h)) (.pk (v := .agg (aj.c (gt e (Fj (d - 1))))) (tr (y := bB.ofP (ei (decide (2 <= ((e.flatMap aj.c).drop (0 + (Fj (d - 1)).toNat * 2)).length)) (.agg (((e.flatMap aj.c).drop (0 + (Fj (d - 1)).toNat * 2)).take 2)))) (b6 aj.len (aC h) (by decide) (by omega : 0 + (Fj (d - 1)).toNat * 2 = (Fj (d - 1)).toNat * 2 + 0) (by kernel_rfl))) (.mu 2 (.pk (v := .hp 0 (0 + d.toNat * 2)) (tr (au g)) (.pk (v := .agg (aj.c (gt e d))) (tr (y := bB.ofP (ei (decide (2 <= ((e.flatMap aj.c).drop (0 + d.toNat * 2)).length)) (.agg (((e.flatMap aj.c).drop (0 + d.toNat * 2)).take 2)))) (b6 aj.len (aC g) (by decide) (by omega : 0 + d.toNat * 2 = d.toNat * 2 + 0) (by kernel_rfl))) (.pk (v := .hp 0 (0 + d.toNat * 2)) (tr (au g)) (.ek (v := .unk) (ws := [(0, .own ((e.set d.toNat (gt e (Fj (d - 1)))).flatMap aj.c))]) (tr (iD (iJ (cr (n := 2) aj.len (aC g) (lbT rfl) (by omega : 0 + d.toNat * 2 = d.toNat * 2 + 0))) (congrArg Blk.own (cR (xs := (aj.c (gt e (Fj (d - 1))))) aj.len (aC g) (lbT rfl) (by omega : 0 + d.toNat * 2 = d.toNat * 2 + 0) (by kernel_rfl))))) (.pk (v := .hp 0 (0 + (Fj (d - 1)).toNat * 2)) (tr (au h)) (.ek (v := .unk) (ws := [(0, .own (((e.set d.toNat (gt e (Fj (d - 1)))).set (Fj (d - 1)).toNat (gt e d)).flatMap aj.c))]) (tr (y := stO (decide ((0 + (Fj (d - 1)).toNat * 2) + 2 <= ((e.set d.toNat (gt e (Fj (d - 1)))).flatMap aj.c).length) && true) [(0, .own (setCells ((e.set d.toNat (gt e (Fj (d - 1)))).flatMap aj.c) (0 + (Fj (d - 1)).toNat * 2) (aj.c (gt e d))))]) (iD (iJ (cr aj.len (aC (rz h)) (lbT rfl) (by omega : 0 + (Fj (d - 1)).toNat * 2 = (Fj (d - 1)).toNat * 2 + 0))) (congrArg Blk.own (cR aj.len (aC (rz h)) (lbT rfl) (by omega : 0 + (Fj (d - 1)).toNat * 2 = (Fj (d - 1)).toNat * 2 + 0) (by kernel_rfl))))) ?_)))))))))))))
      refine .done ⟨by kernel_rfl, ?_⟩
      refine .pop (.ru G ?_)
      exact aA ((e.set d.toNat (gt e (Fj (d - 1)))).set (Fj (d - 1)).toNat (gt e d), Fj (d - 1)) hr ((Wk.iH 0 (b := 0) (es := 2) (len := e.length) ((e.set d.toNat (gt e (Fj (d - 1)))).set (Fj (d - 1)).toNat (gt e d)).length (by kernel_rfl) (Eq.symm (List.length_set.trans (List.length_set.trans rfl)))).trans ((Wk.gc [0, 1, 2, 3, 8, 9] [(0, false)] rfl (pKo aj.c aj.pure ((e.set d.toNat (gt e (Fj (d - 1)))).set (Fj (d - 1)).toNat (gt e d)) trivial)).to))
     refine .leave rfl ?_
     obtain rfl := oi hr
     exact ⟨rfl, ((Wk.gc [0, 1, 2, 3, 8] [(0, false)] rfl (pKo aj.c aj.pure e trivial)).to)⟩
    replace hr := cB j hr
    refine .dZ G bI (.mu 2 (.pk (v := aB false) (eB j) (.mu 14 ?_)))
    refine .done ⟨by kernel_rfl, ?_⟩
    refine .nh [0, 1, 2, 3, 8, 9, 34] [.own (e.flatMap aj.c)] (.cF (by kernel_rfl) (.leave rfl ?_))
    obtain rfl := oi hr
    exact ⟨rfl, ((Wk.gc [0, 1, 2, 3, 8] [(0, false)] rfl (pKo aj.c aj.pure e trivial)).to)⟩
   rintro x st' l
   clear t
   obtain ⟨rfl, l⟩ := l
   refine aW _ rfl (.pop (.wk l (.ru G ?_)))
   exact aA (k, Fj (f + 1)) hr ((Wk.gc [0, 1, 2, 3, 8] [(0, false)] rfl (pKo aj.c aj.pure k trivial)).to)
  refine .leave rfl ?_
  obtain rfl := oi hr
  exact ⟨rfl, ((Wk.gc [] [(0, false)] rfl (pKo aj.c aj.pure i trivial)).to)⟩
 rintro x st' o
 clear q
 obtain ⟨rfl, o⟩ := o
 refine aW _ rfl ?_
 obtain rfl := oi hr
 exact dm.wk o (dm.normal [] ((Wk.gc [] [(0, false)] rfl (pKo aj.c aj.pure p trivial)).to))

theorem eu (n : Nat) (data : List (A2 Int)) (a : Int) (b : Int) (limit : Int) (r : List (A2 Int)) (hr : bz n data a b limit = some r) : dk 1 Tryz.prog 130 [.hs 0 0 data.length 2, ae a, ae b, ae limit, .fn 54 [] []] [.own (data.flatMap aj.c)] (.tup []) [.own (r.flatMap aj.c)] := by
 unfold bz at hr
 refine dk.kp G Tryz.func130 (c := (Tryz.f130.body).getD .skip) rfl (us := []) (s := mkS 148 0 [(0, .hs 0 0 data.length 2), (1, ae a), (2, ae b), (3, ae limit), (4, .fn 54 [] [])]) (by kernel_rfl) (rs := []) rfl ?_
 unfold Tryz.f130
 simp only [gS]
 refine .seq (.r4 G [0, 1, 2, 3, 4] [(10, aB true)] (.seq (.r4 G [0, 1, 2, 3, 4, 10] [(11, aB true)] (.block ?_))))
 replace hr := bd hr; obtain ⟨r0, g, hr⟩ := hr
 refine .aM (σ := fun p => match p with | (d, e, h, i, j) => ⟨mkS 148 0 [(0, .hs 0 0 data.length 2), (1, ae d), (2, ae e), (3, ae h), (4, .fn 54 [] []), (10, aB i), (11, aB j)], [.own (data.flatMap aj.c)]⟩) (Q := fun x st' => x = .ret /\ dm 1 Tryz.prog [] [] [.own (r0.flatMap aj.c)] .ret st') g ((Wk.gc [0, 1, 2, 3, 4, 10, 11] [(0, false)] rfl (pKo aj.c aj.pure data trivial)).to) ?_ ?_
 ·clear hr
  rintro m ⟨d, e, h, i, j⟩ hr
  show CQ _ _ _ _ _ ⟨_, _⟩
  refine .block (.seq (.r4 G [0, 1, 2, 3, 4, 10, 11] [(12, ae (Fj (e - d)))] (.seq (.seq (.r4 G [0, 1, 2, 3, 4, 10, 11, 12] [(25, aB (decide ((Fj (e - d)) <= 12)))] ?_)))))
  obtain ⟨l, hr⟩ := gd hr
  refine .cY l (.seq ?_)
  obtain ⟨k, o, hr⟩ := bd hr
  refine .g1 G (bX (args := [.hs 0 0 data.length 2, ae d, ae e, .fn 54 [] []]) 1 0 [(0, false)] [false] (dN n data d e k o) (by exact ⟨aY aj.pure _, trivial⟩) (by exact ⟨aY aj.pure _, trivial⟩) rfl rfl (by kernel_rfl) (by kernel_rfl)) (.mu 4 (.ca cf0 (.done (.nh [] [.own (k.flatMap aj.c)] (.ret ?_)))))
  obtain rfl := oi hr
  exact ⟨rfl, dm.ret [] ((Wk.gc [] [(0, false)] rfl (pKo aj.c aj.pure k trivial)).to)⟩
 rintro x st' f
 clear g
 obtain ⟨rfl, f⟩ := f
 obtain rfl := oi hr
 exact iz _ f

theorem c8 (n : Nat) (a : List (A2 Int)) (r : List (A2 Int)) (hr : aJ n a = some r) : dk 1 Tryz.prog 92 [.hs 0 0 a.length 2, .fn 54 [] []] [.own (a.flatMap aj.c)] (.tup []) [.own (r.flatMap aj.c)] := by
 unfold aJ at hr
 refine dk.kp G Tryz.func92 (c := (Tryz.f92.body).getD .skip) rfl (us := []) (s := mkS 14 0 [(0, .hs 0 0 a.length 2), (1, .fn 54 [] [])]) (by kernel_rfl) (rs := []) rfl ?_
 unfold Tryz.f92
 simp only [gS]
 refine .seq (.r4 G [0, 1] [(4, ae (a.length : Int))] ?_)
 obtain ⟨b, d, f, e, hr⟩ := bd2 hr
 refine .gn G (ca1 (ok0 (mi n (wFu (a.length : Int)) b d)) (ca3 (bX (args := [.hs 0 0 a.length 2, ae 0, ae (a.length : Int), ae b, .fn 54 [] []]) 1 0 [(0, false)] [false] (eu n a 0 (a.length : Int) b f e) (by exact ⟨aY aj.pure _, trivial⟩) (by exact ⟨aY aj.pure _, trivial⟩) rfl rfl (by kernel_rfl) (by kernel_rfl)))) (.mu 4 (.ca cf0 (.mu 1 (.ca (cfF cf0) (.done ?_)))))
 obtain rfl := oi hr
 exact dm.normal [] ((Wk.gc [] [(0, false)] rfl (pKo aj.c aj.pure f trivial)).to)

theorem tv {b : Int} {a : Int} (h : ([.at (.int .u64 b)] : List AV) = [.at (.int .u64 a)]) : b = a := by
 simp only [List.cons.injEq, AV.agg.injEq, AV.at.injEq, Value.int.injEq, Value.bool.injEq, AV.fn.injEq, AV.pp.injEq, true_and, and_true] at h
 simp_all
theorem ue (n : Nat) {b : Int} {a : Int} (h : ([.at (.int .u64 b)] : List AV) = [.at (.int .u64 a)]) : cU n b = cU n a := by
 obtain rfl := tv h
 rfl
theorem fi (n : Nat) (i : Int) (r : List Int) (hr : cU n i = some r) : aL Tryz.prog 148 [cK i] (an r) := by
 unfold cU at hr
 refine aL.bd G Tryz.func148 [.tmp 2] ?_
 unfold Tryz.f148
 simp only [gS]
 refine .seq (.r4 G [0] [] (.seq (.r4 G [0] [(3, nS)] (.seq (.block ?_)))))
 replace hr := bd hr; obtain ⟨d, e, hr⟩ := hr
 refine .aM (σ := fun j => match j with | (a, b) => ⟨mkS 15 0 [(0, cK a), (3, .hs 0 0 b.length 1)], [.own (b.flatMap iCu)]⟩) (Q := fun x st' => x = .exit 0 /\ Wk 0 st' ⟨mkS 15 0 [(3, .hs 0 0 d.length 1)], [.own (d.flatMap iCu)]⟩) e ((Wk.nil 3 1 (by kernel_rfl)).trans ((Wk.gc [0, 3] [(0, false)] rfl (pKc trivial)).to)) ?_ ?_
 ·clear hr
  rintro m ⟨a, b⟩ hr
  show CQ _ _ _ _ _ ⟨_, _⟩
  refine .seq (.seq (.r4 G [0, 3] [(5, aB (decide (a > 0)))] ?_))
  refine .cd hr ?_ ?_ <;> intro k hr
  ·refine .skip (.seq (.block ?_))
   obtain ⟨g, f, hr⟩ := gd2 hr
   refine .r0 G (.mu 5 (.e0 (v := .hs 2 0 (b ++ [aa .u32 (a.tmod 1000000000)]).length 1) (ws := [(0, .dead), (2, .own ((b ++ [aa .u32 (a.tmod 1000000000)]).flatMap iCu))]) (tr (fb (new := [br (aa .u32 (a.tmod 1000000000))]) (l := b) (xs := [aa .u32 (a.tmod 1000000000)]) (aE .u32) rfl rfl (by kernel_rfl) g f)) (.mu 1 (.done (.pop (.ru G ?_))))))
   exact aA (wFu (a.tdiv 1000000000), b ++ [aa .u32 (a.tmod 1000000000)]) hr ((Wk.gc [0, 3] [(2, false)] rfl (pKo iCu (aD _) (b ++ [aa .u32 (a.tmod 1000000000)]) trivial)).to)
  refine .leave rfl ?_
  obtain rfl := oi hr
  exact ⟨rfl, ((Wk.gc [3] [(0, false)] rfl (pKo iCu (aD _) b trivial)).to)⟩
 rintro x st' c
 clear e
 obtain ⟨rfl, c⟩ := c
 refine aW _ rfl (.wk c (.seq (.r3 G 15 [(2, .hs 0 0 d.length 1)] (.ret ?_))))
 obtain rfl := oi hr
 exact aK.ret (vs := [.hs 0 0 d.length 1]) (by kernel_rfl) (Sn.hs rfl (.inl rfl) (SnC.pure (aY (aD _) _)) (fun h => cJ h))

theorem gM (n : Nat) (g : List Int) (r : List Int) (hr : dY n g = some r) : aL Tryz.prog 184 [an g] (an r) := by
 unfold dY at hr
 refine aL.bd G Tryz.func184 [.tmp 2] ?_
 unfold Tryz.f184
 simp only [gS]
 refine .seq (.r4 G [0] [] (.seq (.block ?_)))
 replace hr := bd hr; obtain ⟨f, d, hr⟩ := hr
 refine .aM (σ := fun k => match k with | a => ⟨mkS 21 0 [(0, an a)], []⟩) (Q := fun x st' => x = .exit 0 /\ Wk 0 st' ⟨mkS 21 0 [(0, an f)], []⟩) d ((Wk.gc [0] [] rfl pK0).to) ?_ ?_
 ·clear hr
  rintro m a hr
  show CQ _ _ _ _ _ ⟨_, _⟩
  refine .seq (.seq ?_)
  rcases bT (decide ((a.length : Int) > 0)) with b | b
  ·replace hr := cC b hr
   obtain ⟨h, hr⟩ := gd hr
   refine .r0 G (.mu 2 (.p0 (v := aB true) (eB b) (.mu 5 (.pure (v := .pp (a.flatMap iCu) ((Fj ((a.length : Int) - 1)).toNat * 1)) (by kernel_rfl) (tr (au h)) (.pure (v := br (gt a (Fj ((a.length : Int) - 1)))) (by kernel_rfl) (tr (aG (aH (aE .u32) (aC h) z1 (by omega : (Fj ((a.length : Int) - 1)).toNat * 1 = (Fj ((a.length : Int) - 1)).toNat * 1 + 0) (by kernel_rfl)))) (.mu 2 (.done (.nh [0, 14] [] ?_))))))))
   refine .cd hr ?_ ?_ <;> intro i hr
   ·refine .skip (.block ?_)
    obtain ⟨e, hr⟩ := gd hr
    refine .r0 G (.mu 4 (.p0 (v := an ((a.drop (0 : Int).toNat).take ((Fj ((a.length : Int) - 1)).toNat - (0 : Int).toNat))) (tr (y := slO (inS 0 (Fj ((a.length : Int) - 1)) a.length) (0 : Int).toNat (Fj ((a.length : Int) - 1)).toNat (fun z1 j => .sl true (((a.flatMap iCu).drop (z1 * 1)).take ((j - z1) * 1)) (j - z1))) (xg e (tQ (aE _) (qE e)))) (.mu 1 (.done (.pop ?_)))))
    exact aA ((a.drop (0 : Int).toNat).take ((Fj ((a.length : Int) - 1)).toNat - (0 : Int).toNat)) hr ((Wk.gc [0] [] rfl pK0).to)
   refine .leave rfl ?_
   obtain rfl := oi hr
   exact ⟨rfl, ((Wk.gc [0] [] rfl pK0).to)⟩
  replace hr := cB b hr
  refine .r0 G (.mu 2 (.p0 (v := aB false) (eB b) (.mu 9 (.done (.nh [0, 14] [] (.cF (by kernel_rfl) (.leave rfl ?_)))))))
  obtain rfl := oi hr
  exact ⟨rfl, ((Wk.gc [0] [] rfl pK0).to)⟩
 rintro x st' c
 clear d
 obtain ⟨rfl, c⟩ := c
 refine aW _ rfl (.wk c (.seq (.ru G (.ret ?_))))
 obtain rfl := oi hr
 exact aK.r1 [an f]

theorem tN {negative : Bool} {g : List Int} {negative_ : Bool} {a : List Int} (h : ([.at (.bool negative), slT iCu g] : List AV) = [.at (.bool negative_), slT iCu a]) : negative = negative_ /\ g = a := by
 simp only [List.cons.injEq, AV.agg.injEq, AV.at.injEq, Value.int.injEq, Value.bool.injEq, AV.fn.injEq, AV.pp.injEq, true_and, and_true, eC] at h
 simp_all
theorem mZ (n : Nat) {negative : Bool} {g : List Int} {negative_ : Bool} {a : List Int} (h : ([.at (.bool negative), slT iCu g] : List AV) = [.at (.bool negative_), slT iCu a]) : bV n negative g = bV n negative_ a := by
 obtain ⟨rfl, rfl⟩ := tN h
 rfl
theorem b9 (n : Nat) (negative : Bool) (g : List Int) (r : ah) (hr : bV n negative g = some r) : aL Tryz.prog 147 [aB negative, an g] (.agg (ah.c r)) := by
 unfold bV at hr
 refine aL.bd G Tryz.func147 [.cell 4 40] ?_
 unfold Tryz.f147
 simp only [gS]
 refine .seq (.r5 G [0, 1] [(4, .hp 0 0)] [.own [aB false, nS]] (.seq ?_))
 obtain ⟨a, b, hr⟩ := bd hr
 refine .g1 G (ok0 (gM n g a b)) (.mu 1 (.ca cf0 (.mu 1 (.done (.nh [0, 1, 4] [.own [aB false, nS]] (.seq (.seq (.r4 G [0, 1, 4] [(9, aB (((a.length : Int) : Int) == 0))] ?_))))))))
 refine .cd hr ?_ ?_ <;> intro d hr
 ·refine .seq (.r4 G [4] [] (.ret ?_))
  obtain rfl := oi hr
  exact aK.ret (vs := [.agg [aB false, nS]]) (by kernel_rfl) (Sn.agg (Sp (SnL.cons Sn.fR SnL.nil)))
 refine .skip (.seq (.r5 G [4] [] [.own [aB negative, an a]] (.ret ?_)))
 obtain rfl := oi hr
 exact aK.r1 [.agg [aB negative, an a]]

theorem rP (n : Nat) {b : Int} {a : Int} (h : ([.at (.int .i64 b)] : List AV) = [.at (.int .i64 a)]) : fL n b = fL n a := by
 obtain rfl := eW h
 rfl
theorem jy (n : Nat) (a : Int) (r : ah) (hr : fL n a = some r) : aL Tryz.prog 108 [ae a] (.agg (ah.c r)) := by
 unfold fL at hr
 refine aL.bd G Tryz.func108 [.cell 2 40] ?_
 unfold Tryz.f108
 simp only [gS]
 refine .seq (.r5 G [0] [(2, .hp 0 0)] [.own [aB false, nS]] (.seq (.r4 G [0, 2] [(3, cK (wFu a))] (.seq (.seq (.r4 G [0, 2, 3] [(7, aB (decide (a < 0)))] ?_))))))
 refine .cd hr ?_ ?_ <;> intro b hr
 ·refine .r0 G (.mu 1 (.p0 (v := cK (wFu (0 - (wFu a)))) (tr (y := some (.pure (cK (IntKind.wrap .u64 (0 - (wFu a)))))) xw) (.mu 1 (.done (.nh [0, 2, 3] [.own [aB false, nS]] (.seq ?_))))))
  obtain ⟨j, d, e, f, hr⟩ := bd2 hr
  refine .gn G (ca1 (ok0 (fi n (wFu (0 - (wFu a))) j d)) (ca3 (ok0 (b9 n true j e f)))) (.mu 1 (.p0 (v := aB true) (eB b) (.mu 1 (.ca cf0 (.ca (cfF cf0) (.mu 1 (.done (.nh [2] [.own (ah.c e)] (.ret ?_)))))))))
  obtain rfl := oi hr
  exact aK.r1 [.agg (ah.c e)]
 refine .skip (.seq ?_)
 obtain ⟨k, g, h, i, hr⟩ := bd2 hr
 refine .gn G (ca1 (ok0 (fi n (wFu a) k g)) (ca3 (ok0 (b9 n false k h i)))) (.mu 1 (.p0 (v := aB false) (eB b) (.mu 1 (.ca cf0 (.ca (cfF cf0) (.mu 1 (.done (.nh [2] [.own (ah.c h)] (.ret ?_)))))))))
 obtain rfl := oi hr
 exact aK.r1 [.agg (ah.c h)]

theorem r6 (n : Nat) (g : Int) (r : Bool) (hr : m5 n g = some r) : aL Tryz.prog 178 [br g] (aB r) := by
 unfold m5 at hr
 refine aL.bd G Tryz.func178 [.tmp 2] ?_
 unfold Tryz.f178
 simp only [gS]
 refine .seq (.r4 G [0] [] (.seq (.ru G (.ret ?_))))
 obtain rfl := oi hr
 exact aK.r1 [aB (decide (g >= 1000000000))]

theorem fY (n : Nat) (s : List Int) (r : Int) (hr : bG n s = some r) : aL Tryz.prog 197 [an s, .fn 178 [] []] (ae r) := by
 unfold bG at hr
 refine aL.bd G Tryz.func197 [.tmp 4] ?_
 unfold Tryz.f197
 simp only [gS]
 refine .seq (.r4 G [0, 1] [] (.seq (.seq (.r4 G [0, 1] [(7, ae (s.length : Int)), (8, ae 0)] (.block ?_)))))
 replace hr := bd hr; obtain ⟨d, c, hr⟩ := hr
 refine .aM (σ := fun i => match i with | a => ⟨mkS 19 0 [(0, an s), (1, .fn 178 [] []), (7, ae (s.length : Int)), (8, ae a)], []⟩) (Q := fun x st' => match (generalizing := false) d with | .inl _ => x = .exit 0 /\ Wk 0 st' ⟨mkS 19 0 [], []⟩ | .inr (r0) => x = .ret /\ aK Tryz.prog [.tmp 4] (ae r0) .ret st') c ((Wk.gc [0, 1, 7, 8] [] rfl pK0).to) ?_ ?_
 ·clear hr
  rintro m a hr
  show CQ _ _ _ _ _ ⟨_, _⟩
  refine .seq (.r4 G [0, 1, 7, 8] [(9, aB (decide (a < (s.length : Int))))] (.seq ?_))
  refine .cd hr ?_ ?_ <;> intro j hr
  ·refine .skip (.seq (.block (.seq (.r4 G [0, 1, 7, 8] [(5, ae a)] (.seq ?_)))))
   obtain ⟨e, hr⟩ := gd hr
   obtain ⟨g, f, hr⟩ := bd hr
   refine .g1 G (ok0 (r6 n (gt s a) g f)) (.mu 3 (.p0 (v := .pp (s.flatMap iCu) (a.toNat * 1)) (tr (au e)) (.p0 (v := br (gt s a)) (tr (aG (aH (aE .u32) (aC e) z1 (by omega : a.toNat * 1 = a.toNat * 1 + 0) (by kernel_rfl)))) (.ca cf0 (.done (.nh [0, 1, 5, 7, 8, 16] [] ?_))))))
   refine .cd hr ?_ ?_ <;> intro h hr
   ·refine .seq (.ru G (.ret ?_))
    obtain rfl := oi hr
    exact ⟨rfl, aK.ret (vs := [ae a]) (by kernel_rfl) (Sn.pure rfl)⟩
   refine .skip (.pop (.ru G ?_))
   exact aA (Fj (a + 1)) hr ((Wk.gc [0, 1, 7, 8] [] rfl pK0).to)
  refine .leave rfl ?_
  obtain rfl := oi hr
  exact ⟨rfl, ((Wk.gc [] [] rfl pK0).to)⟩
 rcases d with ⟨⟩ | r0
 ·rintro x st' b
  clear c
  obtain ⟨rfl, b⟩ := b
  refine aW _ rfl (.wk b (.seq (.ru G (.ret ?_))))
  obtain rfl := oi hr
  exact aK.r1 [ae (-1)]
 rintro x st' b
 clear c
 obtain ⟨rfl, b⟩ := b
 obtain rfl := oi hr
 exact iz _ b

theorem fC (n : Nat) (s : List Int) (r : Bool) (hr : ba n s = some r) : aL Tryz.prog 177 [an s, .fn 178 [] []] (aB r) := by
 unfold ba at hr
 refine aL.bd G Tryz.func177 [.tmp 4] ?_
 unfold Tryz.f177
 simp only [gS]
 refine .seq (.r4 G [0, 1] [] (.seq ?_))
 obtain ⟨b, a, hr⟩ := bd hr
 refine .g1 G (ok0 (fY n s b a)) (.mu 2 (.ca cf0 (.mu 2 (.done (.ret ?_)))))
 obtain rfl := oi hr
 exact aK.r1 [aB (decide (b >= 0))]

theorem eQ {b : ah} {a : ah} (h : ([.agg [.at (.bool b.Negative), slT iCu b.Groups]] : List AV) = [.agg [.at (.bool a.Negative), slT iCu a.Groups]]) : b = a := by
 obtain ⟨_, _⟩ := b
 obtain ⟨_, _⟩ := a
 simp only [List.cons.injEq, AV.agg.injEq, AV.at.injEq, Value.int.injEq, Value.bool.injEq, AV.fn.injEq, AV.pp.injEq, true_and, and_true, eC] at h
 simp_all
theorem o7 (n : Nat) {b : ah} {a : ah} (h : ([.agg (ah.c b)] : List AV) = [.agg (ah.c a)]) : eI n b = eI n a := by
 obtain rfl := eQ h
 rfl
theorem ff (n : Nat) (a : ah) (r : Bool) (hr : eI n a = some r) : aL Tryz.prog 142 [.agg (ah.c a)] (aB r) := by
 unfold eI at hr
 refine aL.bd G Tryz.func142 [.tmp 2] ?_
 unfold Tryz.f142
 simp only [gS]
 refine .seq (.r2 G 25 [(1, .hp 0 0)] [.own (ah.c a)] (.seq (.r4 G [1] [(3, ae (a.Groups.length : Int))] (.seq (.seq (.r4 G [1, 3] [(8, aB (((a.Groups.length : Int) : Int) == 0))] ?_))))))
 refine .cd hr ?_ ?_ <;> intro g hr
 ·refine .seq (.ru G (.ret ?_))
  obtain rfl := oi hr
  exact aK.r1 [aB (!a.Negative)]
 refine .skip (.seq ?_)
 obtain ⟨d, hr⟩ := gd hr
 rcases bT (((gt a.Groups (Fj ((a.Groups.length : Int) - 1))) : Int) != 0) with b | b
 ·replace hr := cC b hr
  obtain ⟨f, e, hr⟩ := bd hr
  refine .g1 G (ok0 (fC n a.Groups f e)) (.mu 4 (.p0 (v := .pp (a.Groups.flatMap iCu) ((Fj ((a.Groups.length : Int) - 1)).toNat * 1)) (tr (au d)) (.p0 (v := br (gt a.Groups (Fj ((a.Groups.length : Int) - 1)))) (tr (aG (aH (aE .u32) (aC d) z1 (by omega : (Fj ((a.Groups.length : Int) - 1)).toNat * 1 = (Fj ((a.Groups.length : Int) - 1)).toNat * 1 + 0) (by kernel_rfl)))) (.p0 (v := aB true) (eB b) (.mu 3 (.ca cf0 (.mu 3 (.done (.ret ?_)))))))))
  obtain rfl := oi hr
  exact aK.r1 [aB (!f)]
 replace hr := cB b hr
 refine .r0 G (.mu 4 (.p0 (v := .pp (a.Groups.flatMap iCu) ((Fj ((a.Groups.length : Int) - 1)).toNat * 1)) (tr (au d)) (.p0 (v := br (gt a.Groups (Fj ((a.Groups.length : Int) - 1)))) (tr (aG (aH (aE .u32) (aC d) z1 (by omega : (Fj ((a.Groups.length : Int) - 1)).toNat * 1 = (Fj ((a.Groups.length : Int) - 1)).toNat * 1 + 0) (by kernel_rfl)))) (.p0 (v := aB false) (eB b) (.mu 7 (.done (.ret ?_)))))))
 obtain rfl := oi hr
 exact aK.r1 [aB false]

theorem rN (n : Nat) {b : ah} {a : ah} (h : ([.agg (ah.c b)] : List AV) = [.agg (ah.c a)]) : fg n b = fg n a := by
 obtain rfl := eQ h
 rfl
theorem nd (n : Nat) (a : ah) (r : ah) (hr : fg n a = some r) : aL Tryz.prog 190 [.agg (ah.c a)] (.agg (ah.c r)) := by
 unfold fg at hr
 refine aL.bd G Tryz.func190 [.cell 2 40] ?_
 unfold Tryz.f190
 simp only [gS]
 refine .seq (.r2 G 7 [(1, .hp 0 0), (2, .hp 1 0)] [.own (ah.c a), .own [aB false, nS]] (.seq (.seq ?_)))
 obtain ⟨f, b, hr⟩ := bd hr
 refine .g1 G (ok0 (ff n a f b)) (.mu 1 (.ca cf0 (.done (.nh [1, 2, 4] [.own (ah.c a), .own [aB false, nS]] ?_))))
 refine .cd hr ?_ ?_ <;> intro g hr
 ·refine .seq (.r5 G [2] [] [.own (ah.c a), .own (ah.c a)] (.ret ?_))
  obtain rfl := oi hr
  exact aK.r1 [.agg (ah.c a)]
 refine .skip (.seq ?_)
 obtain ⟨d, e, hr⟩ := bd hr
 refine .g1 G (ok0 (jy n 0 d e)) (.ca cf0 (.mu 1 (.done (.nh [2] [.own (ah.c a), .own (ah.c d)] (.ret ?_)))))
 obtain rfl := oi hr
 exact aK.r1 [.agg (ah.c d)]

theorem gU (n : Nat) {b : ah} {a : ah} (h : ([.agg (ah.c b)] : List AV) = [.agg (ah.c a)]) : bJ n b = bJ n a := by
 obtain rfl := eQ h
 rfl
theorem cu (n : Nat) (a : ah) (r : List Int) (hr : bJ n a = some r) : aL Tryz.prog 162 [.agg (ah.c a)] (an r) := by
 unfold bJ at hr
 refine aL.bd G Tryz.func162 [.tmp 2] ?_
 unfold Tryz.f162
 simp only [gS]
 refine .seq (.r2 G 8 [(1, .hp 0 0)] [.own (ah.c a)] (.seq (.seq ?_)))
 obtain ⟨d, b, hr⟩ := bd hr
 refine .g1 G (ok0 (ff n a d b)) (.mu 1 (.ca cf0 (.mu 1 (.done (.nh [1, 5] [.own (ah.c a)] ?_)))))
 refine .cd hr ?_ ?_ <;> intro e hr
 ·refine .seq (.r3 G 8 [(2, nS)] (.ret ?_))
  obtain rfl := oi hr
  exact aK.ret (vs := [nS]) (by kernel_rfl) Sn.fR
 refine .skip (.seq (.ru G (.ret ?_)))
 obtain rfl := oi hr
 exact aK.r1 [an a.Groups]

theorem uS (n : Nat) {b : ah} {a : ah} (h : ([.agg (ah.c b)] : List AV) = [.agg (ah.c a)]) : dM n b = dM n a := by
 obtain rfl := eQ h
 rfl
theorem fM (n : Nat) (a : ah) (r : Int) (hr : dM n a = some r) : aL Tryz.prog 143 [.agg (ah.c a)] (ae r) := by
 unfold dM at hr
 refine aL.bd G Tryz.func143 [.tmp 2] ?_
 unfold Tryz.f143
 simp only [gS]
 refine .seq (.r2 G 11 [(1, .hp 0 0)] [.own (ah.c a)] (.seq (.block (.seq ?_))))
 obtain ⟨d, b, hr⟩ := bd hr
 refine .g1 G (ok0 (cu n a d b)) (.mu 1 (.ca cf0 (.mu 3 (.done (.nh [1, 3] [.own (ah.c a)] ?_)))))
 refine .cd hr ?_ ?_ <;> intro e hr
 ·refine .seq (.ru G (.ret ?_))
  obtain rfl := oi hr
  exact aK.r1 [ae 0]
 refine .seq (.r3 G 11 [(8, aB a.Negative)] ?_)
 refine .cd hr ?_ ?_ <;> intro f hr
 ·refine .seq (.ru G (.ret ?_))
  obtain rfl := oi hr
  exact aK.r1 [ae (-1)]
 refine .skip (.pop (.seq (.ru G (.ret ?_))))
 obtain rfl := oi hr
 exact aK.r1 [ae 1]

theorem fB (n : Nat) (s : List Int) (r : List Int) (hr : cx n s = some r) : aL Tryz.prog 183 [an s] (an r) := by
 unfold cx at hr
 refine aL.bd G Tryz.func183 [.tmp 2] ?_
 unfold Tryz.f183
 simp only [gS]
 refine .seq (.r4 G [0] [] (.seq (.seq ?_)))
 refine .C5 (t := 0) (cs := s.flatMap iCu) (len := s.length) (by kernel_rfl) (fun a => ?_) ?_
 ·obtain rfl : s = [] := List.length_eq_zero_iff.1 a
  have hx := gd hr; clear hr; obtain ⟨_, hr⟩ := hx
  have hx := gd hr; clear hr; obtain ⟨_, hr⟩ := hx
  refine .r4 G [0] [(4, aB true)] (.cT (by kernel_rfl) (.seq (.r3 G 8 [(2, nS)] (.ret ?_))))
  obtain rfl := oi hr
  exact aK.ret (vs := [nS]) (by kernel_rfl) Sn.fR
 refine .r4 G [0] [(4, aB false)] (.cF (by kernel_rfl) (.skip (.seq ?_)))
 obtain ⟨b, c, hr⟩ := gd2 hr
 refine .r0 G (.mu 2 (.e0 (v := .hs 1 0 s.length 1) (ws := [(0, .dead), (1, .own (s.flatMap iCu))]) (tr (y := zk (decide (((s.flatMap iCu)).length = s.length * 1)) (s.flatMap iCu) s.length (fun z1 d => oC (decide (0 + 0 * 1 <= (([] : List Int).flatMap iCu).length) && decide ((0 + d) * 4 <= 140737488355328) && decide (0 + d <= 4611686018427387904)) (some (.eff (.hs 1 0 (0 + d) 1) [(0, .dead), (1, .own (((([] : List Int).flatMap iCu).drop 0).take (0 * 1) ++ z1))])))) (ur (nt (aE _)) rfl (fb (l := ([] : List Int)) (xs := s) (aE _) rfl rfl rfl b c))) (.mu 1 (.done (.nh [2] [.dead, .own (s.flatMap iCu)] (.ret ?_))))))
 obtain rfl := oi hr
 exact aK.ret (vs := [.hs 1 0 s.length 1]) (by kernel_rfl) (Sn.hs rfl (.inl rfl) (SnC.pure (aY (aD _) _)) (fun h => cJ h))

theorem gv (n : Nat) {b : ah} {a : ah} (h : ([.agg (ah.c b)] : List AV) = [.agg (ah.c a)]) : eG n b = eG n a := by
 obtain rfl := eQ h
 rfl
theorem gl (n : Nat) (a : ah) (r : ah) (hr : eG n a = some r) : aL Tryz.prog 158 [.agg (ah.c a)] (.agg (ah.c r)) := by
 unfold eG at hr
 refine aL.bd G Tryz.func158 [.cell 2 40] ?_
 unfold Tryz.f158
 simp only [gS]
 refine .seq (.r2 G 10 [(1, .hp 0 0), (2, .hp 1 0)] [.own (ah.c a), .own [aB false, nS]] (.seq ?_))
 obtain ⟨g, b, h, d, e, f, hr⟩ := bd3 hr
 refine .tn G (ca1 (ok0 (cu n a g b)) (ca1 (ok0 (fB n g h d)) (ca3 (ok0 (b9 n (!a.Negative) h e f))))) (.mu 4 (.ca cf0 (.ca (cfF cf0) (.ca (cfF (cfF cf0)) (.mu 1 ?_)))))
 refine .done ⟨by kernel_rfl, ?_⟩
 refine .nh [2] [.own (ah.c a), .own (ah.c e)] (.ret ?_)
 obtain rfl := oi hr
 exact aK.r1 [.agg (ah.c e)]




theorem ua (n : Nat) (a : List Int) (b : List Int) (r : List Int) (hr : jD n a b = some r) : aL Tryz.prog 161 [an a, an b] (an r) := by
 unfold jD at hr
 refine aL.bd G Tryz.func161 [.tmp 4] ?_
 unfold Tryz.f161
 simp only [gS]
 refine .seq (.r4 G [0, 1] [] (.seq ?_))
 obtain ⟨E, F, H, hr⟩ := gd3 hr
 refine .r0 G (.mu 5 (.e0 (v := .hs 0 0 (List.replicate (Fj ((a.length : Int) + (b.length : Int))).toNat ((0 : Int) : Int)).length 1) (ws := [(0, .own ((List.replicate (Fj ((a.length : Int) + (b.length : Int))).toNat ((0 : Int) : Int)).flatMap iCu))]) (tr (mE (c := iCu) (z := (0 : Int)) (n := Fj ((a.length : Int) + (b.length : Int))) (by_ := 4) rfl E F H)) (.mu 1 (.done (.nh [0, 1, 5] [.own ((List.replicate (Fj ((a.length : Int) + (b.length : Int))).toNat ((0 : Int) : Int)).flatMap iCu)] (.seq (.seq (.r4 G [1, 5] [(18, an a), (19, ae (a.length : Int)), (20, ae 0)] (.block ?_)))))))))
 replace hr := bd hr; obtain ⟨o, u, hr⟩ := hr
 refine .aM (σ := fun I => match I with | (p, e) => ⟨mkS 69 0 [(1, an b), (5, .hs 0 0 p.length 1), (18, an a), (19, ae (a.length : Int)), (20, ae e)], [.own (p.flatMap iCu)]⟩) (Q := fun x st' => x = .exit 0 /\ Wk 0 st' ⟨mkS 69 0 [(5, .hs 0 0 o.length 1)], [.own (o.flatMap iCu)]⟩) u ((Wk.gc [1, 5, 18, 19, 20] [(0, false)] rfl (pKo iCu (aD _) (List.replicate (Fj ((a.length : Int) + (b.length : Int))).toNat ((0 : Int) : Int)) trivial)).to) ?_ ?_
 ·clear hr
  rintro m ⟨p, e⟩ hr
  show CQ _ _ _ _ _ ⟨_, _⟩
  refine .seq (.r4 G [1, 5, 18, 19, 20] [(21, aB (decide (e < (a.length : Int))))] (.seq ?_))
  refine .cd hr ?_ ?_ <;> intro J hr
  ·refine .skip (.seq (.block (.seq ?_)))
   obtain ⟨w, hr⟩ := gd hr
   refine .r0 G (.mu 1 (.p0 (v := .pp (a.flatMap iCu) (e.toNat * 1)) (tr (au w)) (.p0 (v := br (gt a e)) (tr (aG (aH (aE .u32) (aC w) z1 (by omega : e.toNat * 1 = e.toNat * 1 + 0) (by kernel_rfl)))) (.mu 2 (.done (.nh [1, 5, 6, 7, 18, 19, 20] [.own (p.flatMap iCu)] (.seq (.r4 G [1, 5, 6, 7, 18, 19, 20] [(8, cK 0)] (.seq (.seq (.r4 G [1, 5, 6, 7, 8, 18, 19, 20] [(25, an b), (26, ae (b.length : Int)), (27, ae 0)] (.block ?_))))))))))))
   replace hr := bd hr; obtain ⟨B, y, hr⟩ := hr
   refine .aM (σ := fun I => match I with | (f, g, d) => ⟨mkS 69 0 [(1, an b), (5, .hs 0 0 f.length 1), (6, ae e), (7, br (gt a e)), (8, cK g), (18, an a), (19, ae (a.length : Int)), (20, ae e), (25, an b), (26, ae (b.length : Int)), (27, ae d)], [.own (f.flatMap iCu)]⟩) (Q := fun x st' => match (generalizing := false) B with | (i, j) => x = .exit 2 /\ Wk 0 st' ⟨mkS 69 0 [(1, an b), (5, .hs 0 0 i.length 1), (6, ae e), (8, cK j), (18, an a), (19, ae (a.length : Int)), (20, ae e)], [.own (i.flatMap iCu)]⟩) y ((Wk.gc [1, 5, 6, 7, 8, 18, 19, 20, 25, 26, 27] [(0, false)] rfl (pKo iCu (aD _) p trivial)).to) ?_ ?_
   ·clear hr
    rintro m ⟨f, g, d⟩ hr
    show CQ _ _ _ _ _ ⟨_, _⟩
    refine .seq (.r4 G [1, 5, 6, 7, 8, 18, 19, 20, 25, 26, 27] [(28, aB (decide (d < (b.length : Int))))] (.seq ?_))
    refine .cd hr ?_ ?_ <;> intro L hr
    ·refine .skip (.seq (.block (.seq ?_)))
     obtain ⟨A, hr⟩ := gd hr
     refine .r0 G (.mu 1 (.p0 (v := .pp (b.flatMap iCu) (d.toNat * 1)) (tr (au A)) (.p0 (v := br (gt b d)) (tr (aG (aH (aE .u32) (aC A) z1 (by omega : d.toNat * 1 = d.toNat * 1 + 0) (by kernel_rfl)))) (.mu 2 (.done (.nh [1, 5, 6, 7, 8, 9, 10, 18, 19, 20, 25, 26, 27] [.own (f.flatMap iCu)] (.seq ?_)))))))
     obtain ⟨k, hr⟩ := gd hr
     refine .r0 G (.mu 4 (.p0 (v := .hp 0 (0 + (Fj (e + d)).toNat * 1)) (tr (au k)) (.p0 (v := br (gt f (Fj (e + d)))) (tr (aG (aH (aE .u32) (aC k) z1 (by omega : 0 + (Fj (e + d)).toNat * 1 = (Fj (e + d)).toNat * 1 + 0) (by kernel_rfl)))) (.mu 10 (.done (.nh [1, 5, 6, 7, 9, 11, 18, 19, 20, 25, 26, 27] [.own (f.flatMap iCu)] (.r0 G (.mu 9 (.p0 (v := .hp 0 (0 + (Fj (e + d)).toNat * 1)) (tr (au k)) (.e0 (v := .unk) (ws := [(0, .own ((f.set (Fj (e + d)).toNat (aa .u32 ((wFu ((wFu ((wFu (gt f (Fj (e + d)))) + (wFu ((wFu (gt a e)) * (wFu (gt b d)))))) + g)).tmod 1000000000))).flatMap iCu))]) (tr (iD (iJ (cr (n := 1) (aE .u32) (aC k) (lbT rfl) (by omega : 0 + (Fj (e + d)).toNat * 1 = (Fj (e + d)).toNat * 1 + 0))) (congrArg Blk.own (cR (xs := [br (aa .u32 ((wFu ((wFu ((wFu (gt f (Fj (e + d)))) + (wFu ((wFu (gt a e)) * (wFu (gt b d)))))) + g)).tmod 1000000000))]) (aE .u32) (aC k) (lbT rfl) (by omega : 0 + (Fj (e + d)).toNat * 1 = (Fj (e + d)).toNat * 1 + 0) (by kernel_rfl))))) (.mu 1 (.done (.pop (.ru G ?_))))))))))))))
     exact aA (f.set (Fj (e + d)).toNat (aa .u32 ((wFu ((wFu ((wFu (gt f (Fj (e + d)))) + (wFu ((wFu (gt a e)) * (wFu (gt b d)))))) + g)).tmod 1000000000)), wFu ((wFu ((wFu ((wFu (gt f (Fj (e + d)))) + (wFu ((wFu (gt a e)) * (wFu (gt b d)))))) + g)).tdiv 1000000000), Fj (d + 1)) hr ((Wk.iH 5 (b := 0) (es := 1) (len := f.length) (f.set (Fj (e + d)).toNat (aa .u32 ((wFu ((wFu ((wFu (gt f (Fj (e + d)))) + (wFu ((wFu (gt a e)) * (wFu (gt b d)))))) + g)).tmod 1000000000))).length (by kernel_rfl) (Eq.symm (List.length_set.trans rfl))).trans ((Wk.gc [1, 5, 6, 7, 8, 18, 19, 20, 25, 26, 27] [(0, false)] rfl (pKo iCu (aD _) (f.set (Fj (e + d)).toNat (aa .u32 ((wFu ((wFu ((wFu (gt f (Fj (e + d)))) + (wFu ((wFu (gt a e)) * (wFu (gt b d)))))) + g)).tmod 1000000000))) trivial)).to))
    refine .leave rfl ?_
    obtain rfl := oi hr
    exact ⟨rfl, ((Wk.gc [1, 5, 6, 8, 18, 19, 20] [(0, false)] rfl (pKo iCu (aD _) f trivial)).to)⟩
   rcases B with ⟨i, j⟩
   rintro x st' q
   clear y
   obtain ⟨rfl, q⟩ := q
   refine aW _ rfl (.wk q ?_)
   obtain ⟨s, hr⟩ := gd hr
   refine .r0 G (.mu 7 (.p0 (v := .hp 0 (0 + (Fj (e + (b.length : Int))).toNat * 1)) (tr (au s)) (.e0 (v := .unk) (ws := [(0, .own ((i.set (Fj (e + (b.length : Int))).toNat (aa .u32 j)).flatMap iCu))]) (tr (iD (iJ (cr (n := 1) (aE .u32) (aC s) (lbT rfl) (by omega : 0 + (Fj (e + (b.length : Int))).toNat * 1 = (Fj (e + (b.length : Int))).toNat * 1 + 0))) (congrArg Blk.own (cR (xs := [br (aa .u32 j)]) (aE .u32) (aC s) (lbT rfl) (by omega : 0 + (Fj (e + (b.length : Int))).toNat * 1 = (Fj (e + (b.length : Int))).toNat * 1 + 0) (by kernel_rfl))))) (.done (.pop (.ru G ?_))))))
   exact aA (i.set (Fj (e + (b.length : Int))).toNat (aa .u32 j), Fj (e + 1)) hr ((Wk.iH 5 (b := 0) (es := 1) (len := i.length) (i.set (Fj (e + (b.length : Int))).toNat (aa .u32 j)).length (by kernel_rfl) (Eq.symm (List.length_set.trans rfl))).trans ((Wk.gc [1, 5, 18, 19, 20] [(0, false)] rfl (pKo iCu (aD _) (i.set (Fj (e + (b.length : Int))).toNat (aa .u32 j)) trivial)).to))
  refine .leave rfl ?_
  obtain rfl := oi hr
  exact ⟨rfl, ((Wk.gc [5] [(0, false)] rfl (pKo iCu (aD _) p trivial)).to)⟩
 rintro x st' t
 clear u
 obtain ⟨rfl, t⟩ := t
 refine aW _ rfl (.wk t (.seq ?_))
 obtain ⟨C, D, hr⟩ := bd hr
 refine .g1 G (cE (args := [.hs 0 0 o.length 1]) (l := [0]) (SnL.cons (Sn.hs rfl (.inl rfl) (SnC.pure (aY (aD _) _)) (fun h => cJ h)) SnL.nil) (gM n o C D)) (.mu 1 (.ca cf0 (.mu 1 (.done (.ret ?_)))))
 obtain rfl := oi hr
 exact aK.r1 [an C]

theorem s9 (n : Nat) (g : List Int) (r : List Int) (hr : nC n g = some r) : dk 1 Tryz.prog 184 [.hs 0 0 g.length 1] [.own (g.flatMap iCu)] (.hs 0 0 r.length 1) [.own (r.flatMap iCu)] := by
 unfold nC at hr
 refine dk.kp G Tryz.func184 (c := (Tryz.f184.body).getD .skip) rfl (us := [.hs 0 0 r.length 1]) (s := mkS 21 0 [(0, .hs 0 0 g.length 1)]) (by kernel_rfl) (rs := [.tmp 2]) rfl ?_
 unfold Tryz.f184
 simp only [gS]
 refine .seq (.r4 G [0] [] (.seq (.block ?_)))
 replace hr := bd hr; obtain ⟨b, f, hr⟩ := hr
 refine .aM (σ := fun k => match k with | a => ⟨mkS 21 0 [(0, .hs 0 0 a.length 1)], [.own (a.flatMap iCu)]⟩) (Q := fun x st' => x = .exit 0 /\ Wk 1 st' ⟨mkS 21 0 [(0, .hs 0 0 b.length 1)], [.own (b.flatMap iCu)]⟩) f ((Wk.gc [0] [(0, false)] rfl (pKo iCu (aD _) g trivial)).to) ?_ ?_
 ·clear hr
  rintro m a hr
  show CQ _ _ _ _ _ ⟨_, _⟩
  refine .seq (.seq ?_)
  rcases bT (decide ((a.length : Int) > 0)) with d | d
  ·replace hr := cC d hr
   obtain ⟨h, hr⟩ := gd hr
   refine .r0 G (.mu 2 (.p0 (v := aB true) (eB d) (.mu 5 (.pure (v := .hp 0 (0 + (Fj ((a.length : Int) - 1)).toNat * 1)) (by kernel_rfl) (tr (au h)) (.pure (v := br (gt a (Fj ((a.length : Int) - 1)))) (by kernel_rfl) (tr (aG (aH (aE .u32) (aC h) z1 (by omega : 0 + (Fj ((a.length : Int) - 1)).toNat * 1 = (Fj ((a.length : Int) - 1)).toNat * 1 + 0) (by kernel_rfl)))) (.mu 2 (.done (.nh [0, 14] [.own (a.flatMap iCu)] ?_))))))))
   refine .cd hr ?_ ?_ <;> intro j hr
   ·refine .skip (.block ?_)
    obtain ⟨i, hr⟩ := gd hr
    refine .r0 G (.mu 4 (.p0 (v := .hs 0 0 (Fj ((a.length : Int) - 1)).toNat 1) (tr (y := slH (inS 0 (Fj ((a.length : Int) - 1)) a.length) true ((0 : Int).toNat) ((Fj ((a.length : Int) - 1)).toNat) (fun z1 l => .hs 0 (0 + z1 * 1) (l - z1) 1)) (B6 i (by kernel_rfl))) (.mu 1 (.done (.pop ?_)))))
    exact aA (a.take (Fj ((a.length : Int) - 1)).toNat) hr ((Wk.Fa (c := iCu) (es := 1) 0 0 (aE _) a (Fj ((a.length : Int) - 1)).toNat (qE i) (by kernel_rfl) (by kernel_rfl)).trans ((Wk.gc [0] [(0, false)] rfl (pKo iCu (aD _) (a.take (Fj ((a.length : Int) - 1)).toNat) trivial)).to))
   refine .leave rfl ?_
   obtain rfl := oi hr
   exact ⟨rfl, ((Wk.gc [0] [(0, false)] rfl (pKo iCu (aD _) a trivial)).to)⟩
  replace hr := cB d hr
  refine .r0 G (.mu 2 (.p0 (v := aB false) (eB d) (.mu 9 (.done (.nh [0, 14] [.own (a.flatMap iCu)] (.cF (by kernel_rfl) (.leave rfl ?_)))))))
  obtain rfl := oi hr
  exact ⟨rfl, ((Wk.gc [0] [(0, false)] rfl (pKo iCu (aD _) a trivial)).to)⟩
 rintro x st' e
 clear f
 obtain ⟨rfl, e⟩ := e
 refine aW _ rfl (.wk e (.seq (.r3 G 21 [(2, .hs 0 0 b.length 1)] (.ret ?_))))
 obtain rfl := oi hr
 exact dm.ret [.hs 0 0 b.length 1] ((Wk.gc [0] [(0, false)] rfl (pKo iCu (aD _) b trivial)).to)

theorem nL (n : Nat) (a : List Int) (b : List Int) (r : List Int) (hr : ji n a b = some r) : dk 1 Tryz.prog 161 [an a, .hs 0 0 b.length 1] [.own (b.flatMap iCu)] (.hs 1 0 r.length 1) [.own (b.flatMap iCu), .own (r.flatMap iCu)] := by
 unfold ji at hr
 refine dk.kp G Tryz.func161 (c := (Tryz.f161.body).getD .skip) rfl (us := [.hs 1 0 r.length 1]) (s := mkS 69 0 [(0, an a), (1, .hs 0 0 b.length 1)]) (by kernel_rfl) (rs := [.tmp 4]) rfl ?_
 unfold Tryz.f161
 simp only [gS]
 refine .seq (.r4 G [0, 1] [] (.seq ?_))
 obtain ⟨B, C, D, hr⟩ := gd3 hr
 refine .r0 G (.mu 5 (.e0 (v := .hs 1 0 (List.replicate (Fj ((a.length : Int) + (b.length : Int))).toNat ((0 : Int) : Int)).length 1) (ws := [(1, .own ((List.replicate (Fj ((a.length : Int) + (b.length : Int))).toNat ((0 : Int) : Int)).flatMap iCu))]) (tr (mE (c := iCu) (z := (0 : Int)) (n := Fj ((a.length : Int) + (b.length : Int))) (by_ := 4) rfl B C D)) (.mu 1 (.done (.nh [0, 1, 5] [.own (b.flatMap iCu), .own ((List.replicate (Fj ((a.length : Int) + (b.length : Int))).toNat ((0 : Int) : Int)).flatMap iCu)] (.seq (.seq (.r4 G [1, 5] [(18, an a), (19, ae (a.length : Int)), (20, ae 0)] (.block ?_)))))))))
 replace hr := bd hr; obtain ⟨l, u, hr⟩ := hr
 refine .aM (σ := fun H => match H with | (j, d) => ⟨mkS 69 0 [(1, .hs 0 0 b.length 1), (5, .hs 1 0 j.length 1), (18, an a), (19, ae (a.length : Int)), (20, ae d)], [.own (b.flatMap iCu), .own (j.flatMap iCu)]⟩) (Q := fun x st' => x = .exit 0 /\ Wk 1 st' ⟨mkS 69 0 [(5, .hs 1 0 l.length 1)], [.own (b.flatMap iCu), .own (l.flatMap iCu)]⟩) u ((Wk.gc [1, 5, 18, 19, 20] [(0, false), (1, false)] rfl (pKo iCu (aD _) b (pKo iCu (aD _) (List.replicate (Fj ((a.length : Int) + (b.length : Int))).toNat ((0 : Int) : Int)) trivial))).to) ?_ ?_
 ·clear hr
  rintro m ⟨j, d⟩ hr
  show CQ _ _ _ _ _ ⟨_, _⟩
  refine .seq (.r4 G [1, 5, 18, 19, 20] [(21, aB (decide (d < (a.length : Int))))] (.seq ?_))
  refine .cd hr ?_ ?_ <;> intro I hr
  ·refine .skip (.seq (.block (.seq ?_)))
   obtain ⟨w, hr⟩ := gd hr
   refine .r0 G (.mu 1 (.p0 (v := .pp (a.flatMap iCu) (d.toNat * 1)) (tr (au w)) (.p0 (v := br (gt a d)) (tr (aG (aH (aE .u32) (aC w) z1 (by omega : d.toNat * 1 = d.toNat * 1 + 0) (by kernel_rfl)))) (.mu 2 (.done (.nh [1, 5, 6, 7, 18, 19, 20] [.own (b.flatMap iCu), .own (j.flatMap iCu)] (.seq (.r4 G [1, 5, 6, 7, 18, 19, 20] [(8, cK 0)] (.seq (.seq (.r4 G [1, 5, 6, 7, 8, 18, 19, 20] [(25, .hs 0 0 b.length 1), (26, ae (b.length : Int)), (27, ae 0)] (.block ?_))))))))))))
   replace hr := bd hr; obtain ⟨E, y, hr⟩ := hr
   refine .aM (σ := fun H => match H with | (f, g, e) => ⟨mkS 69 0 [(1, .hs 0 0 b.length 1), (5, .hs 1 0 f.length 1), (6, ae d), (7, br (gt a d)), (8, cK g), (18, an a), (19, ae (a.length : Int)), (20, ae d), (25, .hs 0 0 b.length 1), (26, ae (b.length : Int)), (27, ae e)], [.own (b.flatMap iCu), .own (f.flatMap iCu)]⟩) (Q := fun x st' => match (generalizing := false) E with | (h, i) => x = .exit 2 /\ Wk 1 st' ⟨mkS 69 0 [(1, .hs 0 0 b.length 1), (5, .hs 1 0 h.length 1), (6, ae d), (8, cK i), (18, an a), (19, ae (a.length : Int)), (20, ae d)], [.own (b.flatMap iCu), .own (h.flatMap iCu)]⟩) y ((Wk.gc [1, 5, 6, 7, 8, 18, 19, 20, 25, 26, 27] [(0, false), (1, false)] rfl (pKo iCu (aD _) b (pKo iCu (aD _) j trivial))).to) ?_ ?_
   ·clear hr
    rintro m ⟨f, g, e⟩ hr
    show CQ _ _ _ _ _ ⟨_, _⟩
    refine .seq (.r4 G [1, 5, 6, 7, 8, 18, 19, 20, 25, 26, 27] [(28, aB (decide (e < (b.length : Int))))] (.seq ?_))
    refine .cd hr ?_ ?_ <;> intro J hr
    ·refine .skip (.seq (.block (.seq ?_)))
     obtain ⟨A, hr⟩ := gd hr
     refine .r0 G (.mu 1 (.p0 (v := .hp 0 (0 + e.toNat * 1)) (tr (au A)) (.p0 (v := br (gt b e)) (tr (aG (aH (aE .u32) (aC A) z1 (by omega : 0 + e.toNat * 1 = e.toNat * 1 + 0) (by kernel_rfl)))) (.mu 2 (.done (.nh [1, 5, 6, 7, 8, 9, 10, 18, 19, 20, 25, 26, 27] [.own (b.flatMap iCu), .own (f.flatMap iCu)] (.seq ?_)))))))
     obtain ⟨k, hr⟩ := gd hr
     refine .r0 G (.mu 4 (.p0 (v := .hp 1 (0 + (Fj (d + e)).toNat * 1)) (tr (au k)) (.p0 (v := br (gt f (Fj (d + e)))) (tr (aG (aH (aE .u32) (aC k) z1 (by omega : 0 + (Fj (d + e)).toNat * 1 = (Fj (d + e)).toNat * 1 + 0) (by kernel_rfl)))) (.mu 10 (.done (.nh [1, 5, 6, 7, 9, 11, 18, 19, 20, 25, 26, 27] [.own (b.flatMap iCu), .own (f.flatMap iCu)] (.r0 G (.mu 9 (.p0 (v := .hp 1 (0 + (Fj (d + e)).toNat * 1)) (tr (au k)) (.e0 (v := .unk) (ws := [(1, .own ((f.set (Fj (d + e)).toNat (aa .u32 ((wFu ((wFu ((wFu (gt f (Fj (d + e)))) + (wFu ((wFu (gt a d)) * (wFu (gt b e)))))) + g)).tmod 1000000000))).flatMap iCu))]) (tr (iD (iJ (cr (n := 1) (aE .u32) (aC k) (lbT rfl) (by omega : 0 + (Fj (d + e)).toNat * 1 = (Fj (d + e)).toNat * 1 + 0))) (congrArg Blk.own (cR (xs := [br (aa .u32 ((wFu ((wFu ((wFu (gt f (Fj (d + e)))) + (wFu ((wFu (gt a d)) * (wFu (gt b e)))))) + g)).tmod 1000000000))]) (aE .u32) (aC k) (lbT rfl) (by omega : 0 + (Fj (d + e)).toNat * 1 = (Fj (d + e)).toNat * 1 + 0) (by kernel_rfl))))) (.mu 1 (.done (.pop (.ru G ?_))))))))))))))
     exact aA (f.set (Fj (d + e)).toNat (aa .u32 ((wFu ((wFu ((wFu (gt f (Fj (d + e)))) + (wFu ((wFu (gt a d)) * (wFu (gt b e)))))) + g)).tmod 1000000000)), wFu ((wFu ((wFu ((wFu (gt f (Fj (d + e)))) + (wFu ((wFu (gt a d)) * (wFu (gt b e)))))) + g)).tdiv 1000000000), Fj (e + 1)) hr ((Wk.iH 5 (b := 1) (es := 1) (len := f.length) (f.set (Fj (d + e)).toNat (aa .u32 ((wFu ((wFu ((wFu (gt f (Fj (d + e)))) + (wFu ((wFu (gt a d)) * (wFu (gt b e)))))) + g)).tmod 1000000000))).length (by kernel_rfl) (Eq.symm (List.length_set.trans rfl))).trans ((Wk.gc [1, 5, 6, 7, 8, 18, 19, 20, 25, 26, 27] [(0, false), (1, false)] rfl (pKo iCu (aD _) b (pKo iCu (aD _) (f.set (Fj (d + e)).toNat (aa .u32 ((wFu ((wFu ((wFu (gt f (Fj (d + e)))) + (wFu ((wFu (gt a d)) * (wFu (gt b e)))))) + g)).tmod 1000000000))) trivial))).to))
    refine .leave rfl ?_
    obtain rfl := oi hr
    exact ⟨rfl, ((Wk.gc [1, 5, 6, 8, 18, 19, 20] [(0, false), (1, false)] rfl (pKo iCu (aD _) b (pKo iCu (aD _) f trivial))).to)⟩
   rcases E with ⟨h, i⟩
   rintro x st' o
   clear y
   obtain ⟨rfl, o⟩ := o
   refine aW _ rfl (.wk o ?_)
   obtain ⟨p, hr⟩ := gd hr
   refine .r0 G (.mu 7 (.p0 (v := .hp 1 (0 + (Fj (d + (b.length : Int))).toNat * 1)) (tr (au p)) (.e0 (v := .unk) (ws := [(1, .own ((h.set (Fj (d + (b.length : Int))).toNat (aa .u32 i)).flatMap iCu))]) (tr (iD (iJ (cr (n := 1) (aE .u32) (aC p) (lbT rfl) (by omega : 0 + (Fj (d + (b.length : Int))).toNat * 1 = (Fj (d + (b.length : Int))).toNat * 1 + 0))) (congrArg Blk.own (cR (xs := [br (aa .u32 i)]) (aE .u32) (aC p) (lbT rfl) (by omega : 0 + (Fj (d + (b.length : Int))).toNat * 1 = (Fj (d + (b.length : Int))).toNat * 1 + 0) (by kernel_rfl))))) (.done (.pop (.ru G ?_))))))
   exact aA (h.set (Fj (d + (b.length : Int))).toNat (aa .u32 i), Fj (d + 1)) hr ((Wk.iH 5 (b := 1) (es := 1) (len := h.length) (h.set (Fj (d + (b.length : Int))).toNat (aa .u32 i)).length (by kernel_rfl) (Eq.symm (List.length_set.trans rfl))).trans ((Wk.gc [1, 5, 18, 19, 20] [(0, false), (1, false)] rfl (pKo iCu (aD _) b (pKo iCu (aD _) (h.set (Fj (d + (b.length : Int))).toNat (aa .u32 i)) trivial))).to))
  refine .leave rfl ?_
  obtain rfl := oi hr
  exact ⟨rfl, ((Wk.gc [5] [(0, false), (1, false)] rfl (pKo iCu (aD _) b (pKo iCu (aD _) j trivial))).to)⟩
 rintro x st' q
 clear u
 obtain ⟨rfl, q⟩ := q
 refine aW _ rfl (.wk q (.seq ?_))
 obtain ⟨t, F, hr⟩ := bd hr
 refine .g1 G (bX (args := [.hs 1 0 l.length 1]) 1 0 [(1, false)] [false] (s9 n l t F) (by exact ⟨aY (aD _) _, trivial⟩) (by exact ⟨aY (aD _) _, trivial⟩) rfl rfl (by kernel_rfl) (by kernel_rfl)) (.mu 1 (.ca cf0 (.mu 1 (.done (.nh [4] [.own (b.flatMap iCu), .own (t.flatMap iCu)] (.ret ?_))))))
 obtain rfl := oi hr
 exact dm.ret [.hs 1 0 t.length 1] ((Wk.gc [0] [(0, false), (1, false)] rfl (pKo iCu (aD _) b (pKo iCu (aD _) t trivial))).to)

theorem qQ {g : List Int} {i : Int} {a : List Int} {b : Int} (h : ([slT iCu g, .at (.int .i64 i)] : List AV) = [slT iCu a, .at (.int .i64 b)]) : g = a /\ i = b := by
 simp only [List.cons.injEq, AV.agg.injEq, AV.at.injEq, Value.int.injEq, Value.bool.injEq, AV.fn.injEq, AV.pp.injEq, true_and, and_true, eC] at h
 simp_all
theorem wB (n : Nat) {g : List Int} {i : Int} {a : List Int} {b : Int} (h : ([slT iCu g, .at (.int .i64 i)] : List AV) = [slT iCu a, .at (.int .i64 b)]) : gw n g i = gw n a b := by
 obtain ⟨rfl, rfl⟩ := qQ h
 rfl
theorem mr (n : Nat) (g : List Int) (i : Int) (r : Int) (hr : gw n g i = some r) : aL Tryz.prog 203 [an g, ae i] (br r) := by
 unfold gw at hr
 refine aL.bd G Tryz.func203 [.tmp 4] ?_
 unfold Tryz.f203
 simp only [gS]
 refine .seq (.r4 G [0, 1] [] (.seq (.seq (.r4 G [0, 1] [(8, aB (decide (i < (g.length : Int))))] ?_))))
 refine .cd hr ?_ ?_ <;> intro b hr
 ·refine .seq ?_
  obtain ⟨a, hr⟩ := gd hr
  refine .r0 G (.mu 2 (.p0 (v := .pp (g.flatMap iCu) (i.toNat * 1)) (tr (au a)) (.p0 (v := br (gt g i)) (tr (aG (aH (aE .u32) (aC a) z1 (by omega : i.toNat * 1 = i.toNat * 1 + 0) (by kernel_rfl)))) (.mu 1 (.done (.ret ?_))))))
  obtain rfl := oi hr
  exact aK.r1 [br (gt g i)]
 refine .skip (.seq (.ru G (.ret ?_)))
 obtain rfl := oi hr
 exact aK.r1 [br 0]

theorem p9 (n : Nat) (a : List Int) (b : List Int) (r : List Int × List Int) (hr : iX n a b = some r) : aL Tryz.prog 202 [an a, an b] (.tup [an r.1, an r.2]) := by
 unfold iX at hr
 refine aL.bd G Tryz.func202 [.tmp 4, .tmp 5] ?_
 unfold Tryz.f202
 simp only [gS]
 refine .seq (.r4 G [0, 1] [] (.seq ?_))
 obtain ⟨qg, wq, hr⟩ := gd2 hr
 refine .r0 G (.mu 4 (.p0 (v := .pp (b.flatMap iCu) ((Fj ((b.length : Int) - 1)).toNat * 1)) (tr (au qg)) (.p0 (v := br (gt b (Fj ((b.length : Int) - 1)))) (tr (aG (aH (aE .u32) (aC qg) z1 (by omega : (Fj ((b.length : Int) - 1)).toNat * 1 = (Fj ((b.length : Int) - 1)).toNat * 1 + 0) (by kernel_rfl)))) (.mu 2 (.p0 (v := cK (wFu ((1000000000 : Int).tdiv (wFu ((wFu (gt b (Fj ((b.length : Int) - 1)))) + 1))))) (qY (x := 1000000000) (y := wFu ((wFu (gt b (Fj ((b.length : Int) - 1)))) + 1)) (by kernel_rfl) (by kernel_rfl) wq) (.mu 2 (.done (.nh [0, 1, 6] [] (.seq ?_)))))))))
 obtain ⟨Z, vC, hr⟩ := bd hr
 refine .gn G (ca4 [.own [br (aa .u32 (wFu ((1000000000 : Int).tdiv (wFu ((wFu (gt b (Fj ((b.length : Int) - 1)))) + 1)))))]] (bX (args := [an a, .hs 0 0 1 1]) 1 1 [(0, false)] [false, false] (nL n a [aa .u32 (wFu ((1000000000 : Int).tdiv (wFu ((wFu (gt b (Fj ((b.length : Int) - 1)))) + 1))))] Z vC) (by exact ⟨rfl, trivial⟩) (by exact ⟨aY (aD _) _, ⟨aY (aD _) _, trivial⟩⟩) rfl rfl (by kernel_rfl) (by kernel_rfl))) (.mu 3 (.ca cf0 (.mu 1 (.done (.nh [0, 1, 6, 7] [.own ([aa .u32 (wFu ((1000000000 : Int).tdiv (wFu ((wFu (gt b (Fj ((b.length : Int) - 1)))) + 1))))].flatMap iCu), .own (Z.flatMap iCu)] (.seq ?_))))))
 obtain ⟨g, sW, hr⟩ := bd hr
 refine .gn G (ca4 [.own ([aa .u32 (wFu ((1000000000 : Int).tdiv (wFu ((wFu (gt b (Fj ((b.length : Int) - 1)))) + 1))))].flatMap iCu), .own (Z.flatMap iCu), .own [br (aa .u32 (wFu ((1000000000 : Int).tdiv (wFu ((wFu (gt b (Fj ((b.length : Int) - 1)))) + 1)))))]] (bX (args := [an b, .hs 2 0 1 1]) 1 1 [(2, false)] [false, false] (nL n b [aa .u32 (wFu ((1000000000 : Int).tdiv (wFu ((wFu (gt b (Fj ((b.length : Int) - 1)))) + 1))))] g sW) (by exact ⟨rfl, trivial⟩) (by exact ⟨aY (aD _) _, ⟨aY (aD _) _, trivial⟩⟩) rfl rfl (by kernel_rfl) (by kernel_rfl))) (.mu 3 (.ca cf0 (.mu 1 (.done (.nh [0, 6, 7, 8] [.own ([aa .u32 (wFu ((1000000000 : Int).tdiv (wFu ((wFu (gt b (Fj ((b.length : Int) - 1)))) + 1))))].flatMap iCu), .own (Z.flatMap iCu), .own ([aa .u32 (wFu ((1000000000 : Int).tdiv (wFu ((wFu (gt b (Fj ((b.length : Int) - 1)))) + 1))))].flatMap iCu), .own (g.flatMap iCu)] (.seq (.r4 G [0, 6, 7, 8] [(9, ae (g.length : Int))] (.seq ?_))))))))
 obtain ⟨tf, vS, hr⟩ := gd2 hr
 refine .r0 G (.mu 2 (.e0 (v := .hs 5 0 (Z ++ [(0 : Int)]).length 1) (ws := [(1, .dead), (5, .own ((Z ++ [(0 : Int)]).flatMap iCu))]) (tr (fb (new := [br 0]) (l := Z) (xs := [(0 : Int)]) (aE .u32) rfl rfl (by kernel_rfl) tf vS)) (.mu 1 (.done (.nh [0, 6, 7, 8, 9] [.own ([aa .u32 (wFu ((1000000000 : Int).tdiv (wFu ((wFu (gt b (Fj ((b.length : Int) - 1)))) + 1))))].flatMap iCu), .dead, .own ([aa .u32 (wFu ((1000000000 : Int).tdiv (wFu ((wFu (gt b (Fj ((b.length : Int) - 1)))) + 1))))].flatMap iCu), .own (g.flatMap iCu), .own [br 0], .own ((Z ++ [(0 : Int)]).flatMap iCu)] (.seq (.seq (.r4 G [6, 7, 8, 9] [(50, aB (decide (((Z ++ [(0 : Int)]).length : Int) <= (a.length : Int))))] ?_))))))))
 replace hr := bd hr; obtain ⟨R, iP, hr⟩ := hr
 refine .vD (Q := fun x st' => x = .normal /\ Wk 0 st' ⟨mkS 266 0 [(6, br (aa .u32 (wFu ((1000000000 : Int).tdiv (wFu ((wFu (gt b (Fj ((b.length : Int) - 1)))) + 1)))))), (7, .hs 0 0 R.length 1), (8, .hs 1 0 g.length 1), (9, ae (g.length : Int))], [.own (R.flatMap iCu), .own (g.flatMap iCu)]⟩) ?_ ?_
 ·clear hr
  have hr := iP
  clear iP
  refine .cd hr ?_ ?_ <;> intro z9 hr
  ·obtain ⟨sR, sT, hr⟩ := gd2 hr
   refine .r0 G (.mu 2 (.e0 (v := .hs 7 0 ((Z ++ [(0 : Int)]) ++ [(0 : Int)]).length 1) (ws := [(5, .dead), (7, .own (((Z ++ [(0 : Int)]) ++ [(0 : Int)]).flatMap iCu))]) (tr (fb (new := [br 0]) (l := Z ++ [(0 : Int)]) (xs := [(0 : Int)]) (aE .u32) rfl rfl (by kernel_rfl) sR sT)) (.mu 1 (.done ?_))))
   obtain rfl := oi hr
   exact ⟨rfl, ((Wk.gc [6, 7, 8, 9] [(7, false), (3, false)] rfl (pKo iCu (aD _) ((Z ++ [(0 : Int)]) ++ [(0 : Int)]) (pKo iCu (aD _) g trivial))).to)⟩
  refine .skip ?_
  obtain rfl := oi hr
  exact ⟨rfl, ((Wk.gc [6, 7, 8, 9] [(5, false), (3, false)] rfl (pKo iCu (aD _) (Z ++ [(0 : Int)]) (pKo iCu (aD _) g trivial))).to)⟩
 rintro x st' j4
 clear iP
 obtain ⟨rfl, j4⟩ := j4
 refine .wk j4 (.seq ?_)
 obtain ⟨qD, vU, vg, hr⟩ := gd3 hr
 refine .r0 G (.mu 4 (.e0 (v := .hs 2 0 (List.replicate (Fj ((R.length : Int) - (g.length : Int))).toNat ((0 : Int) : Int)).length 1) (ws := [(2, .own ((List.replicate (Fj ((R.length : Int) - (g.length : Int))).toNat ((0 : Int) : Int)).flatMap iCu))]) (tr (mE (c := iCu) (z := (0 : Int)) (n := Fj ((R.length : Int) - (g.length : Int))) (by_ := 4) rfl qD vU vg)) (.mu 1 (.done (.nh [4, 6, 7, 8, 9] [.own (R.flatMap iCu), .own (g.flatMap iCu), .own ((List.replicate (Fj ((R.length : Int) - (g.length : Int))).toNat ((0 : Int) : Int)).flatMap iCu)] (.seq (.seq (.r4 G [4, 6, 7, 8, 9] [(10, ae (Fj ((Fj ((R.length : Int) - (g.length : Int))) - 1)))] (.block ?_)))))))))
 replace hr := bd hr; obtain ⟨kq, ko, hr⟩ := hr
 refine .aM (σ := fun z0 => match z0 with | (i, q, d) => ⟨mkS 266 0 [(4, .hs 0 0 i.length 1), (6, br (aa .u32 (wFu ((1000000000 : Int).tdiv (wFu ((wFu (gt b (Fj ((b.length : Int) - 1)))) + 1)))))), (7, .hs 1 0 q.length 1), (8, .hs 2 0 g.length 1), (9, ae (g.length : Int)), (10, ae d)], [.own (i.flatMap iCu), .own (q.flatMap iCu), .own (g.flatMap iCu)]⟩) (Q := fun x st' => match (generalizing := false) kq with | (I, J) => x = .exit 0 /\ Wk 0 st' ⟨mkS 266 0 [(4, .hs 0 0 I.length 1), (6, br (aa .u32 (wFu ((1000000000 : Int).tdiv (wFu ((wFu (gt b (Fj ((b.length : Int) - 1)))) + 1)))))), (7, .hs 1 0 J.length 1), (9, ae (g.length : Int))], [.own (I.flatMap iCu), .own (J.flatMap iCu)]⟩) ko ((Wk.gc [4, 6, 7, 8, 9, 10] [(2, false), (0, false), (1, false)] rfl (pKo iCu (aD _) (List.replicate (Fj ((R.length : Int) - (g.length : Int))).toNat ((0 : Int) : Int)) (pKo iCu (aD _) R (pKo iCu (aD _) g trivial)))).to) ?_ ?_
 ·clear hr
  rintro m ⟨i, q, d⟩ hr
  show CQ _ _ _ _ _ ⟨_, _⟩
  refine .seq (.seq (.r4 G [4, 6, 7, 8, 9, 10] [(65, aB (decide (d >= 0)))] ?_))
  refine .cd hr ?_ ?_ <;> intro xf hr
  ·refine .skip (.seq (.block (.seq ?_)))
   obtain ⟨S, n7, hr⟩ := bd hr
   obtain ⟨kj, hr⟩ := gd hr
   refine .t1 G (gu (args := [.hs 1 0 q.length 1, ae (Fj (d + (g.length : Int)))]) (l := [1]) rfl (SnL.cons (Sn.hs rfl (.inl rfl) (SnC.pure (aY (aD _) _)) (fun h => cJ h)) (Sp SnL.nil)) (mr n q (Fj (d + (g.length : Int))) S n7)) (.mu 4 (.ca cf0 (.mu 7 (.pk (v := .hp 1 (0 + (Fj ((Fj (d + (g.length : Int))) - 1)).toNat * 1)) (tr (au kj)) (.pk (v := br (gt q (Fj ((Fj (d + (g.length : Int))) - 1)))) (tr (aG (aH (aE .u32) (aC kj) z1 (by omega : 0 + (Fj ((Fj (d + (g.length : Int))) - 1)).toNat * 1 = (Fj ((Fj (d + (g.length : Int))) - 1)).toNat * 1 + 0) (by kernel_rfl)))) (.mu 3 ?_))))))
   refine .done ⟨by kernel_rfl, ?_⟩
   refine .nh [4, 6, 7, 8, 9, 10, 11] [.own (i.flatMap iCu), .own (q.flatMap iCu), .own (g.flatMap iCu)] (.seq ?_)
   obtain ⟨C, kz, hr⟩ := gd2 hr
   refine .dZ G bI (.mu 4 (.pk (v := .hp 2 (0 + (Fj ((g.length : Int) - 1)).toNat * 1)) (tr (au C)) (.pk (v := br (gt g (Fj ((g.length : Int) - 1)))) (tr (aG (aH (aE .u32) (aC C) z1 (by omega : 0 + (Fj ((g.length : Int) - 1)).toNat * 1 = (Fj ((g.length : Int) - 1)).toNat * 1 + 0) (by kernel_rfl)))) (.mu 1 (.pk (v := cK (wFu ((wFu ((wFu ((wFu S) * 1000000000)) + (wFu (gt q (Fj ((Fj (d + (g.length : Int))) - 1)))))).tdiv (wFu (gt g (Fj ((g.length : Int) - 1))))))) (qY (x := wFu ((wFu ((wFu S) * 1000000000)) + (wFu (gt q (Fj ((Fj (d + (g.length : Int))) - 1)))))) (y := wFu (gt g (Fj ((g.length : Int) - 1)))) (by kernel_rfl) (by kernel_rfl) kz) (.mu 4 (.pk (v := .hp 2 (0 + (Fj ((g.length : Int) - 1)).toNat * 1)) (tr (au C)) (.pk (v := br (gt g (Fj ((g.length : Int) - 1)))) (tr (aG (aH (aE .u32) (aC C) z1 (by omega : 0 + (Fj ((g.length : Int) - 1)).toNat * 1 = (Fj ((g.length : Int) - 1)).toNat * 1 + 0) (by kernel_rfl)))) (.mu 1 (.pk (v := cK ((wFu ((wFu ((wFu S) * 1000000000)) + (wFu (gt q (Fj ((Fj (d + (g.length : Int))) - 1)))))).tmod (wFu (gt g (Fj ((g.length : Int) - 1)))))) (qV (x := wFu ((wFu ((wFu S) * 1000000000)) + (wFu (gt q (Fj ((Fj (d + (g.length : Int))) - 1)))))) (y := wFu (gt g (Fj ((g.length : Int) - 1)))) (by kernel_rfl) (by kernel_rfl) kz) (.mu 2 ?_)))))))))))
   refine .done ⟨by kernel_rfl, ?_⟩
   refine .nh [4, 6, 7, 8, 9, 10, 12, 13] [.own (i.flatMap iCu), .own (q.flatMap iCu), .own (g.flatMap iCu)] (.seq (.block ?_))
   replace hr := bd hr; obtain ⟨j, ki, hr⟩ := hr
   refine .aM (σ := fun z0 => match z0 with | (L, M) => ⟨mkS 266 0 [(4, .hs 0 0 i.length 1), (6, br (aa .u32 (wFu ((1000000000 : Int).tdiv (wFu ((wFu (gt b (Fj ((b.length : Int) - 1)))) + 1)))))), (7, .hs 1 0 q.length 1), (8, .hs 2 0 g.length 1), (9, ae (g.length : Int)), (10, ae d), (12, cK L), (13, cK M)], [.own (i.flatMap iCu), .own (q.flatMap iCu), .own (g.flatMap iCu)]⟩) (Q := fun x st' => x = .exit 2 /\ Wk 0 st' ⟨mkS 266 0 [(4, .hs 0 0 i.length 1), (6, br (aa .u32 (wFu ((1000000000 : Int).tdiv (wFu ((wFu (gt b (Fj ((b.length : Int) - 1)))) + 1)))))), (7, .hs 1 0 q.length 1), (8, .hs 2 0 g.length 1), (9, ae (g.length : Int)), (10, ae d), (12, cK j)], [.own (i.flatMap iCu), .own (q.flatMap iCu), .own (g.flatMap iCu)]⟩) ki ((Wk.gc [4, 6, 7, 8, 9, 10, 12, 13] kF3 rfl (pKo iCu (aD _) i (pKo iCu (aD _) q (pKo iCu (aD _) g trivial)))).to) ?_ ?_
   ·clear hr
    rintro m ⟨L, M⟩ hr
    show CQ _ _ _ _ _ ⟨_, _⟩
    refine .seq (.seq ?_)
    rcases bT (decide (L >= 1000000000)) with N | N
    ·replace hr := cC N hr
     refine .dZ G bI (.mu 1 (.pk (v := aB true) (eB N) (.mu 22 ?_)))
     refine .done ⟨by kernel_rfl, ?_⟩
     refine .nh [4, 6, 7, 8, 9, 10, 12, 13, 123] [.own (i.flatMap iCu), .own (q.flatMap iCu), .own (g.flatMap iCu)] (.cT (by kernel_rfl) (.skip (.block (.seq (.r4 G [4, 6, 7, 8, 9, 10, 13] [(12, cK (wFu (L - 1)))] (.seq (.r0 G (.mu 4 (.p0 (v := .hp 2 (0 + (Fj ((g.length : Int) - 1)).toNat * 1)) (tr (au C)) (.p0 (v := br (gt g (Fj ((g.length : Int) - 1)))) (tr (aG (aH (aE .u32) (aC C) z1 (by omega : 0 + (Fj ((g.length : Int) - 1)).toNat * 1 = (Fj ((g.length : Int) - 1)).toNat * 1 + 0) (by kernel_rfl)))) (.mu 3 (.done (.nh [4, 6, 7, 8, 9, 10, 12, 13] [.own (i.flatMap iCu), .own (q.flatMap iCu), .own (g.flatMap iCu)] (.seq (.r4 G [4, 6, 7, 8, 9, 10, 12, 13] [(135, aB (decide ((wFu (M + (wFu (gt g (Fj ((g.length : Int) - 1)))))) >= 1000000000)))] ?_)))))))))))))))
     refine .cd hr ?_ ?_ <;> intro xh hr
     ·refine .leave rfl ?_
      obtain rfl := oi hr
      exact ⟨rfl, ((Wk.gc [4, 6, 7, 8, 9, 10, 12] kF3 rfl (pKo iCu (aD _) i (pKo iCu (aD _) q (pKo iCu (aD _) g trivial)))).to)⟩
     refine .skip (.pop ?_)
     exact aA (wFu (L - 1), wFu (M + (wFu (gt g (Fj ((g.length : Int) - 1)))))) hr ((Wk.gc [4, 6, 7, 8, 9, 10, 12, 13] kF3 rfl (pKo iCu (aD _) i (pKo iCu (aD _) q (pKo iCu (aD _) g trivial)))).to)
    replace hr := cB N hr
    obtain ⟨kO, lj, hr⟩ := gd2 hr
    refine .dZ G bI (.mu 1 (.pk (v := aB false) (eB N) (.mu 5 (.pk (v := .hp 2 (0 + (Fj ((g.length : Int) - 2)).toNat * 1)) (tr (au kO)) (.pk (v := br (gt g (Fj ((g.length : Int) - 2)))) (tr (aG (aH (aE .u32) (aC kO) z1 (by omega : 0 + (Fj ((g.length : Int) - 2)).toNat * 1 = (Fj ((g.length : Int) - 2)).toNat * 1 + 0) (by kernel_rfl)))) (.mu 9 (.pk (v := .hp 1 (0 + (Fj ((Fj (d + (g.length : Int))) - 2)).toNat * 1)) (tr (au lj)) (.pk (v := br (gt q (Fj ((Fj (d + (g.length : Int))) - 2)))) (tr (aG (aH (aE .u32) (aC lj) z1 (by omega : 0 + (Fj ((Fj (d + (g.length : Int))) - 2)).toNat * 1 = (Fj ((Fj (d + (g.length : Int))) - 2)).toNat * 1 + 0) (by kernel_rfl)))) (.mu 4 ?_)))))))))
    refine .done ⟨by kernel_rfl, ?_⟩
    refine .nh [4, 6, 7, 8, 9, 10, 12, 13, 123] [.own (i.flatMap iCu), .own (q.flatMap iCu), .own (g.flatMap iCu)] ?_
    refine .cd hr ?_ ?_ <;> intro xd hr
    ·refine .skip (.block (.seq (.r4 G [4, 6, 7, 8, 9, 10, 13] [(12, cK (wFu (L - 1)))] (.seq (.r0 G (.mu 4 (.p0 (v := .hp 2 (0 + (Fj ((g.length : Int) - 1)).toNat * 1)) (tr (au C)) (.p0 (v := br (gt g (Fj ((g.length : Int) - 1)))) (tr (aG (aH (aE .u32) (aC C) z1 (by omega : 0 + (Fj ((g.length : Int) - 1)).toNat * 1 = (Fj ((g.length : Int) - 1)).toNat * 1 + 0) (by kernel_rfl)))) (.mu 3 (.done (.nh [4, 6, 7, 8, 9, 10, 12, 13] [.own (i.flatMap iCu), .own (q.flatMap iCu), .own (g.flatMap iCu)] (.seq (.r4 G [4, 6, 7, 8, 9, 10, 12, 13] [(135, aB (decide ((wFu (M + (wFu (gt g (Fj ((g.length : Int) - 1)))))) >= 1000000000)))] ?_)))))))))))))
     refine .cd hr ?_ ?_ <;> intro xl hr
     ·refine .leave rfl ?_
      obtain rfl := oi hr
      exact ⟨rfl, ((Wk.gc [4, 6, 7, 8, 9, 10, 12] kF3 rfl (pKo iCu (aD _) i (pKo iCu (aD _) q (pKo iCu (aD _) g trivial)))).to)⟩
     refine .skip (.pop ?_)
     exact aA (wFu (L - 1), wFu (M + (wFu (gt g (Fj ((g.length : Int) - 1)))))) hr ((Wk.gc [4, 6, 7, 8, 9, 10, 12, 13] kF3 rfl (pKo iCu (aD _) i (pKo iCu (aD _) q (pKo iCu (aD _) g trivial)))).to)
    refine .leave rfl ?_
    obtain rfl := oi hr
    exact ⟨rfl, ((Wk.gc [4, 6, 7, 8, 9, 10, 12] kF3 rfl (pKo iCu (aD _) i (pKo iCu (aD _) q (pKo iCu (aD _) g trivial)))).to)⟩
   rintro x st' T
   clear ki
   obtain ⟨rfl, T⟩ := T
   refine aW _ rfl (.wk T (.seq (.r4 G [4, 6, 7, 8, 9, 10, 12] [(14, ae 0), (15, cK 0)] (.seq (.seq (.r4 G [4, 6, 7, 8, 9, 10, 12, 14, 15] [(136, ae (g.length : Int)), (137, ae 0)] (.block ?_)))))))
   replace hr := bd hr; obtain ⟨kD, ml, hr⟩ := hr
   refine .aM (σ := fun z0 => match z0 with | (k, u, s, e) => ⟨mkS 266 0 [(4, .hs 0 0 i.length 1), (6, br (aa .u32 (wFu ((1000000000 : Int).tdiv (wFu ((wFu (gt b (Fj ((b.length : Int) - 1)))) + 1)))))), (7, .hs 1 0 k.length 1), (8, .hs 2 0 g.length 1), (9, ae (g.length : Int)), (10, ae d), (12, cK j), (14, ae u), (15, cK s), (136, ae (g.length : Int)), (137, ae e)], [.own (i.flatMap iCu), .own (k.flatMap iCu), .own (g.flatMap iCu)]⟩) (Q := fun x st' => match (generalizing := false) kD with | (o, w, A) => x = .exit 4 /\ Wk 0 st' ⟨mkS 266 0 [(4, .hs 0 0 i.length 1), (6, br (aa .u32 (wFu ((1000000000 : Int).tdiv (wFu ((wFu (gt b (Fj ((b.length : Int) - 1)))) + 1)))))), (7, .hs 1 0 o.length 1), (8, .hs 2 0 g.length 1), (9, ae (g.length : Int)), (10, ae d), (12, cK j), (14, ae w), (15, cK A)], [.own (i.flatMap iCu), .own (o.flatMap iCu), .own (g.flatMap iCu)]⟩) ml ((Wk.gc [4, 6, 7, 8, 9, 10, 12, 14, 15, 136, 137] kF3 rfl (pKo iCu (aD _) i (pKo iCu (aD _) q (pKo iCu (aD _) g trivial)))).to) ?_ ?_
   ·clear hr
    rintro m ⟨k, u, s, e⟩ hr
    show CQ _ _ _ _ _ ⟨_, _⟩
    refine .seq (.r4 G [4, 6, 7, 8, 9, 10, 12, 14, 15, 136, 137] [(138, aB (decide (e < (g.length : Int))))] (.seq ?_))
    refine .cd hr ?_ ?_ <;> intro wN hr
    ·refine .skip (.seq (.block (.seq (.r4 G [4, 6, 7, 8, 9, 10, 12, 14, 15, 136, 137] [(16, ae e)] (.seq ?_)))))
     obtain ⟨mc, hr⟩ := gd hr
     refine .r0 G (.mu 3 (.p0 (v := .hp 2 (0 + e.toNat * 1)) (tr (au mc)) (.p0 (v := br (gt g e)) (tr (aG (aH (aE .u32) (aC mc) z1 (by omega : 0 + e.toNat * 1 = e.toNat * 1 + 0) (by kernel_rfl)))) (.mu 5 (.done (.nh [4, 6, 7, 8, 9, 10, 12, 14, 16, 17, 136, 137] [.own (i.flatMap iCu), .own (k.flatMap iCu), .own (g.flatMap iCu)] (.seq (.r4 G [4, 6, 7, 8, 9, 10, 12, 14, 16, 17, 136, 137] [(15, cK (wFu ((wFu ((wFu (j * (wFu (gt g e)))) + s)).tdiv 1000000000)))] (.seq ?_)))))))))
     obtain ⟨D, hr⟩ := gd hr
     refine .r0 G (.mu 4 (.p0 (v := .hp 1 (0 + (Fj (e + d)).toNat * 1)) (tr (au D)) (.p0 (v := br (gt k (Fj (e + d)))) (tr (aG (aH (aE .u32) (aC D) z1 (by omega : 0 + (Fj (e + d)).toNat * 1 = (Fj (e + d)).toNat * 1 + 0) (by kernel_rfl)))) (.mu 8 (.done (.nh [4, 6, 7, 8, 9, 10, 12, 15, 16, 18, 136, 137] [.own (i.flatMap iCu), .own (k.flatMap iCu), .own (g.flatMap iCu)] (.seq (.r4 G [4, 6, 7, 8, 9, 10, 12, 15, 16, 18, 136, 137] [(14, ae 0)] (.seq (.seq (.r4 G [4, 6, 7, 8, 9, 10, 12, 14, 15, 16, 18, 136, 137] [(165, aB (decide ((Fj ((Fj ((Fj (gt k (Fj (e + d)))) - u)) - (Fj ((wFu ((wFu (j * (wFu (gt g e)))) + s)).tmod 1000000000)))) < 0)))] ?_)))))))))))
     refine .cd hr ?_ ?_ <;> intro wZ hr
     ·refine .r4 G [4, 6, 7, 8, 9, 10, 12, 15, 16, 136, 137] [(14, ae 1), (18, ae (Fj ((Fj ((Fj ((Fj (gt k (Fj (e + d)))) - u)) - (Fj ((wFu ((wFu (j * (wFu (gt g e)))) + s)).tmod 1000000000)))) + 1000000000)))] (.r0 G (.mu 6 (.p0 (v := .hp 1 (0 + (Fj (e + d)).toNat * 1)) (tr (au D)) (.e0 (v := .unk) (ws := [(1, .own ((k.set (Fj (e + d)).toNat (aa .u32 (Fj ((Fj ((Fj ((Fj (gt k (Fj (e + d)))) - u)) - (Fj ((wFu ((wFu (j * (wFu (gt g e)))) + s)).tmod 1000000000)))) + 1000000000)))).flatMap iCu))]) (tr (iD (iJ (cr (n := 1) (aE .u32) (aC D) (lbT rfl) (by omega : 0 + (Fj (e + d)).toNat * 1 = (Fj (e + d)).toNat * 1 + 0))) (congrArg Blk.own (cR (xs := [br (aa .u32 (Fj ((Fj ((Fj ((Fj (gt k (Fj (e + d)))) - u)) - (Fj ((wFu ((wFu (j * (wFu (gt g e)))) + s)).tmod 1000000000)))) + 1000000000)))]) (aE .u32) (aC D) (lbT rfl) (by omega : 0 + (Fj (e + d)).toNat * 1 = (Fj (e + d)).toNat * 1 + 0) (by kernel_rfl))))) (.done (.pop (.ru G ?_)))))))
      exact aA (k.set (Fj (e + d)).toNat (aa .u32 (Fj ((Fj ((Fj ((Fj (gt k (Fj (e + d)))) - u)) - (Fj ((wFu ((wFu (j * (wFu (gt g e)))) + s)).tmod 1000000000)))) + 1000000000))), 1, wFu ((wFu ((wFu (j * (wFu (gt g e)))) + s)).tdiv 1000000000), Fj (e + 1)) hr ((Wk.iH 7 (b := 1) (es := 1) (len := k.length) (k.set (Fj (e + d)).toNat (aa .u32 (Fj ((Fj ((Fj ((Fj (gt k (Fj (e + d)))) - u)) - (Fj ((wFu ((wFu (j * (wFu (gt g e)))) + s)).tmod 1000000000)))) + 1000000000)))).length (by kernel_rfl) (Eq.symm (List.length_set.trans rfl))).trans ((Wk.gc [4, 6, 7, 8, 9, 10, 12, 14, 15, 136, 137] kF3 rfl (pKo iCu (aD _) i (pKo iCu (aD _) (k.set (Fj (e + d)).toNat (aa .u32 (Fj ((Fj ((Fj ((Fj (gt k (Fj (e + d)))) - u)) - (Fj ((wFu ((wFu (j * (wFu (gt g e)))) + s)).tmod 1000000000)))) + 1000000000)))) (pKo iCu (aD _) g trivial)))).to))
     refine .skip (.r0 G (.mu 6 (.p0 (v := .hp 1 (0 + (Fj (e + d)).toNat * 1)) (tr (au D)) (.e0 (v := .unk) (ws := [(1, .own ((k.set (Fj (e + d)).toNat (aa .u32 (Fj ((Fj ((Fj (gt k (Fj (e + d)))) - u)) - (Fj ((wFu ((wFu (j * (wFu (gt g e)))) + s)).tmod 1000000000)))))).flatMap iCu))]) (tr (iD (iJ (cr (n := 1) (aE .u32) (aC D) (lbT rfl) (by omega : 0 + (Fj (e + d)).toNat * 1 = (Fj (e + d)).toNat * 1 + 0))) (congrArg Blk.own (cR (xs := [br (aa .u32 (Fj ((Fj ((Fj (gt k (Fj (e + d)))) - u)) - (Fj ((wFu ((wFu (j * (wFu (gt g e)))) + s)).tmod 1000000000)))))]) (aE .u32) (aC D) (lbT rfl) (by omega : 0 + (Fj (e + d)).toNat * 1 = (Fj (e + d)).toNat * 1 + 0) (by kernel_rfl))))) (.done (.pop (.ru G ?_)))))))
     exact aA (k.set (Fj (e + d)).toNat (aa .u32 (Fj ((Fj ((Fj (gt k (Fj (e + d)))) - u)) - (Fj ((wFu ((wFu (j * (wFu (gt g e)))) + s)).tmod 1000000000))))), 0, wFu ((wFu ((wFu (j * (wFu (gt g e)))) + s)).tdiv 1000000000), Fj (e + 1)) hr ((Wk.iH 7 (b := 1) (es := 1) (len := k.length) (k.set (Fj (e + d)).toNat (aa .u32 (Fj ((Fj ((Fj (gt k (Fj (e + d)))) - u)) - (Fj ((wFu ((wFu (j * (wFu (gt g e)))) + s)).tmod 1000000000)))))).length (by kernel_rfl) (Eq.symm (List.length_set.trans rfl))).trans ((Wk.gc [4, 6, 7, 8, 9, 10, 12, 14, 15, 136, 137] kF3 rfl (pKo iCu (aD _) i (pKo iCu (aD _) (k.set (Fj (e + d)).toNat (aa .u32 (Fj ((Fj ((Fj (gt k (Fj (e + d)))) - u)) - (Fj ((wFu ((wFu (j * (wFu (gt g e)))) + s)).tmod 1000000000)))))) (pKo iCu (aD _) g trivial)))).to))
    refine .leave rfl ?_
    obtain rfl := oi hr
    exact ⟨rfl, ((Wk.gc [4, 6, 7, 8, 9, 10, 12, 14, 15] kF3 rfl (pKo iCu (aD _) i (pKo iCu (aD _) k (pKo iCu (aD _) g trivial)))).to)⟩
   rcases kD with ⟨o, w, A⟩
   rintro x st' U
   clear ml
   obtain ⟨rfl, U⟩ := U
   refine aW _ rfl (.wk U (.seq ?_))
   obtain ⟨E, hr⟩ := gd hr
   refine .r0 G (.mu 4 (.p0 (v := .hp 1 (0 + (Fj (d + (g.length : Int))).toNat * 1)) (tr (au E)) (.p0 (v := br (gt o (Fj (d + (g.length : Int))))) (tr (aG (aH (aE .u32) (aC E) z1 (by omega : 0 + (Fj (d + (g.length : Int))).toNat * 1 = (Fj (d + (g.length : Int))).toNat * 1 + 0) (by kernel_rfl)))) (.mu 7 (.done (.nh [4, 6, 7, 8, 9, 10, 12, 19] [.own (i.flatMap iCu), .own (o.flatMap iCu), .own (g.flatMap iCu)] (.seq (.seq (.r4 G [4, 6, 7, 8, 9, 10, 12, 19] [(189, aB (decide ((Fj ((Fj ((Fj (gt o (Fj (d + (g.length : Int))))) - w)) - (Fj A))) < 0)))] ?_)))))))))
   refine .cd hr ?_ ?_ <;> intro wW hr
   ·refine .seq (.r0 G (.mu 7 (.p0 (v := .hp 1 (0 + (Fj (d + (g.length : Int))).toNat * 1)) (tr (au E)) (.e0 (v := .unk) (ws := [(1, .own ((o.set (Fj (d + (g.length : Int))).toNat (aa .u32 (Fj ((Fj ((Fj ((Fj (gt o (Fj (d + (g.length : Int))))) - w)) - (Fj A))) + 1000000000)))).flatMap iCu))]) (tr (iD (iJ (cr (n := 1) (aE .u32) (aC E) (lbT rfl) (by omega : 0 + (Fj (d + (g.length : Int))).toNat * 1 = (Fj (d + (g.length : Int))).toNat * 1 + 0))) (congrArg Blk.own (cR (xs := [br (aa .u32 (Fj ((Fj ((Fj ((Fj (gt o (Fj (d + (g.length : Int))))) - w)) - (Fj A))) + 1000000000)))]) (aE .u32) (aC E) (lbT rfl) (by omega : 0 + (Fj (d + (g.length : Int))).toNat * 1 = (Fj (d + (g.length : Int))).toNat * 1 + 0) (by kernel_rfl))))) (.done (.nh [4, 6, 7, 8, 9, 10, 12] [.own (i.flatMap iCu), .own ((o.set (Fj (d + (g.length : Int))).toNat (aa .u32 (Fj ((Fj ((Fj ((Fj (gt o (Fj (d + (g.length : Int))))) - w)) - (Fj A))) + 1000000000)))).flatMap iCu), .own (g.flatMap iCu)] (.seq (.r4 G [4, 6, 7, 8, 9, 10] [(12, cK (wFu (j - 1)))] (.seq (.r4 G [4, 6, 7, 8, 9, 10, 12] [(20, br 0)] (.seq (.seq (.r4 G [4, 6, 7, 8, 9, 10, 12, 20] [(200, ae (g.length : Int)), (201, ae 0)] (.block ?_))))))))))))))
    replace hr := bd hr; obtain ⟨l6, jo, hr⟩ := hr
    refine .aM (σ := fun z0 => match z0 with | (p, B, f) => ⟨mkS 266 0 [(4, .hs 0 0 i.length 1), (6, br (aa .u32 (wFu ((1000000000 : Int).tdiv (wFu ((wFu (gt b (Fj ((b.length : Int) - 1)))) + 1)))))), (7, .hs 1 0 p.length 1), (8, .hs 2 0 g.length 1), (9, ae (g.length : Int)), (10, ae d), (12, cK (wFu (j - 1))), (20, br B), (200, ae (g.length : Int)), (201, ae f)], [.own (i.flatMap iCu), .own (p.flatMap iCu), .own (g.flatMap iCu)]⟩) (Q := fun x st' => match (generalizing := false) l6 with | (t, F) => x = .exit 6 /\ Wk 0 st' ⟨mkS 266 0 [(4, .hs 0 0 i.length 1), (6, br (aa .u32 (wFu ((1000000000 : Int).tdiv (wFu ((wFu (gt b (Fj ((b.length : Int) - 1)))) + 1)))))), (7, .hs 1 0 t.length 1), (8, .hs 2 0 g.length 1), (9, ae (g.length : Int)), (10, ae d), (12, cK (wFu (j - 1))), (20, br F)], [.own (i.flatMap iCu), .own (t.flatMap iCu), .own (g.flatMap iCu)]⟩) jo ((Wk.iH 7 (b := 1) (es := 1) (len := o.length) (o.set (Fj (d + (g.length : Int))).toNat (aa .u32 (Fj ((Fj ((Fj ((Fj (gt o (Fj (d + (g.length : Int))))) - w)) - (Fj A))) + 1000000000)))).length (by kernel_rfl) (Eq.symm (List.length_set.trans rfl))).trans ((Wk.gc [4, 6, 7, 8, 9, 10, 12, 20, 200, 201] kF3 rfl (pKo iCu (aD _) i (pKo iCu (aD _) (o.set (Fj (d + (g.length : Int))).toNat (aa .u32 (Fj ((Fj ((Fj ((Fj (gt o (Fj (d + (g.length : Int))))) - w)) - (Fj A))) + 1000000000)))) (pKo iCu (aD _) g trivial)))).to)) ?_ ?_
    ·clear hr
     rintro m ⟨p, B, f⟩ hr
     show CQ _ _ _ _ _ ⟨_, _⟩
     refine .seq (.r4 G [4, 6, 7, 8, 9, 10, 12, 20, 200, 201] [(202, aB (decide (f < (g.length : Int))))] (.seq ?_))
     refine .cd hr ?_ ?_ <;> intro An hr
     ·refine .skip (.seq (.block (.seq (.r4 G [4, 6, 7, 8, 9, 10, 12, 20, 200, 201] [(21, ae f)] (.seq ?_)))))
      obtain ⟨H, jJ, hr⟩ := gd2 hr
      refine .dZ G bI (.mu 4 (.pk (v := .hp 1 (0 + (Fj (f + d)).toNat * 1)) (tr (au H)) (.pk (v := br (gt p (Fj (f + d)))) (tr (aG (aH (aE .u32) (aC H) z1 (by omega : 0 + (Fj (f + d)).toNat * 1 = (Fj (f + d)).toNat * 1 + 0) (by kernel_rfl)))) (.mu 2 (.pk (v := .hp 2 (0 + f.toNat * 1)) (tr (au jJ)) (.pk (v := br (gt g f)) (tr (aG (aH (aE .u32) (aC jJ) z1 (by omega : 0 + f.toNat * 1 = f.toNat * 1 + 0) (by kernel_rfl)))) (.mu 4 ?_)))))))
      refine .done ⟨by kernel_rfl, ?_⟩
      refine .nh [4, 6, 7, 8, 9, 10, 12, 21, 22, 200, 201] [.own (i.flatMap iCu), .own (p.flatMap iCu), .own (g.flatMap iCu)] (.seq (.r4 G [4, 6, 7, 8, 9, 10, 12, 21, 22, 200, 201] [(20, br 0)] (.seq (.seq (.r4 G [4, 6, 7, 8, 9, 10, 12, 20, 21, 22, 200, 201] [(218, aB (decide ((aa .u32 ((aa .u32 ((gt p (Fj (f + d))) + (gt g f))) + B)) >= 1000000000)))] ?_)))))
      refine .cd hr ?_ ?_ <;> intro Au hr
      ·refine .r4 G [4, 6, 7, 8, 9, 10, 12, 21, 200, 201] [(20, br 1), (22, br (aa .u32 ((aa .u32 ((aa .u32 ((gt p (Fj (f + d))) + (gt g f))) + B)) - 1000000000)))] (.r0 G (.mu 5 (.p0 (v := .hp 1 (0 + (Fj (f + d)).toNat * 1)) (tr (au H)) (.e0 (v := .unk) (ws := [(1, .own ((p.set (Fj (f + d)).toNat (aa .u32 ((aa .u32 ((aa .u32 ((gt p (Fj (f + d))) + (gt g f))) + B)) - 1000000000))).flatMap iCu))]) (tr (iD (iJ (cr (n := 1) (aE .u32) (aC H) (lbT rfl) (by omega : 0 + (Fj (f + d)).toNat * 1 = (Fj (f + d)).toNat * 1 + 0))) (congrArg Blk.own (cR (xs := [br (aa .u32 ((aa .u32 ((aa .u32 ((gt p (Fj (f + d))) + (gt g f))) + B)) - 1000000000))]) (aE .u32) (aC H) (lbT rfl) (by omega : 0 + (Fj (f + d)).toNat * 1 = (Fj (f + d)).toNat * 1 + 0) (by kernel_rfl))))) (.done (.pop (.ru G ?_)))))))
       exact aA (p.set (Fj (f + d)).toNat (aa .u32 ((aa .u32 ((aa .u32 ((gt p (Fj (f + d))) + (gt g f))) + B)) - 1000000000)), 1, Fj (f + 1)) hr ((Wk.iH 7 (b := 1) (es := 1) (len := p.length) (p.set (Fj (f + d)).toNat (aa .u32 ((aa .u32 ((aa .u32 ((gt p (Fj (f + d))) + (gt g f))) + B)) - 1000000000))).length (by kernel_rfl) (Eq.symm (List.length_set.trans rfl))).trans ((Wk.gc [4, 6, 7, 8, 9, 10, 12, 20, 200, 201] kF3 rfl (pKo iCu (aD _) i (pKo iCu (aD _) (p.set (Fj (f + d)).toNat (aa .u32 ((aa .u32 ((aa .u32 ((gt p (Fj (f + d))) + (gt g f))) + B)) - 1000000000))) (pKo iCu (aD _) g trivial)))).to))
      refine .skip (.r0 G (.mu 5 (.p0 (v := .hp 1 (0 + (Fj (f + d)).toNat * 1)) (tr (au H)) (.e0 (v := .unk) (ws := [(1, .own ((p.set (Fj (f + d)).toNat (aa .u32 ((aa .u32 ((gt p (Fj (f + d))) + (gt g f))) + B))).flatMap iCu))]) (tr (iD (iJ (cr (n := 1) (aE .u32) (aC H) (lbT rfl) (by omega : 0 + (Fj (f + d)).toNat * 1 = (Fj (f + d)).toNat * 1 + 0))) (congrArg Blk.own (cR (xs := [br (aa .u32 ((aa .u32 ((gt p (Fj (f + d))) + (gt g f))) + B))]) (aE .u32) (aC H) (lbT rfl) (by omega : 0 + (Fj (f + d)).toNat * 1 = (Fj (f + d)).toNat * 1 + 0) (by kernel_rfl))))) (.done (.pop (.ru G ?_)))))))
      exact aA (p.set (Fj (f + d)).toNat (aa .u32 ((aa .u32 ((gt p (Fj (f + d))) + (gt g f))) + B)), 0, Fj (f + 1)) hr ((Wk.iH 7 (b := 1) (es := 1) (len := p.length) (p.set (Fj (f + d)).toNat (aa .u32 ((aa .u32 ((gt p (Fj (f + d))) + (gt g f))) + B))).length (by kernel_rfl) (Eq.symm (List.length_set.trans rfl))).trans ((Wk.gc [4, 6, 7, 8, 9, 10, 12, 20, 200, 201] kF3 rfl (pKo iCu (aD _) i (pKo iCu (aD _) (p.set (Fj (f + d)).toNat (aa .u32 ((aa .u32 ((gt p (Fj (f + d))) + (gt g f))) + B))) (pKo iCu (aD _) g trivial)))).to))
     refine .leave rfl ?_
     obtain rfl := oi hr
     exact ⟨rfl, ((Wk.gc [4, 6, 7, 8, 9, 10, 12, 20] kF3 rfl (pKo iCu (aD _) i (pKo iCu (aD _) p (pKo iCu (aD _) g trivial)))).to)⟩
    rcases l6 with ⟨t, F⟩
    rintro x st' V
    clear jo
    obtain ⟨rfl, V⟩ := V
    refine aW _ rfl (.wk V ?_)
    obtain ⟨O, hr⟩ := gd hr
    refine .r0 G (.mu 8 (.p0 (v := .hp 1 (0 + (Fj (d + (g.length : Int))).toNat * 1)) (tr (au O)) (.p0 (v := br (gt t (Fj (d + (g.length : Int))))) (tr (aG (aH (aE .u32) (aC O) z1 (by omega : 0 + (Fj (d + (g.length : Int))).toNat * 1 = (Fj (d + (g.length : Int))).toNat * 1 + 0) (by kernel_rfl)))) (.mu 3 (.p0 (v := .hp 1 (0 + (Fj (d + (g.length : Int))).toNat * 1)) (tr (au O)) (.e0 (v := .unk) (ws := [(1, .own ((t.set (Fj (d + (g.length : Int))).toNat ((aa .u32 ((gt t (Fj (d + (g.length : Int)))) + F)).tmod 1000000000)).flatMap iCu))]) (tr (iD (iJ (cr (n := 1) (aE .u32) (aC O) (lbT rfl) (by omega : 0 + (Fj (d + (g.length : Int))).toNat * 1 = (Fj (d + (g.length : Int))).toNat * 1 + 0))) (congrArg Blk.own (cR (xs := [br ((aa .u32 ((gt t (Fj (d + (g.length : Int)))) + F)).tmod 1000000000)]) (aE .u32) (aC O) (lbT rfl) (by omega : 0 + (Fj (d + (g.length : Int))).toNat * 1 = (Fj (d + (g.length : Int))).toNat * 1 + 0) (by kernel_rfl))))) (.done (.nh [4, 6, 7, 8, 9, 10, 12] [.own (i.flatMap iCu), .own ((t.set (Fj (d + (g.length : Int))).toNat ((aa .u32 ((gt t (Fj (d + (g.length : Int)))) + F)).tmod 1000000000)).flatMap iCu), .own (g.flatMap iCu)] ?_))))))))
    obtain ⟨W, hr⟩ := gd hr
    refine .r0 G (.mu 4 (.p0 (v := .hp 0 (0 + d.toNat * 1)) (tr (au W)) (.e0 (v := .unk) (ws := [(0, .own ((i.set d.toNat (aa .u32 (wFu (j - 1)))).flatMap iCu))]) (tr (iD (iJ (cr (n := 1) (aE .u32) (aC W) (lbT rfl) (by omega : 0 + d.toNat * 1 = d.toNat * 1 + 0))) (congrArg Blk.own (cR (xs := [br (aa .u32 (wFu (j - 1)))]) (aE .u32) (aC W) (lbT rfl) (by omega : 0 + d.toNat * 1 = d.toNat * 1 + 0) (by kernel_rfl))))) (.done (.pop (.ru G ?_))))))
    exact aA (i.set d.toNat (aa .u32 (wFu (j - 1))), t.set (Fj (d + (g.length : Int))).toNat ((aa .u32 ((gt t (Fj (d + (g.length : Int)))) + F)).tmod 1000000000), Fj (d - 1)) hr ((Wk.iH 4 (b := 0) (es := 1) (len := i.length) (i.set d.toNat (aa .u32 (wFu (j - 1)))).length (by kernel_rfl) (Eq.symm (List.length_set.trans rfl))).trans ((Wk.iH 7 (b := 1) (es := 1) (len := t.length) (t.set (Fj (d + (g.length : Int))).toNat ((aa .u32 ((gt t (Fj (d + (g.length : Int)))) + F)).tmod 1000000000)).length (by kernel_rfl) (Eq.symm (List.length_set.trans rfl))).trans ((Wk.gc [4, 6, 7, 8, 9, 10] kF3 rfl (pKo iCu (aD _) (i.set d.toNat (aa .u32 (wFu (j - 1)))) (pKo iCu (aD _) (t.set (Fj (d + (g.length : Int))).toNat ((aa .u32 ((gt t (Fj (d + (g.length : Int)))) + F)).tmod 1000000000)) (pKo iCu (aD _) g trivial)))).to)))
   refine .r0 G (.mu 6 (.p0 (v := .hp 1 (0 + (Fj (d + (g.length : Int))).toNat * 1)) (tr (au E)) (.e0 (v := .unk) (ws := [(1, .own ((o.set (Fj (d + (g.length : Int))).toNat (aa .u32 (Fj ((Fj ((Fj (gt o (Fj (d + (g.length : Int))))) - w)) - (Fj A))))).flatMap iCu))]) (tr (iD (iJ (cr (n := 1) (aE .u32) (aC E) (lbT rfl) (by omega : 0 + (Fj (d + (g.length : Int))).toNat * 1 = (Fj (d + (g.length : Int))).toNat * 1 + 0))) (congrArg Blk.own (cR (xs := [br (aa .u32 (Fj ((Fj ((Fj (gt o (Fj (d + (g.length : Int))))) - w)) - (Fj A))))]) (aE .u32) (aC E) (lbT rfl) (by omega : 0 + (Fj (d + (g.length : Int))).toNat * 1 = (Fj (d + (g.length : Int))).toNat * 1 + 0) (by kernel_rfl))))) (.done (.nh [4, 6, 7, 8, 9, 10, 12] [.own (i.flatMap iCu), .own ((o.set (Fj (d + (g.length : Int))).toNat (aa .u32 (Fj ((Fj ((Fj (gt o (Fj (d + (g.length : Int))))) - w)) - (Fj A))))).flatMap iCu), .own (g.flatMap iCu)] ?_)))))
   obtain ⟨X, hr⟩ := gd hr
   refine .r0 G (.mu 4 (.p0 (v := .hp 0 (0 + d.toNat * 1)) (tr (au X)) (.e0 (v := .unk) (ws := [(0, .own ((i.set d.toNat (aa .u32 j)).flatMap iCu))]) (tr (iD (iJ (cr (n := 1) (aE .u32) (aC X) (lbT rfl) (by omega : 0 + d.toNat * 1 = d.toNat * 1 + 0))) (congrArg Blk.own (cR (xs := [br (aa .u32 j)]) (aE .u32) (aC X) (lbT rfl) (by omega : 0 + d.toNat * 1 = d.toNat * 1 + 0) (by kernel_rfl))))) (.done (.pop (.ru G ?_))))))
   exact aA (i.set d.toNat (aa .u32 j), o.set (Fj (d + (g.length : Int))).toNat (aa .u32 (Fj ((Fj ((Fj (gt o (Fj (d + (g.length : Int))))) - w)) - (Fj A)))), Fj (d - 1)) hr ((Wk.iH 4 (b := 0) (es := 1) (len := i.length) (i.set d.toNat (aa .u32 j)).length (by kernel_rfl) (Eq.symm (List.length_set.trans rfl))).trans ((Wk.iH 7 (b := 1) (es := 1) (len := o.length) (o.set (Fj (d + (g.length : Int))).toNat (aa .u32 (Fj ((Fj ((Fj (gt o (Fj (d + (g.length : Int))))) - w)) - (Fj A))))).length (by kernel_rfl) (Eq.symm (List.length_set.trans rfl))).trans ((Wk.gc [4, 6, 7, 8, 9, 10] kF3 rfl (pKo iCu (aD _) (i.set d.toNat (aa .u32 j)) (pKo iCu (aD _) (o.set (Fj (d + (g.length : Int))).toNat (aa .u32 (Fj ((Fj ((Fj (gt o (Fj (d + (g.length : Int))))) - w)) - (Fj A))))) (pKo iCu (aD _) g trivial)))).to)))
  refine .leave rfl ?_
  obtain rfl := oi hr
  exact ⟨rfl, ((Wk.gc [4, 6, 7, 9] [(0, false), (1, false)] rfl (pKo iCu (aD _) i (pKo iCu (aD _) q trivial))).to)⟩
 rcases kq with ⟨I, J⟩
 rintro x st' Y
 clear ko
 obtain ⟨rfl, Y⟩ := Y
 refine aW _ rfl (.wk Y (.seq ?_))
 obtain ⟨jL, hr⟩ := gd hr
 obtain ⟨mJ, q9, nz, qq, hr⟩ := bd2 hr
 refine .gn G (ca1 (cE (args := [.hs 1 0 (g.length : Int).toNat 1]) (l := [1]) (SnL.cons (Sn.hsk (aE _) (aD _) (qE jL) rfl (.inl rfl)) SnL.nil) (gM n (J.take (g.length : Int).toNat) mJ q9)) (ca4 [.own (I.flatMap iCu), .fix (J.flatMap iCu)] (ok0 (l8 n mJ (aa .u32 (wFu ((1000000000 : Int).tdiv (wFu ((wFu (gt b (Fj ((b.length : Int) - 1)))) + 1))))) nz qq)))) (.mu 2 (.p0 (v := .hs 1 0 (g.length : Int).toNat 1) (tr (y := slH (inS 0 (g.length : Int) J.length) true ((0 : Int).toNat) ((g.length : Int).toNat) (fun z1 z2 => .hs 1 (0 + z1 * 1) (z2 - z1) 1)) (B6 jL (by kernel_rfl))) (.ca cf0 (.mu 1 (.ca (cfF cf0) (.mu 4 (.done (.nh [4, 5] [.own (I.flatMap iCu), .fix (J.flatMap iCu)] (.seq ?_)))))))))
 obtain ⟨nG, qx, hr⟩ := bd hr
 refine .g1 G (cE (args := [.hs 0 0 I.length 1]) (l := [0]) (SnL.cons (Sn.hs rfl (.inl rfl) (SnC.pure (aY (aD _) _)) (fun h => cJ h)) SnL.nil) (gM n I nG qx)) (.mu 1 (.ca cf0 (.mu 3 (.done (.ret ?_)))))
 obtain rfl := oi hr
 exact aK.ret (vs := [an nG, an nz.1]) (by kernel_rfl) (Sn.tup (Sp (Sp SnL.nil)))

theorem mV (n : Nat) (a : List Int) (b : List Int) (r : List Int × List Int) (hr : gV n a b = some r) : aL Tryz.prog 182 [an a, an b] (.tup [an r.1, an r.2]) := by
 unfold gV at hr
 refine aL.bd G Tryz.func182 [.tmp 4, .tmp 5] ?_
 unfold Tryz.f182
 simp only [gS]
 refine .seq (.r4 G [0, 1] [] (.seq (.seq ?_)))
 obtain ⟨L, E, hr⟩ := bd hr
 refine .g1 G (ok0 (kQ n a b L E)) (.mu 2 (.ca cf0 (.mu 1 (.done (.nh [0, 1, 15] [] ?_)))))
 refine .cd hr ?_ ?_ <;> intro M hr
 ·refine .seq (.r3 G 59 [(4, nS), (5, an a)] (.ret ?_))
  obtain rfl := oi hr
  exact aK.ret (vs := [nS, an a]) (by kernel_rfl) (Sn.tup (SnL.cons Sn.fR (Sp SnL.nil)))
 refine .skip (.seq ?_)
 obtain ⟨d, F, hr⟩ := bd hr
 refine .g1 G (ok0 (kK n a d F)) (.mu 1 (.ca cf0 (.mu 5 (.done (.nh [0, 1, 6, 7] [] (.seq ?_))))))
 obtain ⟨k, H, hr⟩ := bd hr
 refine .g1 G (ok0 (kK n b k H)) (.mu 1 (.ca cf0 (.mu 5 (.done (.nh [0, 1, 6, 7, 8, 9] [] (.seq (.seq ?_)))))))
 rcases bT d.2 with c | c
 ·replace hr := cC c hr
  refine .r0 G (.p0 (v := aB true) (eB c) (.mu 3 (.done (.nh [0, 1, 6, 8, 30] [] ?_))))
  refine .cd hr ?_ ?_ <;> intro N hr
  ·refine .seq ?_
   obtain ⟨e, hr⟩ := gd hr
   obtain ⟨q, f, s, g, hr⟩ := bd2 hr
   refine .tn G (ca1 (ok0 (fi n (wFu (d.1.tdiv k.1)) q f)) (ca3 (ok0 (fi n (d.1.tmod k.1) s g)))) (.mu 2 (.pk (v := cK (wFu (d.1.tdiv k.1))) (qY (x := d.1) (y := k.1) (by kernel_rfl) (by kernel_rfl) e) (.ca cf0 (.mu 2 (.pk (v := cK (d.1.tmod k.1)) (qV (x := d.1) (y := k.1) (by kernel_rfl) (by kernel_rfl) e) (.ca (cfA (fun h => by rw [sv g f (ue n h)]) cf0) (.mu 2 ?_)))))))
   refine .done ⟨by kernel_rfl, ?_⟩
   refine .ret ?_
   obtain rfl := oi hr
   exact aK.ret (vs := [an q, an s]) (by kernel_rfl) (Sn.tup (Sp (Sp SnL.nil)))
  refine .skip (.seq (.seq (.r4 G [0, 1] [(41, aB (((b.length : Int) : Int) == 1))] ?_)))
  refine .cd hr ?_ ?_ <;> intro I hr
  ·refine .seq ?_
   obtain ⟨i, hr⟩ := gd hr
   obtain ⟨l, t, hr⟩ := bd hr
   refine .g1 G (ok0 (l8 n a (gt b 0) l t)) (.mu 2 (.p0 (v := .pp (b.flatMap iCu) ((0 : Int).toNat * 1)) (tr (au i)) (.p0 (v := br (gt b 0)) (tr (aG (aH (aE .u32) (aC i) z1 (by omega : (0 : Int).toNat * 1 = (0 : Int).toNat * 1 + 0) (by kernel_rfl)))) (.ca cf0 (.mu 5 (.done (.nh [10, 11] [] (.seq ?_))))))))
   obtain ⟨u, w, hr⟩ := bd hr
   refine .g1 G (ok0 (fi n (wFu l.2) u w)) (.mu 3 (.ca cf0 (.mu 2 (.done (.ret ?_)))))
   obtain rfl := oi hr
   exact aK.ret (vs := [an l.1, an u]) (by kernel_rfl) (Sn.tup (Sp (Sp SnL.nil)))
  refine .skip (.seq ?_)
  obtain ⟨m, z, hr⟩ := bd hr
  refine .g1 G (ok0 (p9 n a b m z)) (.mu 2 (.ca cf0 (.mu 4 (.done (.ret ?_)))))
  obtain rfl := oi hr
  exact aK.ret (vs := [an m.1, an m.2]) (by kernel_rfl) (Sn.tup (Sp (Sp SnL.nil)))
 replace hr := cB c hr
 refine .r0 G (.p0 (v := aB false) (eB c) (.mu 3 (.done (.nh [0, 1, 6, 8, 30] [] (.cF (by kernel_rfl) (.skip (.seq (.seq (.r4 G [0, 1] [(41, aB (((b.length : Int) : Int) == 1))] ?_)))))))))
 refine .cd hr ?_ ?_ <;> intro J hr
 ·refine .seq ?_
  obtain ⟨j, hr⟩ := gd hr
  obtain ⟨o, A, hr⟩ := bd hr
  refine .g1 G (ok0 (l8 n a (gt b 0) o A)) (.mu 2 (.p0 (v := .pp (b.flatMap iCu) ((0 : Int).toNat * 1)) (tr (au j)) (.p0 (v := br (gt b 0)) (tr (aG (aH (aE .u32) (aC j) z1 (by omega : (0 : Int).toNat * 1 = (0 : Int).toNat * 1 + 0) (by kernel_rfl)))) (.ca cf0 (.mu 5 (.done (.nh [10, 11] [] (.seq ?_))))))))
  obtain ⟨B, C, hr⟩ := bd hr
  refine .g1 G (ok0 (fi n (wFu o.2) B C)) (.mu 3 (.ca cf0 (.mu 2 (.done (.ret ?_)))))
  obtain rfl := oi hr
  exact aK.ret (vs := [an o.1, an B]) (by kernel_rfl) (Sn.tup (Sp (Sp SnL.nil)))
 refine .skip (.seq ?_)
 obtain ⟨p, D, hr⟩ := bd hr
 refine .g1 G (ok0 (p9 n a b p D)) (.mu 2 (.ca cf0 (.mu 4 (.done (.ret ?_)))))
 obtain rfl := oi hr
 exact aK.ret (vs := [an p.1, an p.2]) (by kernel_rfl) (Sn.tup (Sp (Sp SnL.nil)))

theorem nN (n : Nat) (s : ah) (y : ah) (r : ah) (hr : iT n s y = some r) : aL Tryz.prog 145 [.agg (ah.c s), .agg (ah.c y)] (.agg (ah.c r)) := by
 unfold iT at hr
 refine aL.bd G Tryz.func145 [.cell 4 40] ?_
 unfold Tryz.f145
 simp only [gS]
 refine .seq (.r2 G 54 [(2, .hp 0 0), (3, .hp 1 0), (4, .hp 2 0)] [.own (ah.c s), .own (ah.c y), .own [aB false, nS]] (.seq ?_))
 obtain ⟨W, t, X, u, hr⟩ := bd2 hr
 refine .tn G (ca1 (ok0 (cu n s W t)) (ca3 (ok0 (cu n y X u)))) (.mu 1 (.ca cf0 (.mu 1 (.ca (cfA (fun h => by rw [sv u t (gU n h)]) cf0) (.mu 2 ?_)))))
 refine .done ⟨by kernel_rfl, ?_⟩
 refine .nh [4, 5, 6] [.own (ah.c s), .own (ah.c y), .own [aB false, nS]] (.seq (.block ?_))
 replace hr := bd hr; obtain ⟨w, g, hr⟩ := hr
 refine .aM (σ := fun R => match R with | (i, d) => ⟨mkS 54 0 [(4, .hp 0 0), (5, an i), (6, an d)], [.own [aB false, nS]]⟩) (Q := fun x st' => match (generalizing := false) w with | .inl j => x = .exit 0 /\ Wk 0 st' ⟨mkS 54 0 [(4, .hp 0 0), (5, an j)], [.own [aB false, nS]]⟩ | .inr (r0) => x = .ret /\ aK Tryz.prog [.cell 4 40] (.agg (ah.c r0)) .ret st') g ((Wk.gc [4, 5, 6] [(2, true)] rfl trivial).to) ?_ ?_
 ·clear hr
  rintro m ⟨i, d⟩ hr
  show CQ _ _ _ _ _ ⟨_, _⟩
  refine .seq (.seq (.r4 G [4, 5, 6] [(19, aB (decide ((d.length : Int) > 0)))] ?_))
  refine .cd hr ?_ ?_ <;> intro T hr
  ·refine .skip (.block (.seq ?_))
   obtain ⟨z, A, hr⟩ := bd hr
   refine .g1 G (ok0 (kK n i z A)) (.mu 1 (.ca cf0 (.mu 5 (.done (.nh [4, 5, 6, 7, 8] [.own [aB false, nS]] (.seq ?_))))))
   obtain ⟨S, B, hr⟩ := bd hr
   refine .g1 G (ok0 (kK n d S B)) (.mu 1 (.ca cf0 (.mu 5 (.done (.nh [4, 5, 6, 7, 8, 9, 10] [.own [aB false, nS]] (.seq (.seq ?_)))))))
   rcases bT z.2 with e | e
   ·replace hr := cC e hr
    refine .r0 G (.p0 (v := aB true) (eB e) (.mu 3 (.done (.nh [4, 5, 6, 7, 9, 33] [.own [aB false, nS]] ?_))))
    refine .cd hr ?_ ?_ <;> intro U hr
    ·refine .seq (.block ?_)
     replace hr := bd hr; obtain ⟨l, o, hr⟩ := hr
     refine .aM (σ := fun R => match R with | (f, a) => ⟨mkS 54 0 [(4, .hp 0 0), (7, cK f), (9, cK a)], [.own [aB false, nS]]⟩) (Q := fun x st' => x = .exit 2 /\ Wk 0 st' ⟨mkS 54 0 [(4, .hp 0 0), (7, cK l)], [.own [aB false, nS]]⟩) o ((Wk.gc [4, 7, 9] [(0, true)] rfl trivial).to) ?_ ?_
     ·clear hr
      rintro m ⟨f, a⟩ hr
      show CQ _ _ _ _ _ ⟨_, _⟩
      refine .seq (.seq (.r4 G [4, 7, 9] [(35, aB (decide (a > 0)))] ?_))
      refine .cd hr ?_ ?_ <;> intro V hr
      ·refine .skip (.block ?_)
       obtain ⟨C, hr⟩ := gd hr
       refine .dZ G bI (.mu 3 (.pk (v := cK (f.tmod a)) (qV (x := f) (y := a) (by kernel_rfl) (by kernel_rfl) C) (.mu 2 ?_)))
       refine .done ⟨by kernel_rfl, ?_⟩
       refine .pop ?_
       exact aA (a, f.tmod a) hr ((Wk.gc [4, 7, 9] [(0, true)] rfl trivial).to)
      refine .leave rfl ?_
      obtain rfl := oi hr
      exact ⟨rfl, ((Wk.gc [4, 7] [(0, true)] rfl trivial).to)⟩
     rintro x st' k
     clear o
     obtain ⟨rfl, k⟩ := k
     refine aW _ rfl (.wk k (.seq ?_))
     obtain ⟨D, E, p, F, hr⟩ := bd2 hr
     refine .gn G (ca1 (ok0 (fi n l D E)) (ca3 (ok0 (b9 n false D p F)))) (.mu 1 (.ca cf0 (.ca (cfF cf0) (.mu 1 (.done (.nh [4] [.own (ah.c p)] (.ret ?_)))))))
     obtain rfl := oi hr
     exact ⟨rfl, aK.ret (vs := [.agg (ah.c p)]) (by kernel_rfl) (Sn.pure rfl)⟩
    refine .skip (.seq ?_)
    obtain ⟨H, I, hr⟩ := bd hr
    refine .g1 G (ok0 (mV n i d H I)) (.mu 2 (.ca cf0 (.mu 5 (.done (.nh [4, 6, 12] [.own [aB false, nS]] (.ru G (.pop ?_)))))))
    exact aA (d, H.2) hr ((Wk.gc [4, 5, 6] [(0, true)] rfl trivial).to)
   replace hr := cB e hr
   refine .r0 G (.p0 (v := aB false) (eB e) (.mu 3 (.done (.nh [4, 5, 6, 7, 9, 33] [.own [aB false, nS]] (.cF (by kernel_rfl) (.skip (.seq ?_)))))))
   obtain ⟨J, L, hr⟩ := bd hr
   refine .g1 G (ok0 (mV n i d J L)) (.mu 2 (.ca cf0 (.mu 5 (.done (.nh [4, 6, 12] [.own [aB false, nS]] (.ru G (.pop ?_)))))))
   exact aA (d, J.2) hr ((Wk.gc [4, 5, 6] [(0, true)] rfl trivial).to)
  refine .leave rfl ?_
  obtain rfl := oi hr
  exact ⟨rfl, ((Wk.gc [4, 5] [(0, true)] rfl trivial).to)⟩
 rcases w with j | r0
 ·rintro x st' b
  clear g
  obtain ⟨rfl, b⟩ := b
  refine aW _ rfl (.wk b (.seq ?_))
  obtain ⟨M, N, q, O, hr⟩ := bd2 hr
  refine .gn G (ca1 (ok0 (fB n j M N)) (ca3 (ok0 (b9 n false M q O)))) (.mu 1 (.ca cf0 (.ca (cfF cf0) (.mu 1 (.done (.nh [4] [.own (ah.c q)] (.ret ?_)))))))
  obtain rfl := oi hr
  exact aK.r1 [.agg (ah.c q)]
 rintro x st' b
 clear g
 obtain ⟨rfl, b⟩ := b
 obtain rfl := oi hr
 exact iz _ b

theorem qa (n : Nat) (a : List Int) (b : List Int) (r : List Int) (hr : ke n a b = some r) : aL Tryz.prog 191 [an a, an b] (an r) := by
 unfold ke at hr
 refine aL.bd G Tryz.func191 [.tmp 4] ?_
 unfold Tryz.f191
 simp only [gS]
 refine .seq (.r4 G [0, 1] [] (.seq ?_))
 obtain ⟨y, A, B, hr⟩ := gd3 hr
 refine .r0 G (.mu 6 (.e0 (v := .hs 0 0 (List.replicate (Fj ((mx (a.length : Int) (b.length : Int)) + 1)).toNat ((0 : Int) : Int)).length 1) (ws := [(0, .own ((List.replicate (Fj ((mx (a.length : Int) (b.length : Int)) + 1)).toNat ((0 : Int) : Int)).flatMap iCu))]) (tr (mE (c := iCu) (z := (0 : Int)) (n := Fj ((mx (a.length : Int) (b.length : Int)) + 1)) (by_ := 4) rfl y A B)) (.mu 1 (.done (.nh [0, 1, 5] [.own ((List.replicate (Fj ((mx (a.length : Int) (b.length : Int)) + 1)).toNat ((0 : Int) : Int)).flatMap iCu)] (.seq (.r4 G [0, 1, 5] [(6, br 0)] (.seq (.seq (.r4 G [0, 1, 5, 6] [(17, ae ((List.replicate (Fj ((mx (a.length : Int) (b.length : Int)) + 1)).toNat ((0 : Int) : Int)).length : Int)), (18, ae 0)] (.block ?_)))))))))))
 replace hr := bd hr; obtain ⟨j, q, hr⟩ := hr
 refine .aM (σ := fun E => match E with | (e, f, d) => ⟨mkS 41 0 [(0, an a), (1, an b), (5, .hs 0 0 e.length 1), (6, br f), (17, ae ((List.replicate (Fj ((mx (a.length : Int) (b.length : Int)) + 1)).toNat ((0 : Int) : Int)).length : Int)), (18, ae d)], [.own (e.flatMap iCu)]⟩) (Q := fun x st' => x = .exit 0 /\ Wk 0 st' ⟨mkS 41 0 [(5, .hs 0 0 j.length 1)], [.own (j.flatMap iCu)]⟩) q ((Wk.gc [0, 1, 5, 6, 17, 18] [(0, false)] rfl (pKo iCu (aD _) (List.replicate (Fj ((mx (a.length : Int) (b.length : Int)) + 1)).toNat ((0 : Int) : Int)) trivial)).to) ?_ ?_
 ·clear hr
  rintro m ⟨e, f, d⟩ hr
  show CQ _ _ _ _ _ ⟨_, _⟩
  refine .seq (.r4 G [0, 1, 5, 6, 17, 18] [(19, aB (decide (d < ((List.replicate (Fj ((mx (a.length : Int) (b.length : Int)) + 1)).toNat ((0 : Int) : Int)).length : Int))))] (.seq ?_))
  refine .cd hr ?_ ?_ <;> intro C hr
  ·refine .skip (.seq (.block (.seq (.r4 G [0, 1, 5, 6, 17, 18] [(7, ae d)] (.seq ?_)))))
   obtain ⟨g, s, i, t, hr⟩ := bd2 hr
   refine .gn G (ca1 (ok0 (mr n a d g s)) (ca3 (ok0 (mr n b d i t)))) (.mu 2 (.ca cf0 (.mu 2 (.ca (cfA (fun h => by rw [sv t s (wB n h)]) cf0) (.mu 4 (.done (.nh [0, 1, 5, 7, 8, 17, 18] [.own (e.flatMap iCu)] (.seq (.r4 G [0, 1, 5, 7, 8, 17, 18] [(6, br 0)] (.seq (.seq (.r4 G [0, 1, 5, 6, 7, 8, 17, 18] [(31, aB (decide ((aa .u32 ((aa .u32 (g + i)) + f)) >= 1000000000)))] ?_))))))))))))
   refine .cd hr ?_ ?_ <;> intro D hr
   ·refine .r4 G [0, 1, 5, 7, 17, 18] [(6, br 1), (8, br (aa .u32 ((aa .u32 ((aa .u32 (g + i)) + f)) - 1000000000)))] ?_
    obtain ⟨k, hr⟩ := gd hr
    refine .r0 G (.mu 3 (.p0 (v := .hp 0 (0 + d.toNat * 1)) (tr (au k)) (.e0 (v := .unk) (ws := [(0, .own ((e.set d.toNat (aa .u32 ((aa .u32 ((aa .u32 (g + i)) + f)) - 1000000000))).flatMap iCu))]) (tr (iD (iJ (cr (n := 1) (aE .u32) (aC k) (lbT rfl) (by omega : 0 + d.toNat * 1 = d.toNat * 1 + 0))) (congrArg Blk.own (cR (xs := [br (aa .u32 ((aa .u32 ((aa .u32 (g + i)) + f)) - 1000000000))]) (aE .u32) (aC k) (lbT rfl) (by omega : 0 + d.toNat * 1 = d.toNat * 1 + 0) (by kernel_rfl))))) (.done (.pop (.ru G ?_))))))
    exact aA (e.set d.toNat (aa .u32 ((aa .u32 ((aa .u32 (g + i)) + f)) - 1000000000)), 1, Fj (d + 1)) hr ((Wk.iH 5 (b := 0) (es := 1) (len := e.length) (e.set d.toNat (aa .u32 ((aa .u32 ((aa .u32 (g + i)) + f)) - 1000000000))).length (by kernel_rfl) (Eq.symm (List.length_set.trans rfl))).trans ((Wk.gc [0, 1, 5, 6, 17, 18] [(0, false)] rfl (pKo iCu (aD _) (e.set d.toNat (aa .u32 ((aa .u32 ((aa .u32 (g + i)) + f)) - 1000000000))) trivial)).to))
   refine .skip ?_
   obtain ⟨o, hr⟩ := gd hr
   refine .r0 G (.mu 3 (.p0 (v := .hp 0 (0 + d.toNat * 1)) (tr (au o)) (.e0 (v := .unk) (ws := [(0, .own ((e.set d.toNat (aa .u32 ((aa .u32 (g + i)) + f))).flatMap iCu))]) (tr (iD (iJ (cr (n := 1) (aE .u32) (aC o) (lbT rfl) (by omega : 0 + d.toNat * 1 = d.toNat * 1 + 0))) (congrArg Blk.own (cR (xs := [br (aa .u32 ((aa .u32 (g + i)) + f))]) (aE .u32) (aC o) (lbT rfl) (by omega : 0 + d.toNat * 1 = d.toNat * 1 + 0) (by kernel_rfl))))) (.done (.pop (.ru G ?_))))))
   exact aA (e.set d.toNat (aa .u32 ((aa .u32 (g + i)) + f)), 0, Fj (d + 1)) hr ((Wk.iH 5 (b := 0) (es := 1) (len := e.length) (e.set d.toNat (aa .u32 ((aa .u32 (g + i)) + f))).length (by kernel_rfl) (Eq.symm (List.length_set.trans rfl))).trans ((Wk.gc [0, 1, 5, 6, 17, 18] [(0, false)] rfl (pKo iCu (aD _) (e.set d.toNat (aa .u32 ((aa .u32 (g + i)) + f))) trivial)).to))
  refine .leave rfl ?_
  obtain rfl := oi hr
  exact ⟨rfl, ((Wk.gc [5] [(0, false)] rfl (pKo iCu (aD _) e trivial)).to)⟩
 rintro x st' p
 clear q
 obtain ⟨rfl, p⟩ := p
 refine aW _ rfl (.wk p (.seq ?_))
 obtain ⟨u, w, hr⟩ := bd hr
 refine .g1 G (cE (args := [.hs 0 0 j.length 1]) (l := [0]) (SnL.cons (Sn.hs rfl (.inl rfl) (SnC.pure (aY (aD _) _)) (fun h => cJ h)) SnL.nil) (gM n j u w)) (.mu 1 (.ca cf0 (.mu 1 (.done (.ret ?_)))))
 obtain rfl := oi hr
 exact aK.r1 [an u]

theorem mb (n : Nat) (a : List Int) (b : List Int) (r : List Int) (hr : ij n a b = some r) : aL Tryz.prog 192 [an a, an b] (an r) := by
 unfold ij at hr
 refine aL.bd G Tryz.func192 [.tmp 4] ?_
 unfold Tryz.f192
 simp only [gS]
 refine .seq (.r4 G [0, 1] [] (.seq ?_))
 obtain ⟨w, y, A, hr⟩ := gd3 hr
 refine .r0 G (.mu 2 (.e0 (v := .hs 0 0 (List.replicate (a.length : Int).toNat ((0 : Int) : Int)).length 1) (ws := [(0, .own ((List.replicate (a.length : Int).toNat ((0 : Int) : Int)).flatMap iCu))]) (tr (mE (c := iCu) (z := (0 : Int)) (n := (a.length : Int)) (by_ := 4) rfl w y A)) (.mu 1 (.done (.nh [0, 1, 5] [.own ((List.replicate (a.length : Int).toNat ((0 : Int) : Int)).flatMap iCu)] (.seq (.r4 G [0, 1, 5] [(6, br 0)] (.seq (.seq (.r4 G [0, 1, 5, 6] [(13, ae ((List.replicate (a.length : Int).toNat ((0 : Int) : Int)).length : Int)), (14, ae 0)] (.block ?_)))))))))))
 replace hr := bd hr; obtain ⟨j, q, hr⟩ := hr
 refine .aM (σ := fun D => match D with | (e, f, d) => ⟨mkS 50 0 [(0, an a), (1, an b), (5, .hs 0 0 e.length 1), (6, br f), (13, ae ((List.replicate (a.length : Int).toNat ((0 : Int) : Int)).length : Int)), (14, ae d)], [.own (e.flatMap iCu)]⟩) (Q := fun x st' => x = .exit 0 /\ Wk 0 st' ⟨mkS 50 0 [(5, .hs 0 0 j.length 1)], [.own (j.flatMap iCu)]⟩) q ((Wk.gc [0, 1, 5, 6, 13, 14] [(0, false)] rfl (pKo iCu (aD _) (List.replicate (a.length : Int).toNat ((0 : Int) : Int)) trivial)).to) ?_ ?_
 ·clear hr
  rintro m ⟨e, f, d⟩ hr
  show CQ _ _ _ _ _ ⟨_, _⟩
  refine .seq (.r4 G [0, 1, 5, 6, 13, 14] [(15, aB (decide (d < ((List.replicate (a.length : Int).toNat ((0 : Int) : Int)).length : Int))))] (.seq ?_))
  refine .cd hr ?_ ?_ <;> intro B hr
  ·refine .skip (.seq (.block (.seq (.r4 G [0, 1, 5, 6, 13, 14] [(7, ae d)] (.seq ?_)))))
   obtain ⟨g, s, hr⟩ := bd hr
   refine .g1 G (ok0 (mr n b d g s)) (.mu 2 (.ca cf0 (.mu 3 (.done (.nh [0, 1, 5, 7, 8, 13, 14] [.own (e.flatMap iCu)] (.seq (.r4 G [0, 1, 5, 7, 8, 13, 14] [(6, br 0)] (.seq ?_))))))))
   obtain ⟨i, hr⟩ := gd hr
   refine .r0 G (.mu 2 (.p0 (v := .pp (a.flatMap iCu) (d.toNat * 1)) (tr (au i)) (.p0 (v := br (gt a d)) (tr (aG (aH (aE .u32) (aC i) z1 (by omega : d.toNat * 1 = d.toNat * 1 + 0) (by kernel_rfl)))) (.mu 2 (.done (.nh [0, 1, 5, 6, 7, 8, 13, 14, 27] [.own (e.flatMap iCu)] ?_))))))
   refine .cd hr ?_ ?_ <;> intro C hr
   ·obtain ⟨k, hr⟩ := gd hr
    refine .r0 G (.mu 4 (.p0 (v := .pp (a.flatMap iCu) (d.toNat * 1)) (tr (au i)) (.p0 (v := br (gt a d)) (tr (aG (aH (aE .u32) (aC i) z1 (by omega : d.toNat * 1 = d.toNat * 1 + 0) (by kernel_rfl)))) (.mu 3 (.p0 (v := .hp 0 (0 + d.toNat * 1)) (tr (au k)) (.e0 (v := .unk) (ws := [(0, .own ((e.set d.toNat (aa .u32 ((aa .u32 ((gt a d) + 1000000000)) - (aa .u32 (g + f))))).flatMap iCu))]) (tr (iD (iJ (cr (n := 1) (aE .u32) (aC k) (lbT rfl) (by omega : 0 + d.toNat * 1 = d.toNat * 1 + 0))) (congrArg Blk.own (cR (xs := [br (aa .u32 ((aa .u32 ((gt a d) + 1000000000)) - (aa .u32 (g + f))))]) (aE .u32) (aC k) (lbT rfl) (by omega : 0 + d.toNat * 1 = d.toNat * 1 + 0) (by kernel_rfl))))) (.mu 1 (.done (.pop (.ru G ?_))))))))))
    exact aA (e.set d.toNat (aa .u32 ((aa .u32 ((gt a d) + 1000000000)) - (aa .u32 (g + f)))), 1, Fj (d + 1)) hr ((Wk.iH 5 (b := 0) (es := 1) (len := e.length) (e.set d.toNat (aa .u32 ((aa .u32 ((gt a d) + 1000000000)) - (aa .u32 (g + f))))).length (by kernel_rfl) (Eq.symm (List.length_set.trans rfl))).trans ((Wk.gc [0, 1, 5, 6, 13, 14] [(0, false)] rfl (pKo iCu (aD _) (e.set d.toNat (aa .u32 ((aa .u32 ((gt a d) + 1000000000)) - (aa .u32 (g + f))))) trivial)).to))
   obtain ⟨o, hr⟩ := gd hr
   refine .r0 G (.mu 4 (.p0 (v := .pp (a.flatMap iCu) (d.toNat * 1)) (tr (au i)) (.p0 (v := br (gt a d)) (tr (aG (aH (aE .u32) (aC i) z1 (by omega : d.toNat * 1 = d.toNat * 1 + 0) (by kernel_rfl)))) (.mu 2 (.p0 (v := .hp 0 (0 + d.toNat * 1)) (tr (au o)) (.e0 (v := .unk) (ws := [(0, .own ((e.set d.toNat (aa .u32 ((gt a d) - (aa .u32 (g + f))))).flatMap iCu))]) (tr (iD (iJ (cr (n := 1) (aE .u32) (aC o) (lbT rfl) (by omega : 0 + d.toNat * 1 = d.toNat * 1 + 0))) (congrArg Blk.own (cR (xs := [br (aa .u32 ((gt a d) - (aa .u32 (g + f))))]) (aE .u32) (aC o) (lbT rfl) (by omega : 0 + d.toNat * 1 = d.toNat * 1 + 0) (by kernel_rfl))))) (.done (.pop (.ru G ?_)))))))))
   exact aA (e.set d.toNat (aa .u32 ((gt a d) - (aa .u32 (g + f)))), 0, Fj (d + 1)) hr ((Wk.iH 5 (b := 0) (es := 1) (len := e.length) (e.set d.toNat (aa .u32 ((gt a d) - (aa .u32 (g + f))))).length (by kernel_rfl) (Eq.symm (List.length_set.trans rfl))).trans ((Wk.gc [0, 1, 5, 6, 13, 14] [(0, false)] rfl (pKo iCu (aD _) (e.set d.toNat (aa .u32 ((gt a d) - (aa .u32 (g + f))))) trivial)).to))
  refine .leave rfl ?_
  obtain rfl := oi hr
  exact ⟨rfl, ((Wk.gc [5] [(0, false)] rfl (pKo iCu (aD _) e trivial)).to)⟩
 rintro x st' p
 clear q
 obtain ⟨rfl, p⟩ := p
 refine aW _ rfl (.wk p (.seq ?_))
 obtain ⟨t, u, hr⟩ := bd hr
 refine .g1 G (cE (args := [.hs 0 0 j.length 1]) (l := [0]) (SnL.cons (Sn.hs rfl (.inl rfl) (SnC.pure (aY (aD _) _)) (fun h => cJ h)) SnL.nil) (gM n j t u)) (.mu 1 (.ca cf0 (.mu 1 (.done (.ret ?_)))))
 obtain rfl := oi hr
 exact aK.r1 [an t]

theorem jG (n : Nat) (b : ah) (y : ah) (r : ah × ah × Int) (hr : dC n b y = some r) : aL Tryz.prog 160 [.agg (ah.c b), .agg (ah.c y)] (.tup [.agg (ah.c r.1), .agg (ah.c r.2.1), ae r.2.2]) := by
 unfold dC at hr
 refine aL.bd G Tryz.func160 [.cell 4 40, .cell 5 40, .tmp 6] ?_
 unfold Tryz.f160
 simp only [gS]
 refine .seq (.r2 G 55 [(2, .hp 0 0), (3, .hp 1 0), (4, .hp 2 0), (5, .hp 3 0)] [.own (ah.c b), .own (ah.c y), .own [aB false, nS], .own [aB false, nS]] (.seq ?_))
 obtain ⟨H, w, D, x, hr⟩ := bd2 hr
 refine .tn G (ca1 (ok0 (cu n b H w)) (ca3 (ok0 (cu n y D x)))) (.mu 1 (.ca cf0 (.mu 1 (.ca (cfA (fun h => by rw [sv x w (gU n h)]) cf0) (.mu 2 ?_)))))
 refine .done ⟨by kernel_rfl, ?_⟩
 refine .nh [2, 3, 4, 5, 7, 8] [.own (ah.c b), .own (ah.c y), .own [aB false, nS], .own [aB false, nS]] (.seq (.seq (.r4 G [2, 3, 4, 5, 7, 8] [(17, aB (((D.length : Int) : Int) == 0))] ?_)))
 refine .cd hr ?_ ?_ <;> intro I hr
 ·refine .seq (.r4 G [4, 5] [(6, ae 14)] (.ret ?_))
  obtain rfl := oi hr
  exact aK.ret (vs := [.agg [aB false, nS], .agg [aB false, nS], ae 14]) (by kernel_rfl) (Sn.tup (SnL.cons (Sn.agg (Sp (SnL.cons Sn.fR SnL.nil))) (SnL.cons (Sn.agg (Sp (SnL.cons Sn.fR SnL.nil))) (Sp SnL.nil))))
 refine .skip (.seq ?_)
 obtain ⟨u, E, hr⟩ := bd hr
 refine .g1 G (ok0 (mV n H D u E)) (.mu 2 (.ca cf0 (.mu 5 (.done (.nh [2, 3, 4, 5, 8, 9, 10] [.own (ah.c b), .own (ah.c y), .own [aB false, nS], .own [aB false, nS]] (.seq ?_))))))
 obtain ⟨z, F, hr⟩ := bd hr
 refine .g1 G (ok0 (fB n u.2 z F)) (.mu 1 (.ca cf0 (.mu 1 (.done (.nh [2, 3, 4, 5, 8, 9, 10] [.own (ah.c b), .own (ah.c y), .own [aB false, nS], .own [aB false, nS]] (.seq (.seq ?_)))))))
 rcases bT (decide ((z.length : Int) > 0)) with a | a
 ·replace hr := cC a hr
  refine .r0 G (.mu 2 (.p0 (v := aB true) (eB a) (.mu 7 (.done (.nh [2, 3, 4, 5, 8, 9, 10, 37] [.own (ah.c b), .own (ah.c y), .own [aB false, nS], .own [aB false, nS]] ?_)))))
  refine .cd hr ?_ ?_ <;> intro d hr
  ·obtain ⟨v12, A, B, C, hr⟩ := bd2 hr
   refine .gn G (ca2 [.own (ah.c b), .own (ah.c y), .own [aB false, nS], .own [aB false, nS], .own [br 1]] (cE (args := [an u.1, .hs 4 0 1 1]) (l := [4]) (Sp (SnL.cons (Sn.hs rfl (.inl rfl) (SnC.cons (Sn.pure rfl) SnC.nil) (fun h => nomatch h)) SnL.nil)) (qa n u.1 [(1 : Int)] v12 A)) (ca4 [.own (ah.c b), .own (ah.c y), .own [aB false, nS], .own [aB false, nS], .fix [br 1]] (ok0 (mb n D z B C)))) (.mu 2 (.ca cf0 (.mu 2 (.ca (cfF cf0) (.mu 2 (.done (.nh [2, 3, 4, 5, 9, 10] [.own (ah.c b), .own (ah.c y), .own [aB false, nS], .own [aB false, nS], .fix [br 1]] (.seq ?_))))))))
   obtain ⟨m, e, o, f, hr⟩ := bd2 hr
   refine .tn G (ca1 (ok0 (b9 n true v12 m e)) (ca3 (ok0 (b9 n y.Negative B o f)))) (.mu 4 (.pk (v := aB true) (eB d) (.mu 1 (.ca cf0 (.mu 3 (.ca (cfA (fun h => by rw [sv f e (mZ n h)]) cf0) (.mu 3 ?_)))))))
   refine .done ⟨by kernel_rfl, ?_⟩
   refine .nh [4, 5, 6] [.own (ah.c b), .own (ah.c y), .own (ah.c m), .own (ah.c o), .fix [br 1]] (.ret ?_)
   obtain rfl := oi hr
   exact aK.ret (vs := [.agg (ah.c m), .agg (ah.c o), ae 0]) (by kernel_rfl) (Sn.tup (Sp (Sp (Sp SnL.nil))))
  refine .skip (.seq ?_)
  obtain ⟨p, g, q, i, hr⟩ := bd2 hr
  refine .tn G (ca1 (ok0 (b9 n false u.1 p g)) (ca3 (ok0 (b9 n y.Negative z q i)))) (.mu 4 (.pk (v := aB false) (eB d) (.mu 1 (.ca cf0 (.mu 3 (.ca (cfA (fun h => by rw [sv i g (mZ n h)]) cf0) (.mu 3 ?_)))))))
  refine .done ⟨by kernel_rfl, ?_⟩
  refine .nh [4, 5, 6] [.own (ah.c b), .own (ah.c y), .own (ah.c p), .own (ah.c q)] (.ret ?_)
  obtain rfl := oi hr
  exact aK.ret (vs := [.agg (ah.c p), .agg (ah.c q), ae 0]) (by kernel_rfl) (Sn.tup (Sp (Sp (Sp SnL.nil))))
 replace hr := cB a hr
 refine .r0 G (.mu 2 (.p0 (v := aB false) (eB a) (.mu 7 (.done (.nh [2, 3, 4, 5, 8, 9, 10, 37] [.own (ah.c b), .own (ah.c y), .own [aB false, nS], .own [aB false, nS]] (.cF (by kernel_rfl) (.skip (.seq ?_))))))))
 obtain ⟨s, j, t, k, hr⟩ := bd2 hr
 refine .tn G (ca1 (ok0 (b9 n (b.Negative != y.Negative) u.1 s j)) (ca3 (ok0 (b9 n y.Negative z t k)))) (.mu 6 (.ca cf0 (.mu 3 (.ca (cfA (fun h => by rw [sv k j (mZ n h)]) cf0) (.mu 3 ?_)))))
 refine .done ⟨by kernel_rfl, ?_⟩
 refine .nh [4, 5, 6] [.own (ah.c b), .own (ah.c y), .own (ah.c s), .own (ah.c t)] (.ret ?_)
 obtain rfl := oi hr
 exact aK.ret (vs := [.agg (ah.c s), .agg (ah.c t), ae 0]) (by kernel_rfl) (Sn.tup (Sp (Sp (Sp SnL.nil))))

theorem iw (n : Nat) (num : ah) (den : ah) (r : ai) (hr : eE n num den = some r) : aL Tryz.prog 122 [.agg (ah.c num), .agg (ah.c den)] (.agg (ai.c r)) := by
 unfold eE at hr
 refine aL.bd G Tryz.func122 [.cell 4 42] ?_
 unfold Tryz.f122
 simp only [gS]
 refine .seq (.r2 G 33 [(2, .hp 0 0), (3, .hp 1 0), (4, .hp 2 0)] [.own (ah.c num), .own (ah.c den), .own zN2] (.seq (.seq ?_)))
 obtain ⟨u, s, hr⟩ := bd hr
 refine .g1 G (ok0 (fM n den u s)) (.mu 1 (.ca cf0 (.mu 1 (.done (.nh [2, 3, 4, 8] [.own (ah.c num), .own (ah.c den), .own zN2] ?_)))))
 refine .cd hr ?_ ?_ <;> intro v hr
 ·obtain ⟨i, j, g, k, hr⟩ := bd2 hr
  refine .tn G (ca1 (ok0 (gl n num i j)) (ca3 (ok0 (gl n den g k)))) (.mu 1 (.ca cf0 (.mu 1 (.ca (cfA (fun h => by rw [sv k j (gv n h)]) cf0) (.mu 2 ?_)))))
  refine .done ⟨by kernel_rfl, ?_⟩
  refine .nh [2, 3, 4] [.own (ah.c i), .own (ah.c g), .own zN2] (.seq ?_)
  obtain ⟨f, t, hr⟩ := bd hr
  refine .g1 G (ok0 (nN n i g f t)) (.mu 2 (.ca cf0 (.mu 2 (.done (.nh [2, 3, 4, 5] [.own (ah.c i), .own (ah.c g), .own zN2, .own (ah.c f)] (.seq ?_))))))
  obtain ⟨a, l, hr⟩ := bd hr
  refine .g1 G (ok0 (jG n i f a l)) (.mu 2 (.ca cf0 (.mu 5 (.done (.nh [2, 3, 4, 5] [.own (ah.c a.1), .own (ah.c g), .own zN2, .own (ah.c f)] (.seq ?_))))))
  obtain ⟨v12, m, hr⟩ := bd hr
  refine .g1 G (ok0 (jG n g f v12 m)) (.mu 2 (.ca cf0 (.mu 5 (.done (.nh [2, 3, 4] [.own (ah.c a.1), .own (ah.c v12.1), .own zN2, .own (ah.c f)] (.seq (.r5 G [4] [] [.own (ah.c a.1), .own (ah.c v12.1), .own [aB a.1.Negative, an a.1.Groups, aB v12.1.Negative, an v12.1.Groups], .own (ah.c f)] (.ret ?_))))))))
  obtain rfl := oi hr
  exact aK.r1 [.agg [aB a.1.Negative, an a.1.Groups, aB v12.1.Negative, an v12.1.Groups]]
 refine .skip (.seq ?_)
 obtain ⟨d, o, hr⟩ := bd hr
 refine .g1 G (ok0 (nN n num den d o)) (.mu 2 (.ca cf0 (.mu 2 (.done (.nh [2, 3, 4, 5] [.own (ah.c num), .own (ah.c den), .own zN2, .own (ah.c d)] (.seq ?_))))))
 obtain ⟨b, p, hr⟩ := bd hr
 refine .g1 G (ok0 (jG n num d b p)) (.mu 2 (.ca cf0 (.mu 5 (.done (.nh [2, 3, 4, 5] [.own (ah.c b.1), .own (ah.c den), .own zN2, .own (ah.c d)] (.seq ?_))))))
 obtain ⟨e, q, hr⟩ := bd hr
 refine .g1 G (ok0 (jG n den d e q)) (.mu 2 (.ca cf0 (.mu 5 (.done (.nh [2, 3, 4] [.own (ah.c b.1), .own (ah.c e.1), .own zN2, .own (ah.c d)] (.seq (.r5 G [4] [] [.own (ah.c b.1), .own (ah.c e.1), .own [aB b.1.Negative, an b.1.Groups, aB e.1.Negative, an e.1.Groups], .own (ah.c d)] (.ret ?_))))))))
 obtain rfl := oi hr
 exact aK.r1 [.agg [aB b.1.Negative, an b.1.Groups, aB e.1.Negative, an e.1.Groups]]
end Go.L
