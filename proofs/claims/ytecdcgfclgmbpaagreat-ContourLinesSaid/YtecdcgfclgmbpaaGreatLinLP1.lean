
import Derived.Test.YtecdcgfclgmbpaaGreatLinLD
import Derived.Test.YtecdcgfclgmbpaaGreatL0Lins
import Derived.Test.YtecdcgfclgmbpaaGreatSortCLins
import Derived.Test.YtecdcgfclgmbpaaGreatSortKLins
import Derived.Test.YtecdcgfclgmbpaaGreatChecked
import Derived.KernelRfl
set_option linter.all false
set_option maxRecDepth 100000
set_option maxHeartbeats 4000000
namespace Go.L
open Go Go.Eng Go.Proofs
theorem fl (n : Nat) (r : al) (hr : cY n = some r) : aO Tryz.prog 43 [] (.agg (al.c r)) := by
 unfold cY at hr
 refine aO.bd G Tryz.func43 [.cell 0 24] ?_
 unfold Tryz.f43
 simp only [gS]
 refine .seq (.r2 G 3 [(0, .hp 0 0)] [.own [ag 0, ag 0, ag 0, ag 0, ag 0, nS]] (.seq (.r5 G [0] [] [.own [ag 0, ag 0, ag 2, ag 3, ag 3, .hs 1 0 9 1], .own [ag 0, ag 0, ag 0, ag 0, ag 4, ag 0, ag 0, ag 0, ag 0]] (.ret ?_))))
 obtain rfl := oi hr
 exact aK.ret (vs := [.agg [ag 0, ag 0, ag 2, ag 3, ag 3, .hs 1 0 9 1]]) kRf (Sn.agg (Sp (Sp (Sp (Sp (Sp (SnL.cons (Sn.hs rfl (.inl rfl) (SnC.cons (Sn.pure rfl) (SnC.cons (Sn.pure rfl) (SnC.cons (Sn.pure rfl) (SnC.cons (Sn.pure rfl) (SnC.cons (Sn.pure rfl) (SnC.cons (Sn.pure rfl) (SnC.cons (Sn.pure rfl) (SnC.cons (Sn.pure rfl) (SnC.cons (Sn.pure rfl) SnC.nil))))))))) (fun h => nomatch h)) SnL.nil)))))))

theorem eN {b : Int} {a : Int} (h : ([.at (.int .i64 b)] : List AV) = [.at (.int .i64 a)]) : b = a := by
 simp only [List.cons.injEq, AV.agg.injEq, AV.at.injEq, Value.int.injEq, Value.bool.injEq, AV.fn.injEq, AV.pp.injEq, true_and, and_true] at h
 simp_all
theorem fh (n : Nat) {b : Int} {a : Int} (h : ([.at (.int .i64 b)] : List AV) = [.at (.int .i64 a)]) : eR n b = eR n a := by
 obtain rfl := eN h
 rfl
theorem bH (n : Nat) (b : Int) (r : Bool) (hr : eR n b = some r) : aO Tryz.prog 103 [ag b] (aB r) := by
 unfold eR at hr
 refine aO.bd G Tryz.func103 [.tmp 2] ?_
 unfold Tryz.f103
 simp only [gS]
 refine .seq (.r4 G [0] [] (.seq ?_))
 rcases bT (decide (b >= 2)) with a | a
 ·replace hr := cg a hr
  refine .r0 G (.mu 1 (.p0 (v := aB true) (eB a) (.mu 5 (.done (.ret ?_)))))
  obtain rfl := oi hr
  exact aK.r1 [aB (decide (b <= 64))]
 replace hr := ch a hr
 refine .r0 G (.mu 1 (.p0 (v := aB false) (eB a) (.mu 5 (.done (.ret ?_)))))
 obtain rfl := oi hr
 exact aK.r1 [aB false]

theorem u5 (n : Nat) {b : Int} {a : Int} (h : ([.at (.int .i64 b)] : List AV) = [.at (.int .i64 a)]) : iB n b = iB n a := by
 obtain rfl := eN h
 rfl
theorem kD (n : Nat) (b : Int) (r : Bool) (hr : iB n b = some r) : aO Tryz.prog 104 [ag b] (aB r) := by
 unfold iB at hr
 refine aO.bd G Tryz.func104 [.tmp 2] ?_
 unfold Tryz.f104
 simp only [gS]
 refine .seq (.r4 G [0] [] (.seq ?_))
 rcases bT (decide (b < (-1048576))) with a | a
 ·replace hr := cg a hr
  refine .r0 G (.mu 1 (.p0 (v := aB true) (eB a) (.mu 5 (.done (.ret ?_)))))
  obtain rfl := oi hr
  exact aK.r1 [aB true]
 replace hr := ch a hr
 refine .r0 G (.mu 1 (.p0 (v := aB false) (eB a) (.mu 5 (.done (.ret ?_)))))
 obtain rfl := oi hr
 exact aK.r1 [aB (decide (b > 1048576))]

theorem r9 (n : Nat) (z : Int) (r : Bool) (hr : iS n z = some r) : aO Tryz.prog 106 [ag z] (aB r) := by
 unfold iS at hr
 refine aO.bd G Tryz.func106 [.tmp 2] ?_
 unfold Tryz.f106
 simp only [gS]
 refine .seq (.r4 G [0] [] (.seq ?_))
 rcases bT ((z : Int) != (-2147483648)) with a | a
 ·replace hr := cg a hr
  obtain ⟨c, b, hr⟩ := bd hr
  refine .g1 G (ok0 (kD n z c b)) (.mu 1 (.p0 (v := aB true) (eB a) (.mu 2 (.ca cf0 (.mu 2 (.done (.ret ?_)))))))
  obtain rfl := oi hr
  exact aK.r1 [aB c]
 replace hr := ch a hr
 refine .r0 G (.mu 1 (.p0 (v := aB false) (eB a) (.mu 5 (.done (.ret ?_)))))
 obtain rfl := oi hr
 exact aK.r1 [aB false]

theorem gT (n : Nat) (s : List Int) (r : Int) (hr : bW n s = some r) : aO Tryz.prog 146 [bE s, .fn 106 [] []] (ag r) := by
 unfold bW at hr
 refine aO.bd G Tryz.func146 [.tmp 4] ?_
 unfold Tryz.f146
 simp only [gS]
 refine .seq (.r4 G [0, 1] [] (.seq (.seq (.r4 G [0, 1] [(7, ag (s.length : Int)), (8, ag 0)] (.block ?_)))))
 replace hr := bd hr; obtain ⟨d, c, hr⟩ := hr
 refine .aN (σ := fun i => match i with | a => ⟨mkS 19 0 [(0, bE s), (1, .fn 106 [] []), (7, ag (s.length : Int)), (8, ag a)], []⟩) (Q := fun x st' => match (generalizing := false) d with | .inl _ => x = .exit 0 /\ Wk 0 st' ⟨mkS 19 0 [], []⟩ | .inr (r0) => x = .ret /\ aK Tryz.prog [.tmp 4] (ag r0) .ret st') c ((Wk.gc [0, 1, 7, 8] [] rfl pK0).to) ?_ ?_
 ·clear hr
  rintro m a hr
  refine CQ.sh ?_
  refine .seq (.r4 G [0, 1, 7, 8] [(9, aB (decide (a < (s.length : Int))))] (.seq ?_))
  refine .cd hr ?_ ?_ <;> intro j hr
  ·refine .skip (.seq (.block (.seq (.r4 G [0, 1, 7, 8] [(5, ag a)] (.seq ?_)))))
   obtain ⟨e, hr⟩ := gd hr
   obtain ⟨g, f, hr⟩ := bd hr
   refine .g1 G (ok0 (r9 n (gt s a) g f)) (.mu 3 (.p0 (v := .pp (s.flatMap (iC .i64)) (a.toNat * 1)) (tr (au e)) (.p0 (v := ag (gt s a)) (tr (aE (aF (aG .i64) (aC e) z1 (by omega : a.toNat * 1 = a.toNat * 1 + 0) kRf))) (.ca cf0 (.done (.nh [0, 1, 5, 7, 8, 16] [] ?_))))))
   refine .cd hr ?_ ?_ <;> intro h hr
   ·refine .seq (.ru G (.ret ?_))
    obtain rfl := oi hr
    exact ⟨rfl, aK.ret (vs := [ag a]) kRf (Sn.pure rfl)⟩
   refine .skip (.pop (.ru G ?_))
   exact av (FK (a + 1)) hr ((Wk.gc [0, 1, 7, 8] [] rfl pK0).to)
  refine .leave rfl ?_
  obtain rfl := oi hr
  exact ⟨rfl, ((Wk.gc [] [] rfl pK0).to)⟩
 rcases d with ⟨⟩ | r0
 ·rintro x st' b
  clear c
  obtain ⟨rfl, b⟩ := b
  refine aW _ rfl (.wk b (.seq (.ru G (.ret ?_))))
  obtain rfl := oi hr
  exact aK.r1 [ag (-1)]
 rintro x st' b
 clear c
 obtain ⟨rfl, b⟩ := b
 obtain rfl := oi hr
 exact iM _ b

theorem gr (n : Nat) (s : List Int) (r : Bool) (hr : bh n s = some r) : aO Tryz.prog 105 [bE s, .fn 106 [] []] (aB r) := by
 unfold bh at hr
 refine aO.bd G Tryz.func105 [.tmp 4] ?_
 unfold Tryz.f105
 simp only [gS]
 refine .seq (.r4 G [0, 1] [] (.seq ?_))
 obtain ⟨b, a, hr⟩ := bd hr
 refine .g1 G (ok0 (gT n s b a)) (.mu 2 (.ca cf0 (.mu 2 (.done (.ret ?_)))))
 obtain rfl := oi hr
 exact aK.r1 [aB (decide (b >= 0))]

theorem ow (n : Nat) (g : al) (r : Int) (hr : iW n g = some r) : aO Tryz.prog 58 [.agg (al.c g)] (ag r) := by
 unfold iW at hr
 refine aO.bd G Tryz.func58 [.tmp 2] ?_
 unfold Tryz.f58
 simp only [gS]
 refine .seq (.r2 G 54 [(1, .hp 0 0)] [.own (al.c g)] (.seq (.r4 G [1] [(3, .fn 103 [] [])] (.seq (.seq ?_)))))
 obtain ⟨m, a, hr⟩ := bd hr
 rcases bT (!m) with d | d
 ·replace hr := cg d hr
  refine .g1 G (ok0 (bH n g.Width m a)) (.mu 3 (.ca cf0 (.p0 (v := aB true) (eB d) (.mu 33 (.done (.nh [1, 41] [.own (al.c g)] (.cT kRf (.seq (.ru G (.ret ?_))))))))))
  obtain rfl := oi hr
  exact aK.r1 [ag 2]
 replace hr := ch d hr
 obtain ⟨p, b, hr⟩ := bd hr
 rcases bT (!p) with e | e
 ·replace hr := cg e hr
  refine .gn G (ca1 (ok0 (bH n g.Width m a)) (ca3 (ok0 (bH n g.Height p b)))) (.mu 3 (.ca cf0 (.p0 (v := aB false) (eB d) (.mu 4 (.ca (cfA (fun h => by rw [sv b a (fh n h)]) cf0) (.pure (v := aB true) kRf (eB e) (.mu 27 (.done (.nh [1, 41] [.own (al.c g)] (.cT kRf (.seq (.ru G (.ret ?_)))))))))))))
  obtain rfl := oi hr
  exact aK.r1 [ag 2]
 replace hr := ch e hr
 rcases bT (decide (g.Step < 2)) with f | f
 ·replace hr := cg f hr
  refine .gn G (ca1 (ok0 (bH n g.Width m a)) (ca3 (ok0 (bH n g.Height p b)))) (.mu 3 (.ca cf0 (.p0 (v := aB false) (eB d) (.mu 4 (.ca (cfA (fun h => by rw [sv b a (fh n h)]) cf0) (.pure (v := aB false) kRf (eB e) (.mu 4 (.pure (v := aB true) kRf (eB f) (.mu 22 (.done (.nh [1, 41] [.own (al.c g)] (.cT kRf (.seq (.ru G (.ret ?_)))))))))))))))
  obtain rfl := oi hr
  exact aK.r1 [ag 2]
 replace hr := ch f hr
 rcases bT (decide (g.Step > 65536)) with i | i
 ·replace hr := cg i hr
  refine .gn G (ca1 (ok0 (bH n g.Width m a)) (ca3 (ok0 (bH n g.Height p b)))) (.mu 3 (.ca cf0 (.p0 (v := aB false) (eB d) (.mu 4 (.ca (cfA (fun h => by rw [sv b a (fh n h)]) cf0) (.pure (v := aB false) kRf (eB e) (.mu 4 (.pure (v := aB false) kRf (eB f) (.mu 4 (.pure (v := aB true) kRf (eB i) (.mu 17 (.done (.nh [1, 41] [.own (al.c g)] (.cT kRf (.seq (.ru G (.ret ?_)))))))))))))))))
  obtain rfl := oi hr
  exact aK.r1 [ag 2]
 replace hr := ch i hr
 rcases bT (((g.Step.tmod 2) : Int) != 0) with j | j
 ·replace hr := cg j hr
  refine .gn G (ca1 (ok0 (bH n g.Width m a)) (ca3 (ok0 (bH n g.Height p b)))) (.mu 3 (.ca cf0 (.p0 (v := aB false) (eB d) (.mu 4 (.ca (cfA (fun h => by rw [sv b a (fh n h)]) cf0) (.pure (v := aB false) kRf (eB e) (.mu 4 (.pure (v := aB false) kRf (eB f) (.mu 4 (.pure (v := aB false) kRf (eB i) (.mu 5 (.pure (v := aB true) kRf (eB j) (.mu 11 (.done (.nh [1, 41] [.own (al.c g)] (.cT kRf (.seq (.ru G (.ret ?_)))))))))))))))))))
  obtain rfl := oi hr
  exact aK.r1 [ag 2]
 replace hr := ch j hr
 obtain ⟨s, k, hr⟩ := bd hr
 rcases bT s with l | l
 ·subst l
  replace hr := cg rfl hr
  refine .gn G (ca1 (ok0 (bH n g.Width m a)) (ca1 (ok0 (bH n g.Height p b)) (ca3 (ok0 (kD n g.X0 true k))))) (.mu 3 (.ca cf0 (.p0 (v := aB false) (eB d) (.mu 4 (.ca (cfA (fun h => by rw [sv b a (fh n h)]) cf0) (.pure (v := aB false) kRf (eB e) (.mu 4 (.pure (v := aB false) kRf (eB f) (.mu 4 (.pure (v := aB false) kRf (eB i) (.mu 5 (.pure (v := aB false) kRf (eB j) (.mu 4 (.ca (cfF (cfF cf0)) (.mu 6 (.done (.nh [1, 41] [.own (al.c g)] (.cT kRf (.seq (.ru G (.ret ?_)))))))))))))))))))))
  obtain rfl := oi hr
  exact aK.r1 [ag 2]
 subst l
 replace hr := ch rfl hr
 obtain ⟨t, o, hr⟩ := bd hr
 refine .gn G (ca1 (ok0 (bH n g.Width m a)) (ca1 (ok0 (bH n g.Height p b)) (ca1 (ok0 (kD n g.X0 false k)) (ca3 (ok0 (kD n g.Y0 t o)))))) (.mu 3 (.ca cf0 (.p0 (v := aB false) (eB d) (.mu 4 (.ca (cfA (fun h => by rw [sv b a (fh n h)]) cf0) (.pure (v := aB false) kRf (eB e) (.mu 4 (.pure (v := aB false) kRf (eB f) (.mu 4 (.pure (v := aB false) kRf (eB i) (.mu 5 (.pure (v := aB false) kRf (eB j) (.mu 4 (.ca (cfF (cfF cf0)) (.mu 4 (.ca (cfF (cfF (cfA (fun h => by rw [sv o k (u5 n h)]) cf0))) (.mu 1 (.done (.nh [1, 41] [.own (al.c g)] ?_)))))))))))))))))))
 refine .cd hr ?_ ?_ <;> intro w hr
 ·refine .seq (.ru G (.ret ?_))
  obtain rfl := oi hr
  exact aK.r1 [ag 2]
 refine .skip (.seq (.seq (.r4 G [1] [(50, aB (((g.Z.length : Int) : Int) != (FK (g.Width * g.Height))))] ?_)))
 refine .cd hr ?_ ?_ <;> intro x hr
 ·refine .seq (.ru G (.ret ?_))
  obtain rfl := oi hr
  exact aK.r1 [ag 4]
 refine .skip (.seq (.seq ?_))
 obtain ⟨u, q, hr⟩ := bd hr
 refine .g1 G (ok0 (gr n g.Z u q)) (.mu 2 (.ca cf0 (.done (.nh [53] [.own (al.c g)] ?_))))
 refine .cd hr ?_ ?_ <;> intro y hr
 ·refine .seq (.ru G (.ret ?_))
  obtain rfl := oi hr
  exact aK.r1 [ag 2]
 refine .skip (.seq (.ru G (.ret ?_)))
 obtain rfl := oi hr
 exact aK.r1 [ag 0]

theorem je (n : Nat) (g : al) (level : Int) (r : Int) (hr : dT n g level = some r) : aO Tryz.prog 44 [.agg (al.c g), ag level] (ag r) := by
 unfold dT at hr
 refine aO.bd G Tryz.func44 [.tmp 4] ?_
 unfold Tryz.f44
 simp only [gS]
 refine .seq (.r5 G [1] [(2, .hp 0 0)] [.own (al.c g)] (.seq (.seq ?_)))
 obtain ⟨b, d, hr⟩ := bd hr
 refine .g1 G (ok0 (ow n g b d)) (.mu 1 (.ca cf0 (.mu 1 (.done (.nh [1, 5] [.own (al.c g)] (.seq (.r4 G [1, 5] [(9, aB ((b : Int) != 0))] ?_)))))))
 refine .cd hr ?_ ?_ <;> intro e hr
 ·refine .seq (.ru G (.ret ?_))
  obtain rfl := oi hr
  exact aK.r1 [ag b]
 refine .skip (.seq (.seq (.r4 G [1] [(13, aB (((level.tmod 2) : Int) == 0))] ?_)))
 refine .cd hr ?_ ?_ <;> intro f hr
 ·refine .seq (.ru G (.ret ?_))
  obtain rfl := oi hr
  exact aK.r1 [ag 1]
 refine .skip (.seq (.seq ?_))
 rcases bT (decide (level < (-2097153))) with a | a
 ·replace hr := cg a hr
  refine .r0 G (.mu 1 (.p0 (v := aB true) (eB a) (.mu 4 (.done (.nh [19] [.own (al.c g)] (.cT kRf (.seq (.ru G (.ret ?_)))))))))
  obtain rfl := oi hr
  exact aK.r1 [ag 2]
 replace hr := ch a hr
 refine .r0 G (.mu 1 (.p0 (v := aB false) (eB a) (.mu 4 (.done (.nh [19] [.own (al.c g)] ?_)))))
 refine .cd hr ?_ ?_ <;> intro h hr
 ·refine .seq (.ru G (.ret ?_))
  obtain rfl := oi hr
  exact aK.r1 [ag 2]
 refine .skip (.seq (.ru G (.ret ?_)))
 obtain rfl := oi hr
 exact aK.r1 [ag 0]

theorem rl {k : Int} {p : Int} {n : Int} {l : Int} {i : Int} {f : Int} {d : List Int} {b : Int} {o : Int} {q : Int} {m : Int} {j : Int} {g : Int} {e : Int} {c : List Int} {a : Int} (h : ([.at (.int .i64 k), .pp [.at (.int .i64 p), .at (.int .i64 n), .at (.int .i64 l), .at (.int .i64 i), .at (.int .i64 f), slT (iC .i64) d] 0, .pp [.at (.int .i64 b)] 0] : List AV) = [.at (.int .i64 o), .pp [.at (.int .i64 q), .at (.int .i64 m), .at (.int .i64 j), .at (.int .i64 g), .at (.int .i64 e), slT (iC .i64) c] 0, .pp [.at (.int .i64 a)] 0]) : k = o /\ p = q /\ n = m /\ l = j /\ i = g /\ f = e /\ d = c /\ b = a := by
 simp only [List.cons.injEq, AV.agg.injEq, AV.at.injEq, Value.int.injEq, Value.bool.injEq, AV.fn.injEq, AV.pp.injEq, true_and, and_true, dV] at h
 simp_all
theorem nt (n : Nat) {k : Int} {p : Int} {o : Int} {l : Int} {i : Int} {f : Int} {d : List Int} {b : Int} {q : Int} {r : Int} {m : Int} {j : Int} {g : Int} {e : Int} {c : List Int} {a : Int} (h : ([.at (.int .i64 k), .pp [.at (.int .i64 p), .at (.int .i64 o), .at (.int .i64 l), .at (.int .i64 i), .at (.int .i64 f), slT (iC .i64) d] 0, .pp [.at (.int .i64 b)] 0] : List AV) = [.at (.int .i64 q), .pp [.at (.int .i64 r), .at (.int .i64 m), .at (.int .i64 j), .at (.int .i64 g), .at (.int .i64 e), slT (iC .i64) c] 0, .pp [.at (.int .i64 a)] 0]) : di n k p o l i f d b = di n q r m j g e c a := by
 obtain ⟨rfl, rfl, rfl, rfl, rfl, rfl, rfl, rfl⟩ := rl h
 rfl
theorem fg (n : Nat) (k : Int) (p : Int) (g : Int) (e : Int) (d : Int) (c : Int) (a : List Int) (b : Int) (r : Bool) (hr : di n k p g e d c a b = some r) : aO Tryz.prog 88 [ag k, .pp [ag p, ag g, ag e, ag d, ag c, bE a] 0, .pp [ag b] 0] (aB r) := by
 unfold di at hr
 refine aO.bd G Tryz.func88 [.tmp 4] ?_
 unfold Tryz.f88
 simp only [gS]
 refine .seq (.r4 G [0, 1, 2] [] (.seq ?_))
 obtain ⟨f, hr⟩ := gd hr
 refine .dS G bF (.mu 3 (.pk (v := .pp (a.flatMap (iC .i64)) (k.toNat * 1)) (tr (au f)) (.pk (v := ag (gt a k)) (tr (aE (aF (aG .i64) (aC f) z1 (by omega : k.toNat * 1 = k.toNat * 1 + 0) kRf))) (.mu 4 ?_))))
 refine .done (kRa ?_)
 refine .ret ?_
 obtain rfl := oi hr
 exact aK.r1 [aB (decide ((FK (2 * (gt a k))) > b))]

theorem nC (n : Nat) (a : Int) (b : Int) (r : A2 Int) (hr : kN n a b = some r) : aO Tryz.prog 91 [ag a, ag b] (.agg (aj.c r)) := by
 unfold kN at hr
 refine aO.bd G Tryz.func91 [.cell 4 101] ?_
 unfold Tryz.f91
 simp only [gS]
 refine .seq (.r5 G [0, 1] [(4, .hp 0 0)] [.own [ag 0, ag 0]] (.seq (.r5 G [4] [] [.own [ag (mn a b), ag (mx a b)]] (.ret ?_))))
 obtain rfl := oi hr
 exact aK.r1 [.agg [ag (mn a b), ag (mx a b)]]

theorem qJ (n : Nat) (t : A3 Int) (c : Int) (F : Int) (q : Int) (i : Int) (d : Int) (b : List Int) (a : Int) (p : List (A2 Int × A2 Int)) (E : List (A2 Int × Bool)) (r : List (A2 Int × A2 Int) × List (A2 Int × Bool)) (hr : fz n t c F q i d b a p E = some r) : dK 5 Tryz.prog 90 [.agg (ar.c t), .hp 0 0, .hp 3 0, .hp 4 0] [.own [.fn 88 [] [.hp 1 0, .hp 2 0]], .own [ag c, ag F, ag q, ag i, ag d, bE b], .own [ag a], .own [.mp 5], .own [.mp 6], .map (p.map (mpK an.K (gA aj.c))), .map (E.map (mpK an.K bA))] (.tup []) [.own [.fn 88 [] [.hp 1 0, .hp 2 0]], .own [ag c, ag F, ag q, ag i, ag d, bE b], .own [ag a], .own [.mp 5], .own [.mp 6], .map (r.1.map (mpK an.K (gA aj.c))), .map (r.2.map (mpK an.K bA))] := by
 unfold fz at hr
 refine dK.qf G Tryz.func90 (c := (Tryz.f90.body).getD .skip) rfl (us := []) (s := mkS 55 0 [(0, .agg (ar.c t)), (1, .hp 0 0), (2, .hp 3 0), (3, .hp 4 0)]) kRf (rs := []) rfl ?_
 unfold Tryz.f90
 simp only [gS]
 refine .seq (.r5 G [1, 2, 3] [(4, .hp 7 0)] [.own [.fn 88 [] [.hp 1 0, .hp 2 0]], .own [ag c, ag F, ag q, ag i, ag d, bE b], .own [ag a], .own [.mp 5], .own [.mp 6], .map (p.map (mpK an.K (gA aj.c))), .map (E.map (mpK an.K bA)), .own (ar.c t)] (.seq (.r5 G [1, 2, 3, 4] [(5, .hp 8 0), (6, .hp 9 0)] [.own [.fn 88 [] [.hp 1 0, .hp 2 0]], .own [ag c, ag F, ag q, ag i, ag d, bE b], .own [ag a], .own [.mp 5], .own [.mp 6], .map (p.map (mpK an.K (gA aj.c))), .map (E.map (mpK an.K bA)), .own (ar.c t), .own [ag 0, ag 0], .own [ag 0, ag 0]] (.seq (.r4 G [1, 2, 3, 4, 5, 6] [(7, aB false)] (.seq (.seq (.r4 G [1, 2, 3, 4, 5, 6, 7] [(11, ag 0)] (.block ?_)))))))))
 replace hr := bd hr; obtain ⟨jQ, T, hr⟩ := hr
 refine .aN (σ := fun z0 => match z0 with | (z, A, B, C, H, g) => ⟨mkS 55 0 [(1, .hp 0 0), (2, .hp 3 0), (3, .hp 4 0), (4, .hp 7 0), (5, .hp 8 0), (6, .hp 9 0), (7, aB H), (11, ag g)], [.own [.fn 88 [] [.hp 1 0, .hp 2 0]], .own [ag c, ag F, ag q, ag i, ag d, bE b], .own [ag a], .own [.mp 5], .own [.mp 6], .map (p.map (mpK an.K (gA aj.c))), .map (E.map (mpK an.K bA)), .own (ar.c t), .own [ag z, ag A], .own [ag B, ag C]]⟩) (Q := fun x st' => match (generalizing := false) jQ with | (u, w, j, o, J) => x = .exit 0 /\ Wk 5 st' ⟨mkS 55 0 [(2, .hp 3 0), (3, .hp 4 0), (5, .hp 7 0), (6, .hp 8 0), (7, aB J)], [.own [.fn 88 [] [.hp 1 0, .hp 2 0]], .own [ag c, ag F, ag q, ag i, ag d, bE b], .own [ag a], .own [.mp 5], .own [.mp 6], .map (p.map (mpK an.K (gA aj.c))), .map (E.map (mpK an.K bA)), .own [ag u, ag w], .own [ag j, ag o]]⟩) T ((Wk.gc [1, 2, 3, 4, 5, 6, 7, 11] [(0, true), (1, true), (2, true), (3, true), (4, true), (5, false), (6, false), (7, true), (8, true), (9, true)] rfl (pKt (pKt (pKt (pKt (pKt (pKM an.K (gA aj.c) (fun _ => rfl) p (pKM an.K bA (fun _ => rfl) E trivial)))))))).to) ?_ ?_
 ·clear hr
  rintro m ⟨z, A, B, C, H, g⟩ hr
  refine CQ.sh ?_
  refine .seq (.r4 G [1, 2, 3, 4, 5, 6, 7, 11] [(12, aB (decide (g < 3)))] (.seq ?_))
  refine .cd hr ?_ ?_ <;> intro nw hr
  ·refine .skip (.seq (.block (.seq (.r4 G [1, 2, 3, 4, 5, 6, 7, 11] [(8, ag g)] (.seq ?_)))))
   obtain ⟨U, V, hr⟩ := gd2 hr
   refine .dS G bF (.mu 1 (.pk (v := .hp 7 (0 + g.toNat * 1)) (tr (au U)) (.pk (v := ag (A3.get t g)) (tr (y := br.ofP ((ar.c t)[0 + g.toNat * 1]?)) (aE (tf (k := .i64) (kk := 0) (xs := [t.e0, t.e1, t.e2]) U rfl kRf))) (.mu 3 (.pk (v := .hp 7 (0 + ((FK (g + 1)).tmod 3).toNat * 1)) (tr (au V)) (.pk (v := ag (A3.get t ((FK (g + 1)).tmod 3))) (tr (y := br.ofP ((ar.c t)[0 + ((FK (g + 1)).tmod 3).toNat * 1]?)) (aE (tf (k := .i64) (kk := 0) (xs := [t.e0, t.e1, t.e2]) V rfl kRf))) (.mu 2 ?_)))))))
   refine .done (kRa ?_)
   refine .nh [1, 2, 3, 4, 5, 6, 7, 9, 10, 11] [.own [.fn 88 [] [.hp 1 0, .hp 2 0]], .own [ag c, ag F, ag q, ag i, ag d, bE b], .own [ag a], .own [.mp 5], .own [.mp 6], .map (p.map (mpK an.K (gA aj.c))), .map (E.map (mpK an.K bA)), .own (ar.c t), .own [ag z, ag A], .own [ag B, ag C]] ?_
   obtain ⟨D, j8, hr⟩ := bd hr
   refine .wk ((Wk.refl _).to (c := ⟨mkS 55 0 [(1, .hp 0 0), (2, .hp 3 0), (3, .hp 4 0), (4, .hp 7 0), (5, .hp 8 0), (6, .hp 9 0), (7, aB H), (9, ag (A3.get t g)), (10, ag D), (11, ag g)], [.own [.fn 88 [] [.hp 1 0, .hp 2 0]], .own [ag c, ag F, ag q, ag i, ag d, bE b], .own [ag a], .own [.mp 5], .own [.mp 6], .map (p.map (mpK an.K (gA aj.c))), .map (E.map (mpK an.K bA)), .own (ar.c t), .own [ag z, ag A], .own [ag B, ag C]]⟩) (by rw [oi j8]; first | done | kernel_rfl)) <| .block <| .seq ?_
   replace hr := bd hr; obtain ⟨kB, L, hr⟩ := hr
   refine .yV (Q := fun x st' => x = .normal /\ Wk 5 st' ⟨mkS 55 0 [(1, .hp 0 0), (2, .hp 3 0), (3, .hp 4 0), (4, .hp 7 0), (5, .hp 8 0), (6, .hp 9 0), (7, aB H), (9, ag (A3.get t g)), (10, ag D), (11, ag g), (22, aB kB)], [.own [.fn 88 [] [.hp 1 0, .hp 2 0]], .own [ag c, ag F, ag q, ag i, ag d, bE b], .own [ag a], .own [.mp 5], .own [.mp 6], .map (p.map (mpK an.K (gA aj.c))), .map (E.map (mpK an.K bA)), .own (ar.c t), .own [ag z, ag A], .own [ag B, ag C]]⟩) ?_ ?_
   ·clear hr
    have hr := L
    clear L
    obtain ⟨lH, M, hr⟩ := bd hr
    rcases bT lH with N | N
    ·subst N
     replace hr := cg rfl hr
     obtain ⟨mN, W, hr⟩ := bd hr
     refine .gn G (ca1 (gb (args := [ag (A3.get t g), .hp 1 0, .hp 2 0]) (l := [1, 2]) rfl (Sp (SnL.cons (Sn.hp rfl (.inl rfl) (SnC.cons (Sn.pure rfl) (SnC.cons (Sn.pure rfl) (SnC.cons (Sn.pure rfl) (SnC.cons (Sn.pure rfl) (SnC.cons (Sn.pure rfl) (SnC.cons (Sn.pure rfl) SnC.nil))))))) (SnL.cons (Sn.hp rfl (.inl rfl) (SnC.cons (Sn.pure rfl) SnC.nil)) SnL.nil))) (fg n (A3.get t g) c F q i d b a true M)) (ca3 (gb (args := [ag D, .hp 1 0, .hp 2 0]) (l := [1, 2]) rfl (Sp (SnL.cons (Sn.hp rfl (.inl rfl) (SnC.cons (Sn.pure rfl) (SnC.cons (Sn.pure rfl) (SnC.cons (Sn.pure rfl) (SnC.cons (Sn.pure rfl) (SnC.cons (Sn.pure rfl) (SnC.cons (Sn.pure rfl) SnC.nil))))))) (SnL.cons (Sn.hp rfl (.inl rfl) (SnC.cons (Sn.pure rfl) SnC.nil)) SnL.nil))) (fg n D c F q i d b a mN W)))) (.mu 2 (.ca cf0 (.mu 3 (.ca (cfA (fun h => by rw [sv W M (nt n (show ([ag D, .pp [ag c, ag F, ag q, ag i, ag d, bE b] 0, .pp [ag a] 0] : List AV) = [ag (A3.get t g), .pp [ag c, ag F, ag q, ag i, ag d, bE b] 0, .pp [ag a] 0] from (congr (congrArg List.cons (List.cons.inj h).1) (congr (congrArg List.cons rfl) (congr (congrArg List.cons rfl) rfl)))))]) cf0) (.mu 3 (.done ?_))))))
     obtain rfl := oi hr
     exact ⟨rfl, ((Wk.gc [1, 2, 3, 4, 5, 6, 7, 9, 10, 11, 22] [(0, true), (1, true), (2, true), (3, true), (4, true), (5, false), (6, false), (7, true), (8, true), (9, true)] rfl (pKt (pKt (pKt (pKt (pKt (pKM an.K (gA aj.c) (fun _ => rfl) p (pKM an.K bA (fun _ => rfl) E trivial)))))))).to)⟩
    subst N
    replace hr := ch rfl hr
    refine .g1 G (gb (args := [ag (A3.get t g), .hp 1 0, .hp 2 0]) (l := [1, 2]) rfl (Sp (SnL.cons (Sn.hp rfl (.inl rfl) (SnC.cons (Sn.pure rfl) (SnC.cons (Sn.pure rfl) (SnC.cons (Sn.pure rfl) (SnC.cons (Sn.pure rfl) (SnC.cons (Sn.pure rfl) (SnC.cons (Sn.pure rfl) SnC.nil))))))) (SnL.cons (Sn.hp rfl (.inl rfl) (SnC.cons (Sn.pure rfl) SnC.nil)) SnL.nil))) (fg n (A3.get t g) c F q i d b a false M)) (.mu 2 (.ca cf0 (.mu 7 (.done ?_))))
    obtain rfl := oi hr
    exact ⟨rfl, ((Wk.gc [1, 2, 3, 4, 5, 6, 7, 9, 10, 11, 22] [(0, true), (1, true), (2, true), (3, true), (4, true), (5, false), (6, false), (7, true), (8, true), (9, true)] rfl (pKt (pKt (pKt (pKt (pKt (pKM an.K (gA aj.c) (fun _ => rfl) p (pKM an.K bA (fun _ => rfl) E trivial)))))))).to)⟩
   rintro x st' O
   clear L
   obtain ⟨rfl, O⟩ := O
   refine .wk O ?_
   refine .cd hr ?_ ?_ <;> intro jS hr
   ·obtain ⟨X, j9, hr⟩ := bd hr
    refine .g1 G (ok0 (nC n (A3.get t g) D X j9)) (.mu 2 (.ca cf0 (.mu 2 (.done (.pop (.pop (.ru G ?_)))))))
    exact av (X.e0, X.e1, B, C, true, FK (g + 1)) hr ((Wk.gc [1, 2, 3, 4, 5, 6, 7, 11] [(0, true), (1, true), (2, true), (3, true), (4, true), (5, false), (6, false), (7, true), (8, true), (9, true)] rfl (pKt (pKt (pKt (pKt (pKt (pKM an.K (gA aj.c) (fun _ => rfl) p (pKM an.K bA (fun _ => rfl) E trivial)))))))).to)
   refine .seq ?_
   obtain ⟨Y, R, hr⟩ := bd hr
   rcases bT (!Y) with I | I
   ·replace hr := cg I hr
    obtain ⟨mF, Z, hr⟩ := bd hr
    refine .gn G (ca1 (gb (args := [ag (A3.get t g), .hp 1 0, .hp 2 0]) (l := [1, 2]) rfl (Sp (SnL.cons (Sn.hp rfl (.inl rfl) (SnC.cons (Sn.pure rfl) (SnC.cons (Sn.pure rfl) (SnC.cons (Sn.pure rfl) (SnC.cons (Sn.pure rfl) (SnC.cons (Sn.pure rfl) (SnC.cons (Sn.pure rfl) SnC.nil))))))) (SnL.cons (Sn.hp rfl (.inl rfl) (SnC.cons (Sn.pure rfl) SnC.nil)) SnL.nil))) (fg n (A3.get t g) c F q i d b a Y R)) (ca3 (gb (args := [ag D, .hp 1 0, .hp 2 0]) (l := [1, 2]) rfl (Sp (SnL.cons (Sn.hp rfl (.inl rfl) (SnC.cons (Sn.pure rfl) (SnC.cons (Sn.pure rfl) (SnC.cons (Sn.pure rfl) (SnC.cons (Sn.pure rfl) (SnC.cons (Sn.pure rfl) (SnC.cons (Sn.pure rfl) SnC.nil))))))) (SnL.cons (Sn.hp rfl (.inl rfl) (SnC.cons (Sn.pure rfl) SnC.nil)) SnL.nil))) (fg n D c F q i d b a mF Z)))) (.mu 2 (.ca cf0 (.p0 (v := aB true) (eB I) (.mu 3 (.ca (cfA (fun h => by rw [sv Z R (nt n (show ([ag D, .pp [ag c, ag F, ag q, ag i, ag d, bE b] 0, .pp [ag a] 0] : List AV) = [ag (A3.get t g), .pp [ag c, ag F, ag q, ag i, ag d, bE b] 0, .pp [ag a] 0] from (congr (congrArg List.cons (List.cons.inj h).1) (congr (congrArg List.cons rfl) (congr (congrArg List.cons rfl) rfl)))))]) cf0) (.mu 2 (.done (.nh [1, 2, 3, 4, 5, 6, 7, 9, 10, 11, 35] [.own [.fn 88 [] [.hp 1 0, .hp 2 0]], .own [ag c, ag F, ag q, ag i, ag d, bE b], .own [ag a], .own [.mp 5], .own [.mp 6], .map (p.map (mpK an.K (gA aj.c))), .map (E.map (mpK an.K bA)), .own (ar.c t), .own [ag z, ag A], .own [ag B, ag C]] ?_))))))))
    refine .cd hr ?_ ?_ <;> intro ki hr
    ·obtain ⟨jB, kO, hr⟩ := bd hr
     refine .g1 G (ok0 (nC n (A3.get t g) D jB kO)) (.mu 2 (.ca cf0 (.mu 1 (.done (.pop (.pop (.ru G ?_)))))))
     exact av (z, A, jB.e0, jB.e1, H, FK (g + 1)) hr ((Wk.gc [1, 2, 3, 4, 5, 6, 7, 11] [(0, true), (1, true), (2, true), (3, true), (4, true), (5, false), (6, false), (7, true), (8, true), (9, true)] rfl (pKt (pKt (pKt (pKt (pKt (pKM an.K (gA aj.c) (fun _ => rfl) p (pKM an.K bA (fun _ => rfl) E trivial)))))))).to)
    refine .skip (.pop (.pop (.ru G ?_)))
    exact av (z, A, B, C, H, FK (g + 1)) hr ((Wk.gc [1, 2, 3, 4, 5, 6, 7, 11] [(0, true), (1, true), (2, true), (3, true), (4, true), (5, false), (6, false), (7, true), (8, true), (9, true)] rfl (pKt (pKt (pKt (pKt (pKt (pKM an.K (gA aj.c) (fun _ => rfl) p (pKM an.K bA (fun _ => rfl) E trivial)))))))).to)
   replace hr := ch I hr
   refine .g1 G (gb (args := [ag (A3.get t g), .hp 1 0, .hp 2 0]) (l := [1, 2]) rfl (Sp (SnL.cons (Sn.hp rfl (.inl rfl) (SnC.cons (Sn.pure rfl) (SnC.cons (Sn.pure rfl) (SnC.cons (Sn.pure rfl) (SnC.cons (Sn.pure rfl) (SnC.cons (Sn.pure rfl) (SnC.cons (Sn.pure rfl) SnC.nil))))))) (SnL.cons (Sn.hp rfl (.inl rfl) (SnC.cons (Sn.pure rfl) SnC.nil)) SnL.nil))) (fg n (A3.get t g) c F q i d b a Y R)) (.mu 2 (.ca cf0 (.p0 (v := aB false) (eB I) (.mu 6 (.done (.nh [1, 2, 3, 4, 5, 6, 7, 9, 10, 11, 35] [.own [.fn 88 [] [.hp 1 0, .hp 2 0]], .own [ag c, ag F, ag q, ag i, ag d, bE b], .own [ag a], .own [.mp 5], .own [.mp 6], .map (p.map (mpK an.K (gA aj.c))), .map (E.map (mpK an.K bA)), .own (ar.c t), .own [ag z, ag A], .own [ag B, ag C]] (.cF kRf (.skip (.pop (.pop (.ru G ?_)))))))))))
   exact av (z, A, B, C, H, FK (g + 1)) hr ((Wk.gc [1, 2, 3, 4, 5, 6, 7, 11] [(0, true), (1, true), (2, true), (3, true), (4, true), (5, false), (6, false), (7, true), (8, true), (9, true)] rfl (pKt (pKt (pKt (pKt (pKt (pKM an.K (gA aj.c) (fun _ => rfl) p (pKM an.K bA (fun _ => rfl) E trivial)))))))).to)
  refine .leave rfl ?_
  obtain rfl := oi hr
  exact ⟨rfl, ((Wk.gc [2, 3, 5, 6, 7] [(0, true), (1, true), (2, true), (3, true), (4, true), (5, false), (6, false), (8, true), (9, true)] rfl (pKt (pKt (pKt (pKt (pKt (pKM an.K (gA aj.c) (fun _ => rfl) p (pKM an.K bA (fun _ => rfl) E trivial)))))))).to)⟩
 rcases jQ with ⟨u, w, j, o, J⟩
 rintro x st' S
 clear T
 obtain ⟨rfl, S⟩ := S
 refine aW _ rfl (.wk S (.seq (.r4 G [2, 3, 5, 6] [(49, aB J)] ?_)))
 refine .cd hr ?_ ?_ <;> intro kp hr
 ·refine .seq (.r0 G (.mu 3 (.e0 (v := .unk) (ws := [(5, .map ((cV p (A2.mk u w) (A2.mk j o)).map (mpK an.K (gA aj.c))))]) (tr (y := fI Tryz.prog [.own [.fn 88 [] [.hp 1 0, .hp 2 0]], .own [ag c, ag F, ag q, ag i, ag d, bE b], .own [ag a], .own [.mp 5], .own [.mp 6], .map (p.map (mpK an.K (gA aj.c))), .map (E.map (mpK an.K bA)), .own [ag u, ag w], .own [ag j, ag o]] 124 (.mp 5) (.agg [ag u, ag w]) (.agg [ag j, ag o])) (xj (kt := 101) (e := 101) (l := p) (f := (gA aj.c)) (v := A2.mk j o) (K := an.K) (x := A2.mk u w) an.key kRf kRf kRf kRf)) (.done (.nh [3, 6] [.own [.fn 88 [] [.hp 1 0, .hp 2 0]], .own [ag c, ag F, ag q, ag i, ag d, bE b], .own [ag a], .own [.mp 5], .own [.mp 6], .map ((cV p (A2.mk u w) (A2.mk j o)).map (mpK an.K (gA aj.c))), .map (E.map (mpK an.K bA)), .own [ag u, ag w], .own [ag j, ag o]] (.r0 G (.mu 2 (.e0 (v := .unk) (ws := [(6, .map ((cV E (A2.mk j o) true).map (mpK an.K bA)))]) (tr (y := fI Tryz.prog [.own [.fn 88 [] [.hp 1 0, .hp 2 0]], .own [ag c, ag F, ag q, ag i, ag d, bE b], .own [ag a], .own [.mp 5], .own [.mp 6], .map ((cV p (A2.mk u w) (A2.mk j o)).map (mpK an.K (gA aj.c))), .map (E.map (mpK an.K bA)), .own [ag u, ag w], .own [ag j, ag o]] 125 (.mp 6) (.agg [ag j, ag o]) (aB true)) (xj (kt := 101) (e := 4) (l := E) (f := bA) (v := true) (K := an.K) (x := A2.mk j o) an.key kRf kRf kRf kRf)) (.done ?_)))))))))
  obtain rfl := oi hr
  exact gR.normal [] ((Wk.gc [] [(0, true), (1, true), (2, true), (3, true), (4, true), (5, false), (6, false)] rfl (pKt (pKt (pKt (pKt (pKt (pKM an.K (gA aj.c) (fun _ => rfl) (cV p (A2.mk u w) (A2.mk j o)) (pKM an.K bA (fun _ => rfl) (cV E (A2.mk j o) true) trivial)))))))).to)
 refine .skip ?_
 obtain rfl := oi hr
 exact gR.normal [] ((Wk.gc [] [(0, true), (1, true), (2, true), (3, true), (4, true), (5, false), (6, false)] rfl (pKt (pKt (pKt (pKt (pKt (pKM an.K (gA aj.c) (fun _ => rfl) p (pKM an.K bA (fun _ => rfl) E trivial)))))))).to)

theorem iR (n : Nat) (g : al) (c : Int) (D : Int) (o : Int) (i : Int) (f : Int) (e : List Int) (d : Int) (q : List (A2 Int × A2 Int)) (p : List (A2 Int × Bool)) (r : List (A2 Int × A2 Int) × List (A2 Int × Bool)) (hr : aY n g c D o i f e d q p = some r) : dK 5 Tryz.prog 89 [.agg (al.c g), .fn 90 [] [.hp 0 0, .hp 3 0, .hp 4 0]] [.own [.fn 88 [] [.hp 1 0, .hp 2 0]], .own [ag c, ag D, ag o, ag i, ag f, bE e], .own [ag d], .own [.mp 5], .own [.mp 6], .map (q.map (mpK an.K (gA aj.c))), .map (p.map (mpK an.K bA))] (.tup []) [.own [.fn 88 [] [.hp 1 0, .hp 2 0]], .own [ag c, ag D, ag o, ag i, ag f, bE e], .own [ag d], .own [.mp 5], .own [.mp 6], .map (r.1.map (mpK an.K (gA aj.c))), .map (r.2.map (mpK an.K bA))] := by
 unfold aY at hr
 refine dK.qf G Tryz.func89 (c := (Tryz.f89.body).getD .skip) rfl (us := []) (s := mkS 82 0 [(0, .agg (al.c g)), (1, .fn 90 [] [.hp 0 0, .hp 3 0, .hp 4 0])]) kRf (rs := []) rfl ?_
 unfold Tryz.f89
 simp only [gS]
 refine .seq (.r5 G [1] [(2, .hp 7 0)] [.own [.fn 88 [] [.hp 1 0, .hp 2 0]], .own [ag c, ag D, ag o, ag i, ag f, bE e], .own [ag d], .own [.mp 5], .own [.mp 6], .map (q.map (mpK an.K (gA aj.c))), .map (p.map (mpK an.K bA)), .own (al.c g)] (.seq (.r4 G [1, 2] [(4, ag g.Width)] (.seq (.r4 G [1, 2, 4] [(14, ag (FK (g.Height - 1))), (15, ag 0)] (.block ?_))))))
 replace hr := bd hr; obtain ⟨jB, U, hr⟩ := hr
 refine .aN (σ := fun z0 => match z0 with | (E, F, h) => ⟨mkS 82 0 [(1, .fn 90 [] [.hp 0 0, .hp 3 0, .hp 4 0]), (2, .hp 7 0), (4, ag g.Width), (14, ag (FK (g.Height - 1))), (15, ag h)], [.own [.fn 88 [] [.hp 1 0, .hp 2 0]], .own [ag c, ag D, ag o, ag i, ag f, bE e], .own [ag d], .own [.mp 5], .own [.mp 6], .map (E.map (mpK an.K (gA aj.c))), .map (F.map (mpK an.K bA)), .own (al.c g)]⟩) (Q := fun x st' => match (generalizing := false) jB with | (N, O) => x = .exit 0 /\ Wk 5 st' ⟨mkS 82 0 [], [.own [.fn 88 [] [.hp 1 0, .hp 2 0]], .own [ag c, ag D, ag o, ag i, ag f, bE e], .own [ag d], .own [.mp 5], .own [.mp 6], .map (N.map (mpK an.K (gA aj.c))), .map (O.map (mpK an.K bA))]⟩) U ((Wk.gc [1, 2, 4, 14, 15] [(0, true), (1, true), (2, true), (3, true), (4, true), (5, false), (6, false), (7, true)] rfl (pKt (pKt (pKt (pKt (pKt (pKM an.K (gA aj.c) (fun _ => rfl) q (pKM an.K bA (fun _ => rfl) p trivial)))))))).to) ?_ ?_
 ·clear hr
  rintro m ⟨E, F, h⟩ hr
  refine CQ.sh ?_
  refine .seq (.r4 G [1, 2, 4, 14, 15] [(16, aB (decide (h < (FK (g.Height - 1)))))] (.seq ?_))
  refine .cd hr ?_ ?_ <;> intro lH hr
  ·refine .skip (.seq (.block (.seq (.r4 G [1, 2, 4, 14, 15] [(5, ag h)] (.seq (.r4 G [1, 2, 4, 5, 14, 15] [(19, ag (FK (g.Width - 1))), (20, ag 0)] (.block ?_)))))))
   replace hr := bd hr; obtain ⟨jQ, V, hr⟩ := hr
   refine .aN (σ := fun z0 => match z0 with | (t, u, l) => ⟨mkS 82 0 [(1, .fn 90 [] [.hp 0 0, .hp 3 0, .hp 4 0]), (2, .hp 7 0), (4, ag g.Width), (5, ag h), (14, ag (FK (g.Height - 1))), (15, ag h), (19, ag (FK (g.Width - 1))), (20, ag l)], [.own [.fn 88 [] [.hp 1 0, .hp 2 0]], .own [ag c, ag D, ag o, ag i, ag f, bE e], .own [ag d], .own [.mp 5], .own [.mp 6], .map (t.map (mpK an.K (gA aj.c))), .map (u.map (mpK an.K bA)), .own (al.c g)]⟩) (Q := fun x st' => match (generalizing := false) jQ with | (H, I) => x = .exit 2 /\ Wk 5 st' ⟨mkS 82 0 [(1, .fn 90 [] [.hp 0 0, .hp 3 0, .hp 4 0]), (2, .hp 7 0), (4, ag g.Width), (14, ag (FK (g.Height - 1))), (15, ag h)], [.own [.fn 88 [] [.hp 1 0, .hp 2 0]], .own [ag c, ag D, ag o, ag i, ag f, bE e], .own [ag d], .own [.mp 5], .own [.mp 6], .map (H.map (mpK an.K (gA aj.c))), .map (I.map (mpK an.K bA)), .own (al.c g)]⟩) V ((Wk.gc [1, 2, 4, 5, 14, 15, 19, 20] [(0, true), (1, true), (2, true), (3, true), (4, true), (5, false), (6, false), (7, true)] rfl (pKt (pKt (pKt (pKt (pKt (pKM an.K (gA aj.c) (fun _ => rfl) E (pKM an.K bA (fun _ => rfl) F trivial)))))))).to) ?_ ?_
   ·clear hr
    rintro m ⟨t, u, l⟩ hr
    refine CQ.sh ?_
    refine .seq (.r4 G [1, 2, 4, 5, 14, 15, 19, 20] [(21, aB (decide (l < (FK (g.Width - 1)))))] (.seq ?_))
    refine .cd hr ?_ ?_ <;> intro mN hr
    ·refine .skip (.seq (.block (.seq (.r4 G [1, 2, 4, 5, 14, 15, 19, 20] [(6, ag l)] (.seq (.r4 G [1, 2, 4, 5, 14, 15, 19, 20] [(7, ag (FK ((FK (h * g.Width)) + l)))] ?_))))))
     obtain ⟨A, kB, hr⟩ := bd hr
     refine .wk ((Wk.refl _).to (c := ⟨mkS 82 0 [(1, .fn 90 [] [.hp 0 0, .hp 3 0, .hp 4 0]), (2, .hp 7 0), (4, ag g.Width), (5, ag h), (7, ag A), (14, ag (FK (g.Height - 1))), (15, ag h), (19, ag (FK (g.Width - 1))), (20, ag l)], [.own [.fn 88 [] [.hp 1 0, .hp 2 0]], .own [ag c, ag D, ag o, ag i, ag f, bE e], .own [ag d], .own [.mp 5], .own [.mp 6], .map (t.map (mpK an.K (gA aj.c))), .map (u.map (mpK an.K bA)), .own (al.c g)]⟩) (by rw [oi kB]; first | done | kernel_rfl)) <| .seq <| .r5 G [1, 2, 4, 5, 14, 15, 19, 20] [(45, .hs 8 0 2 3), (46, ag 2), (47, ag 0)] [.own [.fn 88 [] [.hp 1 0, .hp 2 0]], .own [ag c, ag D, ag o, ag i, ag f, bE e], .own [ag d], .own [.mp 5], .own [.mp 6], .map (t.map (mpK an.K (gA aj.c))), .map (u.map (mpK an.K bA)), .own (al.c g), .own [ag A, ag (FK (A + 1)), ag (FK ((FK (A + g.Width)) + 1)), ag A, ag (FK ((FK (A + g.Width)) + 1)), ag (FK (A + g.Width))]] <| .block ?_
     obtain ⟨b, j9, hr⟩ := bd hr
     refine .wk ((Wk.refl _).to (c := ⟨mkS 82 0 [(1, .fn 90 [] [.hp 0 0, .hp 3 0, .hp 4 0]), (2, .hp 7 0), (4, ag g.Width), (5, ag h), (14, ag (FK (g.Height - 1))), (15, ag h), (19, ag (FK (g.Width - 1))), (20, ag l), (45, .hs 8 0 b.length 3), (46, ag 2), (47, ag 0)], [.own [.fn 88 [] [.hp 1 0, .hp 2 0]], .own [ag c, ag D, ag o, ag i, ag f, bE e], .own [ag d], .own [.mp 5], .own [.mp 6], .map (t.map (mpK an.K (gA aj.c))), .map (u.map (mpK an.K bA)), .own (al.c g), .own (b.flatMap ar.c)]⟩) (by rw [<- oi j9]; kernel_rfl)) ?_
     replace hr := bd hr; obtain ⟨j8, W, hr⟩ := hr
     refine .aN (σ := fun z0 => match z0 with | (j, k, a) => ⟨mkS 82 0 [(1, .fn 90 [] [.hp 0 0, .hp 3 0, .hp 4 0]), (2, .hp 7 0), (4, ag g.Width), (5, ag h), (14, ag (FK (g.Height - 1))), (15, ag h), (19, ag (FK (g.Width - 1))), (20, ag l), (45, .hs 8 0 b.length 3), (46, ag 2), (47, ag a)], [.own [.fn 88 [] [.hp 1 0, .hp 2 0]], .own [ag c, ag D, ag o, ag i, ag f, bE e], .own [ag d], .own [.mp 5], .own [.mp 6], .map (j.map (mpK an.K (gA aj.c))), .map (k.map (mpK an.K bA)), .own (al.c g), .own (b.flatMap ar.c)]⟩) (Q := fun x st' => match (generalizing := false) j8 with | (J, L) => x = .exit 4 /\ Wk 5 st' ⟨mkS 82 0 [(1, .fn 90 [] [.hp 0 0, .hp 3 0, .hp 4 0]), (2, .hp 7 0), (4, ag g.Width), (5, ag h), (14, ag (FK (g.Height - 1))), (15, ag h), (19, ag (FK (g.Width - 1))), (20, ag l)], [.own [.fn 88 [] [.hp 1 0, .hp 2 0]], .own [ag c, ag D, ag o, ag i, ag f, bE e], .own [ag d], .own [.mp 5], .own [.mp 6], .map (J.map (mpK an.K (gA aj.c))), .map (L.map (mpK an.K bA)), .own (al.c g)]⟩) W ((Wk.gc [1, 2, 4, 5, 14, 15, 19, 20, 45, 46, 47] [(0, true), (1, true), (2, true), (3, true), (4, true), (5, false), (6, false), (7, true), (8, false)] rfl (pKt (pKt (pKt (pKt (pKt (pKM an.K (gA aj.c) (fun _ => rfl) t (pKM an.K bA (fun _ => rfl) u (pKt (pKo ar.c ar.pure b trivial)))))))))).to) ?_ ?_
     ·clear hr
      rintro m ⟨j, k, a⟩ hr
      refine CQ.sh ?_
      refine .seq (.r4 G [1, 2, 4, 5, 14, 15, 19, 20, 45, 46, 47] [(48, aB (decide (a < 2)))] (.seq ?_))
      refine .cd hr ?_ ?_ <;> intro mF hr
      ·refine .skip (.seq (.block (.seq ?_)))
       obtain ⟨X, hr⟩ := gd hr
       refine .r0 G (.p0 (v := .hp 8 (0 + a.toNat * 3)) (tr (au X)) (.p0 (v := .agg (ar.c (gt b a))) (tr (y := br.ofP (ei (decide (3 <= ((b.flatMap ar.c).drop (0 + a.toNat * 3)).length)) (.agg (((b.flatMap ar.c).drop (0 + a.toNat * 3)).take 3)))) (b6 ar.len (aC X) (by decide) (by omega : 0 + a.toNat * 3 = a.toNat * 3 + 0) kRf)) (.mu 2 (.done (.nh [1, 2, 4, 5, 9, 14, 15, 19, 20, 45, 46, 47] [.own [.fn 88 [] [.hp 1 0, .hp 2 0]], .own [ag c, ag D, ag o, ag i, ag f, bE e], .own [ag d], .own [.mp 5], .own [.mp 6], .map (j.map (mpK an.K (gA aj.c))), .map (k.map (mpK an.K bA)), .own (al.c g), .own (b.flatMap ar.c), .own (ar.c (gt b a))] (.seq ?_))))))
       obtain ⟨w, hr⟩ := gd hr
       rcases bT (((gt g.Z (gt b a).e0) : Int) != (-2147483648)) with z | z
       ·replace hr := cg z hr
        obtain ⟨M, hr⟩ := gd hr
        rcases bT (((gt g.Z (gt b a).e1) : Int) != (-2147483648)) with B | B
        ·replace hr := cg B hr
         obtain ⟨Y, hr⟩ := gd hr
         refine .r0 G (.mu 4 (.p0 (v := .pp (g.Z.flatMap (iC .i64)) ((gt b a).e0.toNat * 1)) (tr (au w)) (.p0 (v := ag (gt g.Z (gt b a).e0)) (tr (aE (aF (aG .i64) (aC w) z1 (by omega : (gt b a).e0.toNat * 1 = (gt b a).e0.toNat * 1 + 0) kRf))) (.p0 (v := aB true) (eB z) (.mu 5 (.pure (v := .pp (g.Z.flatMap (iC .i64)) ((gt b a).e1.toNat * 1)) kRf (tr (au M)) (.pure (v := ag (gt g.Z (gt b a).e1)) kRf (tr (aE (aF (aG .i64) (aC M) z1 (by omega : (gt b a).e1.toNat * 1 = (gt b a).e1.toNat * 1 + 0) kRf))) (.pure (v := aB true) kRf (eB B) (.mu 6 (.pure (v := .pp (g.Z.flatMap (iC .i64)) ((gt b a).e2.toNat * 1)) kRf (tr (au Y)) (.pure (v := ag (gt g.Z (gt b a).e2)) kRf (tr (aE (aF (aG .i64) (aC Y) z1 (by omega : (gt b a).e2.toNat * 1 = (gt b a).e2.toNat * 1 + 0) kRf))) (.mu 2 (.done (.nh [1, 2, 4, 5, 9, 14, 15, 19, 20, 45, 46, 47, 75] [.own [.fn 88 [] [.hp 1 0, .hp 2 0]], .own [ag c, ag D, ag o, ag i, ag f, bE e], .own [ag d], .own [.mp 5], .own [.mp 6], .map (j.map (mpK an.K (gA aj.c))), .map (k.map (mpK an.K bA)), .own (al.c g), .own (b.flatMap ar.c), .own (ar.c (gt b a))] ?_))))))))))))))
         refine .cd hr ?_ ?_ <;> intro nw hr
         ·obtain ⟨C, kO, hr⟩ := bd hr
          refine .g1 G (fT 0 (.own [.fn 88 [] [.hp 1 0, .hp 2 0]]) [] [(1, .own [ag c, ag D, ag o, ag i, ag f, bE e]), (2, .own [ag d]), (3, .own [.mp 10]), (4, .own [.mp 11]), (10, .map (C.1.map (mpK an.K (gA aj.c)))), (11, .map (C.2.map (mpK an.K bA))), (5, .dead), (6, .dead)] (cL (args := [.agg (ar.c (gt b a)), .hp 0 0, .hp 3 0, .hp 4 0]) 5 2 [(0, true), (1, true), (2, true), (3, true), (4, true), (5, false), (6, false)] [true, true, true, true, true, false, false] (qJ n (gt b a) c D o i f e d j k C kO) (by exact ⟨dz (fun _ => rfl) _, ⟨dz (fun _ => rfl) _, trivial⟩⟩) (by exact ⟨dz (fun _ => rfl) _, ⟨dz (fun _ => rfl) _, trivial⟩⟩) rfl rfl kRf kRf)) (.mu 2 (.ca cf0 (.done (.pop (.ru G ?_)))))
          exact av (C.1, C.2, FK (a + 1)) hr ((Wk.gc [1, 2, 4, 5, 14, 15, 19, 20, 45, 46, 47] [(0, true), (1, true), (2, true), (3, true), (4, true), (10, false), (11, false), (7, true), (8, false)] rfl (pKt (pKt (pKt (pKt (pKt (pKM an.K (gA aj.c) (fun _ => rfl) C.1 (pKM an.K bA (fun _ => rfl) C.2 (pKt (pKo ar.c ar.pure b trivial)))))))))).to)
         refine .skip (.pop (.ru G ?_))
         exact av (j, k, FK (a + 1)) hr ((Wk.gc [1, 2, 4, 5, 14, 15, 19, 20, 45, 46, 47] [(0, true), (1, true), (2, true), (3, true), (4, true), (5, false), (6, false), (7, true), (8, false)] rfl (pKt (pKt (pKt (pKt (pKt (pKM an.K (gA aj.c) (fun _ => rfl) j (pKM an.K bA (fun _ => rfl) k (pKt (pKo ar.c ar.pure b trivial)))))))))).to)
        replace hr := ch B hr
        refine .r0 G (.mu 4 (.p0 (v := .pp (g.Z.flatMap (iC .i64)) ((gt b a).e0.toNat * 1)) (tr (au w)) (.p0 (v := ag (gt g.Z (gt b a).e0)) (tr (aE (aF (aG .i64) (aC w) z1 (by omega : (gt b a).e0.toNat * 1 = (gt b a).e0.toNat * 1 + 0) kRf))) (.p0 (v := aB true) (eB z) (.mu 5 (.pure (v := .pp (g.Z.flatMap (iC .i64)) ((gt b a).e1.toNat * 1)) kRf (tr (au M)) (.pure (v := ag (gt g.Z (gt b a).e1)) kRf (tr (aE (aF (aG .i64) (aC M) z1 (by omega : (gt b a).e1.toNat * 1 = (gt b a).e1.toNat * 1 + 0) kRf))) (.pure (v := aB false) kRf (eB B) (.mu 10 (.done (.nh [1, 2, 4, 5, 9, 14, 15, 19, 20, 45, 46, 47, 75] [.own [.fn 88 [] [.hp 1 0, .hp 2 0]], .own [ag c, ag D, ag o, ag i, ag f, bE e], .own [ag d], .own [.mp 5], .own [.mp 6], .map (j.map (mpK an.K (gA aj.c))), .map (k.map (mpK an.K bA)), .own (al.c g), .own (b.flatMap ar.c), .own (ar.c (gt b a))] (.cF kRf (.skip (.pop (.ru G ?_)))))))))))))))
        exact av (j, k, FK (a + 1)) hr ((Wk.gc [1, 2, 4, 5, 14, 15, 19, 20, 45, 46, 47] [(0, true), (1, true), (2, true), (3, true), (4, true), (5, false), (6, false), (7, true), (8, false)] rfl (pKt (pKt (pKt (pKt (pKt (pKM an.K (gA aj.c) (fun _ => rfl) j (pKM an.K bA (fun _ => rfl) k (pKt (pKo ar.c ar.pure b trivial)))))))))).to)
       replace hr := ch z hr
       refine .r0 G (.mu 4 (.p0 (v := .pp (g.Z.flatMap (iC .i64)) ((gt b a).e0.toNat * 1)) (tr (au w)) (.p0 (v := ag (gt g.Z (gt b a).e0)) (tr (aE (aF (aG .i64) (aC w) z1 (by omega : (gt b a).e0.toNat * 1 = (gt b a).e0.toNat * 1 + 0) kRf))) (.p0 (v := aB false) (eB z) (.mu 18 (.done (.nh [1, 2, 4, 5, 9, 14, 15, 19, 20, 45, 46, 47, 75] [.own [.fn 88 [] [.hp 1 0, .hp 2 0]], .own [ag c, ag D, ag o, ag i, ag f, bE e], .own [ag d], .own [.mp 5], .own [.mp 6], .map (j.map (mpK an.K (gA aj.c))), .map (k.map (mpK an.K bA)), .own (al.c g), .own (b.flatMap ar.c), .own (ar.c (gt b a))] (.cF kRf (.skip (.pop (.ru G ?_)))))))))))
       exact av (j, k, FK (a + 1)) hr ((Wk.gc [1, 2, 4, 5, 14, 15, 19, 20, 45, 46, 47] [(0, true), (1, true), (2, true), (3, true), (4, true), (5, false), (6, false), (7, true), (8, false)] rfl (pKt (pKt (pKt (pKt (pKt (pKM an.K (gA aj.c) (fun _ => rfl) j (pKM an.K bA (fun _ => rfl) k (pKt (pKo ar.c ar.pure b trivial)))))))))).to)
      refine .leave rfl ?_
      obtain rfl := oi hr
      exact ⟨rfl, ((Wk.gc [1, 2, 4, 5, 14, 15, 19, 20] [(0, true), (1, true), (2, true), (3, true), (4, true), (5, false), (6, false), (7, true)] rfl (pKt (pKt (pKt (pKt (pKt (pKM an.K (gA aj.c) (fun _ => rfl) j (pKM an.K bA (fun _ => rfl) k trivial)))))))).to)⟩
     rcases j8 with ⟨J, L⟩
     rintro x st' R
     clear W
     obtain ⟨rfl, R⟩ := R
     refine aW _ rfl (.pop (.wk R (.ru G ?_)))
     exact av (J, L, FK (l + 1)) hr ((Wk.gc [1, 2, 4, 5, 14, 15, 19, 20] [(0, true), (1, true), (2, true), (3, true), (4, true), (5, false), (6, false), (7, true)] rfl (pKt (pKt (pKt (pKt (pKt (pKM an.K (gA aj.c) (fun _ => rfl) J (pKM an.K bA (fun _ => rfl) L trivial)))))))).to)
    refine .leave rfl ?_
    obtain rfl := oi hr
    exact ⟨rfl, ((Wk.gc [1, 2, 4, 14, 15] [(0, true), (1, true), (2, true), (3, true), (4, true), (5, false), (6, false), (7, true)] rfl (pKt (pKt (pKt (pKt (pKt (pKM an.K (gA aj.c) (fun _ => rfl) t (pKM an.K bA (fun _ => rfl) u trivial)))))))).to)⟩
   rcases jQ with ⟨H, I⟩
   rintro x st' S
   clear V
   obtain ⟨rfl, S⟩ := S
   refine aW _ rfl (.pop (.wk S (.ru G ?_)))
   exact av (H, I, FK (h + 1)) hr ((Wk.gc [1, 2, 4, 14, 15] [(0, true), (1, true), (2, true), (3, true), (4, true), (5, false), (6, false), (7, true)] rfl (pKt (pKt (pKt (pKt (pKt (pKM an.K (gA aj.c) (fun _ => rfl) H (pKM an.K bA (fun _ => rfl) I trivial)))))))).to)
  refine .leave rfl ?_
  obtain rfl := oi hr
  exact ⟨rfl, ((Wk.gc [] [(0, true), (1, true), (2, true), (3, true), (4, true), (5, false), (6, false)] rfl (pKt (pKt (pKt (pKt (pKt (pKM an.K (gA aj.c) (fun _ => rfl) E (pKM an.K bA (fun _ => rfl) F trivial)))))))).to)⟩
 rcases jB with ⟨N, O⟩
 rintro x st' T
 clear U
 obtain ⟨rfl, T⟩ := T
 refine aW _ rfl ?_
 obtain rfl := oi hr
 exact gR.wk T (gR.normal [] ((Wk.gc [] [(0, true), (1, true), (2, true), (3, true), (4, true), (5, false), (6, false)] rfl (pKt (pKt (pKt (pKt (pKt (pKM an.K (gA aj.c) (fun _ => rfl) N (pKM an.K bA (fun _ => rfl) O trivial)))))))).to))

theorem iE [Dr] (n : Nat) (a : A2 Int) (b : A2 Int) (r : Int) (hr : dO n a b = some r) : aO Tryz.prog 54 [.agg (aj.c a), .agg (aj.c b)] (ag r) := by
 unfold dO at hr
 refine aO.bd G Tryz.func54 [.tmp 4] ?_
 unfold Tryz.f54
 simp only [gS]
 refine .seq (.r2 G 20 [(2, .hp 0 0), (3, .hp 1 0)] [.own (aj.c a), .own (aj.c b)] (.seq (.seq (.r4 G [2, 3] [(9, aB ((a.e0 : Int) != b.e0))] ?_))))
 refine .cd hr ?_ ?_ <;> intro d hr
 ·refine .seq (.ru G (.ret ?_))
  obtain rfl := oi hr
  exact aK.r1 [ag (FK (a.e0 - b.e0))]
 refine .skip (.seq (.ru G (.ret ?_)))
 obtain rfl := oi hr
 exact aK.r1 [ag (FK (a.e1 - b.e1))]

theorem cO (n : Nat) (a : List (A2 Int)) (r : List (A2 Int)) (hr : aA n a = some r) : dK 1 Tryz.prog 92 [.hs 0 0 a.length 2, .fn 54 [] []] [.own (a.flatMap aj.c)] (.tup []) [.own (r.flatMap aj.c)] := by
 unfold aA at hr
 obtain ⟨b, hr⟩ := gd hr
 exact dK.BD (c := aj.c) (caps' := []) (Go.Proofs.YtecdcgfclgmbpaaGreat.wv (enters_of Tryz.func54 kRf rfl)) Go.Proofs.YtecdcgfclgmbpaaGreat.Bj aj.len aj.pure hr (dcT b) SnL.nil (fun x y r hc => @iE ⟨true⟩ n x y r hc)

theorem sU {b : Int} {a : Int} (h : ([.at (.int .u64 b)] : List AV) = [.at (.int .u64 a)]) : b = a := by
 simp only [List.cons.injEq, AV.agg.injEq, AV.at.injEq, Value.int.injEq, Value.bool.injEq, AV.fn.injEq, AV.pp.injEq, true_and, and_true] at h
 simp_all
theorem tS (n : Nat) {b : Int} {a : Int} (h : ([.at (.int .u64 b)] : List AV) = [.at (.int .u64 a)]) : cJ n b = cJ n a := by
 obtain rfl := sU h
 rfl
theorem e9 (n : Nat) (i : Int) (r : List Int) (hr : cJ n i = some r) : aO Tryz.prog 148 [cU i] (az r) := by
 unfold cJ at hr
 refine aO.bd G Tryz.func148 [.tmp 2] ?_
 unfold Tryz.f148
 simp only [gS]
 refine .seq (.r4 G [0] [] (.seq (.r4 G [0] [(3, nS)] (.seq (.block ?_)))))
 replace hr := bd hr; obtain ⟨d, e, hr⟩ := hr
 refine .aN (σ := fun j => match j with | (a, b) => ⟨mkS 15 0 [(0, cU a), (3, .hs 0 0 b.length 1)], [.own (b.flatMap iCu)]⟩) (Q := fun x st' => x = .exit 0 /\ Wk 0 st' ⟨mkS 15 0 [(3, .hs 0 0 d.length 1)], [.own (d.flatMap iCu)]⟩) e ((Wk.nil 3 1 kRf).trans ((Wk.gc [0, 3] [(0, false)] rfl (pKc trivial)).to)) ?_ ?_
 ·clear hr
  rintro m ⟨a, b⟩ hr
  refine CQ.sh ?_
  refine .seq (.seq (.r4 G [0, 3] [(5, aB (decide (a > 0)))] ?_))
  refine .cd hr ?_ ?_ <;> intro k hr
  ·refine .skip (.seq (.block ?_))
   obtain ⟨g, f, hr⟩ := gd2 hr
   refine .r0 G (.mu 5 (.e0 (v := .hs 2 0 (b ++ [aa .u32 (a.tmod 1000000000)]).length 1) (ws := [(0, .dead), (2, .own ((b ++ [aa .u32 (a.tmod 1000000000)]).flatMap iCu))]) (tr (dB (new := [bj (aa .u32 (a.tmod 1000000000))]) (l := b) (xs := [aa .u32 (a.tmod 1000000000)]) (aG .u32) rfl rfl kRf g f)) (.mu 1 (.done (.pop (.ru G ?_))))))
   exact av (wFu (a.tdiv 1000000000), b ++ [aa .u32 (a.tmod 1000000000)]) hr ((Wk.gc [0, 3] [(2, false)] rfl (pKo iCu (aD _) (b ++ [aa .u32 (a.tmod 1000000000)]) trivial)).to)
  refine .leave rfl ?_
  obtain rfl := oi hr
  exact ⟨rfl, ((Wk.gc [3] [(0, false)] rfl (pKo iCu (aD _) b trivial)).to)⟩
 rintro x st' c
 clear e
 obtain ⟨rfl, c⟩ := c
 refine aW _ rfl (.wk c (.seq (.r3 G 15 [(2, .hs 0 0 d.length 1)] (.ret ?_))))
 obtain rfl := oi hr
 exact aK.ret (vs := [.hs 0 0 d.length 1]) kRf (Sn.hs rfl (.inl rfl) (SnC.pure (a7 (aD _) _)) (fun h => bZ h))

theorem gx (n : Nat) (g : List Int) (r : List Int) (hr : dP n g = some r) : aO Tryz.prog 184 [az g] (az r) := by
 unfold dP at hr
 refine aO.bd G Tryz.func184 [.tmp 2] ?_
 unfold Tryz.f184
 simp only [gS]
 refine .seq (.r4 G [0] [] (.seq (.block ?_)))
 replace hr := bd hr; obtain ⟨f, d, hr⟩ := hr
 refine .aN (σ := fun k => match k with | a => ⟨mkS 21 0 [(0, az a)], []⟩) (Q := fun x st' => x = .exit 0 /\ Wk 0 st' ⟨mkS 21 0 [(0, az f)], []⟩) d ((Wk.gc [0] [] rfl pK0).to) ?_ ?_
 ·clear hr
  rintro m a hr
  refine CQ.sh ?_
  refine .seq (.seq ?_)
  rcases bT (decide ((a.length : Int) > 0)) with b | b
  ·replace hr := cg b hr
   obtain ⟨h, hr⟩ := gd hr
   refine .r0 G (.mu 2 (.p0 (v := aB true) (eB b) (.mu 5 (.pure (v := .pp (a.flatMap iCu) ((FK ((a.length : Int) - 1)).toNat * 1)) kRf (tr (au h)) (.pure (v := bj (gt a (FK ((a.length : Int) - 1)))) kRf (tr (aE (aF (aG .u32) (aC h) z1 (by omega : (FK ((a.length : Int) - 1)).toNat * 1 = (FK ((a.length : Int) - 1)).toNat * 1 + 0) kRf))) (.mu 2 (.done (.nh [0, 14] [] ?_))))))))
   refine .cd hr ?_ ?_ <;> intro i hr
   ·refine .skip (.block ?_)
    obtain ⟨e, hr⟩ := gd hr
    refine .r0 G (.mu 4 (.p0 (v := az ((a.drop (0 : Int).toNat).take ((FK ((a.length : Int) - 1)).toNat - (0 : Int).toNat))) (tr (y := slO (inS 0 (FK ((a.length : Int) - 1)) a.length) (0 : Int).toNat (FK ((a.length : Int) - 1)).toNat (fun z1 j => .sl true (((a.flatMap iCu).drop (z1 * 1)).take ((j - z1) * 1)) (j - z1))) (wG e (tm (aG _) (pY e)))) (.mu 1 (.done (.pop ?_)))))
    exact av ((a.drop (0 : Int).toNat).take ((FK ((a.length : Int) - 1)).toNat - (0 : Int).toNat)) hr ((Wk.gc [0] [] rfl pK0).to)
   refine .leave rfl ?_
   obtain rfl := oi hr
   exact ⟨rfl, ((Wk.gc [0] [] rfl pK0).to)⟩
  replace hr := ch b hr
  refine .r0 G (.mu 2 (.p0 (v := aB false) (eB b) (.mu 9 (.done (.nh [0, 14] [] (.cF kRf (.leave rfl ?_)))))))
  obtain rfl := oi hr
  exact ⟨rfl, ((Wk.gc [0] [] rfl pK0).to)⟩
 rintro x st' c
 clear d
 obtain ⟨rfl, c⟩ := c
 refine aW _ rfl (.wk c (.seq (.ru G (.ret ?_))))
 obtain rfl := oi hr
 exact aK.r1 [az f]

theorem tz {negative : Bool} {g : List Int} {negative_ : Bool} {a : List Int} (h : ([.at (.bool negative), slT iCu g] : List AV) = [.at (.bool negative_), slT iCu a]) : negative = negative_ /\ g = a := by
 simp only [List.cons.injEq, AV.agg.injEq, AV.at.injEq, Value.int.injEq, Value.bool.injEq, AV.fn.injEq, AV.pp.injEq, true_and, and_true, dV] at h
 simp_all
theorem mh (n : Nat) {negative : Bool} {g : List Int} {negative_ : Bool} {a : List Int} (h : ([.at (.bool negative), slT iCu g] : List AV) = [.at (.bool negative_), slT iCu a]) : bI n negative g = bI n negative_ a := by
 obtain ⟨rfl, rfl⟩ := tz h
 rfl
theorem bU (n : Nat) (negative : Bool) (g : List Int) (r : ah) (hr : bI n negative g = some r) : aO Tryz.prog 147 [aB negative, az g] (.agg (ah.c r)) := by
 unfold bI at hr
 refine aO.bd G Tryz.func147 [.cell 4 40] ?_
 unfold Tryz.f147
 simp only [gS]
 refine .seq (.r5 G [0, 1] [(4, .hp 0 0)] [.own [aB false, nS]] (.seq ?_))
 obtain ⟨a, b, hr⟩ := bd hr
 refine .g1 G (ok0 (gx n g a b)) (.mu 1 (.ca cf0 (.mu 1 (.done (.nh [0, 1, 4] [.own [aB false, nS]] (.seq (.seq (.r4 G [0, 1, 4] [(9, aB (((a.length : Int) : Int) == 0))] ?_))))))))
 refine .cd hr ?_ ?_ <;> intro d hr
 ·refine .seq (.r4 G [4] [] (.ret ?_))
  obtain rfl := oi hr
  exact aK.ret (vs := [.agg [aB false, nS]]) kRf (Sn.agg (Sp (SnL.cons Sn.gh SnL.nil)))
 refine .skip (.seq (.r5 G [4] [] [.own [aB negative, az a]] (.ret ?_)))
 obtain rfl := oi hr
 exact aK.r1 [.agg [aB negative, az a]]

theorem rB (n : Nat) {b : Int} {a : Int} (h : ([.at (.int .i64 b)] : List AV) = [.at (.int .i64 a)]) : fC n b = fC n a := by
 obtain rfl := eN h
 rfl
theorem iZ (n : Nat) (a : Int) (r : ah) (hr : fC n a = some r) : aO Tryz.prog 108 [ag a] (.agg (ah.c r)) := by
 unfold fC at hr
 refine aO.bd G Tryz.func108 [.cell 2 40] ?_
 unfold Tryz.f108
 simp only [gS]
 refine .seq (.r5 G [0] [(2, .hp 0 0)] [.own [aB false, nS]] (.seq (.r4 G [0, 2] [(3, cU (wFu a))] (.seq (.seq (.r4 G [0, 2, 3] [(7, aB (decide (a < 0)))] ?_))))))
 refine .cd hr ?_ ?_ <;> intro b hr
 ·refine .r0 G (.mu 1 (.p0 (v := cU (wFu (0 - (wFu a)))) (tr (y := some (.pure (cU (IntKind.wrap .u64 (0 - (wFu a)))))) x7) (.mu 1 (.done (.nh [0, 2, 3] [.own [aB false, nS]] (.seq ?_))))))
  obtain ⟨j, d, e, f, hr⟩ := bd2 hr
  refine .gn G (ca1 (ok0 (e9 n (wFu (0 - (wFu a))) j d)) (ca3 (ok0 (bU n true j e f)))) (.mu 1 (.p0 (v := aB true) (eB b) (.mu 1 (.ca cf0 (.ca (cfF cf0) (.mu 1 (.done (.nh [2] [.own (ah.c e)] (.ret ?_)))))))))
  obtain rfl := oi hr
  exact aK.r1 [.agg (ah.c e)]
 refine .skip (.seq ?_)
 obtain ⟨k, g, h, i, hr⟩ := bd2 hr
 refine .gn G (ca1 (ok0 (e9 n (wFu a) k g)) (ca3 (ok0 (bU n false k h i)))) (.mu 1 (.p0 (v := aB false) (eB b) (.mu 1 (.ca cf0 (.ca (cfF cf0) (.mu 1 (.done (.nh [2] [.own (ah.c h)] (.ret ?_)))))))))
 obtain rfl := oi hr
 exact aK.r1 [.agg (ah.c h)]

theorem r6 (n : Nat) (g : Int) (r : Bool) (hr : mj n g = some r) : aO Tryz.prog 178 [bj g] (aB r) := by
 unfold mj at hr
 refine aO.bd G Tryz.func178 [.tmp 2] ?_
 unfold Tryz.f178
 simp only [gS]
 refine .seq (.r4 G [0] [] (.seq (.ru G (.ret ?_))))
 obtain rfl := oi hr
 exact aK.r1 [aB (decide (g >= 1000000000))]

theorem fP (n : Nat) (s : List Int) (r : Int) (hr : bz n s = some r) : aO Tryz.prog 197 [az s, .fn 178 [] []] (ag r) := by
 unfold bz at hr
 refine aO.bd G Tryz.func197 [.tmp 4] ?_
 unfold Tryz.f197
 simp only [gS]
 refine .seq (.r4 G [0, 1] [] (.seq (.seq (.r4 G [0, 1] [(7, ag (s.length : Int)), (8, ag 0)] (.block ?_)))))
 replace hr := bd hr; obtain ⟨d, c, hr⟩ := hr
 refine .aN (σ := fun i => match i with | a => ⟨mkS 19 0 [(0, az s), (1, .fn 178 [] []), (7, ag (s.length : Int)), (8, ag a)], []⟩) (Q := fun x st' => match (generalizing := false) d with | .inl _ => x = .exit 0 /\ Wk 0 st' ⟨mkS 19 0 [], []⟩ | .inr (r0) => x = .ret /\ aK Tryz.prog [.tmp 4] (ag r0) .ret st') c ((Wk.gc [0, 1, 7, 8] [] rfl pK0).to) ?_ ?_
 ·clear hr
  rintro m a hr
  refine CQ.sh ?_
  refine .seq (.r4 G [0, 1, 7, 8] [(9, aB (decide (a < (s.length : Int))))] (.seq ?_))
  refine .cd hr ?_ ?_ <;> intro j hr
  ·refine .skip (.seq (.block (.seq (.r4 G [0, 1, 7, 8] [(5, ag a)] (.seq ?_)))))
   obtain ⟨e, hr⟩ := gd hr
   obtain ⟨g, f, hr⟩ := bd hr
   refine .g1 G (ok0 (r6 n (gt s a) g f)) (.mu 3 (.p0 (v := .pp (s.flatMap iCu) (a.toNat * 1)) (tr (au e)) (.p0 (v := bj (gt s a)) (tr (aE (aF (aG .u32) (aC e) z1 (by omega : a.toNat * 1 = a.toNat * 1 + 0) kRf))) (.ca cf0 (.done (.nh [0, 1, 5, 7, 8, 16] [] ?_))))))
   refine .cd hr ?_ ?_ <;> intro h hr
   ·refine .seq (.ru G (.ret ?_))
    obtain rfl := oi hr
    exact ⟨rfl, aK.ret (vs := [ag a]) kRf (Sn.pure rfl)⟩
   refine .skip (.pop (.ru G ?_))
   exact av (FK (a + 1)) hr ((Wk.gc [0, 1, 7, 8] [] rfl pK0).to)
  refine .leave rfl ?_
  obtain rfl := oi hr
  exact ⟨rfl, ((Wk.gc [] [] rfl pK0).to)⟩
 rcases d with ⟨⟩ | r0
 ·rintro x st' b
  clear c
  obtain ⟨rfl, b⟩ := b
  refine aW _ rfl (.wk b (.seq (.ru G (.ret ?_))))
  obtain rfl := oi hr
  exact aK.r1 [ag (-1)]
 rintro x st' b
 clear c
 obtain ⟨rfl, b⟩ := b
 obtain rfl := oi hr
 exact iM _ b

theorem fq (n : Nat) (s : List Int) (r : Bool) (hr : bb n s = some r) : aO Tryz.prog 177 [az s, .fn 178 [] []] (aB r) := by
 unfold bb at hr
 refine aO.bd G Tryz.func177 [.tmp 4] ?_
 unfold Tryz.f177
 simp only [gS]
 refine .seq (.r4 G [0, 1] [] (.seq ?_))
 obtain ⟨b, a, hr⟩ := bd hr
 refine .g1 G (ok0 (fP n s b a)) (.mu 2 (.ca cf0 (.mu 2 (.done (.ret ?_)))))
 obtain rfl := oi hr
 exact aK.r1 [aB (decide (b >= 0))]

theorem eE {b : ah} {a : ah} (h : ([.agg [.at (.bool b.Negative), slT iCu b.Groups]] : List AV) = [.agg [.at (.bool a.Negative), slT iCu a.Groups]]) : b = a := by
 obtain ⟨_, _⟩ := b
 obtain ⟨_, _⟩ := a
 simp only [List.cons.injEq, AV.agg.injEq, AV.at.injEq, Value.int.injEq, Value.bool.injEq, AV.fn.injEq, AV.pp.injEq, true_and, and_true, dV] at h
 simp_all
theorem oy (n : Nat) {b : ah} {a : ah} (h : ([.agg (ah.c b)] : List AV) = [.agg (ah.c a)]) : eA n b = eA n a := by
 obtain rfl := eE h
 rfl
theorem fe (n : Nat) (a : ah) (r : Bool) (hr : eA n a = some r) : aO Tryz.prog 142 [.agg (ah.c a)] (aB r) := by
 unfold eA at hr
 refine aO.bd G Tryz.func142 [.tmp 2] ?_
 unfold Tryz.f142
 simp only [gS]
 refine .seq (.r2 G 25 [(1, .hp 0 0)] [.own (ah.c a)] (.seq (.r4 G [1] [(3, ag (a.Groups.length : Int))] (.seq (.seq (.r4 G [1, 3] [(8, aB (((a.Groups.length : Int) : Int) == 0))] ?_))))))
 refine .cd hr ?_ ?_ <;> intro g hr
 ·refine .seq (.ru G (.ret ?_))
  obtain rfl := oi hr
  exact aK.r1 [aB (!a.Negative)]
 refine .skip (.seq ?_)
 obtain ⟨d, hr⟩ := gd hr
 rcases bT (((gt a.Groups (FK ((a.Groups.length : Int) - 1))) : Int) != 0) with b | b
 ·replace hr := cg b hr
  obtain ⟨f, e, hr⟩ := bd hr
  refine .g1 G (ok0 (fq n a.Groups f e)) (.mu 4 (.p0 (v := .pp (a.Groups.flatMap iCu) ((FK ((a.Groups.length : Int) - 1)).toNat * 1)) (tr (au d)) (.p0 (v := bj (gt a.Groups (FK ((a.Groups.length : Int) - 1)))) (tr (aE (aF (aG .u32) (aC d) z1 (by omega : (FK ((a.Groups.length : Int) - 1)).toNat * 1 = (FK ((a.Groups.length : Int) - 1)).toNat * 1 + 0) kRf))) (.p0 (v := aB true) (eB b) (.mu 3 (.ca cf0 (.mu 3 (.done (.ret ?_)))))))))
  obtain rfl := oi hr
  exact aK.r1 [aB (!f)]
 replace hr := ch b hr
 refine .r0 G (.mu 4 (.p0 (v := .pp (a.Groups.flatMap iCu) ((FK ((a.Groups.length : Int) - 1)).toNat * 1)) (tr (au d)) (.p0 (v := bj (gt a.Groups (FK ((a.Groups.length : Int) - 1)))) (tr (aE (aF (aG .u32) (aC d) z1 (by omega : (FK ((a.Groups.length : Int) - 1)).toNat * 1 = (FK ((a.Groups.length : Int) - 1)).toNat * 1 + 0) kRf))) (.p0 (v := aB false) (eB b) (.mu 7 (.done (.ret ?_)))))))
 obtain rfl := oi hr
 exact aK.r1 [aB false]

theorem rk (n : Nat) {b : ah} {a : ah} (h : ([.agg (ah.c b)] : List AV) = [.agg (ah.c a)]) : fb n b = fb n a := by
 obtain rfl := eE h
 rfl
theorem mC (n : Nat) (a : ah) (r : ah) (hr : fb n a = some r) : aO Tryz.prog 190 [.agg (ah.c a)] (.agg (ah.c r)) := by
 unfold fb at hr
 refine aO.bd G Tryz.func190 [.cell 2 40] ?_
 unfold Tryz.f190
 simp only [gS]
 refine .seq (.r2 G 7 [(1, .hp 0 0), (2, .hp 1 0)] [.own (ah.c a), .own [aB false, nS]] (.seq (.seq ?_)))
 obtain ⟨f, b, hr⟩ := bd hr
 refine .g1 G (ok0 (fe n a f b)) (.mu 1 (.ca cf0 (.done (.nh [1, 2, 4] [.own (ah.c a), .own [aB false, nS]] ?_))))
 refine .cd hr ?_ ?_ <;> intro g hr
 ·refine .seq (.r5 G [2] [] [.own (ah.c a), .own (ah.c a)] (.ret ?_))
  obtain rfl := oi hr
  exact aK.r1 [.agg (ah.c a)]
 refine .skip (.seq ?_)
 obtain ⟨d, e, hr⟩ := bd hr
 refine .g1 G (ok0 (iZ n 0 d e)) (.ca cf0 (.mu 1 (.done (.nh [2] [.own (ah.c a), .own (ah.c d)] (.ret ?_)))))
 obtain rfl := oi hr
 exact aK.r1 [.agg (ah.c d)]

theorem gL (n : Nat) {b : ah} {a : ah} (h : ([.agg (ah.c b)] : List AV) = [.agg (ah.c a)]) : bG n b = bG n a := by
 obtain rfl := eE h
 rfl
theorem b9 (n : Nat) (a : ah) (r : List Int) (hr : bG n a = some r) : aO Tryz.prog 162 [.agg (ah.c a)] (az r) := by
 unfold bG at hr
 refine aO.bd G Tryz.func162 [.tmp 2] ?_
 unfold Tryz.f162
 simp only [gS]
 refine .seq (.r2 G 8 [(1, .hp 0 0)] [.own (ah.c a)] (.seq (.seq ?_)))
 obtain ⟨d, b, hr⟩ := bd hr
 refine .g1 G (ok0 (fe n a d b)) (.mu 1 (.ca cf0 (.mu 1 (.done (.nh [1, 5] [.own (ah.c a)] ?_)))))
 refine .cd hr ?_ ?_ <;> intro e hr
 ·refine .seq (.r3 G 8 [(2, nS)] (.ret ?_))
  obtain rfl := oi hr
  exact aK.ret (vs := [nS]) kRf Sn.gh
 refine .skip (.seq (.ru G (.ret ?_)))
 obtain rfl := oi hr
 exact aK.r1 [az a.Groups]

theorem uH (n : Nat) {b : ah} {a : ah} (h : ([.agg (ah.c b)] : List AV) = [.agg (ah.c a)]) : dr n b = dr n a := by
 obtain rfl := eE h
 rfl
theorem fA (n : Nat) (a : ah) (r : Int) (hr : dr n a = some r) : aO Tryz.prog 143 [.agg (ah.c a)] (ag r) := by
 unfold dr at hr
 refine aO.bd G Tryz.func143 [.tmp 2] ?_
 unfold Tryz.f143
 simp only [gS]
 refine .seq (.r2 G 11 [(1, .hp 0 0)] [.own (ah.c a)] (.seq (.block (.seq ?_))))
 obtain ⟨d, b, hr⟩ := bd hr
 refine .g1 G (ok0 (b9 n a d b)) (.mu 1 (.ca cf0 (.mu 3 (.done (.nh [1, 3] [.own (ah.c a)] ?_)))))
 refine .cd hr ?_ ?_ <;> intro e hr
 ·refine .seq (.ru G (.ret ?_))
  obtain rfl := oi hr
  exact aK.r1 [ag 0]
 refine .seq (.r3 G 11 [(8, aB a.Negative)] ?_)
 refine .cd hr ?_ ?_ <;> intro f hr
 ·refine .seq (.ru G (.ret ?_))
  obtain rfl := oi hr
  exact aK.r1 [ag (-1)]
 refine .skip (.pop (.seq (.ru G (.ret ?_))))
 obtain rfl := oi hr
 exact aK.r1 [ag 1]

theorem fm (n : Nat) (s : List Int) (r : List Int) (hr : cc n s = some r) : aO Tryz.prog 183 [az s] (az r) := by
 unfold cc at hr
 refine aO.bd G Tryz.func183 [.tmp 2] ?_
 unfold Tryz.f183
 simp only [gS]
 refine .seq (.r4 G [0] [] (.seq (.seq ?_)))
 refine .CV (t := 0) (cs := s.flatMap iCu) (len := s.length) kRf (fun a => ?_) ?_
 ·obtain rfl : s = [] := List.length_eq_zero_iff.1 a
  have hx := gd hr; clear hr; obtain ⟨_, hr⟩ := hx
  have hx := gd hr; clear hr; obtain ⟨_, hr⟩ := hx
  refine .r4 G [0] [(4, aB true)] (.cT kRf (.seq (.r3 G 8 [(2, nS)] (.ret ?_))))
  obtain rfl := oi hr
  exact aK.ret (vs := [nS]) kRf Sn.gh
 refine .r4 G [0] [(4, aB false)] (.cF kRf (.skip (.seq ?_)))
 obtain ⟨b, c, hr⟩ := gd2 hr
 refine .r0 G (.mu 2 (.e0 (v := .hs 1 0 s.length 1) (ws := [(0, .dead), (1, .own (s.flatMap iCu))]) (tr (y := zo (decide (((s.flatMap iCu)).length = s.length * 1)) (s.flatMap iCu) s.length (fun z1 d => og (decide (0 + 0 * 1 <= (([] : List Int).flatMap iCu).length) && decide ((0 + d) * 4 <= 140737488355328) && decide (0 + d <= 4611686018427387904)) (some (.eff (.hs 1 0 (0 + d) 1) [(0, .dead), (1, .own (((([] : List Int).flatMap iCu).drop 0).take (0 * 1) ++ z1))])))) (tt (mP (aG _)) rfl (dB (l := ([] : List Int)) (xs := s) (aG _) rfl rfl rfl b c))) (.mu 1 (.done (.nh [2] [.dead, .own (s.flatMap iCu)] (.ret ?_))))))
 obtain rfl := oi hr
 exact aK.ret (vs := [.hs 1 0 s.length 1]) kRf (Sn.hs rfl (.inl rfl) (SnC.pure (a7 (aD _) _)) (fun h => bZ h))

theorem fY (n : Nat) {b : ah} {a : ah} (h : ([.agg (ah.c b)] : List AV) = [.agg (ah.c a)]) : dU n b = dU n a := by
 obtain rfl := eE h
 rfl
theorem gj (n : Nat) (a : ah) (r : ah) (hr : dU n a = some r) : aO Tryz.prog 158 [.agg (ah.c a)] (.agg (ah.c r)) := by
 unfold dU at hr
 refine aO.bd G Tryz.func158 [.cell 2 40] ?_
 unfold Tryz.f158
 simp only [gS]
 refine .seq (.r2 G 10 [(1, .hp 0 0), (2, .hp 1 0)] [.own (ah.c a), .own [aB false, nS]] (.seq ?_))
 obtain ⟨g, b, h, d, e, f, hr⟩ := bd3 hr
 refine .tn G (ca1 (ok0 (b9 n a g b)) (ca1 (ok0 (fm n g h d)) (ca3 (ok0 (bU n (!a.Negative) h e f))))) (.mu 4 (.ca cf0 (.ca (cfF cf0) (.ca (cfF (cfF cf0)) (.mu 1 ?_)))))
 refine .done (kRa ?_)
 refine .nh [2] [.own (ah.c a), .own (ah.c e)] (.ret ?_)
 obtain rfl := oi hr
 exact aK.r1 [.agg (ah.c e)]




theorem tV (n : Nat) (a : List Int) (b : List Int) (r : List Int) (hr : jb n a b = some r) : aO Tryz.prog 161 [az a, az b] (az r) := by
 unfold jb at hr
 refine aO.bd G Tryz.func161 [.tmp 4] ?_
 unfold Tryz.f161
 simp only [gS]
 refine .seq (.r4 G [0, 1] [] (.seq ?_))
 obtain ⟨E, F, H, hr⟩ := gd3 hr
 refine .r0 G (.mu 5 (.e0 (v := .hs 0 0 (List.replicate (FK ((a.length : Int) + (b.length : Int))).toNat ((0 : Int) : Int)).length 1) (ws := [(0, .own ((List.replicate (FK ((a.length : Int) + (b.length : Int))).toNat ((0 : Int) : Int)).flatMap iCu))]) (tr (lT (c := iCu) (z := (0 : Int)) (n := FK ((a.length : Int) + (b.length : Int))) (by_ := 4) rfl E F H)) (.mu 1 (.done (.nh [0, 1, 5] [.own ((List.replicate (FK ((a.length : Int) + (b.length : Int))).toNat ((0 : Int) : Int)).flatMap iCu)] (.seq (.seq (.r4 G [1, 5] [(18, az a), (19, ag (a.length : Int)), (20, ag 0)] (.block ?_)))))))))
 replace hr := bd hr; obtain ⟨o, u, hr⟩ := hr
 refine .aN (σ := fun I => match I with | (p, e) => ⟨mkS 69 0 [(1, az b), (5, .hs 0 0 p.length 1), (18, az a), (19, ag (a.length : Int)), (20, ag e)], [.own (p.flatMap iCu)]⟩) (Q := fun x st' => x = .exit 0 /\ Wk 0 st' ⟨mkS 69 0 [(5, .hs 0 0 o.length 1)], [.own (o.flatMap iCu)]⟩) u ((Wk.gc [1, 5, 18, 19, 20] [(0, false)] rfl (pKo iCu (aD _) (List.replicate (FK ((a.length : Int) + (b.length : Int))).toNat ((0 : Int) : Int)) trivial)).to) ?_ ?_
 ·clear hr
  rintro m ⟨p, e⟩ hr
  refine CQ.sh ?_
  refine .seq (.r4 G [1, 5, 18, 19, 20] [(21, aB (decide (e < (a.length : Int))))] (.seq ?_))
  refine .cd hr ?_ ?_ <;> intro J hr
  ·refine .skip (.seq (.block (.seq ?_)))
   obtain ⟨w, hr⟩ := gd hr
   refine .r0 G (.mu 1 (.p0 (v := .pp (a.flatMap iCu) (e.toNat * 1)) (tr (au w)) (.p0 (v := bj (gt a e)) (tr (aE (aF (aG .u32) (aC w) z1 (by omega : e.toNat * 1 = e.toNat * 1 + 0) kRf))) (.mu 2 (.done (.nh [1, 5, 6, 7, 18, 19, 20] [.own (p.flatMap iCu)] (.seq (.r4 G [1, 5, 6, 7, 18, 19, 20] [(8, cU 0)] (.seq (.seq (.r4 G [1, 5, 6, 7, 8, 18, 19, 20] [(25, az b), (26, ag (b.length : Int)), (27, ag 0)] (.block ?_))))))))))))
   replace hr := bd hr; obtain ⟨B, y, hr⟩ := hr
   refine .aN (σ := fun I => match I with | (f, g, d) => ⟨mkS 69 0 [(1, az b), (5, .hs 0 0 f.length 1), (6, ag e), (7, bj (gt a e)), (8, cU g), (18, az a), (19, ag (a.length : Int)), (20, ag e), (25, az b), (26, ag (b.length : Int)), (27, ag d)], [.own (f.flatMap iCu)]⟩) (Q := fun x st' => match (generalizing := false) B with | (i, j) => x = .exit 2 /\ Wk 0 st' ⟨mkS 69 0 [(1, az b), (5, .hs 0 0 i.length 1), (6, ag e), (8, cU j), (18, az a), (19, ag (a.length : Int)), (20, ag e)], [.own (i.flatMap iCu)]⟩) y ((Wk.gc [1, 5, 6, 7, 8, 18, 19, 20, 25, 26, 27] [(0, false)] rfl (pKo iCu (aD _) p trivial)).to) ?_ ?_
   ·clear hr
    rintro m ⟨f, g, d⟩ hr
    refine CQ.sh ?_
    refine .seq (.r4 G [1, 5, 6, 7, 8, 18, 19, 20, 25, 26, 27] [(28, aB (decide (d < (b.length : Int))))] (.seq ?_))
    refine .cd hr ?_ ?_ <;> intro L hr
    ·refine .skip (.seq (.block (.seq ?_)))
     obtain ⟨A, hr⟩ := gd hr
     refine .r0 G (.mu 1 (.p0 (v := .pp (b.flatMap iCu) (d.toNat * 1)) (tr (au A)) (.p0 (v := bj (gt b d)) (tr (aE (aF (aG .u32) (aC A) z1 (by omega : d.toNat * 1 = d.toNat * 1 + 0) kRf))) (.mu 2 (.done (.nh [1, 5, 6, 7, 8, 9, 10, 18, 19, 20, 25, 26, 27] [.own (f.flatMap iCu)] (.seq ?_)))))))
     obtain ⟨k, hr⟩ := gd hr
     refine .r0 G (.mu 4 (.p0 (v := .hp 0 (0 + (FK (e + d)).toNat * 1)) (tr (au k)) (.p0 (v := bj (gt f (FK (e + d)))) (tr (aE (aF (aG .u32) (aC k) z1 (by omega : 0 + (FK (e + d)).toNat * 1 = (FK (e + d)).toNat * 1 + 0) kRf))) (.mu 10 (.done (.nh [1, 5, 6, 7, 9, 11, 18, 19, 20, 25, 26, 27] [.own (f.flatMap iCu)] (.r0 G (.mu 9 (.p0 (v := .hp 0 (0 + (FK (e + d)).toNat * 1)) (tr (au k)) (.e0 (v := .unk) (ws := [(0, .own ((f.set (FK (e + d)).toNat (aa .u32 ((wFu ((wFu ((wFu (gt f (FK (e + d)))) + (wFu ((wFu (gt a e)) * (wFu (gt b d)))))) + g)).tmod 1000000000))).flatMap iCu))]) (tr (jC (jA (cD (n := 1) (aG .u32) (aC k) (lbT rfl) (by omega : 0 + (FK (e + d)).toNat * 1 = (FK (e + d)).toNat * 1 + 0))) (congrArg Blk.own (c9 (xs := [bj (aa .u32 ((wFu ((wFu ((wFu (gt f (FK (e + d)))) + (wFu ((wFu (gt a e)) * (wFu (gt b d)))))) + g)).tmod 1000000000))]) (aG .u32) (aC k) (lbT rfl) (by omega : 0 + (FK (e + d)).toNat * 1 = (FK (e + d)).toNat * 1 + 0) kRf)))) (.mu 1 (.done (.pop (.ru G ?_))))))))))))))
     exact av (f.set (FK (e + d)).toNat (aa .u32 ((wFu ((wFu ((wFu (gt f (FK (e + d)))) + (wFu ((wFu (gt a e)) * (wFu (gt b d)))))) + g)).tmod 1000000000)), wFu ((wFu ((wFu ((wFu (gt f (FK (e + d)))) + (wFu ((wFu (gt a e)) * (wFu (gt b d)))))) + g)).tdiv 1000000000), FK (d + 1)) hr ((Wk.jl 5 (b := 0) (es := 1) (len := f.length) (f.set (FK (e + d)).toNat (aa .u32 ((wFu ((wFu ((wFu (gt f (FK (e + d)))) + (wFu ((wFu (gt a e)) * (wFu (gt b d)))))) + g)).tmod 1000000000))).length kRf (Eq.symm (List.length_set.trans rfl))).trans ((Wk.gc [1, 5, 6, 7, 8, 18, 19, 20, 25, 26, 27] [(0, false)] rfl (pKo iCu (aD _) (f.set (FK (e + d)).toNat (aa .u32 ((wFu ((wFu ((wFu (gt f (FK (e + d)))) + (wFu ((wFu (gt a e)) * (wFu (gt b d)))))) + g)).tmod 1000000000))) trivial)).to))
    refine .leave rfl ?_
    obtain rfl := oi hr
    exact ⟨rfl, ((Wk.gc [1, 5, 6, 8, 18, 19, 20] [(0, false)] rfl (pKo iCu (aD _) f trivial)).to)⟩
   rcases B with ⟨i, j⟩
   rintro x st' q
   clear y
   obtain ⟨rfl, q⟩ := q
   refine aW _ rfl (.wk q ?_)
   obtain ⟨s, hr⟩ := gd hr
   refine .r0 G (.mu 7 (.p0 (v := .hp 0 (0 + (FK (e + (b.length : Int))).toNat * 1)) (tr (au s)) (.e0 (v := .unk) (ws := [(0, .own ((i.set (FK (e + (b.length : Int))).toNat (aa .u32 j)).flatMap iCu))]) (tr (jC (jA (cD (n := 1) (aG .u32) (aC s) (lbT rfl) (by omega : 0 + (FK (e + (b.length : Int))).toNat * 1 = (FK (e + (b.length : Int))).toNat * 1 + 0))) (congrArg Blk.own (c9 (xs := [bj (aa .u32 j)]) (aG .u32) (aC s) (lbT rfl) (by omega : 0 + (FK (e + (b.length : Int))).toNat * 1 = (FK (e + (b.length : Int))).toNat * 1 + 0) kRf)))) (.done (.pop (.ru G ?_))))))
   exact av (i.set (FK (e + (b.length : Int))).toNat (aa .u32 j), FK (e + 1)) hr ((Wk.jl 5 (b := 0) (es := 1) (len := i.length) (i.set (FK (e + (b.length : Int))).toNat (aa .u32 j)).length kRf (Eq.symm (List.length_set.trans rfl))).trans ((Wk.gc [1, 5, 18, 19, 20] [(0, false)] rfl (pKo iCu (aD _) (i.set (FK (e + (b.length : Int))).toNat (aa .u32 j)) trivial)).to))
  refine .leave rfl ?_
  obtain rfl := oi hr
  exact ⟨rfl, ((Wk.gc [5] [(0, false)] rfl (pKo iCu (aD _) p trivial)).to)⟩
 rintro x st' t
 clear u
 obtain ⟨rfl, t⟩ := t
 refine aW _ rfl (.wk t (.seq ?_))
 obtain ⟨C, D, hr⟩ := bd hr
 refine .g1 G (cx (args := [.hs 0 0 o.length 1]) (l := [0]) (SnL.cons (Sn.hs rfl (.inl rfl) (SnC.pure (a7 (aD _) _)) (fun h => bZ h)) SnL.nil) (gx n o C D)) (.mu 1 (.ca cf0 (.mu 1 (.done (.ret ?_)))))
 obtain rfl := oi hr
 exact aK.r1 [az C]

theorem sF (n : Nat) (g : List Int) (r : List Int) (hr : nj n g = some r) : dK 1 Tryz.prog 184 [.hs 0 0 g.length 1] [.own (g.flatMap iCu)] (.hs 0 0 r.length 1) [.own (r.flatMap iCu)] := by
 unfold nj at hr
 refine dK.qf G Tryz.func184 (c := (Tryz.f184.body).getD .skip) rfl (us := [.hs 0 0 r.length 1]) (s := mkS 21 0 [(0, .hs 0 0 g.length 1)]) kRf (rs := [.tmp 2]) rfl ?_
 unfold Tryz.f184
 simp only [gS]
 refine .seq (.r4 G [0] [] (.seq (.block ?_)))
 replace hr := bd hr; obtain ⟨b, f, hr⟩ := hr
 refine .aN (σ := fun k => match k with | a => ⟨mkS 21 0 [(0, .hs 0 0 a.length 1)], [.own (a.flatMap iCu)]⟩) (Q := fun x st' => x = .exit 0 /\ Wk 1 st' ⟨mkS 21 0 [(0, .hs 0 0 b.length 1)], [.own (b.flatMap iCu)]⟩) f ((Wk.gc [0] [(0, false)] rfl (pKo iCu (aD _) g trivial)).to) ?_ ?_
 ·clear hr
  rintro m a hr
  refine CQ.sh ?_
  refine .seq (.seq ?_)
  rcases bT (decide ((a.length : Int) > 0)) with d | d
  ·replace hr := cg d hr
   obtain ⟨h, hr⟩ := gd hr
   refine .r0 G (.mu 2 (.p0 (v := aB true) (eB d) (.mu 5 (.pure (v := .hp 0 (0 + (FK ((a.length : Int) - 1)).toNat * 1)) kRf (tr (au h)) (.pure (v := bj (gt a (FK ((a.length : Int) - 1)))) kRf (tr (aE (aF (aG .u32) (aC h) z1 (by omega : 0 + (FK ((a.length : Int) - 1)).toNat * 1 = (FK ((a.length : Int) - 1)).toNat * 1 + 0) kRf))) (.mu 2 (.done (.nh [0, 14] [.own (a.flatMap iCu)] ?_))))))))
   refine .cd hr ?_ ?_ <;> intro j hr
   ·refine .skip (.block ?_)
    obtain ⟨i, hr⟩ := gd hr
    refine .r0 G (.mu 4 (.p0 (v := .hs 0 0 (FK ((a.length : Int) - 1)).toNat 1) (tr (y := slH (inS 0 (FK ((a.length : Int) - 1)) a.length) true ((0 : Int).toNat) ((FK ((a.length : Int) - 1)).toNat) (fun z1 l => .hs 0 (0 + z1 * 1) (l - z1) 1)) (Cb i kRf)) (.mu 1 (.done (.pop ?_)))))
    exact av (a.take (FK ((a.length : Int) - 1)).toNat) hr ((Wk.Fl (c := iCu) (es := 1) 0 0 (aG _) a (FK ((a.length : Int) - 1)).toNat (pY i) kRf kRf).trans ((Wk.gc [0] [(0, false)] rfl (pKo iCu (aD _) (a.take (FK ((a.length : Int) - 1)).toNat) trivial)).to))
   refine .leave rfl ?_
   obtain rfl := oi hr
   exact ⟨rfl, ((Wk.gc [0] [(0, false)] rfl (pKo iCu (aD _) a trivial)).to)⟩
  replace hr := ch d hr
  refine .r0 G (.mu 2 (.p0 (v := aB false) (eB d) (.mu 9 (.done (.nh [0, 14] [.own (a.flatMap iCu)] (.cF kRf (.leave rfl ?_)))))))
  obtain rfl := oi hr
  exact ⟨rfl, ((Wk.gc [0] [(0, false)] rfl (pKo iCu (aD _) a trivial)).to)⟩
 rintro x st' e
 clear f
 obtain ⟨rfl, e⟩ := e
 refine aW _ rfl (.wk e (.seq (.r3 G 21 [(2, .hs 0 0 b.length 1)] (.ret ?_))))
 obtain rfl := oi hr
 exact gR.ret [.hs 0 0 b.length 1] ((Wk.gc [0] [(0, false)] rfl (pKo iCu (aD _) b trivial)).to)

theorem ns (n : Nat) (a : List Int) (b : List Int) (r : List Int) (hr : iO n a b = some r) : dK 1 Tryz.prog 161 [az a, .hs 0 0 b.length 1] [.own (b.flatMap iCu)] (.hs 1 0 r.length 1) [.own (b.flatMap iCu), .own (r.flatMap iCu)] := by
 unfold iO at hr
 refine dK.qf G Tryz.func161 (c := (Tryz.f161.body).getD .skip) rfl (us := [.hs 1 0 r.length 1]) (s := mkS 69 0 [(0, az a), (1, .hs 0 0 b.length 1)]) kRf (rs := [.tmp 4]) rfl ?_
 unfold Tryz.f161
 simp only [gS]
 refine .seq (.r4 G [0, 1] [] (.seq ?_))
 obtain ⟨B, C, D, hr⟩ := gd3 hr
 refine .r0 G (.mu 5 (.e0 (v := .hs 1 0 (List.replicate (FK ((a.length : Int) + (b.length : Int))).toNat ((0 : Int) : Int)).length 1) (ws := [(1, .own ((List.replicate (FK ((a.length : Int) + (b.length : Int))).toNat ((0 : Int) : Int)).flatMap iCu))]) (tr (lT (c := iCu) (z := (0 : Int)) (n := FK ((a.length : Int) + (b.length : Int))) (by_ := 4) rfl B C D)) (.mu 1 (.done (.nh [0, 1, 5] [.own (b.flatMap iCu), .own ((List.replicate (FK ((a.length : Int) + (b.length : Int))).toNat ((0 : Int) : Int)).flatMap iCu)] (.seq (.seq (.r4 G [1, 5] [(18, az a), (19, ag (a.length : Int)), (20, ag 0)] (.block ?_)))))))))
 replace hr := bd hr; obtain ⟨l, u, hr⟩ := hr
 refine .aN (σ := fun H => match H with | (j, d) => ⟨mkS 69 0 [(1, .hs 0 0 b.length 1), (5, .hs 1 0 j.length 1), (18, az a), (19, ag (a.length : Int)), (20, ag d)], [.own (b.flatMap iCu), .own (j.flatMap iCu)]⟩) (Q := fun x st' => x = .exit 0 /\ Wk 1 st' ⟨mkS 69 0 [(5, .hs 1 0 l.length 1)], [.own (b.flatMap iCu), .own (l.flatMap iCu)]⟩) u ((Wk.gc [1, 5, 18, 19, 20] [(0, false), (1, false)] rfl (pKo iCu (aD _) b (pKo iCu (aD _) (List.replicate (FK ((a.length : Int) + (b.length : Int))).toNat ((0 : Int) : Int)) trivial))).to) ?_ ?_
 ·clear hr
  rintro m ⟨j, d⟩ hr
  refine CQ.sh ?_
  refine .seq (.r4 G [1, 5, 18, 19, 20] [(21, aB (decide (d < (a.length : Int))))] (.seq ?_))
  refine .cd hr ?_ ?_ <;> intro I hr
  ·refine .skip (.seq (.block (.seq ?_)))
   obtain ⟨w, hr⟩ := gd hr
   refine .r0 G (.mu 1 (.p0 (v := .pp (a.flatMap iCu) (d.toNat * 1)) (tr (au w)) (.p0 (v := bj (gt a d)) (tr (aE (aF (aG .u32) (aC w) z1 (by omega : d.toNat * 1 = d.toNat * 1 + 0) kRf))) (.mu 2 (.done (.nh [1, 5, 6, 7, 18, 19, 20] [.own (b.flatMap iCu), .own (j.flatMap iCu)] (.seq (.r4 G [1, 5, 6, 7, 18, 19, 20] [(8, cU 0)] (.seq (.seq (.r4 G [1, 5, 6, 7, 8, 18, 19, 20] [(25, .hs 0 0 b.length 1), (26, ag (b.length : Int)), (27, ag 0)] (.block ?_))))))))))))
   replace hr := bd hr; obtain ⟨E, y, hr⟩ := hr
   refine .aN (σ := fun H => match H with | (f, g, e) => ⟨mkS 69 0 [(1, .hs 0 0 b.length 1), (5, .hs 1 0 f.length 1), (6, ag d), (7, bj (gt a d)), (8, cU g), (18, az a), (19, ag (a.length : Int)), (20, ag d), (25, .hs 0 0 b.length 1), (26, ag (b.length : Int)), (27, ag e)], [.own (b.flatMap iCu), .own (f.flatMap iCu)]⟩) (Q := fun x st' => match (generalizing := false) E with | (h, i) => x = .exit 2 /\ Wk 1 st' ⟨mkS 69 0 [(1, .hs 0 0 b.length 1), (5, .hs 1 0 h.length 1), (6, ag d), (8, cU i), (18, az a), (19, ag (a.length : Int)), (20, ag d)], [.own (b.flatMap iCu), .own (h.flatMap iCu)]⟩) y ((Wk.gc [1, 5, 6, 7, 8, 18, 19, 20, 25, 26, 27] [(0, false), (1, false)] rfl (pKo iCu (aD _) b (pKo iCu (aD _) j trivial))).to) ?_ ?_
   ·clear hr
    rintro m ⟨f, g, e⟩ hr
    refine CQ.sh ?_
    refine .seq (.r4 G [1, 5, 6, 7, 8, 18, 19, 20, 25, 26, 27] [(28, aB (decide (e < (b.length : Int))))] (.seq ?_))
    refine .cd hr ?_ ?_ <;> intro J hr
    ·refine .skip (.seq (.block (.seq ?_)))
     obtain ⟨A, hr⟩ := gd hr
     refine .r0 G (.mu 1 (.p0 (v := .hp 0 (0 + e.toNat * 1)) (tr (au A)) (.p0 (v := bj (gt b e)) (tr (aE (aF (aG .u32) (aC A) z1 (by omega : 0 + e.toNat * 1 = e.toNat * 1 + 0) kRf))) (.mu 2 (.done (.nh [1, 5, 6, 7, 8, 9, 10, 18, 19, 20, 25, 26, 27] [.own (b.flatMap iCu), .own (f.flatMap iCu)] (.seq ?_)))))))
     obtain ⟨k, hr⟩ := gd hr
     refine .r0 G (.mu 4 (.p0 (v := .hp 1 (0 + (FK (d + e)).toNat * 1)) (tr (au k)) (.p0 (v := bj (gt f (FK (d + e)))) (tr (aE (aF (aG .u32) (aC k) z1 (by omega : 0 + (FK (d + e)).toNat * 1 = (FK (d + e)).toNat * 1 + 0) kRf))) (.mu 10 (.done (.nh [1, 5, 6, 7, 9, 11, 18, 19, 20, 25, 26, 27] [.own (b.flatMap iCu), .own (f.flatMap iCu)] (.r0 G (.mu 9 (.p0 (v := .hp 1 (0 + (FK (d + e)).toNat * 1)) (tr (au k)) (.e0 (v := .unk) (ws := [(1, .own ((f.set (FK (d + e)).toNat (aa .u32 ((wFu ((wFu ((wFu (gt f (FK (d + e)))) + (wFu ((wFu (gt a d)) * (wFu (gt b e)))))) + g)).tmod 1000000000))).flatMap iCu))]) (tr (jC (jA (cD (n := 1) (aG .u32) (aC k) (lbT rfl) (by omega : 0 + (FK (d + e)).toNat * 1 = (FK (d + e)).toNat * 1 + 0))) (congrArg Blk.own (c9 (xs := [bj (aa .u32 ((wFu ((wFu ((wFu (gt f (FK (d + e)))) + (wFu ((wFu (gt a d)) * (wFu (gt b e)))))) + g)).tmod 1000000000))]) (aG .u32) (aC k) (lbT rfl) (by omega : 0 + (FK (d + e)).toNat * 1 = (FK (d + e)).toNat * 1 + 0) kRf)))) (.mu 1 (.done (.pop (.ru G ?_))))))))))))))
     exact av (f.set (FK (d + e)).toNat (aa .u32 ((wFu ((wFu ((wFu (gt f (FK (d + e)))) + (wFu ((wFu (gt a d)) * (wFu (gt b e)))))) + g)).tmod 1000000000)), wFu ((wFu ((wFu ((wFu (gt f (FK (d + e)))) + (wFu ((wFu (gt a d)) * (wFu (gt b e)))))) + g)).tdiv 1000000000), FK (e + 1)) hr ((Wk.jl 5 (b := 1) (es := 1) (len := f.length) (f.set (FK (d + e)).toNat (aa .u32 ((wFu ((wFu ((wFu (gt f (FK (d + e)))) + (wFu ((wFu (gt a d)) * (wFu (gt b e)))))) + g)).tmod 1000000000))).length kRf (Eq.symm (List.length_set.trans rfl))).trans ((Wk.gc [1, 5, 6, 7, 8, 18, 19, 20, 25, 26, 27] [(0, false), (1, false)] rfl (pKo iCu (aD _) b (pKo iCu (aD _) (f.set (FK (d + e)).toNat (aa .u32 ((wFu ((wFu ((wFu (gt f (FK (d + e)))) + (wFu ((wFu (gt a d)) * (wFu (gt b e)))))) + g)).tmod 1000000000))) trivial))).to))
    refine .leave rfl ?_
    obtain rfl := oi hr
    exact ⟨rfl, ((Wk.gc [1, 5, 6, 8, 18, 19, 20] [(0, false), (1, false)] rfl (pKo iCu (aD _) b (pKo iCu (aD _) f trivial))).to)⟩
   rcases E with ⟨h, i⟩
   rintro x st' o
   clear y
   obtain ⟨rfl, o⟩ := o
   refine aW _ rfl (.wk o ?_)
   obtain ⟨p, hr⟩ := gd hr
   refine .r0 G (.mu 7 (.p0 (v := .hp 1 (0 + (FK (d + (b.length : Int))).toNat * 1)) (tr (au p)) (.e0 (v := .unk) (ws := [(1, .own ((h.set (FK (d + (b.length : Int))).toNat (aa .u32 i)).flatMap iCu))]) (tr (jC (jA (cD (n := 1) (aG .u32) (aC p) (lbT rfl) (by omega : 0 + (FK (d + (b.length : Int))).toNat * 1 = (FK (d + (b.length : Int))).toNat * 1 + 0))) (congrArg Blk.own (c9 (xs := [bj (aa .u32 i)]) (aG .u32) (aC p) (lbT rfl) (by omega : 0 + (FK (d + (b.length : Int))).toNat * 1 = (FK (d + (b.length : Int))).toNat * 1 + 0) kRf)))) (.done (.pop (.ru G ?_))))))
   exact av (h.set (FK (d + (b.length : Int))).toNat (aa .u32 i), FK (d + 1)) hr ((Wk.jl 5 (b := 1) (es := 1) (len := h.length) (h.set (FK (d + (b.length : Int))).toNat (aa .u32 i)).length kRf (Eq.symm (List.length_set.trans rfl))).trans ((Wk.gc [1, 5, 18, 19, 20] [(0, false), (1, false)] rfl (pKo iCu (aD _) b (pKo iCu (aD _) (h.set (FK (d + (b.length : Int))).toNat (aa .u32 i)) trivial))).to))
  refine .leave rfl ?_
  obtain rfl := oi hr
  exact ⟨rfl, ((Wk.gc [5] [(0, false), (1, false)] rfl (pKo iCu (aD _) b (pKo iCu (aD _) j trivial))).to)⟩
 rintro x st' q
 clear u
 obtain ⟨rfl, q⟩ := q
 refine aW _ rfl (.wk q (.seq ?_))
 obtain ⟨t, F, hr⟩ := bd hr
 refine .g1 G (cL (args := [.hs 1 0 l.length 1]) 1 0 [(1, false)] [false] (sF n l t F) (by exact ⟨a7 (aD _) _, trivial⟩) (by exact ⟨a7 (aD _) _, trivial⟩) rfl rfl kRf kRf) (.mu 1 (.ca cf0 (.mu 1 (.done (.nh [4] [.own (b.flatMap iCu), .own (t.flatMap iCu)] (.ret ?_))))))
 obtain rfl := oi hr
 exact gR.ret [.hs 1 0 t.length 1] ((Wk.gc [0] [(0, false), (1, false)] rfl (pKo iCu (aD _) b (pKo iCu (aD _) t trivial))).to)

theorem qC {g : List Int} {i : Int} {a : List Int} {b : Int} (h : ([slT iCu g, .at (.int .i64 i)] : List AV) = [slT iCu a, .at (.int .i64 b)]) : g = a /\ i = b := by
 simp only [List.cons.injEq, AV.agg.injEq, AV.at.injEq, Value.int.injEq, Value.bool.injEq, AV.fn.injEq, AV.pp.injEq, true_and, and_true, dV] at h
 simp_all
theorem wC (n : Nat) {g : List Int} {i : Int} {a : List Int} {b : Int} (h : ([slT iCu g, .at (.int .i64 i)] : List AV) = [slT iCu a, .at (.int .i64 b)]) : fZ n g i = fZ n a b := by
 obtain ⟨rfl, rfl⟩ := qC h
 rfl
theorem lJ (n : Nat) (g : List Int) (i : Int) (r : Int) (hr : fZ n g i = some r) : aO Tryz.prog 203 [az g, ag i] (bj r) := by
 unfold fZ at hr
 refine aO.bd G Tryz.func203 [.tmp 4] ?_
 unfold Tryz.f203
 simp only [gS]
 refine .seq (.r4 G [0, 1] [] (.seq (.seq (.r4 G [0, 1] [(8, aB (decide (i < (g.length : Int))))] ?_))))
 refine .cd hr ?_ ?_ <;> intro b hr
 ·refine .seq ?_
  obtain ⟨a, hr⟩ := gd hr
  refine .r0 G (.mu 2 (.p0 (v := .pp (g.flatMap iCu) (i.toNat * 1)) (tr (au a)) (.p0 (v := bj (gt g i)) (tr (aE (aF (aG .u32) (aC a) z1 (by omega : i.toNat * 1 = i.toNat * 1 + 0) kRf))) (.mu 1 (.done (.ret ?_))))))
  obtain rfl := oi hr
  exact aK.r1 [bj (gt g i)]
 refine .skip (.seq (.ru G (.ret ?_)))
 obtain rfl := oi hr
 exact aK.r1 [bj 0]

theorem pJ (n : Nat) (a : List Int) (b : List Int) (r : List Int × List Int) (hr : iF n a b = some r) : aO Tryz.prog 202 [az a, az b] (.tup [az r.1, az r.2]) := by
 unfold iF at hr
 refine aO.bd G Tryz.func202 [.tmp 4, .tmp 5] ?_
 unfold Tryz.f202
 simp only [gS]
 refine .seq (.r4 G [0, 1] [] (.seq ?_))
 obtain ⟨rC, yb, hr⟩ := gd2 hr
 refine .r0 G (.mu 4 (.p0 (v := .pp (b.flatMap iCu) ((FK ((b.length : Int) - 1)).toNat * 1)) (tr (au rC)) (.p0 (v := bj (gt b (FK ((b.length : Int) - 1)))) (tr (aE (aF (aG .u32) (aC rC) z1 (by omega : (FK ((b.length : Int) - 1)).toNat * 1 = (FK ((b.length : Int) - 1)).toNat * 1 + 0) kRf))) (.mu 2 (.p0 (v := cU (wFu ((1000000000 : Int).tdiv (wFu ((wFu (gt b (FK ((b.length : Int) - 1)))) + 1))))) (qL (x := 1000000000) (y := wFu ((wFu (gt b (FK ((b.length : Int) - 1)))) + 1)) kRf kRf yb) (.mu 2 (.done (.nh [0, 1, 6] [] (.seq ?_)))))))))
 obtain ⟨Z, yv, hr⟩ := bd hr
 refine .gn G (ca4 [.own [bj (aa .u32 (wFu ((1000000000 : Int).tdiv (wFu ((wFu (gt b (FK ((b.length : Int) - 1)))) + 1)))))]] (cL (args := [az a, .hs 0 0 1 1]) 1 1 [(0, false)] [false, false] (ns n a [aa .u32 (wFu ((1000000000 : Int).tdiv (wFu ((wFu (gt b (FK ((b.length : Int) - 1)))) + 1))))] Z yv) (by exact ⟨rfl, trivial⟩) (by exact ⟨a7 (aD _) _, ⟨a7 (aD _) _, trivial⟩⟩) rfl rfl kRf kRf)) (.mu 3 (.ca cf0 (.mu 1 (.done (.nh [0, 1, 6, 7] [.own ([aa .u32 (wFu ((1000000000 : Int).tdiv (wFu ((wFu (gt b (FK ((b.length : Int) - 1)))) + 1))))].flatMap iCu), .own (Z.flatMap iCu)] (.seq ?_))))))
 obtain ⟨g, wN, hr⟩ := bd hr
 refine .gn G (ca4 [.own ([aa .u32 (wFu ((1000000000 : Int).tdiv (wFu ((wFu (gt b (FK ((b.length : Int) - 1)))) + 1))))].flatMap iCu), .own (Z.flatMap iCu), .own [bj (aa .u32 (wFu ((1000000000 : Int).tdiv (wFu ((wFu (gt b (FK ((b.length : Int) - 1)))) + 1)))))]] (cL (args := [az b, .hs 2 0 1 1]) 1 1 [(2, false)] [false, false] (ns n b [aa .u32 (wFu ((1000000000 : Int).tdiv (wFu ((wFu (gt b (FK ((b.length : Int) - 1)))) + 1))))] g wN) (by exact ⟨rfl, trivial⟩) (by exact ⟨a7 (aD _) _, ⟨a7 (aD _) _, trivial⟩⟩) rfl rfl kRf kRf)) (.mu 3 (.ca cf0 (.mu 1 (.done (.nh [0, 6, 7, 8] [.own ([aa .u32 (wFu ((1000000000 : Int).tdiv (wFu ((wFu (gt b (FK ((b.length : Int) - 1)))) + 1))))].flatMap iCu), .own (Z.flatMap iCu), .own ([aa .u32 (wFu ((1000000000 : Int).tdiv (wFu ((wFu (gt b (FK ((b.length : Int) - 1)))) + 1))))].flatMap iCu), .own (g.flatMap iCu)] (.seq (.r4 G [0, 6, 7, 8] [(9, ag (g.length : Int))] (.seq ?_))))))))
 obtain ⟨wJ, yB, hr⟩ := gd2 hr
 refine .r0 G (.mu 2 (.e0 (v := .hs 5 0 (Z ++ [(0 : Int)]).length 1) (ws := [(1, .dead), (5, .own ((Z ++ [(0 : Int)]).flatMap iCu))]) (tr (dB (new := [bj 0]) (l := Z) (xs := [(0 : Int)]) (aG .u32) rfl rfl kRf wJ yB)) (.mu 1 (.done (.nh [0, 6, 7, 8, 9] [.own ([aa .u32 (wFu ((1000000000 : Int).tdiv (wFu ((wFu (gt b (FK ((b.length : Int) - 1)))) + 1))))].flatMap iCu), .dead, .own ([aa .u32 (wFu ((1000000000 : Int).tdiv (wFu ((wFu (gt b (FK ((b.length : Int) - 1)))) + 1))))].flatMap iCu), .own (g.flatMap iCu), .own [bj 0], .own ((Z ++ [(0 : Int)]).flatMap iCu)] (.seq (.seq (.r4 G [6, 7, 8, 9] [(50, aB (decide (((Z ++ [(0 : Int)]).length : Int) <= (a.length : Int))))] ?_))))))))
 replace hr := bd hr; obtain ⟨R, jB, hr⟩ := hr
 refine .yV (Q := fun x st' => x = .normal /\ Wk 0 st' ⟨mkS 266 0 [(6, bj (aa .u32 (wFu ((1000000000 : Int).tdiv (wFu ((wFu (gt b (FK ((b.length : Int) - 1)))) + 1)))))), (7, .hs 0 0 R.length 1), (8, .hs 1 0 g.length 1), (9, ag (g.length : Int))], [.own (R.flatMap iCu), .own (g.flatMap iCu)]⟩) ?_ ?_
 ·clear hr
  have hr := jB
  clear jB
  refine .cd hr ?_ ?_ <;> intro Dz hr
  ·obtain ⟨uq, uh, hr⟩ := gd2 hr
   refine .r0 G (.mu 2 (.e0 (v := .hs 7 0 ((Z ++ [(0 : Int)]) ++ [(0 : Int)]).length 1) (ws := [(5, .dead), (7, .own (((Z ++ [(0 : Int)]) ++ [(0 : Int)]).flatMap iCu))]) (tr (dB (new := [bj 0]) (l := Z ++ [(0 : Int)]) (xs := [(0 : Int)]) (aG .u32) rfl rfl kRf uq uh)) (.mu 1 (.done ?_))))
   obtain rfl := oi hr
   exact ⟨rfl, ((Wk.gc [6, 7, 8, 9] [(7, false), (3, false)] rfl (pKo iCu (aD _) ((Z ++ [(0 : Int)]) ++ [(0 : Int)]) (pKo iCu (aD _) g trivial))).to)⟩
  refine .skip ?_
  obtain rfl := oi hr
  exact ⟨rfl, ((Wk.gc [6, 7, 8, 9] [(5, false), (3, false)] rfl (pKo iCu (aD _) (Z ++ [(0 : Int)]) (pKo iCu (aD _) g trivial))).to)⟩
 rintro x st' jQ
 clear jB
 obtain ⟨rfl, jQ⟩ := jQ
 refine .wk jQ (.seq ?_)
 obtain ⟨we, yo, yJ, hr⟩ := gd3 hr
 refine .r0 G (.mu 4 (.e0 (v := .hs 2 0 (List.replicate (FK ((R.length : Int) - (g.length : Int))).toNat ((0 : Int) : Int)).length 1) (ws := [(2, .own ((List.replicate (FK ((R.length : Int) - (g.length : Int))).toNat ((0 : Int) : Int)).flatMap iCu))]) (tr (lT (c := iCu) (z := (0 : Int)) (n := FK ((R.length : Int) - (g.length : Int))) (by_ := 4) rfl we yo yJ)) (.mu 1 (.done (.nh [4, 6, 7, 8, 9] [.own (R.flatMap iCu), .own (g.flatMap iCu), .own ((List.replicate (FK ((R.length : Int) - (g.length : Int))).toNat ((0 : Int) : Int)).flatMap iCu)] (.seq (.seq (.r4 G [4, 6, 7, 8, 9] [(10, ag (FK ((FK ((R.length : Int) - (g.length : Int))) - 1)))] (.block ?_)))))))))
 replace hr := bd hr; obtain ⟨kX, j8, hr⟩ := hr
 refine .aN (σ := fun z0 => match z0 with | (i, q, d) => ⟨mkS 266 0 [(4, .hs 0 0 i.length 1), (6, bj (aa .u32 (wFu ((1000000000 : Int).tdiv (wFu ((wFu (gt b (FK ((b.length : Int) - 1)))) + 1)))))), (7, .hs 1 0 q.length 1), (8, .hs 2 0 g.length 1), (9, ag (g.length : Int)), (10, ag d)], [.own (i.flatMap iCu), .own (q.flatMap iCu), .own (g.flatMap iCu)]⟩) (Q := fun x st' => match (generalizing := false) kX with | (I, J) => x = .exit 0 /\ Wk 0 st' ⟨mkS 266 0 [(4, .hs 0 0 I.length 1), (6, bj (aa .u32 (wFu ((1000000000 : Int).tdiv (wFu ((wFu (gt b (FK ((b.length : Int) - 1)))) + 1)))))), (7, .hs 1 0 J.length 1), (9, ag (g.length : Int))], [.own (I.flatMap iCu), .own (J.flatMap iCu)]⟩) j8 ((Wk.gc [4, 6, 7, 8, 9, 10] [(2, false), (0, false), (1, false)] rfl (pKo iCu (aD _) (List.replicate (FK ((R.length : Int) - (g.length : Int))).toNat ((0 : Int) : Int)) (pKo iCu (aD _) R (pKo iCu (aD _) g trivial)))).to) ?_ ?_
 ·clear hr
  rintro m ⟨i, q, d⟩ hr
  refine CQ.sh ?_
  refine .seq (.seq (.r4 G [4, 6, 7, 8, 9, 10] [(65, aB (decide (d >= 0)))] ?_))
  refine .cd hr ?_ ?_ <;> intro Cw hr
  ·refine .skip (.seq (.block (.seq ?_)))
   obtain ⟨S, pK, hr⟩ := bd hr
   obtain ⟨kB, hr⟩ := gd hr
   refine .t1 G (gb (args := [.hs 1 0 q.length 1, ag (FK (d + (g.length : Int)))]) (l := [1]) rfl (SnL.cons (Sn.hs rfl (.inl rfl) (SnC.pure (a7 (aD _) _)) (fun h => bZ h)) (Sp SnL.nil)) (lJ n q (FK (d + (g.length : Int))) S pK)) (.mu 4 (.ca cf0 (.mu 7 (.pk (v := .hp 1 (0 + (FK ((FK (d + (g.length : Int))) - 1)).toNat * 1)) (tr (au kB)) (.pk (v := bj (gt q (FK ((FK (d + (g.length : Int))) - 1)))) (tr (aE (aF (aG .u32) (aC kB) z1 (by omega : 0 + (FK ((FK (d + (g.length : Int))) - 1)).toNat * 1 = (FK ((FK (d + (g.length : Int))) - 1)).toNat * 1 + 0) kRf))) (.mu 3 ?_))))))
   refine .done (kRa ?_)
   refine .nh [4, 6, 7, 8, 9, 10, 11] [.own (i.flatMap iCu), .own (q.flatMap iCu), .own (g.flatMap iCu)] (.seq ?_)
   obtain ⟨C, j9, hr⟩ := gd2 hr
   refine .dS G bF (.mu 4 (.pk (v := .hp 2 (0 + (FK ((g.length : Int) - 1)).toNat * 1)) (tr (au C)) (.pk (v := bj (gt g (FK ((g.length : Int) - 1)))) (tr (aE (aF (aG .u32) (aC C) z1 (by omega : 0 + (FK ((g.length : Int) - 1)).toNat * 1 = (FK ((g.length : Int) - 1)).toNat * 1 + 0) kRf))) (.mu 1 (.pk (v := cU (wFu ((wFu ((wFu ((wFu S) * 1000000000)) + (wFu (gt q (FK ((FK (d + (g.length : Int))) - 1)))))).tdiv (wFu (gt g (FK ((g.length : Int) - 1))))))) (qL (x := wFu ((wFu ((wFu S) * 1000000000)) + (wFu (gt q (FK ((FK (d + (g.length : Int))) - 1)))))) (y := wFu (gt g (FK ((g.length : Int) - 1)))) kRf kRf j9) (.mu 4 (.pk (v := .hp 2 (0 + (FK ((g.length : Int) - 1)).toNat * 1)) (tr (au C)) (.pk (v := bj (gt g (FK ((g.length : Int) - 1)))) (tr (aE (aF (aG .u32) (aC C) z1 (by omega : 0 + (FK ((g.length : Int) - 1)).toNat * 1 = (FK ((g.length : Int) - 1)).toNat * 1 + 0) kRf))) (.mu 1 (.pk (v := cU ((wFu ((wFu ((wFu S) * 1000000000)) + (wFu (gt q (FK ((FK (d + (g.length : Int))) - 1)))))).tmod (wFu (gt g (FK ((g.length : Int) - 1)))))) (qn (x := wFu ((wFu ((wFu S) * 1000000000)) + (wFu (gt q (FK ((FK (d + (g.length : Int))) - 1)))))) (y := wFu (gt g (FK ((g.length : Int) - 1)))) kRf kRf j9) (.mu 2 ?_)))))))))))
   refine .done (kRa ?_)
   refine .nh [4, 6, 7, 8, 9, 10, 12, 13] [.own (i.flatMap iCu), .own (q.flatMap iCu), .own (g.flatMap iCu)] (.seq (.block ?_))
   replace hr := bd hr; obtain ⟨j, kO, hr⟩ := hr
   refine .aN (σ := fun z0 => match z0 with | (L, M) => ⟨mkS 266 0 [(4, .hs 0 0 i.length 1), (6, bj (aa .u32 (wFu ((1000000000 : Int).tdiv (wFu ((wFu (gt b (FK ((b.length : Int) - 1)))) + 1)))))), (7, .hs 1 0 q.length 1), (8, .hs 2 0 g.length 1), (9, ag (g.length : Int)), (10, ag d), (12, cU L), (13, cU M)], [.own (i.flatMap iCu), .own (q.flatMap iCu), .own (g.flatMap iCu)]⟩) (Q := fun x st' => x = .exit 2 /\ Wk 0 st' ⟨mkS 266 0 [(4, .hs 0 0 i.length 1), (6, bj (aa .u32 (wFu ((1000000000 : Int).tdiv (wFu ((wFu (gt b (FK ((b.length : Int) - 1)))) + 1)))))), (7, .hs 1 0 q.length 1), (8, .hs 2 0 g.length 1), (9, ag (g.length : Int)), (10, ag d), (12, cU j)], [.own (i.flatMap iCu), .own (q.flatMap iCu), .own (g.flatMap iCu)]⟩) kO ((Wk.gc [4, 6, 7, 8, 9, 10, 12, 13] kF3 rfl (pKo iCu (aD _) i (pKo iCu (aD _) q (pKo iCu (aD _) g trivial)))).to) ?_ ?_
   ·clear hr
    rintro m ⟨L, M⟩ hr
    refine CQ.sh ?_
    refine .seq (.seq ?_)
    rcases bT (decide (L >= 1000000000)) with N | N
    ·replace hr := cg N hr
     refine .dS G bF (.mu 1 (.pk (v := aB true) (eB N) (.mu 22 ?_)))
     refine .done (kRa ?_)
     refine .nh [4, 6, 7, 8, 9, 10, 12, 13, 123] [.own (i.flatMap iCu), .own (q.flatMap iCu), .own (g.flatMap iCu)] (.cT kRf (.skip (.block (.seq (.r4 G [4, 6, 7, 8, 9, 10, 13] [(12, cU (wFu (L - 1)))] (.seq (.r0 G (.mu 4 (.p0 (v := .hp 2 (0 + (FK ((g.length : Int) - 1)).toNat * 1)) (tr (au C)) (.p0 (v := bj (gt g (FK ((g.length : Int) - 1)))) (tr (aE (aF (aG .u32) (aC C) z1 (by omega : 0 + (FK ((g.length : Int) - 1)).toNat * 1 = (FK ((g.length : Int) - 1)).toNat * 1 + 0) kRf))) (.mu 3 (.done (.nh [4, 6, 7, 8, 9, 10, 12, 13] [.own (i.flatMap iCu), .own (q.flatMap iCu), .own (g.flatMap iCu)] (.seq (.r4 G [4, 6, 7, 8, 9, 10, 12, 13] [(135, aB (decide ((wFu (M + (wFu (gt g (FK ((g.length : Int) - 1)))))) >= 1000000000)))] ?_)))))))))))))))
     refine .cd hr ?_ ?_ <;> intro CC hr
     ·refine .leave rfl ?_
      obtain rfl := oi hr
      exact ⟨rfl, ((Wk.gc [4, 6, 7, 8, 9, 10, 12] kF3 rfl (pKo iCu (aD _) i (pKo iCu (aD _) q (pKo iCu (aD _) g trivial)))).to)⟩
     refine .skip (.pop ?_)
     exact av (wFu (L - 1), wFu (M + (wFu (gt g (FK ((g.length : Int) - 1)))))) hr ((Wk.gc [4, 6, 7, 8, 9, 10, 12, 13] kF3 rfl (pKo iCu (aD _) i (pKo iCu (aD _) q (pKo iCu (aD _) g trivial)))).to)
    replace hr := ch N hr
    obtain ⟨lH, mN, hr⟩ := gd2 hr
    refine .dS G bF (.mu 1 (.pk (v := aB false) (eB N) (.mu 5 (.pk (v := .hp 2 (0 + (FK ((g.length : Int) - 2)).toNat * 1)) (tr (au lH)) (.pk (v := bj (gt g (FK ((g.length : Int) - 2)))) (tr (aE (aF (aG .u32) (aC lH) z1 (by omega : 0 + (FK ((g.length : Int) - 2)).toNat * 1 = (FK ((g.length : Int) - 2)).toNat * 1 + 0) kRf))) (.mu 9 (.pk (v := .hp 1 (0 + (FK ((FK (d + (g.length : Int))) - 2)).toNat * 1)) (tr (au mN)) (.pk (v := bj (gt q (FK ((FK (d + (g.length : Int))) - 2)))) (tr (aE (aF (aG .u32) (aC mN) z1 (by omega : 0 + (FK ((FK (d + (g.length : Int))) - 2)).toNat * 1 = (FK ((FK (d + (g.length : Int))) - 2)).toNat * 1 + 0) kRf))) (.mu 4 ?_)))))))))
    refine .done (kRa ?_)
    refine .nh [4, 6, 7, 8, 9, 10, 12, 13, 123] [.own (i.flatMap iCu), .own (q.flatMap iCu), .own (g.flatMap iCu)] ?_
    refine .cd hr ?_ ?_ <;> intro CH hr
    ·refine .skip (.block (.seq (.r4 G [4, 6, 7, 8, 9, 10, 13] [(12, cU (wFu (L - 1)))] (.seq (.r0 G (.mu 4 (.p0 (v := .hp 2 (0 + (FK ((g.length : Int) - 1)).toNat * 1)) (tr (au C)) (.p0 (v := bj (gt g (FK ((g.length : Int) - 1)))) (tr (aE (aF (aG .u32) (aC C) z1 (by omega : 0 + (FK ((g.length : Int) - 1)).toNat * 1 = (FK ((g.length : Int) - 1)).toNat * 1 + 0) kRf))) (.mu 3 (.done (.nh [4, 6, 7, 8, 9, 10, 12, 13] [.own (i.flatMap iCu), .own (q.flatMap iCu), .own (g.flatMap iCu)] (.seq (.r4 G [4, 6, 7, 8, 9, 10, 12, 13] [(135, aB (decide ((wFu (M + (wFu (gt g (FK ((g.length : Int) - 1)))))) >= 1000000000)))] ?_)))))))))))))
     refine .cd hr ?_ ?_ <;> intro CB hr
     ·refine .leave rfl ?_
      obtain rfl := oi hr
      exact ⟨rfl, ((Wk.gc [4, 6, 7, 8, 9, 10, 12] kF3 rfl (pKo iCu (aD _) i (pKo iCu (aD _) q (pKo iCu (aD _) g trivial)))).to)⟩
     refine .skip (.pop ?_)
     exact av (wFu (L - 1), wFu (M + (wFu (gt g (FK ((g.length : Int) - 1)))))) hr ((Wk.gc [4, 6, 7, 8, 9, 10, 12, 13] kF3 rfl (pKo iCu (aD _) i (pKo iCu (aD _) q (pKo iCu (aD _) g trivial)))).to)
    refine .leave rfl ?_
    obtain rfl := oi hr
    exact ⟨rfl, ((Wk.gc [4, 6, 7, 8, 9, 10, 12] kF3 rfl (pKo iCu (aD _) i (pKo iCu (aD _) q (pKo iCu (aD _) g trivial)))).to)⟩
   rintro x st' T
   clear kO
   obtain ⟨rfl, T⟩ := T
   refine aW _ rfl (.wk T (.seq (.r4 G [4, 6, 7, 8, 9, 10, 12] [(14, ag 0), (15, cU 0)] (.seq (.seq (.r4 G [4, 6, 7, 8, 9, 10, 12, 14, 15] [(136, ag (g.length : Int)), (137, ag 0)] (.block ?_)))))))
   replace hr := bd hr; obtain ⟨kV, mF, hr⟩ := hr
   refine .aN (σ := fun z0 => match z0 with | (k, u, s, e) => ⟨mkS 266 0 [(4, .hs 0 0 i.length 1), (6, bj (aa .u32 (wFu ((1000000000 : Int).tdiv (wFu ((wFu (gt b (FK ((b.length : Int) - 1)))) + 1)))))), (7, .hs 1 0 k.length 1), (8, .hs 2 0 g.length 1), (9, ag (g.length : Int)), (10, ag d), (12, cU j), (14, ag u), (15, cU s), (136, ag (g.length : Int)), (137, ag e)], [.own (i.flatMap iCu), .own (k.flatMap iCu), .own (g.flatMap iCu)]⟩) (Q := fun x st' => match (generalizing := false) kV with | (o, w, A) => x = .exit 4 /\ Wk 0 st' ⟨mkS 266 0 [(4, .hs 0 0 i.length 1), (6, bj (aa .u32 (wFu ((1000000000 : Int).tdiv (wFu ((wFu (gt b (FK ((b.length : Int) - 1)))) + 1)))))), (7, .hs 1 0 o.length 1), (8, .hs 2 0 g.length 1), (9, ag (g.length : Int)), (10, ag d), (12, cU j), (14, ag w), (15, cU A)], [.own (i.flatMap iCu), .own (o.flatMap iCu), .own (g.flatMap iCu)]⟩) mF ((Wk.gc [4, 6, 7, 8, 9, 10, 12, 14, 15, 136, 137] kF3 rfl (pKo iCu (aD _) i (pKo iCu (aD _) q (pKo iCu (aD _) g trivial)))).to) ?_ ?_
   ·clear hr
    rintro m ⟨k, u, s, e⟩ hr
    refine CQ.sh ?_
    refine .seq (.r4 G [4, 6, 7, 8, 9, 10, 12, 14, 15, 136, 137] [(138, aB (decide (e < (g.length : Int))))] (.seq ?_))
    refine .cd hr ?_ ?_ <;> intro Cq hr
    ·refine .skip (.seq (.block (.seq (.r4 G [4, 6, 7, 8, 9, 10, 12, 14, 15, 136, 137] [(16, ag e)] (.seq ?_)))))
     obtain ⟨nw, hr⟩ := gd hr
     refine .r0 G (.mu 3 (.p0 (v := .hp 2 (0 + e.toNat * 1)) (tr (au nw)) (.p0 (v := bj (gt g e)) (tr (aE (aF (aG .u32) (aC nw) z1 (by omega : 0 + e.toNat * 1 = e.toNat * 1 + 0) kRf))) (.mu 5 (.done (.nh [4, 6, 7, 8, 9, 10, 12, 14, 16, 17, 136, 137] [.own (i.flatMap iCu), .own (k.flatMap iCu), .own (g.flatMap iCu)] (.seq (.r4 G [4, 6, 7, 8, 9, 10, 12, 14, 16, 17, 136, 137] [(15, cU (wFu ((wFu ((wFu (j * (wFu (gt g e)))) + s)).tdiv 1000000000)))] (.seq ?_)))))))))
     obtain ⟨D, hr⟩ := gd hr
     refine .r0 G (.mu 4 (.p0 (v := .hp 1 (0 + (FK (e + d)).toNat * 1)) (tr (au D)) (.p0 (v := bj (gt k (FK (e + d)))) (tr (aE (aF (aG .u32) (aC D) z1 (by omega : 0 + (FK (e + d)).toNat * 1 = (FK (e + d)).toNat * 1 + 0) kRf))) (.mu 8 (.done (.nh [4, 6, 7, 8, 9, 10, 12, 15, 16, 18, 136, 137] [.own (i.flatMap iCu), .own (k.flatMap iCu), .own (g.flatMap iCu)] (.seq (.r4 G [4, 6, 7, 8, 9, 10, 12, 15, 16, 18, 136, 137] [(14, ag 0)] (.seq (.seq (.r4 G [4, 6, 7, 8, 9, 10, 12, 14, 15, 16, 18, 136, 137] [(165, aB (decide ((FK ((FK ((FK (gt k (FK (e + d)))) - u)) - (FK ((wFu ((wFu (j * (wFu (gt g e)))) + s)).tmod 1000000000)))) < 0)))] ?_)))))))))))
     refine .cd hr ?_ ?_ <;> intro B7 hr
     ·refine .r4 G [4, 6, 7, 8, 9, 10, 12, 15, 16, 136, 137] [(14, ag 1), (18, ag (FK ((FK ((FK ((FK (gt k (FK (e + d)))) - u)) - (FK ((wFu ((wFu (j * (wFu (gt g e)))) + s)).tmod 1000000000)))) + 1000000000)))] (.r0 G (.mu 6 (.p0 (v := .hp 1 (0 + (FK (e + d)).toNat * 1)) (tr (au D)) (.e0 (v := .unk) (ws := [(1, .own ((k.set (FK (e + d)).toNat (aa .u32 (FK ((FK ((FK ((FK (gt k (FK (e + d)))) - u)) - (FK ((wFu ((wFu (j * (wFu (gt g e)))) + s)).tmod 1000000000)))) + 1000000000)))).flatMap iCu))]) (tr (jC (jA (cD (n := 1) (aG .u32) (aC D) (lbT rfl) (by omega : 0 + (FK (e + d)).toNat * 1 = (FK (e + d)).toNat * 1 + 0))) (congrArg Blk.own (c9 (xs := [bj (aa .u32 (FK ((FK ((FK ((FK (gt k (FK (e + d)))) - u)) - (FK ((wFu ((wFu (j * (wFu (gt g e)))) + s)).tmod 1000000000)))) + 1000000000)))]) (aG .u32) (aC D) (lbT rfl) (by omega : 0 + (FK (e + d)).toNat * 1 = (FK (e + d)).toNat * 1 + 0) kRf)))) (.done (.pop (.ru G ?_)))))))
      exact av (k.set (FK (e + d)).toNat (aa .u32 (FK ((FK ((FK ((FK (gt k (FK (e + d)))) - u)) - (FK ((wFu ((wFu (j * (wFu (gt g e)))) + s)).tmod 1000000000)))) + 1000000000))), 1, wFu ((wFu ((wFu (j * (wFu (gt g e)))) + s)).tdiv 1000000000), FK (e + 1)) hr ((Wk.jl 7 (b := 1) (es := 1) (len := k.length) (k.set (FK (e + d)).toNat (aa .u32 (FK ((FK ((FK ((FK (gt k (FK (e + d)))) - u)) - (FK ((wFu ((wFu (j * (wFu (gt g e)))) + s)).tmod 1000000000)))) + 1000000000)))).length kRf (Eq.symm (List.length_set.trans rfl))).trans ((Wk.gc [4, 6, 7, 8, 9, 10, 12, 14, 15, 136, 137] kF3 rfl (pKo iCu (aD _) i (pKo iCu (aD _) (k.set (FK (e + d)).toNat (aa .u32 (FK ((FK ((FK ((FK (gt k (FK (e + d)))) - u)) - (FK ((wFu ((wFu (j * (wFu (gt g e)))) + s)).tmod 1000000000)))) + 1000000000)))) (pKo iCu (aD _) g trivial)))).to))
     refine .skip (.r0 G (.mu 6 (.p0 (v := .hp 1 (0 + (FK (e + d)).toNat * 1)) (tr (au D)) (.e0 (v := .unk) (ws := [(1, .own ((k.set (FK (e + d)).toNat (aa .u32 (FK ((FK ((FK (gt k (FK (e + d)))) - u)) - (FK ((wFu ((wFu (j * (wFu (gt g e)))) + s)).tmod 1000000000)))))).flatMap iCu))]) (tr (jC (jA (cD (n := 1) (aG .u32) (aC D) (lbT rfl) (by omega : 0 + (FK (e + d)).toNat * 1 = (FK (e + d)).toNat * 1 + 0))) (congrArg Blk.own (c9 (xs := [bj (aa .u32 (FK ((FK ((FK (gt k (FK (e + d)))) - u)) - (FK ((wFu ((wFu (j * (wFu (gt g e)))) + s)).tmod 1000000000)))))]) (aG .u32) (aC D) (lbT rfl) (by omega : 0 + (FK (e + d)).toNat * 1 = (FK (e + d)).toNat * 1 + 0) kRf)))) (.done (.pop (.ru G ?_)))))))
     exact av (k.set (FK (e + d)).toNat (aa .u32 (FK ((FK ((FK (gt k (FK (e + d)))) - u)) - (FK ((wFu ((wFu (j * (wFu (gt g e)))) + s)).tmod 1000000000))))), 0, wFu ((wFu ((wFu (j * (wFu (gt g e)))) + s)).tdiv 1000000000), FK (e + 1)) hr ((Wk.jl 7 (b := 1) (es := 1) (len := k.length) (k.set (FK (e + d)).toNat (aa .u32 (FK ((FK ((FK (gt k (FK (e + d)))) - u)) - (FK ((wFu ((wFu (j * (wFu (gt g e)))) + s)).tmod 1000000000)))))).length kRf (Eq.symm (List.length_set.trans rfl))).trans ((Wk.gc [4, 6, 7, 8, 9, 10, 12, 14, 15, 136, 137] kF3 rfl (pKo iCu (aD _) i (pKo iCu (aD _) (k.set (FK (e + d)).toNat (aa .u32 (FK ((FK ((FK (gt k (FK (e + d)))) - u)) - (FK ((wFu ((wFu (j * (wFu (gt g e)))) + s)).tmod 1000000000)))))) (pKo iCu (aD _) g trivial)))).to))
    refine .leave rfl ?_
    obtain rfl := oi hr
    exact ⟨rfl, ((Wk.gc [4, 6, 7, 8, 9, 10, 12, 14, 15] kF3 rfl (pKo iCu (aD _) i (pKo iCu (aD _) k (pKo iCu (aD _) g trivial)))).to)⟩
   rcases kV with ⟨o, w, A⟩
   rintro x st' U
   clear mF
   obtain ⟨rfl, U⟩ := U
   refine aW _ rfl (.wk U (.seq ?_))
   obtain ⟨E, hr⟩ := gd hr
   refine .r0 G (.mu 4 (.p0 (v := .hp 1 (0 + (FK (d + (g.length : Int))).toNat * 1)) (tr (au E)) (.p0 (v := bj (gt o (FK (d + (g.length : Int))))) (tr (aE (aF (aG .u32) (aC E) z1 (by omega : 0 + (FK (d + (g.length : Int))).toNat * 1 = (FK (d + (g.length : Int))).toNat * 1 + 0) kRf))) (.mu 7 (.done (.nh [4, 6, 7, 8, 9, 10, 12, 19] [.own (i.flatMap iCu), .own (o.flatMap iCu), .own (g.flatMap iCu)] (.seq (.seq (.r4 G [4, 6, 7, 8, 9, 10, 12, 19] [(189, aB (decide ((FK ((FK ((FK (gt o (FK (d + (g.length : Int))))) - w)) - (FK A))) < 0)))] ?_)))))))))
   refine .cd hr ?_ ?_ <;> intro BZ hr
   ·refine .seq (.r0 G (.mu 7 (.p0 (v := .hp 1 (0 + (FK (d + (g.length : Int))).toNat * 1)) (tr (au E)) (.e0 (v := .unk) (ws := [(1, .own ((o.set (FK (d + (g.length : Int))).toNat (aa .u32 (FK ((FK ((FK ((FK (gt o (FK (d + (g.length : Int))))) - w)) - (FK A))) + 1000000000)))).flatMap iCu))]) (tr (jC (jA (cD (n := 1) (aG .u32) (aC E) (lbT rfl) (by omega : 0 + (FK (d + (g.length : Int))).toNat * 1 = (FK (d + (g.length : Int))).toNat * 1 + 0))) (congrArg Blk.own (c9 (xs := [bj (aa .u32 (FK ((FK ((FK ((FK (gt o (FK (d + (g.length : Int))))) - w)) - (FK A))) + 1000000000)))]) (aG .u32) (aC E) (lbT rfl) (by omega : 0 + (FK (d + (g.length : Int))).toNat * 1 = (FK (d + (g.length : Int))).toNat * 1 + 0) kRf)))) (.done (.nh [4, 6, 7, 8, 9, 10, 12] [.own (i.flatMap iCu), .own ((o.set (FK (d + (g.length : Int))).toNat (aa .u32 (FK ((FK ((FK ((FK (gt o (FK (d + (g.length : Int))))) - w)) - (FK A))) + 1000000000)))).flatMap iCu), .own (g.flatMap iCu)] (.seq (.r4 G [4, 6, 7, 8, 9, 10] [(12, cU (wFu (j - 1)))] (.seq (.r4 G [4, 6, 7, 8, 9, 10, 12] [(20, bj 0)] (.seq (.seq (.r4 G [4, 6, 7, 8, 9, 10, 12, 20] [(200, ag (g.length : Int)), (201, ag 0)] (.block ?_))))))))))))))
    replace hr := bd hr; obtain ⟨mA, jS, hr⟩ := hr
    refine .aN (σ := fun z0 => match z0 with | (p, B, f) => ⟨mkS 266 0 [(4, .hs 0 0 i.length 1), (6, bj (aa .u32 (wFu ((1000000000 : Int).tdiv (wFu ((wFu (gt b (FK ((b.length : Int) - 1)))) + 1)))))), (7, .hs 1 0 p.length 1), (8, .hs 2 0 g.length 1), (9, ag (g.length : Int)), (10, ag d), (12, cU (wFu (j - 1))), (20, bj B), (200, ag (g.length : Int)), (201, ag f)], [.own (i.flatMap iCu), .own (p.flatMap iCu), .own (g.flatMap iCu)]⟩) (Q := fun x st' => match (generalizing := false) mA with | (t, F) => x = .exit 6 /\ Wk 0 st' ⟨mkS 266 0 [(4, .hs 0 0 i.length 1), (6, bj (aa .u32 (wFu ((1000000000 : Int).tdiv (wFu ((wFu (gt b (FK ((b.length : Int) - 1)))) + 1)))))), (7, .hs 1 0 t.length 1), (8, .hs 2 0 g.length 1), (9, ag (g.length : Int)), (10, ag d), (12, cU (wFu (j - 1))), (20, bj F)], [.own (i.flatMap iCu), .own (t.flatMap iCu), .own (g.flatMap iCu)]⟩) jS ((Wk.jl 7 (b := 1) (es := 1) (len := o.length) (o.set (FK (d + (g.length : Int))).toNat (aa .u32 (FK ((FK ((FK ((FK (gt o (FK (d + (g.length : Int))))) - w)) - (FK A))) + 1000000000)))).length kRf (Eq.symm (List.length_set.trans rfl))).trans ((Wk.gc [4, 6, 7, 8, 9, 10, 12, 20, 200, 201] kF3 rfl (pKo iCu (aD _) i (pKo iCu (aD _) (o.set (FK (d + (g.length : Int))).toNat (aa .u32 (FK ((FK ((FK ((FK (gt o (FK (d + (g.length : Int))))) - w)) - (FK A))) + 1000000000)))) (pKo iCu (aD _) g trivial)))).to)) ?_ ?_
    ·clear hr
     rintro m ⟨p, B, f⟩ hr
     refine CQ.sh ?_
     refine .seq (.r4 G [4, 6, 7, 8, 9, 10, 12, 20, 200, 201] [(202, aB (decide (f < (g.length : Int))))] (.seq ?_))
     refine .cd hr ?_ ?_ <;> intro DG hr
     ·refine .skip (.seq (.block (.seq (.r4 G [4, 6, 7, 8, 9, 10, 12, 20, 200, 201] [(21, ag f)] (.seq ?_)))))
      obtain ⟨H, ki, hr⟩ := gd2 hr
      refine .dS G bF (.mu 4 (.pk (v := .hp 1 (0 + (FK (f + d)).toNat * 1)) (tr (au H)) (.pk (v := bj (gt p (FK (f + d)))) (tr (aE (aF (aG .u32) (aC H) z1 (by omega : 0 + (FK (f + d)).toNat * 1 = (FK (f + d)).toNat * 1 + 0) kRf))) (.mu 2 (.pk (v := .hp 2 (0 + f.toNat * 1)) (tr (au ki)) (.pk (v := bj (gt g f)) (tr (aE (aF (aG .u32) (aC ki) z1 (by omega : 0 + f.toNat * 1 = f.toNat * 1 + 0) kRf))) (.mu 4 ?_)))))))
      refine .done (kRa ?_)
      refine .nh [4, 6, 7, 8, 9, 10, 12, 21, 22, 200, 201] [.own (i.flatMap iCu), .own (p.flatMap iCu), .own (g.flatMap iCu)] (.seq (.r4 G [4, 6, 7, 8, 9, 10, 12, 21, 22, 200, 201] [(20, bj 0)] (.seq (.seq (.r4 G [4, 6, 7, 8, 9, 10, 12, 20, 21, 22, 200, 201] [(218, aB (decide ((aa .u32 ((aa .u32 ((gt p (FK (f + d))) + (gt g f))) + B)) >= 1000000000)))] ?_)))))
      refine .cd hr ?_ ?_ <;> intro DI hr
      ·refine .r4 G [4, 6, 7, 8, 9, 10, 12, 21, 200, 201] [(20, bj 1), (22, bj (aa .u32 ((aa .u32 ((aa .u32 ((gt p (FK (f + d))) + (gt g f))) + B)) - 1000000000)))] (.r0 G (.mu 5 (.p0 (v := .hp 1 (0 + (FK (f + d)).toNat * 1)) (tr (au H)) (.e0 (v := .unk) (ws := [(1, .own ((p.set (FK (f + d)).toNat (aa .u32 ((aa .u32 ((aa .u32 ((gt p (FK (f + d))) + (gt g f))) + B)) - 1000000000))).flatMap iCu))]) (tr (jC (jA (cD (n := 1) (aG .u32) (aC H) (lbT rfl) (by omega : 0 + (FK (f + d)).toNat * 1 = (FK (f + d)).toNat * 1 + 0))) (congrArg Blk.own (c9 (xs := [bj (aa .u32 ((aa .u32 ((aa .u32 ((gt p (FK (f + d))) + (gt g f))) + B)) - 1000000000))]) (aG .u32) (aC H) (lbT rfl) (by omega : 0 + (FK (f + d)).toNat * 1 = (FK (f + d)).toNat * 1 + 0) kRf)))) (.done (.pop (.ru G ?_)))))))
       exact av (p.set (FK (f + d)).toNat (aa .u32 ((aa .u32 ((aa .u32 ((gt p (FK (f + d))) + (gt g f))) + B)) - 1000000000)), 1, FK (f + 1)) hr ((Wk.jl 7 (b := 1) (es := 1) (len := p.length) (p.set (FK (f + d)).toNat (aa .u32 ((aa .u32 ((aa .u32 ((gt p (FK (f + d))) + (gt g f))) + B)) - 1000000000))).length kRf (Eq.symm (List.length_set.trans rfl))).trans ((Wk.gc [4, 6, 7, 8, 9, 10, 12, 20, 200, 201] kF3 rfl (pKo iCu (aD _) i (pKo iCu (aD _) (p.set (FK (f + d)).toNat (aa .u32 ((aa .u32 ((aa .u32 ((gt p (FK (f + d))) + (gt g f))) + B)) - 1000000000))) (pKo iCu (aD _) g trivial)))).to))
      refine .skip (.r0 G (.mu 5 (.p0 (v := .hp 1 (0 + (FK (f + d)).toNat * 1)) (tr (au H)) (.e0 (v := .unk) (ws := [(1, .own ((p.set (FK (f + d)).toNat (aa .u32 ((aa .u32 ((gt p (FK (f + d))) + (gt g f))) + B))).flatMap iCu))]) (tr (jC (jA (cD (n := 1) (aG .u32) (aC H) (lbT rfl) (by omega : 0 + (FK (f + d)).toNat * 1 = (FK (f + d)).toNat * 1 + 0))) (congrArg Blk.own (c9 (xs := [bj (aa .u32 ((aa .u32 ((gt p (FK (f + d))) + (gt g f))) + B))]) (aG .u32) (aC H) (lbT rfl) (by omega : 0 + (FK (f + d)).toNat * 1 = (FK (f + d)).toNat * 1 + 0) kRf)))) (.done (.pop (.ru G ?_)))))))
      exact av (p.set (FK (f + d)).toNat (aa .u32 ((aa .u32 ((gt p (FK (f + d))) + (gt g f))) + B)), 0, FK (f + 1)) hr ((Wk.jl 7 (b := 1) (es := 1) (len := p.length) (p.set (FK (f + d)).toNat (aa .u32 ((aa .u32 ((gt p (FK (f + d))) + (gt g f))) + B))).length kRf (Eq.symm (List.length_set.trans rfl))).trans ((Wk.gc [4, 6, 7, 8, 9, 10, 12, 20, 200, 201] kF3 rfl (pKo iCu (aD _) i (pKo iCu (aD _) (p.set (FK (f + d)).toNat (aa .u32 ((aa .u32 ((gt p (FK (f + d))) + (gt g f))) + B))) (pKo iCu (aD _) g trivial)))).to))
     refine .leave rfl ?_
     obtain rfl := oi hr
     exact ⟨rfl, ((Wk.gc [4, 6, 7, 8, 9, 10, 12, 20] kF3 rfl (pKo iCu (aD _) i (pKo iCu (aD _) p (pKo iCu (aD _) g trivial)))).to)⟩
    rcases mA with ⟨t, F⟩
    rintro x st' V
    clear jS
    obtain ⟨rfl, V⟩ := V
    refine aW _ rfl (.wk V ?_)
    obtain ⟨O, hr⟩ := gd hr
    refine .r0 G (.mu 8 (.p0 (v := .hp 1 (0 + (FK (d + (g.length : Int))).toNat * 1)) (tr (au O)) (.p0 (v := bj (gt t (FK (d + (g.length : Int))))) (tr (aE (aF (aG .u32) (aC O) z1 (by omega : 0 + (FK (d + (g.length : Int))).toNat * 1 = (FK (d + (g.length : Int))).toNat * 1 + 0) kRf))) (.mu 3 (.p0 (v := .hp 1 (0 + (FK (d + (g.length : Int))).toNat * 1)) (tr (au O)) (.e0 (v := .unk) (ws := [(1, .own ((t.set (FK (d + (g.length : Int))).toNat ((aa .u32 ((gt t (FK (d + (g.length : Int)))) + F)).tmod 1000000000)).flatMap iCu))]) (tr (jC (jA (cD (n := 1) (aG .u32) (aC O) (lbT rfl) (by omega : 0 + (FK (d + (g.length : Int))).toNat * 1 = (FK (d + (g.length : Int))).toNat * 1 + 0))) (congrArg Blk.own (c9 (xs := [bj ((aa .u32 ((gt t (FK (d + (g.length : Int)))) + F)).tmod 1000000000)]) (aG .u32) (aC O) (lbT rfl) (by omega : 0 + (FK (d + (g.length : Int))).toNat * 1 = (FK (d + (g.length : Int))).toNat * 1 + 0) kRf)))) (.done (.nh [4, 6, 7, 8, 9, 10, 12] [.own (i.flatMap iCu), .own ((t.set (FK (d + (g.length : Int))).toNat ((aa .u32 ((gt t (FK (d + (g.length : Int)))) + F)).tmod 1000000000)).flatMap iCu), .own (g.flatMap iCu)] ?_))))))))
    obtain ⟨W, hr⟩ := gd hr
    refine .r0 G (.mu 4 (.p0 (v := .hp 0 (0 + d.toNat * 1)) (tr (au W)) (.e0 (v := .unk) (ws := [(0, .own ((i.set d.toNat (aa .u32 (wFu (j - 1)))).flatMap iCu))]) (tr (jC (jA (cD (n := 1) (aG .u32) (aC W) (lbT rfl) (by omega : 0 + d.toNat * 1 = d.toNat * 1 + 0))) (congrArg Blk.own (c9 (xs := [bj (aa .u32 (wFu (j - 1)))]) (aG .u32) (aC W) (lbT rfl) (by omega : 0 + d.toNat * 1 = d.toNat * 1 + 0) kRf)))) (.done (.pop (.ru G ?_))))))
    exact av (i.set d.toNat (aa .u32 (wFu (j - 1))), t.set (FK (d + (g.length : Int))).toNat ((aa .u32 ((gt t (FK (d + (g.length : Int)))) + F)).tmod 1000000000), FK (d - 1)) hr ((Wk.jl 4 (b := 0) (es := 1) (len := i.length) (i.set d.toNat (aa .u32 (wFu (j - 1)))).length kRf (Eq.symm (List.length_set.trans rfl))).trans ((Wk.jl 7 (b := 1) (es := 1) (len := t.length) (t.set (FK (d + (g.length : Int))).toNat ((aa .u32 ((gt t (FK (d + (g.length : Int)))) + F)).tmod 1000000000)).length kRf (Eq.symm (List.length_set.trans rfl))).trans ((Wk.gc [4, 6, 7, 8, 9, 10] kF3 rfl (pKo iCu (aD _) (i.set d.toNat (aa .u32 (wFu (j - 1)))) (pKo iCu (aD _) (t.set (FK (d + (g.length : Int))).toNat ((aa .u32 ((gt t (FK (d + (g.length : Int)))) + F)).tmod 1000000000)) (pKo iCu (aD _) g trivial)))).to)))
   refine .r0 G (.mu 6 (.p0 (v := .hp 1 (0 + (FK (d + (g.length : Int))).toNat * 1)) (tr (au E)) (.e0 (v := .unk) (ws := [(1, .own ((o.set (FK (d + (g.length : Int))).toNat (aa .u32 (FK ((FK ((FK (gt o (FK (d + (g.length : Int))))) - w)) - (FK A))))).flatMap iCu))]) (tr (jC (jA (cD (n := 1) (aG .u32) (aC E) (lbT rfl) (by omega : 0 + (FK (d + (g.length : Int))).toNat * 1 = (FK (d + (g.length : Int))).toNat * 1 + 0))) (congrArg Blk.own (c9 (xs := [bj (aa .u32 (FK ((FK ((FK (gt o (FK (d + (g.length : Int))))) - w)) - (FK A))))]) (aG .u32) (aC E) (lbT rfl) (by omega : 0 + (FK (d + (g.length : Int))).toNat * 1 = (FK (d + (g.length : Int))).toNat * 1 + 0) kRf)))) (.done (.nh [4, 6, 7, 8, 9, 10, 12] [.own (i.flatMap iCu), .own ((o.set (FK (d + (g.length : Int))).toNat (aa .u32 (FK ((FK ((FK (gt o (FK (d + (g.length : Int))))) - w)) - (FK A))))).flatMap iCu), .own (g.flatMap iCu)] ?_)))))
   obtain ⟨X, hr⟩ := gd hr
   refine .r0 G (.mu 4 (.p0 (v := .hp 0 (0 + d.toNat * 1)) (tr (au X)) (.e0 (v := .unk) (ws := [(0, .own ((i.set d.toNat (aa .u32 j)).flatMap iCu))]) (tr (jC (jA (cD (n := 1) (aG .u32) (aC X) (lbT rfl) (by omega : 0 + d.toNat * 1 = d.toNat * 1 + 0))) (congrArg Blk.own (c9 (xs := [bj (aa .u32 j)]) (aG .u32) (aC X) (lbT rfl) (by omega : 0 + d.toNat * 1 = d.toNat * 1 + 0) kRf)))) (.done (.pop (.ru G ?_))))))
   exact av (i.set d.toNat (aa .u32 j), o.set (FK (d + (g.length : Int))).toNat (aa .u32 (FK ((FK ((FK (gt o (FK (d + (g.length : Int))))) - w)) - (FK A)))), FK (d - 1)) hr ((Wk.jl 4 (b := 0) (es := 1) (len := i.length) (i.set d.toNat (aa .u32 j)).length kRf (Eq.symm (List.length_set.trans rfl))).trans ((Wk.jl 7 (b := 1) (es := 1) (len := o.length) (o.set (FK (d + (g.length : Int))).toNat (aa .u32 (FK ((FK ((FK (gt o (FK (d + (g.length : Int))))) - w)) - (FK A))))).length kRf (Eq.symm (List.length_set.trans rfl))).trans ((Wk.gc [4, 6, 7, 8, 9, 10] kF3 rfl (pKo iCu (aD _) (i.set d.toNat (aa .u32 j)) (pKo iCu (aD _) (o.set (FK (d + (g.length : Int))).toNat (aa .u32 (FK ((FK ((FK (gt o (FK (d + (g.length : Int))))) - w)) - (FK A))))) (pKo iCu (aD _) g trivial)))).to)))
  refine .leave rfl ?_
  obtain rfl := oi hr
  exact ⟨rfl, ((Wk.gc [4, 6, 7, 9] [(0, false), (1, false)] rfl (pKo iCu (aD _) i (pKo iCu (aD _) q trivial))).to)⟩
 rcases kX with ⟨I, J⟩
 rintro x st' Y
 clear j8
 obtain ⟨rfl, Y⟩ := Y
 refine aW _ rfl (.wk Y (.seq ?_))
 obtain ⟨kp, hr⟩ := gd hr
 obtain ⟨mw, qd, nH, so, hr⟩ := bd2 hr
 refine .gn G (ca1 (cx (args := [.hs 1 0 (g.length : Int).toNat 1]) (l := [1]) (SnL.cons (Sn.hsk (aG _) (aD _) (pY kp) rfl (.inl rfl)) SnL.nil) (gx n (J.take (g.length : Int).toNat) mw qd)) (ca4 [.own (I.flatMap iCu), .fix (J.flatMap iCu)] (ok0 (lC n mw (aa .u32 (wFu ((1000000000 : Int).tdiv (wFu ((wFu (gt b (FK ((b.length : Int) - 1)))) + 1))))) nH so)))) (.mu 2 (.p0 (v := .hs 1 0 (g.length : Int).toNat 1) (tr (y := slH (inS 0 (g.length : Int) J.length) true ((0 : Int).toNat) ((g.length : Int).toNat) (fun z1 z2 => .hs 1 (0 + z1 * 1) (z2 - z1) 1)) (Cb kp kRf)) (.ca cf0 (.mu 1 (.ca (cfF cf0) (.mu 4 (.done (.nh [4, 5] [.own (I.flatMap iCu), .fix (J.flatMap iCu)] (.seq ?_)))))))))
 obtain ⟨oD, rz, hr⟩ := bd hr
 refine .g1 G (cx (args := [.hs 0 0 I.length 1]) (l := [0]) (SnL.cons (Sn.hs rfl (.inl rfl) (SnC.pure (a7 (aD _) _)) (fun h => bZ h)) SnL.nil) (gx n I oD rz)) (.mu 1 (.ca cf0 (.mu 3 (.done (.ret ?_)))))
 obtain rfl := oi hr
 exact aK.ret (vs := [az oD, az nH.1]) kRf (Sn.tup (Sp (Sp SnL.nil)))

theorem mf (n : Nat) (a : List Int) (b : List Int) (r : List Int × List Int) (hr : gD n a b = some r) : aO Tryz.prog 182 [az a, az b] (.tup [az r.1, az r.2]) := by
 unfold gD at hr
 refine aO.bd G Tryz.func182 [.tmp 4, .tmp 5] ?_
 unfold Tryz.f182
 simp only [gS]
 refine .seq (.r4 G [0, 1] [] (.seq (.seq ?_)))
 obtain ⟨L, E, hr⟩ := bd hr
 refine .g1 G (ok0 (kg n a b L E)) (.mu 2 (.ca cf0 (.mu 1 (.done (.nh [0, 1, 15] [] ?_)))))
 refine .cd hr ?_ ?_ <;> intro M hr
 ·refine .seq (.r3 G 59 [(4, nS), (5, az a)] (.ret ?_))
  obtain rfl := oi hr
  exact aK.ret (vs := [nS, az a]) kRf (Sn.tup (SnL.cons Sn.gh (Sp SnL.nil)))
 refine .skip (.seq ?_)
 obtain ⟨d, F, hr⟩ := bd hr
 refine .g1 G (ok0 (j3 n a d F)) (.mu 1 (.ca cf0 (.mu 5 (.done (.nh [0, 1, 6, 7] [] (.seq ?_))))))
 obtain ⟨k, H, hr⟩ := bd hr
 refine .g1 G (ok0 (j3 n b k H)) (.mu 1 (.ca cf0 (.mu 5 (.done (.nh [0, 1, 6, 7, 8, 9] [] (.seq (.seq ?_)))))))
 rcases bT d.2 with c | c
 ·replace hr := cg c hr
  refine .r0 G (.p0 (v := aB true) (eB c) (.mu 3 (.done (.nh [0, 1, 6, 8, 30] [] ?_))))
  refine .cd hr ?_ ?_ <;> intro N hr
  ·refine .seq ?_
   obtain ⟨e, hr⟩ := gd hr
   obtain ⟨q, f, s, g, hr⟩ := bd2 hr
   refine .tn G (ca1 (ok0 (e9 n (wFu (d.1.tdiv k.1)) q f)) (ca3 (ok0 (e9 n (d.1.tmod k.1) s g)))) (.mu 2 (.pk (v := cU (wFu (d.1.tdiv k.1))) (qL (x := d.1) (y := k.1) kRf kRf e) (.ca cf0 (.mu 2 (.pk (v := cU (d.1.tmod k.1)) (qn (x := d.1) (y := k.1) kRf kRf e) (.ca (cfA (fun h => by rw [sv g f (tS n h)]) cf0) (.mu 2 ?_)))))))
   refine .done (kRa ?_)
   refine .ret ?_
   obtain rfl := oi hr
   exact aK.ret (vs := [az q, az s]) kRf (Sn.tup (Sp (Sp SnL.nil)))
  refine .skip (.seq (.seq (.r4 G [0, 1] [(41, aB (((b.length : Int) : Int) == 1))] ?_)))
  refine .cd hr ?_ ?_ <;> intro I hr
  ·refine .seq ?_
   obtain ⟨i, hr⟩ := gd hr
   obtain ⟨l, t, hr⟩ := bd hr
   refine .g1 G (ok0 (lC n a (gt b 0) l t)) (.mu 2 (.p0 (v := .pp (b.flatMap iCu) ((0 : Int).toNat * 1)) (tr (au i)) (.p0 (v := bj (gt b 0)) (tr (aE (aF (aG .u32) (aC i) z1 (by omega : (0 : Int).toNat * 1 = (0 : Int).toNat * 1 + 0) kRf))) (.ca cf0 (.mu 5 (.done (.nh [10, 11] [] (.seq ?_))))))))
   obtain ⟨u, w, hr⟩ := bd hr
   refine .g1 G (ok0 (e9 n (wFu l.2) u w)) (.mu 3 (.ca cf0 (.mu 2 (.done (.ret ?_)))))
   obtain rfl := oi hr
   exact aK.ret (vs := [az l.1, az u]) kRf (Sn.tup (Sp (Sp SnL.nil)))
  refine .skip (.seq ?_)
  obtain ⟨m, z, hr⟩ := bd hr
  refine .g1 G (ok0 (pJ n a b m z)) (.mu 2 (.ca cf0 (.mu 4 (.done (.ret ?_)))))
  obtain rfl := oi hr
  exact aK.ret (vs := [az m.1, az m.2]) kRf (Sn.tup (Sp (Sp SnL.nil)))
 replace hr := ch c hr
 refine .r0 G (.p0 (v := aB false) (eB c) (.mu 3 (.done (.nh [0, 1, 6, 8, 30] [] (.cF kRf (.skip (.seq (.seq (.r4 G [0, 1] [(41, aB (((b.length : Int) : Int) == 1))] ?_)))))))))
 refine .cd hr ?_ ?_ <;> intro J hr
 ·refine .seq ?_
  obtain ⟨j, hr⟩ := gd hr
  obtain ⟨o, A, hr⟩ := bd hr
  refine .g1 G (ok0 (lC n a (gt b 0) o A)) (.mu 2 (.p0 (v := .pp (b.flatMap iCu) ((0 : Int).toNat * 1)) (tr (au j)) (.p0 (v := bj (gt b 0)) (tr (aE (aF (aG .u32) (aC j) z1 (by omega : (0 : Int).toNat * 1 = (0 : Int).toNat * 1 + 0) kRf))) (.ca cf0 (.mu 5 (.done (.nh [10, 11] [] (.seq ?_))))))))
  obtain ⟨B, C, hr⟩ := bd hr
  refine .g1 G (ok0 (e9 n (wFu o.2) B C)) (.mu 3 (.ca cf0 (.mu 2 (.done (.ret ?_)))))
  obtain rfl := oi hr
  exact aK.ret (vs := [az o.1, az B]) kRf (Sn.tup (Sp (Sp SnL.nil)))
 refine .skip (.seq ?_)
 obtain ⟨p, D, hr⟩ := bd hr
 refine .g1 G (ok0 (pJ n a b p D)) (.mu 2 (.ca cf0 (.mu 4 (.done (.ret ?_)))))
 obtain rfl := oi hr
 exact aK.ret (vs := [az p.1, az p.2]) kRf (Sn.tup (Sp (Sp SnL.nil)))

theorem nq (n : Nat) (s : ah) (y : ah) (r : ah) (hr : iA n s y = some r) : aO Tryz.prog 145 [.agg (ah.c s), .agg (ah.c y)] (.agg (ah.c r)) := by
 unfold iA at hr
 refine aO.bd G Tryz.func145 [.cell 4 40] ?_
 unfold Tryz.f145
 simp only [gS]
 refine .seq (.r2 G 54 [(2, .hp 0 0), (3, .hp 1 0), (4, .hp 2 0)] [.own (ah.c s), .own (ah.c y), .own [aB false, nS]] (.seq ?_))
 obtain ⟨W, t, X, u, hr⟩ := bd2 hr
 refine .tn G (ca1 (ok0 (b9 n s W t)) (ca3 (ok0 (b9 n y X u)))) (.mu 1 (.ca cf0 (.mu 1 (.ca (cfA (fun h => by rw [sv u t (gL n h)]) cf0) (.mu 2 ?_)))))
 refine .done (kRa ?_)
 refine .nh [4, 5, 6] [.own (ah.c s), .own (ah.c y), .own [aB false, nS]] (.seq (.block ?_))
 replace hr := bd hr; obtain ⟨w, g, hr⟩ := hr
 refine .aN (σ := fun R => match R with | (i, d) => ⟨mkS 54 0 [(4, .hp 0 0), (5, az i), (6, az d)], [.own [aB false, nS]]⟩) (Q := fun x st' => match (generalizing := false) w with | .inl j => x = .exit 0 /\ Wk 0 st' ⟨mkS 54 0 [(4, .hp 0 0), (5, az j)], [.own [aB false, nS]]⟩ | .inr (r0) => x = .ret /\ aK Tryz.prog [.cell 4 40] (.agg (ah.c r0)) .ret st') g ((Wk.gc [4, 5, 6] [(2, true)] rfl trivial).to) ?_ ?_
 ·clear hr
  rintro m ⟨i, d⟩ hr
  refine CQ.sh ?_
  refine .seq (.seq (.r4 G [4, 5, 6] [(19, aB (decide ((d.length : Int) > 0)))] ?_))
  refine .cd hr ?_ ?_ <;> intro T hr
  ·refine .skip (.block (.seq ?_))
   obtain ⟨z, A, hr⟩ := bd hr
   refine .g1 G (ok0 (j3 n i z A)) (.mu 1 (.ca cf0 (.mu 5 (.done (.nh [4, 5, 6, 7, 8] [.own [aB false, nS]] (.seq ?_))))))
   obtain ⟨S, B, hr⟩ := bd hr
   refine .g1 G (ok0 (j3 n d S B)) (.mu 1 (.ca cf0 (.mu 5 (.done (.nh [4, 5, 6, 7, 8, 9, 10] [.own [aB false, nS]] (.seq (.seq ?_)))))))
   rcases bT z.2 with e | e
   ·replace hr := cg e hr
    refine .r0 G (.p0 (v := aB true) (eB e) (.mu 3 (.done (.nh [4, 5, 6, 7, 9, 33] [.own [aB false, nS]] ?_))))
    refine .cd hr ?_ ?_ <;> intro U hr
    ·refine .seq (.block ?_)
     replace hr := bd hr; obtain ⟨l, o, hr⟩ := hr
     refine .aN (σ := fun R => match R with | (f, a) => ⟨mkS 54 0 [(4, .hp 0 0), (7, cU f), (9, cU a)], [.own [aB false, nS]]⟩) (Q := fun x st' => x = .exit 2 /\ Wk 0 st' ⟨mkS 54 0 [(4, .hp 0 0), (7, cU l)], [.own [aB false, nS]]⟩) o ((Wk.gc [4, 7, 9] [(0, true)] rfl trivial).to) ?_ ?_
     ·clear hr
      rintro m ⟨f, a⟩ hr
      refine CQ.sh ?_
      refine .seq (.seq (.r4 G [4, 7, 9] [(35, aB (decide (a > 0)))] ?_))
      refine .cd hr ?_ ?_ <;> intro V hr
      ·refine .skip (.block ?_)
       obtain ⟨C, hr⟩ := gd hr
       refine .dS G bF (.mu 3 (.pk (v := cU (f.tmod a)) (qn (x := f) (y := a) kRf kRf C) (.mu 2 ?_)))
       refine .done (kRa ?_)
       refine .pop ?_
       exact av (a, f.tmod a) hr ((Wk.gc [4, 7, 9] [(0, true)] rfl trivial).to)
      refine .leave rfl ?_
      obtain rfl := oi hr
      exact ⟨rfl, ((Wk.gc [4, 7] [(0, true)] rfl trivial).to)⟩
     rintro x st' k
     clear o
     obtain ⟨rfl, k⟩ := k
     refine aW _ rfl (.wk k (.seq ?_))
     obtain ⟨D, E, p, F, hr⟩ := bd2 hr
     refine .gn G (ca1 (ok0 (e9 n l D E)) (ca3 (ok0 (bU n false D p F)))) (.mu 1 (.ca cf0 (.ca (cfF cf0) (.mu 1 (.done (.nh [4] [.own (ah.c p)] (.ret ?_)))))))
     obtain rfl := oi hr
     exact ⟨rfl, aK.ret (vs := [.agg (ah.c p)]) kRf (Sn.pure rfl)⟩
    refine .skip (.seq ?_)
    obtain ⟨H, I, hr⟩ := bd hr
    refine .g1 G (ok0 (mf n i d H I)) (.mu 2 (.ca cf0 (.mu 5 (.done (.nh [4, 6, 12] [.own [aB false, nS]] (.ru G (.pop ?_)))))))
    exact av (d, H.2) hr ((Wk.gc [4, 5, 6] [(0, true)] rfl trivial).to)
   replace hr := ch e hr
   refine .r0 G (.p0 (v := aB false) (eB e) (.mu 3 (.done (.nh [4, 5, 6, 7, 9, 33] [.own [aB false, nS]] (.cF kRf (.skip (.seq ?_)))))))
   obtain ⟨J, L, hr⟩ := bd hr
   refine .g1 G (ok0 (mf n i d J L)) (.mu 2 (.ca cf0 (.mu 5 (.done (.nh [4, 6, 12] [.own [aB false, nS]] (.ru G (.pop ?_)))))))
   exact av (d, J.2) hr ((Wk.gc [4, 5, 6] [(0, true)] rfl trivial).to)
  refine .leave rfl ?_
  obtain rfl := oi hr
  exact ⟨rfl, ((Wk.gc [4, 5] [(0, true)] rfl trivial).to)⟩
 rcases w with j | r0
 ·rintro x st' b
  clear g
  obtain ⟨rfl, b⟩ := b
  refine aW _ rfl (.wk b (.seq ?_))
  obtain ⟨M, N, q, O, hr⟩ := bd2 hr
  refine .gn G (ca1 (ok0 (fm n j M N)) (ca3 (ok0 (bU n false M q O)))) (.mu 1 (.ca cf0 (.ca (cfF cf0) (.mu 1 (.done (.nh [4] [.own (ah.c q)] (.ret ?_)))))))
  obtain rfl := oi hr
  exact aK.r1 [.agg (ah.c q)]
 rintro x st' b
 clear g
 obtain ⟨rfl, b⟩ := b
 obtain rfl := oi hr
 exact iM _ b

theorem pL (n : Nat) (a : List Int) (b : List Int) (r : List Int) (hr : jO n a b = some r) : aO Tryz.prog 191 [az a, az b] (az r) := by
 unfold jO at hr
 refine aO.bd G Tryz.func191 [.tmp 4] ?_
 unfold Tryz.f191
 simp only [gS]
 refine .seq (.r4 G [0, 1] [] (.seq ?_))
 obtain ⟨y, A, B, hr⟩ := gd3 hr
 refine .r0 G (.mu 6 (.e0 (v := .hs 0 0 (List.replicate (FK ((mx (a.length : Int) (b.length : Int)) + 1)).toNat ((0 : Int) : Int)).length 1) (ws := [(0, .own ((List.replicate (FK ((mx (a.length : Int) (b.length : Int)) + 1)).toNat ((0 : Int) : Int)).flatMap iCu))]) (tr (lT (c := iCu) (z := (0 : Int)) (n := FK ((mx (a.length : Int) (b.length : Int)) + 1)) (by_ := 4) rfl y A B)) (.mu 1 (.done (.nh [0, 1, 5] [.own ((List.replicate (FK ((mx (a.length : Int) (b.length : Int)) + 1)).toNat ((0 : Int) : Int)).flatMap iCu)] (.seq (.r4 G [0, 1, 5] [(6, bj 0)] (.seq (.seq (.r4 G [0, 1, 5, 6] [(17, ag ((List.replicate (FK ((mx (a.length : Int) (b.length : Int)) + 1)).toNat ((0 : Int) : Int)).length : Int)), (18, ag 0)] (.block ?_)))))))))))
 replace hr := bd hr; obtain ⟨j, q, hr⟩ := hr
 refine .aN (σ := fun E => match E with | (e, f, d) => ⟨mkS 41 0 [(0, az a), (1, az b), (5, .hs 0 0 e.length 1), (6, bj f), (17, ag ((List.replicate (FK ((mx (a.length : Int) (b.length : Int)) + 1)).toNat ((0 : Int) : Int)).length : Int)), (18, ag d)], [.own (e.flatMap iCu)]⟩) (Q := fun x st' => x = .exit 0 /\ Wk 0 st' ⟨mkS 41 0 [(5, .hs 0 0 j.length 1)], [.own (j.flatMap iCu)]⟩) q ((Wk.gc [0, 1, 5, 6, 17, 18] [(0, false)] rfl (pKo iCu (aD _) (List.replicate (FK ((mx (a.length : Int) (b.length : Int)) + 1)).toNat ((0 : Int) : Int)) trivial)).to) ?_ ?_
 ·clear hr
  rintro m ⟨e, f, d⟩ hr
  refine CQ.sh ?_
  refine .seq (.r4 G [0, 1, 5, 6, 17, 18] [(19, aB (decide (d < ((List.replicate (FK ((mx (a.length : Int) (b.length : Int)) + 1)).toNat ((0 : Int) : Int)).length : Int))))] (.seq ?_))
  refine .cd hr ?_ ?_ <;> intro C hr
  ·refine .skip (.seq (.block (.seq (.r4 G [0, 1, 5, 6, 17, 18] [(7, ag d)] (.seq ?_)))))
   obtain ⟨g, s, i, t, hr⟩ := bd2 hr
   refine .gn G (ca1 (ok0 (lJ n a d g s)) (ca3 (ok0 (lJ n b d i t)))) (.mu 2 (.ca cf0 (.mu 2 (.ca (cfA (fun h => by rw [sv t s (wC n h)]) cf0) (.mu 4 (.done (.nh [0, 1, 5, 7, 8, 17, 18] [.own (e.flatMap iCu)] (.seq (.r4 G [0, 1, 5, 7, 8, 17, 18] [(6, bj 0)] (.seq (.seq (.r4 G [0, 1, 5, 6, 7, 8, 17, 18] [(31, aB (decide ((aa .u32 ((aa .u32 (g + i)) + f)) >= 1000000000)))] ?_))))))))))))
   refine .cd hr ?_ ?_ <;> intro D hr
   ·refine .r4 G [0, 1, 5, 7, 17, 18] [(6, bj 1), (8, bj (aa .u32 ((aa .u32 ((aa .u32 (g + i)) + f)) - 1000000000)))] ?_
    obtain ⟨k, hr⟩ := gd hr
    refine .r0 G (.mu 3 (.p0 (v := .hp 0 (0 + d.toNat * 1)) (tr (au k)) (.e0 (v := .unk) (ws := [(0, .own ((e.set d.toNat (aa .u32 ((aa .u32 ((aa .u32 (g + i)) + f)) - 1000000000))).flatMap iCu))]) (tr (jC (jA (cD (n := 1) (aG .u32) (aC k) (lbT rfl) (by omega : 0 + d.toNat * 1 = d.toNat * 1 + 0))) (congrArg Blk.own (c9 (xs := [bj (aa .u32 ((aa .u32 ((aa .u32 (g + i)) + f)) - 1000000000))]) (aG .u32) (aC k) (lbT rfl) (by omega : 0 + d.toNat * 1 = d.toNat * 1 + 0) kRf)))) (.done (.pop (.ru G ?_))))))
    exact av (e.set d.toNat (aa .u32 ((aa .u32 ((aa .u32 (g + i)) + f)) - 1000000000)), 1, FK (d + 1)) hr ((Wk.jl 5 (b := 0) (es := 1) (len := e.length) (e.set d.toNat (aa .u32 ((aa .u32 ((aa .u32 (g + i)) + f)) - 1000000000))).length kRf (Eq.symm (List.length_set.trans rfl))).trans ((Wk.gc [0, 1, 5, 6, 17, 18] [(0, false)] rfl (pKo iCu (aD _) (e.set d.toNat (aa .u32 ((aa .u32 ((aa .u32 (g + i)) + f)) - 1000000000))) trivial)).to))
   refine .skip ?_
   obtain ⟨o, hr⟩ := gd hr
   refine .r0 G (.mu 3 (.p0 (v := .hp 0 (0 + d.toNat * 1)) (tr (au o)) (.e0 (v := .unk) (ws := [(0, .own ((e.set d.toNat (aa .u32 ((aa .u32 (g + i)) + f))).flatMap iCu))]) (tr (jC (jA (cD (n := 1) (aG .u32) (aC o) (lbT rfl) (by omega : 0 + d.toNat * 1 = d.toNat * 1 + 0))) (congrArg Blk.own (c9 (xs := [bj (aa .u32 ((aa .u32 (g + i)) + f))]) (aG .u32) (aC o) (lbT rfl) (by omega : 0 + d.toNat * 1 = d.toNat * 1 + 0) kRf)))) (.done (.pop (.ru G ?_))))))
   exact av (e.set d.toNat (aa .u32 ((aa .u32 (g + i)) + f)), 0, FK (d + 1)) hr ((Wk.jl 5 (b := 0) (es := 1) (len := e.length) (e.set d.toNat (aa .u32 ((aa .u32 (g + i)) + f))).length kRf (Eq.symm (List.length_set.trans rfl))).trans ((Wk.gc [0, 1, 5, 6, 17, 18] [(0, false)] rfl (pKo iCu (aD _) (e.set d.toNat (aa .u32 ((aa .u32 (g + i)) + f))) trivial)).to))
  refine .leave rfl ?_
  obtain rfl := oi hr
  exact ⟨rfl, ((Wk.gc [5] [(0, false)] rfl (pKo iCu (aD _) e trivial)).to)⟩
 rintro x st' p
 clear q
 obtain ⟨rfl, p⟩ := p
 refine aW _ rfl (.wk p (.seq ?_))
 obtain ⟨u, w, hr⟩ := bd hr
 refine .g1 G (cx (args := [.hs 0 0 j.length 1]) (l := [0]) (SnL.cons (Sn.hs rfl (.inl rfl) (SnC.pure (a7 (aD _) _)) (fun h => bZ h)) SnL.nil) (gx n j u w)) (.mu 1 (.ca cf0 (.mu 1 (.done (.ret ?_)))))
 obtain rfl := oi hr
 exact aK.r1 [az u]

theorem lG (n : Nat) (a : List Int) (b : List Int) (r : List Int) (hr : gV n a b = some r) : aO Tryz.prog 192 [az a, az b] (az r) := by
 unfold gV at hr
 refine aO.bd G Tryz.func192 [.tmp 4] ?_
 unfold Tryz.f192
 simp only [gS]
 refine .seq (.r4 G [0, 1] [] (.seq ?_))
 obtain ⟨w, y, A, hr⟩ := gd3 hr
 refine .r0 G (.mu 2 (.e0 (v := .hs 0 0 (List.replicate (a.length : Int).toNat ((0 : Int) : Int)).length 1) (ws := [(0, .own ((List.replicate (a.length : Int).toNat ((0 : Int) : Int)).flatMap iCu))]) (tr (lT (c := iCu) (z := (0 : Int)) (n := (a.length : Int)) (by_ := 4) rfl w y A)) (.mu 1 (.done (.nh [0, 1, 5] [.own ((List.replicate (a.length : Int).toNat ((0 : Int) : Int)).flatMap iCu)] (.seq (.r4 G [0, 1, 5] [(6, bj 0)] (.seq (.seq (.r4 G [0, 1, 5, 6] [(13, ag ((List.replicate (a.length : Int).toNat ((0 : Int) : Int)).length : Int)), (14, ag 0)] (.block ?_)))))))))))
 replace hr := bd hr; obtain ⟨j, q, hr⟩ := hr
 refine .aN (σ := fun D => match D with | (e, f, d) => ⟨mkS 50 0 [(0, az a), (1, az b), (5, .hs 0 0 e.length 1), (6, bj f), (13, ag ((List.replicate (a.length : Int).toNat ((0 : Int) : Int)).length : Int)), (14, ag d)], [.own (e.flatMap iCu)]⟩) (Q := fun x st' => x = .exit 0 /\ Wk 0 st' ⟨mkS 50 0 [(5, .hs 0 0 j.length 1)], [.own (j.flatMap iCu)]⟩) q ((Wk.gc [0, 1, 5, 6, 13, 14] [(0, false)] rfl (pKo iCu (aD _) (List.replicate (a.length : Int).toNat ((0 : Int) : Int)) trivial)).to) ?_ ?_
 ·clear hr
  rintro m ⟨e, f, d⟩ hr
  refine CQ.sh ?_
  refine .seq (.r4 G [0, 1, 5, 6, 13, 14] [(15, aB (decide (d < ((List.replicate (a.length : Int).toNat ((0 : Int) : Int)).length : Int))))] (.seq ?_))
  refine .cd hr ?_ ?_ <;> intro B hr
  ·refine .skip (.seq (.block (.seq (.r4 G [0, 1, 5, 6, 13, 14] [(7, ag d)] (.seq ?_)))))
   obtain ⟨g, s, hr⟩ := bd hr
   refine .g1 G (ok0 (lJ n b d g s)) (.mu 2 (.ca cf0 (.mu 3 (.done (.nh [0, 1, 5, 7, 8, 13, 14] [.own (e.flatMap iCu)] (.seq (.r4 G [0, 1, 5, 7, 8, 13, 14] [(6, bj 0)] (.seq ?_))))))))
   obtain ⟨i, hr⟩ := gd hr
   refine .r0 G (.mu 2 (.p0 (v := .pp (a.flatMap iCu) (d.toNat * 1)) (tr (au i)) (.p0 (v := bj (gt a d)) (tr (aE (aF (aG .u32) (aC i) z1 (by omega : d.toNat * 1 = d.toNat * 1 + 0) kRf))) (.mu 2 (.done (.nh [0, 1, 5, 6, 7, 8, 13, 14, 27] [.own (e.flatMap iCu)] ?_))))))
   refine .cd hr ?_ ?_ <;> intro C hr
   ·obtain ⟨k, hr⟩ := gd hr
    refine .r0 G (.mu 4 (.p0 (v := .pp (a.flatMap iCu) (d.toNat * 1)) (tr (au i)) (.p0 (v := bj (gt a d)) (tr (aE (aF (aG .u32) (aC i) z1 (by omega : d.toNat * 1 = d.toNat * 1 + 0) kRf))) (.mu 3 (.p0 (v := .hp 0 (0 + d.toNat * 1)) (tr (au k)) (.e0 (v := .unk) (ws := [(0, .own ((e.set d.toNat (aa .u32 ((aa .u32 ((gt a d) + 1000000000)) - (aa .u32 (g + f))))).flatMap iCu))]) (tr (jC (jA (cD (n := 1) (aG .u32) (aC k) (lbT rfl) (by omega : 0 + d.toNat * 1 = d.toNat * 1 + 0))) (congrArg Blk.own (c9 (xs := [bj (aa .u32 ((aa .u32 ((gt a d) + 1000000000)) - (aa .u32 (g + f))))]) (aG .u32) (aC k) (lbT rfl) (by omega : 0 + d.toNat * 1 = d.toNat * 1 + 0) kRf)))) (.mu 1 (.done (.pop (.ru G ?_))))))))))
    exact av (e.set d.toNat (aa .u32 ((aa .u32 ((gt a d) + 1000000000)) - (aa .u32 (g + f)))), 1, FK (d + 1)) hr ((Wk.jl 5 (b := 0) (es := 1) (len := e.length) (e.set d.toNat (aa .u32 ((aa .u32 ((gt a d) + 1000000000)) - (aa .u32 (g + f))))).length kRf (Eq.symm (List.length_set.trans rfl))).trans ((Wk.gc [0, 1, 5, 6, 13, 14] [(0, false)] rfl (pKo iCu (aD _) (e.set d.toNat (aa .u32 ((aa .u32 ((gt a d) + 1000000000)) - (aa .u32 (g + f))))) trivial)).to))
   obtain ⟨o, hr⟩ := gd hr
   refine .r0 G (.mu 4 (.p0 (v := .pp (a.flatMap iCu) (d.toNat * 1)) (tr (au i)) (.p0 (v := bj (gt a d)) (tr (aE (aF (aG .u32) (aC i) z1 (by omega : d.toNat * 1 = d.toNat * 1 + 0) kRf))) (.mu 2 (.p0 (v := .hp 0 (0 + d.toNat * 1)) (tr (au o)) (.e0 (v := .unk) (ws := [(0, .own ((e.set d.toNat (aa .u32 ((gt a d) - (aa .u32 (g + f))))).flatMap iCu))]) (tr (jC (jA (cD (n := 1) (aG .u32) (aC o) (lbT rfl) (by omega : 0 + d.toNat * 1 = d.toNat * 1 + 0))) (congrArg Blk.own (c9 (xs := [bj (aa .u32 ((gt a d) - (aa .u32 (g + f))))]) (aG .u32) (aC o) (lbT rfl) (by omega : 0 + d.toNat * 1 = d.toNat * 1 + 0) kRf)))) (.done (.pop (.ru G ?_)))))))))
   exact av (e.set d.toNat (aa .u32 ((gt a d) - (aa .u32 (g + f)))), 0, FK (d + 1)) hr ((Wk.jl 5 (b := 0) (es := 1) (len := e.length) (e.set d.toNat (aa .u32 ((gt a d) - (aa .u32 (g + f))))).length kRf (Eq.symm (List.length_set.trans rfl))).trans ((Wk.gc [0, 1, 5, 6, 13, 14] [(0, false)] rfl (pKo iCu (aD _) (e.set d.toNat (aa .u32 ((gt a d) - (aa .u32 (g + f))))) trivial)).to))
  refine .leave rfl ?_
  obtain rfl := oi hr
  exact ⟨rfl, ((Wk.gc [5] [(0, false)] rfl (pKo iCu (aD _) e trivial)).to)⟩
 rintro x st' p
 clear q
 obtain ⟨rfl, p⟩ := p
 refine aW _ rfl (.wk p (.seq ?_))
 obtain ⟨t, u, hr⟩ := bd hr
 refine .g1 G (cx (args := [.hs 0 0 j.length 1]) (l := [0]) (SnL.cons (Sn.hs rfl (.inl rfl) (SnC.pure (a7 (aD _) _)) (fun h => bZ h)) SnL.nil) (gx n j t u)) (.mu 1 (.ca cf0 (.mu 1 (.done (.ret ?_)))))
 obtain rfl := oi hr
 exact aK.r1 [az t]

theorem jh (n : Nat) (b : ah) (y : ah) (r : ah × ah × Int) (hr : de n b y = some r) : aO Tryz.prog 160 [.agg (ah.c b), .agg (ah.c y)] (.tup [.agg (ah.c r.1), .agg (ah.c r.2.1), ag r.2.2]) := by
 unfold de at hr
 refine aO.bd G Tryz.func160 [.cell 4 40, .cell 5 40, .tmp 6] ?_
 unfold Tryz.f160
 simp only [gS]
 refine .seq (.r2 G 55 [(2, .hp 0 0), (3, .hp 1 0), (4, .hp 2 0), (5, .hp 3 0)] [.own (ah.c b), .own (ah.c y), .own [aB false, nS], .own [aB false, nS]] (.seq ?_))
 obtain ⟨I, w, E, x, hr⟩ := bd2 hr
 refine .tn G (ca1 (ok0 (b9 n b I w)) (ca3 (ok0 (b9 n y E x)))) (.mu 1 (.ca cf0 (.mu 1 (.ca (cfA (fun h => by rw [sv x w (gL n h)]) cf0) (.mu 2 ?_)))))
 refine .done (kRa ?_)
 refine .nh [2, 3, 4, 5, 7, 8] [.own (ah.c b), .own (ah.c y), .own [aB false, nS], .own [aB false, nS]] (.seq (.seq (.r4 G [2, 3, 4, 5, 7, 8] [(17, aB (((E.length : Int) : Int) == 0))] ?_)))
 refine .cd hr ?_ ?_ <;> intro J hr
 ·refine .seq (.r4 G [4, 5] [(6, ag 14)] (.ret ?_))
  obtain rfl := oi hr
  exact aK.ret (vs := [.agg [aB false, nS], .agg [aB false, nS], ag 14]) kRf (Sn.tup (SnL.cons (Sn.agg (Sp (SnL.cons Sn.gh SnL.nil))) (SnL.cons (Sn.agg (Sp (SnL.cons Sn.gh SnL.nil))) (Sp SnL.nil))))
 refine .skip (.seq ?_)
 obtain ⟨u, F, hr⟩ := bd hr
 refine .g1 G (ok0 (mf n I E u F)) (.mu 2 (.ca cf0 (.mu 5 (.done (.nh [2, 3, 4, 5, 8, 9, 10] [.own (ah.c b), .own (ah.c y), .own [aB false, nS], .own [aB false, nS]] (.seq ?_))))))
 obtain ⟨z, H, hr⟩ := bd hr
 refine .g1 G (ok0 (fm n u.2 z H)) (.mu 1 (.ca cf0 (.mu 1 (.done (.nh [2, 3, 4, 5, 8, 9, 10] [.own (ah.c b), .own (ah.c y), .own [aB false, nS], .own [aB false, nS]] (.seq (.seq ?_)))))))
 rcases bT (decide ((z.length : Int) > 0)) with a | a
 ·replace hr := cg a hr
  refine .r0 G (.mu 2 (.p0 (v := aB true) (eB a) (.mu 7 (.done (.nh [2, 3, 4, 5, 8, 9, 10, 37] [.own (ah.c b), .own (ah.c y), .own [aB false, nS], .own [aB false, nS]] ?_)))))
  refine .cd hr ?_ ?_ <;> intro d hr
  ·obtain ⟨A, B, C, D, hr⟩ := bd2 hr
   refine .gn G (ca2 [.own (ah.c b), .own (ah.c y), .own [aB false, nS], .own [aB false, nS], .own [bj 1]] (cx (args := [az u.1, .hs 4 0 1 1]) (l := [4]) (Sp (SnL.cons (Sn.hs rfl (.inl rfl) (SnC.cons (Sn.pure rfl) SnC.nil) (fun h => nomatch h)) SnL.nil)) (pL n u.1 [(1 : Int)] A B)) (ca4 [.own (ah.c b), .own (ah.c y), .own [aB false, nS], .own [aB false, nS], .fix [bj 1]] (ok0 (lG n E z C D)))) (.mu 2 (.ca cf0 (.mu 2 (.ca (cfF cf0) (.mu 2 (.done (.nh [2, 3, 4, 5, 9, 10] [.own (ah.c b), .own (ah.c y), .own [aB false, nS], .own [aB false, nS], .fix [bj 1]] (.seq ?_))))))))
   obtain ⟨m, e, o, f, hr⟩ := bd2 hr
   refine .tn G (ca1 (ok0 (bU n true A m e)) (ca3 (ok0 (bU n y.Negative C o f)))) (.mu 4 (.pk (v := aB true) (eB d) (.mu 1 (.ca cf0 (.mu 3 (.ca (cfA (fun h => by rw [sv f e (mh n h)]) cf0) (.mu 3 ?_)))))))
   refine .done (kRa ?_)
   refine .nh [4, 5, 6] [.own (ah.c b), .own (ah.c y), .own (ah.c m), .own (ah.c o), .fix [bj 1]] (.ret ?_)
   obtain rfl := oi hr
   exact aK.ret (vs := [.agg (ah.c m), .agg (ah.c o), ag 0]) kRf (Sn.tup (Sp (Sp (Sp SnL.nil))))
  refine .skip (.seq ?_)
  obtain ⟨p, g, q, i, hr⟩ := bd2 hr
  refine .tn G (ca1 (ok0 (bU n false u.1 p g)) (ca3 (ok0 (bU n y.Negative z q i)))) (.mu 4 (.pk (v := aB false) (eB d) (.mu 1 (.ca cf0 (.mu 3 (.ca (cfA (fun h => by rw [sv i g (mh n h)]) cf0) (.mu 3 ?_)))))))
  refine .done (kRa ?_)
  refine .nh [4, 5, 6] [.own (ah.c b), .own (ah.c y), .own (ah.c p), .own (ah.c q)] (.ret ?_)
  obtain rfl := oi hr
  exact aK.ret (vs := [.agg (ah.c p), .agg (ah.c q), ag 0]) kRf (Sn.tup (Sp (Sp (Sp SnL.nil))))
 replace hr := ch a hr
 refine .r0 G (.mu 2 (.p0 (v := aB false) (eB a) (.mu 7 (.done (.nh [2, 3, 4, 5, 8, 9, 10, 37] [.own (ah.c b), .own (ah.c y), .own [aB false, nS], .own [aB false, nS]] (.cF kRf (.skip (.seq ?_))))))))
 obtain ⟨s, j, t, k, hr⟩ := bd2 hr
 refine .tn G (ca1 (ok0 (bU n (b.Negative != y.Negative) u.1 s j)) (ca3 (ok0 (bU n y.Negative z t k)))) (.mu 6 (.ca cf0 (.mu 3 (.ca (cfA (fun h => by rw [sv k j (mh n h)]) cf0) (.mu 3 ?_)))))
 refine .done (kRa ?_)
 refine .nh [4, 5, 6] [.own (ah.c b), .own (ah.c y), .own (ah.c s), .own (ah.c t)] (.ret ?_)
 obtain rfl := oi hr
 exact aK.ret (vs := [.agg (ah.c s), .agg (ah.c t), ag 0]) kRf (Sn.tup (Sp (Sp (Sp SnL.nil))))

theorem gY (n : Nat) (num : ah) (den : ah) (r : ak) (hr : ee n num den = some r) : aO Tryz.prog 122 [.agg (ah.c num), .agg (ah.c den)] (.agg (ak.c r)) := by
 unfold ee at hr
 refine aO.bd G Tryz.func122 [.cell 4 42] ?_
 unfold Tryz.f122
 simp only [gS]
 refine .seq (.r2 G 33 [(2, .hp 0 0), (3, .hp 1 0), (4, .hp 2 0)] [.own (ah.c num), .own (ah.c den), .own zN2] (.seq (.seq ?_)))
 obtain ⟨v, t, hr⟩ := bd hr
 refine .g1 G (ok0 (fA n den v t)) (.mu 1 (.ca cf0 (.mu 1 (.done (.nh [2, 3, 4, 8] [.own (ah.c num), .own (ah.c den), .own zN2] ?_)))))
 refine .cd hr ?_ ?_ <;> intro w hr
 ·obtain ⟨j, k, i, l, hr⟩ := bd2 hr
  refine .tn G (ca1 (ok0 (gj n num j k)) (ca3 (ok0 (gj n den i l)))) (.mu 1 (.ca cf0 (.mu 1 (.ca (cfA (fun h => by rw [sv l k (fY n h)]) cf0) (.mu 2 ?_)))))
  refine .done (kRa ?_)
  refine .nh [2, 3, 4] [.own (ah.c j), .own (ah.c i), .own zN2] (.seq ?_)
  obtain ⟨g, u, hr⟩ := bd hr
  refine .g1 G (ok0 (nq n j i g u)) (.mu 2 (.ca cf0 (.mu 2 (.done (.nh [2, 3, 4, 5] [.own (ah.c j), .own (ah.c i), .own zN2, .own (ah.c g)] (.seq ?_))))))
  obtain ⟨a, m, hr⟩ := bd hr
  refine .g1 G (ok0 (jh n j g a m)) (.mu 2 (.ca cf0 (.mu 5 (.done (.nh [2, 3, 4, 5] [.own (ah.c a.1), .own (ah.c i), .own zN2, .own (ah.c g)] (.seq ?_))))))
  obtain ⟨d, o, hr⟩ := bd hr
  refine .g1 G (ok0 (jh n i g d o)) (.mu 2 (.ca cf0 (.mu 5 (.done (.nh [2, 3, 4] [.own (ah.c a.1), .own (ah.c d.1), .own zN2, .own (ah.c g)] (.seq (.r5 G [4] [] [.own (ah.c a.1), .own (ah.c d.1), .own [aB a.1.Negative, az a.1.Groups, aB d.1.Negative, az d.1.Groups], .own (ah.c g)] (.ret ?_))))))))
  obtain rfl := oi hr
  exact aK.r1 [.agg [aB a.1.Negative, az a.1.Groups, aB d.1.Negative, az d.1.Groups]]
 refine .skip (.seq ?_)
 obtain ⟨e, p, hr⟩ := bd hr
 refine .g1 G (ok0 (nq n num den e p)) (.mu 2 (.ca cf0 (.mu 2 (.done (.nh [2, 3, 4, 5] [.own (ah.c num), .own (ah.c den), .own zN2, .own (ah.c e)] (.seq ?_))))))
 obtain ⟨b, q, hr⟩ := bd hr
 refine .g1 G (ok0 (jh n num e b q)) (.mu 2 (.ca cf0 (.mu 5 (.done (.nh [2, 3, 4, 5] [.own (ah.c b.1), .own (ah.c den), .own zN2, .own (ah.c e)] (.seq ?_))))))
 obtain ⟨f, s, hr⟩ := bd hr
 refine .g1 G (ok0 (jh n den e f s)) (.mu 2 (.ca cf0 (.mu 5 (.done (.nh [2, 3, 4] [.own (ah.c b.1), .own (ah.c f.1), .own zN2, .own (ah.c e)] (.seq (.r5 G [4] [] [.own (ah.c b.1), .own (ah.c f.1), .own [aB b.1.Negative, az b.1.Groups, aB f.1.Negative, az f.1.Groups], .own (ah.c e)] (.ret ?_))))))))
 obtain rfl := oi hr
 exact aK.r1 [.agg [aB b.1.Negative, az b.1.Groups, aB f.1.Negative, az f.1.Groups]]

theorem uE (n : Nat) (num : ah) (den : ah) (r : ak × Int) (hr : kR n num den = some r) : aO Tryz.prog 157 [.agg (ah.c num), .agg (ah.c den)] (.tup [.agg (ak.c r.1), ag r.2]) := by
 unfold kR at hr
 refine aO.bd G Tryz.func157 [.cell 4 42, .tmp 5] ?_
 unfold Tryz.f157
 simp only [gS]
 refine .seq (.r2 G 17 [(2, .hp 0 0), (3, .hp 1 0), (4, .hp 2 0)] [.own (ah.c num), .own (ah.c den), .own zN2] (.seq ?_))
 obtain ⟨b, d, a, e, hr⟩ := bd2 hr
 refine .tn G (ca1 (ok0 (mC n num b d)) (ca3 (ok0 (mC n den a e)))) (.mu 1 (.ca cf0 (.mu 1 (.ca (cfA (fun h => by rw [sv e d (rk n h)]) cf0) (.mu 2 ?_)))))
 refine .done (kRa ?_)
 refine .nh [2, 3, 4] [.own (ah.c b), .own (ah.c a), .own zN2] (.seq (.seq ?_))
 obtain ⟨j, f, hr⟩ := bd hr
 refine .g1 G (ok0 (fA n a j f)) (.mu 1 (.ca cf0 (.mu 1 (.done (.nh [2, 3, 4, 12] [.own (ah.c b), .own (ah.c a), .own zN2] ?_)))))
 refine .cd hr ?_ ?_ <;> intro k hr
 ·refine .seq (.r4 G [4] [(5, ag 14)] (.ret ?_))
  obtain rfl := oi hr
  exact aK.ret (vs := [.agg zN2, ag 14]) kRf (Sn.tup (SnL.cons (Sn.agg (Sp (SnL.cons Sn.gh (Sp (SnL.cons Sn.gh SnL.nil))))) (Sp SnL.nil)))
 refine .skip (.seq ?_)
 obtain ⟨g, i, hr⟩ := bd hr
 refine .g1 G (ok0 (gY n b a g i)) (.mu 2 (.ca cf0 (.mu 2 (.done (.nh [4, 5] [.own (ah.c b), .own (ah.c a), .own (ak.c g)] (.ret ?_))))))
 obtain rfl := oi hr
 exact aK.ret (vs := [.agg (ak.c g), ag 0]) kRf (Sn.tup (Sp (Sp SnL.nil)))

theorem jE (n : Nat) (f : Int) (d : Int) (r : ak × Int) (hr : gN n f d = some r) : aO Tryz.prog 118 [ag f, ag d] (.tup [.agg (ak.c r.1), ag r.2]) := by
 unfold gN at hr
 refine aO.bd G Tryz.func118 [.cell 4 42, .tmp 5] ?_
 unfold Tryz.f118
 simp only [gS]
 refine .seq (.r5 G [0, 1] [(4, .hp 0 0)] [.own zN2] (.seq ?_))
 obtain ⟨i, a, j, b, e, g, hr⟩ := bd3 hr
 refine .gn G (ca1 (ok0 (iZ n f i a)) (ca1 (ok0 (iZ n d j b)) (ca3 (ok0 (uE n i j e g))))) (.mu 1 (.ca cf0 (.mu 1 (.ca (cfA (fun h => by rw [sv b a (rB n h)]) cf0) (.ca (cfF (cfF cf0)) (.mu 4 (.done (.nh [4, 5] [.own (ak.c e.1)] (.ret ?_)))))))))
 obtain rfl := oi hr
 exact aK.ret (vs := [.agg (ak.c e.1), ag e.2]) kRf (Sn.tup (Sp (Sp SnL.nil)))

theorem ri (n : Nat) (g : al) (level : Int) (e : A2 Int) (r : ai) (hr : cC n g level e = some r) : aO Tryz.prog 94 [.agg (al.c g), ag level, .agg (aj.c e)] (.agg (ai.c r)) := by
 unfold cC at hr
 refine aO.bd G Tryz.func94 [.cell 6 44] ?_
 unfold Tryz.f94
 simp only [gS]
 refine .seq (.r5 G [1] [(3, .hp 0 0), (5, .hp 1 0), (6, .hp 2 0)] [.own (al.c g), .own (aj.c e), .own [ag 0, ag 0, aB false, nS, aB false, nS]] (.seq ?_))
 obtain ⟨b, d, hr⟩ := gd2 hr
 refine .dS G bF (.mu 4 (.pk (v := .pp (g.Z.flatMap (iC .i64)) (e.e0.toNat * 1)) (tr (au b)) (.pk (v := ag (gt g.Z e.e0)) (tr (aE (aF (aG .i64) (aC b) z1 (by omega : e.e0.toNat * 1 = e.e0.toNat * 1 + 0) kRf))) (.mu 4 (.pk (v := .pp (g.Z.flatMap (iC .i64)) (e.e1.toNat * 1)) (tr (au d)) (.pk (v := ag (gt g.Z e.e1)) (tr (aE (aF (aG .i64) (aC d) z1 (by omega : e.e1.toNat * 1 = e.e1.toNat * 1 + 0) kRf))) (.mu 2 ?_)))))))
 refine .done (kRa ?_)
 refine .nh [1, 5, 6, 7, 8] [.own (al.c g), .own (aj.c e), .own [ag 0, ag 0, aB false, nS, aB false, nS]] (.seq ?_)
 obtain ⟨a, f, hr⟩ := bd hr
 refine .g1 G (ok0 (jE n (FK (level - (FK (2 * (gt g.Z e.e0))))) (FK (2 * (FK ((gt g.Z e.e1) - (gt g.Z e.e0))))) a f)) (.mu 8 (.ca cf0 (.mu 6 (.done (.nh [5, 6, 9] [.own (al.c g), .own (aj.c e), .own [ag 0, ag 0, aB false, nS, aB false, nS], .own (ak.c a.1)] (.seq (.r5 G [6] [] [.own (al.c g), .own (aj.c e), .own [ag e.e0, ag e.e1, aB a.1.Num.Negative, az a.1.Num.Groups, aB a.1.Den.Negative, az a.1.Den.Groups], .own (ak.c a.1)] (.ret ?_))))))))
 obtain rfl := oi hr
 exact aK.r1 [.agg [ag e.e0, ag e.e1, aB a.1.Num.Negative, az a.1.Num.Groups, aB a.1.Den.Negative, az a.1.Den.Groups]]
end Go.L
