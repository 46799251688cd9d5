
import Derived.Test.YtecdcgfclgmbpaaGreatApaLD
import Derived.Test.YtecdcgfclgmbpaaGreatL0Apas
import Derived.Test.YtecdcgfclgmbpaaGreatScEApas
import Derived.Test.YtecdcgfclgmbpaaGreatApaL51p
import Derived.Test.YtecdcgfclgmbpaaGreatSortCApas
import Derived.Test.YtecdcgfclgmbpaaGreatSortKApas
import Derived.Test.YtecdcgfclgmbpaaGreatChecked
import Derived.KernelRfl
set_option linter.all false
set_option maxRecDepth 100000
set_option maxHeartbeats 4000000
namespace Go.L
open Go Go.Eng Go.Proofs
theorem rk {k : Int} {p : Int} {n : Int} {l : Int} {i : Int} {f : Int} {d : List Int} {b : Int} {o : Int} {q : Int} {m : Int} {j : Int} {g : Int} {e : Int} {c : List Int} {a : Int} (h : ([.at (.int .i64 k), .pp [.at (.int .i64 p), .at (.int .i64 n), .at (.int .i64 l), .at (.int .i64 i), .at (.int .i64 f), slT (iC .i64) d] 0, .pp [.at (.int .i64 b)] 0] : List AV) = [.at (.int .i64 o), .pp [.at (.int .i64 q), .at (.int .i64 m), .at (.int .i64 j), .at (.int .i64 g), .at (.int .i64 e), slT (iC .i64) c] 0, .pp [.at (.int .i64 a)] 0]) : k = o /\ p = q /\ n = m /\ l = j /\ i = g /\ f = e /\ d = c /\ b = a := by
 simp only [List.cons.injEq, AV.agg.injEq, AV.at.injEq, Value.int.injEq, Value.bool.injEq, AV.fn.injEq, AV.pp.injEq, true_and, and_true, dR] at h
 simp_all
theorem mS (n : Nat) {k : Int} {p : Int} {o : Int} {l : Int} {i : Int} {f : Int} {d : List Int} {b : Int} {q : Int} {r : Int} {m : Int} {j : Int} {g : Int} {e : Int} {c : List Int} {a : Int} (h : ([.at (.int .i64 k), .pp [.at (.int .i64 p), .at (.int .i64 o), .at (.int .i64 l), .at (.int .i64 i), .at (.int .i64 f), slT (iC .i64) d] 0, .pp [.at (.int .i64 b)] 0] : List AV) = [.at (.int .i64 q), .pp [.at (.int .i64 r), .at (.int .i64 m), .at (.int .i64 j), .at (.int .i64 g), .at (.int .i64 e), slT (iC .i64) c] 0, .pp [.at (.int .i64 a)] 0]) : dq n k p o l i f d b = dq n q r m j g e c a := by
 obtain ⟨rfl, rfl, rfl, rfl, rfl, rfl, rfl, rfl⟩ := rk h
 rfl
theorem eI (n : Nat) (k : Int) (p : Int) (g : Int) (e : Int) (d : Int) (c : Int) (a : List Int) (b : Int) (r : Bool) (hr : dq n k p g e d c a b = some r) : aN Tryz.prog 88 [aj k, .pp [aj p, aj g, aj e, aj d, aj c, eC a] 0, .pp [aj b] 0] (aB r) := by
 unfold dq at hr
 refine aN.bd G Tryz.func88 [.tmp 4] ?_
 unfold Tryz.f88
 simp only [gS]
 refine .seq (.r4 G [0, 1, 2] [] (.seq ?_))
 obtain ⟨f, hr⟩ := gd hr
 refine .dM G bz (.mu 3 (.pk (v := .pp (a.flatMap (iC .i64)) (k.toNat * 1)) (tr (aw f)) (.pk (v := aj (gt a k)) (tr (aR (aS (aK .i64) (aI f) z1 (by omega : k.toNat * 1 = k.toNat * 1 + 0) kRf))) (.mu 4 ?_))))
 refine .done (kRa ?_)
 refine .ret ?_
 obtain rfl := oi hr
 exact aL.r1 [aB (decide ((IE (2 * (gt a k))) > b))]

theorem nw (n : Nat) (a : Int) (b : Int) (r : A2 Int) (hr : kq n a b = some r) : aN Tryz.prog 91 [aj a, aj b] (.agg (ag.c r)) := by
 unfold kq at hr
 refine aN.bd G Tryz.func91 [.cell 4 101] ?_
 unfold Tryz.f91
 simp only [gS]
 refine .seq (.r5 G [0, 1] [(4, .hp 0 0)] [.own [aj 0, aj 0]] (.seq (.r5 G [4] [] [.own [aj (mn a b), aj (mx a b)]] (.ret ?_))))
 obtain rfl := oi hr
 exact aL.r1 [.agg [aj (mn a b), aj (mx a b)]]

theorem qu (n : Nat) (t : A3 Int) (c : Int) (F : Int) (q : Int) (i : Int) (d : Int) (b : List Int) (a : Int) (p : List (A2 Int × A2 Int)) (E : List (A2 Int × Bool)) (r : List (A2 Int × A2 Int) × List (A2 Int × Bool)) (hr : eY n t c F q i d b a p E = some r) : fT 5 Tryz.prog 90 [.agg (aD.c t), .hp 0 0, .hp 3 0, .hp 4 0] [.own [.fn 88 [] [.hp 1 0, .hp 2 0]], .own [aj c, aj F, aj q, aj i, aj d, eC b], .own [aj a], .own [.mp 5], .own [.mp 6], .map (p.map (mpK au.K (gA ag.c))), .map (E.map (mpK au.K bA))] (.tup []) [.own [.fn 88 [] [.hp 1 0, .hp 2 0]], .own [aj c, aj F, aj q, aj i, aj d, eC b], .own [aj a], .own [.mp 5], .own [.mp 6], .map (r.1.map (mpK au.K (gA ag.c))), .map (r.2.map (mpK au.K bA))] := by
 unfold eY at hr
 refine fT.yX G Tryz.func90 (c := (Tryz.f90.body).getD .skip) rfl (us := []) (s := mkS 55 0 [(0, .agg (aD.c t)), (1, .hp 0 0), (2, .hp 3 0), (3, .hp 4 0)]) kRf (rs := []) rfl ?_
 unfold Tryz.f90
 simp only [gS]
 refine .seq (.r5 G [1, 2, 3] [(4, .hp 7 0)] [.own [.fn 88 [] [.hp 1 0, .hp 2 0]], .own [aj c, aj F, aj q, aj i, aj d, eC b], .own [aj a], .own [.mp 5], .own [.mp 6], .map (p.map (mpK au.K (gA ag.c))), .map (E.map (mpK au.K bA)), .own (aD.c t)] (.seq (.r5 G [1, 2, 3, 4] [(5, .hp 8 0), (6, .hp 9 0)] [.own [.fn 88 [] [.hp 1 0, .hp 2 0]], .own [aj c, aj F, aj q, aj i, aj d, eC b], .own [aj a], .own [.mp 5], .own [.mp 6], .map (p.map (mpK au.K (gA ag.c))), .map (E.map (mpK au.K bA)), .own (aD.c t), .own [aj 0, aj 0], .own [aj 0, aj 0]] (.seq (.r4 G [1, 2, 3, 4, 5, 6] [(7, aB false)] (.seq (.seq (.r4 G [1, 2, 3, 4, 5, 6, 7] [(11, aj 0)] (.block ?_)))))))))
 replace hr := bd hr; obtain ⟨kV, T, hr⟩ := hr
 refine .aP (σ := fun z0 => match z0 with | (z, A, B, C, H, g) => ⟨mkS 55 0 [(1, .hp 0 0), (2, .hp 3 0), (3, .hp 4 0), (4, .hp 7 0), (5, .hp 8 0), (6, .hp 9 0), (7, aB H), (11, aj g)], [.own [.fn 88 [] [.hp 1 0, .hp 2 0]], .own [aj c, aj F, aj q, aj i, aj d, eC b], .own [aj a], .own [.mp 5], .own [.mp 6], .map (p.map (mpK au.K (gA ag.c))), .map (E.map (mpK au.K bA)), .own (aD.c t), .own [aj z, aj A], .own [aj B, aj C]]⟩) (Q := fun x st' => match (generalizing := false) kV with | (u, w, j, o, J) => x = .exit 0 /\ Wk 5 st' ⟨mkS 55 0 [(2, .hp 3 0), (3, .hp 4 0), (5, .hp 7 0), (6, .hp 8 0), (7, aB J)], [.own [.fn 88 [] [.hp 1 0, .hp 2 0]], .own [aj c, aj F, aj q, aj i, aj d, eC b], .own [aj a], .own [.mp 5], .own [.mp 6], .map (p.map (mpK au.K (gA ag.c))), .map (E.map (mpK au.K bA)), .own [aj u, aj w], .own [aj j, aj o]]⟩) T ((Wk.gc [1, 2, 3, 4, 5, 6, 7, 11] [(0, true), (1, true), (2, true), (3, true), (4, true), (5, false), (6, false), (7, true), (8, true), (9, true)] rfl (pKt (pKt (pKt (pKt (pKt (pKM au.K (gA ag.c) (fun _ => rfl) p (pKM au.K bA (fun _ => rfl) E trivial)))))))).to) ?_ ?_
 ·clear hr
  rintro m ⟨z, A, B, C, H, g⟩ hr
  refine CQ.sh ?_
  refine .seq (.r4 G [1, 2, 3, 4, 5, 6, 7, 11] [(12, aB (decide (g < 3)))] (.seq ?_))
  refine .cd hr ?_ ?_ <;> intro tV hr
  ·refine .skip (.seq (.block (.seq (.r4 G [1, 2, 3, 4, 5, 6, 7, 11] [(8, aj g)] (.seq ?_)))))
   obtain ⟨U, V, hr⟩ := gd2 hr
   refine .dM G bz (.mu 1 (.pk (v := .hp 7 (0 + g.toNat * 1)) (tr (aw U)) (.pk (v := aj (A3.get t g)) (tr (y := bs.ofP ((aD.c t)[0 + g.toNat * 1]?)) (aR (s8 (k := .i64) (kk := 0) (xs := [t.e0, t.e1, t.e2]) U rfl kRf))) (.mu 3 (.pk (v := .hp 7 (0 + ((IE (g + 1)).tmod 3).toNat * 1)) (tr (aw V)) (.pk (v := aj (A3.get t ((IE (g + 1)).tmod 3))) (tr (y := bs.ofP ((aD.c t)[0 + ((IE (g + 1)).tmod 3).toNat * 1]?)) (aR (s8 (k := .i64) (kk := 0) (xs := [t.e0, t.e1, t.e2]) V rfl kRf))) (.mu 2 ?_)))))))
   refine .done (kRa ?_)
   refine .nh [1, 2, 3, 4, 5, 6, 7, 9, 10, 11] [.own [.fn 88 [] [.hp 1 0, .hp 2 0]], .own [aj c, aj F, aj q, aj i, aj d, eC b], .own [aj a], .own [.mp 5], .own [.mp 6], .map (p.map (mpK au.K (gA ag.c))), .map (E.map (mpK au.K bA)), .own (aD.c t), .own [aj z, aj A], .own [aj B, aj C]] ?_
   obtain ⟨D, mA, hr⟩ := bd hr
   refine .wk ((Wk.refl _).to (c := ⟨mkS 55 0 [(1, .hp 0 0), (2, .hp 3 0), (3, .hp 4 0), (4, .hp 7 0), (5, .hp 8 0), (6, .hp 9 0), (7, aB H), (9, aj (A3.get t g)), (10, aj D), (11, aj g)], [.own [.fn 88 [] [.hp 1 0, .hp 2 0]], .own [aj c, aj F, aj q, aj i, aj d, eC b], .own [aj a], .own [.mp 5], .own [.mp 6], .map (p.map (mpK au.K (gA ag.c))), .map (E.map (mpK au.K bA)), .own (aD.c t), .own [aj z, aj A], .own [aj B, aj C]]⟩) (by rw [oi mA]; first | done | kernel_rfl)) <| .block <| .seq ?_
   replace hr := bd hr; obtain ⟨nI, L, hr⟩ := hr
   refine .HE (Q := fun x st' => x = .normal /\ Wk 5 st' ⟨mkS 55 0 [(1, .hp 0 0), (2, .hp 3 0), (3, .hp 4 0), (4, .hp 7 0), (5, .hp 8 0), (6, .hp 9 0), (7, aB H), (9, aj (A3.get t g)), (10, aj D), (11, aj g), (22, aB nI)], [.own [.fn 88 [] [.hp 1 0, .hp 2 0]], .own [aj c, aj F, aj q, aj i, aj d, eC b], .own [aj a], .own [.mp 5], .own [.mp 6], .map (p.map (mpK au.K (gA ag.c))), .map (E.map (mpK au.K bA)), .own (aD.c t), .own [aj z, aj A], .own [aj B, aj C]]⟩) ?_ ?_
   ·clear hr
    have hr := L
    clear L
    obtain ⟨p7, M, hr⟩ := bd hr
    rcases bT p7 with N | N
    ·subst N
     replace hr := cI rfl hr
     obtain ⟨sa, W, hr⟩ := bd hr
     refine .gn G (ca1 (jI (args := [aj (A3.get t g), .hp 1 0, .hp 2 0]) (l := [1, 2]) rfl (Sp (SnL.cons (Sn.hp rfl (.inl rfl) (SnC.cons (Sn.pure rfl) (SnC.cons (Sn.pure rfl) (SnC.cons (Sn.pure rfl) (SnC.cons (Sn.pure rfl) (SnC.cons (Sn.pure rfl) (SnC.cons (Sn.pure rfl) SnC.nil))))))) (SnL.cons (Sn.hp rfl (.inl rfl) (SnC.cons (Sn.pure rfl) SnC.nil)) SnL.nil))) (eI n (A3.get t g) c F q i d b a true M)) (ca3 (jI (args := [aj D, .hp 1 0, .hp 2 0]) (l := [1, 2]) rfl (Sp (SnL.cons (Sn.hp rfl (.inl rfl) (SnC.cons (Sn.pure rfl) (SnC.cons (Sn.pure rfl) (SnC.cons (Sn.pure rfl) (SnC.cons (Sn.pure rfl) (SnC.cons (Sn.pure rfl) (SnC.cons (Sn.pure rfl) SnC.nil))))))) (SnL.cons (Sn.hp rfl (.inl rfl) (SnC.cons (Sn.pure rfl) SnC.nil)) SnL.nil))) (eI n D c F q i d b a sa W)))) (.mu 2 (.ca cf0 (.mu 3 (.ca (cfA (fun h => by rw [sv W M (mS n (show ([aj D, .pp [aj c, aj F, aj q, aj i, aj d, eC b] 0, .pp [aj a] 0] : List AV) = [aj (A3.get t g), .pp [aj c, aj F, aj q, aj i, aj d, eC b] 0, .pp [aj a] 0] from (congr (congrArg List.cons (List.cons.inj h).1) (congr (congrArg List.cons rfl) (congr (congrArg List.cons rfl) rfl)))))]) cf0) (.mu 3 (.done ?_))))))
     obtain rfl := oi hr
     exact ⟨rfl, ((Wk.gc [1, 2, 3, 4, 5, 6, 7, 9, 10, 11, 22] [(0, true), (1, true), (2, true), (3, true), (4, true), (5, false), (6, false), (7, true), (8, true), (9, true)] rfl (pKt (pKt (pKt (pKt (pKt (pKM au.K (gA ag.c) (fun _ => rfl) p (pKM au.K bA (fun _ => rfl) E trivial)))))))).to)⟩
    subst N
    replace hr := cJ rfl hr
    refine .g1 G (jI (args := [aj (A3.get t g), .hp 1 0, .hp 2 0]) (l := [1, 2]) rfl (Sp (SnL.cons (Sn.hp rfl (.inl rfl) (SnC.cons (Sn.pure rfl) (SnC.cons (Sn.pure rfl) (SnC.cons (Sn.pure rfl) (SnC.cons (Sn.pure rfl) (SnC.cons (Sn.pure rfl) (SnC.cons (Sn.pure rfl) SnC.nil))))))) (SnL.cons (Sn.hp rfl (.inl rfl) (SnC.cons (Sn.pure rfl) SnC.nil)) SnL.nil))) (eI n (A3.get t g) c F q i d b a false M)) (.mu 2 (.ca cf0 (.mu 7 (.done ?_))))
    obtain rfl := oi hr
    exact ⟨rfl, ((Wk.gc [1, 2, 3, 4, 5, 6, 7, 9, 10, 11, 22] [(0, true), (1, true), (2, true), (3, true), (4, true), (5, false), (6, false), (7, true), (8, true), (9, true)] rfl (pKt (pKt (pKt (pKt (pKt (pKM au.K (gA ag.c) (fun _ => rfl) p (pKM au.K bA (fun _ => rfl) E trivial)))))))).to)⟩
   rintro x st' O
   clear L
   obtain ⟨rfl, O⟩ := O
   refine .wk O ?_
   refine .cd hr ?_ ?_ <;> intro ot hr
   ·obtain ⟨X, pn, hr⟩ := bd hr
    refine .g1 G (ok0 (nw n (A3.get t g) D X pn)) (.mu 2 (.ca cf0 (.mu 2 (.done (.pop (.pop (.ru G ?_)))))))
    exact aE (X.e0, X.e1, B, C, true, IE (g + 1)) hr ((Wk.gc [1, 2, 3, 4, 5, 6, 7, 11] [(0, true), (1, true), (2, true), (3, true), (4, true), (5, false), (6, false), (7, true), (8, true), (9, true)] rfl (pKt (pKt (pKt (pKt (pKt (pKM au.K (gA ag.c) (fun _ => rfl) p (pKM au.K bA (fun _ => rfl) E trivial)))))))).to)
   refine .seq ?_
   obtain ⟨Y, R, hr⟩ := bd hr
   rcases bT (!Y) with I | I
   ·replace hr := cI I hr
    obtain ⟨rf, Z, hr⟩ := bd hr
    refine .gn G (ca1 (jI (args := [aj (A3.get t g), .hp 1 0, .hp 2 0]) (l := [1, 2]) rfl (Sp (SnL.cons (Sn.hp rfl (.inl rfl) (SnC.cons (Sn.pure rfl) (SnC.cons (Sn.pure rfl) (SnC.cons (Sn.pure rfl) (SnC.cons (Sn.pure rfl) (SnC.cons (Sn.pure rfl) (SnC.cons (Sn.pure rfl) SnC.nil))))))) (SnL.cons (Sn.hp rfl (.inl rfl) (SnC.cons (Sn.pure rfl) SnC.nil)) SnL.nil))) (eI n (A3.get t g) c F q i d b a Y R)) (ca3 (jI (args := [aj D, .hp 1 0, .hp 2 0]) (l := [1, 2]) rfl (Sp (SnL.cons (Sn.hp rfl (.inl rfl) (SnC.cons (Sn.pure rfl) (SnC.cons (Sn.pure rfl) (SnC.cons (Sn.pure rfl) (SnC.cons (Sn.pure rfl) (SnC.cons (Sn.pure rfl) (SnC.cons (Sn.pure rfl) SnC.nil))))))) (SnL.cons (Sn.hp rfl (.inl rfl) (SnC.cons (Sn.pure rfl) SnC.nil)) SnL.nil))) (eI n D c F q i d b a rf Z)))) (.mu 2 (.ca cf0 (.p0 (v := aB true) (eB I) (.mu 3 (.ca (cfA (fun h => by rw [sv Z R (mS n (show ([aj D, .pp [aj c, aj F, aj q, aj i, aj d, eC b] 0, .pp [aj a] 0] : List AV) = [aj (A3.get t g), .pp [aj c, aj F, aj q, aj i, aj d, eC b] 0, .pp [aj a] 0] from (congr (congrArg List.cons (List.cons.inj h).1) (congr (congrArg List.cons rfl) (congr (congrArg List.cons rfl) rfl)))))]) cf0) (.mu 2 (.done (.nh [1, 2, 3, 4, 5, 6, 7, 9, 10, 11, 35] [.own [.fn 88 [] [.hp 1 0, .hp 2 0]], .own [aj c, aj F, aj q, aj i, aj d, eC b], .own [aj a], .own [.mp 5], .own [.mp 6], .map (p.map (mpK au.K (gA ag.c))), .map (E.map (mpK au.K bA)), .own (aD.c t), .own [aj z, aj A], .own [aj B, aj C]] ?_))))))))
    refine .cd hr ?_ ?_ <;> intro pQ hr
    ·obtain ⟨lY, qz, hr⟩ := bd hr
     refine .g1 G (ok0 (nw n (A3.get t g) D lY qz)) (.mu 2 (.ca cf0 (.mu 1 (.done (.pop (.pop (.ru G ?_)))))))
     exact aE (z, A, lY.e0, lY.e1, H, IE (g + 1)) hr ((Wk.gc [1, 2, 3, 4, 5, 6, 7, 11] [(0, true), (1, true), (2, true), (3, true), (4, true), (5, false), (6, false), (7, true), (8, true), (9, true)] rfl (pKt (pKt (pKt (pKt (pKt (pKM au.K (gA ag.c) (fun _ => rfl) p (pKM au.K bA (fun _ => rfl) E trivial)))))))).to)
    refine .skip (.pop (.pop (.ru G ?_)))
    exact aE (z, A, B, C, H, IE (g + 1)) hr ((Wk.gc [1, 2, 3, 4, 5, 6, 7, 11] [(0, true), (1, true), (2, true), (3, true), (4, true), (5, false), (6, false), (7, true), (8, true), (9, true)] rfl (pKt (pKt (pKt (pKt (pKt (pKM au.K (gA ag.c) (fun _ => rfl) p (pKM au.K bA (fun _ => rfl) E trivial)))))))).to)
   replace hr := cJ I hr
   refine .g1 G (jI (args := [aj (A3.get t g), .hp 1 0, .hp 2 0]) (l := [1, 2]) rfl (Sp (SnL.cons (Sn.hp rfl (.inl rfl) (SnC.cons (Sn.pure rfl) (SnC.cons (Sn.pure rfl) (SnC.cons (Sn.pure rfl) (SnC.cons (Sn.pure rfl) (SnC.cons (Sn.pure rfl) (SnC.cons (Sn.pure rfl) SnC.nil))))))) (SnL.cons (Sn.hp rfl (.inl rfl) (SnC.cons (Sn.pure rfl) SnC.nil)) SnL.nil))) (eI n (A3.get t g) c F q i d b a Y R)) (.mu 2 (.ca cf0 (.p0 (v := aB false) (eB I) (.mu 6 (.done (.nh [1, 2, 3, 4, 5, 6, 7, 9, 10, 11, 35] [.own [.fn 88 [] [.hp 1 0, .hp 2 0]], .own [aj c, aj F, aj q, aj i, aj d, eC b], .own [aj a], .own [.mp 5], .own [.mp 6], .map (p.map (mpK au.K (gA ag.c))), .map (E.map (mpK au.K bA)), .own (aD.c t), .own [aj z, aj A], .own [aj B, aj C]] (.cF kRf (.skip (.pop (.pop (.ru G ?_)))))))))))
   exact aE (z, A, B, C, H, IE (g + 1)) hr ((Wk.gc [1, 2, 3, 4, 5, 6, 7, 11] [(0, true), (1, true), (2, true), (3, true), (4, true), (5, false), (6, false), (7, true), (8, true), (9, true)] rfl (pKt (pKt (pKt (pKt (pKt (pKM au.K (gA ag.c) (fun _ => rfl) p (pKM au.K bA (fun _ => rfl) E trivial)))))))).to)
  refine .leave rfl ?_
  obtain rfl := oi hr
  exact ⟨rfl, ((Wk.gc [2, 3, 5, 6, 7] [(0, true), (1, true), (2, true), (3, true), (4, true), (5, false), (6, false), (8, true), (9, true)] rfl (pKt (pKt (pKt (pKt (pKt (pKM au.K (gA ag.c) (fun _ => rfl) p (pKM au.K bA (fun _ => rfl) E trivial)))))))).to)⟩
 rcases kV with ⟨u, w, j, o, J⟩
 rintro x st' S
 clear T
 obtain ⟨rfl, S⟩ := S
 refine bb _ rfl (.wk S (.seq (.r4 G [2, 3, 5, 6] [(49, aB J)] ?_)))
 refine .cd hr ?_ ?_ <;> intro pJ hr
 ·refine .seq (.r0 G (.mu 3 (.e0 (v := .unk) (ws := [(5, .map ((eJ p (A2.mk u w) (A2.mk j o)).map (mpK au.K (gA ag.c))))]) (tr (y := gO Tryz.prog [.own [.fn 88 [] [.hp 1 0, .hp 2 0]], .own [aj c, aj F, aj q, aj i, aj d, eC b], .own [aj a], .own [.mp 5], .own [.mp 6], .map (p.map (mpK au.K (gA ag.c))), .map (E.map (mpK au.K bA)), .own [aj u, aj w], .own [aj j, aj o]] 124 (.mp 5) (.agg [aj u, aj w]) (.agg [aj j, aj o])) (Dd (kt := 101) (e := 101) (l := p) (f := (gA ag.c)) (v := A2.mk j o) (K := au.K) (x := A2.mk u w) au.key kRf kRf kRf kRf)) (.done (.nh [3, 6] [.own [.fn 88 [] [.hp 1 0, .hp 2 0]], .own [aj c, aj F, aj q, aj i, aj d, eC b], .own [aj a], .own [.mp 5], .own [.mp 6], .map ((eJ p (A2.mk u w) (A2.mk j o)).map (mpK au.K (gA ag.c))), .map (E.map (mpK au.K bA)), .own [aj u, aj w], .own [aj j, aj o]] (.r0 G (.mu 2 (.e0 (v := .unk) (ws := [(6, .map ((eJ E (A2.mk j o) true).map (mpK au.K bA)))]) (tr (y := gO Tryz.prog [.own [.fn 88 [] [.hp 1 0, .hp 2 0]], .own [aj c, aj F, aj q, aj i, aj d, eC b], .own [aj a], .own [.mp 5], .own [.mp 6], .map ((eJ p (A2.mk u w) (A2.mk j o)).map (mpK au.K (gA ag.c))), .map (E.map (mpK au.K bA)), .own [aj u, aj w], .own [aj j, aj o]] 125 (.mp 6) (.agg [aj j, aj o]) (aB true)) (Dd (kt := 101) (e := 4) (l := E) (f := bA) (v := true) (K := au.K) (x := A2.mk j o) au.key kRf kRf kRf kRf)) (.done ?_)))))))))
  obtain rfl := oi hr
  exact mL.normal [] ((Wk.gc [] [(0, true), (1, true), (2, true), (3, true), (4, true), (5, false), (6, false)] rfl (pKt (pKt (pKt (pKt (pKt (pKM au.K (gA ag.c) (fun _ => rfl) (eJ p (A2.mk u w) (A2.mk j o)) (pKM au.K bA (fun _ => rfl) (eJ E (A2.mk j o) true) trivial)))))))).to)
 refine .skip ?_
 obtain rfl := oi hr
 exact mL.normal [] ((Wk.gc [] [(0, true), (1, true), (2, true), (3, true), (4, true), (5, false), (6, false)] rfl (pKt (pKt (pKt (pKt (pKt (pKM au.K (gA ag.c) (fun _ => rfl) p (pKM au.K bA (fun _ => rfl) E trivial)))))))).to)

theorem ir (n : Nat) (g : al) (c : Int) (D : Int) (o : Int) (i : Int) (f : Int) (e : List Int) (d : Int) (q : List (A2 Int × A2 Int)) (p : List (A2 Int × Bool)) (r : List (A2 Int × A2 Int) × List (A2 Int × Bool)) (hr : aW n g c D o i f e d q p = some r) : fT 5 Tryz.prog 89 [.agg (al.c g), .fn 90 [] [.hp 0 0, .hp 3 0, .hp 4 0]] [.own [.fn 88 [] [.hp 1 0, .hp 2 0]], .own [aj c, aj D, aj o, aj i, aj f, eC e], .own [aj d], .own [.mp 5], .own [.mp 6], .map (q.map (mpK au.K (gA ag.c))), .map (p.map (mpK au.K bA))] (.tup []) [.own [.fn 88 [] [.hp 1 0, .hp 2 0]], .own [aj c, aj D, aj o, aj i, aj f, eC e], .own [aj d], .own [.mp 5], .own [.mp 6], .map (r.1.map (mpK au.K (gA ag.c))), .map (r.2.map (mpK au.K bA))] := by
 unfold aW at hr
 refine fT.yX G Tryz.func89 (c := (Tryz.f89.body).getD .skip) rfl (us := []) (s := mkS 82 0 [(0, .agg (al.c g)), (1, .fn 90 [] [.hp 0 0, .hp 3 0, .hp 4 0])]) kRf (rs := []) rfl ?_
 unfold Tryz.f89
 simp only [gS]
 refine .seq (.r5 G [1] [(2, .hp 7 0)] [.own [.fn 88 [] [.hp 1 0, .hp 2 0]], .own [aj c, aj D, aj o, aj i, aj f, eC e], .own [aj d], .own [.mp 5], .own [.mp 6], .map (q.map (mpK au.K (gA ag.c))), .map (p.map (mpK au.K bA)), .own (al.c g)] (.seq (.r4 G [1, 2] [(4, aj g.Width)] (.seq (.r4 G [1, 2, 4] [(14, aj (IE (g.Height - 1))), (15, aj 0)] (.block ?_))))))
 replace hr := bd hr; obtain ⟨lY, U, hr⟩ := hr
 refine .aP (σ := fun z0 => match z0 with | (E, F, h) => ⟨mkS 82 0 [(1, .fn 90 [] [.hp 0 0, .hp 3 0, .hp 4 0]), (2, .hp 7 0), (4, aj g.Width), (14, aj (IE (g.Height - 1))), (15, aj h)], [.own [.fn 88 [] [.hp 1 0, .hp 2 0]], .own [aj c, aj D, aj o, aj i, aj f, eC e], .own [aj d], .own [.mp 5], .own [.mp 6], .map (E.map (mpK au.K (gA ag.c))), .map (F.map (mpK au.K bA)), .own (al.c g)]⟩) (Q := fun x st' => match (generalizing := false) lY with | (N, O) => x = .exit 0 /\ Wk 5 st' ⟨mkS 82 0 [], [.own [.fn 88 [] [.hp 1 0, .hp 2 0]], .own [aj c, aj D, aj o, aj i, aj f, eC e], .own [aj d], .own [.mp 5], .own [.mp 6], .map (N.map (mpK au.K (gA ag.c))), .map (O.map (mpK au.K bA))]⟩) U ((Wk.gc [1, 2, 4, 14, 15] [(0, true), (1, true), (2, true), (3, true), (4, true), (5, false), (6, false), (7, true)] rfl (pKt (pKt (pKt (pKt (pKt (pKM au.K (gA ag.c) (fun _ => rfl) q (pKM au.K bA (fun _ => rfl) p trivial)))))))).to) ?_ ?_
 ·clear hr
  rintro m ⟨E, F, h⟩ hr
  refine CQ.sh ?_
  refine .seq (.r4 G [1, 2, 4, 14, 15] [(16, aB (decide (h < (IE (g.Height - 1)))))] (.seq ?_))
  refine .cd hr ?_ ?_ <;> intro p7 hr
  ·refine .skip (.seq (.block (.seq (.r4 G [1, 2, 4, 14, 15] [(5, aj h)] (.seq (.r4 G [1, 2, 4, 5, 14, 15] [(19, aj (IE (g.Width - 1))), (20, aj 0)] (.block ?_)))))))
   replace hr := bd hr; obtain ⟨kV, V, hr⟩ := hr
   refine .aP (σ := fun z0 => match z0 with | (t, u, l) => ⟨mkS 82 0 [(1, .fn 90 [] [.hp 0 0, .hp 3 0, .hp 4 0]), (2, .hp 7 0), (4, aj g.Width), (5, aj h), (14, aj (IE (g.Height - 1))), (15, aj h), (19, aj (IE (g.Width - 1))), (20, aj l)], [.own [.fn 88 [] [.hp 1 0, .hp 2 0]], .own [aj c, aj D, aj o, aj i, aj f, eC e], .own [aj d], .own [.mp 5], .own [.mp 6], .map (t.map (mpK au.K (gA ag.c))), .map (u.map (mpK au.K bA)), .own (al.c g)]⟩) (Q := fun x st' => match (generalizing := false) kV with | (H, I) => x = .exit 2 /\ Wk 5 st' ⟨mkS 82 0 [(1, .fn 90 [] [.hp 0 0, .hp 3 0, .hp 4 0]), (2, .hp 7 0), (4, aj g.Width), (14, aj (IE (g.Height - 1))), (15, aj h)], [.own [.fn 88 [] [.hp 1 0, .hp 2 0]], .own [aj c, aj D, aj o, aj i, aj f, eC e], .own [aj d], .own [.mp 5], .own [.mp 6], .map (H.map (mpK au.K (gA ag.c))), .map (I.map (mpK au.K bA)), .own (al.c g)]⟩) V ((Wk.gc [1, 2, 4, 5, 14, 15, 19, 20] [(0, true), (1, true), (2, true), (3, true), (4, true), (5, false), (6, false), (7, true)] rfl (pKt (pKt (pKt (pKt (pKt (pKM au.K (gA ag.c) (fun _ => rfl) E (pKM au.K bA (fun _ => rfl) F trivial)))))))).to) ?_ ?_
   ·clear hr
    rintro m ⟨t, u, l⟩ hr
    refine CQ.sh ?_
    refine .seq (.r4 G [1, 2, 4, 5, 14, 15, 19, 20] [(21, aB (decide (l < (IE (g.Width - 1)))))] (.seq ?_))
    refine .cd hr ?_ ?_ <;> intro sa hr
    ·refine .skip (.seq (.block (.seq (.r4 G [1, 2, 4, 5, 14, 15, 19, 20] [(6, aj l)] (.seq (.r4 G [1, 2, 4, 5, 14, 15, 19, 20] [(7, aj (IE ((IE (h * g.Width)) + l)))] ?_))))))
     obtain ⟨A, nI, hr⟩ := bd hr
     refine .wk ((Wk.refl _).to (c := ⟨mkS 82 0 [(1, .fn 90 [] [.hp 0 0, .hp 3 0, .hp 4 0]), (2, .hp 7 0), (4, aj g.Width), (5, aj h), (7, aj A), (14, aj (IE (g.Height - 1))), (15, aj h), (19, aj (IE (g.Width - 1))), (20, aj l)], [.own [.fn 88 [] [.hp 1 0, .hp 2 0]], .own [aj c, aj D, aj o, aj i, aj f, eC e], .own [aj d], .own [.mp 5], .own [.mp 6], .map (t.map (mpK au.K (gA ag.c))), .map (u.map (mpK au.K bA)), .own (al.c g)]⟩) (by rw [oi nI]; first | done | kernel_rfl)) <| .seq <| .r5 G [1, 2, 4, 5, 14, 15, 19, 20] [(45, .hs 8 0 2 3), (46, aj 2), (47, aj 0)] [.own [.fn 88 [] [.hp 1 0, .hp 2 0]], .own [aj c, aj D, aj o, aj i, aj f, eC e], .own [aj d], .own [.mp 5], .own [.mp 6], .map (t.map (mpK au.K (gA ag.c))), .map (u.map (mpK au.K bA)), .own (al.c g), .own [aj A, aj (IE (A + 1)), aj (IE ((IE (A + g.Width)) + 1)), aj A, aj (IE ((IE (A + g.Width)) + 1)), aj (IE (A + g.Width))]] <| .block ?_
     obtain ⟨b, pn, hr⟩ := bd hr
     refine .wk ((Wk.refl _).to (c := ⟨mkS 82 0 [(1, .fn 90 [] [.hp 0 0, .hp 3 0, .hp 4 0]), (2, .hp 7 0), (4, aj g.Width), (5, aj h), (14, aj (IE (g.Height - 1))), (15, aj h), (19, aj (IE (g.Width - 1))), (20, aj l), (45, .hs 8 0 b.length 3), (46, aj 2), (47, aj 0)], [.own [.fn 88 [] [.hp 1 0, .hp 2 0]], .own [aj c, aj D, aj o, aj i, aj f, eC e], .own [aj d], .own [.mp 5], .own [.mp 6], .map (t.map (mpK au.K (gA ag.c))), .map (u.map (mpK au.K bA)), .own (al.c g), .own (b.flatMap aD.c)]⟩) (by rw [<- oi pn]; kernel_rfl)) ?_
     replace hr := bd hr; obtain ⟨mA, W, hr⟩ := hr
     refine .aP (σ := fun z0 => match z0 with | (j, k, a) => ⟨mkS 82 0 [(1, .fn 90 [] [.hp 0 0, .hp 3 0, .hp 4 0]), (2, .hp 7 0), (4, aj g.Width), (5, aj h), (14, aj (IE (g.Height - 1))), (15, aj h), (19, aj (IE (g.Width - 1))), (20, aj l), (45, .hs 8 0 b.length 3), (46, aj 2), (47, aj a)], [.own [.fn 88 [] [.hp 1 0, .hp 2 0]], .own [aj c, aj D, aj o, aj i, aj f, eC e], .own [aj d], .own [.mp 5], .own [.mp 6], .map (j.map (mpK au.K (gA ag.c))), .map (k.map (mpK au.K bA)), .own (al.c g), .own (b.flatMap aD.c)]⟩) (Q := fun x st' => match (generalizing := false) mA with | (J, L) => x = .exit 4 /\ Wk 5 st' ⟨mkS 82 0 [(1, .fn 90 [] [.hp 0 0, .hp 3 0, .hp 4 0]), (2, .hp 7 0), (4, aj g.Width), (5, aj h), (14, aj (IE (g.Height - 1))), (15, aj h), (19, aj (IE (g.Width - 1))), (20, aj l)], [.own [.fn 88 [] [.hp 1 0, .hp 2 0]], .own [aj c, aj D, aj o, aj i, aj f, eC e], .own [aj d], .own [.mp 5], .own [.mp 6], .map (J.map (mpK au.K (gA ag.c))), .map (L.map (mpK au.K bA)), .own (al.c g)]⟩) W ((Wk.gc [1, 2, 4, 5, 14, 15, 19, 20, 45, 46, 47] [(0, true), (1, true), (2, true), (3, true), (4, true), (5, false), (6, false), (7, true), (8, false)] rfl (pKt (pKt (pKt (pKt (pKt (pKM au.K (gA ag.c) (fun _ => rfl) t (pKM au.K bA (fun _ => rfl) u (pKt (pKo aD.c aD.pure b trivial)))))))))).to) ?_ ?_
     ·clear hr
      rintro m ⟨j, k, a⟩ hr
      refine CQ.sh ?_
      refine .seq (.r4 G [1, 2, 4, 5, 14, 15, 19, 20, 45, 46, 47] [(48, aB (decide (a < 2)))] (.seq ?_))
      refine .cd hr ?_ ?_ <;> intro rf hr
      ·refine .skip (.seq (.block (.seq ?_)))
       obtain ⟨X, hr⟩ := gd hr
       refine .r0 G (.p0 (v := .hp 8 (0 + a.toNat * 3)) (tr (aw X)) (.p0 (v := .agg (aD.c (gt b a))) (tr (y := bs.ofP (eA (decide (3 <= ((b.flatMap aD.c).drop (0 + a.toNat * 3)).length)) (.agg (((b.flatMap aD.c).drop (0 + a.toNat * 3)).take 3)))) (ch aD.len (aI X) (by decide) (by omega : 0 + a.toNat * 3 = a.toNat * 3 + 0) kRf)) (.mu 2 (.done (.nh [1, 2, 4, 5, 9, 14, 15, 19, 20, 45, 46, 47] [.own [.fn 88 [] [.hp 1 0, .hp 2 0]], .own [aj c, aj D, aj o, aj i, aj f, eC e], .own [aj d], .own [.mp 5], .own [.mp 6], .map (j.map (mpK au.K (gA ag.c))), .map (k.map (mpK au.K bA)), .own (al.c g), .own (b.flatMap aD.c), .own (aD.c (gt b a))] (.seq ?_))))))
       obtain ⟨w, hr⟩ := gd hr
       rcases bT (((gt g.Z (gt b a).e0) : Int) != (-2147483648)) with z | z
       ·replace hr := cI z hr
        obtain ⟨M, hr⟩ := gd hr
        rcases bT (((gt g.Z (gt b a).e1) : Int) != (-2147483648)) with B | B
        ·replace hr := cI B hr
         obtain ⟨Y, hr⟩ := gd hr
         refine .r0 G (.mu 4 (.p0 (v := .pp (g.Z.flatMap (iC .i64)) ((gt b a).e0.toNat * 1)) (tr (aw w)) (.p0 (v := aj (gt g.Z (gt b a).e0)) (tr (aR (aS (aK .i64) (aI w) z1 (by omega : (gt b a).e0.toNat * 1 = (gt b a).e0.toNat * 1 + 0) kRf))) (.p0 (v := aB true) (eB z) (.mu 5 (.pure (v := .pp (g.Z.flatMap (iC .i64)) ((gt b a).e1.toNat * 1)) kRf (tr (aw M)) (.pure (v := aj (gt g.Z (gt b a).e1)) kRf (tr (aR (aS (aK .i64) (aI M) z1 (by omega : (gt b a).e1.toNat * 1 = (gt b a).e1.toNat * 1 + 0) kRf))) (.pure (v := aB true) kRf (eB B) (.mu 6 (.pure (v := .pp (g.Z.flatMap (iC .i64)) ((gt b a).e2.toNat * 1)) kRf (tr (aw Y)) (.pure (v := aj (gt g.Z (gt b a).e2)) kRf (tr (aR (aS (aK .i64) (aI Y) z1 (by omega : (gt b a).e2.toNat * 1 = (gt b a).e2.toNat * 1 + 0) kRf))) (.mu 2 (.done (.nh [1, 2, 4, 5, 9, 14, 15, 19, 20, 45, 46, 47, 75] [.own [.fn 88 [] [.hp 1 0, .hp 2 0]], .own [aj c, aj D, aj o, aj i, aj f, eC e], .own [aj d], .own [.mp 5], .own [.mp 6], .map (j.map (mpK au.K (gA ag.c))), .map (k.map (mpK au.K bA)), .own (al.c g), .own (b.flatMap aD.c), .own (aD.c (gt b a))] ?_))))))))))))))
         refine .cd hr ?_ ?_ <;> intro tV hr
         ·obtain ⟨C, qz, hr⟩ := bd hr
          refine .g1 G (jb 0 (.own [.fn 88 [] [.hp 1 0, .hp 2 0]]) [] [(1, .own [aj c, aj D, aj o, aj i, aj f, eC e]), (2, .own [aj d]), (3, .own [.mp 10]), (4, .own [.mp 11]), (10, .map (C.1.map (mpK au.K (gA ag.c)))), (11, .map (C.2.map (mpK au.K bA))), (5, .dead), (6, .dead)] (gg (args := [.agg (aD.c (gt b a)), .hp 0 0, .hp 3 0, .hp 4 0]) 5 2 [(0, true), (1, true), (2, true), (3, true), (4, true), (5, false), (6, false)] [true, true, true, true, true, false, false] (qu n (gt b a) c D o i f e d j k C qz) (by exact ⟨fO (fun _ => rfl) _, ⟨fO (fun _ => rfl) _, trivial⟩⟩) (by exact ⟨fO (fun _ => rfl) _, ⟨fO (fun _ => rfl) _, trivial⟩⟩) rfl rfl kRf kRf)) (.mu 2 (.ca cf0 (.done (.pop (.ru G ?_)))))
          exact aE (C.1, C.2, IE (a + 1)) hr ((Wk.gc [1, 2, 4, 5, 14, 15, 19, 20, 45, 46, 47] [(0, true), (1, true), (2, true), (3, true), (4, true), (10, false), (11, false), (7, true), (8, false)] rfl (pKt (pKt (pKt (pKt (pKt (pKM au.K (gA ag.c) (fun _ => rfl) C.1 (pKM au.K bA (fun _ => rfl) C.2 (pKt (pKo aD.c aD.pure b trivial)))))))))).to)
         refine .skip (.pop (.ru G ?_))
         exact aE (j, k, IE (a + 1)) hr ((Wk.gc [1, 2, 4, 5, 14, 15, 19, 20, 45, 46, 47] [(0, true), (1, true), (2, true), (3, true), (4, true), (5, false), (6, false), (7, true), (8, false)] rfl (pKt (pKt (pKt (pKt (pKt (pKM au.K (gA ag.c) (fun _ => rfl) j (pKM au.K bA (fun _ => rfl) k (pKt (pKo aD.c aD.pure b trivial)))))))))).to)
        replace hr := cJ B hr
        refine .r0 G (.mu 4 (.p0 (v := .pp (g.Z.flatMap (iC .i64)) ((gt b a).e0.toNat * 1)) (tr (aw w)) (.p0 (v := aj (gt g.Z (gt b a).e0)) (tr (aR (aS (aK .i64) (aI w) z1 (by omega : (gt b a).e0.toNat * 1 = (gt b a).e0.toNat * 1 + 0) kRf))) (.p0 (v := aB true) (eB z) (.mu 5 (.pure (v := .pp (g.Z.flatMap (iC .i64)) ((gt b a).e1.toNat * 1)) kRf (tr (aw M)) (.pure (v := aj (gt g.Z (gt b a).e1)) kRf (tr (aR (aS (aK .i64) (aI M) z1 (by omega : (gt b a).e1.toNat * 1 = (gt b a).e1.toNat * 1 + 0) kRf))) (.pure (v := aB false) kRf (eB B) (.mu 10 (.done (.nh [1, 2, 4, 5, 9, 14, 15, 19, 20, 45, 46, 47, 75] [.own [.fn 88 [] [.hp 1 0, .hp 2 0]], .own [aj c, aj D, aj o, aj i, aj f, eC e], .own [aj d], .own [.mp 5], .own [.mp 6], .map (j.map (mpK au.K (gA ag.c))), .map (k.map (mpK au.K bA)), .own (al.c g), .own (b.flatMap aD.c), .own (aD.c (gt b a))] (.cF kRf (.skip (.pop (.ru G ?_)))))))))))))))
        exact aE (j, k, IE (a + 1)) hr ((Wk.gc [1, 2, 4, 5, 14, 15, 19, 20, 45, 46, 47] [(0, true), (1, true), (2, true), (3, true), (4, true), (5, false), (6, false), (7, true), (8, false)] rfl (pKt (pKt (pKt (pKt (pKt (pKM au.K (gA ag.c) (fun _ => rfl) j (pKM au.K bA (fun _ => rfl) k (pKt (pKo aD.c aD.pure b trivial)))))))))).to)
       replace hr := cJ z hr
       refine .r0 G (.mu 4 (.p0 (v := .pp (g.Z.flatMap (iC .i64)) ((gt b a).e0.toNat * 1)) (tr (aw w)) (.p0 (v := aj (gt g.Z (gt b a).e0)) (tr (aR (aS (aK .i64) (aI w) z1 (by omega : (gt b a).e0.toNat * 1 = (gt b a).e0.toNat * 1 + 0) kRf))) (.p0 (v := aB false) (eB z) (.mu 18 (.done (.nh [1, 2, 4, 5, 9, 14, 15, 19, 20, 45, 46, 47, 75] [.own [.fn 88 [] [.hp 1 0, .hp 2 0]], .own [aj c, aj D, aj o, aj i, aj f, eC e], .own [aj d], .own [.mp 5], .own [.mp 6], .map (j.map (mpK au.K (gA ag.c))), .map (k.map (mpK au.K bA)), .own (al.c g), .own (b.flatMap aD.c), .own (aD.c (gt b a))] (.cF kRf (.skip (.pop (.ru G ?_)))))))))))
       exact aE (j, k, IE (a + 1)) hr ((Wk.gc [1, 2, 4, 5, 14, 15, 19, 20, 45, 46, 47] [(0, true), (1, true), (2, true), (3, true), (4, true), (5, false), (6, false), (7, true), (8, false)] rfl (pKt (pKt (pKt (pKt (pKt (pKM au.K (gA ag.c) (fun _ => rfl) j (pKM au.K bA (fun _ => rfl) k (pKt (pKo aD.c aD.pure b trivial)))))))))).to)
      refine .leave rfl ?_
      obtain rfl := oi hr
      exact ⟨rfl, ((Wk.gc [1, 2, 4, 5, 14, 15, 19, 20] [(0, true), (1, true), (2, true), (3, true), (4, true), (5, false), (6, false), (7, true)] rfl (pKt (pKt (pKt (pKt (pKt (pKM au.K (gA ag.c) (fun _ => rfl) j (pKM au.K bA (fun _ => rfl) k trivial)))))))).to)⟩
     rcases mA with ⟨J, L⟩
     rintro x st' R
     clear W
     obtain ⟨rfl, R⟩ := R
     refine bb _ rfl (.pop (.wk R (.ru G ?_)))
     exact aE (J, L, IE (l + 1)) hr ((Wk.gc [1, 2, 4, 5, 14, 15, 19, 20] [(0, true), (1, true), (2, true), (3, true), (4, true), (5, false), (6, false), (7, true)] rfl (pKt (pKt (pKt (pKt (pKt (pKM au.K (gA ag.c) (fun _ => rfl) J (pKM au.K bA (fun _ => rfl) L trivial)))))))).to)
    refine .leave rfl ?_
    obtain rfl := oi hr
    exact ⟨rfl, ((Wk.gc [1, 2, 4, 14, 15] [(0, true), (1, true), (2, true), (3, true), (4, true), (5, false), (6, false), (7, true)] rfl (pKt (pKt (pKt (pKt (pKt (pKM au.K (gA ag.c) (fun _ => rfl) t (pKM au.K bA (fun _ => rfl) u trivial)))))))).to)⟩
   rcases kV with ⟨H, I⟩
   rintro x st' S
   clear V
   obtain ⟨rfl, S⟩ := S
   refine bb _ rfl (.pop (.wk S (.ru G ?_)))
   exact aE (H, I, IE (h + 1)) hr ((Wk.gc [1, 2, 4, 14, 15] [(0, true), (1, true), (2, true), (3, true), (4, true), (5, false), (6, false), (7, true)] rfl (pKt (pKt (pKt (pKt (pKt (pKM au.K (gA ag.c) (fun _ => rfl) H (pKM au.K bA (fun _ => rfl) I trivial)))))))).to)
  refine .leave rfl ?_
  obtain rfl := oi hr
  exact ⟨rfl, ((Wk.gc [] [(0, true), (1, true), (2, true), (3, true), (4, true), (5, false), (6, false)] rfl (pKt (pKt (pKt (pKt (pKt (pKM au.K (gA ag.c) (fun _ => rfl) E (pKM au.K bA (fun _ => rfl) F trivial)))))))).to)⟩
 rcases lY with ⟨N, O⟩
 rintro x st' T
 clear U
 obtain ⟨rfl, T⟩ := T
 refine bb _ rfl ?_
 obtain rfl := oi hr
 exact mL.wk T (mL.normal [] ((Wk.gc [] [(0, true), (1, true), (2, true), (3, true), (4, true), (5, false), (6, false)] rfl (pKt (pKt (pKt (pKt (pKt (pKM au.K (gA ag.c) (fun _ => rfl) N (pKM au.K bA (fun _ => rfl) O trivial)))))))).to))

theorem mT [Dr] (n : Nat) (a : A2 Int) (b : A2 Int) (r : Int) (hr : fi n a b = some r) : aN Tryz.prog 54 [.agg (ag.c a), .agg (ag.c b)] (aj r) := by
 unfold fi at hr
 refine aN.bd G Tryz.func54 [.tmp 4] ?_
 unfold Tryz.f54
 simp only [gS]
 refine .seq (.r2 G 20 [(2, .hp 0 0), (3, .hp 1 0)] [.own (ag.c a), .own (ag.c b)] (.seq (.seq (.r4 G [2, 3] [(9, aB ((a.e0 : Int) != b.e0))] ?_))))
 refine .cd hr ?_ ?_ <;> intro d hr
 ·refine .seq (.ru G (.ret ?_))
  obtain rfl := oi hr
  exact aL.r1 [aj (IE (a.e0 - b.e0))]
 refine .skip (.seq (.ru G (.ret ?_)))
 obtain rfl := oi hr
 exact aL.r1 [aj (IE (a.e1 - b.e1))]

theorem cR (n : Nat) (a : List (A2 Int)) (r : List (A2 Int)) (hr : aA n a = some r) : fT 1 Tryz.prog 92 [.hs 0 0 a.length 2, .fn 54 [] []] [.own (a.flatMap ag.c)] (.tup []) [.own (r.flatMap ag.c)] := by
 unfold aA at hr
 obtain ⟨b, hr⟩ := gd hr
 exact fT.FI (c := ag.c) (caps' := []) (Go.Proofs.YtecdcgfclgmbpaaGreat.wR (enters_of Tryz.func54 kRf rfl)) Go.Proofs.YtecdcgfclgmbpaaGreat.CX ag.len ag.pure hr (dcT b) SnL.nil (fun x y r hc => @mT ⟨true⟩ n x y r hc)

theorem sN {b : Int} {a : Int} (h : ([.at (.int .u64 b)] : List AV) = [.at (.int .u64 a)]) : b = a := by
 simp only [List.cons.injEq, AV.agg.injEq, AV.at.injEq, Value.int.injEq, Value.bool.injEq, AV.fn.injEq, AV.pp.injEq, true_and, and_true] at h
 simp_all
theorem tY (n : Nat) {b : Int} {a : Int} (h : ([.at (.int .u64 b)] : List AV) = [.at (.int .u64 a)]) : cH n b = cH n a := by
 obtain rfl := sN h
 rfl
theorem eG (n : Nat) (i : Int) (r : List Int) (hr : cH n i = some r) : aN Tryz.prog 148 [cV i] (aO r) := by
 unfold cH at hr
 refine aN.bd G Tryz.func148 [.tmp 2] ?_
 unfold Tryz.f148
 simp only [gS]
 refine .seq (.r4 G [0] [] (.seq (.r4 G [0] [(3, nS)] (.seq (.block ?_)))))
 replace hr := bd hr; obtain ⟨d, e, hr⟩ := hr
 refine .aP (σ := fun j => match j with | (a, b) => ⟨mkS 15 0 [(0, cV a), (3, .hs 0 0 b.length 1)], [.own (b.flatMap iCu)]⟩) (Q := fun x st' => x = .exit 0 /\ Wk 0 st' ⟨mkS 15 0 [(3, .hs 0 0 d.length 1)], [.own (d.flatMap iCu)]⟩) e ((Wk.nil 3 1 kRf).trans ((Wk.gc [0, 3] [(0, false)] rfl (pKc trivial)).to)) ?_ ?_
 ·clear hr
  rintro m ⟨a, b⟩ hr
  refine CQ.sh ?_
  refine .seq (.seq (.r4 G [0, 3] [(5, aB (decide (a > 0)))] ?_))
  refine .cd hr ?_ ?_ <;> intro k hr
  ·refine .skip (.seq (.block ?_))
   obtain ⟨g, f, hr⟩ := gd2 hr
   refine .r0 G (.mu 5 (.e0 (v := .hs 2 0 (b ++ [aa .u32 (a.tmod 1000000000)]).length 1) (ws := [(0, .dead), (2, .own ((b ++ [aa .u32 (a.tmod 1000000000)]).flatMap iCu))]) (tr (dN (new := [bl (aa .u32 (a.tmod 1000000000))]) (l := b) (xs := [aa .u32 (a.tmod 1000000000)]) (aK .u32) rfl rfl kRf g f)) (.mu 1 (.done (.pop (.ru G ?_))))))
   exact aE (wFu (a.tdiv 1000000000), b ++ [aa .u32 (a.tmod 1000000000)]) hr ((Wk.gc [0, 3] [(2, false)] rfl (pKo iCu (aC _) (b ++ [aa .u32 (a.tmod 1000000000)]) trivial)).to)
  refine .leave rfl ?_
  obtain rfl := oi hr
  exact ⟨rfl, ((Wk.gc [3] [(0, false)] rfl (pKo iCu (aC _) b trivial)).to)⟩
 rintro x st' c
 clear e
 obtain ⟨rfl, c⟩ := c
 refine bb _ rfl (.wk c (.seq (.r3 G 15 [(2, .hs 0 0 d.length 1)] (.ret ?_))))
 obtain rfl := oi hr
 exact aL.ret (vs := [.hs 0 0 d.length 1]) kRf (Sn.hs rfl (.inl rfl) (SnC.pure (bm (aC _) _)) (fun h => cB h))

theorem fV (n : Nat) (g : List Int) (r : List Int) (hr : dL n g = some r) : aN Tryz.prog 184 [aO g] (aO r) := by
 unfold dL at hr
 refine aN.bd G Tryz.func184 [.tmp 2] ?_
 unfold Tryz.f184
 simp only [gS]
 refine .seq (.r4 G [0] [] (.seq (.block ?_)))
 replace hr := bd hr; obtain ⟨f, d, hr⟩ := hr
 refine .aP (σ := fun k => match k with | a => ⟨mkS 21 0 [(0, aO a)], []⟩) (Q := fun x st' => x = .exit 0 /\ Wk 0 st' ⟨mkS 21 0 [(0, aO f)], []⟩) d ((Wk.gc [0] [] rfl pK0).to) ?_ ?_
 ·clear hr
  rintro m a hr
  refine CQ.sh ?_
  refine .seq (.seq ?_)
  rcases bT (decide ((a.length : Int) > 0)) with b | b
  ·replace hr := cI b hr
   obtain ⟨h, hr⟩ := gd hr
   refine .r0 G (.mu 2 (.p0 (v := aB true) (eB b) (.mu 5 (.pure (v := .pp (a.flatMap iCu) ((IE ((a.length : Int) - 1)).toNat * 1)) kRf (tr (aw h)) (.pure (v := bl (gt a (IE ((a.length : Int) - 1)))) kRf (tr (aR (aS (aK .u32) (aI h) z1 (by omega : (IE ((a.length : Int) - 1)).toNat * 1 = (IE ((a.length : Int) - 1)).toNat * 1 + 0) kRf))) (.mu 2 (.done (.nh [0, 14] [] ?_))))))))
   refine .cd hr ?_ ?_ <;> intro i hr
   ·refine .skip (.block ?_)
    obtain ⟨e, hr⟩ := gd hr
    refine .r0 G (.mu 4 (.p0 (v := aO ((a.drop (0 : Int).toNat).take ((IE ((a.length : Int) - 1)).toNat - (0 : Int).toNat))) (tr (y := slO (inS 0 (IE ((a.length : Int) - 1)) a.length) (0 : Int).toNat (IE ((a.length : Int) - 1)).toNat (fun z1 j => .sl true (((a.flatMap iCu).drop (z1 * 1)).take ((j - z1) * 1)) (j - z1))) (BD e (xT (aK _) (tw e)))) (.mu 1 (.done (.pop ?_)))))
    exact aE ((a.drop (0 : Int).toNat).take ((IE ((a.length : Int) - 1)).toNat - (0 : Int).toNat)) hr ((Wk.gc [0] [] rfl pK0).to)
   refine .leave rfl ?_
   obtain rfl := oi hr
   exact ⟨rfl, ((Wk.gc [0] [] rfl pK0).to)⟩
  replace hr := cJ b hr
  refine .r0 G (.mu 2 (.p0 (v := aB false) (eB b) (.mu 9 (.done (.nh [0, 14] [] (.cF kRf (.leave rfl ?_)))))))
  obtain rfl := oi hr
  exact ⟨rfl, ((Wk.gc [0] [] rfl pK0).to)⟩
 rintro x st' c
 clear d
 obtain ⟨rfl, c⟩ := c
 refine bb _ rfl (.wk c (.seq (.ru G (.ret ?_))))
 obtain rfl := oi hr
 exact aL.r1 [aO f]

theorem tK {negative : Bool} {g : List Int} {negative_ : Bool} {a : List Int} (h : ([.at (.bool negative), slT iCu g] : List AV) = [.at (.bool negative_), slT iCu a]) : negative = negative_ /\ g = a := by
 simp only [List.cons.injEq, AV.agg.injEq, AV.at.injEq, Value.int.injEq, Value.bool.injEq, AV.fn.injEq, AV.pp.injEq, true_and, and_true, dR] at h
 simp_all
theorem mb (n : Nat) {negative : Bool} {g : List Int} {negative_ : Bool} {a : List Int} (h : ([.at (.bool negative), slT iCu g] : List AV) = [.at (.bool negative_), slT iCu a]) : bM n negative g = bM n negative_ a := by
 obtain ⟨rfl, rfl⟩ := tK h
 rfl
theorem bP (n : Nat) (negative : Bool) (g : List Int) (r : ah) (hr : bM n negative g = some r) : aN Tryz.prog 147 [aB negative, aO g] (.agg (ah.c r)) := by
 unfold bM at hr
 refine aN.bd G Tryz.func147 [.cell 4 40] ?_
 unfold Tryz.f147
 simp only [gS]
 refine .seq (.r5 G [0, 1] [(4, .hp 0 0)] [.own [aB false, nS]] (.seq ?_))
 obtain ⟨a, b, hr⟩ := bd hr
 refine .g1 G (ok0 (fV n g a b)) (.mu 1 (.ca cf0 (.mu 1 (.done (.nh [0, 1, 4] [.own [aB false, nS]] (.seq (.seq (.r4 G [0, 1, 4] [(9, aB (((a.length : Int) : Int) == 0))] ?_))))))))
 refine .cd hr ?_ ?_ <;> intro d hr
 ·refine .seq (.r4 G [4] [] (.ret ?_))
  obtain rfl := oi hr
  exact aL.ret (vs := [.agg [aB false, nS]]) kRf (Sn.agg (Sp (SnL.cons Sn.fp SnL.nil)))
 refine .skip (.seq (.r5 G [4] [] [.own [aB negative, aO a]] (.ret ?_)))
 obtain rfl := oi hr
 exact aL.r1 [.agg [aB negative, aO a]]

theorem gT {b : Int} {a : Int} (h : ([.at (.int .i64 b)] : List AV) = [.at (.int .i64 a)]) : b = a := by
 simp only [List.cons.injEq, AV.agg.injEq, AV.at.injEq, Value.int.injEq, Value.bool.injEq, AV.fn.injEq, AV.pp.injEq, true_and, and_true] at h
 simp_all
theorem rq (n : Nat) {b : Int} {a : Int} (h : ([.at (.int .i64 b)] : List AV) = [.at (.int .i64 a)]) : fj n b = fj n a := by
 obtain rfl := gT h
 rfl
theorem iF (n : Nat) (a : Int) (r : ah) (hr : fj n a = some r) : aN Tryz.prog 108 [aj a] (.agg (ah.c r)) := by
 unfold fj at hr
 refine aN.bd G Tryz.func108 [.cell 2 40] ?_
 unfold Tryz.f108
 simp only [gS]
 refine .seq (.r5 G [0] [(2, .hp 0 0)] [.own [aB false, nS]] (.seq (.r4 G [0, 2] [(3, cV (wFu a))] (.seq (.seq (.r4 G [0, 2, 3] [(7, aB (decide (a < 0)))] ?_))))))
 refine .cd hr ?_ ?_ <;> intro b hr
 ·refine .r0 G (.mu 1 (.p0 (v := cV (wFu (0 - (wFu a)))) (tr (y := some (.pure (cV (IntKind.wrap .u64 (0 - (wFu a)))))) xW) (.mu 1 (.done (.nh [0, 2, 3] [.own [aB false, nS]] (.seq ?_))))))
  obtain ⟨j, d, e, f, hr⟩ := bd2 hr
  refine .gn G (ca1 (ok0 (eG n (wFu (0 - (wFu a))) j d)) (ca3 (ok0 (bP n true j e f)))) (.mu 1 (.p0 (v := aB true) (eB b) (.mu 1 (.ca cf0 (.ca (cfF cf0) (.mu 1 (.done (.nh [2] [.own (ah.c e)] (.ret ?_)))))))))
  obtain rfl := oi hr
  exact aL.r1 [.agg (ah.c e)]
 refine .skip (.seq ?_)
 obtain ⟨k, g, h, i, hr⟩ := bd2 hr
 refine .gn G (ca1 (ok0 (eG n (wFu a) k g)) (ca3 (ok0 (bP n false k h i)))) (.mu 1 (.p0 (v := aB false) (eB b) (.mu 1 (.ca cf0 (.ca (cfF cf0) (.mu 1 (.done (.nh [2] [.own (ah.c h)] (.ret ?_)))))))))
 obtain rfl := oi hr
 exact aL.r1 [.agg (ah.c h)]

theorem r7 (n : Nat) (g : Int) (r : Bool) (hr : lS n g = some r) : aN Tryz.prog 178 [bl g] (aB r) := by
 unfold lS at hr
 refine aN.bd G Tryz.func178 [.tmp 2] ?_
 unfold Tryz.f178
 simp only [gS]
 refine .seq (.r4 G [0] [] (.seq (.ru G (.ret ?_))))
 obtain rfl := oi hr
 exact aL.r1 [aB (decide (g >= 1000000000))]

theorem fx (n : Nat) (s : List Int) (r : Int) (hr : bu n s = some r) : aN Tryz.prog 197 [aO s, .fn 178 [] []] (aj r) := by
 unfold bu at hr
 refine aN.bd G Tryz.func197 [.tmp 4] ?_
 unfold Tryz.f197
 simp only [gS]
 refine .seq (.r4 G [0, 1] [] (.seq (.seq (.r4 G [0, 1] [(7, aj (s.length : Int)), (8, aj 0)] (.block ?_)))))
 replace hr := bd hr; obtain ⟨d, c, hr⟩ := hr
 refine .aP (σ := fun i => match i with | a => ⟨mkS 19 0 [(0, aO s), (1, .fn 178 [] []), (7, aj (s.length : Int)), (8, aj a)], []⟩) (Q := fun x st' => match (generalizing := false) d with | .inl _ => x = .exit 0 /\ Wk 0 st' ⟨mkS 19 0 [], []⟩ | .inr (r0) => x = .ret /\ aL Tryz.prog [.tmp 4] (aj r0) .ret st') c ((Wk.gc [0, 1, 7, 8] [] rfl pK0).to) ?_ ?_
 ·clear hr
  rintro m a hr
  refine CQ.sh ?_
  refine .seq (.r4 G [0, 1, 7, 8] [(9, aB (decide (a < (s.length : Int))))] (.seq ?_))
  refine .cd hr ?_ ?_ <;> intro j hr
  ·refine .skip (.seq (.block (.seq (.r4 G [0, 1, 7, 8] [(5, aj a)] (.seq ?_)))))
   obtain ⟨e, hr⟩ := gd hr
   obtain ⟨g, f, hr⟩ := bd hr
   refine .g1 G (ok0 (r7 n (gt s a) g f)) (.mu 3 (.p0 (v := .pp (s.flatMap iCu) (a.toNat * 1)) (tr (aw e)) (.p0 (v := bl (gt s a)) (tr (aR (aS (aK .u32) (aI e) z1 (by omega : a.toNat * 1 = a.toNat * 1 + 0) kRf))) (.ca cf0 (.done (.nh [0, 1, 5, 7, 8, 16] [] ?_))))))
   refine .cd hr ?_ ?_ <;> intro h hr
   ·refine .seq (.ru G (.ret ?_))
    obtain rfl := oi hr
    exact ⟨rfl, aL.ret (vs := [aj a]) kRf (Sn.pure rfl)⟩
   refine .skip (.pop (.ru G ?_))
   exact aE (IE (a + 1)) hr ((Wk.gc [0, 1, 7, 8] [] rfl pK0).to)
  refine .leave rfl ?_
  obtain rfl := oi hr
  exact ⟨rfl, ((Wk.gc [] [] rfl pK0).to)⟩
 rcases d with ⟨⟩ | r0
 ·rintro x st' b
  clear c
  obtain ⟨rfl, b⟩ := b
  refine bb _ rfl (.wk b (.seq (.ru G (.ret ?_))))
  obtain rfl := oi hr
  exact aL.r1 [aj (-1)]
 rintro x st' b
 clear c
 obtain ⟨rfl, b⟩ := b
 obtain rfl := oi hr
 exact jm _ b

theorem eW (n : Nat) (s : List Int) (r : Bool) (hr : aZ n s = some r) : aN Tryz.prog 177 [aO s, .fn 178 [] []] (aB r) := by
 unfold aZ at hr
 refine aN.bd G Tryz.func177 [.tmp 4] ?_
 unfold Tryz.f177
 simp only [gS]
 refine .seq (.r4 G [0, 1] [] (.seq ?_))
 obtain ⟨b, a, hr⟩ := bd hr
 refine .g1 G (ok0 (fx n s b a)) (.mu 2 (.ca cf0 (.mu 2 (.done (.ret ?_)))))
 obtain rfl := oi hr
 exact aL.r1 [aB (decide (b >= 0))]

theorem ee {b : ah} {a : ah} (h : ([.agg [.at (.bool b.Negative), slT iCu b.Groups]] : List AV) = [.agg [.at (.bool a.Negative), slT iCu a.Groups]]) : b = a := by
 obtain ⟨_, _⟩ := b
 obtain ⟨_, _⟩ := a
 simp only [List.cons.injEq, AV.agg.injEq, AV.at.injEq, Value.int.injEq, Value.bool.injEq, AV.fn.injEq, AV.pp.injEq, true_and, and_true, dR] at h
 simp_all
theorem oh (n : Nat) {b : ah} {a : ah} (h : ([.agg (ah.c b)] : List AV) = [.agg (ah.c a)]) : dW n b = dW n a := by
 obtain rfl := ee h
 rfl
theorem eM (n : Nat) (a : ah) (r : Bool) (hr : dW n a = some r) : aN Tryz.prog 142 [.agg (ah.c a)] (aB r) := by
 unfold dW at hr
 refine aN.bd G Tryz.func142 [.tmp 2] ?_
 unfold Tryz.f142
 simp only [gS]
 refine .seq (.r2 G 25 [(1, .hp 0 0)] [.own (ah.c a)] (.seq (.r4 G [1] [(3, aj (a.Groups.length : Int))] (.seq (.seq (.r4 G [1, 3] [(8, aB (((a.Groups.length : Int) : Int) == 0))] ?_))))))
 refine .cd hr ?_ ?_ <;> intro g hr
 ·refine .seq (.ru G (.ret ?_))
  obtain rfl := oi hr
  exact aL.r1 [aB (!a.Negative)]
 refine .skip (.seq ?_)
 obtain ⟨d, hr⟩ := gd hr
 rcases bT (((gt a.Groups (IE ((a.Groups.length : Int) - 1))) : Int) != 0) with b | b
 ·replace hr := cI b hr
  obtain ⟨f, e, hr⟩ := bd hr
  refine .g1 G (ok0 (eW n a.Groups f e)) (.mu 4 (.p0 (v := .pp (a.Groups.flatMap iCu) ((IE ((a.Groups.length : Int) - 1)).toNat * 1)) (tr (aw d)) (.p0 (v := bl (gt a.Groups (IE ((a.Groups.length : Int) - 1)))) (tr (aR (aS (aK .u32) (aI d) z1 (by omega : (IE ((a.Groups.length : Int) - 1)).toNat * 1 = (IE ((a.Groups.length : Int) - 1)).toNat * 1 + 0) kRf))) (.p0 (v := aB true) (eB b) (.mu 3 (.ca cf0 (.mu 3 (.done (.ret ?_)))))))))
  obtain rfl := oi hr
  exact aL.r1 [aB (!f)]
 replace hr := cJ b hr
 refine .r0 G (.mu 4 (.p0 (v := .pp (a.Groups.flatMap iCu) ((IE ((a.Groups.length : Int) - 1)).toNat * 1)) (tr (aw d)) (.p0 (v := bl (gt a.Groups (IE ((a.Groups.length : Int) - 1)))) (tr (aR (aS (aK .u32) (aI d) z1 (by omega : (IE ((a.Groups.length : Int) - 1)).toNat * 1 = (IE ((a.Groups.length : Int) - 1)).toNat * 1 + 0) kRf))) (.p0 (v := aB false) (eB b) (.mu 7 (.done (.ret ?_)))))))
 obtain rfl := oi hr
 exact aL.r1 [aB false]

theorem rl (n : Nat) {b : ah} {a : ah} (h : ([.agg (ah.c b)] : List AV) = [.agg (ah.c a)]) : eK n b = eK n a := by
 obtain rfl := ee h
 rfl
theorem mg (n : Nat) (a : ah) (r : ah) (hr : eK n a = some r) : aN Tryz.prog 190 [.agg (ah.c a)] (.agg (ah.c r)) := by
 unfold eK at hr
 refine aN.bd G Tryz.func190 [.cell 2 40] ?_
 unfold Tryz.f190
 simp only [gS]
 refine .seq (.r2 G 7 [(1, .hp 0 0), (2, .hp 1 0)] [.own (ah.c a), .own [aB false, nS]] (.seq (.seq ?_)))
 obtain ⟨f, b, hr⟩ := bd hr
 refine .g1 G (ok0 (eM n a f b)) (.mu 1 (.ca cf0 (.done (.nh [1, 2, 4] [.own (ah.c a), .own [aB false, nS]] ?_))))
 refine .cd hr ?_ ?_ <;> intro g hr
 ·refine .seq (.r5 G [2] [] [.own (ah.c a), .own (ah.c a)] (.ret ?_))
  obtain rfl := oi hr
  exact aL.r1 [.agg (ah.c a)]
 refine .skip (.seq ?_)
 obtain ⟨d, e, hr⟩ := bd hr
 refine .g1 G (ok0 (iF n 0 d e)) (.ca cf0 (.mu 1 (.done (.nh [2] [.own (ah.c a), .own (ah.c d)] (.ret ?_)))))
 obtain rfl := oi hr
 exact aL.r1 [.agg (ah.c d)]

theorem gl (n : Nat) {b : ah} {a : ah} (h : ([.agg (ah.c b)] : List AV) = [.agg (ah.c a)]) : bB n b = bB n a := by
 obtain rfl := ee h
 rfl
theorem bY (n : Nat) (a : ah) (r : List Int) (hr : bB n a = some r) : aN Tryz.prog 162 [.agg (ah.c a)] (aO r) := by
 unfold bB at hr
 refine aN.bd G Tryz.func162 [.tmp 2] ?_
 unfold Tryz.f162
 simp only [gS]
 refine .seq (.r2 G 8 [(1, .hp 0 0)] [.own (ah.c a)] (.seq (.seq ?_)))
 obtain ⟨d, b, hr⟩ := bd hr
 refine .g1 G (ok0 (eM n a d b)) (.mu 1 (.ca cf0 (.mu 1 (.done (.nh [1, 5] [.own (ah.c a)] ?_)))))
 refine .cd hr ?_ ?_ <;> intro e hr
 ·refine .seq (.r3 G 8 [(2, nS)] (.ret ?_))
  obtain rfl := oi hr
  exact aL.ret (vs := [nS]) kRf Sn.fp
 refine .skip (.seq (.ru G (.ret ?_)))
 obtain rfl := oi hr
 exact aL.r1 [aO a.Groups]

theorem uL (n : Nat) {b : ah} {a : ah} (h : ([.agg (ah.c b)] : List AV) = [.agg (ah.c a)]) : dx n b = dx n a := by
 obtain rfl := ee h
 rfl
theorem fl (n : Nat) (a : ah) (r : Int) (hr : dx n a = some r) : aN Tryz.prog 143 [.agg (ah.c a)] (aj r) := by
 unfold dx at hr
 refine aN.bd G Tryz.func143 [.tmp 2] ?_
 unfold Tryz.f143
 simp only [gS]
 refine .seq (.r2 G 11 [(1, .hp 0 0)] [.own (ah.c a)] (.seq (.block (.seq ?_))))
 obtain ⟨d, b, hr⟩ := bd hr
 refine .g1 G (ok0 (bY n a d b)) (.mu 1 (.ca cf0 (.mu 3 (.done (.nh [1, 3] [.own (ah.c a)] ?_)))))
 refine .cd hr ?_ ?_ <;> intro e hr
 ·refine .seq (.ru G (.ret ?_))
  obtain rfl := oi hr
  exact aL.r1 [aj 0]
 refine .seq (.r3 G 11 [(8, aB a.Negative)] ?_)
 refine .cd hr ?_ ?_ <;> intro f hr
 ·refine .seq (.ru G (.ret ?_))
  obtain rfl := oi hr
  exact aL.r1 [aj (-1)]
 refine .skip (.pop (.seq (.ru G (.ret ?_))))
 obtain rfl := oi hr
 exact aL.r1 [aj 1]

theorem eR (n : Nat) (s : List Int) (r : List Int) (hr : cc n s = some r) : aN Tryz.prog 183 [aO s] (aO r) := by
 unfold cc at hr
 refine aN.bd G Tryz.func183 [.tmp 2] ?_
 unfold Tryz.f183
 simp only [gS]
 refine .seq (.r4 G [0] [] (.seq (.seq ?_)))
 refine .Fk (t := 0) (cs := s.flatMap iCu) (len := s.length) kRf (fun a => ?_) ?_
 ·obtain rfl : s = [] := List.length_eq_zero_iff.1 a
  have hx := gd hr; clear hr; obtain ⟨_, hr⟩ := hx
  have hx := gd hr; clear hr; obtain ⟨_, hr⟩ := hx
  refine .r4 G [0] [(4, aB true)] (.cT kRf (.seq (.r3 G 8 [(2, nS)] (.ret ?_))))
  obtain rfl := oi hr
  exact aL.ret (vs := [nS]) kRf Sn.fp
 refine .r4 G [0] [(4, aB false)] (.cF kRf (.skip (.seq ?_)))
 obtain ⟨b, c, hr⟩ := gd2 hr
 refine .r0 G (.mu 2 (.e0 (v := .hs 1 0 s.length 1) (ws := [(0, .dead), (1, .own (s.flatMap iCu))]) (tr (y := CF (decide (((s.flatMap iCu)).length = s.length * 1)) (s.flatMap iCu) s.length (fun z1 d => sb (decide (0 + 0 * 1 <= (([] : List Int).flatMap iCu).length) && decide ((0 + d) * 4 <= 140737488355328) && decide (0 + d <= 4611686018427387904)) (some (.eff (.hs 1 0 (0 + d) 1) [(0, .dead), (1, .own (((([] : List Int).flatMap iCu).drop 0).take (0 * 1) ++ z1))])))) (vN (oa (aK _)) rfl (dN (l := ([] : List Int)) (xs := s) (aK _) rfl rfl rfl b c))) (.mu 1 (.done (.nh [2] [.dead, .own (s.flatMap iCu)] (.ret ?_))))))
 obtain rfl := oi hr
 exact aL.ret (vs := [.hs 1 0 s.length 1]) kRf (Sn.hs rfl (.inl rfl) (SnC.pure (bm (aC _) _)) (fun h => cB h))

theorem fM (n : Nat) {b : ah} {a : ah} (h : ([.agg (ah.c b)] : List AV) = [.agg (ah.c a)]) : dU n b = dU n a := by
 obtain rfl := ee h
 rfl
theorem fF (n : Nat) (a : ah) (r : ah) (hr : dU n a = some r) : aN Tryz.prog 158 [.agg (ah.c a)] (.agg (ah.c r)) := by
 unfold dU at hr
 refine aN.bd G Tryz.func158 [.cell 2 40] ?_
 unfold Tryz.f158
 simp only [gS]
 refine .seq (.r2 G 10 [(1, .hp 0 0), (2, .hp 1 0)] [.own (ah.c a), .own [aB false, nS]] (.seq ?_))
 obtain ⟨g, b, h, d, e, f, hr⟩ := bd3 hr
 refine .tn G (ca1 (ok0 (bY n a g b)) (ca1 (ok0 (eR n g h d)) (ca3 (ok0 (bP n (!a.Negative) h e f))))) (.mu 4 (.ca cf0 (.ca (cfF cf0) (.ca (cfF (cfF cf0)) (.mu 1 ?_)))))
 refine .done (kRa ?_)
 refine .nh [2] [.own (ah.c a), .own (ah.c e)] (.ret ?_)
 obtain rfl := oi hr
 exact aL.r1 [.agg (ah.c e)]




theorem tX (n : Nat) (a : List Int) (b : List Int) (r : List Int) (hr : iE n a b = some r) : aN Tryz.prog 161 [aO a, aO b] (aO r) := by
 unfold iE at hr
 refine aN.bd G Tryz.func161 [.tmp 4] ?_
 unfold Tryz.f161
 simp only [gS]
 refine .seq (.r4 G [0, 1] [] (.seq ?_))
 obtain ⟨E, F, H, hr⟩ := gd3 hr
 refine .r0 G (.mu 5 (.e0 (v := .hs 0 0 (List.replicate (IE ((a.length : Int) + (b.length : Int))).toNat ((0 : Int) : Int)).length 1) (ws := [(0, .own ((List.replicate (IE ((a.length : Int) + (b.length : Int))).toNat ((0 : Int) : Int)).flatMap iCu))]) (tr (lO (c := iCu) (z := (0 : Int)) (n := IE ((a.length : Int) + (b.length : Int))) (by_ := 4) rfl E F H)) (.mu 1 (.done (.nh [0, 1, 5] [.own ((List.replicate (IE ((a.length : Int) + (b.length : Int))).toNat ((0 : Int) : Int)).flatMap iCu)] (.seq (.seq (.r4 G [1, 5] [(18, aO a), (19, aj (a.length : Int)), (20, aj 0)] (.block ?_)))))))))
 replace hr := bd hr; obtain ⟨o, u, hr⟩ := hr
 refine .aP (σ := fun I => match I with | (p, e) => ⟨mkS 69 0 [(1, aO b), (5, .hs 0 0 p.length 1), (18, aO a), (19, aj (a.length : Int)), (20, aj e)], [.own (p.flatMap iCu)]⟩) (Q := fun x st' => x = .exit 0 /\ Wk 0 st' ⟨mkS 69 0 [(5, .hs 0 0 o.length 1)], [.own (o.flatMap iCu)]⟩) u ((Wk.gc [1, 5, 18, 19, 20] [(0, false)] rfl (pKo iCu (aC _) (List.replicate (IE ((a.length : Int) + (b.length : Int))).toNat ((0 : Int) : Int)) trivial)).to) ?_ ?_
 ·clear hr
  rintro m ⟨p, e⟩ hr
  refine CQ.sh ?_
  refine .seq (.r4 G [1, 5, 18, 19, 20] [(21, aB (decide (e < (a.length : Int))))] (.seq ?_))
  refine .cd hr ?_ ?_ <;> intro J hr
  ·refine .skip (.seq (.block (.seq ?_)))
   obtain ⟨w, hr⟩ := gd hr
   refine .r0 G (.mu 1 (.p0 (v := .pp (a.flatMap iCu) (e.toNat * 1)) (tr (aw w)) (.p0 (v := bl (gt a e)) (tr (aR (aS (aK .u32) (aI w) z1 (by omega : e.toNat * 1 = e.toNat * 1 + 0) kRf))) (.mu 2 (.done (.nh [1, 5, 6, 7, 18, 19, 20] [.own (p.flatMap iCu)] (.seq (.r4 G [1, 5, 6, 7, 18, 19, 20] [(8, cV 0)] (.seq (.seq (.r4 G [1, 5, 6, 7, 8, 18, 19, 20] [(25, aO b), (26, aj (b.length : Int)), (27, aj 0)] (.block ?_))))))))))))
   replace hr := bd hr; obtain ⟨B, y, hr⟩ := hr
   refine .aP (σ := fun I => match I with | (f, g, d) => ⟨mkS 69 0 [(1, aO b), (5, .hs 0 0 f.length 1), (6, aj e), (7, bl (gt a e)), (8, cV g), (18, aO a), (19, aj (a.length : Int)), (20, aj e), (25, aO b), (26, aj (b.length : Int)), (27, aj d)], [.own (f.flatMap iCu)]⟩) (Q := fun x st' => match (generalizing := false) B with | (i, j) => x = .exit 2 /\ Wk 0 st' ⟨mkS 69 0 [(1, aO b), (5, .hs 0 0 i.length 1), (6, aj e), (8, cV j), (18, aO a), (19, aj (a.length : Int)), (20, aj e)], [.own (i.flatMap iCu)]⟩) y ((Wk.gc [1, 5, 6, 7, 8, 18, 19, 20, 25, 26, 27] [(0, false)] rfl (pKo iCu (aC _) p trivial)).to) ?_ ?_
   ·clear hr
    rintro m ⟨f, g, d⟩ hr
    refine CQ.sh ?_
    refine .seq (.r4 G [1, 5, 6, 7, 8, 18, 19, 20, 25, 26, 27] [(28, aB (decide (d < (b.length : Int))))] (.seq ?_))
    refine .cd hr ?_ ?_ <;> intro L hr
    ·refine .skip (.seq (.block (.seq ?_)))
     obtain ⟨A, hr⟩ := gd hr
     refine .r0 G (.mu 1 (.p0 (v := .pp (b.flatMap iCu) (d.toNat * 1)) (tr (aw A)) (.p0 (v := bl (gt b d)) (tr (aR (aS (aK .u32) (aI A) z1 (by omega : d.toNat * 1 = d.toNat * 1 + 0) kRf))) (.mu 2 (.done (.nh [1, 5, 6, 7, 8, 9, 10, 18, 19, 20, 25, 26, 27] [.own (f.flatMap iCu)] (.seq ?_)))))))
     obtain ⟨k, hr⟩ := gd hr
     refine .r0 G (.mu 4 (.p0 (v := .hp 0 (0 + (IE (e + d)).toNat * 1)) (tr (aw k)) (.p0 (v := bl (gt f (IE (e + d)))) (tr (aR (aS (aK .u32) (aI k) z1 (by omega : 0 + (IE (e + d)).toNat * 1 = (IE (e + d)).toNat * 1 + 0) kRf))) (.mu 10 (.done (.nh [1, 5, 6, 7, 9, 11, 18, 19, 20, 25, 26, 27] [.own (f.flatMap iCu)] (.r0 G (.mu 9 (.p0 (v := .hp 0 (0 + (IE (e + d)).toNat * 1)) (tr (aw k)) (.e0 (v := .unk) (ws := [(0, .own ((f.set (IE (e + d)).toNat (aa .u32 ((wFu ((wFu ((wFu (gt f (IE (e + d)))) + (wFu ((wFu (gt a e)) * (wFu (gt b d)))))) + g)).tmod 1000000000))).flatMap iCu))]) (tr (ju (jo (cU (n := 1) (aK .u32) (aI k) (lbT rfl) (by omega : 0 + (IE (e + d)).toNat * 1 = (IE (e + d)).toNat * 1 + 0))) (congrArg Blk.own (dH (xs := [bl (aa .u32 ((wFu ((wFu ((wFu (gt f (IE (e + d)))) + (wFu ((wFu (gt a e)) * (wFu (gt b d)))))) + g)).tmod 1000000000))]) (aK .u32) (aI k) (lbT rfl) (by omega : 0 + (IE (e + d)).toNat * 1 = (IE (e + d)).toNat * 1 + 0) kRf)))) (.mu 1 (.done (.pop (.ru G ?_))))))))))))))
     exact aE (f.set (IE (e + d)).toNat (aa .u32 ((wFu ((wFu ((wFu (gt f (IE (e + d)))) + (wFu ((wFu (gt a e)) * (wFu (gt b d)))))) + g)).tmod 1000000000)), wFu ((wFu ((wFu ((wFu (gt f (IE (e + d)))) + (wFu ((wFu (gt a e)) * (wFu (gt b d)))))) + g)).tdiv 1000000000), IE (d + 1)) hr ((Wk.iO 5 (b := 0) (es := 1) (len := f.length) (f.set (IE (e + d)).toNat (aa .u32 ((wFu ((wFu ((wFu (gt f (IE (e + d)))) + (wFu ((wFu (gt a e)) * (wFu (gt b d)))))) + g)).tmod 1000000000))).length kRf (Eq.symm (List.length_set.trans rfl))).trans ((Wk.gc [1, 5, 6, 7, 8, 18, 19, 20, 25, 26, 27] [(0, false)] rfl (pKo iCu (aC _) (f.set (IE (e + d)).toNat (aa .u32 ((wFu ((wFu ((wFu (gt f (IE (e + d)))) + (wFu ((wFu (gt a e)) * (wFu (gt b d)))))) + g)).tmod 1000000000))) trivial)).to))
    refine .leave rfl ?_
    obtain rfl := oi hr
    exact ⟨rfl, ((Wk.gc [1, 5, 6, 8, 18, 19, 20] [(0, false)] rfl (pKo iCu (aC _) f trivial)).to)⟩
   rcases B with ⟨i, j⟩
   rintro x st' q
   clear y
   obtain ⟨rfl, q⟩ := q
   refine bb _ rfl (.wk q ?_)
   obtain ⟨s, hr⟩ := gd hr
   refine .r0 G (.mu 7 (.p0 (v := .hp 0 (0 + (IE (e + (b.length : Int))).toNat * 1)) (tr (aw s)) (.e0 (v := .unk) (ws := [(0, .own ((i.set (IE (e + (b.length : Int))).toNat (aa .u32 j)).flatMap iCu))]) (tr (ju (jo (cU (n := 1) (aK .u32) (aI s) (lbT rfl) (by omega : 0 + (IE (e + (b.length : Int))).toNat * 1 = (IE (e + (b.length : Int))).toNat * 1 + 0))) (congrArg Blk.own (dH (xs := [bl (aa .u32 j)]) (aK .u32) (aI s) (lbT rfl) (by omega : 0 + (IE (e + (b.length : Int))).toNat * 1 = (IE (e + (b.length : Int))).toNat * 1 + 0) kRf)))) (.done (.pop (.ru G ?_))))))
   exact aE (i.set (IE (e + (b.length : Int))).toNat (aa .u32 j), IE (e + 1)) hr ((Wk.iO 5 (b := 0) (es := 1) (len := i.length) (i.set (IE (e + (b.length : Int))).toNat (aa .u32 j)).length kRf (Eq.symm (List.length_set.trans rfl))).trans ((Wk.gc [1, 5, 18, 19, 20] [(0, false)] rfl (pKo iCu (aC _) (i.set (IE (e + (b.length : Int))).toNat (aa .u32 j)) trivial)).to))
  refine .leave rfl ?_
  obtain rfl := oi hr
  exact ⟨rfl, ((Wk.gc [5] [(0, false)] rfl (pKo iCu (aC _) p trivial)).to)⟩
 rintro x st' t
 clear u
 obtain ⟨rfl, t⟩ := t
 refine bb _ rfl (.wk t (.seq ?_))
 obtain ⟨C, D, hr⟩ := bd hr
 refine .g1 G (cY (args := [.hs 0 0 o.length 1]) (l := [0]) (SnL.cons (Sn.hs rfl (.inl rfl) (SnC.pure (bm (aC _) _)) (fun h => cB h)) SnL.nil) (fV n o C D)) (.mu 1 (.ca cf0 (.mu 1 (.done (.ret ?_)))))
 obtain rfl := oi hr
 exact aL.r1 [aO C]

theorem ta (n : Nat) (g : List Int) (r : List Int) (hr : mM n g = some r) : fT 1 Tryz.prog 184 [.hs 0 0 g.length 1] [.own (g.flatMap iCu)] (.hs 0 0 r.length 1) [.own (r.flatMap iCu)] := by
 unfold mM at hr
 refine fT.yX G Tryz.func184 (c := (Tryz.f184.body).getD .skip) rfl (us := [.hs 0 0 r.length 1]) (s := mkS 21 0 [(0, .hs 0 0 g.length 1)]) kRf (rs := [.tmp 2]) rfl ?_
 unfold Tryz.f184
 simp only [gS]
 refine .seq (.r4 G [0] [] (.seq (.block ?_)))
 replace hr := bd hr; obtain ⟨b, f, hr⟩ := hr
 refine .aP (σ := fun k => match k with | a => ⟨mkS 21 0 [(0, .hs 0 0 a.length 1)], [.own (a.flatMap iCu)]⟩) (Q := fun x st' => x = .exit 0 /\ Wk 1 st' ⟨mkS 21 0 [(0, .hs 0 0 b.length 1)], [.own (b.flatMap iCu)]⟩) f ((Wk.gc [0] [(0, false)] rfl (pKo iCu (aC _) g trivial)).to) ?_ ?_
 ·clear hr
  rintro m a hr
  refine CQ.sh ?_
  refine .seq (.seq ?_)
  rcases bT (decide ((a.length : Int) > 0)) with d | d
  ·replace hr := cI d hr
   obtain ⟨h, hr⟩ := gd hr
   refine .r0 G (.mu 2 (.p0 (v := aB true) (eB d) (.mu 5 (.pure (v := .hp 0 (0 + (IE ((a.length : Int) - 1)).toNat * 1)) kRf (tr (aw h)) (.pure (v := bl (gt a (IE ((a.length : Int) - 1)))) kRf (tr (aR (aS (aK .u32) (aI h) z1 (by omega : 0 + (IE ((a.length : Int) - 1)).toNat * 1 = (IE ((a.length : Int) - 1)).toNat * 1 + 0) kRf))) (.mu 2 (.done (.nh [0, 14] [.own (a.flatMap iCu)] ?_))))))))
   refine .cd hr ?_ ?_ <;> intro j hr
   ·refine .skip (.block ?_)
    obtain ⟨i, hr⟩ := gd hr
    refine .r0 G (.mu 4 (.p0 (v := .hs 0 0 (IE ((a.length : Int) - 1)).toNat 1) (tr (y := slH (inS 0 (IE ((a.length : Int) - 1)) a.length) true ((0 : Int).toNat) ((IE ((a.length : Int) - 1)).toNat) (fun z1 l => .hs 0 (0 + z1 * 1) (l - z1) 1)) (FA i kRf)) (.mu 1 (.done (.pop ?_)))))
    exact aE (a.take (IE ((a.length : Int) - 1)).toNat) hr ((Wk.H8 (c := iCu) (es := 1) 0 0 (aK _) a (IE ((a.length : Int) - 1)).toNat (tw i) kRf kRf).trans ((Wk.gc [0] [(0, false)] rfl (pKo iCu (aC _) (a.take (IE ((a.length : Int) - 1)).toNat) trivial)).to))
   refine .leave rfl ?_
   obtain rfl := oi hr
   exact ⟨rfl, ((Wk.gc [0] [(0, false)] rfl (pKo iCu (aC _) a trivial)).to)⟩
  replace hr := cJ d hr
  refine .r0 G (.mu 2 (.p0 (v := aB false) (eB d) (.mu 9 (.done (.nh [0, 14] [.own (a.flatMap iCu)] (.cF kRf (.leave rfl ?_)))))))
  obtain rfl := oi hr
  exact ⟨rfl, ((Wk.gc [0] [(0, false)] rfl (pKo iCu (aC _) a trivial)).to)⟩
 rintro x st' e
 clear f
 obtain ⟨rfl, e⟩ := e
 refine bb _ rfl (.wk e (.seq (.r3 G 21 [(2, .hs 0 0 b.length 1)] (.ret ?_))))
 obtain rfl := oi hr
 exact mL.ret [.hs 0 0 b.length 1] ((Wk.gc [0] [(0, false)] rfl (pKo iCu (aC _) b trivial)).to)

theorem mJ (n : Nat) (a : List Int) (b : List Int) (r : List Int) (hr : iv n a b = some r) : fT 1 Tryz.prog 161 [aO a, .hs 0 0 b.length 1] [.own (b.flatMap iCu)] (.hs 1 0 r.length 1) [.own (b.flatMap iCu), .own (r.flatMap iCu)] := by
 unfold iv at hr
 refine fT.yX G Tryz.func161 (c := (Tryz.f161.body).getD .skip) rfl (us := [.hs 1 0 r.length 1]) (s := mkS 69 0 [(0, aO a), (1, .hs 0 0 b.length 1)]) kRf (rs := [.tmp 4]) rfl ?_
 unfold Tryz.f161
 simp only [gS]
 refine .seq (.r4 G [0, 1] [] (.seq ?_))
 obtain ⟨B, C, D, hr⟩ := gd3 hr
 refine .r0 G (.mu 5 (.e0 (v := .hs 1 0 (List.replicate (IE ((a.length : Int) + (b.length : Int))).toNat ((0 : Int) : Int)).length 1) (ws := [(1, .own ((List.replicate (IE ((a.length : Int) + (b.length : Int))).toNat ((0 : Int) : Int)).flatMap iCu))]) (tr (lO (c := iCu) (z := (0 : Int)) (n := IE ((a.length : Int) + (b.length : Int))) (by_ := 4) rfl B C D)) (.mu 1 (.done (.nh [0, 1, 5] [.own (b.flatMap iCu), .own ((List.replicate (IE ((a.length : Int) + (b.length : Int))).toNat ((0 : Int) : Int)).flatMap iCu)] (.seq (.seq (.r4 G [1, 5] [(18, aO a), (19, aj (a.length : Int)), (20, aj 0)] (.block ?_)))))))))
 replace hr := bd hr; obtain ⟨l, u, hr⟩ := hr
 refine .aP (σ := fun H => match H with | (j, d) => ⟨mkS 69 0 [(1, .hs 0 0 b.length 1), (5, .hs 1 0 j.length 1), (18, aO a), (19, aj (a.length : Int)), (20, aj d)], [.own (b.flatMap iCu), .own (j.flatMap iCu)]⟩) (Q := fun x st' => x = .exit 0 /\ Wk 1 st' ⟨mkS 69 0 [(5, .hs 1 0 l.length 1)], [.own (b.flatMap iCu), .own (l.flatMap iCu)]⟩) u ((Wk.gc [1, 5, 18, 19, 20] [(0, false), (1, false)] rfl (pKo iCu (aC _) b (pKo iCu (aC _) (List.replicate (IE ((a.length : Int) + (b.length : Int))).toNat ((0 : Int) : Int)) trivial))).to) ?_ ?_
 ·clear hr
  rintro m ⟨j, d⟩ hr
  refine CQ.sh ?_
  refine .seq (.r4 G [1, 5, 18, 19, 20] [(21, aB (decide (d < (a.length : Int))))] (.seq ?_))
  refine .cd hr ?_ ?_ <;> intro I hr
  ·refine .skip (.seq (.block (.seq ?_)))
   obtain ⟨w, hr⟩ := gd hr
   refine .r0 G (.mu 1 (.p0 (v := .pp (a.flatMap iCu) (d.toNat * 1)) (tr (aw w)) (.p0 (v := bl (gt a d)) (tr (aR (aS (aK .u32) (aI w) z1 (by omega : d.toNat * 1 = d.toNat * 1 + 0) kRf))) (.mu 2 (.done (.nh [1, 5, 6, 7, 18, 19, 20] [.own (b.flatMap iCu), .own (j.flatMap iCu)] (.seq (.r4 G [1, 5, 6, 7, 18, 19, 20] [(8, cV 0)] (.seq (.seq (.r4 G [1, 5, 6, 7, 8, 18, 19, 20] [(25, .hs 0 0 b.length 1), (26, aj (b.length : Int)), (27, aj 0)] (.block ?_))))))))))))
   replace hr := bd hr; obtain ⟨E, y, hr⟩ := hr
   refine .aP (σ := fun H => match H with | (f, g, e) => ⟨mkS 69 0 [(1, .hs 0 0 b.length 1), (5, .hs 1 0 f.length 1), (6, aj d), (7, bl (gt a d)), (8, cV g), (18, aO a), (19, aj (a.length : Int)), (20, aj d), (25, .hs 0 0 b.length 1), (26, aj (b.length : Int)), (27, aj e)], [.own (b.flatMap iCu), .own (f.flatMap iCu)]⟩) (Q := fun x st' => match (generalizing := false) E with | (h, i) => x = .exit 2 /\ Wk 1 st' ⟨mkS 69 0 [(1, .hs 0 0 b.length 1), (5, .hs 1 0 h.length 1), (6, aj d), (8, cV i), (18, aO a), (19, aj (a.length : Int)), (20, aj d)], [.own (b.flatMap iCu), .own (h.flatMap iCu)]⟩) y ((Wk.gc [1, 5, 6, 7, 8, 18, 19, 20, 25, 26, 27] [(0, false), (1, false)] rfl (pKo iCu (aC _) b (pKo iCu (aC _) j trivial))).to) ?_ ?_
   ·clear hr
    rintro m ⟨f, g, e⟩ hr
    refine CQ.sh ?_
    refine .seq (.r4 G [1, 5, 6, 7, 8, 18, 19, 20, 25, 26, 27] [(28, aB (decide (e < (b.length : Int))))] (.seq ?_))
    refine .cd hr ?_ ?_ <;> intro J hr
    ·refine .skip (.seq (.block (.seq ?_)))
     obtain ⟨A, hr⟩ := gd hr
     refine .r0 G (.mu 1 (.p0 (v := .hp 0 (0 + e.toNat * 1)) (tr (aw A)) (.p0 (v := bl (gt b e)) (tr (aR (aS (aK .u32) (aI A) z1 (by omega : 0 + e.toNat * 1 = e.toNat * 1 + 0) kRf))) (.mu 2 (.done (.nh [1, 5, 6, 7, 8, 9, 10, 18, 19, 20, 25, 26, 27] [.own (b.flatMap iCu), .own (f.flatMap iCu)] (.seq ?_)))))))
     obtain ⟨k, hr⟩ := gd hr
     refine .r0 G (.mu 4 (.p0 (v := .hp 1 (0 + (IE (d + e)).toNat * 1)) (tr (aw k)) (.p0 (v := bl (gt f (IE (d + e)))) (tr (aR (aS (aK .u32) (aI k) z1 (by omega : 0 + (IE (d + e)).toNat * 1 = (IE (d + e)).toNat * 1 + 0) kRf))) (.mu 10 (.done (.nh [1, 5, 6, 7, 9, 11, 18, 19, 20, 25, 26, 27] [.own (b.flatMap iCu), .own (f.flatMap iCu)] (.r0 G (.mu 9 (.p0 (v := .hp 1 (0 + (IE (d + e)).toNat * 1)) (tr (aw k)) (.e0 (v := .unk) (ws := [(1, .own ((f.set (IE (d + e)).toNat (aa .u32 ((wFu ((wFu ((wFu (gt f (IE (d + e)))) + (wFu ((wFu (gt a d)) * (wFu (gt b e)))))) + g)).tmod 1000000000))).flatMap iCu))]) (tr (ju (jo (cU (n := 1) (aK .u32) (aI k) (lbT rfl) (by omega : 0 + (IE (d + e)).toNat * 1 = (IE (d + e)).toNat * 1 + 0))) (congrArg Blk.own (dH (xs := [bl (aa .u32 ((wFu ((wFu ((wFu (gt f (IE (d + e)))) + (wFu ((wFu (gt a d)) * (wFu (gt b e)))))) + g)).tmod 1000000000))]) (aK .u32) (aI k) (lbT rfl) (by omega : 0 + (IE (d + e)).toNat * 1 = (IE (d + e)).toNat * 1 + 0) kRf)))) (.mu 1 (.done (.pop (.ru G ?_))))))))))))))
     exact aE (f.set (IE (d + e)).toNat (aa .u32 ((wFu ((wFu ((wFu (gt f (IE (d + e)))) + (wFu ((wFu (gt a d)) * (wFu (gt b e)))))) + g)).tmod 1000000000)), wFu ((wFu ((wFu ((wFu (gt f (IE (d + e)))) + (wFu ((wFu (gt a d)) * (wFu (gt b e)))))) + g)).tdiv 1000000000), IE (e + 1)) hr ((Wk.iO 5 (b := 1) (es := 1) (len := f.length) (f.set (IE (d + e)).toNat (aa .u32 ((wFu ((wFu ((wFu (gt f (IE (d + e)))) + (wFu ((wFu (gt a d)) * (wFu (gt b e)))))) + g)).tmod 1000000000))).length kRf (Eq.symm (List.length_set.trans rfl))).trans ((Wk.gc [1, 5, 6, 7, 8, 18, 19, 20, 25, 26, 27] [(0, false), (1, false)] rfl (pKo iCu (aC _) b (pKo iCu (aC _) (f.set (IE (d + e)).toNat (aa .u32 ((wFu ((wFu ((wFu (gt f (IE (d + e)))) + (wFu ((wFu (gt a d)) * (wFu (gt b e)))))) + g)).tmod 1000000000))) trivial))).to))
    refine .leave rfl ?_
    obtain rfl := oi hr
    exact ⟨rfl, ((Wk.gc [1, 5, 6, 8, 18, 19, 20] [(0, false), (1, false)] rfl (pKo iCu (aC _) b (pKo iCu (aC _) f trivial))).to)⟩
   rcases E with ⟨h, i⟩
   rintro x st' o
   clear y
   obtain ⟨rfl, o⟩ := o
   refine bb _ rfl (.wk o ?_)
   obtain ⟨p, hr⟩ := gd hr
   refine .r0 G (.mu 7 (.p0 (v := .hp 1 (0 + (IE (d + (b.length : Int))).toNat * 1)) (tr (aw p)) (.e0 (v := .unk) (ws := [(1, .own ((h.set (IE (d + (b.length : Int))).toNat (aa .u32 i)).flatMap iCu))]) (tr (ju (jo (cU (n := 1) (aK .u32) (aI p) (lbT rfl) (by omega : 0 + (IE (d + (b.length : Int))).toNat * 1 = (IE (d + (b.length : Int))).toNat * 1 + 0))) (congrArg Blk.own (dH (xs := [bl (aa .u32 i)]) (aK .u32) (aI p) (lbT rfl) (by omega : 0 + (IE (d + (b.length : Int))).toNat * 1 = (IE (d + (b.length : Int))).toNat * 1 + 0) kRf)))) (.done (.pop (.ru G ?_))))))
   exact aE (h.set (IE (d + (b.length : Int))).toNat (aa .u32 i), IE (d + 1)) hr ((Wk.iO 5 (b := 1) (es := 1) (len := h.length) (h.set (IE (d + (b.length : Int))).toNat (aa .u32 i)).length kRf (Eq.symm (List.length_set.trans rfl))).trans ((Wk.gc [1, 5, 18, 19, 20] [(0, false), (1, false)] rfl (pKo iCu (aC _) b (pKo iCu (aC _) (h.set (IE (d + (b.length : Int))).toNat (aa .u32 i)) trivial))).to))
  refine .leave rfl ?_
  obtain rfl := oi hr
  exact ⟨rfl, ((Wk.gc [5] [(0, false), (1, false)] rfl (pKo iCu (aC _) b (pKo iCu (aC _) j trivial))).to)⟩
 rintro x st' q
 clear u
 obtain ⟨rfl, q⟩ := q
 refine bb _ rfl (.wk q (.seq ?_))
 obtain ⟨t, F, hr⟩ := bd hr
 refine .g1 G (gg (args := [.hs 1 0 l.length 1]) 1 0 [(1, false)] [false] (ta n l t F) (by exact ⟨bm (aC _) _, trivial⟩) (by exact ⟨bm (aC _) _, trivial⟩) rfl rfl kRf kRf) (.mu 1 (.ca cf0 (.mu 1 (.done (.nh [4] [.own (b.flatMap iCu), .own (t.flatMap iCu)] (.ret ?_))))))
 obtain rfl := oi hr
 exact mL.ret [.hs 1 0 t.length 1] ((Wk.gc [0] [(0, false), (1, false)] rfl (pKo iCu (aC _) b (pKo iCu (aC _) t trivial))).to)

theorem qH {g : List Int} {i : Int} {a : List Int} {b : Int} (h : ([slT iCu g, .at (.int .i64 i)] : List AV) = [slT iCu a, .at (.int .i64 b)]) : g = a /\ i = b := by
 simp only [List.cons.injEq, AV.agg.injEq, AV.at.injEq, Value.int.injEq, Value.bool.injEq, AV.fn.injEq, AV.pp.injEq, true_and, and_true, dR] at h
 simp_all
theorem wS (n : Nat) {g : List Int} {i : Int} {a : List Int} {b : Int} (h : ([slT iCu g, .at (.int .i64 i)] : List AV) = [slT iCu a, .at (.int .i64 b)]) : fJ n g i = fJ n a b := by
 obtain ⟨rfl, rfl⟩ := qH h
 rfl
theorem ln (n : Nat) (g : List Int) (i : Int) (r : Int) (hr : fJ n g i = some r) : aN Tryz.prog 203 [aO g, aj i] (bl r) := by
 unfold fJ at hr
 refine aN.bd G Tryz.func203 [.tmp 4] ?_
 unfold Tryz.f203
 simp only [gS]
 refine .seq (.r4 G [0, 1] [] (.seq (.seq (.r4 G [0, 1] [(8, aB (decide (i < (g.length : Int))))] ?_))))
 refine .cd hr ?_ ?_ <;> intro b hr
 ·refine .seq ?_
  obtain ⟨a, hr⟩ := gd hr
  refine .r0 G (.mu 2 (.p0 (v := .pp (g.flatMap iCu) (i.toNat * 1)) (tr (aw a)) (.p0 (v := bl (gt g i)) (tr (aR (aS (aK .u32) (aI a) z1 (by omega : i.toNat * 1 = i.toNat * 1 + 0) kRf))) (.mu 1 (.done (.ret ?_))))))
  obtain rfl := oi hr
  exact aL.r1 [bl (gt g i)]
 refine .skip (.seq (.ru G (.ret ?_)))
 obtain rfl := oi hr
 exact aL.r1 [bl 0]

theorem pM (n : Nat) (a : List Int) (b : List Int) (r : List Int × List Int) (hr : ie n a b = some r) : aN Tryz.prog 202 [aO a, aO b] (.tup [aO r.1, aO r.2]) := by
 unfold ie at hr
 refine aN.bd G Tryz.func202 [.tmp 4, .tmp 5] ?_
 unfold Tryz.f202
 simp only [gS]
 refine .seq (.r4 G [0, 1] [] (.seq ?_))
 obtain ⟨yY, Cg, hr⟩ := gd2 hr
 refine .r0 G (.mu 4 (.p0 (v := .pp (b.flatMap iCu) ((IE ((b.length : Int) - 1)).toNat * 1)) (tr (aw yY)) (.p0 (v := bl (gt b (IE ((b.length : Int) - 1)))) (tr (aR (aS (aK .u32) (aI yY) z1 (by omega : (IE ((b.length : Int) - 1)).toNat * 1 = (IE ((b.length : Int) - 1)).toNat * 1 + 0) kRf))) (.mu 2 (.p0 (v := cV (wFu ((1000000000 : Int).tdiv (wFu ((wFu (gt b (IE ((b.length : Int) - 1)))) + 1))))) (rN (x := 1000000000) (y := wFu ((wFu (gt b (IE ((b.length : Int) - 1)))) + 1)) kRf kRf Cg) (.mu 2 (.done (.nh [0, 1, 6] [] (.seq ?_)))))))))
 obtain ⟨Z, Ca, hr⟩ := bd hr
 refine .gn G (ca4 [.own [bl (aa .u32 (wFu ((1000000000 : Int).tdiv (wFu ((wFu (gt b (IE ((b.length : Int) - 1)))) + 1)))))]] (gg (args := [aO a, .hs 0 0 1 1]) 1 1 [(0, false)] [false, false] (mJ n a [aa .u32 (wFu ((1000000000 : Int).tdiv (wFu ((wFu (gt b (IE ((b.length : Int) - 1)))) + 1))))] Z Ca) (by exact ⟨rfl, trivial⟩) (by exact ⟨bm (aC _) _, ⟨bm (aC _) _, trivial⟩⟩) rfl rfl kRf kRf)) (.mu 3 (.ca cf0 (.mu 1 (.done (.nh [0, 1, 6, 7] [.own ([aa .u32 (wFu ((1000000000 : Int).tdiv (wFu ((wFu (gt b (IE ((b.length : Int) - 1)))) + 1))))].flatMap iCu), .own (Z.flatMap iCu)] (.seq ?_))))))
 obtain ⟨g, yU, hr⟩ := bd hr
 refine .gn G (ca4 [.own ([aa .u32 (wFu ((1000000000 : Int).tdiv (wFu ((wFu (gt b (IE ((b.length : Int) - 1)))) + 1))))].flatMap iCu), .own (Z.flatMap iCu), .own [bl (aa .u32 (wFu ((1000000000 : Int).tdiv (wFu ((wFu (gt b (IE ((b.length : Int) - 1)))) + 1)))))]] (gg (args := [aO b, .hs 2 0 1 1]) 1 1 [(2, false)] [false, false] (mJ n b [aa .u32 (wFu ((1000000000 : Int).tdiv (wFu ((wFu (gt b (IE ((b.length : Int) - 1)))) + 1))))] g yU) (by exact ⟨rfl, trivial⟩) (by exact ⟨bm (aC _) _, ⟨bm (aC _) _, trivial⟩⟩) rfl rfl kRf kRf)) (.mu 3 (.ca cf0 (.mu 1 (.done (.nh [0, 6, 7, 8] [.own ([aa .u32 (wFu ((1000000000 : Int).tdiv (wFu ((wFu (gt b (IE ((b.length : Int) - 1)))) + 1))))].flatMap iCu), .own (Z.flatMap iCu), .own ([aa .u32 (wFu ((1000000000 : Int).tdiv (wFu ((wFu (gt b (IE ((b.length : Int) - 1)))) + 1))))].flatMap iCu), .own (g.flatMap iCu)] (.seq (.r4 G [0, 6, 7, 8] [(9, aj (g.length : Int))] (.seq ?_))))))))
 obtain ⟨Ac, Dm, hr⟩ := gd2 hr
 refine .r0 G (.mu 2 (.e0 (v := .hs 5 0 (Z ++ [(0 : Int)]).length 1) (ws := [(1, .dead), (5, .own ((Z ++ [(0 : Int)]).flatMap iCu))]) (tr (dN (new := [bl 0]) (l := Z) (xs := [(0 : Int)]) (aK .u32) rfl rfl kRf Ac Dm)) (.mu 1 (.done (.nh [0, 6, 7, 8, 9] [.own ([aa .u32 (wFu ((1000000000 : Int).tdiv (wFu ((wFu (gt b (IE ((b.length : Int) - 1)))) + 1))))].flatMap iCu), .dead, .own ([aa .u32 (wFu ((1000000000 : Int).tdiv (wFu ((wFu (gt b (IE ((b.length : Int) - 1)))) + 1))))].flatMap iCu), .own (g.flatMap iCu), .own [bl 0], .own ((Z ++ [(0 : Int)]).flatMap iCu)] (.seq (.seq (.r4 G [6, 7, 8, 9] [(50, aB (decide (((Z ++ [(0 : Int)]).length : Int) <= (a.length : Int))))] ?_))))))))
 replace hr := bd hr; obtain ⟨R, lY, hr⟩ := hr
 refine .HE (Q := fun x st' => x = .normal /\ Wk 0 st' ⟨mkS 266 0 [(6, bl (aa .u32 (wFu ((1000000000 : Int).tdiv (wFu ((wFu (gt b (IE ((b.length : Int) - 1)))) + 1)))))), (7, .hs 0 0 R.length 1), (8, .hs 1 0 g.length 1), (9, aj (g.length : Int))], [.own (R.flatMap iCu), .own (g.flatMap iCu)]⟩) ?_ ?_
 ·clear hr
  have hr := lY
  clear lY
  refine .cd hr ?_ ?_ <;> intro FM hr
  ·obtain ⟨BF, B7, hr⟩ := gd2 hr
   refine .r0 G (.mu 2 (.e0 (v := .hs 7 0 ((Z ++ [(0 : Int)]) ++ [(0 : Int)]).length 1) (ws := [(5, .dead), (7, .own (((Z ++ [(0 : Int)]) ++ [(0 : Int)]).flatMap iCu))]) (tr (dN (new := [bl 0]) (l := Z ++ [(0 : Int)]) (xs := [(0 : Int)]) (aK .u32) rfl rfl kRf BF B7)) (.mu 1 (.done ?_))))
   obtain rfl := oi hr
   exact ⟨rfl, ((Wk.gc [6, 7, 8, 9] [(7, false), (3, false)] rfl (pKo iCu (aC _) ((Z ++ [(0 : Int)]) ++ [(0 : Int)]) (pKo iCu (aC _) g trivial))).to)⟩
  refine .skip ?_
  obtain rfl := oi hr
  exact ⟨rfl, ((Wk.gc [6, 7, 8, 9] [(5, false), (3, false)] rfl (pKo iCu (aC _) (Z ++ [(0 : Int)]) (pKo iCu (aC _) g trivial))).to)⟩
 rintro x st' kV
 clear lY
 obtain ⟨rfl, kV⟩ := kV
 refine .wk kV (.seq ?_)
 obtain ⟨Cj, B9, Co, hr⟩ := gd3 hr
 refine .r0 G (.mu 4 (.e0 (v := .hs 2 0 (List.replicate (IE ((R.length : Int) - (g.length : Int))).toNat ((0 : Int) : Int)).length 1) (ws := [(2, .own ((List.replicate (IE ((R.length : Int) - (g.length : Int))).toNat ((0 : Int) : Int)).flatMap iCu))]) (tr (lO (c := iCu) (z := (0 : Int)) (n := IE ((R.length : Int) - (g.length : Int))) (by_ := 4) rfl Cj B9 Co)) (.mu 1 (.done (.nh [4, 6, 7, 8, 9] [.own (R.flatMap iCu), .own (g.flatMap iCu), .own ((List.replicate (IE ((R.length : Int) - (g.length : Int))).toNat ((0 : Int) : Int)).flatMap iCu)] (.seq (.seq (.r4 G [4, 6, 7, 8, 9] [(10, aj (IE ((IE ((R.length : Int) - (g.length : Int))) - 1)))] (.block ?_)))))))))
 replace hr := bd hr; obtain ⟨qD, mA, hr⟩ := hr
 refine .aP (σ := fun z0 => match z0 with | (i, q, d) => ⟨mkS 266 0 [(4, .hs 0 0 i.length 1), (6, bl (aa .u32 (wFu ((1000000000 : Int).tdiv (wFu ((wFu (gt b (IE ((b.length : Int) - 1)))) + 1)))))), (7, .hs 1 0 q.length 1), (8, .hs 2 0 g.length 1), (9, aj (g.length : Int)), (10, aj d)], [.own (i.flatMap iCu), .own (q.flatMap iCu), .own (g.flatMap iCu)]⟩) (Q := fun x st' => match (generalizing := false) qD with | (I, J) => x = .exit 0 /\ Wk 0 st' ⟨mkS 266 0 [(4, .hs 0 0 I.length 1), (6, bl (aa .u32 (wFu ((1000000000 : Int).tdiv (wFu ((wFu (gt b (IE ((b.length : Int) - 1)))) + 1)))))), (7, .hs 1 0 J.length 1), (9, aj (g.length : Int))], [.own (I.flatMap iCu), .own (J.flatMap iCu)]⟩) mA ((Wk.gc [4, 6, 7, 8, 9, 10] [(2, false), (0, false), (1, false)] rfl (pKo iCu (aC _) (List.replicate (IE ((R.length : Int) - (g.length : Int))).toNat ((0 : Int) : Int)) (pKo iCu (aC _) R (pKo iCu (aC _) g trivial)))).to) ?_ ?_
 ·clear hr
  rintro m ⟨i, q, d⟩ hr
  refine CQ.sh ?_
  refine .seq (.seq (.r4 G [4, 6, 7, 8, 9, 10] [(65, aB (decide (d >= 0)))] ?_))
  refine .cd hr ?_ ?_ <;> intro FV hr
  ·refine .skip (.seq (.block (.seq ?_)))
   obtain ⟨S, wj, hr⟩ := bd hr
   obtain ⟨nI, hr⟩ := gd hr
   refine .t1 G (jI (args := [.hs 1 0 q.length 1, aj (IE (d + (g.length : Int)))]) (l := [1]) rfl (SnL.cons (Sn.hs rfl (.inl rfl) (SnC.pure (bm (aC _) _)) (fun h => cB h)) (Sp SnL.nil)) (ln n q (IE (d + (g.length : Int))) S wj)) (.mu 4 (.ca cf0 (.mu 7 (.pk (v := .hp 1 (0 + (IE ((IE (d + (g.length : Int))) - 1)).toNat * 1)) (tr (aw nI)) (.pk (v := bl (gt q (IE ((IE (d + (g.length : Int))) - 1)))) (tr (aR (aS (aK .u32) (aI nI) z1 (by omega : 0 + (IE ((IE (d + (g.length : Int))) - 1)).toNat * 1 = (IE ((IE (d + (g.length : Int))) - 1)).toNat * 1 + 0) kRf))) (.mu 3 ?_))))))
   refine .done (kRa ?_)
   refine .nh [4, 6, 7, 8, 9, 10, 11] [.own (i.flatMap iCu), .own (q.flatMap iCu), .own (g.flatMap iCu)] (.seq ?_)
   obtain ⟨C, pn, hr⟩ := gd2 hr
   refine .dM G bz (.mu 4 (.pk (v := .hp 2 (0 + (IE ((g.length : Int) - 1)).toNat * 1)) (tr (aw C)) (.pk (v := bl (gt g (IE ((g.length : Int) - 1)))) (tr (aR (aS (aK .u32) (aI C) z1 (by omega : 0 + (IE ((g.length : Int) - 1)).toNat * 1 = (IE ((g.length : Int) - 1)).toNat * 1 + 0) kRf))) (.mu 1 (.pk (v := cV (wFu ((wFu ((wFu ((wFu S) * 1000000000)) + (wFu (gt q (IE ((IE (d + (g.length : Int))) - 1)))))).tdiv (wFu (gt g (IE ((g.length : Int) - 1))))))) (rN (x := wFu ((wFu ((wFu S) * 1000000000)) + (wFu (gt q (IE ((IE (d + (g.length : Int))) - 1)))))) (y := wFu (gt g (IE ((g.length : Int) - 1)))) kRf kRf pn) (.mu 4 (.pk (v := .hp 2 (0 + (IE ((g.length : Int) - 1)).toNat * 1)) (tr (aw C)) (.pk (v := bl (gt g (IE ((g.length : Int) - 1)))) (tr (aR (aS (aK .u32) (aI C) z1 (by omega : 0 + (IE ((g.length : Int) - 1)).toNat * 1 = (IE ((g.length : Int) - 1)).toNat * 1 + 0) kRf))) (.mu 1 (.pk (v := cV ((wFu ((wFu ((wFu S) * 1000000000)) + (wFu (gt q (IE ((IE (d + (g.length : Int))) - 1)))))).tmod (wFu (gt g (IE ((g.length : Int) - 1)))))) (qw (x := wFu ((wFu ((wFu S) * 1000000000)) + (wFu (gt q (IE ((IE (d + (g.length : Int))) - 1)))))) (y := wFu (gt g (IE ((g.length : Int) - 1)))) kRf kRf pn) (.mu 2 ?_)))))))))))
   refine .done (kRa ?_)
   refine .nh [4, 6, 7, 8, 9, 10, 12, 13] [.own (i.flatMap iCu), .own (q.flatMap iCu), .own (g.flatMap iCu)] (.seq (.block ?_))
   replace hr := bd hr; obtain ⟨j, qz, hr⟩ := hr
   refine .aP (σ := fun z0 => match z0 with | (L, M) => ⟨mkS 266 0 [(4, .hs 0 0 i.length 1), (6, bl (aa .u32 (wFu ((1000000000 : Int).tdiv (wFu ((wFu (gt b (IE ((b.length : Int) - 1)))) + 1)))))), (7, .hs 1 0 q.length 1), (8, .hs 2 0 g.length 1), (9, aj (g.length : Int)), (10, aj d), (12, cV L), (13, cV M)], [.own (i.flatMap iCu), .own (q.flatMap iCu), .own (g.flatMap iCu)]⟩) (Q := fun x st' => x = .exit 2 /\ Wk 0 st' ⟨mkS 266 0 [(4, .hs 0 0 i.length 1), (6, bl (aa .u32 (wFu ((1000000000 : Int).tdiv (wFu ((wFu (gt b (IE ((b.length : Int) - 1)))) + 1)))))), (7, .hs 1 0 q.length 1), (8, .hs 2 0 g.length 1), (9, aj (g.length : Int)), (10, aj d), (12, cV j)], [.own (i.flatMap iCu), .own (q.flatMap iCu), .own (g.flatMap iCu)]⟩) qz ((Wk.gc [4, 6, 7, 8, 9, 10, 12, 13] kF3 rfl (pKo iCu (aC _) i (pKo iCu (aC _) q (pKo iCu (aC _) g trivial)))).to) ?_ ?_
   ·clear hr
    rintro m ⟨L, M⟩ hr
    refine CQ.sh ?_
    refine .seq (.seq ?_)
    rcases bT (decide (L >= 1000000000)) with N | N
    ·replace hr := cI N hr
     refine .dM G bz (.mu 1 (.pk (v := aB true) (eB N) (.mu 22 ?_)))
     refine .done (kRa ?_)
     refine .nh [4, 6, 7, 8, 9, 10, 12, 13, 123] [.own (i.flatMap iCu), .own (q.flatMap iCu), .own (g.flatMap iCu)] (.cT kRf (.skip (.block (.seq (.r4 G [4, 6, 7, 8, 9, 10, 13] [(12, cV (wFu (L - 1)))] (.seq (.r0 G (.mu 4 (.p0 (v := .hp 2 (0 + (IE ((g.length : Int) - 1)).toNat * 1)) (tr (aw C)) (.p0 (v := bl (gt g (IE ((g.length : Int) - 1)))) (tr (aR (aS (aK .u32) (aI C) z1 (by omega : 0 + (IE ((g.length : Int) - 1)).toNat * 1 = (IE ((g.length : Int) - 1)).toNat * 1 + 0) kRf))) (.mu 3 (.done (.nh [4, 6, 7, 8, 9, 10, 12, 13] [.own (i.flatMap iCu), .own (q.flatMap iCu), .own (g.flatMap iCu)] (.seq (.r4 G [4, 6, 7, 8, 9, 10, 12, 13] [(135, aB (decide ((wFu (M + (wFu (gt g (IE ((g.length : Int) - 1)))))) >= 1000000000)))] ?_)))))))))))))))
     refine .cd hr ?_ ?_ <;> intro FJ hr
     ·refine .leave rfl ?_
      obtain rfl := oi hr
      exact ⟨rfl, ((Wk.gc [4, 6, 7, 8, 9, 10, 12] kF3 rfl (pKo iCu (aC _) i (pKo iCu (aC _) q (pKo iCu (aC _) g trivial)))).to)⟩
     refine .skip (.pop ?_)
     exact aE (wFu (L - 1), wFu (M + (wFu (gt g (IE ((g.length : Int) - 1)))))) hr ((Wk.gc [4, 6, 7, 8, 9, 10, 12, 13] kF3 rfl (pKo iCu (aC _) i (pKo iCu (aC _) q (pKo iCu (aC _) g trivial)))).to)
    replace hr := cJ N hr
    obtain ⟨p7, sa, hr⟩ := gd2 hr
    refine .dM G bz (.mu 1 (.pk (v := aB false) (eB N) (.mu 5 (.pk (v := .hp 2 (0 + (IE ((g.length : Int) - 2)).toNat * 1)) (tr (aw p7)) (.pk (v := bl (gt g (IE ((g.length : Int) - 2)))) (tr (aR (aS (aK .u32) (aI p7) z1 (by omega : 0 + (IE ((g.length : Int) - 2)).toNat * 1 = (IE ((g.length : Int) - 2)).toNat * 1 + 0) kRf))) (.mu 9 (.pk (v := .hp 1 (0 + (IE ((IE (d + (g.length : Int))) - 2)).toNat * 1)) (tr (aw sa)) (.pk (v := bl (gt q (IE ((IE (d + (g.length : Int))) - 2)))) (tr (aR (aS (aK .u32) (aI sa) z1 (by omega : 0 + (IE ((IE (d + (g.length : Int))) - 2)).toNat * 1 = (IE ((IE (d + (g.length : Int))) - 2)).toNat * 1 + 0) kRf))) (.mu 4 ?_)))))))))
    refine .done (kRa ?_)
    refine .nh [4, 6, 7, 8, 9, 10, 12, 13, 123] [.own (i.flatMap iCu), .own (q.flatMap iCu), .own (g.flatMap iCu)] ?_
    refine .cd hr ?_ ?_ <;> intro FU hr
    ·refine .skip (.block (.seq (.r4 G [4, 6, 7, 8, 9, 10, 13] [(12, cV (wFu (L - 1)))] (.seq (.r0 G (.mu 4 (.p0 (v := .hp 2 (0 + (IE ((g.length : Int) - 1)).toNat * 1)) (tr (aw C)) (.p0 (v := bl (gt g (IE ((g.length : Int) - 1)))) (tr (aR (aS (aK .u32) (aI C) z1 (by omega : 0 + (IE ((g.length : Int) - 1)).toNat * 1 = (IE ((g.length : Int) - 1)).toNat * 1 + 0) kRf))) (.mu 3 (.done (.nh [4, 6, 7, 8, 9, 10, 12, 13] [.own (i.flatMap iCu), .own (q.flatMap iCu), .own (g.flatMap iCu)] (.seq (.r4 G [4, 6, 7, 8, 9, 10, 12, 13] [(135, aB (decide ((wFu (M + (wFu (gt g (IE ((g.length : Int) - 1)))))) >= 1000000000)))] ?_)))))))))))))
     refine .cd hr ?_ ?_ <;> intro FG hr
     ·refine .leave rfl ?_
      obtain rfl := oi hr
      exact ⟨rfl, ((Wk.gc [4, 6, 7, 8, 9, 10, 12] kF3 rfl (pKo iCu (aC _) i (pKo iCu (aC _) q (pKo iCu (aC _) g trivial)))).to)⟩
     refine .skip (.pop ?_)
     exact aE (wFu (L - 1), wFu (M + (wFu (gt g (IE ((g.length : Int) - 1)))))) hr ((Wk.gc [4, 6, 7, 8, 9, 10, 12, 13] kF3 rfl (pKo iCu (aC _) i (pKo iCu (aC _) q (pKo iCu (aC _) g trivial)))).to)
    refine .leave rfl ?_
    obtain rfl := oi hr
    exact ⟨rfl, ((Wk.gc [4, 6, 7, 8, 9, 10, 12] kF3 rfl (pKo iCu (aC _) i (pKo iCu (aC _) q (pKo iCu (aC _) g trivial)))).to)⟩
   rintro x st' T
   clear qz
   obtain ⟨rfl, T⟩ := T
   refine bb _ rfl (.wk T (.seq (.r4 G [4, 6, 7, 8, 9, 10, 12] [(14, aj 0), (15, cV 0)] (.seq (.seq (.r4 G [4, 6, 7, 8, 9, 10, 12, 14, 15] [(136, aj (g.length : Int)), (137, aj 0)] (.block ?_)))))))
   replace hr := bd hr; obtain ⟨rr, rf, hr⟩ := hr
   refine .aP (σ := fun z0 => match z0 with | (k, u, s, e) => ⟨mkS 266 0 [(4, .hs 0 0 i.length 1), (6, bl (aa .u32 (wFu ((1000000000 : Int).tdiv (wFu ((wFu (gt b (IE ((b.length : Int) - 1)))) + 1)))))), (7, .hs 1 0 k.length 1), (8, .hs 2 0 g.length 1), (9, aj (g.length : Int)), (10, aj d), (12, cV j), (14, aj u), (15, cV s), (136, aj (g.length : Int)), (137, aj e)], [.own (i.flatMap iCu), .own (k.flatMap iCu), .own (g.flatMap iCu)]⟩) (Q := fun x st' => match (generalizing := false) rr with | (o, w, A) => x = .exit 4 /\ Wk 0 st' ⟨mkS 266 0 [(4, .hs 0 0 i.length 1), (6, bl (aa .u32 (wFu ((1000000000 : Int).tdiv (wFu ((wFu (gt b (IE ((b.length : Int) - 1)))) + 1)))))), (7, .hs 1 0 o.length 1), (8, .hs 2 0 g.length 1), (9, aj (g.length : Int)), (10, aj d), (12, cV j), (14, aj w), (15, cV A)], [.own (i.flatMap iCu), .own (o.flatMap iCu), .own (g.flatMap iCu)]⟩) rf ((Wk.gc [4, 6, 7, 8, 9, 10, 12, 14, 15, 136, 137] kF3 rfl (pKo iCu (aC _) i (pKo iCu (aC _) q (pKo iCu (aC _) g trivial)))).to) ?_ ?_
   ·clear hr
    rintro m ⟨k, u, s, e⟩ hr
    refine CQ.sh ?_
    refine .seq (.r4 G [4, 6, 7, 8, 9, 10, 12, 14, 15, 136, 137] [(138, aB (decide (e < (g.length : Int))))] (.seq ?_))
    refine .cd hr ?_ ?_ <;> intro FL hr
    ·refine .skip (.seq (.block (.seq (.r4 G [4, 6, 7, 8, 9, 10, 12, 14, 15, 136, 137] [(16, aj e)] (.seq ?_)))))
     obtain ⟨tV, hr⟩ := gd hr
     refine .r0 G (.mu 3 (.p0 (v := .hp 2 (0 + e.toNat * 1)) (tr (aw tV)) (.p0 (v := bl (gt g e)) (tr (aR (aS (aK .u32) (aI tV) z1 (by omega : 0 + e.toNat * 1 = e.toNat * 1 + 0) kRf))) (.mu 5 (.done (.nh [4, 6, 7, 8, 9, 10, 12, 14, 16, 17, 136, 137] [.own (i.flatMap iCu), .own (k.flatMap iCu), .own (g.flatMap iCu)] (.seq (.r4 G [4, 6, 7, 8, 9, 10, 12, 14, 16, 17, 136, 137] [(15, cV (wFu ((wFu ((wFu (j * (wFu (gt g e)))) + s)).tdiv 1000000000)))] (.seq ?_)))))))))
     obtain ⟨D, hr⟩ := gd hr
     refine .r0 G (.mu 4 (.p0 (v := .hp 1 (0 + (IE (e + d)).toNat * 1)) (tr (aw D)) (.p0 (v := bl (gt k (IE (e + d)))) (tr (aR (aS (aK .u32) (aI D) z1 (by omega : 0 + (IE (e + d)).toNat * 1 = (IE (e + d)).toNat * 1 + 0) kRf))) (.mu 8 (.done (.nh [4, 6, 7, 8, 9, 10, 12, 15, 16, 18, 136, 137] [.own (i.flatMap iCu), .own (k.flatMap iCu), .own (g.flatMap iCu)] (.seq (.r4 G [4, 6, 7, 8, 9, 10, 12, 15, 16, 18, 136, 137] [(14, aj 0)] (.seq (.seq (.r4 G [4, 6, 7, 8, 9, 10, 12, 14, 15, 16, 18, 136, 137] [(165, aB (decide ((IE ((IE ((IE (gt k (IE (e + d)))) - u)) - (IE ((wFu ((wFu (j * (wFu (gt g e)))) + s)).tmod 1000000000)))) < 0)))] ?_)))))))))))
     refine .cd hr ?_ ?_ <;> intro Fy hr
     ·refine .r4 G [4, 6, 7, 8, 9, 10, 12, 15, 16, 136, 137] [(14, aj 1), (18, aj (IE ((IE ((IE ((IE (gt k (IE (e + d)))) - u)) - (IE ((wFu ((wFu (j * (wFu (gt g e)))) + s)).tmod 1000000000)))) + 1000000000)))] (.r0 G (.mu 6 (.p0 (v := .hp 1 (0 + (IE (e + d)).toNat * 1)) (tr (aw D)) (.e0 (v := .unk) (ws := [(1, .own ((k.set (IE (e + d)).toNat (aa .u32 (IE ((IE ((IE ((IE (gt k (IE (e + d)))) - u)) - (IE ((wFu ((wFu (j * (wFu (gt g e)))) + s)).tmod 1000000000)))) + 1000000000)))).flatMap iCu))]) (tr (ju (jo (cU (n := 1) (aK .u32) (aI D) (lbT rfl) (by omega : 0 + (IE (e + d)).toNat * 1 = (IE (e + d)).toNat * 1 + 0))) (congrArg Blk.own (dH (xs := [bl (aa .u32 (IE ((IE ((IE ((IE (gt k (IE (e + d)))) - u)) - (IE ((wFu ((wFu (j * (wFu (gt g e)))) + s)).tmod 1000000000)))) + 1000000000)))]) (aK .u32) (aI D) (lbT rfl) (by omega : 0 + (IE (e + d)).toNat * 1 = (IE (e + d)).toNat * 1 + 0) kRf)))) (.done (.pop (.ru G ?_)))))))
      exact aE (k.set (IE (e + d)).toNat (aa .u32 (IE ((IE ((IE ((IE (gt k (IE (e + d)))) - u)) - (IE ((wFu ((wFu (j * (wFu (gt g e)))) + s)).tmod 1000000000)))) + 1000000000))), 1, wFu ((wFu ((wFu (j * (wFu (gt g e)))) + s)).tdiv 1000000000), IE (e + 1)) hr ((Wk.iO 7 (b := 1) (es := 1) (len := k.length) (k.set (IE (e + d)).toNat (aa .u32 (IE ((IE ((IE ((IE (gt k (IE (e + d)))) - u)) - (IE ((wFu ((wFu (j * (wFu (gt g e)))) + s)).tmod 1000000000)))) + 1000000000)))).length kRf (Eq.symm (List.length_set.trans rfl))).trans ((Wk.gc [4, 6, 7, 8, 9, 10, 12, 14, 15, 136, 137] kF3 rfl (pKo iCu (aC _) i (pKo iCu (aC _) (k.set (IE (e + d)).toNat (aa .u32 (IE ((IE ((IE ((IE (gt k (IE (e + d)))) - u)) - (IE ((wFu ((wFu (j * (wFu (gt g e)))) + s)).tmod 1000000000)))) + 1000000000)))) (pKo iCu (aC _) g trivial)))).to))
     refine .skip (.r0 G (.mu 6 (.p0 (v := .hp 1 (0 + (IE (e + d)).toNat * 1)) (tr (aw D)) (.e0 (v := .unk) (ws := [(1, .own ((k.set (IE (e + d)).toNat (aa .u32 (IE ((IE ((IE (gt k (IE (e + d)))) - u)) - (IE ((wFu ((wFu (j * (wFu (gt g e)))) + s)).tmod 1000000000)))))).flatMap iCu))]) (tr (ju (jo (cU (n := 1) (aK .u32) (aI D) (lbT rfl) (by omega : 0 + (IE (e + d)).toNat * 1 = (IE (e + d)).toNat * 1 + 0))) (congrArg Blk.own (dH (xs := [bl (aa .u32 (IE ((IE ((IE (gt k (IE (e + d)))) - u)) - (IE ((wFu ((wFu (j * (wFu (gt g e)))) + s)).tmod 1000000000)))))]) (aK .u32) (aI D) (lbT rfl) (by omega : 0 + (IE (e + d)).toNat * 1 = (IE (e + d)).toNat * 1 + 0) kRf)))) (.done (.pop (.ru G ?_)))))))
     exact aE (k.set (IE (e + d)).toNat (aa .u32 (IE ((IE ((IE (gt k (IE (e + d)))) - u)) - (IE ((wFu ((wFu (j * (wFu (gt g e)))) + s)).tmod 1000000000))))), 0, wFu ((wFu ((wFu (j * (wFu (gt g e)))) + s)).tdiv 1000000000), IE (e + 1)) hr ((Wk.iO 7 (b := 1) (es := 1) (len := k.length) (k.set (IE (e + d)).toNat (aa .u32 (IE ((IE ((IE (gt k (IE (e + d)))) - u)) - (IE ((wFu ((wFu (j * (wFu (gt g e)))) + s)).tmod 1000000000)))))).length kRf (Eq.symm (List.length_set.trans rfl))).trans ((Wk.gc [4, 6, 7, 8, 9, 10, 12, 14, 15, 136, 137] kF3 rfl (pKo iCu (aC _) i (pKo iCu (aC _) (k.set (IE (e + d)).toNat (aa .u32 (IE ((IE ((IE (gt k (IE (e + d)))) - u)) - (IE ((wFu ((wFu (j * (wFu (gt g e)))) + s)).tmod 1000000000)))))) (pKo iCu (aC _) g trivial)))).to))
    refine .leave rfl ?_
    obtain rfl := oi hr
    exact ⟨rfl, ((Wk.gc [4, 6, 7, 8, 9, 10, 12, 14, 15] kF3 rfl (pKo iCu (aC _) i (pKo iCu (aC _) k (pKo iCu (aC _) g trivial)))).to)⟩
   rcases rr with ⟨o, w, A⟩
   rintro x st' U
   clear rf
   obtain ⟨rfl, U⟩ := U
   refine bb _ rfl (.wk U (.seq ?_))
   obtain ⟨E, hr⟩ := gd hr
   refine .r0 G (.mu 4 (.p0 (v := .hp 1 (0 + (IE (d + (g.length : Int))).toNat * 1)) (tr (aw E)) (.p0 (v := bl (gt o (IE (d + (g.length : Int))))) (tr (aR (aS (aK .u32) (aI E) z1 (by omega : 0 + (IE (d + (g.length : Int))).toNat * 1 = (IE (d + (g.length : Int))).toNat * 1 + 0) kRf))) (.mu 7 (.done (.nh [4, 6, 7, 8, 9, 10, 12, 19] [.own (i.flatMap iCu), .own (o.flatMap iCu), .own (g.flatMap iCu)] (.seq (.seq (.r4 G [4, 6, 7, 8, 9, 10, 12, 19] [(189, aB (decide ((IE ((IE ((IE (gt o (IE (d + (g.length : Int))))) - w)) - (IE A))) < 0)))] ?_)))))))))
   refine .cd hr ?_ ?_ <;> intro FY hr
   ·refine .seq (.r0 G (.mu 7 (.p0 (v := .hp 1 (0 + (IE (d + (g.length : Int))).toNat * 1)) (tr (aw E)) (.e0 (v := .unk) (ws := [(1, .own ((o.set (IE (d + (g.length : Int))).toNat (aa .u32 (IE ((IE ((IE ((IE (gt o (IE (d + (g.length : Int))))) - w)) - (IE A))) + 1000000000)))).flatMap iCu))]) (tr (ju (jo (cU (n := 1) (aK .u32) (aI E) (lbT rfl) (by omega : 0 + (IE (d + (g.length : Int))).toNat * 1 = (IE (d + (g.length : Int))).toNat * 1 + 0))) (congrArg Blk.own (dH (xs := [bl (aa .u32 (IE ((IE ((IE ((IE (gt o (IE (d + (g.length : Int))))) - w)) - (IE A))) + 1000000000)))]) (aK .u32) (aI E) (lbT rfl) (by omega : 0 + (IE (d + (g.length : Int))).toNat * 1 = (IE (d + (g.length : Int))).toNat * 1 + 0) kRf)))) (.done (.nh [4, 6, 7, 8, 9, 10, 12] [.own (i.flatMap iCu), .own ((o.set (IE (d + (g.length : Int))).toNat (aa .u32 (IE ((IE ((IE ((IE (gt o (IE (d + (g.length : Int))))) - w)) - (IE A))) + 1000000000)))).flatMap iCu), .own (g.flatMap iCu)] (.seq (.r4 G [4, 6, 7, 8, 9, 10] [(12, cV (wFu (j - 1)))] (.seq (.r4 G [4, 6, 7, 8, 9, 10, 12] [(20, bl 0)] (.seq (.seq (.r4 G [4, 6, 7, 8, 9, 10, 12, 20] [(200, aj (g.length : Int)), (201, aj 0)] (.block ?_))))))))))))))
    replace hr := bd hr; obtain ⟨s9, ot, hr⟩ := hr
    refine .aP (σ := fun z0 => match z0 with | (p, B, f) => ⟨mkS 266 0 [(4, .hs 0 0 i.length 1), (6, bl (aa .u32 (wFu ((1000000000 : Int).tdiv (wFu ((wFu (gt b (IE ((b.length : Int) - 1)))) + 1)))))), (7, .hs 1 0 p.length 1), (8, .hs 2 0 g.length 1), (9, aj (g.length : Int)), (10, aj d), (12, cV (wFu (j - 1))), (20, bl B), (200, aj (g.length : Int)), (201, aj f)], [.own (i.flatMap iCu), .own (p.flatMap iCu), .own (g.flatMap iCu)]⟩) (Q := fun x st' => match (generalizing := false) s9 with | (t, F) => x = .exit 6 /\ Wk 0 st' ⟨mkS 266 0 [(4, .hs 0 0 i.length 1), (6, bl (aa .u32 (wFu ((1000000000 : Int).tdiv (wFu ((wFu (gt b (IE ((b.length : Int) - 1)))) + 1)))))), (7, .hs 1 0 t.length 1), (8, .hs 2 0 g.length 1), (9, aj (g.length : Int)), (10, aj d), (12, cV (wFu (j - 1))), (20, bl F)], [.own (i.flatMap iCu), .own (t.flatMap iCu), .own (g.flatMap iCu)]⟩) ot ((Wk.iO 7 (b := 1) (es := 1) (len := o.length) (o.set (IE (d + (g.length : Int))).toNat (aa .u32 (IE ((IE ((IE ((IE (gt o (IE (d + (g.length : Int))))) - w)) - (IE A))) + 1000000000)))).length kRf (Eq.symm (List.length_set.trans rfl))).trans ((Wk.gc [4, 6, 7, 8, 9, 10, 12, 20, 200, 201] kF3 rfl (pKo iCu (aC _) i (pKo iCu (aC _) (o.set (IE (d + (g.length : Int))).toNat (aa .u32 (IE ((IE ((IE ((IE (gt o (IE (d + (g.length : Int))))) - w)) - (IE A))) + 1000000000)))) (pKo iCu (aC _) g trivial)))).to)) ?_ ?_
    ·clear hr
     rintro m ⟨p, B, f⟩ hr
     refine CQ.sh ?_
     refine .seq (.r4 G [4, 6, 7, 8, 9, 10, 12, 20, 200, 201] [(202, aB (decide (f < (g.length : Int))))] (.seq ?_))
     refine .cd hr ?_ ?_ <;> intro FC hr
     ·refine .skip (.seq (.block (.seq (.r4 G [4, 6, 7, 8, 9, 10, 12, 20, 200, 201] [(21, aj f)] (.seq ?_)))))
      obtain ⟨H, pQ, hr⟩ := gd2 hr
      refine .dM G bz (.mu 4 (.pk (v := .hp 1 (0 + (IE (f + d)).toNat * 1)) (tr (aw H)) (.pk (v := bl (gt p (IE (f + d)))) (tr (aR (aS (aK .u32) (aI H) z1 (by omega : 0 + (IE (f + d)).toNat * 1 = (IE (f + d)).toNat * 1 + 0) kRf))) (.mu 2 (.pk (v := .hp 2 (0 + f.toNat * 1)) (tr (aw pQ)) (.pk (v := bl (gt g f)) (tr (aR (aS (aK .u32) (aI pQ) z1 (by omega : 0 + f.toNat * 1 = f.toNat * 1 + 0) kRf))) (.mu 4 ?_)))))))
      refine .done (kRa ?_)
      refine .nh [4, 6, 7, 8, 9, 10, 12, 21, 22, 200, 201] [.own (i.flatMap iCu), .own (p.flatMap iCu), .own (g.flatMap iCu)] (.seq (.r4 G [4, 6, 7, 8, 9, 10, 12, 21, 22, 200, 201] [(20, bl 0)] (.seq (.seq (.r4 G [4, 6, 7, 8, 9, 10, 12, 20, 21, 22, 200, 201] [(218, aB (decide ((aa .u32 ((aa .u32 ((gt p (IE (f + d))) + (gt g f))) + B)) >= 1000000000)))] ?_)))))
      refine .cd hr ?_ ?_ <;> intro FO hr
      ·refine .r4 G [4, 6, 7, 8, 9, 10, 12, 21, 200, 201] [(20, bl 1), (22, bl (aa .u32 ((aa .u32 ((aa .u32 ((gt p (IE (f + d))) + (gt g f))) + B)) - 1000000000)))] (.r0 G (.mu 5 (.p0 (v := .hp 1 (0 + (IE (f + d)).toNat * 1)) (tr (aw H)) (.e0 (v := .unk) (ws := [(1, .own ((p.set (IE (f + d)).toNat (aa .u32 ((aa .u32 ((aa .u32 ((gt p (IE (f + d))) + (gt g f))) + B)) - 1000000000))).flatMap iCu))]) (tr (ju (jo (cU (n := 1) (aK .u32) (aI H) (lbT rfl) (by omega : 0 + (IE (f + d)).toNat * 1 = (IE (f + d)).toNat * 1 + 0))) (congrArg Blk.own (dH (xs := [bl (aa .u32 ((aa .u32 ((aa .u32 ((gt p (IE (f + d))) + (gt g f))) + B)) - 1000000000))]) (aK .u32) (aI H) (lbT rfl) (by omega : 0 + (IE (f + d)).toNat * 1 = (IE (f + d)).toNat * 1 + 0) kRf)))) (.done (.pop (.ru G ?_)))))))
       exact aE (p.set (IE (f + d)).toNat (aa .u32 ((aa .u32 ((aa .u32 ((gt p (IE (f + d))) + (gt g f))) + B)) - 1000000000)), 1, IE (f + 1)) hr ((Wk.iO 7 (b := 1) (es := 1) (len := p.length) (p.set (IE (f + d)).toNat (aa .u32 ((aa .u32 ((aa .u32 ((gt p (IE (f + d))) + (gt g f))) + B)) - 1000000000))).length kRf (Eq.symm (List.length_set.trans rfl))).trans ((Wk.gc [4, 6, 7, 8, 9, 10, 12, 20, 200, 201] kF3 rfl (pKo iCu (aC _) i (pKo iCu (aC _) (p.set (IE (f + d)).toNat (aa .u32 ((aa .u32 ((aa .u32 ((gt p (IE (f + d))) + (gt g f))) + B)) - 1000000000))) (pKo iCu (aC _) g trivial)))).to))
      refine .skip (.r0 G (.mu 5 (.p0 (v := .hp 1 (0 + (IE (f + d)).toNat * 1)) (tr (aw H)) (.e0 (v := .unk) (ws := [(1, .own ((p.set (IE (f + d)).toNat (aa .u32 ((aa .u32 ((gt p (IE (f + d))) + (gt g f))) + B))).flatMap iCu))]) (tr (ju (jo (cU (n := 1) (aK .u32) (aI H) (lbT rfl) (by omega : 0 + (IE (f + d)).toNat * 1 = (IE (f + d)).toNat * 1 + 0))) (congrArg Blk.own (dH (xs := [bl (aa .u32 ((aa .u32 ((gt p (IE (f + d))) + (gt g f))) + B))]) (aK .u32) (aI H) (lbT rfl) (by omega : 0 + (IE (f + d)).toNat * 1 = (IE (f + d)).toNat * 1 + 0) kRf)))) (.done (.pop (.ru G ?_)))))))
      exact aE (p.set (IE (f + d)).toNat (aa .u32 ((aa .u32 ((gt p (IE (f + d))) + (gt g f))) + B)), 0, IE (f + 1)) hr ((Wk.iO 7 (b := 1) (es := 1) (len := p.length) (p.set (IE (f + d)).toNat (aa .u32 ((aa .u32 ((gt p (IE (f + d))) + (gt g f))) + B))).length kRf (Eq.symm (List.length_set.trans rfl))).trans ((Wk.gc [4, 6, 7, 8, 9, 10, 12, 20, 200, 201] kF3 rfl (pKo iCu (aC _) i (pKo iCu (aC _) (p.set (IE (f + d)).toNat (aa .u32 ((aa .u32 ((gt p (IE (f + d))) + (gt g f))) + B))) (pKo iCu (aC _) g trivial)))).to))
     refine .leave rfl ?_
     obtain rfl := oi hr
     exact ⟨rfl, ((Wk.gc [4, 6, 7, 8, 9, 10, 12, 20] kF3 rfl (pKo iCu (aC _) i (pKo iCu (aC _) p (pKo iCu (aC _) g trivial)))).to)⟩
    rcases s9 with ⟨t, F⟩
    rintro x st' V
    clear ot
    obtain ⟨rfl, V⟩ := V
    refine bb _ rfl (.wk V ?_)
    obtain ⟨O, hr⟩ := gd hr
    refine .r0 G (.mu 8 (.p0 (v := .hp 1 (0 + (IE (d + (g.length : Int))).toNat * 1)) (tr (aw O)) (.p0 (v := bl (gt t (IE (d + (g.length : Int))))) (tr (aR (aS (aK .u32) (aI O) z1 (by omega : 0 + (IE (d + (g.length : Int))).toNat * 1 = (IE (d + (g.length : Int))).toNat * 1 + 0) kRf))) (.mu 3 (.p0 (v := .hp 1 (0 + (IE (d + (g.length : Int))).toNat * 1)) (tr (aw O)) (.e0 (v := .unk) (ws := [(1, .own ((t.set (IE (d + (g.length : Int))).toNat ((aa .u32 ((gt t (IE (d + (g.length : Int)))) + F)).tmod 1000000000)).flatMap iCu))]) (tr (ju (jo (cU (n := 1) (aK .u32) (aI O) (lbT rfl) (by omega : 0 + (IE (d + (g.length : Int))).toNat * 1 = (IE (d + (g.length : Int))).toNat * 1 + 0))) (congrArg Blk.own (dH (xs := [bl ((aa .u32 ((gt t (IE (d + (g.length : Int)))) + F)).tmod 1000000000)]) (aK .u32) (aI O) (lbT rfl) (by omega : 0 + (IE (d + (g.length : Int))).toNat * 1 = (IE (d + (g.length : Int))).toNat * 1 + 0) kRf)))) (.done (.nh [4, 6, 7, 8, 9, 10, 12] [.own (i.flatMap iCu), .own ((t.set (IE (d + (g.length : Int))).toNat ((aa .u32 ((gt t (IE (d + (g.length : Int)))) + F)).tmod 1000000000)).flatMap iCu), .own (g.flatMap iCu)] ?_))))))))
    obtain ⟨W, hr⟩ := gd hr
    refine .r0 G (.mu 4 (.p0 (v := .hp 0 (0 + d.toNat * 1)) (tr (aw W)) (.e0 (v := .unk) (ws := [(0, .own ((i.set d.toNat (aa .u32 (wFu (j - 1)))).flatMap iCu))]) (tr (ju (jo (cU (n := 1) (aK .u32) (aI W) (lbT rfl) (by omega : 0 + d.toNat * 1 = d.toNat * 1 + 0))) (congrArg Blk.own (dH (xs := [bl (aa .u32 (wFu (j - 1)))]) (aK .u32) (aI W) (lbT rfl) (by omega : 0 + d.toNat * 1 = d.toNat * 1 + 0) kRf)))) (.done (.pop (.ru G ?_))))))
    exact aE (i.set d.toNat (aa .u32 (wFu (j - 1))), t.set (IE (d + (g.length : Int))).toNat ((aa .u32 ((gt t (IE (d + (g.length : Int)))) + F)).tmod 1000000000), IE (d - 1)) hr ((Wk.iO 4 (b := 0) (es := 1) (len := i.length) (i.set d.toNat (aa .u32 (wFu (j - 1)))).length kRf (Eq.symm (List.length_set.trans rfl))).trans ((Wk.iO 7 (b := 1) (es := 1) (len := t.length) (t.set (IE (d + (g.length : Int))).toNat ((aa .u32 ((gt t (IE (d + (g.length : Int)))) + F)).tmod 1000000000)).length kRf (Eq.symm (List.length_set.trans rfl))).trans ((Wk.gc [4, 6, 7, 8, 9, 10] kF3 rfl (pKo iCu (aC _) (i.set d.toNat (aa .u32 (wFu (j - 1)))) (pKo iCu (aC _) (t.set (IE (d + (g.length : Int))).toNat ((aa .u32 ((gt t (IE (d + (g.length : Int)))) + F)).tmod 1000000000)) (pKo iCu (aC _) g trivial)))).to)))
   refine .r0 G (.mu 6 (.p0 (v := .hp 1 (0 + (IE (d + (g.length : Int))).toNat * 1)) (tr (aw E)) (.e0 (v := .unk) (ws := [(1, .own ((o.set (IE (d + (g.length : Int))).toNat (aa .u32 (IE ((IE ((IE (gt o (IE (d + (g.length : Int))))) - w)) - (IE A))))).flatMap iCu))]) (tr (ju (jo (cU (n := 1) (aK .u32) (aI E) (lbT rfl) (by omega : 0 + (IE (d + (g.length : Int))).toNat * 1 = (IE (d + (g.length : Int))).toNat * 1 + 0))) (congrArg Blk.own (dH (xs := [bl (aa .u32 (IE ((IE ((IE (gt o (IE (d + (g.length : Int))))) - w)) - (IE A))))]) (aK .u32) (aI E) (lbT rfl) (by omega : 0 + (IE (d + (g.length : Int))).toNat * 1 = (IE (d + (g.length : Int))).toNat * 1 + 0) kRf)))) (.done (.nh [4, 6, 7, 8, 9, 10, 12] [.own (i.flatMap iCu), .own ((o.set (IE (d + (g.length : Int))).toNat (aa .u32 (IE ((IE ((IE (gt o (IE (d + (g.length : Int))))) - w)) - (IE A))))).flatMap iCu), .own (g.flatMap iCu)] ?_)))))
   obtain ⟨X, hr⟩ := gd hr
   refine .r0 G (.mu 4 (.p0 (v := .hp 0 (0 + d.toNat * 1)) (tr (aw X)) (.e0 (v := .unk) (ws := [(0, .own ((i.set d.toNat (aa .u32 j)).flatMap iCu))]) (tr (ju (jo (cU (n := 1) (aK .u32) (aI X) (lbT rfl) (by omega : 0 + d.toNat * 1 = d.toNat * 1 + 0))) (congrArg Blk.own (dH (xs := [bl (aa .u32 j)]) (aK .u32) (aI X) (lbT rfl) (by omega : 0 + d.toNat * 1 = d.toNat * 1 + 0) kRf)))) (.done (.pop (.ru G ?_))))))
   exact aE (i.set d.toNat (aa .u32 j), o.set (IE (d + (g.length : Int))).toNat (aa .u32 (IE ((IE ((IE (gt o (IE (d + (g.length : Int))))) - w)) - (IE A)))), IE (d - 1)) hr ((Wk.iO 4 (b := 0) (es := 1) (len := i.length) (i.set d.toNat (aa .u32 j)).length kRf (Eq.symm (List.length_set.trans rfl))).trans ((Wk.iO 7 (b := 1) (es := 1) (len := o.length) (o.set (IE (d + (g.length : Int))).toNat (aa .u32 (IE ((IE ((IE (gt o (IE (d + (g.length : Int))))) - w)) - (IE A))))).length kRf (Eq.symm (List.length_set.trans rfl))).trans ((Wk.gc [4, 6, 7, 8, 9, 10] kF3 rfl (pKo iCu (aC _) (i.set d.toNat (aa .u32 j)) (pKo iCu (aC _) (o.set (IE (d + (g.length : Int))).toNat (aa .u32 (IE ((IE ((IE (gt o (IE (d + (g.length : Int))))) - w)) - (IE A))))) (pKo iCu (aC _) g trivial)))).to)))
  refine .leave rfl ?_
  obtain rfl := oi hr
  exact ⟨rfl, ((Wk.gc [4, 6, 7, 9] [(0, false), (1, false)] rfl (pKo iCu (aC _) i (pKo iCu (aC _) q trivial))).to)⟩
 rcases qD with ⟨I, J⟩
 rintro x st' Y
 clear mA
 obtain ⟨rfl, Y⟩ := Y
 refine bb _ rfl (.wk Y (.seq ?_))
 obtain ⟨pJ, hr⟩ := gd hr
 obtain ⟨tf, vZ, uD, xd, hr⟩ := bd2 hr
 refine .gn G (ca1 (cY (args := [.hs 1 0 (g.length : Int).toNat 1]) (l := [1]) (SnL.cons (Sn.hsk (aK _) (aC _) (tw pJ) rfl (.inl rfl)) SnL.nil) (fV n (J.take (g.length : Int).toNat) tf vZ)) (ca4 [.own (I.flatMap iCu), .fix (J.flatMap iCu)] (ok0 (kH n tf (aa .u32 (wFu ((1000000000 : Int).tdiv (wFu ((wFu (gt b (IE ((b.length : Int) - 1)))) + 1))))) uD xd)))) (.mu 2 (.p0 (v := .hs 1 0 (g.length : Int).toNat 1) (tr (y := slH (inS 0 (g.length : Int) J.length) true ((0 : Int).toNat) ((g.length : Int).toNat) (fun z1 z2 => .hs 1 (0 + z1 * 1) (z2 - z1) 1)) (FA pJ kRf)) (.ca cf0 (.mu 1 (.ca (cfF cf0) (.mu 4 (.done (.nh [4, 5] [.own (I.flatMap iCu), .fix (J.flatMap iCu)] (.seq ?_)))))))))
 obtain ⟨uG, zC, hr⟩ := bd hr
 refine .g1 G (cY (args := [.hs 0 0 I.length 1]) (l := [0]) (SnL.cons (Sn.hs rfl (.inl rfl) (SnC.pure (bm (aC _) _)) (fun h => cB h)) SnL.nil) (fV n I uG zC)) (.mu 1 (.ca cf0 (.mu 3 (.done (.ret ?_)))))
 obtain rfl := oi hr
 exact aL.ret (vs := [aO uG, aO uD.1]) kRf (Sn.tup (Sp (Sp SnL.nil)))

theorem lZ (n : Nat) (a : List Int) (b : List Int) (r : List Int × List Int) (hr : gk n a b = some r) : aN Tryz.prog 182 [aO a, aO b] (.tup [aO r.1, aO r.2]) := by
 unfold gk at hr
 refine aN.bd G Tryz.func182 [.tmp 4, .tmp 5] ?_
 unfold Tryz.f182
 simp only [gS]
 refine .seq (.r4 G [0, 1] [] (.seq (.seq ?_)))
 obtain ⟨L, E, hr⟩ := bd hr
 refine .g1 G (ok0 (jJ n a b L E)) (.mu 2 (.ca cf0 (.mu 1 (.done (.nh [0, 1, 15] [] ?_)))))
 refine .cd hr ?_ ?_ <;> intro M hr
 ·refine .seq (.r3 G 59 [(4, nS), (5, aO a)] (.ret ?_))
  obtain rfl := oi hr
  exact aL.ret (vs := [nS, aO a]) kRf (Sn.tup (SnL.cons Sn.fp (Sp SnL.nil)))
 refine .skip (.seq ?_)
 obtain ⟨d, F, hr⟩ := bd hr
 refine .g1 G (ok0 (jA n a d F)) (.mu 1 (.ca cf0 (.mu 5 (.done (.nh [0, 1, 6, 7] [] (.seq ?_))))))
 obtain ⟨k, H, hr⟩ := bd hr
 refine .g1 G (ok0 (jA n b k H)) (.mu 1 (.ca cf0 (.mu 5 (.done (.nh [0, 1, 6, 7, 8, 9] [] (.seq (.seq ?_)))))))
 rcases bT d.2 with c | c
 ·replace hr := cI c hr
  refine .r0 G (.p0 (v := aB true) (eB c) (.mu 3 (.done (.nh [0, 1, 6, 8, 30] [] ?_))))
  refine .cd hr ?_ ?_ <;> intro N hr
  ·refine .seq ?_
   obtain ⟨e, hr⟩ := gd hr
   obtain ⟨q, f, s, g, hr⟩ := bd2 hr
   refine .tn G (ca1 (ok0 (eG n (wFu (d.1.tdiv k.1)) q f)) (ca3 (ok0 (eG n (d.1.tmod k.1) s g)))) (.mu 2 (.pk (v := cV (wFu (d.1.tdiv k.1))) (rN (x := d.1) (y := k.1) kRf kRf e) (.ca cf0 (.mu 2 (.pk (v := cV (d.1.tmod k.1)) (qw (x := d.1) (y := k.1) kRf kRf e) (.ca (cfA (fun h => by rw [sv g f (tY n h)]) cf0) (.mu 2 ?_)))))))
   refine .done (kRa ?_)
   refine .ret ?_
   obtain rfl := oi hr
   exact aL.ret (vs := [aO q, aO s]) kRf (Sn.tup (Sp (Sp SnL.nil)))
  refine .skip (.seq (.seq (.r4 G [0, 1] [(41, aB (((b.length : Int) : Int) == 1))] ?_)))
  refine .cd hr ?_ ?_ <;> intro I hr
  ·refine .seq ?_
   obtain ⟨i, hr⟩ := gd hr
   obtain ⟨l, t, hr⟩ := bd hr
   refine .g1 G (ok0 (kH n a (gt b 0) l t)) (.mu 2 (.p0 (v := .pp (b.flatMap iCu) ((0 : Int).toNat * 1)) (tr (aw i)) (.p0 (v := bl (gt b 0)) (tr (aR (aS (aK .u32) (aI i) z1 (by omega : (0 : Int).toNat * 1 = (0 : Int).toNat * 1 + 0) kRf))) (.ca cf0 (.mu 5 (.done (.nh [10, 11] [] (.seq ?_))))))))
   obtain ⟨u, w, hr⟩ := bd hr
   refine .g1 G (ok0 (eG n (wFu l.2) u w)) (.mu 3 (.ca cf0 (.mu 2 (.done (.ret ?_)))))
   obtain rfl := oi hr
   exact aL.ret (vs := [aO l.1, aO u]) kRf (Sn.tup (Sp (Sp SnL.nil)))
  refine .skip (.seq ?_)
  obtain ⟨m, z, hr⟩ := bd hr
  refine .g1 G (ok0 (pM n a b m z)) (.mu 2 (.ca cf0 (.mu 4 (.done (.ret ?_)))))
  obtain rfl := oi hr
  exact aL.ret (vs := [aO m.1, aO m.2]) kRf (Sn.tup (Sp (Sp SnL.nil)))
 replace hr := cJ c hr
 refine .r0 G (.p0 (v := aB false) (eB c) (.mu 3 (.done (.nh [0, 1, 6, 8, 30] [] (.cF kRf (.skip (.seq (.seq (.r4 G [0, 1] [(41, aB (((b.length : Int) : Int) == 1))] ?_)))))))))
 refine .cd hr ?_ ?_ <;> intro J hr
 ·refine .seq ?_
  obtain ⟨j, hr⟩ := gd hr
  obtain ⟨o, A, hr⟩ := bd hr
  refine .g1 G (ok0 (kH n a (gt b 0) o A)) (.mu 2 (.p0 (v := .pp (b.flatMap iCu) ((0 : Int).toNat * 1)) (tr (aw j)) (.p0 (v := bl (gt b 0)) (tr (aR (aS (aK .u32) (aI j) z1 (by omega : (0 : Int).toNat * 1 = (0 : Int).toNat * 1 + 0) kRf))) (.ca cf0 (.mu 5 (.done (.nh [10, 11] [] (.seq ?_))))))))
  obtain ⟨B, C, hr⟩ := bd hr
  refine .g1 G (ok0 (eG n (wFu o.2) B C)) (.mu 3 (.ca cf0 (.mu 2 (.done (.ret ?_)))))
  obtain rfl := oi hr
  exact aL.ret (vs := [aO o.1, aO B]) kRf (Sn.tup (Sp (Sp SnL.nil)))
 refine .skip (.seq ?_)
 obtain ⟨p, D, hr⟩ := bd hr
 refine .g1 G (ok0 (pM n a b p D)) (.mu 2 (.ca cf0 (.mu 4 (.done (.ret ?_)))))
 obtain rfl := oi hr
 exact aL.ret (vs := [aO p.1, aO p.2]) kRf (Sn.tup (Sp (Sp SnL.nil)))

theorem mV (n : Nat) (s : ah) (y : ah) (r : ah) (hr : gV n s y = some r) : aN Tryz.prog 145 [.agg (ah.c s), .agg (ah.c y)] (.agg (ah.c r)) := by
 unfold gV at hr
 refine aN.bd G Tryz.func145 [.cell 4 40] ?_
 unfold Tryz.f145
 simp only [gS]
 refine .seq (.r2 G 54 [(2, .hp 0 0), (3, .hp 1 0), (4, .hp 2 0)] [.own (ah.c s), .own (ah.c y), .own [aB false, nS]] (.seq ?_))
 obtain ⟨W, t, X, u, hr⟩ := bd2 hr
 refine .tn G (ca1 (ok0 (bY n s W t)) (ca3 (ok0 (bY n y X u)))) (.mu 1 (.ca cf0 (.mu 1 (.ca (cfA (fun h => by rw [sv u t (gl n h)]) cf0) (.mu 2 ?_)))))
 refine .done (kRa ?_)
 refine .nh [4, 5, 6] [.own (ah.c s), .own (ah.c y), .own [aB false, nS]] (.seq (.block ?_))
 replace hr := bd hr; obtain ⟨w, g, hr⟩ := hr
 refine .aP (σ := fun R => match R with | (i, d) => ⟨mkS 54 0 [(4, .hp 0 0), (5, aO i), (6, aO d)], [.own [aB false, nS]]⟩) (Q := fun x st' => match (generalizing := false) w with | .inl j => x = .exit 0 /\ Wk 0 st' ⟨mkS 54 0 [(4, .hp 0 0), (5, aO j)], [.own [aB false, nS]]⟩ | .inr (r0) => x = .ret /\ aL Tryz.prog [.cell 4 40] (.agg (ah.c r0)) .ret st') g ((Wk.gc [4, 5, 6] [(2, true)] rfl trivial).to) ?_ ?_
 ·clear hr
  rintro m ⟨i, d⟩ hr
  refine CQ.sh ?_
  refine .seq (.seq (.r4 G [4, 5, 6] [(19, aB (decide ((d.length : Int) > 0)))] ?_))
  refine .cd hr ?_ ?_ <;> intro T hr
  ·refine .skip (.block (.seq ?_))
   obtain ⟨z, A, hr⟩ := bd hr
   refine .g1 G (ok0 (jA n i z A)) (.mu 1 (.ca cf0 (.mu 5 (.done (.nh [4, 5, 6, 7, 8] [.own [aB false, nS]] (.seq ?_))))))
   obtain ⟨S, B, hr⟩ := bd hr
   refine .g1 G (ok0 (jA n d S B)) (.mu 1 (.ca cf0 (.mu 5 (.done (.nh [4, 5, 6, 7, 8, 9, 10] [.own [aB false, nS]] (.seq (.seq ?_)))))))
   rcases bT z.2 with e | e
   ·replace hr := cI e hr
    refine .r0 G (.p0 (v := aB true) (eB e) (.mu 3 (.done (.nh [4, 5, 6, 7, 9, 33] [.own [aB false, nS]] ?_))))
    refine .cd hr ?_ ?_ <;> intro U hr
    ·refine .seq (.block ?_)
     replace hr := bd hr; obtain ⟨l, o, hr⟩ := hr
     refine .aP (σ := fun R => match R with | (f, a) => ⟨mkS 54 0 [(4, .hp 0 0), (7, cV f), (9, cV a)], [.own [aB false, nS]]⟩) (Q := fun x st' => x = .exit 2 /\ Wk 0 st' ⟨mkS 54 0 [(4, .hp 0 0), (7, cV l)], [.own [aB false, nS]]⟩) o ((Wk.gc [4, 7, 9] [(0, true)] rfl trivial).to) ?_ ?_
     ·clear hr
      rintro m ⟨f, a⟩ hr
      refine CQ.sh ?_
      refine .seq (.seq (.r4 G [4, 7, 9] [(35, aB (decide (a > 0)))] ?_))
      refine .cd hr ?_ ?_ <;> intro V hr
      ·refine .skip (.block ?_)
       obtain ⟨C, hr⟩ := gd hr
       refine .dM G bz (.mu 3 (.pk (v := cV (f.tmod a)) (qw (x := f) (y := a) kRf kRf C) (.mu 2 ?_)))
       refine .done (kRa ?_)
       refine .pop ?_
       exact aE (a, f.tmod a) hr ((Wk.gc [4, 7, 9] [(0, true)] rfl trivial).to)
      refine .leave rfl ?_
      obtain rfl := oi hr
      exact ⟨rfl, ((Wk.gc [4, 7] [(0, true)] rfl trivial).to)⟩
     rintro x st' k
     clear o
     obtain ⟨rfl, k⟩ := k
     refine bb _ rfl (.wk k (.seq ?_))
     obtain ⟨D, E, p, F, hr⟩ := bd2 hr
     refine .gn G (ca1 (ok0 (eG n l D E)) (ca3 (ok0 (bP n false D p F)))) (.mu 1 (.ca cf0 (.ca (cfF cf0) (.mu 1 (.done (.nh [4] [.own (ah.c p)] (.ret ?_)))))))
     obtain rfl := oi hr
     exact ⟨rfl, aL.ret (vs := [.agg (ah.c p)]) kRf (Sn.pure rfl)⟩
    refine .skip (.seq ?_)
    obtain ⟨H, I, hr⟩ := bd hr
    refine .g1 G (ok0 (lZ n i d H I)) (.mu 2 (.ca cf0 (.mu 5 (.done (.nh [4, 6, 12] [.own [aB false, nS]] (.ru G (.pop ?_)))))))
    exact aE (d, H.2) hr ((Wk.gc [4, 5, 6] [(0, true)] rfl trivial).to)
   replace hr := cJ e hr
   refine .r0 G (.p0 (v := aB false) (eB e) (.mu 3 (.done (.nh [4, 5, 6, 7, 9, 33] [.own [aB false, nS]] (.cF kRf (.skip (.seq ?_)))))))
   obtain ⟨J, L, hr⟩ := bd hr
   refine .g1 G (ok0 (lZ n i d J L)) (.mu 2 (.ca cf0 (.mu 5 (.done (.nh [4, 6, 12] [.own [aB false, nS]] (.ru G (.pop ?_)))))))
   exact aE (d, J.2) hr ((Wk.gc [4, 5, 6] [(0, true)] rfl trivial).to)
  refine .leave rfl ?_
  obtain rfl := oi hr
  exact ⟨rfl, ((Wk.gc [4, 5] [(0, true)] rfl trivial).to)⟩
 rcases w with j | r0
 ·rintro x st' b
  clear g
  obtain ⟨rfl, b⟩ := b
  refine bb _ rfl (.wk b (.seq ?_))
  obtain ⟨M, N, q, O, hr⟩ := bd2 hr
  refine .gn G (ca1 (ok0 (eR n j M N)) (ca3 (ok0 (bP n false M q O)))) (.mu 1 (.ca cf0 (.ca (cfF cf0) (.mu 1 (.done (.nh [4] [.own (ah.c q)] (.ret ?_)))))))
  obtain rfl := oi hr
  exact aL.r1 [.agg (ah.c q)]
 rintro x st' b
 clear g
 obtain ⟨rfl, b⟩ := b
 obtain rfl := oi hr
 exact jm _ b

theorem pL (n : Nat) (a : List Int) (b : List Int) (r : List Int) (hr : ji n a b = some r) : aN Tryz.prog 191 [aO a, aO b] (aO r) := by
 unfold ji at hr
 refine aN.bd G Tryz.func191 [.tmp 4] ?_
 unfold Tryz.f191
 simp only [gS]
 refine .seq (.r4 G [0, 1] [] (.seq ?_))
 obtain ⟨y, A, B, hr⟩ := gd3 hr
 refine .r0 G (.mu 6 (.e0 (v := .hs 0 0 (List.replicate (IE ((mx (a.length : Int) (b.length : Int)) + 1)).toNat ((0 : Int) : Int)).length 1) (ws := [(0, .own ((List.replicate (IE ((mx (a.length : Int) (b.length : Int)) + 1)).toNat ((0 : Int) : Int)).flatMap iCu))]) (tr (lO (c := iCu) (z := (0 : Int)) (n := IE ((mx (a.length : Int) (b.length : Int)) + 1)) (by_ := 4) rfl y A B)) (.mu 1 (.done (.nh [0, 1, 5] [.own ((List.replicate (IE ((mx (a.length : Int) (b.length : Int)) + 1)).toNat ((0 : Int) : Int)).flatMap iCu)] (.seq (.r4 G [0, 1, 5] [(6, bl 0)] (.seq (.seq (.r4 G [0, 1, 5, 6] [(17, aj ((List.replicate (IE ((mx (a.length : Int) (b.length : Int)) + 1)).toNat ((0 : Int) : Int)).length : Int)), (18, aj 0)] (.block ?_)))))))))))
 replace hr := bd hr; obtain ⟨j, q, hr⟩ := hr
 refine .aP (σ := fun E => match E with | (e, f, d) => ⟨mkS 41 0 [(0, aO a), (1, aO b), (5, .hs 0 0 e.length 1), (6, bl f), (17, aj ((List.replicate (IE ((mx (a.length : Int) (b.length : Int)) + 1)).toNat ((0 : Int) : Int)).length : Int)), (18, aj d)], [.own (e.flatMap iCu)]⟩) (Q := fun x st' => x = .exit 0 /\ Wk 0 st' ⟨mkS 41 0 [(5, .hs 0 0 j.length 1)], [.own (j.flatMap iCu)]⟩) q ((Wk.gc [0, 1, 5, 6, 17, 18] [(0, false)] rfl (pKo iCu (aC _) (List.replicate (IE ((mx (a.length : Int) (b.length : Int)) + 1)).toNat ((0 : Int) : Int)) trivial)).to) ?_ ?_
 ·clear hr
  rintro m ⟨e, f, d⟩ hr
  refine CQ.sh ?_
  refine .seq (.r4 G [0, 1, 5, 6, 17, 18] [(19, aB (decide (d < ((List.replicate (IE ((mx (a.length : Int) (b.length : Int)) + 1)).toNat ((0 : Int) : Int)).length : Int))))] (.seq ?_))
  refine .cd hr ?_ ?_ <;> intro C hr
  ·refine .skip (.seq (.block (.seq (.r4 G [0, 1, 5, 6, 17, 18] [(7, aj d)] (.seq ?_)))))
   obtain ⟨g, s, i, t, hr⟩ := bd2 hr
   refine .gn G (ca1 (ok0 (ln n a d g s)) (ca3 (ok0 (ln n b d i t)))) (.mu 2 (.ca cf0 (.mu 2 (.ca (cfA (fun h => by rw [sv t s (wS n h)]) cf0) (.mu 4 (.done (.nh [0, 1, 5, 7, 8, 17, 18] [.own (e.flatMap iCu)] (.seq (.r4 G [0, 1, 5, 7, 8, 17, 18] [(6, bl 0)] (.seq (.seq (.r4 G [0, 1, 5, 6, 7, 8, 17, 18] [(31, aB (decide ((aa .u32 ((aa .u32 (g + i)) + f)) >= 1000000000)))] ?_))))))))))))
   refine .cd hr ?_ ?_ <;> intro D hr
   ·refine .r4 G [0, 1, 5, 7, 17, 18] [(6, bl 1), (8, bl (aa .u32 ((aa .u32 ((aa .u32 (g + i)) + f)) - 1000000000)))] ?_
    obtain ⟨k, hr⟩ := gd hr
    refine .r0 G (.mu 3 (.p0 (v := .hp 0 (0 + d.toNat * 1)) (tr (aw k)) (.e0 (v := .unk) (ws := [(0, .own ((e.set d.toNat (aa .u32 ((aa .u32 ((aa .u32 (g + i)) + f)) - 1000000000))).flatMap iCu))]) (tr (ju (jo (cU (n := 1) (aK .u32) (aI k) (lbT rfl) (by omega : 0 + d.toNat * 1 = d.toNat * 1 + 0))) (congrArg Blk.own (dH (xs := [bl (aa .u32 ((aa .u32 ((aa .u32 (g + i)) + f)) - 1000000000))]) (aK .u32) (aI k) (lbT rfl) (by omega : 0 + d.toNat * 1 = d.toNat * 1 + 0) kRf)))) (.done (.pop (.ru G ?_))))))
    exact aE (e.set d.toNat (aa .u32 ((aa .u32 ((aa .u32 (g + i)) + f)) - 1000000000)), 1, IE (d + 1)) hr ((Wk.iO 5 (b := 0) (es := 1) (len := e.length) (e.set d.toNat (aa .u32 ((aa .u32 ((aa .u32 (g + i)) + f)) - 1000000000))).length kRf (Eq.symm (List.length_set.trans rfl))).trans ((Wk.gc [0, 1, 5, 6, 17, 18] [(0, false)] rfl (pKo iCu (aC _) (e.set d.toNat (aa .u32 ((aa .u32 ((aa .u32 (g + i)) + f)) - 1000000000))) trivial)).to))
   refine .skip ?_
   obtain ⟨o, hr⟩ := gd hr
   refine .r0 G (.mu 3 (.p0 (v := .hp 0 (0 + d.toNat * 1)) (tr (aw o)) (.e0 (v := .unk) (ws := [(0, .own ((e.set d.toNat (aa .u32 ((aa .u32 (g + i)) + f))).flatMap iCu))]) (tr (ju (jo (cU (n := 1) (aK .u32) (aI o) (lbT rfl) (by omega : 0 + d.toNat * 1 = d.toNat * 1 + 0))) (congrArg Blk.own (dH (xs := [bl (aa .u32 ((aa .u32 (g + i)) + f))]) (aK .u32) (aI o) (lbT rfl) (by omega : 0 + d.toNat * 1 = d.toNat * 1 + 0) kRf)))) (.done (.pop (.ru G ?_))))))
   exact aE (e.set d.toNat (aa .u32 ((aa .u32 (g + i)) + f)), 0, IE (d + 1)) hr ((Wk.iO 5 (b := 0) (es := 1) (len := e.length) (e.set d.toNat (aa .u32 ((aa .u32 (g + i)) + f))).length kRf (Eq.symm (List.length_set.trans rfl))).trans ((Wk.gc [0, 1, 5, 6, 17, 18] [(0, false)] rfl (pKo iCu (aC _) (e.set d.toNat (aa .u32 ((aa .u32 (g + i)) + f))) trivial)).to))
  refine .leave rfl ?_
  obtain rfl := oi hr
  exact ⟨rfl, ((Wk.gc [5] [(0, false)] rfl (pKo iCu (aC _) e trivial)).to)⟩
 rintro x st' p
 clear q
 obtain ⟨rfl, p⟩ := p
 refine bb _ rfl (.wk p (.seq ?_))
 obtain ⟨u, w, hr⟩ := bd hr
 refine .g1 G (cY (args := [.hs 0 0 j.length 1]) (l := [0]) (SnL.cons (Sn.hs rfl (.inl rfl) (SnC.pure (bm (aC _) _)) (fun h => cB h)) SnL.nil) (fV n j u w)) (.mu 1 (.ca cf0 (.mu 1 (.done (.ret ?_)))))
 obtain rfl := oi hr
 exact aL.r1 [aO u]

theorem kK (n : Nat) (a : List Int) (b : List Int) (r : List Int) (hr : gu n a b = some r) : aN Tryz.prog 192 [aO a, aO b] (aO r) := by
 unfold gu at hr
 refine aN.bd G Tryz.func192 [.tmp 4] ?_
 unfold Tryz.f192
 simp only [gS]
 refine .seq (.r4 G [0, 1] [] (.seq ?_))
 obtain ⟨w, y, A, hr⟩ := gd3 hr
 refine .r0 G (.mu 2 (.e0 (v := .hs 0 0 (List.replicate (a.length : Int).toNat ((0 : Int) : Int)).length 1) (ws := [(0, .own ((List.replicate (a.length : Int).toNat ((0 : Int) : Int)).flatMap iCu))]) (tr (lO (c := iCu) (z := (0 : Int)) (n := (a.length : Int)) (by_ := 4) rfl w y A)) (.mu 1 (.done (.nh [0, 1, 5] [.own ((List.replicate (a.length : Int).toNat ((0 : Int) : Int)).flatMap iCu)] (.seq (.r4 G [0, 1, 5] [(6, bl 0)] (.seq (.seq (.r4 G [0, 1, 5, 6] [(13, aj ((List.replicate (a.length : Int).toNat ((0 : Int) : Int)).length : Int)), (14, aj 0)] (.block ?_)))))))))))
 replace hr := bd hr; obtain ⟨j, q, hr⟩ := hr
 refine .aP (σ := fun D => match D with | (e, f, d) => ⟨mkS 50 0 [(0, aO a), (1, aO b), (5, .hs 0 0 e.length 1), (6, bl f), (13, aj ((List.replicate (a.length : Int).toNat ((0 : Int) : Int)).length : Int)), (14, aj d)], [.own (e.flatMap iCu)]⟩) (Q := fun x st' => x = .exit 0 /\ Wk 0 st' ⟨mkS 50 0 [(5, .hs 0 0 j.length 1)], [.own (j.flatMap iCu)]⟩) q ((Wk.gc [0, 1, 5, 6, 13, 14] [(0, false)] rfl (pKo iCu (aC _) (List.replicate (a.length : Int).toNat ((0 : Int) : Int)) trivial)).to) ?_ ?_
 ·clear hr
  rintro m ⟨e, f, d⟩ hr
  refine CQ.sh ?_
  refine .seq (.r4 G [0, 1, 5, 6, 13, 14] [(15, aB (decide (d < ((List.replicate (a.length : Int).toNat ((0 : Int) : Int)).length : Int))))] (.seq ?_))
  refine .cd hr ?_ ?_ <;> intro B hr
  ·refine .skip (.seq (.block (.seq (.r4 G [0, 1, 5, 6, 13, 14] [(7, aj d)] (.seq ?_)))))
   obtain ⟨g, s, hr⟩ := bd hr
   refine .g1 G (ok0 (ln n b d g s)) (.mu 2 (.ca cf0 (.mu 3 (.done (.nh [0, 1, 5, 7, 8, 13, 14] [.own (e.flatMap iCu)] (.seq (.r4 G [0, 1, 5, 7, 8, 13, 14] [(6, bl 0)] (.seq ?_))))))))
   obtain ⟨i, hr⟩ := gd hr
   refine .r0 G (.mu 2 (.p0 (v := .pp (a.flatMap iCu) (d.toNat * 1)) (tr (aw i)) (.p0 (v := bl (gt a d)) (tr (aR (aS (aK .u32) (aI i) z1 (by omega : d.toNat * 1 = d.toNat * 1 + 0) kRf))) (.mu 2 (.done (.nh [0, 1, 5, 6, 7, 8, 13, 14, 27] [.own (e.flatMap iCu)] ?_))))))
   refine .cd hr ?_ ?_ <;> intro C hr
   ·obtain ⟨k, hr⟩ := gd hr
    refine .r0 G (.mu 4 (.p0 (v := .pp (a.flatMap iCu) (d.toNat * 1)) (tr (aw i)) (.p0 (v := bl (gt a d)) (tr (aR (aS (aK .u32) (aI i) z1 (by omega : d.toNat * 1 = d.toNat * 1 + 0) kRf))) (.mu 3 (.p0 (v := .hp 0 (0 + d.toNat * 1)) (tr (aw k)) (.e0 (v := .unk) (ws := [(0, .own ((e.set d.toNat (aa .u32 ((aa .u32 ((gt a d) + 1000000000)) - (aa .u32 (g + f))))).flatMap iCu))]) (tr (ju (jo (cU (n := 1) (aK .u32) (aI k) (lbT rfl) (by omega : 0 + d.toNat * 1 = d.toNat * 1 + 0))) (congrArg Blk.own (dH (xs := [bl (aa .u32 ((aa .u32 ((gt a d) + 1000000000)) - (aa .u32 (g + f))))]) (aK .u32) (aI k) (lbT rfl) (by omega : 0 + d.toNat * 1 = d.toNat * 1 + 0) kRf)))) (.mu 1 (.done (.pop (.ru G ?_))))))))))
    exact aE (e.set d.toNat (aa .u32 ((aa .u32 ((gt a d) + 1000000000)) - (aa .u32 (g + f)))), 1, IE (d + 1)) hr ((Wk.iO 5 (b := 0) (es := 1) (len := e.length) (e.set d.toNat (aa .u32 ((aa .u32 ((gt a d) + 1000000000)) - (aa .u32 (g + f))))).length kRf (Eq.symm (List.length_set.trans rfl))).trans ((Wk.gc [0, 1, 5, 6, 13, 14] [(0, false)] rfl (pKo iCu (aC _) (e.set d.toNat (aa .u32 ((aa .u32 ((gt a d) + 1000000000)) - (aa .u32 (g + f))))) trivial)).to))
   obtain ⟨o, hr⟩ := gd hr
   refine .r0 G (.mu 4 (.p0 (v := .pp (a.flatMap iCu) (d.toNat * 1)) (tr (aw i)) (.p0 (v := bl (gt a d)) (tr (aR (aS (aK .u32) (aI i) z1 (by omega : d.toNat * 1 = d.toNat * 1 + 0) kRf))) (.mu 2 (.p0 (v := .hp 0 (0 + d.toNat * 1)) (tr (aw o)) (.e0 (v := .unk) (ws := [(0, .own ((e.set d.toNat (aa .u32 ((gt a d) - (aa .u32 (g + f))))).flatMap iCu))]) (tr (ju (jo (cU (n := 1) (aK .u32) (aI o) (lbT rfl) (by omega : 0 + d.toNat * 1 = d.toNat * 1 + 0))) (congrArg Blk.own (dH (xs := [bl (aa .u32 ((gt a d) - (aa .u32 (g + f))))]) (aK .u32) (aI o) (lbT rfl) (by omega : 0 + d.toNat * 1 = d.toNat * 1 + 0) kRf)))) (.done (.pop (.ru G ?_)))))))))
   exact aE (e.set d.toNat (aa .u32 ((gt a d) - (aa .u32 (g + f)))), 0, IE (d + 1)) hr ((Wk.iO 5 (b := 0) (es := 1) (len := e.length) (e.set d.toNat (aa .u32 ((gt a d) - (aa .u32 (g + f))))).length kRf (Eq.symm (List.length_set.trans rfl))).trans ((Wk.gc [0, 1, 5, 6, 13, 14] [(0, false)] rfl (pKo iCu (aC _) (e.set d.toNat (aa .u32 ((gt a d) - (aa .u32 (g + f))))) trivial)).to))
  refine .leave rfl ?_
  obtain rfl := oi hr
  exact ⟨rfl, ((Wk.gc [5] [(0, false)] rfl (pKo iCu (aC _) e trivial)).to)⟩
 rintro x st' p
 clear q
 obtain ⟨rfl, p⟩ := p
 refine bb _ rfl (.wk p (.seq ?_))
 obtain ⟨t, u, hr⟩ := bd hr
 refine .g1 G (cY (args := [.hs 0 0 j.length 1]) (l := [0]) (SnL.cons (Sn.hs rfl (.inl rfl) (SnC.pure (bm (aC _) _)) (fun h => cB h)) SnL.nil) (fV n j t u)) (.mu 1 (.ca cf0 (.mu 1 (.done (.ret ?_)))))
 obtain rfl := oi hr
 exact aL.r1 [aO t]

theorem iP (n : Nat) (b : ah) (y : ah) (r : ah × ah × Int) (hr : dd n b y = some r) : aN Tryz.prog 160 [.agg (ah.c b), .agg (ah.c y)] (.tup [.agg (ah.c r.1), .agg (ah.c r.2.1), aj r.2.2]) := by
 unfold dd at hr
 refine aN.bd G Tryz.func160 [.cell 4 40, .cell 5 40, .tmp 6] ?_
 unfold Tryz.f160
 simp only [gS]
 refine .seq (.r2 G 55 [(2, .hp 0 0), (3, .hp 1 0), (4, .hp 2 0), (5, .hp 3 0)] [.own (ah.c b), .own (ah.c y), .own [aB false, nS], .own [aB false, nS]] (.seq ?_))
 obtain ⟨I, w, E, x, hr⟩ := bd2 hr
 refine .tn G (ca1 (ok0 (bY n b I w)) (ca3 (ok0 (bY n y E x)))) (.mu 1 (.ca cf0 (.mu 1 (.ca (cfA (fun h => by rw [sv x w (gl n h)]) cf0) (.mu 2 ?_)))))
 refine .done (kRa ?_)
 refine .nh [2, 3, 4, 5, 7, 8] [.own (ah.c b), .own (ah.c y), .own [aB false, nS], .own [aB false, nS]] (.seq (.seq (.r4 G [2, 3, 4, 5, 7, 8] [(17, aB (((E.length : Int) : Int) == 0))] ?_)))
 refine .cd hr ?_ ?_ <;> intro J hr
 ·refine .seq (.r4 G [4, 5] [(6, aj 14)] (.ret ?_))
  obtain rfl := oi hr
  exact aL.ret (vs := [.agg [aB false, nS], .agg [aB false, nS], aj 14]) kRf (Sn.tup (SnL.cons (Sn.agg (Sp (SnL.cons Sn.fp SnL.nil))) (SnL.cons (Sn.agg (Sp (SnL.cons Sn.fp SnL.nil))) (Sp SnL.nil))))
 refine .skip (.seq ?_)
 obtain ⟨u, F, hr⟩ := bd hr
 refine .g1 G (ok0 (lZ n I E u F)) (.mu 2 (.ca cf0 (.mu 5 (.done (.nh [2, 3, 4, 5, 8, 9, 10] [.own (ah.c b), .own (ah.c y), .own [aB false, nS], .own [aB false, nS]] (.seq ?_))))))
 obtain ⟨z, H, hr⟩ := bd hr
 refine .g1 G (ok0 (eR n u.2 z H)) (.mu 1 (.ca cf0 (.mu 1 (.done (.nh [2, 3, 4, 5, 8, 9, 10] [.own (ah.c b), .own (ah.c y), .own [aB false, nS], .own [aB false, nS]] (.seq (.seq ?_)))))))
 rcases bT (decide ((z.length : Int) > 0)) with a | a
 ·replace hr := cI a hr
  refine .r0 G (.mu 2 (.p0 (v := aB true) (eB a) (.mu 7 (.done (.nh [2, 3, 4, 5, 8, 9, 10, 37] [.own (ah.c b), .own (ah.c y), .own [aB false, nS], .own [aB false, nS]] ?_)))))
  refine .cd hr ?_ ?_ <;> intro d hr
  ·obtain ⟨A, B, C, D, hr⟩ := bd2 hr
   refine .gn G (ca2 [.own (ah.c b), .own (ah.c y), .own [aB false, nS], .own [aB false, nS], .own [bl 1]] (cY (args := [aO u.1, .hs 4 0 1 1]) (l := [4]) (Sp (SnL.cons (Sn.hs rfl (.inl rfl) (SnC.cons (Sn.pure rfl) SnC.nil) (fun h => nomatch h)) SnL.nil)) (pL n u.1 [(1 : Int)] A B)) (ca4 [.own (ah.c b), .own (ah.c y), .own [aB false, nS], .own [aB false, nS], .fix [bl 1]] (ok0 (kK n E z C D)))) (.mu 2 (.ca cf0 (.mu 2 (.ca (cfF cf0) (.mu 2 (.done (.nh [2, 3, 4, 5, 9, 10] [.own (ah.c b), .own (ah.c y), .own [aB false, nS], .own [aB false, nS], .fix [bl 1]] (.seq ?_))))))))
   obtain ⟨m, e, o, f, hr⟩ := bd2 hr
   refine .tn G (ca1 (ok0 (bP n true A m e)) (ca3 (ok0 (bP n y.Negative C o f)))) (.mu 4 (.pk (v := aB true) (eB d) (.mu 1 (.ca cf0 (.mu 3 (.ca (cfA (fun h => by rw [sv f e (mb n h)]) cf0) (.mu 3 ?_)))))))
   refine .done (kRa ?_)
   refine .nh [4, 5, 6] [.own (ah.c b), .own (ah.c y), .own (ah.c m), .own (ah.c o), .fix [bl 1]] (.ret ?_)
   obtain rfl := oi hr
   exact aL.ret (vs := [.agg (ah.c m), .agg (ah.c o), aj 0]) kRf (Sn.tup (Sp (Sp (Sp SnL.nil))))
  refine .skip (.seq ?_)
  obtain ⟨p, g, q, i, hr⟩ := bd2 hr
  refine .tn G (ca1 (ok0 (bP n false u.1 p g)) (ca3 (ok0 (bP n y.Negative z q i)))) (.mu 4 (.pk (v := aB false) (eB d) (.mu 1 (.ca cf0 (.mu 3 (.ca (cfA (fun h => by rw [sv i g (mb n h)]) cf0) (.mu 3 ?_)))))))
  refine .done (kRa ?_)
  refine .nh [4, 5, 6] [.own (ah.c b), .own (ah.c y), .own (ah.c p), .own (ah.c q)] (.ret ?_)
  obtain rfl := oi hr
  exact aL.ret (vs := [.agg (ah.c p), .agg (ah.c q), aj 0]) kRf (Sn.tup (Sp (Sp (Sp SnL.nil))))
 replace hr := cJ a hr
 refine .r0 G (.mu 2 (.p0 (v := aB false) (eB a) (.mu 7 (.done (.nh [2, 3, 4, 5, 8, 9, 10, 37] [.own (ah.c b), .own (ah.c y), .own [aB false, nS], .own [aB false, nS]] (.cF kRf (.skip (.seq ?_))))))))
 obtain ⟨s, j, t, k, hr⟩ := bd2 hr
 refine .tn G (ca1 (ok0 (bP n (b.Negative != y.Negative) u.1 s j)) (ca3 (ok0 (bP n y.Negative z t k)))) (.mu 6 (.ca cf0 (.mu 3 (.ca (cfA (fun h => by rw [sv k j (mb n h)]) cf0) (.mu 3 ?_)))))
 refine .done (kRa ?_)
 refine .nh [4, 5, 6] [.own (ah.c b), .own (ah.c y), .own (ah.c s), .own (ah.c t)] (.ret ?_)
 obtain rfl := oi hr
 exact aL.ret (vs := [.agg (ah.c s), .agg (ah.c t), aj 0]) kRf (Sn.tup (Sp (Sp (Sp SnL.nil))))

theorem gE (n : Nat) (num : ah) (den : ah) (r : ai) (hr : dS n num den = some r) : aN Tryz.prog 122 [.agg (ah.c num), .agg (ah.c den)] (.agg (ai.c r)) := by
 unfold dS at hr
 refine aN.bd G Tryz.func122 [.cell 4 42] ?_
 unfold Tryz.f122
 simp only [gS]
 refine .seq (.r2 G 33 [(2, .hp 0 0), (3, .hp 1 0), (4, .hp 2 0)] [.own (ah.c num), .own (ah.c den), .own zN2] (.seq (.seq ?_)))
 obtain ⟨v, t, hr⟩ := bd hr
 refine .g1 G (ok0 (fl n den v t)) (.mu 1 (.ca cf0 (.mu 1 (.done (.nh [2, 3, 4, 8] [.own (ah.c num), .own (ah.c den), .own zN2] ?_)))))
 refine .cd hr ?_ ?_ <;> intro w hr
 ·obtain ⟨j, k, i, l, hr⟩ := bd2 hr
  refine .tn G (ca1 (ok0 (fF n num j k)) (ca3 (ok0 (fF n den i l)))) (.mu 1 (.ca cf0 (.mu 1 (.ca (cfA (fun h => by rw [sv l k (fM n h)]) cf0) (.mu 2 ?_)))))
  refine .done (kRa ?_)
  refine .nh [2, 3, 4] [.own (ah.c j), .own (ah.c i), .own zN2] (.seq ?_)
  obtain ⟨g, u, hr⟩ := bd hr
  refine .g1 G (ok0 (mV n j i g u)) (.mu 2 (.ca cf0 (.mu 2 (.done (.nh [2, 3, 4, 5] [.own (ah.c j), .own (ah.c i), .own zN2, .own (ah.c g)] (.seq ?_))))))
  obtain ⟨a, m, hr⟩ := bd hr
  refine .g1 G (ok0 (iP n j g a m)) (.mu 2 (.ca cf0 (.mu 5 (.done (.nh [2, 3, 4, 5] [.own (ah.c a.1), .own (ah.c i), .own zN2, .own (ah.c g)] (.seq ?_))))))
  obtain ⟨d, o, hr⟩ := bd hr
  refine .g1 G (ok0 (iP n i g d o)) (.mu 2 (.ca cf0 (.mu 5 (.done (.nh [2, 3, 4] [.own (ah.c a.1), .own (ah.c d.1), .own zN2, .own (ah.c g)] (.seq (.r5 G [4] [] [.own (ah.c a.1), .own (ah.c d.1), .own [aB a.1.Negative, aO a.1.Groups, aB d.1.Negative, aO d.1.Groups], .own (ah.c g)] (.ret ?_))))))))
  obtain rfl := oi hr
  exact aL.r1 [.agg [aB a.1.Negative, aO a.1.Groups, aB d.1.Negative, aO d.1.Groups]]
 refine .skip (.seq ?_)
 obtain ⟨e, p, hr⟩ := bd hr
 refine .g1 G (ok0 (mV n num den e p)) (.mu 2 (.ca cf0 (.mu 2 (.done (.nh [2, 3, 4, 5] [.own (ah.c num), .own (ah.c den), .own zN2, .own (ah.c e)] (.seq ?_))))))
 obtain ⟨b, q, hr⟩ := bd hr
 refine .g1 G (ok0 (iP n num e b q)) (.mu 2 (.ca cf0 (.mu 5 (.done (.nh [2, 3, 4, 5] [.own (ah.c b.1), .own (ah.c den), .own zN2, .own (ah.c e)] (.seq ?_))))))
 obtain ⟨f, s, hr⟩ := bd hr
 refine .g1 G (ok0 (iP n den e f s)) (.mu 2 (.ca cf0 (.mu 5 (.done (.nh [2, 3, 4] [.own (ah.c b.1), .own (ah.c f.1), .own zN2, .own (ah.c e)] (.seq (.r5 G [4] [] [.own (ah.c b.1), .own (ah.c f.1), .own [aB b.1.Negative, aO b.1.Groups, aB f.1.Negative, aO f.1.Groups], .own (ah.c e)] (.ret ?_))))))))
 obtain rfl := oi hr
 exact aL.r1 [.agg [aB b.1.Negative, aO b.1.Groups, aB f.1.Negative, aO f.1.Groups]]

theorem uT (n : Nat) (num : ah) (den : ah) (r : ai × Int) (hr : jT n num den = some r) : aN Tryz.prog 157 [.agg (ah.c num), .agg (ah.c den)] (.tup [.agg (ai.c r.1), aj r.2]) := by
 unfold jT at hr
 refine aN.bd G Tryz.func157 [.cell 4 42, .tmp 5] ?_
 unfold Tryz.f157
 simp only [gS]
 refine .seq (.r2 G 17 [(2, .hp 0 0), (3, .hp 1 0), (4, .hp 2 0)] [.own (ah.c num), .own (ah.c den), .own zN2] (.seq ?_))
 obtain ⟨b, d, a, e, hr⟩ := bd2 hr
 refine .tn G (ca1 (ok0 (mg n num b d)) (ca3 (ok0 (mg n den a e)))) (.mu 1 (.ca cf0 (.mu 1 (.ca (cfA (fun h => by rw [sv e d (rl n h)]) cf0) (.mu 2 ?_)))))
 refine .done (kRa ?_)
 refine .nh [2, 3, 4] [.own (ah.c b), .own (ah.c a), .own zN2] (.seq (.seq ?_))
 obtain ⟨j, f, hr⟩ := bd hr
 refine .g1 G (ok0 (fl n a j f)) (.mu 1 (.ca cf0 (.mu 1 (.done (.nh [2, 3, 4, 12] [.own (ah.c b), .own (ah.c a), .own zN2] ?_)))))
 refine .cd hr ?_ ?_ <;> intro k hr
 ·refine .seq (.r4 G [4] [(5, aj 14)] (.ret ?_))
  obtain rfl := oi hr
  exact aL.ret (vs := [.agg zN2, aj 14]) kRf (Sn.tup (SnL.cons (Sn.agg (Sp (SnL.cons Sn.fp (Sp (SnL.cons Sn.fp SnL.nil))))) (Sp SnL.nil)))
 refine .skip (.seq ?_)
 obtain ⟨g, i, hr⟩ := bd hr
 refine .g1 G (ok0 (gE n b a g i)) (.mu 2 (.ca cf0 (.mu 2 (.done (.nh [4, 5] [.own (ah.c b), .own (ah.c a), .own (ai.c g)] (.ret ?_))))))
 obtain rfl := oi hr
 exact aL.ret (vs := [.agg (ai.c g), aj 0]) kRf (Sn.tup (Sp (Sp SnL.nil)))

theorem qg (n : Nat) (f : Int) (d : Int) (r : ai × Int) (hr : jL n f d = some r) : aN Tryz.prog 118 [aj f, aj d] (.tup [.agg (ai.c r.1), aj r.2]) := by
 unfold jL at hr
 refine aN.bd G Tryz.func118 [.cell 4 42, .tmp 5] ?_
 unfold Tryz.f118
 simp only [gS]
 refine .seq (.r5 G [0, 1] [(4, .hp 0 0)] [.own zN2] (.seq ?_))
 obtain ⟨i, a, j, b, e, g, hr⟩ := bd3 hr
 refine .gn G (ca1 (ok0 (iF n f i a)) (ca1 (ok0 (iF n d j b)) (ca3 (ok0 (uT n i j e g))))) (.mu 1 (.ca cf0 (.mu 1 (.ca (cfA (fun h => by rw [sv b a (rq n h)]) cf0) (.ca (cfF (cfF cf0)) (.mu 4 (.done (.nh [4, 5] [.own (ai.c e.1)] (.ret ?_)))))))))
 obtain rfl := oi hr
 exact aL.ret (vs := [.agg (ai.c e.1), aj e.2]) kRf (Sn.tup (Sp (Sp SnL.nil)))

theorem rh (n : Nat) (g : al) (level : Int) (e : A2 Int) (r : an) (hr : cC n g level e = some r) : aN Tryz.prog 94 [.agg (al.c g), aj level, .agg (ag.c e)] (.agg (an.c r)) := by
 unfold cC at hr
 refine aN.bd G Tryz.func94 [.cell 6 44] ?_
 unfold Tryz.f94
 simp only [gS]
 refine .seq (.r5 G [1] [(3, .hp 0 0), (5, .hp 1 0), (6, .hp 2 0)] [.own (al.c g), .own (ag.c e), .own [aj 0, aj 0, aB false, nS, aB false, nS]] (.seq ?_))
 obtain ⟨b, d, hr⟩ := gd2 hr
 refine .dM G bz (.mu 4 (.pk (v := .pp (g.Z.flatMap (iC .i64)) (e.e0.toNat * 1)) (tr (aw b)) (.pk (v := aj (gt g.Z e.e0)) (tr (aR (aS (aK .i64) (aI b) z1 (by omega : e.e0.toNat * 1 = e.e0.toNat * 1 + 0) kRf))) (.mu 4 (.pk (v := .pp (g.Z.flatMap (iC .i64)) (e.e1.toNat * 1)) (tr (aw d)) (.pk (v := aj (gt g.Z e.e1)) (tr (aR (aS (aK .i64) (aI d) z1 (by omega : e.e1.toNat * 1 = e.e1.toNat * 1 + 0) kRf))) (.mu 2 ?_)))))))
 refine .done (kRa ?_)
 refine .nh [1, 5, 6, 7, 8] [.own (al.c g), .own (ag.c e), .own [aj 0, aj 0, aB false, nS, aB false, nS]] (.seq ?_)
 obtain ⟨a, f, hr⟩ := bd hr
 refine .g1 G (ok0 (qg n (IE (level - (IE (2 * (gt g.Z e.e0))))) (IE (2 * (IE ((gt g.Z e.e1) - (gt g.Z e.e0))))) a f)) (.mu 8 (.ca cf0 (.mu 6 (.done (.nh [5, 6, 9] [.own (al.c g), .own (ag.c e), .own [aj 0, aj 0, aB false, nS, aB false, nS], .own (ai.c a.1)] (.seq (.r5 G [6] [] [.own (al.c g), .own (ag.c e), .own [aj e.e0, aj e.e1, aB a.1.Num.Negative, aO a.1.Num.Groups, aB a.1.Den.Negative, aO a.1.Den.Groups], .own (ai.c a.1)] (.ret ?_))))))))
 obtain rfl := oi hr
 exact aL.r1 [.agg [aj e.e0, aj e.e1, aB a.1.Num.Negative, aO a.1.Num.Groups, aB a.1.Den.Negative, aO a.1.Den.Groups]]

theorem lF (n : Nat) (start : A2 Int) (closed : Bool) (p : List (A2 Int × Bool)) (D : Int) (C : Int) (u : Int) (t : Int) (o : Int) (k : List Int) (g : Int) (d : List (A2 Int × A2 Int)) (a : List ak) (r : List (A2 Int × Bool) × List ak) (hr : dB n start closed p D C u t o k g d a = some r) : fT 5 Tryz.prog 93 [.agg (ag.c start), aB closed, .hp 0 0, .hp 1 0, .hp 2 0, .hp 3 0, .hp 4 0] [.own [.mp 5], .own [aj D, aj C, aj u, aj t, aj o, eC k], .own [aj g], .own [.mp 6], .own [.hs 7 0 a.length 2], .map (p.map (mpK au.K bA)), .map (d.map (mpK au.K (gA ag.c))), .own (a.flatMap ak.c)] (.tup []) [.own [.mp 5], .own [aj D, aj C, aj u, aj t, aj o, eC k], .own [aj g], .own [.mp 6], .own [.hs 7 0 r.2.length 2], .map (r.1.map (mpK au.K bA)), .map (d.map (mpK au.K (gA ag.c))), .own (r.2.flatMap ak.c)] := by
 unfold dB at hr
 refine fT.yX G Tryz.func93 (c := (Tryz.f93.body).getD .skip) rfl (us := []) (s := mkS 46 0 [(0, .agg (ag.c start)), (1, aB closed), (2, .hp 0 0), (3, .hp 1 0), (4, .hp 2 0), (5, .hp 3 0), (6, .hp 4 0)]) kRf (rs := []) rfl ?_
 unfold Tryz.f93
 simp only [gS]
 refine .seq (.r5 G [1, 2, 3, 4, 5, 6] [(7, .hp 8 0)] [.own [.mp 5], .own [aj D, aj C, aj u, aj t, aj o, eC k], .own [aj g], .own [.mp 6], .own [.hs 7 0 a.length 2], .map (p.map (mpK au.K bA)), .map (d.map (mpK au.K (gA ag.c))), .own (a.flatMap ak.c), .own (ag.c start)] (.scope (.seq (.r5 G [2, 3, 4, 5, 6, 7] [(9, .hp 9 0)] [.own [.mp 5], .own [aj D, aj C, aj u, aj t, aj o, eC k], .own [aj g], .own [.mp 6], .own [.hs 7 0 a.length 2], .map (p.map (mpK au.K bA)), .map (d.map (mpK au.K (gA ag.c))), .own (a.flatMap ak.c), .own (ag.c start), .own [aB closed, nS]] (.seq (.label (.seq (.seq (.r5 G [2, 3, 4, 5, 6, 9] [(10, .hp 10 0)] [.own [.mp 5], .own [aj D, aj C, aj u, aj t, aj o, eC k], .own [aj g], .own [.mp 6], .own [.hs 7 0 a.length 2], .map (p.map (mpK au.K bA)), .map (d.map (mpK au.K (gA ag.c))), .own (a.flatMap ak.c), .own (ag.c start), .own [aB closed, nS], .own (ag.c start)] (.block ?_))))))))))
 replace hr := bd hr; obtain ⟨J, I, hr⟩ := hr
 refine .aP (σ := fun T => match T with | (w, q, i, j) => ⟨mkS 46 0 [(2, .hp 0 0), (3, .hp 1 0), (4, .hp 2 0), (5, .hp 3 0), (6, .hp 4 0), (9, .hp 8 0), (10, .hp 10 0)], [.own [.mp 5], .own [aj D, aj C, aj u, aj t, aj o, eC k], .own [aj g], .own [.mp 6], .own [.hs 7 0 a.length 2], .map (w.map (mpK au.K bA)), .map (d.map (mpK au.K (gA ag.c))), .own (a.flatMap ak.c), .own [aB closed, .hs 9 0 q.length 6], .own (q.flatMap an.c), .own [aj i, aj j]]⟩) (Q := fun x st' => match (generalizing := false) J with | (F, B) => x = .exit 0 /\ Wk 5 st' ⟨mkS 46 0 [(6, .hp 4 0), (9, .hp 8 0)], [.own [.mp 5], .own [aj D, aj C, aj u, aj t, aj o, eC k], .own [aj g], .own [.mp 6], .own [.hs 7 0 a.length 2], .map (F.map (mpK au.K bA)), .map (d.map (mpK au.K (gA ag.c))), .own (a.flatMap ak.c), .own [aB closed, .hs 9 0 B.length 6], .own (B.flatMap an.c)]⟩) I ((Wk.uV 9 1 6 (cs := [aB closed, nS]) kRf kRf).trans ((Wk.gc [2, 3, 4, 5, 6, 9, 10] [(0, true), (1, true), (2, true), (3, true), (4, true), (5, false), (6, false), (7, false), (9, true), (11, false), (10, true)] rfl (pKt (pKt (pKt (pKt (pKt (pKM au.K bA (fun _ => rfl) p (pKM au.K (gA ag.c) (fun _ => rfl) d (pKo ak.c ak.pure a (pKt (pKc trivial))))))))))).to)) ?_ ?_
 ·clear hr
  rintro m ⟨w, q, i, j⟩ hr
  refine CQ.sh ?_
  refine .seq (.block (.seq (.r0 G (.mu 2 (.e0 (v := .unk) (ws := [(5, .map ((eJ w (A2.mk i j) true).map (mpK au.K bA)))]) (tr (y := gO Tryz.prog [.own [.mp 5], .own [aj D, aj C, aj u, aj t, aj o, eC k], .own [aj g], .own [.mp 6], .own [.hs 7 0 a.length 2], .map (w.map (mpK au.K bA)), .map (d.map (mpK au.K (gA ag.c))), .own (a.flatMap ak.c), .own [aB closed, .hs 9 0 q.length 6], .own (q.flatMap an.c), .own [aj i, aj j]] 125 (.mp 5) (.agg [aj i, aj j]) (aB true)) (Dd (kt := 101) (e := 4) (l := w) (f := bA) (v := true) (K := au.K) (x := A2.mk i j) au.key kRf kRf kRf kRf)) (.done (.nh [2, 3, 4, 5, 6, 9, 10] [.own [.mp 5], .own [aj D, aj C, aj u, aj t, aj o, eC k], .own [aj g], .own [.mp 6], .own [.hs 7 0 a.length 2], .map ((eJ w (A2.mk i j) true).map (mpK au.K bA)), .map (d.map (mpK au.K (gA ag.c))), .own (a.flatMap ak.c), .own [aB closed, .hs 9 0 q.length 6], .own (q.flatMap an.c), .own [aj i, aj j]] (.seq ?_))))))))
  obtain ⟨A, L, hr⟩ := bd hr
  obtain ⟨M, N, hr⟩ := gd2 hr
  refine .t1 G (ok0 (rh n (al.mk D C u t o k) g (A2.mk i j) A L)) (.mu 5 (.ca cf0 (.mu 1 (.ek (v := .hs 12 0 (q ++ [A]).length 6) (ws := [(9, .dead), (12, .own ((q ++ [A]).flatMap an.c))]) (tr (dN (new := (an.c A)) (l := q) (xs := [A]) an.len rfl rfl kRf M N)) (.mu 2 ?_)))))
  refine .done (kRa ?_)
  refine .nh [2, 3, 4, 5, 6, 9, 10] [.own [.mp 5], .own [aj D, aj C, aj u, aj t, aj o, eC k], .own [aj g], .own [.mp 6], .own [.hs 7 0 a.length 2], .map ((eJ w (A2.mk i j) true).map (mpK au.K bA)), .map (d.map (mpK au.K (gA ag.c))), .own (a.flatMap ak.c), .own [aB closed, .hs 12 0 (q ++ [A]).length 6], .dead, .own [aj i, aj j], .own (an.c A), .own ((q ++ [A]).flatMap an.c)] (.seq (.r0 G (.mu 2 (.p0 (v := .tup [.agg (ag.c (getM (A2.mk 0 0 : A2 Int) d (A2.mk i j))), aB (cD d (A2.mk i j))]) (tr (y := bs.ofP (eN Tryz.prog [.own [.mp 5], .own [aj D, aj C, aj u, aj t, aj o, eC k], .own [aj g], .own [.mp 6], .own [.hs 7 0 a.length 2], .map ((eJ w (A2.mk i j) true).map (mpK au.K bA)), .map (d.map (mpK au.K (gA ag.c))), .own (a.flatMap ak.c), .own [aB closed, .hs 12 0 (q ++ [A]).length 6], .dead, .own [aj i, aj j], .own (an.c A), .own ((q ++ [A]).flatMap an.c)] 124 (.mp 6) (.agg [aj i, aj j]) true)) (E8 (kt := 101) (e := 101) (l := d) (f := (gA ag.c)) (z := (A2.mk 0 0 : A2 Int)) (K := au.K) (x := A2.mk i j) au.key kRf kRf kRf kRf kRf)) (.mu 6 (.done (.nh [2, 3, 4, 5, 6, 9, 10, 11, 12] [.own [.mp 5], .own [aj D, aj C, aj u, aj t, aj o, eC k], .own [aj g], .own [.mp 6], .own [.hs 7 0 a.length 2], .map ((eJ w (A2.mk i j) true).map (mpK au.K bA)), .map (d.map (mpK au.K (gA ag.c))), .own (a.flatMap ak.c), .own [aB closed, .hs 12 0 (q ++ [A]).length 6], .dead, .own [aj i, aj j], .own (an.c A), .own ((q ++ [A]).flatMap an.c), .own (ag.c (getM (A2.mk 0 0 : A2 Int) d (A2.mk i j)))] (.seq (.seq ?_)))))))))
  rcases bT (!(cD d (A2.mk i j))) with E | E
  ·replace hr := cI E hr
   refine .r0 G (.mu 1 (.p0 (v := aB true) (eB E) (.mu 5 (.done (.nh [2, 3, 4, 5, 6, 9, 10, 11, 39] [.own [.mp 5], .own [aj D, aj C, aj u, aj t, aj o, eC k], .own [aj g], .own [.mp 6], .own [.hs 7 0 a.length 2], .map ((eJ w (A2.mk i j) true).map (mpK au.K bA)), .map (d.map (mpK au.K (gA ag.c))), .own (a.flatMap ak.c), .own [aB closed, .hs 12 0 (q ++ [A]).length 6], .dead, .own [aj i, aj j], .own (an.c A), .own ((q ++ [A]).flatMap an.c), .own (ag.c (getM (A2.mk 0 0 : A2 Int) d (A2.mk i j)))] (.cT kRf (.leave rfl ?_)))))))
   obtain rfl := oi hr
   exact ⟨rfl, ((Wk.gc [6, 9] [(0, true), (1, true), (2, true), (3, true), (4, true), (5, false), (6, false), (7, false), (8, true), (12, false)] rfl (pKt (pKt (pKt (pKt (pKt (pKM au.K bA (fun _ => rfl) (eJ w (A2.mk i j) true) (pKM au.K (gA ag.c) (fun _ => rfl) d (pKo ak.c ak.pure a (pKt (pKo an.c an.pure (q ++ [A]) trivial))))))))))).to)⟩
  replace hr := cJ E hr
  refine .r0 G (.mu 1 (.p0 (v := aB false) (eB E) (.mu 3 (.pure (v := aB (getM false (eJ w (A2.mk i j) true) (getM (A2.mk 0 0 : A2 Int) d (A2.mk i j)))) kRf (tr (y := bs.ofP (eN Tryz.prog [.own [.mp 5], .own [aj D, aj C, aj u, aj t, aj o, eC k], .own [aj g], .own [.mp 6], .own [.hs 7 0 a.length 2], .map ((eJ w (A2.mk i j) true).map (mpK au.K bA)), .map (d.map (mpK au.K (gA ag.c))), .own (a.flatMap ak.c), .own [aB closed, .hs 12 0 (q ++ [A]).length 6], .dead, .own [aj i, aj j], .own (an.c A), .own ((q ++ [A]).flatMap an.c), .own (ag.c (getM (A2.mk 0 0 : A2 Int) d (A2.mk i j)))] 125 (.mp 5) (.agg (ag.c (getM (A2.mk 0 0 : A2 Int) d (A2.mk i j)))) false)) (Bc (kt := 101) (e := 4) (l := eJ w (A2.mk i j) true) (f := bA) (z := false) (K := au.K) (x := (getM (A2.mk 0 0 : A2 Int) d (A2.mk i j))) au.key kRf kRf kRf kRf kRf)) (.mu 1 (.done (.nh [2, 3, 4, 5, 6, 9, 10, 11, 39] [.own [.mp 5], .own [aj D, aj C, aj u, aj t, aj o, eC k], .own [aj g], .own [.mp 6], .own [.hs 7 0 a.length 2], .map ((eJ w (A2.mk i j) true).map (mpK au.K bA)), .map (d.map (mpK au.K (gA ag.c))), .own (a.flatMap ak.c), .own [aB closed, .hs 12 0 (q ++ [A]).length 6], .dead, .own [aj i, aj j], .own (an.c A), .own ((q ++ [A]).flatMap an.c), .own (ag.c (getM (A2.mk 0 0 : A2 Int) d (A2.mk i j)))] ?_)))))))
  refine .cd hr ?_ ?_ <;> intro S hr
  ·refine .leave rfl ?_
   obtain rfl := oi hr
   exact ⟨rfl, ((Wk.gc [6, 9] [(0, true), (1, true), (2, true), (3, true), (4, true), (5, false), (6, false), (7, false), (8, true), (12, false)] rfl (pKt (pKt (pKt (pKt (pKt (pKM au.K bA (fun _ => rfl) (eJ w (A2.mk i j) true) (pKM au.K (gA ag.c) (fun _ => rfl) d (pKo ak.c ak.pure a (pKt (pKo an.c an.pure (q ++ [A]) trivial))))))))))).to)⟩
  refine .skip (.ru G (.pop (.seq (.r4 G [2, 3, 4, 5, 6, 9] [(41, .agg (ag.c (getM (A2.mk 0 0 : A2 Int) d (A2.mk i j))))] (.ru G ?_)))))
  exact aE (eJ w (A2.mk i j) true, q ++ [A], (getM (A2.mk 0 0 : A2 Int) d (A2.mk i j)).e0, (getM (A2.mk 0 0 : A2 Int) d (A2.mk i j)).e1) hr ((Wk.gc [2, 3, 4, 5, 6, 9, 10] [(0, true), (1, true), (2, true), (3, true), (4, true), (5, false), (6, false), (7, false), (8, true), (12, false), (14, true)] rfl (pKt (pKt (pKt (pKt (pKt (pKM au.K bA (fun _ => rfl) (eJ w (A2.mk i j) true) (pKM au.K (gA ag.c) (fun _ => rfl) d (pKo ak.c ak.pure a (pKt (pKo an.c an.pure (q ++ [A]) trivial))))))))))).to)
 rcases J with ⟨F, B⟩
 rintro x st' H
 clear I
 obtain ⟨rfl, H⟩ := H
 refine bb _ rfl (.wk H (.wk (((Wk.fix 9 (cs := (B.flatMap an.c)) kRf).trans (Wk.EM 8 1 (b := 9) (len := B.length) (es := 6) (cs := (B.flatMap an.c)) (cs' := [aB closed, .hs 9 0 B.length 6]) kRf kRf kRf (bm an.pure _) (fun h => cB h))).to (c := ⟨mkS 46 0 [(6, .hp 4 0), (9, .hp 8 0)], [.own [.mp 5], .own [aj D, aj C, aj u, aj t, aj o, eC k], .own [aj g], .own [.mp 6], .own [.hs 7 0 a.length 2], .map (F.map (mpK au.K bA)), .map (d.map (mpK au.K (gA ag.c))), .own (a.flatMap ak.c), .own [aB closed, slT an.c B], .fix (B.flatMap an.c)]⟩) kRf) ?_))
 obtain ⟨O, R, hr⟩ := gd2 hr
 refine .r0 G (.mu 3 (.e0 (v := .hs 11 0 (a ++ [ak.mk closed B]).length 2) (ws := [(7, .dead), (11, .own ((a ++ [ak.mk closed B]).flatMap ak.c))]) (tr (dN (new := [aB closed, slT an.c B]) (l := a) (xs := [ak.mk closed B]) ak.len rfl rfl kRf O R)) (.mu 1 (.done ?_))))
 obtain rfl := oi hr
 exact mL.normal [] ((Wk.gc [] [(0, true), (1, true), (2, true), (3, true), (4, true), (5, false), (6, false), (11, false)] rfl (pKt (pKt (pKt (pKt (pKt (pKM au.K bA (fun _ => rfl) F (pKM au.K (gA ag.c) (fun _ => rfl) d (pKo ak.c ak.pure (a ++ [ak.mk closed B]) trivial))))))))).to)

theorem sy {c : ak} {a : ak} (h : ([.agg [.at (.bool c.Closed), slT an.c c.Points]] : List AV) = [.agg [.at (.bool a.Closed), slT an.c a.Points]]) : c = a := by
 obtain ⟨_, _⟩ := c
 obtain ⟨_, _⟩ := a
 simp only [List.cons.injEq, AV.agg.injEq, AV.at.injEq, Value.int.injEq, Value.bool.injEq, AV.fn.injEq, AV.pp.injEq, true_and, and_true, (Bw an.len (by decide) an.inj)] at h
 simp_all
theorem tv (n : Nat) {c : ak} {a : ak} (h : ([.agg [.at (.bool c.Closed), slT an.c c.Points]] : List AV) = [.agg [.at (.bool a.Closed), slT an.c a.Points]]) : fA n c = fA n a := by
 obtain rfl := sy h
 rfl
theorem oD [Dr] (n : Nat) (c : ak) (r : A2 Int) (hr : fA n c = some r) : aN Tryz.prog 55 [.agg (ak.c c)] (.agg (ag.c r)) := by
 unfold fA at hr
 refine aN.bd G Tryz.func55 [.cell 2 101] ?_
 unfold Tryz.f55
 simp only [gS]
 refine .seq (.r2 G 14 [(1, .hp 0 0), (2, .hp 1 0)] [.own (ak.c c), .own [aj 0, aj 0]] (.seq ?_))
 obtain ⟨a, hr⟩ := gd hr
 refine .dM G bz (.mu 2 (.pk (v := .pp (c.Points.flatMap an.c) ((0 : Int).toNat * 6)) (tr (aw a)) (.mu 1 (.pk (v := aj (gt c.Points 0).A) (tr (aR (aS an.len (aI a) (by decide : 0 < 6) (by omega : (0 : Int).toNat * 6 + 0 = (0 : Int).toNat * 6 + 0) kRf))) (.mu 2 (.pk (v := .pp (c.Points.flatMap an.c) ((0 : Int).toNat * 6)) (tr (aw a)) (.mu 1 (.pk (v := aj (gt c.Points 0).B) (tr (aR (aS an.len (aI a) (by decide : 1 < 6) (by omega : (0 : Int).toNat * 6 + 1 = (0 : Int).toNat * 6 + 1) kRf))) (.mu 2 ?_)))))))))
 refine .done (kRa ?_)
 refine .nh [2] [.own (ak.c c), .own [aj (gt c.Points 0).A, aj (gt c.Points 0).B]] (.ret ?_)
 obtain rfl := oi hr
 exact aL.r1 [.agg [aj (gt c.Points 0).A, aj (gt c.Points 0).B]]

theorem rD [Dr] (n : Nat) (a : ak) (b : ak) (r : Int) (hr : iu n a b = some r) : aN Tryz.prog 95 [.agg (ak.c a), .agg (ak.c b)] (aj r) := by
 unfold iu at hr
 refine aN.bd G Tryz.func95 [.tmp 4] ?_
 unfold Tryz.f95
 simp only [gS]
 refine .seq (.r2 G 10 [(2, .hp 0 0), (3, .hp 1 0)] [.own (ak.c a), .own (ak.c b)] (.seq ?_))
 obtain ⟨g, d, i, e, j, f, hr⟩ := bd3 hr
 refine .tn G (ca1 (ok0 (oD n a g d)) (ca1 (ok0 (oD n b i e)) (ca3 (ok0 (mT n g i j f))))) (.mu 1 (.ca cf0 (.mu 1 (.ca (cfA (fun h => by rw [sv e d (tv n h)]) cf0) (.ca (cfF (cfF cf0)) (.mu 1 ?_))))))
 refine .done (kRa ?_)
 refine .ret ?_
 obtain rfl := oi hr
 exact aL.r1 [aj j]

theorem cQ (n : Nat) (a : List ak) (r : List ak) (hr : aH n a = some r) : fT 1 Tryz.prog 52 [.hs 0 0 a.length 2, .fn 95 [] []] [.own (a.flatMap ak.c)] (.tup []) [.own (r.flatMap ak.c)] := by
 unfold aH at hr
 obtain ⟨b, hr⟩ := gd hr
 exact fT.FI (c := ak.c) (caps' := []) (Go.Proofs.YtecdcgfclgmbpaaGreat.wM (enters_of Tryz.func95 kRf rfl)) Go.Proofs.YtecdcgfclgmbpaaGreat.CK ak.len ak.pure hr (dcT b) SnL.nil (fun x y r hc => @rD ⟨true⟩ n x y r hc)
end Go.L
