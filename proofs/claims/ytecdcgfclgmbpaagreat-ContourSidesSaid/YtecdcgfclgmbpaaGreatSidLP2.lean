
import Derived.Test.YtecdcgfclgmbpaaGreatSidLP1
import Derived.Test.YtecdcgfclgmbpaaGreatL0Sids
import Derived.Test.YtecdcgfclgmbpaaGreatSortCSids
import Derived.Test.YtecdcgfclgmbpaaGreatSortKSids
import Derived.Test.YtecdcgfclgmbpaaGreatChecked
import Derived.KernelRfl
set_option linter.all false
set_option maxRecDepth 100000
set_option maxHeartbeats 4000000
namespace Go.L
open Go Go.Eng Go.Proofs
theorem lk (n : Nat) (start : A2 Int) (closed : Bool) (p : List (A2 Int × Bool)) (D : Int) (C : Int) (u : Int) (t : Int) (o : Int) (k : List Int) (g : Int) (d : List (A2 Int × A2 Int)) (a : List ah) (r : List (A2 Int × Bool) × List ah) (hr : c5 n start closed p D C u t o k g d a = some r) : dz 5 Tryz.prog 93 [.agg (ai.c start), aB closed, .hp 0 0, .hp 1 0, .hp 2 0, .hp 3 0, .hp 4 0] [.own [.mp 5], .own [ag D, ag C, ag u, ag t, ag o, bu k], .own [ag g], .own [.mp 6], .own [.hs 7 0 a.length 2], .map (p.map (mpK an.K bA)), .map (d.map (mpK an.K (gA ai.c))), .own (a.flatMap ah.c)] (.tup []) [.own [.mp 5], .own [ag D, ag C, ag u, ag t, ag o, bu k], .own [ag g], .own [.mp 6], .own [.hs 7 0 r.2.length 2], .map (r.1.map (mpK an.K bA)), .map (d.map (mpK an.K (gA ai.c))), .own (r.2.flatMap ah.c)] := by
 unfold c5 at hr
 refine dz.qQ G Tryz.func93 (c := (Tryz.f93.body).getD .skip) rfl (us := []) (s := mkS 46 0 [(0, .agg (ai.c start)), (1, aB closed), (2, .hp 0 0), (3, .hp 1 0), (4, .hp 2 0), (5, .hp 3 0), (6, .hp 4 0)]) kRf (rs := []) rfl ?_
 unfold Tryz.f93
 simp only [gS]
 refine .seq (.r5 G [1, 2, 3, 4, 5, 6] [(7, .hp 8 0)] [.own [.mp 5], .own [ag D, ag C, ag u, ag t, ag o, bu k], .own [ag g], .own [.mp 6], .own [.hs 7 0 a.length 2], .map (p.map (mpK an.K bA)), .map (d.map (mpK an.K (gA ai.c))), .own (a.flatMap ah.c), .own (ai.c start)] (.scope (.seq (.r5 G [2, 3, 4, 5, 6, 7] [(9, .hp 9 0)] [.own [.mp 5], .own [ag D, ag C, ag u, ag t, ag o, bu k], .own [ag g], .own [.mp 6], .own [.hs 7 0 a.length 2], .map (p.map (mpK an.K bA)), .map (d.map (mpK an.K (gA ai.c))), .own (a.flatMap ah.c), .own (ai.c start), .own [aB closed, nS]] (.seq (.label (.seq (.seq (.r5 G [2, 3, 4, 5, 6, 9] [(10, .hp 10 0)] [.own [.mp 5], .own [ag D, ag C, ag u, ag t, ag o, bu k], .own [ag g], .own [.mp 6], .own [.hs 7 0 a.length 2], .map (p.map (mpK an.K bA)), .map (d.map (mpK an.K (gA ai.c))), .own (a.flatMap ah.c), .own (ai.c start), .own [aB closed, nS], .own (ai.c start)] (.block ?_))))))))))
 replace hr := bd hr; obtain ⟨J, I, hr⟩ := hr
 refine .aN (σ := fun T => match T with | (w, q, i, j) => ⟨mkS 46 0 [(2, .hp 0 0), (3, .hp 1 0), (4, .hp 2 0), (5, .hp 3 0), (6, .hp 4 0), (9, .hp 8 0), (10, .hp 10 0)], [.own [.mp 5], .own [ag D, ag C, ag u, ag t, ag o, bu k], .own [ag g], .own [.mp 6], .own [.hs 7 0 a.length 2], .map (w.map (mpK an.K bA)), .map (d.map (mpK an.K (gA ai.c))), .own (a.flatMap ah.c), .own [aB closed, .hs 9 0 q.length 6], .own (q.flatMap ak.c), .own [ag i, ag j]]⟩) (Q := fun x st' => match (generalizing := false) J with | (F, B) => x = .exit 0 /\ Wk 5 st' ⟨mkS 46 0 [(6, .hp 4 0), (9, .hp 8 0)], [.own [.mp 5], .own [ag D, ag C, ag u, ag t, ag o, bu k], .own [ag g], .own [.mp 6], .own [.hs 7 0 a.length 2], .map (F.map (mpK an.K bA)), .map (d.map (mpK an.K (gA ai.c))), .own (a.flatMap ah.c), .own [aB closed, .hs 9 0 B.length 6], .own (B.flatMap ak.c)]⟩) I ((Wk.Ap 9 1 6 (cs := [aB closed, nS]) kRf kRf).trans ((Wk.gc [2, 3, 4, 5, 6, 9, 10] [(0, true), (1, true), (2, true), (3, true), (4, true), (5, false), (6, false), (7, false), (9, true), (11, false), (10, true)] rfl (pKt (pKt (pKt (pKt (pKt (pKM an.K bA (fun _ => rfl) p (pKM an.K (gA ai.c) (fun _ => rfl) d (pKo ah.c ah.pure a (pKt (pKc trivial))))))))))).to)) ?_ ?_
 ·clear hr
  rintro m ⟨w, q, i, j⟩ hr
  refine CQ.sh ?_
  refine .seq (.block (.seq (.r0 G (.mu 2 (.e0 (v := .unk) (ws := [(5, .map ((eE w (A2.mk i j) true).map (mpK an.K bA)))]) (tr (y := gu Tryz.prog [.own [.mp 5], .own [ag D, ag C, ag u, ag t, ag o, bu k], .own [ag g], .own [.mp 6], .own [.hs 7 0 a.length 2], .map (w.map (mpK an.K bA)), .map (d.map (mpK an.K (gA ai.c))), .own (a.flatMap ah.c), .own [aB closed, .hs 9 0 q.length 6], .own (q.flatMap ak.c), .own [ag i, ag j]] 125 (.mp 5) (.agg [ag i, ag j]) (aB true)) (CY (kt := 101) (e := 4) (l := w) (f := bA) (v := true) (K := an.K) (x := A2.mk i j) an.key kRf kRf kRf kRf)) (.done (.nh [2, 3, 4, 5, 6, 9, 10] [.own [.mp 5], .own [ag D, ag C, ag u, ag t, ag o, bu k], .own [ag g], .own [.mp 6], .own [.hs 7 0 a.length 2], .map ((eE w (A2.mk i j) true).map (mpK an.K bA)), .map (d.map (mpK an.K (gA ai.c))), .own (a.flatMap ah.c), .own [aB closed, .hs 9 0 q.length 6], .own (q.flatMap ak.c), .own [ag i, ag j]] (.seq ?_))))))))
  obtain ⟨A, L, hr⟩ := bd hr
  obtain ⟨M, N, hr⟩ := gd2 hr
  refine .t1 G (ok0 (qK n (al.mk D C u t o k) g (A2.mk i j) A L)) (.mu 5 (.ca cf0 (.mu 1 (.ek (v := .hs 12 0 (q ++ [A]).length 6) (ws := [(9, .dead), (12, .own ((q ++ [A]).flatMap ak.c))]) (tr (dX (new := (ak.c A)) (l := q) (xs := [A]) ak.len rfl rfl kRf M N)) (.mu 2 ?_)))))
  refine .done (kRa ?_)
  refine .nh [2, 3, 4, 5, 6, 9, 10] [.own [.mp 5], .own [ag D, ag C, ag u, ag t, ag o, bu k], .own [ag g], .own [.mp 6], .own [.hs 7 0 a.length 2], .map ((eE w (A2.mk i j) true).map (mpK an.K bA)), .map (d.map (mpK an.K (gA ai.c))), .own (a.flatMap ah.c), .own [aB closed, .hs 12 0 (q ++ [A]).length 6], .dead, .own [ag i, ag j], .own (ak.c A), .own ((q ++ [A]).flatMap ak.c)] (.seq (.r0 G (.mu 2 (.p0 (v := .tup [.agg (ai.c (getM (A2.mk 0 0 : A2 Int) d (A2.mk i j))), aB (dB d (A2.mk i j))]) (tr (y := bt.ofP (eN Tryz.prog [.own [.mp 5], .own [ag D, ag C, ag u, ag t, ag o, bu k], .own [ag g], .own [.mp 6], .own [.hs 7 0 a.length 2], .map ((eE w (A2.mk i j) true).map (mpK an.K bA)), .map (d.map (mpK an.K (gA ai.c))), .own (a.flatMap ah.c), .own [aB closed, .hs 12 0 (q ++ [A]).length 6], .dead, .own [ag i, ag j], .own (ak.c A), .own ((q ++ [A]).flatMap ak.c)] 124 (.mp 6) (.agg [ag i, ag j]) true)) (Du (kt := 101) (e := 101) (l := d) (f := (gA ai.c)) (z := (A2.mk 0 0 : A2 Int)) (K := an.K) (x := A2.mk i j) an.key kRf kRf kRf kRf kRf)) (.mu 6 (.done (.nh [2, 3, 4, 5, 6, 9, 10, 11, 12] [.own [.mp 5], .own [ag D, ag C, ag u, ag t, ag o, bu k], .own [ag g], .own [.mp 6], .own [.hs 7 0 a.length 2], .map ((eE w (A2.mk i j) true).map (mpK an.K bA)), .map (d.map (mpK an.K (gA ai.c))), .own (a.flatMap ah.c), .own [aB closed, .hs 12 0 (q ++ [A]).length 6], .dead, .own [ag i, ag j], .own (ak.c A), .own ((q ++ [A]).flatMap ak.c), .own (ai.c (getM (A2.mk 0 0 : A2 Int) d (A2.mk i j)))] (.seq (.seq ?_)))))))))
  rcases bT (!(dB d (A2.mk i j))) with E | E
  ·replace hr := bY E hr
   refine .r0 G (.mu 1 (.p0 (v := aB true) (eB E) (.mu 5 (.done (.nh [2, 3, 4, 5, 6, 9, 10, 11, 39] [.own [.mp 5], .own [ag D, ag C, ag u, ag t, ag o, bu k], .own [ag g], .own [.mp 6], .own [.hs 7 0 a.length 2], .map ((eE w (A2.mk i j) true).map (mpK an.K bA)), .map (d.map (mpK an.K (gA ai.c))), .own (a.flatMap ah.c), .own [aB closed, .hs 12 0 (q ++ [A]).length 6], .dead, .own [ag i, ag j], .own (ak.c A), .own ((q ++ [A]).flatMap ak.c), .own (ai.c (getM (A2.mk 0 0 : A2 Int) d (A2.mk i j)))] (.cT kRf (.leave rfl ?_)))))))
   obtain rfl := oi hr
   exact ⟨rfl, ((Wk.gc [6, 9] [(0, true), (1, true), (2, true), (3, true), (4, true), (5, false), (6, false), (7, false), (8, true), (12, false)] rfl (pKt (pKt (pKt (pKt (pKt (pKM an.K bA (fun _ => rfl) (eE w (A2.mk i j) true) (pKM an.K (gA ai.c) (fun _ => rfl) d (pKo ah.c ah.pure a (pKt (pKo ak.c ak.pure (q ++ [A]) trivial))))))))))).to)⟩
  replace hr := bW E hr
  refine .r0 G (.mu 1 (.p0 (v := aB false) (eB E) (.mu 3 (.pure (v := aB (getM false (eE w (A2.mk i j) true) (getM (A2.mk 0 0 : A2 Int) d (A2.mk i j)))) kRf (tr (y := bt.ofP (eN Tryz.prog [.own [.mp 5], .own [ag D, ag C, ag u, ag t, ag o, bu k], .own [ag g], .own [.mp 6], .own [.hs 7 0 a.length 2], .map ((eE w (A2.mk i j) true).map (mpK an.K bA)), .map (d.map (mpK an.K (gA ai.c))), .own (a.flatMap ah.c), .own [aB closed, .hs 12 0 (q ++ [A]).length 6], .dead, .own [ag i, ag j], .own (ak.c A), .own ((q ++ [A]).flatMap ak.c), .own (ai.c (getM (A2.mk 0 0 : A2 Int) d (A2.mk i j)))] 125 (.mp 5) (.agg (ai.c (getM (A2.mk 0 0 : A2 Int) d (A2.mk i j)))) false)) (zb (kt := 101) (e := 4) (l := eE w (A2.mk i j) true) (f := bA) (z := false) (K := an.K) (x := (getM (A2.mk 0 0 : A2 Int) d (A2.mk i j))) an.key kRf kRf kRf kRf kRf)) (.mu 1 (.done (.nh [2, 3, 4, 5, 6, 9, 10, 11, 39] [.own [.mp 5], .own [ag D, ag C, ag u, ag t, ag o, bu k], .own [ag g], .own [.mp 6], .own [.hs 7 0 a.length 2], .map ((eE w (A2.mk i j) true).map (mpK an.K bA)), .map (d.map (mpK an.K (gA ai.c))), .own (a.flatMap ah.c), .own [aB closed, .hs 12 0 (q ++ [A]).length 6], .dead, .own [ag i, ag j], .own (ak.c A), .own ((q ++ [A]).flatMap ak.c), .own (ai.c (getM (A2.mk 0 0 : A2 Int) d (A2.mk i j)))] ?_)))))))
  refine .cd hr ?_ ?_ <;> intro S hr
  ·refine .leave rfl ?_
   obtain rfl := oi hr
   exact ⟨rfl, ((Wk.gc [6, 9] [(0, true), (1, true), (2, true), (3, true), (4, true), (5, false), (6, false), (7, false), (8, true), (12, false)] rfl (pKt (pKt (pKt (pKt (pKt (pKM an.K bA (fun _ => rfl) (eE w (A2.mk i j) true) (pKM an.K (gA ai.c) (fun _ => rfl) d (pKo ah.c ah.pure a (pKt (pKo ak.c ak.pure (q ++ [A]) trivial))))))))))).to)⟩
  refine .skip (.ru G (.pop (.seq (.r4 G [2, 3, 4, 5, 6, 9] [(41, .agg (ai.c (getM (A2.mk 0 0 : A2 Int) d (A2.mk i j))))] (.ru G ?_)))))
  exact az (eE w (A2.mk i j) true, q ++ [A], (getM (A2.mk 0 0 : A2 Int) d (A2.mk i j)).e0, (getM (A2.mk 0 0 : A2 Int) d (A2.mk i j)).e1) hr ((Wk.gc [2, 3, 4, 5, 6, 9, 10] [(0, true), (1, true), (2, true), (3, true), (4, true), (5, false), (6, false), (7, false), (8, true), (12, false), (14, true)] rfl (pKt (pKt (pKt (pKt (pKt (pKM an.K bA (fun _ => rfl) (eE w (A2.mk i j) true) (pKM an.K (gA ai.c) (fun _ => rfl) d (pKo ah.c ah.pure a (pKt (pKo ak.c ak.pure (q ++ [A]) trivial))))))))))).to)
 rcases J with ⟨F, B⟩
 rintro x st' H
 clear I
 obtain ⟨rfl, H⟩ := H
 refine aU _ rfl (.wk H (.wk (((Wk.fix 9 (cs := (B.flatMap ak.c)) kRf).trans (Wk.DQ 8 1 (b := 9) (len := B.length) (es := 6) (cs := (B.flatMap ak.c)) (cs' := [aB closed, .hs 9 0 B.length 6]) kRf kRf kRf (aY ak.pure _) (fun h => cc h))).to (c := ⟨mkS 46 0 [(6, .hp 4 0), (9, .hp 8 0)], [.own [.mp 5], .own [ag D, ag C, ag u, ag t, ag o, bu k], .own [ag g], .own [.mp 6], .own [.hs 7 0 a.length 2], .map (F.map (mpK an.K bA)), .map (d.map (mpK an.K (gA ai.c))), .own (a.flatMap ah.c), .own [aB closed, slT ak.c B], .fix (B.flatMap ak.c)]⟩) kRf) ?_))
 obtain ⟨O, R, hr⟩ := gd2 hr
 refine .r0 G (.mu 3 (.e0 (v := .hs 11 0 (a ++ [ah.mk closed B]).length 2) (ws := [(7, .dead), (11, .own ((a ++ [ah.mk closed B]).flatMap ah.c))]) (tr (dX (new := [aB closed, slT ak.c B]) (l := a) (xs := [ah.mk closed B]) ah.len rfl rfl kRf O R)) (.mu 1 (.done ?_))))
 obtain rfl := oi hr
 exact gj.normal [] ((Wk.gc [] [(0, true), (1, true), (2, true), (3, true), (4, true), (5, false), (6, false), (11, false)] rfl (pKt (pKt (pKt (pKt (pKt (pKM an.K bA (fun _ => rfl) F (pKM an.K (gA ai.c) (fun _ => rfl) d (pKo ah.c ah.pure (a ++ [ah.mk closed B]) trivial))))))))).to)

theorem rW {c : ah} {a : ah} (h : ([.agg [.at (.bool c.Closed), slT ak.c c.Points]] : List AV) = [.agg [.at (.bool a.Closed), slT ak.c a.Points]]) : c = a := by
 obtain ⟨_, _⟩ := c
 obtain ⟨_, _⟩ := a
 simp only [List.cons.injEq, AV.agg.injEq, AV.at.injEq, Value.int.injEq, Value.bool.injEq, AV.fn.injEq, AV.pp.injEq, true_and, and_true, (Ar ak.len (by decide) ak.inj)] at h
 simp_all
theorem od (n : Nat) {c : ah} {a : ah} (h : ([.agg [.at (.bool c.Closed), slT ak.c c.Points]] : List AV) = [.agg [.at (.bool a.Closed), slT ak.c a.Points]]) : dC n c = dC n a := by
 obtain rfl := rW h
 rfl
theorem ja [Dr] (n : Nat) (c : ah) (r : A2 Int) (hr : dC n c = some r) : aK Tryz.prog 55 [.agg (ah.c c)] (.agg (ai.c r)) := by
 unfold dC at hr
 refine aK.bd G Tryz.func55 [.cell 2 101] ?_
 unfold Tryz.f55
 simp only [gS]
 refine .seq (.r2 G 14 [(1, .hp 0 0), (2, .hp 1 0)] [.own (ah.c c), .own [ag 0, ag 0]] (.seq ?_))
 obtain ⟨a, hr⟩ := gd hr
 refine .eX G bO (.mu 2 (.pk (v := .pp (c.Points.flatMap ak.c) ((0 : Int).toNat * 6)) (tr (ar a)) (.mu 1 (.pk (v := ag (gt c.Points 0).A) (tr (aI (aJ ak.len (aE a) (by decide : 0 < 6) (by omega : (0 : Int).toNat * 6 + 0 = (0 : Int).toNat * 6 + 0) kRf))) (.mu 2 (.pk (v := .pp (c.Points.flatMap ak.c) ((0 : Int).toNat * 6)) (tr (ar a)) (.mu 1 (.pk (v := ag (gt c.Points 0).B) (tr (aI (aJ ak.len (aE a) (by decide : 1 < 6) (by omega : (0 : Int).toNat * 6 + 1 = (0 : Int).toNat * 6 + 1) kRf))) (.mu 2 ?_)))))))))
 refine .done (kRa ?_)
 refine .nh [2] [.own (ah.c c), .own [ag (gt c.Points 0).A, ag (gt c.Points 0).B]] (.ret ?_)
 obtain rfl := oi hr
 exact aH.r1 [.agg [ag (gt c.Points 0).A, ag (gt c.Points 0).B]]

theorem rG [Dr] (n : Nat) (a : ah) (b : ah) (r : Int) (hr : gU n a b = some r) : aK Tryz.prog 95 [.agg (ah.c a), .agg (ah.c b)] (ag r) := by
 unfold gU at hr
 refine aK.bd G Tryz.func95 [.tmp 4] ?_
 unfold Tryz.f95
 simp only [gS]
 refine .seq (.r2 G 10 [(2, .hp 0 0), (3, .hp 1 0)] [.own (ah.c a), .own (ah.c b)] (.seq ?_))
 obtain ⟨g, d, i, e, j, f, hr⟩ := bd3 hr
 refine .tn G (ca1 (ok0 (ja n a g d)) (ca1 (ok0 (ja n b i e)) (ca3 (ok0 (gP n g i j f))))) (.mu 1 (.ca cf0 (.mu 1 (.ca (cfA (fun h => by rw [sv e d (od n h)]) cf0) (.ca (cfF (cfF cf0)) (.mu 1 ?_))))))
 refine .done (kRa ?_)
 refine .ret ?_
 obtain rfl := oi hr
 exact aH.r1 [ag j]

theorem cq (n : Nat) (a : List ah) (r : List ah) (hr : aF n a = some r) : dz 1 Tryz.prog 52 [.hs 0 0 a.length 2, .fn 95 [] []] [.own (a.flatMap ah.c)] (.tup []) [.own (r.flatMap ah.c)] := by
 unfold aF at hr
 obtain ⟨b, hr⟩ := gd hr
 exact dz.Cb (c := ah.c) (caps' := []) (Go.Proofs.YtecdcgfclgmbpaaGreat.qU (enters_of Tryz.func95 kRf rfl)) Go.Proofs.YtecdcgfclgmbpaaGreat.wC ah.len ah.pure hr (dcT b) SnL.nil (fun x y r hc => @rG ⟨true⟩ n x y r hc)

theorem nE (n : Nat) (g : al) (level : Int) (r : List ah) (hr : fp n g level = some r) : aK Tryz.prog 45 [.agg (al.c g), ag level] (slT ah.c r) := by
 unfold fp at hr
 refine aK.bd G Tryz.func45 [.tmp 4] ?_
 unfold Tryz.f45
 simp only [gS]
 refine .seq (.r2 G 68 [(2, .hp 0 0), (3, .hp 1 0)] [.own (al.c g), .own [ag level]] (.seq (.r5 G [2, 3] [(5, .hp 2 0)] [.own (al.c g), .own [ag level], .own [.fn 88 [] [.hp 0 0, .hp 1 0]]] (.seq (.r5 G [2, 3, 5] [(6, .hp 5 0), (7, .hp 6 0)] [.own (al.c g), .own [ag level], .own [.fn 88 [] [.hp 0 0, .hp 1 0]], .map (([] : List (A2 Int × A2 Int)).map (mpK an.K (gA ai.c))), .map (([] : List (A2 Int × Bool)).map (mpK an.K bA)), .own [.mp 3], .own [.mp 4]] (.seq ?_))))))
 obtain ⟨d, lP, hr⟩ := bd hr
 refine .g1 G (jO 2 (.own [.fn 88 [] [.hp 0 0, .hp 1 0]]) [] [(0, .own (al.c g)), (1, .own [ag level]), (5, .own [.mp 7]), (6, .own [.mp 8]), (7, .map (d.1.map (mpK an.K (gA ai.c)))), (8, .map (d.2.map (mpK an.K bA))), (3, .dead), (4, .dead)] (cL (args := [.agg (al.c g), .fn 90 [] [.hp 2 0, .hp 5 0, .hp 6 0]]) 5 2 [(2, true), (0, true), (1, true), (5, true), (6, true), (3, false), (4, false)] [true, true, true, true, true, false, false] (gT n g g.X0 g.Y0 g.Step g.Width g.Height g.Z level ([] : List (A2 Int × A2 Int)) ([] : List (A2 Int × Bool)) d lP) (by exact ⟨fI (fun _ => rfl) _, ⟨fI (fun _ => rfl) _, trivial⟩⟩) (by exact ⟨fI (fun _ => rfl) _, ⟨fI (fun _ => rfl) _, trivial⟩⟩) rfl rfl kRf kRf)) (.mu 2 (.ca cf0 (.done (.nh [2, 3, 6, 7] [.own (al.c g), .own [ag level], .own [.fn 88 [] [.hp 0 0, .hp 1 0]], .dead, .dead, .own [.mp 7], .own [.mp 8], .map (d.1.map (mpK an.K (gA ai.c))), .map (d.2.map (mpK an.K bA))] (.seq (.r4 G [2, 3, 6, 7] [(8, nS)] (.seq (.seq (.r0 G (.mu 1 (.e0 (v := .hp 9 0) (ws := [(9, .iter 7 d.1.length [])]) (tr (y := l5 Tryz.prog [.own (al.c g), .own [ag level], .own [.fn 88 [] [.hp 0 0, .hp 1 0]], .dead, .dead, .own [.mp 7], .own [.mp 8], .map (d.1.map (mpK an.K (gA ai.c))), .map (d.2.map (mpK an.K bA))] 9 124 (.mp 7)) (DL (kt := 101) (e := 101) (es := d.1) (mk := (mpK an.K (gA ai.c))) kRf kRf)) (.done (.nh [2, 3, 6, 7, 8, 24] [.own (al.c g), .own [ag level], .own [.fn 88 [] [.hp 0 0, .hp 1 0]], .dead, .dead, .own [.mp 7], .own [.mp 8], .map (d.1.map (mpK an.K (gA ai.c))), .map (d.2.map (mpK an.K bA)), .iter 7 d.1.length []] (.block ?_))))))))))))))
 refine .EN (mk := (mpK an.K (gA ai.c))) hr (fun N sn => match N with | i => ⟨mkS 68 0 [(2, .hp 0 0), (3, .hp 1 0), (6, .hp 2 0), (7, .hp 4 0), (8, .hs 6 0 i.length 2), (24, .hp 7 0)], [.own (al.c g), .own [ag level], .own [.mp 3], .map (d.1.map (mpK an.K (gA ai.c))), .own [.mp 5], .map (d.2.map (mpK an.K bA)), .own (i.flatMap ai.c), .iter 3 d.1.length sn]⟩) 7 3 ((Wk.nil 8 2 kRf).trans ((Wk.gc [2, 3, 6, 7, 8, 24] [(0, true), (1, true), (5, true), (7, false), (6, true), (8, false), (10, false), (9, true)] rfl (pKt (pKt (pKt (pKM an.K (gA ai.c) (fun _ => rfl) d.1 (pKt (pKM an.K bA (fun _ => rfl) d.2 (pKc trivial)))))))).to)) ?_ ?_
 ·clear hr
  rintro i sn M t z' G' O hr R
  refine .wk ((Wk.refl _).to (c := ⟨mkS 68 0 [(2, .hp 0 0), (3, .hp 1 0), (6, .hp 2 0), (7, .hp 4 0), (8, .hs 6 0 i.length 2), (24, .hp 7 0), (26, aB true)], [.own (al.c g), .own [ag level], .own [.mp 3], .map (d.1.map (mpK an.K (gA ai.c))), .own [.mp 5], .map (d.2.map (mpK an.K bA)), .own (i.flatMap ai.c), .iter 3 d.1.length (sn ++ [M])]⟩)) (.block (.seq (.r0 G (.p0 (v := .tup [.agg [ag t.1.e0, ag t.1.e1], .agg [ag t.2.e0, ag t.2.e1]]) (tr (y := gD [.own (al.c g), .own [ag level], .own [.mp 3], .map (d.1.map (mpK an.K (gA ai.c))), .own [.mp 5], .map (d.2.map (mpK an.K bA)), .own (i.flatMap ai.c), .iter 3 d.1.length (sn ++ [M])] (.hp 7 0)) (Eq.trans (Dv (P := Tryz.prog) (m := 3) (sn := sn) (es := d.1) (mk := (mpK an.K (gA ai.c))) (e := t) kRf kRf O) kRf)) (.mu 3 (.done (.nh [2, 3, 6, 7, 8, 9, 24] [.own (al.c g), .own [ag level], .own [.mp 3], .map (d.1.map (mpK an.K (gA ai.c))), .own [.mp 5], .map (d.2.map (mpK an.K bA)), .own (i.flatMap ai.c), .iter 3 d.1.length (sn ++ [M]), .own [ag t.1.e0, ag t.1.e1]] ?_)))))))
  obtain ⟨S, T, hr⟩ := gd2 hr
  refine .r0 G (.mu 3 (.e0 (v := .hs 10 0 (i ++ [t.1]).length 2) (ws := [(6, .dead), (10, .own ((i ++ [t.1]).flatMap ai.c))]) (tr (dX (new := [ag t.1.e0, ag t.1.e1]) (l := i) (xs := [t.1]) ai.len rfl rfl kRf S T)) (.mu 1 (.done (.pop ?_)))))
  obtain rfl := oi hr
  exact R _ ((Wk.gc [2, 3, 6, 7, 8, 24] [(0, true), (1, true), (2, true), (3, false), (4, true), (5, false), (10, false), (7, true)] rfl (pKt (pKt (pKt (pKM an.K (gA ai.c) (fun _ => rfl) d.1 (pKt (pKM an.K bA (fun _ => rfl) d.2 (pKo ai.c ai.pure (i ++ [t.1]) trivial)))))))).to)
 clear hr
 rintro i sn hr
 refine aU _ rfl (.wk ((Wk.refl _).to (c := ⟨mkS 68 0 [(2, .hp 0 0), (3, .hp 1 0), (6, .hp 2 0), (7, .hp 4 0), (8, .hs 6 0 i.length 2), (24, .hp 7 0), (26, aB false)], [.own (al.c g), .own [ag level], .own [.mp 3], .map (d.1.map (mpK an.K (gA ai.c))), .own [.mp 5], .map (d.2.map (mpK an.K bA)), .own (i.flatMap ai.c), .iter 3 d.1.length sn]⟩)) (.seq ?_))
 obtain ⟨a, U, hr⟩ := bd hr
 obtain ⟨F, hr⟩ := gd hr
 refine .g1 G (cL (args := [.hs 6 0 i.length 2, .fn 54 [] []]) 1 0 [(6, false)] [false] (cu n i a U) (by exact ⟨aY ai.pure _, trivial⟩) (by exact ⟨aY ai.pure _, trivial⟩) rfl rfl kRf kRf) (.mu 1 (.ca cf0 (.done (.nh [2, 3, 6, 7, 8] [.own (al.c g), .own [ag level], .own [.mp 3], .map (d.1.map (mpK an.K (gA ai.c))), .own [.mp 5], .map (d.2.map (mpK an.K bA)), .own (a.flatMap ai.c), .iter 3 d.1.length sn] (.seq (.r5 G [2, 3, 6, 7, 8] [(10, .hp 9 0)] [.own (al.c g), .own [ag level], .own [.mp 3], .map (d.1.map (mpK an.K (gA ai.c))), .own [.mp 5], .map (d.2.map (mpK an.K bA)), .own (a.flatMap ai.c), .iter 3 d.1.length sn, .map (([] : List (A2 Int × Bool)).map (mpK an.K bA)), .own [.mp 8]] (.seq (.r5 G [2, 3, 6, 7, 8, 10] [(11, .hp 10 0)] [.own (al.c g), .own [ag level], .own [.mp 3], .map (d.1.map (mpK an.K (gA ai.c))), .own [.mp 5], .map (d.2.map (mpK an.K bA)), .own (a.flatMap ai.c), .iter 3 d.1.length sn, .map (([] : List (A2 Int × Bool)).map (mpK an.K bA)), .own [.mp 8], .own [nS]] (.seq (.r4 G [7, 8, 10, 11] [(12, .fn 93 [] [.hp 9 0, .hp 0 0, .hp 1 0, .hp 2 0, .hp 10 0])] (.seq (.seq (.r4 G [7, 8, 10, 11, 12] [(37, .hs 6 0 i.length 2), (38, ag (i.length : Int)), (39, ag 0)] (.block ?_))))))))))))))
 replace hr := bd hr; obtain ⟨V, H, hr⟩ := hr
 refine .aN (σ := fun N => match N with | (s, o, j) => ⟨mkS 68 0 [(7, .hp 0 0), (8, .hs 2 0 a.length 2), (10, .hp 3 0), (11, .hp 5 0), (12, .fn 93 [] [.hp 3 0, .hp 7 0, .hp 8 0, .hp 9 0, .hp 5 0]), (37, .hs 2 0 a.length 2), (38, ag (i.length : Int)), (39, ag j)], [.own [.mp 1], .map (d.2.map (mpK an.K bA)), .own (a.flatMap ai.c), .own [.mp 4], .map (s.map (mpK an.K bA)), .own [.hs 6 0 o.length 2], .own (o.flatMap ah.c), .own (al.c g), .own [ag level], .own [.mp 10], .map (d.1.map (mpK an.K (gA ai.c)))]⟩) (Q := fun x st' => match (generalizing := false) V with | (C, B) => x = .exit 2 /\ Wk 0 st' ⟨mkS 68 0 [(8, .hs 0 0 a.length 2), (10, .hp 1 0), (11, .hp 3 0), (12, .fn 93 [] [.hp 1 0, .hp 5 0, .hp 6 0, .hp 7 0, .hp 3 0])], [.own (a.flatMap ai.c), .own [.mp 2], .map (C.map (mpK an.K bA)), .own [.hs 4 0 B.length 2], .own (B.flatMap ah.c), .own (al.c g), .own [ag level], .own [.mp 8], .map (d.1.map (mpK an.K (gA ai.c)))]⟩) H ((Wk.iF 8 (b := 6) (es := 2) (len := i.length) a.length kRf (Eq.symm (dcT F))).trans ((Wk.Ap 10 0 2 (cs := [nS]) kRf kRf).trans ((Wk.iF 37 (b := 6) (es := 2) (len := i.length) a.length kRf (Eq.symm (dcT F))).trans ((Wk.gc [7, 8, 10, 11, 12, 37, 38, 39] [(4, true), (5, false), (6, false), (9, true), (8, false), (10, true), (11, false), (0, true), (1, true), (2, true), (3, false)] rfl (pKt (pKM an.K bA (fun _ => rfl) d.2 (pKo ai.c ai.pure a (pKt (pKM an.K bA (fun _ => rfl) ([] : List (A2 Int × Bool)) (pKt (pKc (pKt (pKt (pKt (pKM an.K (gA ai.c) (fun _ => rfl) d.1 trivial)))))))))))).to)))) ?_ ?_
 ·clear hr
  rintro m ⟨s, o, j⟩ hr
  refine CQ.sh ?_
  refine .seq (.r4 G [7, 8, 10, 11, 12, 37, 38, 39] [(40, aB (decide (j < (i.length : Int))))] (.seq ?_))
  refine .cd hr ?_ ?_ <;> intro l8 hr
  ·refine .skip (.seq (.block (.seq ?_)))
   obtain ⟨I, hr⟩ := gd hr
   refine .r0 G (.p0 (v := .hp 2 (0 + j.toNat * 2)) (tr (ar I)) (.p0 (v := .agg (ai.c (gt a j))) (tr (y := bt.ofP (gO (decide (2 <= ((a.flatMap ai.c).drop (0 + j.toNat * 2)).length)) (.agg (((a.flatMap ai.c).drop (0 + j.toNat * 2)).take 2)))) (dr ai.len (aE I) (by decide) (by omega : 0 + j.toNat * 2 = j.toNat * 2 + 0) kRf)) (.mu 2 (.done (.nh [7, 8, 10, 11, 12, 14, 37, 38, 39] [.own [.mp 1], .map (d.2.map (mpK an.K bA)), .own (a.flatMap ai.c), .own [.mp 4], .map (s.map (mpK an.K bA)), .own [.hs 6 0 o.length 2], .own (o.flatMap ah.c), .own (al.c g), .own [ag level], .own [.mp 10], .map (d.1.map (mpK an.K (gA ai.c))), .own (ai.c (gt a j))] (.seq (.r0 G (.mu 2 (.p0 (v := aB (getM false d.2 (gt a j))) (tr (y := bt.ofP (eN Tryz.prog [.own [.mp 1], .map (d.2.map (mpK an.K bA)), .own (a.flatMap ai.c), .own [.mp 4], .map (s.map (mpK an.K bA)), .own [.hs 6 0 o.length 2], .own (o.flatMap ah.c), .own (al.c g), .own [ag level], .own [.mp 10], .map (d.1.map (mpK an.K (gA ai.c))), .own (ai.c (gt a j))] 125 (.mp 1) (.agg (ai.c (gt a j))) false)) (zb (kt := 101) (e := 4) (l := d.2) (f := bA) (z := false) (K := an.K) (x := (gt a j)) an.key kRf kRf kRf kRf kRf)) (.mu 1 (.done (.nh [7, 8, 10, 11, 12, 14, 37, 38, 39, 46] [.own [.mp 1], .map (d.2.map (mpK an.K bA)), .own (a.flatMap ai.c), .own [.mp 4], .map (s.map (mpK an.K bA)), .own [.hs 6 0 o.length 2], .own (o.flatMap ah.c), .own (al.c g), .own [ag level], .own [.mp 10], .map (d.1.map (mpK an.K (gA ai.c))), .own (ai.c (gt a j))] ?_))))))))))))
   refine .cd hr ?_ ?_ <;> intro lG hr
   ·obtain ⟨u, W, hr⟩ := bd hr
    refine .g1 G (jO 8 (.own [ag level]) [(3, .own [.mp 12])] [(9, .own [.mp 13]), (5, .own [.hs 14 0 u.2.length 2]), (12, .map (u.1.map (mpK an.K bA))), (13, .map (d.1.map (mpK an.K (gA ai.c)))), (14, .own (u.2.flatMap ah.c)), (4, .dead), (10, .dead), (6, .dead)] (jO 7 (.own (al.c g)) [(3, .own [.mp 12])] [(8, .own [ag level]), (9, .own [.mp 13]), (5, .own [.hs 14 0 u.2.length 2]), (12, .map (u.1.map (mpK an.K bA))), (13, .map (d.1.map (mpK an.K (gA ai.c)))), (14, .own (u.2.flatMap ah.c)), (4, .dead), (10, .dead), (6, .dead)] (cL (args := [.agg (ai.c (gt a j)), aB false, .hp 3 0, .hp 7 0, .hp 8 0, .hp 9 0, .hp 5 0]) 5 3 [(3, true), (7, true), (8, true), (9, true), (5, true), (4, false), (10, false), (6, false)] [true, true, true, true, true, false, false, false] (lk n (gt a j) false s g.X0 g.Y0 g.Step g.Width g.Height g.Z level d.1 o u W) (by exact ⟨fI (fun _ => rfl) _, ⟨fI (fun _ => rfl) _, ⟨aY ah.pure _, trivial⟩⟩⟩) (by exact ⟨fI (fun _ => rfl) _, ⟨fI (fun _ => rfl) _, ⟨aY ah.pure _, trivial⟩⟩⟩) rfl rfl kRf kRf))) (.mu 2 (.ca cf0 (.done (.pop (.ru G ?_)))))
    exact az (u.1, u.2, G1 (j + 1)) hr ((Wk.gc [7, 8, 10, 11, 12, 37, 38, 39] [(0, true), (1, false), (2, false), (3, true), (12, false), (5, true), (14, false), (7, true), (8, true), (9, true), (13, false)] rfl (pKt (pKM an.K bA (fun _ => rfl) d.2 (pKo ai.c ai.pure a (pKt (pKM an.K bA (fun _ => rfl) u.1 (pKt (pKo ah.c ah.pure u.2 (pKt (pKt (pKt (pKM an.K (gA ai.c) (fun _ => rfl) d.1 trivial)))))))))))).to)
   refine .skip (.pop (.ru G ?_))
   exact az (s, o, G1 (j + 1)) hr ((Wk.gc [7, 8, 10, 11, 12, 37, 38, 39] [(0, true), (1, false), (2, false), (3, true), (4, false), (5, true), (6, false), (7, true), (8, true), (9, true), (10, false)] rfl (pKt (pKM an.K bA (fun _ => rfl) d.2 (pKo ai.c ai.pure a (pKt (pKM an.K bA (fun _ => rfl) s (pKt (pKo ah.c ah.pure o (pKt (pKt (pKt (pKM an.K (gA ai.c) (fun _ => rfl) d.1 trivial)))))))))))).to)
  refine .leave rfl ?_
  obtain rfl := oi hr
  exact ⟨rfl, ((Wk.gc [8, 10, 11, 12] [(2, false), (3, true), (4, false), (5, true), (6, false), (7, true), (8, true), (9, true), (10, false)] rfl (pKo ai.c ai.pure a (pKt (pKM an.K bA (fun _ => rfl) s (pKt (pKo ah.c ah.pure o (pKt (pKt (pKt (pKM an.K (gA ai.c) (fun _ => rfl) d.1 trivial)))))))))).to)⟩
 rcases V with ⟨C, B⟩
 rintro x st' D
 clear H
 obtain ⟨rfl, D⟩ := D
 refine aU _ rfl (.wk D (.seq (.seq (.r4 G [10, 11, 12] [(51, .hs 0 0 a.length 2), (52, ag (a.length : Int)), (53, ag 0)] (.block ?_)))))
 replace hr := bd hr; obtain ⟨w, J, hr⟩ := hr
 refine .aN (σ := fun N => match N with | (q, p, k) => ⟨mkS 68 0 [(10, .hp 0 0), (11, .hp 2 0), (12, .fn 93 [] [.hp 0 0, .hp 4 0, .hp 5 0, .hp 6 0, .hp 2 0]), (51, .hs 8 0 a.length 2), (52, ag (a.length : Int)), (53, ag k)], [.own [.mp 1], .map (q.map (mpK an.K bA)), .own [.hs 3 0 p.length 2], .own (p.flatMap ah.c), .own (al.c g), .own [ag level], .own [.mp 7], .map (d.1.map (mpK an.K (gA ai.c))), .own (a.flatMap ai.c)]⟩) (Q := fun x st' => x = .exit 4 /\ Wk 0 st' ⟨mkS 68 0 [(11, .hp 0 0)], [.own [.hs 1 0 w.length 2], .own (w.flatMap ah.c)]⟩) J ((Wk.gc [10, 11, 12, 51, 52, 53] [(1, true), (2, false), (3, true), (4, false), (5, true), (6, true), (7, true), (8, false), (0, false)] rfl (pKt (pKM an.K bA (fun _ => rfl) C (pKt (pKo ah.c ah.pure B (pKt (pKt (pKt (pKM an.K (gA ai.c) (fun _ => rfl) d.1 (pKo ai.c ai.pure a trivial)))))))))).to) ?_ ?_
 ·clear hr
  rintro m ⟨q, p, k⟩ hr
  refine CQ.sh ?_
  refine .seq (.r4 G [10, 11, 12, 51, 52, 53] [(54, aB (decide (k < (a.length : Int))))] (.seq ?_))
  refine .cd hr ?_ ?_ <;> intro mM hr
  ·refine .skip (.seq (.block (.seq ?_)))
   obtain ⟨L, hr⟩ := gd hr
   refine .r0 G (.p0 (v := .hp 8 (0 + k.toNat * 2)) (tr (ar L)) (.p0 (v := .agg (ai.c (gt a k))) (tr (y := bt.ofP (gO (decide (2 <= ((a.flatMap ai.c).drop (0 + k.toNat * 2)).length)) (.agg (((a.flatMap ai.c).drop (0 + k.toNat * 2)).take 2)))) (dr ai.len (aE L) (by decide) (by omega : 0 + k.toNat * 2 = k.toNat * 2 + 0) kRf)) (.mu 2 (.done (.nh [10, 11, 12, 16, 51, 52, 53] [.own [.mp 1], .map (q.map (mpK an.K bA)), .own [.hs 3 0 p.length 2], .own (p.flatMap ah.c), .own (al.c g), .own [ag level], .own [.mp 7], .map (d.1.map (mpK an.K (gA ai.c))), .own (a.flatMap ai.c), .own (ai.c (gt a k))] (.seq (.r0 G (.mu 2 (.p0 (v := aB (getM false q (gt a k))) (tr (y := bt.ofP (eN Tryz.prog [.own [.mp 1], .map (q.map (mpK an.K bA)), .own [.hs 3 0 p.length 2], .own (p.flatMap ah.c), .own (al.c g), .own [ag level], .own [.mp 7], .map (d.1.map (mpK an.K (gA ai.c))), .own (a.flatMap ai.c), .own (ai.c (gt a k))] 125 (.mp 1) (.agg (ai.c (gt a k))) false)) (zb (kt := 101) (e := 4) (l := q) (f := bA) (z := false) (K := an.K) (x := (gt a k)) an.key kRf kRf kRf kRf kRf)) (.mu 1 (.done (.nh [10, 11, 12, 16, 51, 52, 53, 60] [.own [.mp 1], .map (q.map (mpK an.K bA)), .own [.hs 3 0 p.length 2], .own (p.flatMap ah.c), .own (al.c g), .own [ag level], .own [.mp 7], .map (d.1.map (mpK an.K (gA ai.c))), .own (a.flatMap ai.c), .own (ai.c (gt a k))] ?_))))))))))))
   refine .cd hr ?_ ?_ <;> intro mz hr
   ·obtain ⟨A, X, hr⟩ := bd hr
    refine .g1 G (jO 5 (.own [ag level]) [(0, .own [.mp 10])] [(6, .own [.mp 11]), (2, .own [.hs 12 0 A.2.length 2]), (10, .map (A.1.map (mpK an.K bA))), (11, .map (d.1.map (mpK an.K (gA ai.c)))), (12, .own (A.2.flatMap ah.c)), (1, .dead), (7, .dead), (3, .dead)] (jO 4 (.own (al.c g)) [(0, .own [.mp 10])] [(5, .own [ag level]), (6, .own [.mp 11]), (2, .own [.hs 12 0 A.2.length 2]), (10, .map (A.1.map (mpK an.K bA))), (11, .map (d.1.map (mpK an.K (gA ai.c)))), (12, .own (A.2.flatMap ah.c)), (1, .dead), (7, .dead), (3, .dead)] (cL (args := [.agg (ai.c (gt a k)), aB true, .hp 0 0, .hp 4 0, .hp 5 0, .hp 6 0, .hp 2 0]) 5 3 [(0, true), (4, true), (5, true), (6, true), (2, true), (1, false), (7, false), (3, false)] [true, true, true, true, true, false, false, false] (lk n (gt a k) true q g.X0 g.Y0 g.Step g.Width g.Height g.Z level d.1 p A X) (by exact ⟨fI (fun _ => rfl) _, ⟨fI (fun _ => rfl) _, ⟨aY ah.pure _, trivial⟩⟩⟩) (by exact ⟨fI (fun _ => rfl) _, ⟨fI (fun _ => rfl) _, ⟨aY ah.pure _, trivial⟩⟩⟩) rfl rfl kRf kRf))) (.mu 2 (.ca cf0 (.done (.pop (.ru G ?_)))))
    exact az (A.1, A.2, G1 (k + 1)) hr ((Wk.gc [10, 11, 12, 51, 52, 53] [(0, true), (10, false), (2, true), (12, false), (4, true), (5, true), (6, true), (11, false), (8, false)] rfl (pKt (pKM an.K bA (fun _ => rfl) A.1 (pKt (pKo ah.c ah.pure A.2 (pKt (pKt (pKt (pKM an.K (gA ai.c) (fun _ => rfl) d.1 (pKo ai.c ai.pure a trivial)))))))))).to)
   refine .skip (.pop (.ru G ?_))
   exact az (q, p, G1 (k + 1)) hr ((Wk.gc [10, 11, 12, 51, 52, 53] [(0, true), (1, false), (2, true), (3, false), (4, true), (5, true), (6, true), (7, false), (8, false)] rfl (pKt (pKM an.K bA (fun _ => rfl) q (pKt (pKo ah.c ah.pure p (pKt (pKt (pKt (pKM an.K (gA ai.c) (fun _ => rfl) d.1 (pKo ai.c ai.pure a trivial)))))))))).to)
  refine .leave rfl ?_
  obtain rfl := oi hr
  exact ⟨rfl, ((Wk.gc [11] [(2, true), (3, false)] rfl (pKt (pKo ah.c ah.pure p trivial))).to)⟩
 rintro x st' E
 clear J
 obtain ⟨rfl, E⟩ := E
 refine aU _ rfl (.wk E (.seq ?_))
 obtain ⟨Y, jD, hr⟩ := bd hr
 obtain ⟨ki, hr⟩ := gd hr
 refine .g1 G (cL (args := [.hs 1 0 w.length 2, .fn 95 [] []]) 1 0 [(1, false)] [false] (cq n w Y jD) (by exact ⟨aY ah.pure _, trivial⟩) (by exact ⟨aY ah.pure _, trivial⟩) rfl rfl kRf kRf) (.mu 1 (.ca cf0 (.done (.nh [11] [.own [.hs 1 0 w.length 2], .own (Y.flatMap ah.c)] (.seq (.r3 G 68 [(4, .hs 1 0 w.length 2)] (.ret ?_)))))))
 obtain rfl := oi hr
 exact aH.ret (vs := [.hs 1 0 w.length 2]) kRf (Sn.hse (dcT ki) rfl (.inl rfl) (SnC.pure (aY ah.pure _)) (fun h => cc h))

theorem nY (n : Nat) (g : al) (level : Int) (r : List ah × Int) (hr : fq n g level = some r) : aK Tryz.prog 14 [.agg (al.c g), ag level] (.tup [slT ah.c r.1, ag r.2]) := by
 unfold fq at hr
 refine aK.bd G Tryz.func14 [.tmp 4, .tmp 5] ?_
 unfold Tryz.f14
 simp only [gS]
 refine .seq (.r5 G [1] [(2, .hp 0 0)] [.own (al.c g)] (.seq (.seq ?_)))
 obtain ⟨a, b, hr⟩ := bd hr
 refine .g1 G (ok0 (iA n g level a b)) (.mu 2 (.ca cf0 (.mu 1 (.done (.nh [1, 2, 6] [.own (al.c g)] (.seq (.r4 G [1, 2, 6] [(11, aB ((a : Int) != 0))] ?_)))))))
 refine .cd hr ?_ ?_ <;> intro f hr
 ·refine .seq (.r3 G 16 [(4, nS), (5, ag a)] (.ret ?_))
  obtain rfl := oi hr
  exact aH.ret (vs := [nS, ag a]) kRf (Sn.tup (SnL.cons Sn.ft (Sp SnL.nil)))
 refine .skip (.seq ?_)
 obtain ⟨e, d, hr⟩ := bd hr
 refine .g1 G (ok0 (nE n g level e d)) (.mu 2 (.ca cf0 (.mu 2 (.done (.ret ?_)))))
 obtain rfl := oi hr
 exact aH.ret (vs := [slT ah.c e, ag 0]) kRf (Sn.tup (Sp (Sp SnL.nil)))

theorem nc (n : Nat) {b : Int} {a : Int} (h : ([.at (.int .i64 b)] : List AV) = [.at (.int .i64 a)]) : bJ n b = bJ n a := by
 obtain rfl := dP h
 rfl
theorem cB (n : Nat) (f : Int) (r : aj) (hr : bJ n f = some r) : aK Tryz.prog 61 [ag f] (.agg (aj.c r)) := by
 unfold bJ at hr
 refine aK.bd G Tryz.func61 [.cell 2 42] ?_
 unfold Tryz.f61
 simp only [gS]
 refine .seq (.r5 G [0] [(2, .hp 0 0)] [.own zN2] (.seq ?_))
 obtain ⟨a, b, d, e, hr⟩ := bd2 hr
 refine .gn G (ca1 (ok0 (im n f a b)) (ca3 (ok0 (im n 1 d e)))) (.mu 1 (.ca cf0 (.ca (cfA (fun h => by rw [sv e b (qO n h)]) cf0) (.mu 2 (.done (.nh [2] [.own [aB a.Negative, av a.Groups, aB d.Negative, av d.Groups]] (.ret ?_)))))))
 obtain rfl := oi hr
 exact aH.r1 [.agg [aB a.Negative, av a.Groups, aB d.Negative, av d.Groups]]

theorem og (n : Nat) (a : Int) (r : Bool) (hr : jo n a = some r) : aK Tryz.prog 198 [ag a] (aB r) := by
 unfold jo at hr
 refine aK.bd G Tryz.func198 [.tmp 2] ?_
 unfold Tryz.f198
 simp only [gS]
 refine .seq (.r4 G [0] [] (.seq (.ru G (.ret ?_))))
 obtain rfl := oi hr
 exact aH.r1 [aB ((a : Int) != a)]

theorem rk (n : Nat) (a : Int) (y : Int) (r : Int) (hr : gR n a y = some r) : aK Tryz.prog 179 [ag a, ag y] (ag r) := by
 unfold gR at hr
 refine aK.bd G Tryz.func179 [.tmp 4] ?_
 unfold Tryz.f179
 simp only [gS]
 refine .seq (.r4 G [0, 1] [] (.seq ?_))
 obtain ⟨e, b, hr⟩ := bd hr
 refine .g1 G (ok0 (og n a e b)) (.mu 1 (.ca cf0 (.mu 1 (.done (.nh [0, 1, 5] [] (.seq ?_))))))
 obtain ⟨c, d, hr⟩ := bd hr
 refine .g1 G (ok0 (og n y c d)) (.mu 1 (.ca cf0 (.mu 1 (.done (.nh [0, 1, 5, 6] [] (.seq (.seq (.r4 G [0, 1, 6] [(11, aB e)] ?_))))))))
 refine .cd hr ?_ ?_ <;> intro f hr
 ·refine .seq (.seq (.r3 G 20 [(12, aB c)] ?_))
  refine .cd hr ?_ ?_ <;> intro g hr
  ·refine .seq (.ru G (.ret ?_))
   obtain rfl := oi hr
   exact aH.r1 [ag 0]
  refine .skip (.seq (.ru G (.ret ?_)))
  obtain rfl := oi hr
  exact aH.r1 [ag (-1)]
 refine .skip (.seq (.seq (.r4 G [0, 1] [(13, aB c)] ?_)))
 refine .cd hr ?_ ?_ <;> intro h hr
 ·refine .seq (.ru G (.ret ?_))
  obtain rfl := oi hr
  exact aH.r1 [ag 1]
 refine .skip (.seq (.seq (.r4 G [0, 1] [(16, aB (decide (a < y)))] ?_)))
 refine .cd hr ?_ ?_ <;> intro i hr
 ·refine .seq (.ru G (.ret ?_))
  obtain rfl := oi hr
  exact aH.r1 [ag (-1)]
 refine .skip (.seq (.seq (.r3 G 20 [(19, aB (decide (a > y)))] ?_)))
 refine .cd hr ?_ ?_ <;> intro j hr
 ·refine .seq (.ru G (.ret ?_))
  obtain rfl := oi hr
  exact aH.r1 [ag 1]
 refine .skip (.seq (.ru G (.ret ?_)))
 obtain rfl := oi hr
 exact aH.r1 [ag 0]

theorem mN (n : Nat) (b : ae) (y : ae) (r : Int) (hr : fR n b y = some r) : aK Tryz.prog 144 [.agg (ae.c b), .agg (ae.c y)] (ag r) := by
 unfold fR at hr
 refine aK.bd G Tryz.func144 [.tmp 4] ?_
 unfold Tryz.f144
 simp only [gS]
 refine .seq (.r2 G 28 [(2, .hp 0 0), (3, .hp 1 0)] [.own (ae.c b), .own (ae.c y)] (.seq (.seq ?_)))
 obtain ⟨k, e, l, f, hr⟩ := bd2 hr
 refine .tn G (ca1 (ok0 (eZ n b k e)) (ca3 (ok0 (eZ n y l f)))) (.mu 1 (.ca cf0 (.mu 1 (.ca (cfA (fun h => by rw [sv f e (uf n h)]) cf0) (.mu 2 ?_)))))
 refine .done (kRa ?_)
 refine .nh [2, 3, 5, 6] [.own (ae.c b), .own (ae.c y)] (.seq (.r4 G [2, 3, 5, 6] [(14, aB ((k : Int) != l))] ?_))
 refine .cd hr ?_ ?_ <;> intro s hr
 ·refine .seq ?_
  obtain ⟨o, m, hr⟩ := bd hr
  refine .g1 G (ok0 (rk n k l o m)) (.mu 2 (.ca cf0 (.mu 1 (.done (.ret ?_)))))
  obtain rfl := oi hr
  exact aH.r1 [ag o]
 refine .skip (.seq ?_)
 obtain ⟨p, g, i, d, a, j, hr⟩ := bd3 hr
 refine .tn G (ca1 (ok0 (bM n b p g)) (ca1 (ok0 (bM n y i d)) (ca3 (ok0 (jL n p i a j))))) (.mu 1 (.ca cf0 (.mu 1 (.ca (cfA (fun h => by rw [sv d g (fU n h)]) cf0) (.ca (cfF (cfF cf0)) (.mu 1 ?_))))))
 refine .done (kRa ?_)
 refine .nh [2, 7] [.own (ae.c b), .own (ae.c y)] (.seq (.seq (.r4 G [7] [(24, aB b.Negative)] ?_)))
 refine .cd hr ?_ ?_ <;> intro q hr
 ·refine .seq (.r0 G (.mu 1 (.p0 (v := ag (G1 (0 - a))) (tr (y := some (.pure (ag (IntKind.wrap .i64 (0 - a))))) xy) (.mu 1 (.done (.ret ?_))))))
  obtain rfl := oi hr
  exact aH.r1 [ag (G1 (0 - a))]
 refine .skip (.seq (.ru G (.ret ?_)))
 obtain rfl := oi hr
 exact aH.r1 [ag a]

theorem gL {b : aj} {a : aj} (h : ([.agg [.at (.bool b.Num.Negative), slT iCu b.Num.Groups, .at (.bool b.Den.Negative), slT iCu b.Den.Groups]] : List AV) = [.agg [.at (.bool a.Num.Negative), slT iCu a.Num.Groups, .at (.bool a.Den.Negative), slT iCu a.Den.Groups]]) : b = a := by
 obtain ⟨⟨_, _⟩, ⟨_, _⟩⟩ := b
 obtain ⟨⟨_, _⟩, ⟨_, _⟩⟩ := a
 simp only [List.cons.injEq, AV.agg.injEq, AV.at.injEq, Value.int.injEq, Value.bool.injEq, AV.fn.injEq, AV.pp.injEq, true_and, and_true, dt] at h
 simp_all
theorem mS (n : Nat) {b : aj} {a : aj} (h : ([.agg (aj.c b)] : List AV) = [.agg (aj.c a)]) : cH n b = cH n a := by
 obtain rfl := gL h
 rfl
theorem dO (n : Nat) (a : aj) (r : Bool) (hr : cH n a = some r) : aK Tryz.prog 101 [.agg (aj.c a)] (aB r) := by
 unfold cH at hr
 refine aK.bd G Tryz.func101 [.tmp 2] ?_
 unfold Tryz.f101
 simp only [gS]
 refine .seq (.r2 G 27 [(1, .hp 0 0)] [.own (aj.c a)] (.seq (.seq ?_)))
 obtain ⟨o, d, hr⟩ := bd hr
 rcases bT (!o) with b | b
 ·replace hr := bY b hr
  refine .g1 G (ok0 (eC n a.Num o d)) (.mu 2 (.ca cf0 (.p0 (v := aB true) (eB b) (.mu 12 (.done (.nh [1, 18] [.own (aj.c a)] (.cT kRf (.seq (.ru G (.ret ?_))))))))))
  obtain rfl := oi hr
  exact aH.r1 [aB false]
 replace hr := bW b hr
 obtain ⟨p, f, hr⟩ := bd hr
 rcases bT (!p) with e | e
 ·replace hr := bY e hr
  refine .gn G (ca1 (ok0 (eC n a.Num o d)) (ca3 (ok0 (eC n a.Den p f)))) (.mu 2 (.ca cf0 (.p0 (v := aB false) (eB b) (.mu 3 (.ca (cfA (fun h => by rw [sv f d (n9 n h)]) cf0) (.pure (v := aB true) kRf (eB e) (.mu 7 (.done (.nh [1, 18] [.own (aj.c a)] (.cT kRf (.seq (.ru G (.ret ?_)))))))))))))
  obtain rfl := oi hr
  exact aH.r1 [aB false]
 replace hr := bW e hr
 obtain ⟨s, q, hr⟩ := bd hr
 refine .gn G (ca1 (ok0 (eC n a.Num o d)) (ca1 (ok0 (eC n a.Den p f)) (ca3 (ok0 (eZ n a.Den s q))))) (.mu 2 (.ca cf0 (.p0 (v := aB false) (eB b) (.mu 3 (.ca (cfA (fun h => by rw [sv f d (n9 n h)]) cf0) (.pure (v := aB false) kRf (eB e) (.mu 4 (.ca (cfF (cfF cf0)) (.mu 2 (.done (.nh [1, 18] [.own (aj.c a)] ?_)))))))))))
 refine .cd hr ?_ ?_ <;> intro t hr
 ·refine .seq (.ru G (.ret ?_))
  obtain rfl := oi hr
  exact aH.r1 [aB false]
 refine .skip (.seq ?_)
 obtain ⟨g, i, j, k, l, m, hr⟩ := bd3 hr
 refine .gn G (ca1 (ok0 (mF n a.Num a.Den g i)) (ca1 (ok0 (im n 1 j k)) (ca3 (ok0 (mN n g j l m))))) (.mu 4 (.ca cf0 (.ca (cfF cf0) (.ca (cfF (cfF cf0)) (.mu 2 (.done (.ret ?_)))))))
 obtain rfl := oi hr
 exact aH.r1 [aB ((l : Int) == 0)]

theorem rA (n : Nat) (f : aj) (r : aj) (hr : gY n f = some r) : aK Tryz.prog 159 [.agg (aj.c f)] (.agg (aj.c r)) := by
 unfold gY at hr
 refine aK.bd G Tryz.func159 [.cell 2 42] ?_
 unfold Tryz.f159
 simp only [gS]
 refine .seq (.r2 G 12 [(1, .hp 0 0), (2, .hp 1 0)] [.own (aj.c f), .own zN2] (.seq ?_))
 obtain ⟨j, a, g, b, k, d, hr⟩ := bd3 hr
 obtain ⟨i, e, hr⟩ := bd hr
 refine .tn G (ca1 (ok0 (fC n f.Num j a)) (ca1 (ok0 (fC n j g b)) (ca1 (ok0 (fC n f.Den k d)) (ca3 (ok0 (fC n k i e)))))) (.mu 2 (.ca cf0 (.ca (cfA (fun h => by rw [sv b a (fA n h)]) cf0) (.mu 2 (.ca (cfA (fun h => by rw [sv d a (fA n h)]) (cfA (fun h => by rw [sv d b (fA n h)]) cf0)) (.ca (cfA (fun h => by rw [sv e a (fA n h)]) (cfA (fun h => by rw [sv e b (fA n h)]) (cfA (fun h => by rw [sv e d (fA n h)]) cf0))) (.mu 2 ?_)))))))
 refine .done (kRa ?_)
 refine .nh [2] [.own (aj.c f), .own [aB g.Negative, av g.Groups, aB i.Negative, av i.Groups]] (.ret ?_)
 obtain rfl := oi hr
 exact aH.r1 [.agg [aB g.Negative, av g.Groups, aB i.Negative, av i.Groups]]

theorem iG (n : Nat) {b : aj} {a : aj} (h : ([.agg (aj.c b)] : List AV) = [.agg (aj.c a)]) : bI n b = bI n a := by
 obtain rfl := gL h
 rfl
theorem cn (n : Nat) (a : aj) (r : aj) (hr : bI n a = some r) : aK Tryz.prog 121 [.agg (aj.c a)] (.agg (aj.c r)) := by
 unfold bI at hr
 refine aK.bd G Tryz.func121 [.cell 2 42] ?_
 unfold Tryz.f121
 simp only [gS]
 refine .seq (.r2 G 8 [(1, .hp 0 0), (2, .hp 1 0)] [.own (aj.c a), .own zN2] (.seq (.seq ?_)))
 obtain ⟨h, b, hr⟩ := bd hr
 refine .g1 G (ok0 (dO n a h b)) (.mu 1 (.ca cf0 (.done (.nh [1, 2, 4] [.own (aj.c a), .own zN2] ?_))))
 refine .cd hr ?_ ?_ <;> intro i hr
 ·refine .seq ?_
  obtain ⟨d, e, hr⟩ := bd hr
  refine .g1 G (ok0 (rA n a d e)) (.mu 1 (.ca cf0 (.mu 1 (.done (.nh [2] [.own (aj.c a), .own (aj.c d)] (.ret ?_))))))
  obtain rfl := oi hr
  exact aH.r1 [.agg (aj.c d)]
 refine .skip (.seq ?_)
 obtain ⟨f, g, hr⟩ := bd hr
 refine .g1 G (ok0 (cB n 0 f g)) (.ca cf0 (.mu 1 (.done (.nh [2] [.own (aj.c a), .own (aj.c f)] (.ret ?_)))))
 obtain rfl := oi hr
 exact aH.r1 [.agg (aj.c f)]

theorem ji (n : Nat) {b : aj} {a : aj} (h : ([.agg (aj.c b)] : List AV) = [.agg (aj.c a)]) : bE n b = bE n a := by
 obtain rfl := gL h
 rfl
theorem bK (n : Nat) (a : aj) (r : Int) (hr : bE n a = some r) : aK Tryz.prog 107 [.agg (aj.c a)] (ag r) := by
 unfold bE at hr
 refine aK.bd G Tryz.func107 [.tmp 2] ?_
 unfold Tryz.f107
 simp only [gS]
 refine .seq (.r2 G 7 [(1, .hp 0 0)] [.own (aj.c a)] (.seq ?_))
 obtain ⟨e, b, f, d, hr⟩ := bd2 hr
 refine .gn G (ca1 (ok0 (cn n a e b)) (ca3 (ok0 (eZ n e.Num f d)))) (.mu 1 (.ca cf0 (.mu 1 (.ca (cfF cf0) (.mu 1 (.done (.ret ?_)))))))
 obtain rfl := oi hr
 exact aH.r1 [ag f]

theorem uc (n : Nat) (d : aj) (r : aj) (hr : ka n d = some r) : aK Tryz.prog 120 [.agg (aj.c d)] (.agg (aj.c r)) := by
 unfold ka at hr
 refine aK.bd G Tryz.func120 [.cell 2 42] ?_
 unfold Tryz.f120
 simp only [gS]
 refine .seq (.r2 G 11 [(1, .hp 0 0), (2, .hp 1 0)] [.own (aj.c d), .own zN2] (.seq ?_))
 obtain ⟨a, e, hr⟩ := bd hr
 refine .g1 G (ok0 (cn n d a e)) (.mu 1 (.ca cf0 (.mu 1 (.done (.nh [1, 2] [.own (aj.c a), .own zN2] (.seq ?_))))))
 obtain ⟨b, f, hr⟩ := bd hr
 refine .t1 G (ok0 (fC n a.Num b f)) (.mu 2 (.ca cf0 (.mu 4 ?_)))
 refine .done (kRa ?_)
 refine .nh [2] [.own (aj.c a), .own [aB b.Negative, av b.Groups, aB a.Den.Negative, av a.Den.Groups]] (.ret ?_)
 obtain rfl := oi hr
 exact aH.r1 [.agg [aB b.Negative, av b.Groups, aB a.Den.Negative, av a.Den.Groups]]

theorem pt {b : ae} {y : ae} {a : ae} {c : ae} (h : ([.agg [.at (.bool b.Negative), slT iCu b.Groups], .agg [.at (.bool y.Negative), slT iCu y.Groups]] : List AV) = [.agg [.at (.bool a.Negative), slT iCu a.Groups], .agg [.at (.bool c.Negative), slT iCu c.Groups]]) : b = a /\ y = c := by
 obtain ⟨_, _⟩ := b
 obtain ⟨_, _⟩ := a
 obtain ⟨_, _⟩ := y
 obtain ⟨_, _⟩ := c
 simp only [List.cons.injEq, AV.agg.injEq, AV.at.injEq, Value.int.injEq, Value.bool.injEq, AV.fn.injEq, AV.pp.injEq, true_and, and_true, dt] at h
 simp_all
theorem gr (n : Nat) {b : ae} {y : ae} {a : ae} {d : ae} (h : ([.agg (ae.c b), .agg (ae.c y)] : List AV) = [.agg (ae.c a), .agg (ae.c d)]) : cJ n b y = cJ n a d := by
 obtain ⟨rfl, rfl⟩ := pt h
 rfl
theorem dH (n : Nat) (a : ae) (y : ae) (r : ae) (hr : cJ n a y = some r) : aK Tryz.prog 123 [.agg (ae.c a), .agg (ae.c y)] (.agg (ae.c r)) := by
 unfold cJ at hr
 refine aK.bd G Tryz.func123 [.cell 4 40] ?_
 unfold Tryz.f123
 simp only [gS]
 refine .seq (.r2 G 16 [(2, .hp 0 0), (3, .hp 1 0), (4, .hp 2 0)] [.own (ae.c a), .own (ae.c y), .own [aB false, nS]] (.seq ?_))
 obtain ⟨i, b, j, d, k, e, hr⟩ := bd3 hr
 obtain ⟨f, g, hr⟩ := bd hr
 refine .tn G (ca1 (ok0 (bM n a i b)) (ca1 (ok0 (bM n y j d)) (ca1 (ok0 (tF n i j k e)) (ca3 (ok0 (bF n (a.Negative != y.Negative) k f g)))))) (.mu 6 (.ca cf0 (.mu 1 (.ca (cfA (fun h => by rw [sv d b (fU n h)]) cf0) (.ca (cfF (cfF cf0)) (.ca (cfF (cfF (cfF cf0))) (.mu 1 ?_)))))))
 refine .done (kRa ?_)
 refine .nh [4] [.own (ae.c a), .own (ae.c y), .own (ae.c f)] (.ret ?_)
 obtain rfl := oi hr
 exact aH.r1 [.agg (ae.c f)]

theorem uG (n : Nat) (negative : Bool) (a : List Int) (other : Bool) (b : List Int) (r : ae) (hr : kY n negative a other b = some r) : aK Tryz.prog 163 [aB negative, av a, aB other, av b] (.agg (ae.c r)) := by
 unfold kY at hr
 refine aK.bd G Tryz.func163 [.cell 8 40] ?_
 unfold Tryz.f163
 simp only [gS]
 refine .seq (.r5 G [0, 1, 2, 3] [(8, .hp 0 0)] [.own [aB false, nS]] (.seq (.block (.seq (.r4 G [0, 1, 2, 3, 8] [(9, aB (negative == other))] ?_)))))
 refine .cd hr ?_ ?_ <;> intro s hr
 ·refine .seq ?_
  obtain ⟨p, k, l, m, hr⟩ := bd2 hr
  refine .gn G (ca1 (ok0 (pv n a b p k)) (ca3 (ok0 (bF n negative p l m)))) (.mu 3 (.ca cf0 (.ca (cfF cf0) (.mu 1 (.done (.nh [8] [.own (ae.c l)] (.ret ?_)))))))
  obtain rfl := oi hr
  exact aH.r1 [.agg (ae.c l)]
 refine .seq ?_
 obtain ⟨t, o, hr⟩ := bd hr
 refine .g1 G (ok0 (jL n a b t o)) (.mu 2 (.ca cf0 (.mu 2 (.done (.nh [0, 1, 2, 3, 8, 18] [.own [aB false, nS]] ?_)))))
 refine .cd hr ?_ ?_ <;> intro u hr
 ·refine .seq ?_
  obtain ⟨q, f, d, g, hr⟩ := bd2 hr
  refine .gn G (ca1 (ok0 (kB n a b q f)) (ca3 (ok0 (bF n negative q d g)))) (.mu 3 (.ca cf0 (.ca (cfF cf0) (.mu 1 (.done (.nh [8] [.own (ae.c d)] (.ret ?_)))))))
  obtain rfl := oi hr
  exact aH.r1 [.agg (ae.c d)]
 refine .skip (.pop (.seq ?_))
 obtain ⟨h, i, e, j, hr⟩ := bd2 hr
 refine .gn G (ca1 (ok0 (kB n b a h i)) (ca3 (ok0 (bF n other h e j)))) (.mu 3 (.ca cf0 (.ca (cfF cf0) (.mu 1 (.done (.nh [8] [.own (ae.c e)] (.ret ?_)))))))
 obtain rfl := oi hr
 exact aH.r1 [.agg (ae.c e)]

theorem ve (n : Nat) (a : ae) (y : ae) (r : ae) (hr : kW n a y = some r) : aK Tryz.prog 124 [.agg (ae.c a), .agg (ae.c y)] (.agg (ae.c r)) := by
 unfold kW at hr
 refine aK.bd G Tryz.func124 [.cell 4 40] ?_
 unfold Tryz.f124
 simp only [gS]
 refine .seq (.r2 G 14 [(2, .hp 0 0), (3, .hp 1 0), (4, .hp 2 0)] [.own (ae.c a), .own (ae.c y), .own [aB false, nS]] (.seq ?_))
 obtain ⟨g, b, i, d, e, f, hr⟩ := bd3 hr
 refine .tn G (ca1 (ok0 (bM n a g b)) (ca1 (ok0 (bM n y i d)) (ca3 (ok0 (uG n a.Negative g y.Negative i e f))))) (.mu 3 (.ca cf0 (.mu 3 (.ca (cfA (fun h => by rw [sv d b (fU n h)]) cf0) (.ca (cfF (cfF cf0)) (.mu 1 ?_))))))
 refine .done (kRa ?_)
 refine .nh [4] [.own (ae.c a), .own (ae.c y), .own (ae.c e)] (.ret ?_)
 obtain rfl := oi hr
 exact aH.r1 [.agg (ae.c e)]

theorem fO (n : Nat) (o : aj) (y : aj) (r : aj) (hr : eL n o y = some r) : aK Tryz.prog 80 [.agg (aj.c o), .agg (aj.c y)] (.agg (aj.c r)) := by
 unfold eL at hr
 refine aK.bd G Tryz.func80 [.cell 4 42] ?_
 unfold Tryz.f80
 simp only [gS]
 refine .seq (.r2 G 26 [(2, .hp 0 0), (3, .hp 1 0), (4, .hp 2 0)] [.own (aj.c o), .own (aj.c y), .own zN2] (.seq ?_))
 obtain ⟨f, i, g, j, hr⟩ := bd2 hr
 refine .tn G (ca1 (ok0 (cn n o f i)) (ca3 (ok0 (cn n y g j)))) (.mu 1 (.ca cf0 (.mu 1 (.ca (cfA (fun h => by rw [sv j i (iG n h)]) cf0) (.mu 2 ?_)))))
 refine .done (kRa ?_)
 refine .nh [2, 3, 4] [.own (aj.c f), .own (aj.c g), .own zN2] (.seq ?_)
 obtain ⟨p, b, q, d, s, k, hr⟩ := bd3 hr
 obtain ⟨l, a, e, m, hr⟩ := bd2 hr
 refine .tn G (ca1 (ok0 (dH n f.Num g.Den p b)) (ca1 (ok0 (dH n g.Num f.Den q d)) (ca1 (ok0 (ve n p q s k)) (ca1 (ok0 (dH n f.Den g.Den l a)) (ca3 (ok0 (gl n s l e m))))))) (.mu 4 (.ca cf0 (.mu 4 (.ca (cfA (fun h => by rw [sv d b (gr n h)]) cf0) (.ca (cfF (cfF cf0)) (.mu 4 (.ca (cfA (fun h => by rw [sv a b (gr n h)]) (cfA (fun h => by rw [sv a d (gr n h)]) (cfF cf0))) (.ca (cfF (cfF (cfF (cfF cf0)))) (.mu 1 ?_)))))))))
 refine .done (kRa ?_)
 refine .nh [4] [.own (aj.c f), .own (aj.c g), .own (aj.c e)] (.ret ?_)
 obtain rfl := oi hr
 exact aH.r1 [.agg (aj.c e)]

theorem n3 {b : aj} {y : aj} {a : aj} {c : aj} (h : ([.agg [.at (.bool b.Num.Negative), slT iCu b.Num.Groups, .at (.bool b.Den.Negative), slT iCu b.Den.Groups], .agg [.at (.bool y.Num.Negative), slT iCu y.Num.Groups, .at (.bool y.Den.Negative), slT iCu y.Den.Groups]] : List AV) = [.agg [.at (.bool a.Num.Negative), slT iCu a.Num.Groups, .at (.bool a.Den.Negative), slT iCu a.Den.Groups], .agg [.at (.bool c.Num.Negative), slT iCu c.Num.Groups, .at (.bool c.Den.Negative), slT iCu c.Den.Groups]]) : b = a /\ y = c := by
 obtain ⟨⟨_, _⟩, ⟨_, _⟩⟩ := b
 obtain ⟨⟨_, _⟩, ⟨_, _⟩⟩ := a
 obtain ⟨⟨_, _⟩, ⟨_, _⟩⟩ := y
 obtain ⟨⟨_, _⟩, ⟨_, _⟩⟩ := c
 simp only [List.cons.injEq, AV.agg.injEq, AV.at.injEq, Value.int.injEq, Value.bool.injEq, AV.fn.injEq, AV.pp.injEq, true_and, and_true, dt] at h
 simp_all
theorem lL (n : Nat) {b : aj} {y : aj} {a : aj} {d : aj} (h : ([.agg (aj.c b), .agg (aj.c y)] : List AV) = [.agg (aj.c a), .agg (aj.c d)]) : cC n b y = cC n a d := by
 obtain ⟨rfl, rfl⟩ := n3 h
 rfl
theorem dT (n : Nat) (a : aj) (y : aj) (r : aj) (hr : cC n a y = some r) : aK Tryz.prog 75 [.agg (aj.c a), .agg (aj.c y)] (.agg (aj.c r)) := by
 unfold cC at hr
 refine aK.bd G Tryz.func75 [.cell 4 42] ?_
 unfold Tryz.f75
 simp only [gS]
 refine .seq (.r2 G 9 [(2, .hp 0 0), (3, .hp 1 0), (4, .hp 2 0)] [.own (aj.c a), .own (aj.c y), .own zN2] (.seq ?_))
 obtain ⟨f, b, d, e, hr⟩ := bd2 hr
 refine .tn G (ca1 (ok0 (uc n y f b)) (ca3 (ok0 (fO n a f d e)))) (.mu 2 (.ca cf0 (.ca (cfF cf0) (.mu 1 ?_))))
 refine .done (kRa ?_)
 refine .nh [4] [.own (aj.c a), .own (aj.c y), .own (aj.c d)] (.ret ?_)
 obtain rfl := oi hr
 exact aH.r1 [.agg (aj.c d)]

theorem ml (n : Nat) (p : aj) (b : aj) (a : aj) (tip : aj) (r : aj) (hr : jw n p b a tip = some r) : aK Tryz.prog 74 [.agg (aj.c p), .agg (aj.c b), .agg (aj.c a), .agg (aj.c tip)] (.agg (aj.c r)) := by
 unfold jw at hr
 refine aK.bd G Tryz.func74 [.cell 8 42] ?_
 unfold Tryz.f74
 simp only [gS]
 refine .seq (.r2 G 12 [(7, .hp 3 0), (8, .hp 4 0)] [.own (aj.c p), .own (aj.c b), .own (aj.c a), .own (aj.c tip), .own zN2] (.seq ?_))
 obtain ⟨g, d, e, f, hr⟩ := bd2 hr
 refine .tn G (ca1 (ok0 (cB n 1 g d)) (ca3 (ok0 (dT n g tip e f)))) (.ca cf0 (.mu 1 (.ca (cfF cf0) (.mu 1 ?_))))
 refine .done (kRa ?_)
 refine .nh [8] [.own (aj.c p), .own (aj.c b), .own (aj.c a), .own (aj.c tip), .own (aj.c e)] (.ret ?_)
 obtain rfl := oi hr
 exact aH.r1 [.agg (aj.c e)]

theorem lO (n : Nat) {b : aj} {y : aj} {a : aj} {d : aj} (h : ([.agg (aj.c b), .agg (aj.c y)] : List AV) = [.agg (aj.c a), .agg (aj.c d)]) : cA n b y = cA n a d := by
 obtain ⟨rfl, rfl⟩ := n3 h
 rfl
theorem dS (n : Nat) (j : aj) (y : aj) (r : aj) (hr : cA n j y = some r) : aK Tryz.prog 78 [.agg (aj.c j), .agg (aj.c y)] (.agg (aj.c r)) := by
 unfold cA at hr
 refine aK.bd G Tryz.func78 [.cell 4 42] ?_
 unfold Tryz.f78
 simp only [gS]
 refine .seq (.r2 G 20 [(2, .hp 0 0), (3, .hp 1 0), (4, .hp 2 0)] [.own (aj.c j), .own (aj.c y), .own zN2] (.seq ?_))
 obtain ⟨a, b, d, e, hr⟩ := bd2 hr
 refine .tn G (ca1 (ok0 (cn n j a b)) (ca3 (ok0 (cn n y d e)))) (.mu 1 (.ca cf0 (.mu 1 (.ca (cfA (fun h => by rw [sv e b (iG n h)]) cf0) (.mu 2 ?_)))))
 refine .done (kRa ?_)
 refine .nh [2, 3, 4] [.own (aj.c a), .own (aj.c d), .own zN2] (.seq ?_)
 obtain ⟨l, f, m, g, k, i, hr⟩ := bd3 hr
 refine .tn G (ca1 (ok0 (dH n a.Num d.Num l f)) (ca1 (ok0 (dH n a.Den d.Den m g)) (ca3 (ok0 (gl n l m k i))))) (.mu 4 (.ca cf0 (.mu 4 (.ca (cfA (fun h => by rw [sv g f (gr n h)]) cf0) (.ca (cfF (cfF cf0)) (.mu 1 ?_))))))
 refine .done (kRa ?_)
 refine .nh [4] [.own (aj.c a), .own (aj.c d), .own (aj.c k)] (.ret ?_)
 obtain rfl := oi hr
 exact aH.r1 [.agg (aj.c k)]

theorem qW (n : Nat) (l : aj) (y : aj) (r : aj × Int) (hr : lN n l y = some r) : aK Tryz.prog 119 [.agg (aj.c l), .agg (aj.c y)] (.tup [.agg (aj.c r.1), ag r.2]) := by
 unfold lN at hr
 refine aK.bd G Tryz.func119 [.cell 4 42, .tmp 5] ?_
 unfold Tryz.f119
 simp only [gS]
 refine .seq (.r2 G 26 [(2, .hp 0 0), (3, .hp 1 0), (4, .hp 2 0)] [.own (aj.c l), .own (aj.c y), .own zN2] (.seq ?_))
 obtain ⟨e, f, b, g, hr⟩ := bd2 hr
 refine .tn G (ca1 (ok0 (cn n l e f)) (ca3 (ok0 (cn n y b g)))) (.mu 1 (.ca cf0 (.mu 1 (.ca (cfA (fun h => by rw [sv g f (iG n h)]) cf0) (.mu 2 ?_)))))
 refine .done (kRa ?_)
 refine .nh [2, 3, 4] [.own (aj.c e), .own (aj.c b), .own zN2] (.seq (.seq ?_))
 obtain ⟨p, m, hr⟩ := bd hr
 refine .g1 G (ok0 (eZ n b.Num p m)) (.mu 2 (.ca cf0 (.mu 1 (.done (.nh [2, 3, 4, 13] [.own (aj.c e), .own (aj.c b), .own zN2] ?_)))))
 refine .cd hr ?_ ?_ <;> intro q hr
 ·refine .seq (.r4 G [4] [(5, ag 14)] (.ret ?_))
  obtain rfl := oi hr
  exact aH.ret (vs := [.agg zN2, ag 14]) kRf (Sn.tup (SnL.cons (Sn.agg (Sp (SnL.cons Sn.ft (Sp (SnL.cons Sn.ft SnL.nil))))) (Sp SnL.nil)))
 refine .skip (.seq ?_)
 obtain ⟨o, i, j, a, d, k, hr⟩ := bd3 hr
 refine .tn G (ca1 (ok0 (dH n e.Num b.Den o i)) (ca1 (ok0 (dH n e.Den b.Num j a)) (ca3 (ok0 (gl n o j d k))))) (.mu 4 (.ca cf0 (.mu 4 (.ca (cfA (fun h => by rw [sv a i (gr n h)]) cf0) (.ca (cfF (cfF cf0)) (.mu 2 ?_))))))
 refine .done (kRa ?_)
 refine .nh [4, 5] [.own (aj.c e), .own (aj.c b), .own (aj.c d)] (.ret ?_)
 obtain rfl := oi hr
 exact aH.ret (vs := [.agg (aj.c d), ag 0]) kRf (Sn.tup (Sp (Sp SnL.nil)))

theorem s9 (n : Nat) (a : aj) (b : aj) (c : aj) (r : aj) (hr : ns n a b c = some r) : aK Tryz.prog 73 [.agg (aj.c a), .agg (aj.c b), .agg (aj.c c)] (.agg (aj.c r)) := by
 unfold ns at hr
 refine aK.bd G Tryz.func73 [.cell 6 42] ?_
 unfold Tryz.f73
 simp only [gS]
 refine .seq (.r2 G 24 [(3, .hp 0 0), (4, .hp 1 0), (5, .hp 2 0), (6, .hp 3 0)] [.own (aj.c a), .own (aj.c b), .own (aj.c c), .own zN2] (.seq ?_))
 obtain ⟨k, d, l, e, m, f, hr⟩ := bd3 hr
 obtain ⟨o, g, i, j, hr⟩ := bd2 hr
 refine .tn G (ca1 (ok0 (dS n a a k d)) (ca1 (ok0 (dT n a b l e)) (ca1 (ok0 (dT n a c m f)) (ca1 (ok0 (dS n l m o g)) (ca3 (ok0 (qW n k o i j))))))) (.mu 2 (.ca cf0 (.mu 2 (.ca (cfF cf0) (.mu 2 (.ca (cfF (cfA (fun h => by rw [sv f e (lL n h)]) cf0)) (.ca (cfA (fun h => by rw [sv g d (lO n h)]) (cfF (cfF cf0))) (.ca (cfF (cfF (cfF (cfF cf0)))) (.mu 6 ?_)))))))))
 refine .done (kRa ?_)
 refine .nh [6, 7] [.own (aj.c a), .own (aj.c b), .own (aj.c c), .own zN2, .own (aj.c i.1)] (.seq (.r5 G [6] [] [.own (aj.c a), .own (aj.c b), .own (aj.c c), .own (aj.c i.1), .own (aj.c i.1)] (.ret ?_)))
 obtain rfl := oi hr
 exact aH.r1 [.agg (aj.c i.1)]

theorem pZ (n : Nat) (t : A3 Int) (p : Int) (p' : Int) (u : Int) (j : Int) (i : Int) (f : List Int) (g : Int) (e : Bool) (d : List Int) (b : Bool) (a : List Int) (r : Bool × List Int × Bool × List Int) (hr : jZ n t p p' u j i f g e d b a = some r) : dz 5 Tryz.prog 117 [.agg (aD.c t), .hp 0 0, .hp 1 0, .hp 2 0, .hp 3 0, .hp 4 0] [.own [ag p, ag p', ag u, ag j, ag i, bu f], .own [ag g], .own [aB e, av d, aB b, av a], .own [.fn 74 [] []], .own [.fn 73 [] []]] (.tup []) [.own [ag p, ag p', ag u, ag j, ag i, bu f], .own [ag g], .own [aB r.1, av r.2.1, aB r.2.2.1, av r.2.2.2], .own [.fn 74 [] []], .own [.fn 73 [] []]] := by
 unfold jZ at hr
 refine dz.qQ G Tryz.func117 (c := (Tryz.f117.body).getD .skip) rfl (us := []) (s := mkS 104 0 [(0, .agg (aD.c t)), (1, .hp 0 0), (2, .hp 1 0), (3, .hp 2 0), (4, .hp 3 0), (5, .hp 4 0)]) kRf (rs := []) rfl ?_
 unfold Tryz.f117
 simp only [gS]
 refine .seq (.r5 G [1, 2, 3, 4, 5] [(6, .hp 5 0)] [.own [ag p, ag p', ag u, ag j, ag i, bu f], .own [ag g], .own [aB e, av d, aB b, av a], .own [.fn 74 [] []], .own [.fn 73 [] []], .own (aD.c t)] (.seq (.r5 G [1, 2, 3, 4, 5, 6] [(7, .hp 6 0)] [.own [ag p, ag p', ag u, ag j, ag i, bu f], .own [ag g], .own [aB e, av d, aB b, av a], .own [.fn 74 [] []], .own [.fn 73 [] []], .own (aD.c t), .own [aB false, nS, aB false, nS, aB false, nS, aB false, nS, aB false, nS, aB false, nS]] (.seq (.r4 G [1, 2, 3, 4, 5, 6, 7] [(8, ag 0)] (.seq (.seq (.r4 G [1, 2, 3, 4, 5, 7, 8] [(12, .agg (aD.c t)), (13, ag 0)] (.block ?_)))))))))
 refine .EM 4 (UNR.one ?_)
 refine .seq (.r4 G [1, 2, 3, 4, 5, 7, 8, 12, 13] [(14, aB true)] (.seq (.cT kRf (.skip (.seq ?_)))))
 replace hr := bd hr; obtain ⟨AH, pN, hr⟩ := hr
 refine .xZ (Q := fun x st' => match (generalizing := false) AH with | (k, l, o, q, p8) => x = .normal /\ Wk 5 st' ⟨mkS 104 0 [(1, .hp 0 0), (2, .hp 1 0), (3, .hp 2 0), (4, .hp 3 0), (5, .hp 4 0), (7, .hp 5 0), (8, ag p8), (12, .agg (aD.c t)), (13, ag 0)], [.own [ag p, ag p', ag u, ag j, ag i, bu f], .own [ag g], .own [aB e, av d, aB b, av a], .own [.fn 74 [] []], .own [.fn 73 [] []], .own [aB k, av l, aB o, av q, aB false, nS, aB false, nS, aB false, nS, aB false, nS]]⟩) ?_ ?_
 ·clear hr
  have hr := pN
  clear pN
  refine .block (.seq (.r4 G [1, 2, 3, 4, 5, 7, 8, 12, 13] [(9, ag 0), (10, ag t.e0)] (.seq ?_)))
  obtain ⟨Af, hr⟩ := gd hr
  obtain ⟨S, Em, hr⟩ := bd hr
  refine .t1 G (ok0 (iQ n (G1 ((G1 (2 * (gt f t.e0))) - g)) 2 S Em)) (.mu 4 (.pk (v := .pp (f.flatMap (iC .i64)) (t.e0.toNat * 1)) (tr (ar Af)) (.pk (v := ag (gt f t.e0)) (tr (aI (aJ (aG .i64) (aE Af) z1 (by omega : t.e0.toNat * 1 = t.e0.toNat * 1 + 0) kRf))) (.mu 3 (.ca cf0 (.mu 5 ?_))))))
  refine .done (kRa ?_)
  refine .nh [1, 2, 3, 4, 5, 7, 8, 9, 12, 13] [.own [ag p, ag p', ag u, ag j, ag i, bu f], .own [ag g], .own [aB e, av d, aB b, av a], .own [.fn 74 [] []], .own [.fn 73 [] []], .own (aD.c t), .own [aB S.1.Num.Negative, av S.1.Num.Groups, aB S.1.Den.Negative, av S.1.Den.Groups, aB false, nS, aB false, nS, aB false, nS, aB false, nS]] (.seq ?_)
  obtain ⟨FJ, Eu, hr⟩ := bd hr
  refine .g1 G (ok0 (bK n S.1 FJ Eu)) (.mu 3 (.ca cf0 (.mu 1 (.done (.nh [1, 2, 3, 4, 5, 7, 8, 12, 13, 35] [.own [ag p, ag p', ag u, ag j, ag i, bu f], .own [ag g], .own [aB e, av d, aB b, av a], .own [.fn 74 [] []], .own [.fn 73 [] []], .own (aD.c t), .own [aB S.1.Num.Negative, av S.1.Num.Groups, aB S.1.Den.Negative, av S.1.Den.Groups, aB false, nS, aB false, nS, aB false, nS, aB false, nS]] ?_)))))
  refine .cd hr ?_ ?_ <;> intro GU hr
  ·refine .ru G (.pop ?_)
   obtain rfl := oi hr
   exact ⟨rfl, ((Wk.gc [1, 2, 3, 4, 5, 7, 8, 12, 13] [(0, true), (1, true), (2, true), (3, true), (4, true), (6, true)] rfl trivial).to)⟩
  refine .skip (.pop ?_)
  obtain rfl := oi hr
  exact ⟨rfl, ((Wk.gc [1, 2, 3, 4, 5, 7, 8, 12, 13] [(0, true), (1, true), (2, true), (3, true), (4, true), (6, true)] rfl trivial).to)⟩
 rcases AH with ⟨k, l, o, q, p8⟩
 rintro x st' sN
 clear pN
 obtain ⟨rfl, sN⟩ := sN
 refine .wk sN (.ru G (UNR.next (.n2 104 [(1, .hp 0 0), (2, .hp 1 0), (3, .hp 2 0), (4, .hp 3 0), (5, .hp 4 0), (7, .hp 5 0), (8, ag p8), (12, .agg (aD.c t)), (13, ag 1)] [.own [ag p, ag p', ag u, ag j, ag i, bu f], .own [ag g], .own [aB e, av d, aB b, av a], .own [.fn 74 [] []], .own [.fn 73 [] []], .own [aB k, av l, aB o, av q, aB false, nS, aB false, nS, aB false, nS, aB false, nS]] (.seq (.r4 G [1, 2, 3, 4, 5, 7, 8, 12, 13] [(14, aB true)] (.seq (.cT kRf (.skip (.seq ?_)))))))))
 replace hr := bd hr; obtain ⟨C6, so, hr⟩ := hr
 refine .xZ (Q := fun x st' => match (generalizing := false) C6 with | (y, z, A, B, tR) => x = .normal /\ Wk 5 st' ⟨mkS 104 0 [(1, .hp 0 0), (2, .hp 1 0), (3, .hp 2 0), (4, .hp 3 0), (5, .hp 4 0), (7, .hp 5 0), (8, ag tR), (12, .agg (aD.c t)), (13, ag 1)], [.own [ag p, ag p', ag u, ag j, ag i, bu f], .own [ag g], .own [aB e, av d, aB b, av a], .own [.fn 74 [] []], .own [.fn 73 [] []], .own [aB k, av l, aB o, av q, aB y, av z, aB A, av B, aB false, nS, aB false, nS]]⟩) ?_ ?_
 ·clear hr
  have hr := so
  clear so
  refine .block (.seq (.r4 G [1, 2, 3, 4, 5, 7, 8, 12, 13] [(9, ag 1), (10, ag t.e1)] (.seq ?_)))
  obtain ⟨AY, hr⟩ := gd hr
  obtain ⟨T, Ez, hr⟩ := bd hr
  refine .t1 G (ok0 (iQ n (G1 ((G1 (2 * (gt f t.e1))) - g)) 2 T Ez)) (.mu 4 (.pk (v := .pp (f.flatMap (iC .i64)) (t.e1.toNat * 1)) (tr (ar AY)) (.pk (v := ag (gt f t.e1)) (tr (aI (aJ (aG .i64) (aE AY) z1 (by omega : t.e1.toNat * 1 = t.e1.toNat * 1 + 0) kRf))) (.mu 3 (.ca cf0 (.mu 5 ?_))))))
  refine .done (kRa ?_)
  refine .nh [1, 2, 3, 4, 5, 7, 8, 9, 12, 13] [.own [ag p, ag p', ag u, ag j, ag i, bu f], .own [ag g], .own [aB e, av d, aB b, av a], .own [.fn 74 [] []], .own [.fn 73 [] []], .own [aB k, av l, aB o, av q, aB T.1.Num.Negative, av T.1.Num.Groups, aB T.1.Den.Negative, av T.1.Den.Groups, aB false, nS, aB false, nS]] (.seq ?_)
  obtain ⟨FY, Gk, hr⟩ := bd hr
  refine .g1 G (ok0 (bK n T.1 FY Gk)) (.mu 3 (.ca cf0 (.mu 1 (.done (.nh [1, 2, 3, 4, 5, 7, 8, 12, 13, 35] [.own [ag p, ag p', ag u, ag j, ag i, bu f], .own [ag g], .own [aB e, av d, aB b, av a], .own [.fn 74 [] []], .own [.fn 73 [] []], .own [aB k, av l, aB o, av q, aB T.1.Num.Negative, av T.1.Num.Groups, aB T.1.Den.Negative, av T.1.Den.Groups, aB false, nS, aB false, nS]] ?_)))))
  refine .cd hr ?_ ?_ <;> intro GV hr
  ·refine .ru G (.pop ?_)
   obtain rfl := oi hr
   exact ⟨rfl, ((Wk.gc [1, 2, 3, 4, 5, 7, 8, 12, 13] kT6 rfl trivial).to)⟩
  refine .skip (.pop ?_)
  obtain rfl := oi hr
  exact ⟨rfl, ((Wk.gc [1, 2, 3, 4, 5, 7, 8, 12, 13] kT6 rfl trivial).to)⟩
 rcases C6 with ⟨y, z, A, B, tR⟩
 rintro x st' uF
 clear so
 obtain ⟨rfl, uF⟩ := uF
 refine .wk uF (.ru G (UNR.next (.n2 104 [(1, .hp 0 0), (2, .hp 1 0), (3, .hp 2 0), (4, .hp 3 0), (5, .hp 4 0), (7, .hp 5 0), (8, ag tR), (12, .agg (aD.c t)), (13, ag 2)] [.own [ag p, ag p', ag u, ag j, ag i, bu f], .own [ag g], .own [aB e, av d, aB b, av a], .own [.fn 74 [] []], .own [.fn 73 [] []], .own [aB k, av l, aB o, av q, aB y, av z, aB A, av B, aB false, nS, aB false, nS]] (.seq (.r4 G [1, 2, 3, 4, 5, 7, 8, 12, 13] [(14, aB true)] (.seq (.cT kRf (.skip (.seq ?_)))))))))
 replace hr := bd hr; obtain ⟨BZ, wN, hr⟩ := hr
 refine .xZ (Q := fun x st' => match (generalizing := false) BZ with | (ov, py, km, lY, w) => x = .normal /\ Wk 5 st' ⟨mkS 104 0 [(1, .hp 0 0), (2, .hp 1 0), (3, .hp 2 0), (4, .hp 3 0), (5, .hp 4 0), (7, .hp 5 0), (8, ag w), (12, .agg (aD.c t)), (13, ag 2)], [.own [ag p, ag p', ag u, ag j, ag i, bu f], .own [ag g], .own [aB e, av d, aB b, av a], .own [.fn 74 [] []], .own [.fn 73 [] []], .own [aB k, av l, aB o, av q, aB y, av z, aB A, av B, aB ov, av py, aB km, av lY]]⟩) ?_ ?_
 ·clear hr
  have hr := wN
  clear wN
  refine .block (.seq (.r4 G [1, 2, 3, 4, 5, 7, 8, 12, 13] [(9, ag 2), (10, ag t.e2)] (.seq ?_)))
  obtain ⟨A0, hr⟩ := gd hr
  obtain ⟨U, FN, hr⟩ := bd hr
  refine .t1 G (ok0 (iQ n (G1 ((G1 (2 * (gt f t.e2))) - g)) 2 U FN)) (.mu 4 (.pk (v := .pp (f.flatMap (iC .i64)) (t.e2.toNat * 1)) (tr (ar A0)) (.pk (v := ag (gt f t.e2)) (tr (aI (aJ (aG .i64) (aE A0) z1 (by omega : t.e2.toNat * 1 = t.e2.toNat * 1 + 0) kRf))) (.mu 3 (.ca cf0 (.mu 5 ?_))))))
  refine .done (kRa ?_)
  refine .nh [1, 2, 3, 4, 5, 7, 8, 9, 12, 13] [.own [ag p, ag p', ag u, ag j, ag i, bu f], .own [ag g], .own [aB e, av d, aB b, av a], .own [.fn 74 [] []], .own [.fn 73 [] []], .own [aB k, av l, aB o, av q, aB y, av z, aB A, av B, aB U.1.Num.Negative, av U.1.Num.Groups, aB U.1.Den.Negative, av U.1.Den.Groups]] (.seq ?_)
  obtain ⟨FX, Gb, hr⟩ := bd hr
  refine .g1 G (ok0 (bK n U.1 FX Gb)) (.mu 3 (.ca cf0 (.mu 1 (.done (.nh [1, 2, 3, 4, 5, 7, 8, 12, 13, 35] [.own [ag p, ag p', ag u, ag j, ag i, bu f], .own [ag g], .own [aB e, av d, aB b, av a], .own [.fn 74 [] []], .own [.fn 73 [] []], .own [aB k, av l, aB o, av q, aB y, av z, aB A, av B, aB U.1.Num.Negative, av U.1.Num.Groups, aB U.1.Den.Negative, av U.1.Den.Groups]] ?_)))))
  refine .cd hr ?_ ?_ <;> intro GQ hr
  ·refine .ru G (.pop ?_)
   obtain rfl := oi hr
   exact ⟨rfl, ((Wk.gc [1, 2, 3, 4, 5, 7, 8, 12, 13] kT6 rfl trivial).to)⟩
  refine .skip (.pop ?_)
  obtain rfl := oi hr
  exact ⟨rfl, ((Wk.gc [1, 2, 3, 4, 5, 7, 8, 12, 13] kT6 rfl trivial).to)⟩
 rcases BZ with ⟨ov, py, km, lY, w⟩
 rintro x st' wF
 clear wN
 obtain ⟨rfl, wF⟩ := wF
 refine .wk wF (.ru G (UNR.next (.n2 104 [(1, .hp 0 0), (2, .hp 1 0), (3, .hp 2 0), (4, .hp 3 0), (5, .hp 4 0), (7, .hp 5 0), (8, ag w), (12, .agg (aD.c t)), (13, ag 3)] [.own [ag p, ag p', ag u, ag j, ag i, bu f], .own [ag g], .own [aB e, av d, aB b, av a], .own [.fn 74 [] []], .own [.fn 73 [] []], .own [aB k, av l, aB o, av q, aB y, av z, aB A, av B, aB ov, av py, aB km, av lY]] (.seq (.r4 G [1, 2, 3, 4, 5, 7, 8, 12, 13] [(14, aB false)] (.seq (.cF kRf (.leave rfl (unF.exit rfl (.seq (.seq (.r4 G [3, 4, 5, 7, 8] [(39, ag w)] (.block (.seq (.r4 G [3, 4, 5, 7, 8, 39] [(40, aB ((w : Int) == 0))] ?_)))))))))))))))
 refine .cd hr ?_ ?_ <;> intro GR hr
 ·refine .ret ?_
  obtain rfl := oi hr
  exact gj.ret [] ((Wk.gc [] kT5 rfl trivial).to)
 refine .seq (.r4 G [3, 4, 5, 7, 8] [(42, aB ((w : Int) == 3))] ?_)
 refine .cd hr ?_ ?_ <;> intro GW hr
 ·refine .seq ?_
  obtain ⟨Ci, FG, BW, Gg, CL, Gi, hr⟩ := bd3 hr
  refine .tn G (ca1 (ok0 (cB n 0 Ci FG)) (ca1 (ok0 (ml n (aj.mk (ae.mk k l) (ae.mk o q)) (aj.mk (ae.mk y z) (ae.mk A B)) (aj.mk (ae.mk ov py) (ae.mk km lY)) Ci BW Gg)) (ca3 (ok0 (fO n (aj.mk (ae.mk e d) (ae.mk b a)) BW CL Gi))))) (.mu 8 (.ca cf0 (.ca (cfF cf0) (.ca (cfF (cfF cf0)) (.mu 1 ?_)))))
  refine .done (kRa ?_)
  refine .nh [] [.own [ag p, ag p', ag u, ag j, ag i, bu f], .own [ag g], .own (aj.c CL), .own [.fn 74 [] []], .own [.fn 73 [] []], .own [aB k, av l, aB o, av q, aB y, av z, aB A, av B, aB ov, av py, aB km, av lY]] (.ret ?_)
  obtain rfl := oi hr
  exact gj.ret [] ((Wk.gc [] kT5 rfl trivial).to)
 refine .skip (.pop (.seq (.block ?_)))
 replace hr := bd hr; obtain ⟨Cf, A7, hr⟩ := hr
 refine .aN (σ := fun z0 => match z0 with | (C, D, E, F, H, I, J, L, M, N, O, R) => ⟨mkS 104 0 [(3, .hp 2 0), (4, .hp 3 0), (5, .hp 4 0), (7, .hp 5 0), (8, ag w)], [.own [ag p, ag p', ag u, ag j, ag i, bu f], .own [ag g], .own [aB e, av d, aB b, av a], .own [.fn 74 [] []], .own [.fn 73 [] []], .own [aB C, av D, aB E, av F, aB H, av I, aB J, av L, aB M, av N, aB O, av R]]⟩) (Q := fun x st' => match (generalizing := false) Cf with | (W, X, Y, Z, jD, ki, lP, l8, lG, mM, mz, oq) => x = .exit 3 /\ Wk 5 st' ⟨mkS 104 0 [(3, .hp 2 0), (4, .hp 3 0), (5, .hp 4 0), (7, .hp 5 0), (8, ag w)], [.own [ag p, ag p', ag u, ag j, ag i, bu f], .own [ag g], .own [aB e, av d, aB b, av a], .own [.fn 74 [] []], .own [.fn 73 [] []], .own [aB W, av X, aB Y, av Z, aB jD, av ki, aB lP, av l8, aB lG, av mM, aB mz, av oq]]⟩) A7 ((Wk.gc [3, 4, 5, 7, 8] kT6 rfl trivial).to) ?_ ?_
 ·clear hr
  rintro m ⟨C, D, E, F, H, I, J, L, M, N, O, R⟩ hr
  refine CQ.sh ?_
  refine .seq (.seq ?_)
  replace hr := bd hr; obtain ⟨BX, mZ, hr⟩ := hr
  refine .F6 (Q := fun x st' => match (generalizing := false) BX with | .inl _ => x = .exit 3 /\ Wk 5 st' ⟨mkS 104 0 [(3, .hp 2 0), (4, .hp 3 0), (5, .hp 4 0), (7, .hp 5 0), (8, ag w)], [.own [ag p, ag p', ag u, ag j, ag i, bu f], .own [ag g], .own [aB e, av d, aB b, av a], .own [.fn 74 [] []], .own [.fn 73 [] []], .own [aB C, av D, aB E, av F, aB H, av I, aB J, av L, aB M, av N, aB O, av R]]⟩ | .inr (_) => x = .normal /\ Wk 5 st' ⟨mkS 104 0 [(3, .hp 2 0), (4, .hp 3 0), (5, .hp 4 0), (7, .hp 5 0), (8, ag w)], [.own [ag p, ag p', ag u, ag j, ag i, bu f], .own [ag g], .own [aB e, av d, aB b, av a], .own [.fn 74 [] []], .own [.fn 73 [] []], .own [aB C, av D, aB E, av F, aB H, av I, aB J, av L, aB M, av N, aB O, av R]]⟩) ?_ ?_
  ·clear hr
   have hr := mZ
   clear mZ
   obtain ⟨x8, na, hr⟩ := bd hr
   rcases bT ((decide (x8 > 0)) != ((w : Int) == 1)) with lW | lW
   ·replace hr := bY lW hr
    refine .t1 G (ok0 (bK n (aj.mk (ae.mk C D) (ae.mk E F)) x8 na)) (.mu 2 (.ca cf0 (.mu 3 (.pk (v := aB true) (eB lW) (.mu 11 ?_)))))
    refine .done (kRa ?_)
    refine .nh [3, 4, 5, 7, 8, 72] [.own [ag p, ag p', ag u, ag j, ag i, bu f], .own [ag g], .own [aB e, av d, aB b, av a], .own [.fn 74 [] []], .own [.fn 73 [] []], .own [aB C, av D, aB E, av F, aB H, av I, aB J, av L, aB M, av N, aB O, av R]] (.cT kRf (.skip ?_))
    obtain rfl := oi hr
    exact ⟨rfl, ((Wk.gc [3, 4, 5, 7, 8] kT6 rfl trivial).to)⟩
   replace hr := bW lW hr
   obtain ⟨F5, uy, FQ, y6, hr⟩ := bd2 hr
   refine .tn G (ca1 (ok0 (bK n (aj.mk (ae.mk C D) (ae.mk E F)) x8 na)) (ca1 (ok0 (bK n (aj.mk (ae.mk H I) (ae.mk J L)) F5 uy)) (ca3 (ok0 (bK n (aj.mk (ae.mk M N) (ae.mk O R)) FQ y6))))) (.mu 2 (.ca cf0 (.mu 3 (.pk (v := aB false) (eB lW) (.mu 3 (.ca (cfA (fun h => by rw [sv uy na (ji n h)]) cf0) (.mu 3 (.ca (cfA (fun h => by rw [sv y6 na (ji n h)]) (cfA (fun h => by rw [sv y6 uy (ji n h)]) cf0)) (.mu 3 ?_)))))))))
   refine .done (kRa ?_)
   refine .nh [3, 4, 5, 7, 8, 72] [.own [ag p, ag p', ag u, ag j, ag i, bu f], .own [ag g], .own [aB e, av d, aB b, av a], .own [.fn 74 [] []], .own [.fn 73 [] []], .own [aB C, av D, aB E, av F, aB H, av I, aB J, av L, aB M, av N, aB O, av R]] ?_
   refine .cd hr ?_ ?_ <;> intro GZ hr
   ·refine .skip ?_
    obtain rfl := oi hr
    exact ⟨rfl, ((Wk.gc [3, 4, 5, 7, 8] kT6 rfl trivial).to)⟩
   refine .leave rfl ?_
   obtain rfl := oi hr
   exact ⟨rfl, ((Wk.gc [3, 4, 5, 7, 8] kT6 rfl trivial).to)⟩
  rcases BX with ⟨⟩ | ⟨⟩
  ·rintro x st' V
   clear mZ
   obtain ⟨rfl, V⟩ := V
   refine uP _ rfl ?_
   obtain rfl := oi hr
   exact ⟨rfl, (V.trans ((Wk.gc [3, 4, 5, 7, 8] kT6 rfl trivial).to))⟩
  rintro x st' V
  clear mZ
  obtain ⟨rfl, V⟩ := V
  refine .wk V (.block (.ru G (.pop ?_)))
  exact az (H, I, J, L, M, N, O, R, C, D, E, F) hr ((Wk.gc [3, 4, 5, 7, 8] kT6 rfl trivial).to)
 rcases Cf with ⟨W, X, Y, Z, jD, ki, lP, l8, lG, mM, mz, oq⟩
 rintro x st' yN
 clear A7
 obtain ⟨rfl, yN⟩ := yN
 refine aU _ rfl (.wk yN (.seq ?_))
 obtain ⟨wh, Gp, hr⟩ := bd hr
 refine .g1 G (ok0 (s9 n (aj.mk (ae.mk W X) (ae.mk Y Z)) (aj.mk (ae.mk jD ki) (ae.mk lP l8)) (aj.mk (ae.mk lG mM) (ae.mk mz oq)) wh Gp)) (.mu 7 (.ca cf0 (.mu 2 (.done (.nh [3, 4, 7, 8, 11] [.own [ag p, ag p', ag u, ag j, ag i, bu f], .own [ag g], .own [aB e, av d, aB b, av a], .own [.fn 74 [] []], .own [.fn 73 [] []], .own [aB W, av X, aB Y, av Z, aB jD, av ki, aB lP, av l8, aB lG, av mM, aB mz, av oq], .own (aj.c wh)] (.seq (.seq (.r4 G [3, 4, 7, 11] [(91, aB ((w : Int) == 2))] ?_))))))))
 refine .cd hr ?_ ?_ <;> intro GP hr
 ·obtain ⟨xV, Gr, hr⟩ := bd hr
  refine .g1 G (ok0 (ml n (aj.mk (ae.mk W X) (ae.mk Y Z)) (aj.mk (ae.mk jD ki) (ae.mk lP l8)) (aj.mk (ae.mk lG mM) (ae.mk mz oq)) wh xV Gr)) (.mu 8 (.ca cf0 (.mu 1 (.done (.nh [3, 11] [.own [ag p, ag p', ag u, ag j, ag i, bu f], .own [ag g], .own [aB e, av d, aB b, av a], .own [.fn 74 [] []], .own [.fn 73 [] []], .own [aB W, av X, aB Y, av Z, aB jD, av ki, aB lP, av l8, aB lG, av mM, aB mz, av oq], .own (aj.c xV)] ?_)))))
  obtain ⟨FU, Gm, hr⟩ := bd hr
  refine .g1 G (ok0 (fO n (aj.mk (ae.mk e d) (ae.mk b a)) xV FU Gm)) (.mu 2 (.ca cf0 (.mu 1 (.done ?_))))
  obtain rfl := oi hr
  exact gj.normal [] ((Wk.gc [] kT5 rfl trivial).to)
 refine .skip ?_
 obtain ⟨Gl, FF, hr⟩ := bd hr
 refine .g1 G (ok0 (fO n (aj.mk (ae.mk e d) (ae.mk b a)) wh Gl FF)) (.mu 2 (.ca cf0 (.mu 1 (.done ?_))))
 obtain rfl := oi hr
 exact gj.normal [] ((Wk.gc [] kT5 rfl trivial).to)

theorem ia (n : Nat) (g : al) (c : Int) (L : Int) (t : Int) (i : Int) (f : Int) (e : List Int) (d : Int) (z : Bool) (w : List Int) (u : Bool) (q : List Int) (r : Bool × List Int × Bool × List Int) (hr : cM n g c L t i f e d z w u q = some r) : dz 5 Tryz.prog 89 [.agg (al.c g), .fn 117 [] [.hp 0 0, .hp 1 0, .hp 2 0, .hp 3 0, .hp 4 0]] [.own [ag c, ag L, ag t, ag i, ag f, bu e], .own [ag d], .own [aB z, av w, aB u, av q], .own [.fn 74 [] []], .own [.fn 73 [] []]] (.tup []) [.own [ag c, ag L, ag t, ag i, ag f, bu e], .own [ag d], .own [aB r.1, av r.2.1, aB r.2.2.1, av r.2.2.2], .own [.fn 74 [] []], .own [.fn 73 [] []]] := by
 unfold cM at hr
 refine dz.qQ G Tryz.func89 (c := (Tryz.f89.body).getD .skip) rfl (us := []) (s := mkS 82 0 [(0, .agg (al.c g)), (1, .fn 117 [] [.hp 0 0, .hp 1 0, .hp 2 0, .hp 3 0, .hp 4 0])]) kRf (rs := []) rfl ?_
 unfold Tryz.f89
 simp only [gS]
 refine .seq (.r5 G [1] [(2, .hp 5 0)] [.own [ag c, ag L, ag t, ag i, ag f, bu e], .own [ag d], .own [aB z, av w, aB u, av q], .own [.fn 74 [] []], .own [.fn 73 [] []], .own (al.c g)] (.seq (.r4 G [1, 2] [(4, ag g.Width)] (.seq (.r4 G [1, 2, 4] [(14, ag (G1 (g.Height - 1))), (15, ag 0)] (.block ?_))))))
 replace hr := bd hr; obtain ⟨na, ki, hr⟩ := hr
 refine .aN (σ := fun z0 => match z0 with | (lP, l8, lG, mM, h) => ⟨mkS 82 0 [(1, .fn 117 [] [.hp 0 0, .hp 1 0, .hp 2 0, .hp 3 0, .hp 4 0]), (2, .hp 5 0), (4, ag g.Width), (14, ag (G1 (g.Height - 1))), (15, ag h)], [.own [ag c, ag L, ag t, ag i, ag f, bu e], .own [ag d], .own [aB lP, av l8, aB lG, av mM], .own [.fn 74 [] []], .own [.fn 73 [] []], .own (al.c g)]⟩) (Q := fun x st' => match (generalizing := false) na with | (mz, oq, ov, py) => x = .exit 0 /\ Wk 5 st' ⟨mkS 82 0 [], [.own [ag c, ag L, ag t, ag i, ag f, bu e], .own [ag d], .own [aB mz, av oq, aB ov, av py], .own [.fn 74 [] []], .own [.fn 73 [] []]]⟩) ki ((Wk.gc [1, 2, 4, 14, 15] kT6 rfl trivial).to) ?_ ?_
 ·clear hr
  rintro m ⟨lP, l8, lG, mM, h⟩ hr
  refine CQ.sh ?_
  refine .seq (.r4 G [1, 2, 4, 14, 15] [(16, aB (decide (h < (G1 (g.Height - 1)))))] (.seq ?_))
  refine .cd hr ?_ ?_ <;> intro uF hr
  ·refine .skip (.seq (.block (.seq (.r4 G [1, 2, 4, 14, 15] [(5, ag h)] (.seq (.r4 G [1, 2, 4, 5, 14, 15] [(19, ag (G1 (g.Width - 1))), (20, ag 0)] (.block ?_)))))))
   replace hr := bd hr; obtain ⟨pN, km, hr⟩ := hr
   refine .aN (σ := fun z0 => match z0 with | (C, D, E, F, j) => ⟨mkS 82 0 [(1, .fn 117 [] [.hp 0 0, .hp 1 0, .hp 2 0, .hp 3 0, .hp 4 0]), (2, .hp 5 0), (4, ag g.Width), (5, ag h), (14, ag (G1 (g.Height - 1))), (15, ag h), (19, ag (G1 (g.Width - 1))), (20, ag j)], [.own [ag c, ag L, ag t, ag i, ag f, bu e], .own [ag d], .own [aB C, av D, aB E, av F], .own [.fn 74 [] []], .own [.fn 73 [] []], .own (al.c g)]⟩) (Q := fun x st' => match (generalizing := false) pN with | (N, O, R, S) => x = .exit 2 /\ Wk 5 st' ⟨mkS 82 0 [(1, .fn 117 [] [.hp 0 0, .hp 1 0, .hp 2 0, .hp 3 0, .hp 4 0]), (2, .hp 5 0), (4, ag g.Width), (14, ag (G1 (g.Height - 1))), (15, ag h)], [.own [ag c, ag L, ag t, ag i, ag f, bu e], .own [ag d], .own [aB N, av O, aB R, av S], .own [.fn 74 [] []], .own [.fn 73 [] []], .own (al.c g)]⟩) km ((Wk.gc [1, 2, 4, 5, 14, 15, 19, 20] kT6 rfl trivial).to) ?_ ?_
   ·clear hr
    rintro m ⟨C, D, E, F, j⟩ hr
    refine CQ.sh ?_
    refine .seq (.r4 G [1, 2, 4, 5, 14, 15, 19, 20] [(21, aB (decide (j < (G1 (g.Width - 1)))))] (.seq ?_))
    refine .cd hr ?_ ?_ <;> intro wN hr
    ·refine .skip (.seq (.block (.seq (.r4 G [1, 2, 4, 5, 14, 15, 19, 20] [(6, ag j)] (.seq (.r4 G [1, 2, 4, 5, 14, 15, 19, 20] [(7, ag (G1 ((G1 (h * g.Width)) + j)))] ?_))))))
     obtain ⟨H, sN, hr⟩ := bd hr
     refine .wk ((Wk.refl _).to (c := ⟨mkS 82 0 [(1, .fn 117 [] [.hp 0 0, .hp 1 0, .hp 2 0, .hp 3 0, .hp 4 0]), (2, .hp 5 0), (4, ag g.Width), (5, ag h), (7, ag H), (14, ag (G1 (g.Height - 1))), (15, ag h), (19, ag (G1 (g.Width - 1))), (20, ag j)], [.own [ag c, ag L, ag t, ag i, ag f, bu e], .own [ag d], .own [aB C, av D, aB E, av F], .own [.fn 74 [] []], .own [.fn 73 [] []], .own (al.c g)]⟩) (by rw [oi sN]; first | done | kernel_rfl)) <| .seq <| .r5 G [1, 2, 4, 5, 14, 15, 19, 20] [(45, .hs 6 0 2 3), (46, ag 2), (47, ag 0)] [.own [ag c, ag L, ag t, ag i, ag f, bu e], .own [ag d], .own [aB C, av D, aB E, av F], .own [.fn 74 [] []], .own [.fn 73 [] []], .own (al.c g), .own [ag H, ag (G1 (H + 1)), ag (G1 ((G1 (H + g.Width)) + 1)), ag H, ag (G1 ((G1 (H + g.Width)) + 1)), ag (G1 (H + g.Width))]] <| .block ?_
     obtain ⟨b, so, hr⟩ := bd hr
     refine .wk ((Wk.refl _).to (c := ⟨mkS 82 0 [(1, .fn 117 [] [.hp 0 0, .hp 1 0, .hp 2 0, .hp 3 0, .hp 4 0]), (2, .hp 5 0), (4, ag g.Width), (5, ag h), (14, ag (G1 (g.Height - 1))), (15, ag h), (19, ag (G1 (g.Width - 1))), (20, ag j), (45, .hs 6 0 b.length 3), (46, ag 2), (47, ag 0)], [.own [ag c, ag L, ag t, ag i, ag f, bu e], .own [ag d], .own [aB C, av D, aB E, av F], .own [.fn 74 [] []], .own [.fn 73 [] []], .own (al.c g), .own (b.flatMap aD.c)]⟩) (by rw [<- oi so]; kernel_rfl)) ?_
     replace hr := bd hr; obtain ⟨p8, lY, hr⟩ := hr
     refine .aN (σ := fun z0 => match z0 with | (k, l, o, p, a) => ⟨mkS 82 0 [(1, .fn 117 [] [.hp 0 0, .hp 1 0, .hp 2 0, .hp 3 0, .hp 4 0]), (2, .hp 5 0), (4, ag g.Width), (5, ag h), (14, ag (G1 (g.Height - 1))), (15, ag h), (19, ag (G1 (g.Width - 1))), (20, ag j), (45, .hs 6 0 b.length 3), (46, ag 2), (47, ag a)], [.own [ag c, ag L, ag t, ag i, ag f, bu e], .own [ag d], .own [aB k, av l, aB o, av p], .own [.fn 74 [] []], .own [.fn 73 [] []], .own (al.c g), .own (b.flatMap aD.c)]⟩) (Q := fun x st' => match (generalizing := false) p8 with | (T, U, V, W) => x = .exit 4 /\ Wk 5 st' ⟨mkS 82 0 [(1, .fn 117 [] [.hp 0 0, .hp 1 0, .hp 2 0, .hp 3 0, .hp 4 0]), (2, .hp 5 0), (4, ag g.Width), (5, ag h), (14, ag (G1 (g.Height - 1))), (15, ag h), (19, ag (G1 (g.Width - 1))), (20, ag j)], [.own [ag c, ag L, ag t, ag i, ag f, bu e], .own [ag d], .own [aB T, av U, aB V, av W], .own [.fn 74 [] []], .own [.fn 73 [] []], .own (al.c g)]⟩) lY ((Wk.gc [1, 2, 4, 5, 14, 15, 19, 20, 45, 46, 47] [(0, true), (1, true), (2, true), (3, true), (4, true), (5, true), (6, false)] rfl (pKt (pKt (pKt (pKt (pKt (pKt (pKo aD.c aD.pure b trivial)))))))).to) ?_ ?_
     ·clear hr
      rintro m ⟨k, l, o, p, a⟩ hr
      refine CQ.sh ?_
      refine .seq (.r4 G [1, 2, 4, 5, 14, 15, 19, 20, 45, 46, 47] [(48, aB (decide (a < 2)))] (.seq ?_))
      refine .cd hr ?_ ?_ <;> intro wF hr
      ·refine .skip (.seq (.block (.seq ?_)))
       obtain ⟨lW, hr⟩ := gd hr
       refine .r0 G (.p0 (v := .hp 6 (0 + a.toNat * 3)) (tr (ar lW)) (.p0 (v := .agg (aD.c (gt b a))) (tr (y := bt.ofP (gO (decide (3 <= ((b.flatMap aD.c).drop (0 + a.toNat * 3)).length)) (.agg (((b.flatMap aD.c).drop (0 + a.toNat * 3)).take 3)))) (dr aD.len (aE lW) (by decide) (by omega : 0 + a.toNat * 3 = a.toNat * 3 + 0) kRf)) (.mu 2 (.done (.nh [1, 2, 4, 5, 9, 14, 15, 19, 20, 45, 46, 47] [.own [ag c, ag L, ag t, ag i, ag f, bu e], .own [ag d], .own [aB k, av l, aB o, av p], .own [.fn 74 [] []], .own [.fn 73 [] []], .own (al.c g), .own (b.flatMap aD.c), .own (aD.c (gt b a))] (.seq ?_))))))
       obtain ⟨A, hr⟩ := gd hr
       rcases bT (((gt g.Z (gt b a).e0) : Int) != (-2147483648)) with B | B
       ·replace hr := bY B hr
        obtain ⟨J, hr⟩ := gd hr
        rcases bT (((gt g.Z (gt b a).e1) : Int) != (-2147483648)) with I | I
        ·replace hr := bY I hr
         obtain ⟨mZ, hr⟩ := gd hr
         refine .r0 G (.mu 4 (.p0 (v := .pp (g.Z.flatMap (iC .i64)) ((gt b a).e0.toNat * 1)) (tr (ar A)) (.p0 (v := ag (gt g.Z (gt b a).e0)) (tr (aI (aJ (aG .i64) (aE A) z1 (by omega : (gt b a).e0.toNat * 1 = (gt b a).e0.toNat * 1 + 0) kRf))) (.p0 (v := aB true) (eB B) (.mu 5 (.pure (v := .pp (g.Z.flatMap (iC .i64)) ((gt b a).e1.toNat * 1)) kRf (tr (ar J)) (.pure (v := ag (gt g.Z (gt b a).e1)) kRf (tr (aI (aJ (aG .i64) (aE J) z1 (by omega : (gt b a).e1.toNat * 1 = (gt b a).e1.toNat * 1 + 0) kRf))) (.pure (v := aB true) kRf (eB I) (.mu 6 (.pure (v := .pp (g.Z.flatMap (iC .i64)) ((gt b a).e2.toNat * 1)) kRf (tr (ar mZ)) (.pure (v := ag (gt g.Z (gt b a).e2)) kRf (tr (aI (aJ (aG .i64) (aE mZ) z1 (by omega : (gt b a).e2.toNat * 1 = (gt b a).e2.toNat * 1 + 0) kRf))) (.mu 2 (.done (.nh [1, 2, 4, 5, 9, 14, 15, 19, 20, 45, 46, 47, 75] [.own [ag c, ag L, ag t, ag i, ag f, bu e], .own [ag d], .own [aB k, av l, aB o, av p], .own [.fn 74 [] []], .own [.fn 73 [] []], .own (al.c g), .own (b.flatMap aD.c), .own (aD.c (gt b a))] ?_))))))))))))))
         refine .cd hr ?_ ?_ <;> intro uy hr
         ·obtain ⟨M, tR, hr⟩ := bd hr
          refine .g1 G (cL (args := [.agg (aD.c (gt b a)), .hp 0 0, .hp 1 0, .hp 2 0, .hp 3 0, .hp 4 0]) 5 0 kT5 [true, true, true, true, true] (pZ n (gt b a) c L t i f e d k l o p M tR) trivial trivial rfl rfl kRf kRf) (.mu 2 (.ca cf0 (.done (.pop (.ru G ?_)))))
          exact az (M.1, M.2.1, M.2.2.1, M.2.2.2, G1 (a + 1)) hr ((Wk.gc [1, 2, 4, 5, 14, 15, 19, 20, 45, 46, 47] [(0, true), (1, true), (2, true), (3, true), (4, true), (5, true), (6, false)] rfl (pKt (pKt (pKt (pKt (pKt (pKt (pKo aD.c aD.pure b trivial)))))))).to)
         refine .skip (.pop (.ru G ?_))
         exact az (k, l, o, p, G1 (a + 1)) hr ((Wk.gc [1, 2, 4, 5, 14, 15, 19, 20, 45, 46, 47] [(0, true), (1, true), (2, true), (3, true), (4, true), (5, true), (6, false)] rfl (pKt (pKt (pKt (pKt (pKt (pKt (pKo aD.c aD.pure b trivial)))))))).to)
        replace hr := bW I hr
        refine .r0 G (.mu 4 (.p0 (v := .pp (g.Z.flatMap (iC .i64)) ((gt b a).e0.toNat * 1)) (tr (ar A)) (.p0 (v := ag (gt g.Z (gt b a).e0)) (tr (aI (aJ (aG .i64) (aE A) z1 (by omega : (gt b a).e0.toNat * 1 = (gt b a).e0.toNat * 1 + 0) kRf))) (.p0 (v := aB true) (eB B) (.mu 5 (.pure (v := .pp (g.Z.flatMap (iC .i64)) ((gt b a).e1.toNat * 1)) kRf (tr (ar J)) (.pure (v := ag (gt g.Z (gt b a).e1)) kRf (tr (aI (aJ (aG .i64) (aE J) z1 (by omega : (gt b a).e1.toNat * 1 = (gt b a).e1.toNat * 1 + 0) kRf))) (.pure (v := aB false) kRf (eB I) (.mu 10 (.done (.nh [1, 2, 4, 5, 9, 14, 15, 19, 20, 45, 46, 47, 75] [.own [ag c, ag L, ag t, ag i, ag f, bu e], .own [ag d], .own [aB k, av l, aB o, av p], .own [.fn 74 [] []], .own [.fn 73 [] []], .own (al.c g), .own (b.flatMap aD.c), .own (aD.c (gt b a))] (.cF kRf (.skip (.pop (.ru G ?_)))))))))))))))
        exact az (k, l, o, p, G1 (a + 1)) hr ((Wk.gc [1, 2, 4, 5, 14, 15, 19, 20, 45, 46, 47] [(0, true), (1, true), (2, true), (3, true), (4, true), (5, true), (6, false)] rfl (pKt (pKt (pKt (pKt (pKt (pKt (pKo aD.c aD.pure b trivial)))))))).to)
       replace hr := bW B hr
       refine .r0 G (.mu 4 (.p0 (v := .pp (g.Z.flatMap (iC .i64)) ((gt b a).e0.toNat * 1)) (tr (ar A)) (.p0 (v := ag (gt g.Z (gt b a).e0)) (tr (aI (aJ (aG .i64) (aE A) z1 (by omega : (gt b a).e0.toNat * 1 = (gt b a).e0.toNat * 1 + 0) kRf))) (.p0 (v := aB false) (eB B) (.mu 18 (.done (.nh [1, 2, 4, 5, 9, 14, 15, 19, 20, 45, 46, 47, 75] [.own [ag c, ag L, ag t, ag i, ag f, bu e], .own [ag d], .own [aB k, av l, aB o, av p], .own [.fn 74 [] []], .own [.fn 73 [] []], .own (al.c g), .own (b.flatMap aD.c), .own (aD.c (gt b a))] (.cF kRf (.skip (.pop (.ru G ?_)))))))))))
       exact az (k, l, o, p, G1 (a + 1)) hr ((Wk.gc [1, 2, 4, 5, 14, 15, 19, 20, 45, 46, 47] [(0, true), (1, true), (2, true), (3, true), (4, true), (5, true), (6, false)] rfl (pKt (pKt (pKt (pKt (pKt (pKt (pKo aD.c aD.pure b trivial)))))))).to)
      refine .leave rfl ?_
      obtain rfl := oi hr
      exact ⟨rfl, ((Wk.gc [1, 2, 4, 5, 14, 15, 19, 20] kT6 rfl trivial).to)⟩
     rcases p8 with ⟨T, U, V, W⟩
     rintro x st' X
     clear lY
     obtain ⟨rfl, X⟩ := X
     refine aU _ rfl (.pop (.wk X (.ru G ?_)))
     exact az (T, U, V, W, G1 (j + 1)) hr ((Wk.gc [1, 2, 4, 5, 14, 15, 19, 20] kT6 rfl trivial).to)
    refine .leave rfl ?_
    obtain rfl := oi hr
    exact ⟨rfl, ((Wk.gc [1, 2, 4, 14, 15] kT6 rfl trivial).to)⟩
   rcases pN with ⟨N, O, R, S⟩
   rintro x st' Y
   clear km
   obtain ⟨rfl, Y⟩ := Y
   refine aU _ rfl (.pop (.wk Y (.ru G ?_)))
   exact az (N, O, R, S, G1 (h + 1)) hr ((Wk.gc [1, 2, 4, 14, 15] kT6 rfl trivial).to)
  refine .leave rfl ?_
  obtain rfl := oi hr
  exact ⟨rfl, ((Wk.gc [] kT5 rfl trivial).to)⟩
 rcases na with ⟨mz, oq, ov, py⟩
 rintro x st' jD
 clear ki
 obtain ⟨rfl, jD⟩ := jD
 refine aU _ rfl ?_
 obtain rfl := oi hr
 exact gj.wk jD (gj.normal [] ((Wk.gc [] kT5 rfl trivial).to))

theorem fm (n : Nat) (g : al) (level : Int) (r : aj) (hr : bZ n g level = some r) : aK Tryz.prog 72 [.agg (al.c g), ag level, .fn 73 [] [], .fn 74 [] []] (.agg (aj.c r)) := by
 unfold bZ at hr
 refine aK.bd G Tryz.func72 [.cell 8 42] ?_
 unfold Tryz.f72
 simp only [gS]
 refine .seq (.r2 G 28 [(4, .hp 0 0), (5, .hp 1 0), (6, .hp 2 0), (7, .hp 3 0), (8, .hp 4 0)] [.own (al.c g), .own [ag level], .own [.fn 73 [] []], .own [.fn 74 [] []], .own zN2] (.seq ?_))
 obtain ⟨b, e, hr⟩ := bd hr
 refine .g1 G (ok0 (cB n 0 b e)) (.ca cf0 (.mu 2 (.done (.nh [4, 5, 6, 7, 8, 9] [.own (al.c g), .own [ag level], .own [.fn 73 [] []], .own [.fn 74 [] []], .own zN2, .own (aj.c b)] (.seq ?_)))))
 obtain ⟨a, f, hr⟩ := bd hr
 refine .g1 G (cL (args := [.agg (al.c g), .fn 117 [] [.hp 0 0, .hp 1 0, .hp 5 0, .hp 3 0, .hp 2 0]]) 5 0 [(0, true), (1, true), (5, true), (3, true), (2, true)] [true, true, true, true, true] (ia n g g.X0 g.Y0 g.Step g.Width g.Height g.Z level b.Num.Negative b.Num.Groups b.Den.Negative b.Den.Groups a f) trivial trivial rfl rfl kRf kRf) (.mu 2 (.ca cf0 (.done (.nh [4, 8, 9] [.own (al.c g), .own [ag level], .own [.fn 73 [] []], .own [.fn 74 [] []], .own zN2, .own [aB a.1, av a.2.1, aB a.2.2.1, av a.2.2.2]] (.seq ?_)))))
 obtain ⟨d, h, hr⟩ := bd hr
 refine .g1 G (ok0 (iQ n (G1 (g.Step * g.Step)) 2 d h)) (.mu 5 (.ca cf0 (.mu 6 (.done (.nh [8, 9, 10] [.own (al.c g), .own [ag level], .own [.fn 73 [] []], .own [.fn 74 [] []], .own zN2, .own [aB a.1, av a.2.1, aB a.2.2.1, av a.2.2.2], .own (aj.c d.1)] (.seq ?_))))))
 obtain ⟨i, j, hr⟩ := bd hr
 refine .g1 G (ok0 (dS n (aj.mk (ae.mk a.1 a.2.1) (ae.mk a.2.2.1 a.2.2.2)) d.1 i j)) (.mu 2 (.ca cf0 (.mu 1 (.done (.nh [8] [.own (al.c g), .own [ag level], .own [.fn 73 [] []], .own [.fn 74 [] []], .own (aj.c i), .own [aB a.1, av a.2.1, aB a.2.2.1, av a.2.2.2], .own (aj.c d.1)] (.ret ?_))))))
 obtain rfl := oi hr
 exact aH.r1 [.agg (aj.c i)]

theorem tw (n : Nat) (g : al) (level : Int) (r : aj × Int) (hr : nf n g level = some r) : aK Tryz.prog 33 [.agg (al.c g), ag level] (.tup [.agg (aj.c r.1), ag r.2]) := by
 unfold nf at hr
 refine aK.bd G Tryz.func33 [.cell 4 42, .tmp 5] ?_
 unfold Tryz.f33
 simp only [gS]
 refine .seq (.r5 G [1] [(2, .hp 0 0), (4, .hp 1 0)] [.own (al.c g), .own zN2] (.seq (.seq ?_)))
 obtain ⟨a, b, hr⟩ := bd hr
 refine .g1 G (ok0 (iA n g level a b)) (.mu 2 (.ca cf0 (.mu 1 (.done (.nh [1, 2, 4, 6] [.own (al.c g), .own zN2] (.seq (.r4 G [1, 2, 4, 6] [(11, aB ((a : Int) != 0))] ?_)))))))
 refine .cd hr ?_ ?_ <;> intro f hr
 ·refine .seq (.r4 G [4] [(5, ag a)] (.ret ?_))
  obtain rfl := oi hr
  exact aH.ret (vs := [.agg zN2, ag a]) kRf (Sn.tup (SnL.cons (Sn.agg (Sp (SnL.cons Sn.ft (Sp (SnL.cons Sn.ft SnL.nil))))) (Sp SnL.nil)))
 refine .skip (.seq ?_)
 obtain ⟨d, e, hr⟩ := bd hr
 refine .g1 G (ok0 (fm n g level d e)) (.mu 2 (.ca cf0 (.mu 2 (.done (.nh [4, 5] [.own (al.c g), .own (aj.c d)] (.ret ?_))))))
 obtain rfl := oi hr
 exact aH.ret (vs := [.agg (aj.c d), ag 0]) kRf (Sn.tup (Sp (Sp SnL.nil)))

theorem nL (n : Nat) (s : List Int) (v : Int) (r : Int) (hr : fX n s v = some r) : aK Tryz.prog 185 [bu s, ag v] (ag r) := by
 unfold fX at hr
 refine aK.bd G Tryz.func185 [.tmp 4] ?_
 unfold Tryz.f185
 simp only [gS]
 refine .seq (.r4 G [0, 1] [] (.seq (.seq (.r4 G [0, 1] [(7, ag (s.length : Int)), (8, ag 0)] (.block ?_)))))
 replace hr := bd hr; obtain ⟨e, c, hr⟩ := hr
 refine .aN (σ := fun f => match f with | b => ⟨mkS 19 0 [(0, bu s), (1, ag v), (7, ag (s.length : Int)), (8, ag b)], []⟩) (Q := fun x st' => match (generalizing := false) e with | .inl _ => x = .exit 0 /\ Wk 0 st' ⟨mkS 19 0 [], []⟩ | .inr (r0) => x = .ret /\ aH Tryz.prog [.tmp 4] (ag r0) .ret st') c ((Wk.gc [0, 1, 7, 8] [] rfl pK0).to) ?_ ?_
 ·clear hr
  rintro m b hr
  refine CQ.sh ?_
  refine .seq (.r4 G [0, 1, 7, 8] [(9, aB (decide (b < (s.length : Int))))] (.seq ?_))
  refine .cd hr ?_ ?_ <;> intro g hr
  ·refine .skip (.seq (.block (.seq (.r4 G [0, 1, 7, 8] [(5, ag b)] (.seq ?_)))))
   obtain ⟨d, hr⟩ := gd hr
   refine .r0 G (.mu 3 (.p0 (v := .pp (s.flatMap (iC .i64)) (b.toNat * 1)) (tr (ar d)) (.p0 (v := ag (gt s b)) (tr (aI (aJ (aG .i64) (aE d) z1 (by omega : b.toNat * 1 = b.toNat * 1 + 0) kRf))) (.mu 1 (.done (.nh [0, 1, 5, 7, 8, 16] [] ?_))))))
   refine .cd hr ?_ ?_ <;> intro h hr
   ·refine .seq (.ru G (.ret ?_))
    obtain rfl := oi hr
    exact ⟨rfl, aH.ret (vs := [ag b]) kRf (Sn.pure rfl)⟩
   refine .skip (.pop (.ru G ?_))
   exact az (G1 (b + 1)) hr ((Wk.gc [0, 1, 7, 8] [] rfl pK0).to)
  refine .leave rfl ?_
  obtain rfl := oi hr
  exact ⟨rfl, ((Wk.gc [] [] rfl pK0).to)⟩
 rcases e with ⟨⟩ | r0
 ·rintro x st' a
  clear c
  obtain ⟨rfl, a⟩ := a
  refine aU _ rfl (.wk a (.seq (.ru G (.ret ?_))))
  obtain rfl := oi hr
  exact aH.r1 [ag (-1)]
 rintro x st' a
 clear c
 obtain ⟨rfl, a⟩ := a
 obtain rfl := oi hr
 exact gJ _ a

theorem l9 {s : List Int} {v : Int} {a : List Int} {b : Int} (h : ([slT (iC .i64) s, .at (.int .i64 v)] : List AV) = [slT (iC .i64) a, .at (.int .i64 b)]) : s = a /\ v = b := by
 simp only [List.cons.injEq, AV.agg.injEq, AV.at.injEq, Value.int.injEq, Value.bool.injEq, AV.fn.injEq, AV.pp.injEq, true_and, and_true, dt] at h
 simp_all
theorem mm (n : Nat) {s : List Int} {v : Int} {a : List Int} {b : Int} (h : ([slT (iC .i64) s, .at (.int .i64 v)] : List AV) = [slT (iC .i64) a, .at (.int .i64 b)]) : bz n s v = bz n a b := by
 obtain ⟨rfl, rfl⟩ := l9 h
 rfl
theorem fE (n : Nat) (s : List Int) (v : Int) (r : Bool) (hr : bz n s v = some r) : aK Tryz.prog 150 [bu s, ag v] (aB r) := by
 unfold bz at hr
 refine aK.bd G Tryz.func150 [.tmp 4] ?_
 unfold Tryz.f150
 simp only [gS]
 refine .seq (.r4 G [0, 1] [] (.seq ?_))
 obtain ⟨b, a, hr⟩ := bd hr
 refine .g1 G (ok0 (nL n s v b a)) (.mu 2 (.ca cf0 (.mu 2 (.done (.ret ?_)))))
 obtain rfl := oi hr
 exact aH.r1 [aB (decide (b >= 0))]

theorem pz (n : Nat) (t : A3 Int) (p : Bool) (f : Int) (a : Int) (r : Bool) (hr : eF n t p f a = some r) : dz 3 Tryz.prog 149 [.agg (aD.c t), .hp 0 0, .hp 1 0, .hp 2 0] [.own [aB p], .own [ag f], .own [ag a]] (.tup []) [.own [aB r], .own [ag f], .own [ag a]] := by
 unfold eF at hr
 refine dz.qQ G Tryz.func149 (c := (Tryz.f149.body).getD .skip) rfl (us := []) (s := mkS 16 0 [(0, .agg (aD.c t)), (1, .hp 0 0), (2, .hp 1 0), (3, .hp 2 0)]) kRf (rs := []) rfl ?_
 unfold Tryz.f149
 simp only [gS]
 refine .seq (.r5 G [1, 2, 3] [(4, .hp 3 0)] [.own [aB p], .own [ag f], .own [ag a], .own (aD.c t)] ?_)
 rcases bT p with b | b
 ·replace hr := bY b hr
  refine .eX G bO (.pk (v := aB true) (eB b) (.mu 11 ?_))
  refine .done (kRa ?_)
  obtain rfl := oi hr
  exact gj.normal [] ((Wk.gc [] kT3 rfl trivial).to)
 replace hr := bW b hr
 obtain ⟨j, d, hr⟩ := bd hr
 rcases bT j with e | e
 ·subst e
  replace hr := bY rfl hr
  obtain ⟨i, g, hr⟩ := bd hr
  refine .tn G (ca1 (fF (args := [.hs 3 0 3 1, ag f]) (l := [3]) rfl (SnL.cons (Sn.hs rfl (.inl rfl) (SnC.cons (Sn.pure rfl) (SnC.cons (Sn.pure rfl) (SnC.cons (Sn.pure rfl) SnC.nil))) (fun h => nomatch h)) (Sp SnL.nil)) (fE n [t.e0, t.e1, t.e2] f true d)) (ca3 (fF (args := [.hs 3 0 3 1, ag a]) (l := [3]) rfl (SnL.cons (Sn.hs rfl (.inl rfl) (SnC.cons (Sn.pure rfl) (SnC.cons (Sn.pure rfl) (SnC.cons (Sn.pure rfl) SnC.nil))) (fun h => nomatch h)) (Sp SnL.nil)) (fE n [t.e0, t.e1, t.e2] a i g)))) (.pk (v := aB false) (eB b) (.mu 3 (.ca cf0 (.mu 3 (.ca (cfA (fun h => by rw [sv g d (mm n (show ([bu [t.e0, t.e1, t.e2], ag a] : List AV) = [bu [t.e0, t.e1, t.e2], ag f] from (congr (congrArg List.cons rfl) (congr (congrArg List.cons (List.cons.inj (List.cons.inj h).2).1) rfl))))]) cf0) (.mu 3 ?_))))))
  refine .done (kRa ?_)
  obtain rfl := oi hr
  exact gj.normal [] ((Wk.gc [] kT3 rfl trivial).to)
 subst e
 replace hr := bW rfl hr
 refine .t1 G (fF (args := [.hs 3 0 3 1, ag f]) (l := [3]) rfl (SnL.cons (Sn.hs rfl (.inl rfl) (SnC.cons (Sn.pure rfl) (SnC.cons (Sn.pure rfl) (SnC.cons (Sn.pure rfl) SnC.nil))) (fun h => nomatch h)) (Sp SnL.nil)) (fE n [t.e0, t.e1, t.e2] f false d)) (.pk (v := aB false) (eB b) (.mu 3 (.ca cf0 (.mu 7 ?_))))
 refine .done (kRa ?_)
 obtain rfl := oi hr
 exact gj.normal [] ((Wk.gc [] kT3 rfl trivial).to)

theorem gN (n : Nat) (g : al) (c : Bool) (q : Int) (h : Int) (r : Bool) (hr : b6 n g c q h = some r) : dz 3 Tryz.prog 89 [.agg (al.c g), .fn 149 [] [.hp 0 0, .hp 1 0, .hp 2 0]] [.own [aB c], .own [ag q], .own [ag h]] (.tup []) [.own [aB r], .own [ag q], .own [ag h]] := by
 unfold b6 at hr
 refine dz.qQ G Tryz.func89 (c := (Tryz.f89.body).getD .skip) rfl (us := []) (s := mkS 82 0 [(0, .agg (al.c g)), (1, .fn 149 [] [.hp 0 0, .hp 1 0, .hp 2 0])]) kRf (rs := []) rfl ?_
 unfold Tryz.f89
 simp only [gS]
 refine .seq (.r5 G [1] [(2, .hp 3 0)] [.own [aB c], .own [ag q], .own [ag h], .own (al.c g)] (.seq (.r4 G [1, 2] [(4, ag g.Width)] (.seq (.r4 G [1, 2, 4] [(14, ag (G1 (g.Height - 1))), (15, ag 0)] (.block ?_))))))
 replace hr := bd hr; obtain ⟨J, z, hr⟩ := hr
 refine .aN (σ := fun O => match O with | (A, d) => ⟨mkS 82 0 [(1, .fn 149 [] [.hp 0 0, .hp 1 0, .hp 2 0]), (2, .hp 3 0), (4, ag g.Width), (14, ag (G1 (g.Height - 1))), (15, ag d)], [.own [aB A], .own [ag q], .own [ag h], .own (al.c g)]⟩) (Q := fun x st' => x = .exit 0 /\ Wk 3 st' ⟨mkS 82 0 [], [.own [aB J], .own [ag q], .own [ag h]]⟩) z ((Wk.gc [1, 2, 4, 14, 15] kT4 rfl trivial).to) ?_ ?_
 ·clear hr
  rintro m ⟨A, d⟩ hr
  refine CQ.sh ?_
  refine .seq (.r4 G [1, 2, 4, 14, 15] [(16, aB (decide (d < (G1 (g.Height - 1)))))] (.seq ?_))
  refine .cd hr ?_ ?_ <;> intro R hr
  ·refine .skip (.seq (.block (.seq (.r4 G [1, 2, 4, 14, 15] [(5, ag d)] (.seq (.r4 G [1, 2, 4, 5, 14, 15] [(19, ag (G1 (g.Width - 1))), (20, ag 0)] (.block ?_)))))))
   replace hr := bd hr; obtain ⟨B, C, hr⟩ := hr
   refine .aN (σ := fun O => match O with | (k, e) => ⟨mkS 82 0 [(1, .fn 149 [] [.hp 0 0, .hp 1 0, .hp 2 0]), (2, .hp 3 0), (4, ag g.Width), (5, ag d), (14, ag (G1 (g.Height - 1))), (15, ag d), (19, ag (G1 (g.Width - 1))), (20, ag e)], [.own [aB k], .own [ag q], .own [ag h], .own (al.c g)]⟩) (Q := fun x st' => x = .exit 2 /\ Wk 3 st' ⟨mkS 82 0 [(1, .fn 149 [] [.hp 0 0, .hp 1 0, .hp 2 0]), (2, .hp 3 0), (4, ag g.Width), (14, ag (G1 (g.Height - 1))), (15, ag d)], [.own [aB B], .own [ag q], .own [ag h], .own (al.c g)]⟩) C ((Wk.gc [1, 2, 4, 5, 14, 15, 19, 20] kT4 rfl trivial).to) ?_ ?_
   ·clear hr
    rintro m ⟨k, e⟩ hr
    refine CQ.sh ?_
    refine .seq (.r4 G [1, 2, 4, 5, 14, 15, 19, 20] [(21, aB (decide (e < (G1 (g.Width - 1)))))] (.seq ?_))
    refine .cd hr ?_ ?_ <;> intro S hr
    ·refine .skip (.seq (.block (.seq (.r4 G [1, 2, 4, 5, 14, 15, 19, 20] [(6, ag e)] (.seq (.r4 G [1, 2, 4, 5, 14, 15, 19, 20] [(7, ag (G1 ((G1 (d * g.Width)) + e)))] ?_))))))
     obtain ⟨l, L, hr⟩ := bd hr
     refine .wk ((Wk.refl _).to (c := ⟨mkS 82 0 [(1, .fn 149 [] [.hp 0 0, .hp 1 0, .hp 2 0]), (2, .hp 3 0), (4, ag g.Width), (5, ag d), (7, ag l), (14, ag (G1 (g.Height - 1))), (15, ag d), (19, ag (G1 (g.Width - 1))), (20, ag e)], [.own [aB k], .own [ag q], .own [ag h], .own (al.c g)]⟩) (by rw [oi L]; first | done | kernel_rfl)) <| .seq <| .r5 G [1, 2, 4, 5, 14, 15, 19, 20] [(45, .hs 4 0 2 3), (46, ag 2), (47, ag 0)] [.own [aB k], .own [ag q], .own [ag h], .own (al.c g), .own [ag l, ag (G1 (l + 1)), ag (G1 ((G1 (l + g.Width)) + 1)), ag l, ag (G1 ((G1 (l + g.Width)) + 1)), ag (G1 (l + g.Width))]] <| .block ?_
     obtain ⟨b, M, hr⟩ := bd hr
     refine .wk ((Wk.refl _).to (c := ⟨mkS 82 0 [(1, .fn 149 [] [.hp 0 0, .hp 1 0, .hp 2 0]), (2, .hp 3 0), (4, ag g.Width), (5, ag d), (14, ag (G1 (g.Height - 1))), (15, ag d), (19, ag (G1 (g.Width - 1))), (20, ag e), (45, .hs 4 0 b.length 3), (46, ag 2), (47, ag 0)], [.own [aB k], .own [ag q], .own [ag h], .own (al.c g), .own (b.flatMap aD.c)]⟩) (by rw [<- oi M]; kernel_rfl)) ?_
     replace hr := bd hr; obtain ⟨D, E, hr⟩ := hr
     refine .aN (σ := fun O => match O with | (f, a) => ⟨mkS 82 0 [(1, .fn 149 [] [.hp 0 0, .hp 1 0, .hp 2 0]), (2, .hp 3 0), (4, ag g.Width), (5, ag d), (14, ag (G1 (g.Height - 1))), (15, ag d), (19, ag (G1 (g.Width - 1))), (20, ag e), (45, .hs 4 0 b.length 3), (46, ag 2), (47, ag a)], [.own [aB f], .own [ag q], .own [ag h], .own (al.c g), .own (b.flatMap aD.c)]⟩) (Q := fun x st' => x = .exit 4 /\ Wk 3 st' ⟨mkS 82 0 [(1, .fn 149 [] [.hp 0 0, .hp 1 0, .hp 2 0]), (2, .hp 3 0), (4, ag g.Width), (5, ag d), (14, ag (G1 (g.Height - 1))), (15, ag d), (19, ag (G1 (g.Width - 1))), (20, ag e)], [.own [aB D], .own [ag q], .own [ag h], .own (al.c g)]⟩) E ((Wk.gc [1, 2, 4, 5, 14, 15, 19, 20, 45, 46, 47] [(0, true), (1, true), (2, true), (3, true), (4, false)] rfl (pKt (pKt (pKt (pKt (pKo aD.c aD.pure b trivial)))))).to) ?_ ?_
     ·clear hr
      rintro m ⟨f, a⟩ hr
      refine CQ.sh ?_
      refine .seq (.r4 G [1, 2, 4, 5, 14, 15, 19, 20, 45, 46, 47] [(48, aB (decide (a < 2)))] (.seq ?_))
      refine .cd hr ?_ ?_ <;> intro T hr
      ·refine .skip (.seq (.block (.seq ?_)))
       obtain ⟨F, hr⟩ := gd hr
       refine .r0 G (.p0 (v := .hp 4 (0 + a.toNat * 3)) (tr (ar F)) (.p0 (v := .agg (aD.c (gt b a))) (tr (y := bt.ofP (gO (decide (3 <= ((b.flatMap aD.c).drop (0 + a.toNat * 3)).length)) (.agg (((b.flatMap aD.c).drop (0 + a.toNat * 3)).take 3)))) (dr aD.len (aE F) (by decide) (by omega : 0 + a.toNat * 3 = a.toNat * 3 + 0) kRf)) (.mu 2 (.done (.nh [1, 2, 4, 5, 9, 14, 15, 19, 20, 45, 46, 47] [.own [aB f], .own [ag q], .own [ag h], .own (al.c g), .own (b.flatMap aD.c), .own (aD.c (gt b a))] (.seq ?_))))))
       obtain ⟨i, hr⟩ := gd hr
       rcases bT (((gt g.Z (gt b a).e0) : Int) != (-2147483648)) with j | j
       ·replace hr := bY j hr
        obtain ⟨p, hr⟩ := gd hr
        rcases bT (((gt g.Z (gt b a).e1) : Int) != (-2147483648)) with o | o
        ·replace hr := bY o hr
         obtain ⟨H, hr⟩ := gd hr
         refine .r0 G (.mu 4 (.p0 (v := .pp (g.Z.flatMap (iC .i64)) ((gt b a).e0.toNat * 1)) (tr (ar i)) (.p0 (v := ag (gt g.Z (gt b a).e0)) (tr (aI (aJ (aG .i64) (aE i) z1 (by omega : (gt b a).e0.toNat * 1 = (gt b a).e0.toNat * 1 + 0) kRf))) (.p0 (v := aB true) (eB j) (.mu 5 (.pure (v := .pp (g.Z.flatMap (iC .i64)) ((gt b a).e1.toNat * 1)) kRf (tr (ar p)) (.pure (v := ag (gt g.Z (gt b a).e1)) kRf (tr (aI (aJ (aG .i64) (aE p) z1 (by omega : (gt b a).e1.toNat * 1 = (gt b a).e1.toNat * 1 + 0) kRf))) (.pure (v := aB true) kRf (eB o) (.mu 6 (.pure (v := .pp (g.Z.flatMap (iC .i64)) ((gt b a).e2.toNat * 1)) kRf (tr (ar H)) (.pure (v := ag (gt g.Z (gt b a).e2)) kRf (tr (aI (aJ (aG .i64) (aE H) z1 (by omega : (gt b a).e2.toNat * 1 = (gt b a).e2.toNat * 1 + 0) kRf))) (.mu 2 (.done (.nh [1, 2, 4, 5, 9, 14, 15, 19, 20, 45, 46, 47, 75] [.own [aB f], .own [ag q], .own [ag h], .own (al.c g), .own (b.flatMap aD.c), .own (aD.c (gt b a))] ?_))))))))))))))
         refine .cd hr ?_ ?_ <;> intro U hr
         ·obtain ⟨I, N, hr⟩ := bd hr
          refine .g1 G (cL (args := [.agg (aD.c (gt b a)), .hp 0 0, .hp 1 0, .hp 2 0]) 3 0 kT3 [true, true, true] (pz n (gt b a) f q h I N) trivial trivial rfl rfl kRf kRf) (.mu 2 (.ca cf0 (.done (.pop (.ru G ?_)))))
          exact az (I, G1 (a + 1)) hr ((Wk.gc [1, 2, 4, 5, 14, 15, 19, 20, 45, 46, 47] [(0, true), (1, true), (2, true), (3, true), (4, false)] rfl (pKt (pKt (pKt (pKt (pKo aD.c aD.pure b trivial)))))).to)
         refine .skip (.pop (.ru G ?_))
         exact az (f, G1 (a + 1)) hr ((Wk.gc [1, 2, 4, 5, 14, 15, 19, 20, 45, 46, 47] [(0, true), (1, true), (2, true), (3, true), (4, false)] rfl (pKt (pKt (pKt (pKt (pKo aD.c aD.pure b trivial)))))).to)
        replace hr := bW o hr
        refine .r0 G (.mu 4 (.p0 (v := .pp (g.Z.flatMap (iC .i64)) ((gt b a).e0.toNat * 1)) (tr (ar i)) (.p0 (v := ag (gt g.Z (gt b a).e0)) (tr (aI (aJ (aG .i64) (aE i) z1 (by omega : (gt b a).e0.toNat * 1 = (gt b a).e0.toNat * 1 + 0) kRf))) (.p0 (v := aB true) (eB j) (.mu 5 (.pure (v := .pp (g.Z.flatMap (iC .i64)) ((gt b a).e1.toNat * 1)) kRf (tr (ar p)) (.pure (v := ag (gt g.Z (gt b a).e1)) kRf (tr (aI (aJ (aG .i64) (aE p) z1 (by omega : (gt b a).e1.toNat * 1 = (gt b a).e1.toNat * 1 + 0) kRf))) (.pure (v := aB false) kRf (eB o) (.mu 10 (.done (.nh [1, 2, 4, 5, 9, 14, 15, 19, 20, 45, 46, 47, 75] [.own [aB f], .own [ag q], .own [ag h], .own (al.c g), .own (b.flatMap aD.c), .own (aD.c (gt b a))] (.cF kRf (.skip (.pop (.ru G ?_)))))))))))))))
        exact az (f, G1 (a + 1)) hr ((Wk.gc [1, 2, 4, 5, 14, 15, 19, 20, 45, 46, 47] [(0, true), (1, true), (2, true), (3, true), (4, false)] rfl (pKt (pKt (pKt (pKt (pKo aD.c aD.pure b trivial)))))).to)
       replace hr := bW j hr
       refine .r0 G (.mu 4 (.p0 (v := .pp (g.Z.flatMap (iC .i64)) ((gt b a).e0.toNat * 1)) (tr (ar i)) (.p0 (v := ag (gt g.Z (gt b a).e0)) (tr (aI (aJ (aG .i64) (aE i) z1 (by omega : (gt b a).e0.toNat * 1 = (gt b a).e0.toNat * 1 + 0) kRf))) (.p0 (v := aB false) (eB j) (.mu 18 (.done (.nh [1, 2, 4, 5, 9, 14, 15, 19, 20, 45, 46, 47, 75] [.own [aB f], .own [ag q], .own [ag h], .own (al.c g), .own (b.flatMap aD.c), .own (aD.c (gt b a))] (.cF kRf (.skip (.pop (.ru G ?_)))))))))))
       exact az (f, G1 (a + 1)) hr ((Wk.gc [1, 2, 4, 5, 14, 15, 19, 20, 45, 46, 47] [(0, true), (1, true), (2, true), (3, true), (4, false)] rfl (pKt (pKt (pKt (pKt (pKo aD.c aD.pure b trivial)))))).to)
      refine .leave rfl ?_
      obtain rfl := oi hr
      exact ⟨rfl, ((Wk.gc [1, 2, 4, 5, 14, 15, 19, 20] kT4 rfl trivial).to)⟩
     rintro x st' t
     clear E
     obtain ⟨rfl, t⟩ := t
     refine aU _ rfl (.pop (.wk t (.ru G ?_)))
     exact az (D, G1 (e + 1)) hr ((Wk.gc [1, 2, 4, 5, 14, 15, 19, 20] kT4 rfl trivial).to)
    refine .leave rfl ?_
    obtain rfl := oi hr
    exact ⟨rfl, ((Wk.gc [1, 2, 4, 14, 15] kT4 rfl trivial).to)⟩
   rintro x st' u
   clear C
   obtain ⟨rfl, u⟩ := u
   refine aU _ rfl (.pop (.wk u (.ru G ?_)))
   exact az (B, G1 (d + 1)) hr ((Wk.gc [1, 2, 4, 14, 15] kT4 rfl trivial).to)
  refine .leave rfl ?_
  obtain rfl := oi hr
  exact ⟨rfl, ((Wk.gc [] kT3 rfl trivial).to)⟩
 rintro x st' w
 clear z
 obtain ⟨rfl, w⟩ := w
 refine aU _ rfl ?_
 obtain rfl := oi hr
 exact gj.wk w (gj.normal [] ((Wk.gc [] kT3 rfl trivial).to))

theorem sb (n : Nat) (g : al) (a : Int) (b : Int) (r : Bool) (hr : iZ n g a b = some r) : aK Tryz.prog 110 [.agg (al.c g), ag a, ag b] (aB r) := by
 unfold iZ at hr
 refine aK.bd G Tryz.func110 [.tmp 6] ?_
 unfold Tryz.f110
 simp only [gS]
 refine .seq (.r2 G 26 [(3, .hp 0 0), (4, .hp 1 0), (5, .hp 2 0)] [.own (al.c g), .own [ag a], .own [ag b]] (.seq (.seq ?_)))
 rcases bT (decide (a < 0)) with d | d
 ·replace hr := bY d hr
  refine .r0 G (.mu 1 (.p0 (v := aB true) (eB d) (.mu 12 (.done (.nh [3, 4, 5, 21] [.own (al.c g), .own [ag a], .own [ag b]] (.cT kRf (.seq (.ru G (.ret ?_)))))))))
  obtain rfl := oi hr
  exact aH.r1 [aB false]
 replace hr := bW d hr
 rcases bT (decide (a >= b)) with e | e
 ·replace hr := bY e hr
  refine .r0 G (.mu 1 (.p0 (v := aB false) (eB d) (.mu 3 (.pure (v := aB true) kRf (eB e) (.mu 8 (.done (.nh [3, 4, 5, 21] [.own (al.c g), .own [ag a], .own [ag b]] (.cT kRf (.seq (.ru G (.ret ?_)))))))))))
  obtain rfl := oi hr
  exact aH.r1 [aB false]
 replace hr := bW e hr
 refine .r0 G (.mu 1 (.p0 (v := aB false) (eB d) (.mu 3 (.pure (v := aB false) kRf (eB e) (.mu 8 (.done (.nh [3, 4, 5, 21] [.own (al.c g), .own [ag a], .own [ag b]] ?_)))))))
 refine .cd hr ?_ ?_ <;> intro i hr
 ·refine .seq (.ru G (.ret ?_))
  obtain rfl := oi hr
  exact aH.r1 [aB false]
 refine .skip (.seq (.r5 G [3, 4, 5] [(7, .hp 3 0)] [.own (al.c g), .own [ag a], .own [ag b], .own [aB false]] (.seq ?_)))
 obtain ⟨f, h, hr⟩ := bd hr
 refine .g1 G (cL (args := [.agg (al.c g), .fn 149 [] [.hp 3 0, .hp 1 0, .hp 2 0]]) 3 0 [(3, true), (1, true), (2, true)] [true, true, true] (gN n g false a b f h) trivial trivial rfl rfl kRf kRf) (.mu 2 (.ca cf0 (.done (.nh [7] [.own (al.c g), .own [ag a], .own [ag b], .own [aB f]] (.seq (.ru G (.ret ?_)))))))
 obtain rfl := oi hr
 exact aH.r1 [aB f]

theorem lV (n : Nat) (g : aj) (y : aj) (r : Int) (hr : ez n g y = some r) : aK Tryz.prog 102 [.agg (aj.c g), .agg (aj.c y)] (ag r) := by
 unfold ez at hr
 refine aK.bd G Tryz.func102 [.tmp 4] ?_
 unfold Tryz.f102
 simp only [gS]
 refine .seq (.r2 G 20 [(2, .hp 0 0), (3, .hp 1 0)] [.own (aj.c g), .own (aj.c y)] (.seq ?_))
 obtain ⟨i, a, j, b, hr⟩ := bd2 hr
 refine .tn G (ca1 (ok0 (cn n g i a)) (ca3 (ok0 (cn n y j b)))) (.mu 1 (.ca cf0 (.mu 1 (.ca (cfA (fun h => by rw [sv b a (iG n h)]) cf0) (.mu 2 ?_)))))
 refine .done (kRa ?_)
 refine .nh [2, 3] [.own (aj.c i), .own (aj.c j)] (.seq ?_)
 obtain ⟨k, d, l, e, m, f, hr⟩ := bd3 hr
 refine .tn G (ca1 (ok0 (dH n i.Num j.Den k d)) (ca1 (ok0 (dH n j.Num i.Den l e)) (ca3 (ok0 (mN n k l m f))))) (.mu 4 (.ca cf0 (.mu 4 (.ca (cfA (fun h => by rw [sv e d (gr n h)]) cf0) (.ca (cfF (cfF cf0)) (.mu 1 ?_))))))
 refine .done (kRa ?_)
 refine .ret ?_
 obtain rfl := oi hr
 exact aH.r1 [ag m]

theorem qL {a : Int} {b : Int} {p : Int} {m : Int} {k : Bool} {i : List Int} {f : Bool} {d : List Int} {n : Int} {o : Int} {q : Int} {l : Int} {j : Bool} {g : List Int} {e : Bool} {c : List Int} (h : ([.at (.int .i64 a), .at (.int .i64 b), .pp [.at (.int .i64 p), .at (.int .i64 m), .at (.bool k), slT iCu i, .at (.bool f), slT iCu d] 0] : List AV) = [.at (.int .i64 n), .at (.int .i64 o), .pp [.at (.int .i64 q), .at (.int .i64 l), .at (.bool j), slT iCu g, .at (.bool e), slT iCu c] 0]) : a = n /\ b = o /\ p = q /\ m = l /\ k = j /\ i = g /\ f = e /\ d = c := by
 simp only [List.cons.injEq, AV.agg.injEq, AV.at.injEq, Value.int.injEq, Value.bool.injEq, AV.fn.injEq, AV.pp.injEq, true_and, and_true, dt] at h
 simp_all
theorem q7 (n : Nat) {a : Int} {b : Int} {p : Int} {m : Int} {k : Bool} {i : List Int} {f : Bool} {d : List Int} {o : Int} {q : Int} {r : Int} {l : Int} {j : Bool} {g : List Int} {e : Bool} {c : List Int} (h : ([.at (.int .i64 a), .at (.int .i64 b), .pp [.at (.int .i64 p), .at (.int .i64 m), .at (.bool k), slT iCu i, .at (.bool f), slT iCu d] 0] : List AV) = [.at (.int .i64 o), .at (.int .i64 q), .pp [.at (.int .i64 r), .at (.int .i64 l), .at (.bool j), slT iCu g, .at (.bool e), slT iCu c] 0]) : cR n a b p m k i f d = cR n o q r l j g e c := by
 obtain ⟨rfl, rfl, rfl, rfl, rfl, rfl, rfl, rfl⟩ := qL h
 rfl
theorem mw (n : Nat) (a : Int) (b : Int) (p : Int) (o : Int) (g : Bool) (f : List Int) (e : Bool) (d : List Int) (r : aj) (hr : cR n a b p o g f e d = some r) : aK Tryz.prog 111 [ag a, ag b, .pp [ag p, ag o, aB g, av f, aB e, av d] 0] (.agg (aj.c r)) := by
 unfold cR at hr
 refine aK.bd G Tryz.func111 [.cell 5 42] ?_
 unfold Tryz.f111
 simp only [gS]
 refine .seq (.r5 G [0, 1, 2] [(5, .hp 0 0)] [.own zN2] (.seq ?_))
 obtain ⟨q, i, s, j, t, k, hr⟩ := bd3 hr
 obtain ⟨l, m, hr⟩ := bd hr
 refine .tn G (ca1 (ok0 (cB n a q i)) (ca1 (ok0 (cB n (G1 (b - a)) s j)) (ca1 (ok0 (dS n (aj.mk (ae.mk g f) (ae.mk e d)) s t k)) (ca3 (ok0 (fO n q t l m)))))) (.mu 1 (.ca cf0 (.mu 5 (.ca (cfA (fun h => by rw [sv j i (nc n h)]) cf0) (.ca (cfF (cfF cf0)) (.ca (cfF (cfF (cfF cf0))) (.mu 1 ?_)))))))
 refine .done (kRa ?_)
 refine .nh [5] [.own (aj.c l)] (.ret ?_)
 obtain rfl := oi hr
 exact aH.r1 [.agg (aj.c l)]

theorem sR (n : Nat) (g : al) (c : ak) (r : aw × Int) (hr : cS n g c = some r) : aK Tryz.prog 66 [.agg (al.c g), .agg (ak.c c)] (.tup [.agg (aw.c r.1), ag r.2]) := by
 unfold cS at hr
 refine aK.bd G Tryz.func66 [.cell 4 59, .tmp 5] ?_
 unfold Tryz.f66
 simp only [gS]
 refine .seq (.r2 G 81 [(2, .hp 0 0), (3, .hp 1 0), (4, .hp 2 0)] [.own (al.c g), .own (ak.c c), .own zN4] (.seq (.seq ?_)))
 obtain ⟨D, u, hr⟩ := bd hr
 refine .g1 G (ok0 (sb n g c.A c.B D u)) (.mu 5 (.ca cf0 (.mu 1 (.done (.nh [2, 3, 4, 14] [.own (al.c g), .own (ak.c c), .own zN4] ?_)))))
 refine .cd hr ?_ ?_ <;> intro E hr
 ·refine .seq (.r4 G [4] [(5, ag 6)] (.ret ?_))
  obtain rfl := oi hr
  exact aH.ret (vs := [.agg zN4, ag 6]) kRf (Sn.tup (SnL.cons (Sn.agg (Sp (SnL.cons Sn.ft (Sp (SnL.cons Sn.ft (Sp (SnL.cons Sn.ft (Sp (SnL.cons Sn.ft SnL.nil))))))))) (Sp SnL.nil)))
 refine .skip (.seq (.seq ?_))
 obtain ⟨F, w, hr⟩ := bd hr
 refine .g1 G (ok0 (dO n c.At F w)) (.mu 2 (.ca cf0 (.mu 1 (.done (.nh [2, 3, 4, 19] [.own (al.c g), .own (ak.c c), .own zN4] ?_)))))
 refine .cd hr ?_ ?_ <;> intro H hr
 ·refine .seq (.r4 G [4] [(5, ag 1)] (.ret ?_))
  obtain rfl := oi hr
  exact aH.ret (vs := [.agg zN4, ag 1]) kRf (Sn.tup (SnL.cons (Sn.agg (Sp (SnL.cons Sn.ft (Sp (SnL.cons Sn.ft (Sp (SnL.cons Sn.ft (Sp (SnL.cons Sn.ft SnL.nil))))))))) (Sp SnL.nil)))
 refine .skip (.seq (.seq ?_))
 replace hr := bd hr; obtain ⟨p, f, hr⟩ := hr
 refine .xZ (Q := fun x st' => x = .normal /\ Wk 0 st' ⟨mkS 81 0 [(2, .hp 0 0), (3, .hp 1 0), (4, .hp 2 0), (31, aB p)], [.own (al.c g), .own (ak.c c), .own zN4]⟩) ?_ ?_
 ·clear hr
  have hr := f
  clear f
  obtain ⟨o, j, hr⟩ := bd hr
  rcases bT (decide (o < 0)) with d | d
  ·replace hr := bY d hr
   refine .t1 G (ok0 (bK n c.At o j)) (.mu 2 (.ca cf0 (.pk (v := aB true) (eB d) (.mu 7 ?_))))
   refine .done (kRa ?_)
   obtain rfl := oi hr
   exact ⟨rfl, ((Wk.gc [2, 3, 4, 31] kT3 rfl trivial).to)⟩
  replace hr := bW d hr
  obtain ⟨q, s, z, t, hr⟩ := bd2 hr
  refine .tn G (ca1 (ok0 (bK n c.At o j)) (ca1 (ok0 (cB n 1 q s)) (ca3 (ok0 (lV n c.At q z t))))) (.mu 2 (.ca cf0 (.pk (v := aB false) (eB d) (.mu 3 (.ca (cfF cf0) (.ca (cfF (cfF cf0)) (.mu 2 ?_)))))))
  refine .done (kRa ?_)
  obtain rfl := oi hr
  exact ⟨rfl, ((Wk.gc [2, 3, 4, 31] kT3 rfl trivial).to)⟩
 rintro x st' i
 clear f
 obtain ⟨rfl, i⟩ := i
 refine .wk i ?_
 refine .cd hr ?_ ?_ <;> intro C hr
 ·refine .seq (.r4 G [4] [(5, ag 2)] (.ret ?_))
  obtain rfl := oi hr
  exact aH.ret (vs := [.agg zN4, ag 2]) kRf (Sn.tup (SnL.cons (Sn.agg (Sp (SnL.cons Sn.ft (Sp (SnL.cons Sn.ft (Sp (SnL.cons Sn.ft (Sp (SnL.cons Sn.ft SnL.nil))))))))) (Sp SnL.nil)))
 refine .skip (.seq (.r4 G [2, 3, 4] [(6, .fn 111 [] [.hp 1 0])] (.seq (.r4 G [2, 3, 4, 6] [(7, ag g.Width)] (.seq (.wk ((Wk.fix 1 (cs := (ak.c c)) kRf).to (c := ⟨mkS 81 0 [(2, .hp 0 0), (3, .hp 1 0), (4, .hp 2 0), (6, .fn 111 [] [.hp 1 0]), (7, ag g.Width)], [.own (al.c g), .fix (ak.c c), .own zN4]⟩) kRf) ?_))))))
 obtain ⟨e, hr⟩ := gd hr
 obtain ⟨a, k, b, m, hr⟩ := bd2 hr
 refine .tn G (ca1 (b8 (args := [ag (G1 (g.X0 + (G1 ((c.A.tmod g.Width) * g.Step)))), ag (G1 (g.X0 + (G1 ((c.B.tmod g.Width) * g.Step)))), .hp 1 0]) (l := [1]) (Sp (Sp (SnL.cons (Sn.hp rfl (.inr rfl) (SnC.cons (Sn.pure rfl) (SnC.cons (Sn.pure rfl) (SnC.cons (Sn.pure rfl) (SnC.cons (Sn.pure rfl) (SnC.cons (Sn.pure rfl) (SnC.cons (Sn.pure rfl) SnC.nil))))))) SnL.nil))) (mw n (G1 (g.X0 + (G1 ((c.A.tmod g.Width) * g.Step)))) (G1 (g.X0 + (G1 ((c.B.tmod g.Width) * g.Step)))) c.A c.B c.At.Num.Negative c.At.Num.Groups c.At.Den.Negative c.At.Den.Groups a k)) (ca3 (b8 (args := [ag (G1 (g.Y0 + (G1 ((G1 (c.A.tdiv g.Width)) * g.Step)))), ag (G1 (g.Y0 + (G1 ((G1 (c.B.tdiv g.Width)) * g.Step)))), .hp 1 0]) (l := [1]) (Sp (Sp (SnL.cons (Sn.hp rfl (.inr rfl) (SnC.cons (Sn.pure rfl) (SnC.cons (Sn.pure rfl) (SnC.cons (Sn.pure rfl) (SnC.cons (Sn.pure rfl) (SnC.cons (Sn.pure rfl) (SnC.cons (Sn.pure rfl) SnC.nil))))))) SnL.nil))) (mw n (G1 (g.Y0 + (G1 ((G1 (c.A.tdiv g.Width)) * g.Step)))) (G1 (g.Y0 + (G1 ((G1 (c.B.tdiv g.Width)) * g.Step)))) c.A c.B c.At.Num.Negative c.At.Num.Groups c.At.Den.Negative c.At.Den.Groups b m)))) (.mu 6 (.pk (v := ag (c.A.tmod g.Width)) (mi (x := c.A) (y := g.Width) kRf kRf e) (.mu 9 (.pk (v := ag (c.B.tmod g.Width)) (mi (x := c.B) (y := g.Width) kRf kRf e) (.mu 4 (.ca cf0 (.mu 6 (.pk (v := ag (G1 (c.A.tdiv g.Width))) (oD (x := c.A) (y := g.Width) kRf kRf e) (.mu 9 (.pk (v := ag (G1 (c.B.tdiv g.Width))) (oD (x := c.B) (y := g.Width) kRf kRf e) (.mu 4 (.ca (cfA (fun h => by rw [sv m k (q7 n (show ([ag (G1 (g.Y0 + (G1 ((G1 (c.A.tdiv g.Width)) * g.Step)))), ag (G1 (g.Y0 + (G1 ((G1 (c.B.tdiv g.Width)) * g.Step)))), .pp (ak.c c) 0] : List AV) = [ag (G1 (g.X0 + (G1 ((c.A.tmod g.Width) * g.Step)))), ag (G1 (g.X0 + (G1 ((c.B.tmod g.Width) * g.Step)))), .pp (ak.c c) 0] from (congr (congrArg List.cons (List.cons.inj h).1) (congr (congrArg List.cons (List.cons.inj (List.cons.inj h).2).1) (congr (congrArg List.cons rfl) rfl)))))]) cf0) (.mu 3 ?_)))))))))))))
 refine .done (kRa ?_)
 refine .nh [4, 5] [.own (al.c g), .fix (ak.c c), .own [aB a.Num.Negative, av a.Num.Groups, aB a.Den.Negative, av a.Den.Groups, aB b.Num.Negative, av b.Num.Groups, aB b.Den.Negative, av b.Den.Groups]] (.ret ?_)
 obtain rfl := oi hr
 exact aH.ret (vs := [.agg [aB a.Num.Negative, av a.Num.Groups, aB a.Den.Negative, av a.Den.Groups, aB b.Num.Negative, av b.Num.Groups, aB b.Den.Negative, av b.Den.Groups], ag 0]) kRf (Sn.tup (Sp (Sp SnL.nil)))

theorem rP (n : Nat) (g : al) (c : ah) (r : List aw × Int) (hr : gq n g c = some r) : aK Tryz.prog 59 [.agg (al.c g), .agg (ah.c c)] (.tup [slT aw.c r.1, ag r.2]) := by
 unfold gq at hr
 refine aK.bd G Tryz.func59 [.tmp 4, .tmp 5] ?_
 unfold Tryz.f59
 simp only [gS]
 refine .seq (.r2 G 33 [(2, .hp 0 0), (3, .hp 1 0)] [.own (al.c g), .own (ah.c c)] (.seq (.r4 G [2, 3] [(6, nS)] (.seq (.seq (.r4 G [2, 6] [(12, slT ak.c c.Points), (13, ag (c.Points.length : Int)), (14, ag 0)] (.block ?_)))))))
 replace hr := bd hr; obtain ⟨k, i, hr⟩ := hr
 refine .aN (σ := fun u => match u with | (b, a) => ⟨mkS 33 0 [(2, .hp 0 0), (6, .hs 1 0 b.length 8), (12, slT ak.c c.Points), (13, ag (c.Points.length : Int)), (14, ag a)], [.own (al.c g), .own (b.flatMap aw.c)]⟩) (Q := fun x st' => match (generalizing := false) k with | .inl f => x = .exit 0 /\ Wk 0 st' ⟨mkS 33 0 [(6, .hs 0 0 f.length 8)], [.own (f.flatMap aw.c)]⟩ | .inr (r0) => x = .ret /\ aH Tryz.prog [.tmp 4, .tmp 5] (.tup [slT aw.c r0.1, ag r0.2]) .ret st') i ((Wk.nil 6 8 kRf).trans ((Wk.gc [2, 6, 12, 13, 14] [(0, true), (2, false)] rfl (pKt (pKc trivial))).to)) ?_ ?_
 ·clear hr
  rintro m ⟨b, a⟩ hr
  refine CQ.sh ?_
  refine .seq (.r4 G [2, 6, 12, 13, 14] [(15, aB (decide (a < (c.Points.length : Int))))] (.seq ?_))
  refine .cd hr ?_ ?_ <;> intro s hr
  ·refine .skip (.seq (.block (.seq ?_)))
   obtain ⟨j, hr⟩ := gd hr
   refine .r0 G (.p0 (v := .pp (c.Points.flatMap ak.c) (a.toNat * 6)) (tr (ar j)) (.p0 (v := .agg (ak.c (gt c.Points a))) (tr (y := bt.ofP (gO (decide (6 <= ((c.Points.flatMap ak.c).drop (a.toNat * 6)).length)) (.agg (((c.Points.flatMap ak.c).drop (a.toNat * 6)).take 6)))) (dr ak.len (aE j) (by decide) (by omega : a.toNat * 6 = a.toNat * 6 + 0) kRf)) (.mu 2 (.done (.nh [2, 6, 8, 12, 13, 14] [.own (al.c g), .own (b.flatMap aw.c), .own (ak.c (gt c.Points a))] (.seq ?_))))))
   obtain ⟨d, o, hr⟩ := bd hr
   refine .g1 G (ok0 (sR n g (gt c.Points a) d o)) (.mu 2 (.ca cf0 (.mu 6 (.done (.nh [2, 6, 9, 10, 12, 13, 14] [.own (al.c g), .own (b.flatMap aw.c), .own (ak.c (gt c.Points a)), .own (aw.c d.1)] (.seq (.seq (.r4 G [2, 6, 9, 10, 12, 13, 14] [(25, aB ((d.2 : Int) != 0))] ?_))))))))
   refine .cd hr ?_ ?_ <;> intro t hr
   ·refine .seq (.r3 G 33 [(4, nS), (5, ag d.2)] (.ret ?_))
    obtain rfl := oi hr
    exact ⟨rfl, aH.ret (vs := [nS, ag d.2]) kRf (Sn.tup (SnL.cons Sn.ft (Sp SnL.nil)))⟩
   refine .skip ?_
   obtain ⟨p, q, hr⟩ := gd2 hr
   refine .r0 G (.mu 3 (.e0 (v := .hs 5 0 (b ++ [d.1]).length 8) (ws := [(1, .dead), (5, .own ((b ++ [d.1]).flatMap aw.c))]) (tr (dX (new := (aw.c d.1)) (l := b) (xs := [d.1]) aw.len rfl rfl kRf p q)) (.mu 1 (.done (.pop (.ru G ?_))))))
   exact az (b ++ [d.1], G1 (a + 1)) hr ((Wk.gc [2, 6, 12, 13, 14] [(0, true), (5, false)] rfl (pKt (pKo aw.c aw.pure (b ++ [d.1]) trivial))).to)
  refine .leave rfl ?_
  obtain rfl := oi hr
  exact ⟨rfl, ((Wk.gc [6] [(1, false)] rfl (pKo aw.c aw.pure b trivial)).to)⟩
 rcases k with f | r0
 ·rintro x st' e
  clear i
  obtain ⟨rfl, e⟩ := e
  refine aU _ rfl (.wk e (.seq (.r3 G 33 [(4, .hs 0 0 f.length 8), (5, ag 0)] (.ret ?_))))
  obtain rfl := oi hr
  exact aH.ret (vs := [.hs 0 0 f.length 8, ag 0]) kRf (Sn.tup (SnL.cons (Sn.hs rfl (.inl rfl) (SnC.pure (aY aw.pure _)) (fun h => cc h)) (Sp SnL.nil)))
 rintro x st' e
 clear i
 obtain ⟨rfl, e⟩ := e
 obtain rfl := oi hr
 exact gJ _ e

theorem rz (n : Nat) (polygon : List aw) (o : aw) (r : Int × Bool) (hr : fQ n polygon o = some r) : aK Tryz.prog 60 [slT aw.c polygon, .agg (aw.c o)] (.tup [ag r.1, aB r.2]) := by
 unfold fQ at hr
 refine aK.bd G Tryz.func60 [.tmp 4, .tmp 5] ?_
 unfold Tryz.f60
 simp only [gS]
 refine .seq (.r5 G [0] [(3, .hp 0 0)] [.own (aw.c o)] (.seq (.r4 G [0, 3] [(6, ag 0)] (.seq (.seq (.r4 G [0, 3, 6] [(17, slT aw.c polygon), (18, ag (polygon.length : Int)), (19, ag 0)] (.block ?_)))))))
 replace hr := bd hr; obtain ⟨E, s, hr⟩ := hr
 refine .aN (σ := fun z0 => match z0 with | (j, a) => ⟨mkS 105 0 [(0, slT aw.c polygon), (3, .hp 0 0), (6, ag j), (17, slT aw.c polygon), (18, ag (polygon.length : Int)), (19, ag a)], [.own (aw.c o)]⟩) (Q := fun x st' => match (generalizing := false) E with | .inl w => x = .exit 0 /\ Wk 0 st' ⟨mkS 105 0 [(6, ag w)], []⟩ | .inr (r0) => x = .ret /\ aH Tryz.prog [.tmp 4, .tmp 5] (.tup [ag r0.1, aB r0.2]) .ret st') s ((Wk.gc [0, 3, 6, 17, 18, 19] [(0, true)] rfl trivial).to) ?_ ?_
 ·clear hr
  rintro m ⟨j, a⟩ hr
  refine CQ.sh ?_
  refine .seq (.r4 G [0, 3, 6, 17, 18, 19] [(20, aB (decide (a < (polygon.length : Int))))] (.seq ?_))
  refine .cd hr ?_ ?_ <;> intro lW hr
  ·refine .skip (.seq (.block (.seq ?_)))
   obtain ⟨F, hr⟩ := gd hr
   refine .r0 G (.mu 1 (.p0 (v := .pp (polygon.flatMap aw.c) (a.toNat * 8)) (tr (ar F)) (.p0 (v := .agg (aw.c (gt polygon a))) (tr (y := bt.ofP (gO (decide (8 <= ((polygon.flatMap aw.c).drop (a.toNat * 8)).length)) (.agg (((polygon.flatMap aw.c).drop (a.toNat * 8)).take 8)))) (dr aw.len (aE F) (by decide) (by omega : a.toNat * 8 = a.toNat * 8 + 0) kRf)) (.mu 3 (.done (.nh [0, 3, 6, 7, 8, 17, 18, 19] [.own (aw.c o), .own (aw.c (gt polygon a))] (.seq ?_)))))))
   obtain ⟨V, H, hr⟩ := gd2 hr
   refine .r0 G (.mu 5 (.p0 (v := ag ((G1 (a + 1)).tmod (polygon.length : Int))) (mi (x := G1 (a + 1)) (y := (polygon.length : Int)) kRf kRf V) (.p0 (v := .pp (polygon.flatMap aw.c) (((G1 (a + 1)).tmod (polygon.length : Int)).toNat * 8)) (tr (ar H)) (.p0 (v := .agg (aw.c (gt polygon ((G1 (a + 1)).tmod (polygon.length : Int))))) (tr (y := bt.ofP (gO (decide (8 <= ((polygon.flatMap aw.c).drop (((G1 (a + 1)).tmod (polygon.length : Int)).toNat * 8)).length)) (.agg (((polygon.flatMap aw.c).drop (((G1 (a + 1)).tmod (polygon.length : Int)).toNat * 8)).take 8)))) (dr aw.len (aE H) (by decide) (by omega : ((G1 (a + 1)).tmod (polygon.length : Int)).toNat * 8 = ((G1 (a + 1)).tmod (polygon.length : Int)).toNat * 8 + 0) kRf)) (.mu 2 (.done (.nh [0, 3, 6, 8, 9, 17, 18, 19] [.own (aw.c o), .own (aw.c (gt polygon a)), .own (aw.c (gt polygon ((G1 (a + 1)).tmod (polygon.length : Int))))] (.seq ?_))))))))
   obtain ⟨k, I, d, J, hr⟩ := bd2 hr
   refine .tn G (ca1 (ok0 (dT n (gt polygon a).X o.X k I)) (ca3 (ok0 (dT n (gt polygon a).Y o.Y d J)))) (.mu 4 (.ca cf0 (.mu 4 (.ca (cfA (fun h => by rw [sv J I (lL n h)]) cf0) (.mu 4 ?_)))))
   refine .done (kRa ?_)
   refine .nh [0, 3, 6, 9, 10, 11, 17, 18, 19] [.own (aw.c o), .own (aw.c (gt polygon a)), .own (aw.c (gt polygon ((G1 (a + 1)).tmod (polygon.length : Int)))), .own (aj.c k), .own (aj.c d)] (.seq ?_)
   obtain ⟨t, L, f, M, hr⟩ := bd2 hr
   refine .tn G (ca1 (ok0 (dT n (gt polygon ((G1 (a + 1)).tmod (polygon.length : Int))).X o.X t L)) (ca3 (ok0 (dT n (gt polygon ((G1 (a + 1)).tmod (polygon.length : Int))).Y o.Y f M)))) (.mu 4 (.ca cf0 (.mu 4 (.ca (cfA (fun h => by rw [sv M L (lL n h)]) cf0) (.mu 4 ?_)))))
   refine .done (kRa ?_)
   refine .nh [0, 3, 6, 10, 11, 12, 13, 17, 18, 19] [.own (aw.c o), .own (aw.c (gt polygon a)), .own (aw.c (gt polygon ((G1 (a + 1)).tmod (polygon.length : Int)))), .own (aj.c k), .own (aj.c d), .own (aj.c t), .own (aj.c f)] (.seq ?_)
   obtain ⟨W, N, Z, O, jD, ki, hr⟩ := bd3 hr
   obtain ⟨B, lP, hr⟩ := bd hr
   refine .tn G (ca1 (ok0 (dS n k f W N)) (ca1 (ok0 (dS n d t Z O)) (ca1 (ok0 (dT n W Z jD ki)) (ca3 (ok0 (bK n jD B lP)))))) (.mu 2 (.ca cf0 (.mu 2 (.ca (cfA (fun h => by rw [sv O N (lO n h)]) cf0) (.ca (cfF (cfF cf0)) (.ca (cfF (cfF (cfF cf0))) (.mu 1 ?_)))))))
   refine .done (kRa ?_)
   refine .nh [0, 3, 6, 10, 11, 12, 13, 14, 17, 18, 19] [.own (aw.c o), .own (aw.c (gt polygon a)), .own (aw.c (gt polygon ((G1 (a + 1)).tmod (polygon.length : Int)))), .own (aj.c k), .own (aj.c d), .own (aj.c t), .own (aj.c f)] (.seq (.seq ?_))
   replace hr := bd hr; obtain ⟨l8, u, hr⟩ := hr
   refine .F6 (Q := fun x st' => match (generalizing := false) l8 with | .inl _ => x = .normal /\ Wk 0 st' ⟨mkS 105 0 [(0, slT aw.c polygon), (3, .hp 0 0), (6, ag j), (11, .hp 1 0), (13, .hp 2 0), (14, ag B), (17, slT aw.c polygon), (18, ag (polygon.length : Int)), (19, ag a)], [.own (aw.c o), .own (aj.c d), .own (aj.c f)]⟩ | .inr (r0) => x = .ret /\ aH Tryz.prog [.tmp 4, .tmp 5] (.tup [ag r0.1, aB r0.2]) .ret st') ?_ ?_
   ·clear hr
    have hr := u
    clear u
    rcases bT ((B : Int) == 0) with l | l
    ·replace hr := bY l hr
     obtain ⟨lG, R, mM, S, mz, oq, hr⟩ := bd3 hr
     obtain ⟨km, ov, hr⟩ := bd hr
     refine .tn G (ca1 (ok0 (dS n k t lG R)) (ca1 (ok0 (dS n d f mM S)) (ca1 (ok0 (fO n lG mM mz oq)) (ca3 (ok0 (bK n mz km ov)))))) (.mu 1 (.pk (v := aB true) (eB l) (.mu 3 (.ca cf0 (.mu 2 (.ca (cfA (fun h => by rw [sv S R (lO n h)]) cf0) (.ca (cfF (cfF cf0)) (.ca (cfF (cfF (cfF cf0))) (.mu 2 ?_)))))))))
     refine .done (kRa ?_)
     refine .nh [0, 3, 6, 11, 13, 14, 17, 18, 19, 72] [.own (aw.c o), .own (aw.c (gt polygon a)), .own (aw.c (gt polygon ((G1 (a + 1)).tmod (polygon.length : Int)))), .own (aj.c k), .own (aj.c d), .own (aj.c t), .own (aj.c f)] ?_
     refine .cd hr ?_ ?_ <;> intro mZ hr
     ·refine .seq (.ru G (.ret ?_))
      obtain rfl := oi hr
      exact ⟨rfl, aH.ret (vs := [ag 0, aB true]) kRf (Sn.tup (Sp (Sp SnL.nil)))⟩
     refine .skip ?_
     obtain rfl := oi hr
     exact ⟨rfl, ((Wk.gc [0, 3, 6, 11, 13, 14, 17, 18, 19] [(0, true), (4, true), (6, true)] rfl trivial).to)⟩
    replace hr := bW l hr
    refine .eX G bO (.mu 1 (.pk (v := aB false) (eB l) (.mu 11 ?_)))
    refine .done (kRa ?_)
    refine .nh [0, 3, 6, 11, 13, 14, 17, 18, 19, 72] [.own (aw.c o), .own (aw.c (gt polygon a)), .own (aw.c (gt polygon ((G1 (a + 1)).tmod (polygon.length : Int)))), .own (aj.c k), .own (aj.c d), .own (aj.c t), .own (aj.c f)] (.cF kRf (.skip ?_))
    obtain rfl := oi hr
    exact ⟨rfl, ((Wk.gc [0, 3, 6, 11, 13, 14, 17, 18, 19] [(0, true), (4, true), (6, true)] rfl trivial).to)⟩
   rcases l8 with ⟨⟩ | r0
   ·rintro x st' e
    clear u
    obtain ⟨rfl, e⟩ := e
    refine .wk e (.seq ?_)
    obtain ⟨C, T, D, U, hr⟩ := bd2 hr
    refine .tn G (ca1 (ok0 (bK n d C T)) (ca3 (ok0 (bK n f D U)))) (.mu 1 (.ca cf0 (.mu 2 (.ca (cfA (fun h => by rw [sv U T (ji n h)]) cf0) (.mu 3 ?_)))))
    refine .done (kRa ?_)
    refine .nh [0, 3, 6, 14, 15, 16, 17, 18, 19] [.own (aw.c o), .own (aj.c d), .own (aj.c f)] (.block (.seq ?_))
    replace hr := bd hr; obtain ⟨py, z, hr⟩ := hr
    refine .xZ (Q := fun x st' => x = .normal /\ Wk 0 st' ⟨mkS 105 0 [(0, slT aw.c polygon), (3, .hp 0 0), (6, ag j), (14, ag B), (15, aB (decide (C <= 0))), (16, aB (decide (D <= 0))), (17, slT aw.c polygon), (18, ag (polygon.length : Int)), (19, ag a), (79, aB py)], [.own (aw.c o)]⟩) ?_ ?_
    ·clear hr
     have hr := z
     clear z
     rcases bT (decide (C <= 0)) with g | g
     ·replace hr := bY g hr
      rcases bT (!(decide (D <= 0))) with p | p
      ·replace hr := bY p hr
       refine .r0 G (.p0 (v := aB true) (eB g) (.mu 2 (.pure (v := aB true) kRf (eB p) (.mu 6 (.done ?_)))))
       obtain rfl := oi hr
       exact ⟨rfl, ((Wk.gc [0, 3, 6, 14, 15, 16, 17, 18, 19, 79] [(0, true)] rfl trivial).to)⟩
      replace hr := bW p hr
      refine .r0 G (.p0 (v := aB true) (eB g) (.mu 2 (.pure (v := aB false) kRf (eB p) (.mu 6 (.done ?_)))))
      obtain rfl := oi hr
      exact ⟨rfl, ((Wk.gc [0, 3, 6, 14, 15, 16, 17, 18, 19, 79] [(0, true)] rfl trivial).to)⟩
     replace hr := bW g hr
     refine .r0 G (.p0 (v := aB false) (eB g) (.mu 9 (.done ?_)))
     obtain rfl := oi hr
     exact ⟨rfl, ((Wk.gc [0, 3, 6, 14, 15, 16, 17, 18, 19, 79] [(0, true)] rfl trivial).to)⟩
    rintro x st' A
    clear z
    obtain ⟨rfl, A⟩ := A
    refine .wk A ?_
    refine .cd hr ?_ ?_ <;> intro na hr
    ·refine .ru G (.pop (.pop (.ru G ?_)))
     exact az (G1 (j + 1), G1 (a + 1)) hr ((Wk.gc [0, 3, 6, 17, 18, 19] [(0, true)] rfl trivial).to)
    refine .seq ?_
    rcases bT (!(decide (C <= 0))) with i | i
    ·replace hr := bY i hr
     rcases bT (decide (D <= 0)) with q | q
     ·replace hr := bY q hr
      refine .r0 G (.mu 1 (.p0 (v := aB true) (eB i) (.mu 1 (.pure (v := aB true) kRf (eB q) (.mu 6 (.done (.nh [0, 3, 6, 17, 18, 19, 91] [.own (aw.c o)] ?_)))))))
      refine .cd hr ?_ ?_ <;> intro lY hr
      ·refine .ru G (.pop (.pop (.ru G ?_)))
       exact az (G1 (j - 1), G1 (a + 1)) hr ((Wk.gc [0, 3, 6, 17, 18, 19] [(0, true)] rfl trivial).to)
      refine .skip (.pop (.pop (.ru G ?_)))
      exact az (j, G1 (a + 1)) hr ((Wk.gc [0, 3, 6, 17, 18, 19] [(0, true)] rfl trivial).to)
     replace hr := bW q hr
     refine .r0 G (.mu 1 (.p0 (v := aB true) (eB i) (.mu 1 (.pure (v := aB false) kRf (eB q) (.mu 6 (.done (.nh [0, 3, 6, 17, 18, 19, 91] [.own (aw.c o)] (.cF kRf (.skip (.pop (.pop (.ru G ?_))))))))))))
     exact az (j, G1 (a + 1)) hr ((Wk.gc [0, 3, 6, 17, 18, 19] [(0, true)] rfl trivial).to)
    replace hr := bW i hr
    refine .r0 G (.mu 1 (.p0 (v := aB false) (eB i) (.mu 8 (.done (.nh [0, 3, 6, 17, 18, 19, 91] [.own (aw.c o)] (.cF kRf (.skip (.pop (.pop (.ru G ?_))))))))))
    exact az (j, G1 (a + 1)) hr ((Wk.gc [0, 3, 6, 17, 18, 19] [(0, true)] rfl trivial).to)
   rintro x st' e
   clear u
   obtain ⟨rfl, e⟩ := e
   obtain rfl := oi hr
   exact gJ _ ⟨rfl, e⟩
  refine .leave rfl ?_
  obtain rfl := oi hr
  exact ⟨rfl, ((Wk.gc [6] [] rfl pK0).to)⟩
 rcases E with w | r0
 ·rintro x st' b
  clear s
  obtain ⟨rfl, b⟩ := b
  refine aU _ rfl (.wk b (.seq (.ru G (.ret ?_))))
  obtain rfl := oi hr
  exact aH.ret (vs := [ag w, aB false]) kRf (Sn.tup (Sp (Sp SnL.nil)))
 rintro x st' b
 clear s
 obtain ⟨rfl, b⟩ := b
 obtain rfl := oi hr
 exact gJ _ b

theorem nV (n : Nat) (g : al) (l : ah) (i : Int) (j : Int) (r : Int × Int) (hr : ik n g l i j = some r) : aK Tryz.prog 22 [.agg (al.c g), .agg (ah.c l), ag i, ag j] (.tup [ag r.1, ag r.2]) := by
 unfold ik at hr
 refine aK.bd G Tryz.func22 [.tmp 8, .tmp 9] ?_
 unfold Tryz.f22
 simp only [gS]
 refine .seq (.r5 G [2, 3] [(4, .hp 0 0), (5, .hp 1 0)] [.own (al.c g), .own (ah.c l)] (.seq (.seq ?_)))
 obtain ⟨y, z, hr⟩ := bd hr
 refine .g1 G (ok0 (oh n g y z)) (.mu 1 (.ca cf0 (.mu 1 (.done (.nh [2, 3, 4, 5, 10] [.own (al.c g), .own (ah.c l)] (.seq (.r4 G [2, 3, 4, 5, 10] [(18, aB ((y : Int) != 0))] ?_)))))))
 refine .cd hr ?_ ?_ <;> intro F hr
 ·refine .seq (.ru G (.ret ?_))
  obtain rfl := oi hr
  exact aH.ret (vs := [ag 0, ag y]) kRf (Sn.tup (Sp (Sp SnL.nil)))
 refine .skip (.seq (.seq ?_))
 replace hr := bd hr; obtain ⟨A, e, hr⟩ := hr
 refine .xZ (Q := fun x st' => x = .normal /\ Wk 0 st' ⟨mkS 79 0 [(2, ag i), (3, ag j), (4, .hp 0 0), (5, .hp 1 0), (37, aB A)], [.own (al.c g), .own (ah.c l)]⟩) ?_ ?_
 ·clear hr
  have hr := e
  clear e
  rcases bT (decide (i < 0)) with b | b
  ·replace hr := bY b hr
   refine .r0 G (.mu 1 (.p0 (v := aB true) (eB b) (.mu 16 (.done ?_))))
   obtain rfl := oi hr
   exact ⟨rfl, ((Wk.gc [2, 3, 4, 5, 37] [(0, true), (1, true)] rfl trivial).to)⟩
  replace hr := bW b hr
  rcases bT (decide (i >= g.Width)) with d | d
  ·replace hr := bY d hr
   refine .r0 G (.mu 1 (.p0 (v := aB false) (eB b) (.mu 4 (.pure (v := aB true) kRf (eB d) (.mu 11 (.done ?_))))))
   obtain rfl := oi hr
   exact ⟨rfl, ((Wk.gc [2, 3, 4, 5, 37] [(0, true), (1, true)] rfl trivial).to)⟩
  replace hr := bW d hr
  rcases bT (decide (j < 0)) with f | f
  ·replace hr := bY f hr
   refine .r0 G (.mu 1 (.p0 (v := aB false) (eB b) (.mu 4 (.pure (v := aB false) kRf (eB d) (.mu 3 (.pure (v := aB true) kRf (eB f) (.mu 7 (.done ?_))))))))
   obtain rfl := oi hr
   exact ⟨rfl, ((Wk.gc [2, 3, 4, 5, 37] [(0, true), (1, true)] rfl trivial).to)⟩
  replace hr := bW f hr
  refine .r0 G (.mu 1 (.p0 (v := aB false) (eB b) (.mu 4 (.pure (v := aB false) kRf (eB d) (.mu 3 (.pure (v := aB false) kRf (eB f) (.mu 7 (.done ?_))))))))
  obtain rfl := oi hr
  exact ⟨rfl, ((Wk.gc [2, 3, 4, 5, 37] [(0, true), (1, true)] rfl trivial).to)⟩
 rintro x st' k
 clear e
 obtain ⟨rfl, k⟩ := k
 refine .wk k ?_
 refine .cd hr ?_ ?_ <;> intro B hr
 ·refine .seq (.ru G (.ret ?_))
  obtain rfl := oi hr
  exact aH.ret (vs := [ag 0, ag 2]) kRf (Sn.tup (Sp (Sp SnL.nil)))
 refine .skip (.seq (.seq (.r4 G [2, 3, 4, 5] [(40, aB (!l.Closed))] ?_)))
 refine .cd hr ?_ ?_ <;> intro C hr
 ·refine .seq (.ru G (.ret ?_))
  obtain rfl := oi hr
  exact aH.ret (vs := [ag 0, ag 11]) kRf (Sn.tup (Sp (Sp SnL.nil)))
 refine .skip (.seq ?_)
 obtain ⟨m, s, hr⟩ := bd hr
 refine .g1 G (ok0 (rP n g l m s)) (.mu 2 (.ca cf0 (.mu 5 (.done (.nh [2, 3, 4, 11, 12] [.own (al.c g), .own (ah.c l)] (.seq (.seq (.r4 G [2, 3, 4, 11, 12] [(48, aB ((m.2 : Int) != 0))] ?_))))))))
 refine .cd hr ?_ ?_ <;> intro D hr
 ·refine .seq (.ru G (.ret ?_))
  obtain rfl := oi hr
  exact aH.ret (vs := [ag 0, ag m.2]) kRf (Sn.tup (Sp (Sp SnL.nil)))
 refine .skip (.seq ?_)
 obtain ⟨t, o, u, p, q, w, hr⟩ := bd3 hr
 refine .tn G (ca1 (ok0 (cB n (G1 (g.X0 + (G1 (i * g.Step)))) t o)) (ca1 (ok0 (cB n (G1 (g.Y0 + (G1 (j * g.Step)))) u p)) (ca3 (ok0 (rz n m.1 (aw.mk t u) q w))))) (.mu 8 (.ca cf0 (.mu 7 (.ca (cfA (fun h => by rw [sv p o (nc n h)]) cf0) (.mu 1 (.ca (cfF (cfF cf0)) (.mu 5 ?_)))))))
 refine .done (kRa ?_)
 refine .nh [11, 13, 14] [.own (al.c g), .own (ah.c l)] (.seq (.seq ?_))
 rcases bT q.2 with a | a
 ·replace hr := bY a hr
  refine .r0 G (.p0 (v := aB true) (eB a) (.mu 5 (.done (.nh [13, 77] [.own (al.c g), .own (ah.c l)] (.cT kRf (.seq (.ru G (.ret ?_))))))))
  obtain rfl := oi hr
  exact aH.ret (vs := [ag 0, ag 13]) kRf (Sn.tup (Sp (Sp SnL.nil)))
 replace hr := bW a hr
 refine .r0 G (.p0 (v := aB false) (eB a) (.mu 5 (.done (.nh [13, 77] [.own (al.c g), .own (ah.c l)] ?_))))
 refine .cd hr ?_ ?_ <;> intro E hr
 ·refine .seq (.ru G (.ret ?_))
  obtain rfl := oi hr
  exact aH.ret (vs := [ag 0, ag 13]) kRf (Sn.tup (Sp (Sp SnL.nil)))
 refine .skip (.seq (.ru G (.ret ?_)))
 obtain rfl := oi hr
 exact aH.ret (vs := [ag q.1, ag 0]) kRf (Sn.tup (Sp (Sp SnL.nil)))

theorem aR (n : Nat) (negative : Bool) (l : List Int) (r : ae) (hr : aT n negative l = some r) : aK Tryz.prog 129 [aB negative, av l] (.agg (ae.c r)) := by
 unfold aT at hr
 refine aK.bd G Tryz.func129 [.cell 4 40] ?_
 unfold Tryz.f129
 simp only [gS]
 refine .seq (.r5 G [0, 1] [(4, .hp 0 0)] [.own [aB false, nS]] (.seq (.r4 G [0, 1, 4] [(5, ag (l.length : Int))] (.seq (.block ?_)))))
 replace hr := bd hr; obtain ⟨a, i, hr⟩ := hr
 refine .aN (σ := fun u => match u with | b => ⟨mkS 31 0 [(0, aB negative), (1, av l), (4, .hp 0 0), (5, ag b)], [.own [aB false, nS]]⟩) (Q := fun x st' => x = .exit 0 /\ Wk 0 st' ⟨mkS 31 0 [(0, aB negative), (1, av l), (4, .hp 0 0), (5, ag a)], [.own [aB false, nS]]⟩) i ((Wk.gc [0, 1, 4, 5] [(0, true)] rfl trivial).to) ?_ ?_
 ·clear hr
  rintro m b hr
  refine CQ.sh ?_
  refine .seq (.seq ?_)
  rcases bT (decide (b > 0)) with f | f
  ·replace hr := bY f hr
   obtain ⟨o, hr⟩ := gd hr
   refine .r0 G (.mu 1 (.p0 (v := aB true) (eB f) (.mu 4 (.pure (v := .pp (l.flatMap iCu) ((G1 (b - 1)).toNat * 1)) kRf (tr (ar o)) (.pure (v := a7 (gt l (G1 (b - 1)))) kRf (tr (aI (aJ (aG .u32) (aE o) z1 (by omega : (G1 (b - 1)).toNat * 1 = (G1 (b - 1)).toNat * 1 + 0) kRf))) (.mu 2 (.done (.nh [0, 1, 4, 5, 17] [.own [aB false, nS]] ?_))))))))
   refine .cd hr ?_ ?_ <;> intro w hr
   ·refine .skip (.block (.ru G (.pop ?_)))
    exact az (G1 (b - 1)) hr ((Wk.gc [0, 1, 4, 5] [(0, true)] rfl trivial).to)
   refine .leave rfl ?_
   obtain rfl := oi hr
   exact ⟨rfl, ((Wk.gc [0, 1, 4, 5] [(0, true)] rfl trivial).to)⟩
  replace hr := bW f hr
  refine .r0 G (.mu 1 (.p0 (v := aB false) (eB f) (.mu 8 (.done (.nh [0, 1, 4, 5, 17] [.own [aB false, nS]] (.cF kRf (.leave rfl ?_)))))))
  obtain rfl := oi hr
  exact ⟨rfl, ((Wk.gc [0, 1, 4, 5] [(0, true)] rfl trivial).to)⟩
 rintro x st' g
 clear i
 obtain ⟨rfl, g⟩ := g
 refine aU _ rfl (.wk g (.seq ?_))
 rcases bT negative with d | d
 ·replace hr := bY d hr
  obtain ⟨j, p, q, hr⟩ := gd3 hr
  refine .r0 G (.p0 (v := aB true) (eB d) (.mu 7 (.p0 (v := av ((l.drop (0 : Int).toNat).take (a.toNat - (0 : Int).toNat))) (tr (y := slO (inS 0 a l.length) (0 : Int).toNat a.toNat (fun z1 e => .sl true (((l.flatMap iCu).drop (z1 * 1)).take ((e - z1) * 1)) (e - z1))) (wu j (td (aG _) (pR j)))) (.e0 (v := .hs 2 0 ((l.drop (0 : Int).toNat).take (a.toNat - (0 : Int).toNat)).length 1) (ws := [(1, .dead), (2, .own (((l.drop (0 : Int).toNat).take (a.toNat - (0 : Int).toNat)).flatMap iCu))]) (tr (y := zU (decide (((((l.drop (0 : Int).toNat).take (a.toNat - (0 : Int).toNat)).flatMap iCu)).length = ((l.drop (0 : Int).toNat).take (a.toNat - (0 : Int).toNat)).length * 1)) (((l.drop (0 : Int).toNat).take (a.toNat - (0 : Int).toNat)).flatMap iCu) ((l.drop (0 : Int).toNat).take (a.toNat - (0 : Int).toNat)).length (fun z1 e => ni (decide (0 + 0 * 1 <= (([] : List Int).flatMap iCu).length) && decide ((0 + e) * 4 <= 140737488355328) && decide (0 + e <= 4611686018427387904)) (some (.eff (.hs 2 0 (0 + e) 1) [(1, .dead), (2, .own (((([] : List Int).flatMap iCu).drop 0).take (0 * 1) ++ z1))])))) (tD (mc (aG _)) rfl (dX (l := ([] : List Int)) (xs := (l.drop (0 : Int).toNat).take (a.toNat - (0 : Int).toNat)) (aG _) rfl rfl rfl p q))) (.mu 2 (.done (.nh [4] [.own [aB (decide (a > 0)), .hs 2 0 ((l.drop (0 : Int).toNat).take (a.toNat - (0 : Int).toNat)).length 1], .dead, .own (((l.drop (0 : Int).toNat).take (a.toNat - (0 : Int).toNat)).flatMap iCu)] (.ret ?_))))))))
  obtain rfl := oi hr
  exact aH.ret (vs := [.agg [aB (decide (a > 0)), .hs 2 0 ((l.drop (0 : Int).toNat).take (a.toNat - (0 : Int).toNat)).length 1]]) kRf (Sn.agg (Sp (SnL.cons (Sn.hs rfl (.inl rfl) (SnC.pure (aY (aA _) _)) (fun h => cc h)) SnL.nil)))
 replace hr := bW d hr
 obtain ⟨k, s, t, hr⟩ := gd3 hr
 refine .r0 G (.p0 (v := aB false) (eB d) (.mu 7 (.p0 (v := av ((l.drop (0 : Int).toNat).take (a.toNat - (0 : Int).toNat))) (tr (y := slO (inS 0 a l.length) (0 : Int).toNat a.toNat (fun z1 e => .sl true (((l.flatMap iCu).drop (z1 * 1)).take ((e - z1) * 1)) (e - z1))) (wu k (td (aG _) (pR k)))) (.e0 (v := .hs 2 0 ((l.drop (0 : Int).toNat).take (a.toNat - (0 : Int).toNat)).length 1) (ws := [(1, .dead), (2, .own (((l.drop (0 : Int).toNat).take (a.toNat - (0 : Int).toNat)).flatMap iCu))]) (tr (y := zU (decide (((((l.drop (0 : Int).toNat).take (a.toNat - (0 : Int).toNat)).flatMap iCu)).length = ((l.drop (0 : Int).toNat).take (a.toNat - (0 : Int).toNat)).length * 1)) (((l.drop (0 : Int).toNat).take (a.toNat - (0 : Int).toNat)).flatMap iCu) ((l.drop (0 : Int).toNat).take (a.toNat - (0 : Int).toNat)).length (fun z1 e => ni (decide (0 + 0 * 1 <= (([] : List Int).flatMap iCu).length) && decide ((0 + e) * 4 <= 140737488355328) && decide (0 + e <= 4611686018427387904)) (some (.eff (.hs 2 0 (0 + e) 1) [(1, .dead), (2, .own (((([] : List Int).flatMap iCu).drop 0).take (0 * 1) ++ z1))])))) (tD (mc (aG _)) rfl (dX (l := ([] : List Int)) (xs := (l.drop (0 : Int).toNat).take (a.toNat - (0 : Int).toNat)) (aG _) rfl rfl rfl s t))) (.mu 2 (.done (.nh [4] [.own [aB false, .hs 2 0 ((l.drop (0 : Int).toNat).take (a.toNat - (0 : Int).toNat)).length 1], .dead, .own (((l.drop (0 : Int).toNat).take (a.toNat - (0 : Int).toNat)).flatMap iCu)] (.ret ?_))))))))
 obtain rfl := oi hr
 exact aH.ret (vs := [.agg [aB false, .hs 2 0 ((l.drop (0 : Int).toNat).take (a.toNat - (0 : Int).toNat)).length 1]]) kRf (Sn.agg (Sp (SnL.cons (Sn.hs rfl (.inl rfl) (SnC.pure (aY (aA _) _)) (fun h => cc h)) SnL.nil)))

theorem lU (n : Nat) (k : Int) (r : ae) (hr : jb n k = some r) : aK Tryz.prog 125 [ag k] (.agg (ae.c r)) := by
 unfold jb at hr
 refine aK.bd G Tryz.func125 [.cell 2 40] ?_
 unfold Tryz.f125
 simp only [gS]
 refine .seq (.r5 G [0] [(2, .hp 0 0)] [.own [aB false, nS]] (.seq (.r4 G [0, 2] [(3, cx (wFu k))] (.seq (.seq (.r4 G [0, 2, 3] [(8, aB (decide (k < 0)))] ?_))))))
 refine .cd hr ?_ ?_ <;> intro t hr
 ·refine .r0 G (.mu 2 (.p0 (v := ag (G1 (0 - (G1 (k + 1))))) (tr (y := some (.pure (ag (IntKind.wrap .i64 (0 - (G1 (k + 1))))))) xy) (.mu 3 (.done (.nh [0, 2, 3] [.own [aB false, nS]] (.seq (.r5 G [0, 2, 3] [(4, .hs 1 0 0 1)] [.own [aB false, nS], .own []] (.seq (.block ?_)))))))))
  replace hr := bd hr; obtain ⟨g, o, hr⟩ := hr
  refine .aN (σ := fun D => match D with | (d, e) => ⟨mkS 29 0 [(0, ag k), (2, .hp 0 0), (3, cx d), (4, .hs 1 0 e.length 1)], [.own [aB false, nS], .own (e.flatMap iCu)]⟩) (Q := fun x st' => x = .exit 0 /\ Wk 0 st' ⟨mkS 29 0 [(0, ag k), (2, .hp 0 0), (4, .hs 1 0 g.length 1)], [.own [aB false, nS], .own (g.flatMap iCu)]⟩) o ((Wk.gc [0, 2, 3, 4] [(0, true), (1, false)] rfl (pKt (pKc trivial))).to) ?_ ?_
  ·clear hr
   rintro m ⟨d, e⟩ hr
   refine CQ.sh ?_
   refine .seq (.seq (.r4 G [0, 2, 3, 4] [(16, aB (decide (d > 0)))] ?_))
   refine .cd hr ?_ ?_ <;> intro F hr
   ·refine .skip (.block (.seq ?_))
    obtain ⟨u, w, hr⟩ := gd2 hr
    refine .r0 G (.mu 5 (.e0 (v := .hs 3 0 (e ++ [aa .u32 (d.tmod 1000000000)]).length 1) (ws := [(1, .dead), (3, .own ((e ++ [aa .u32 (d.tmod 1000000000)]).flatMap iCu))]) (tr (dX (new := [a7 (aa .u32 (d.tmod 1000000000))]) (l := e) (xs := [aa .u32 (d.tmod 1000000000)]) (aG .u32) rfl rfl kRf u w)) (.mu 1 (.done (.nh [0, 2, 3, 4] [.own [aB false, nS], .dead, .own [a7 (aa .u32 (d.tmod 1000000000))], .own ((e ++ [aa .u32 (d.tmod 1000000000)]).flatMap iCu)] (.ru G (.pop ?_)))))))
    exact az (wFu (d.tdiv 1000000000), e ++ [aa .u32 (d.tmod 1000000000)]) hr ((Wk.gc [0, 2, 3, 4] [(0, true), (3, false)] rfl (pKt (pKo iCu (aA _) (e ++ [aa .u32 (d.tmod 1000000000)]) trivial))).to)
   refine .leave rfl ?_
   obtain rfl := oi hr
   exact ⟨rfl, ((Wk.gc [0, 2, 4] [(0, true), (1, false)] rfl (pKt (pKo iCu (aA _) e trivial))).to)⟩
  rintro x st' i
  clear o
  obtain ⟨rfl, i⟩ := i
  refine aU _ rfl (.wk i (.seq ?_))
  obtain ⟨q, z, hr⟩ := bd hr
  refine .g1 G (b8 (args := [aB true, .hs 1 0 g.length 1]) (l := [1]) (Sp (SnL.cons (Sn.hs rfl (.inl rfl) (SnC.pure (aY (aA _) _)) (fun h => cc h)) SnL.nil)) (aR n true g q z)) (.mu 1 (.p0 (v := aB true) (eB t) (.mu 1 (.ca cf0 (.mu 1 (.done (.nh [2] [.own (ae.c q), .fix (g.flatMap iCu)] (.ret ?_))))))))
  obtain rfl := oi hr
  exact aH.r1 [.agg (ae.c q)]
 refine .skip (.seq (.r5 G [0, 2, 3] [(4, .hs 1 0 0 1)] [.own [aB false, nS], .own []] (.seq (.block ?_))))
 replace hr := bd hr; obtain ⟨f, p, hr⟩ := hr
 refine .aN (σ := fun D => match D with | (a, b) => ⟨mkS 29 0 [(0, ag k), (2, .hp 0 0), (3, cx a), (4, .hs 1 0 b.length 1)], [.own [aB false, nS], .own (b.flatMap iCu)]⟩) (Q := fun x st' => x = .exit 0 /\ Wk 0 st' ⟨mkS 29 0 [(0, ag k), (2, .hp 0 0), (4, .hs 1 0 f.length 1)], [.own [aB false, nS], .own (f.flatMap iCu)]⟩) p ((Wk.gc [0, 2, 3, 4] [(0, true), (1, false)] rfl (pKt (pKc trivial))).to) ?_ ?_
 ·clear hr
  rintro m ⟨a, b⟩ hr
  refine CQ.sh ?_
  refine .seq (.seq (.r4 G [0, 2, 3, 4] [(16, aB (decide (a > 0)))] ?_))
  refine .cd hr ?_ ?_ <;> intro E hr
  ·refine .skip (.block (.seq ?_))
   obtain ⟨A, B, hr⟩ := gd2 hr
   refine .r0 G (.mu 5 (.e0 (v := .hs 3 0 (b ++ [aa .u32 (a.tmod 1000000000)]).length 1) (ws := [(1, .dead), (3, .own ((b ++ [aa .u32 (a.tmod 1000000000)]).flatMap iCu))]) (tr (dX (new := [a7 (aa .u32 (a.tmod 1000000000))]) (l := b) (xs := [aa .u32 (a.tmod 1000000000)]) (aG .u32) rfl rfl kRf A B)) (.mu 1 (.done (.nh [0, 2, 3, 4] [.own [aB false, nS], .dead, .own [a7 (aa .u32 (a.tmod 1000000000))], .own ((b ++ [aa .u32 (a.tmod 1000000000)]).flatMap iCu)] (.ru G (.pop ?_)))))))
   exact az (wFu (a.tdiv 1000000000), b ++ [aa .u32 (a.tmod 1000000000)]) hr ((Wk.gc [0, 2, 3, 4] [(0, true), (3, false)] rfl (pKt (pKo iCu (aA _) (b ++ [aa .u32 (a.tmod 1000000000)]) trivial))).to)
  refine .leave rfl ?_
  obtain rfl := oi hr
  exact ⟨rfl, ((Wk.gc [0, 2, 4] [(0, true), (1, false)] rfl (pKt (pKo iCu (aA _) b trivial))).to)⟩
 rintro x st' j
 clear p
 obtain ⟨rfl, j⟩ := j
 refine aU _ rfl (.wk j (.seq ?_))
 obtain ⟨s, C, hr⟩ := bd hr
 refine .g1 G (b8 (args := [aB false, .hs 1 0 f.length 1]) (l := [1]) (Sp (SnL.cons (Sn.hs rfl (.inl rfl) (SnC.pure (aY (aA _) _)) (fun h => cc h)) SnL.nil)) (aR n false f s C)) (.mu 1 (.p0 (v := aB false) (eB t) (.mu 1 (.ca cf0 (.mu 1 (.done (.nh [2] [.own (ae.c s), .fix (f.flatMap iCu)] (.ret ?_))))))))
 obtain rfl := oi hr
 exact aH.r1 [.agg (ae.c s)]

theorem ke (n : Nat) {b : Int} {a : Int} (h : ([.at (.int .i64 b)] : List AV) = [.at (.int .i64 a)]) : ch n b = ch n a := by
 obtain rfl := dP h
 rfl
theorem dN (n : Nat) (a : Int) (r : ae) (hr : ch n a = some r) : aK Tryz.prog 83 [ag a] (.agg (ae.c r)) := by
 unfold ch at hr
 refine aK.bd G Tryz.func83 [.cell 2 40] ?_
 unfold Tryz.f83
 simp only [gS]
 refine .seq (.r5 G [0] [(2, .hp 0 0)] [.own [aB false, nS]] (.seq ?_))
 obtain ⟨b, d, hr⟩ := bd hr
 refine .g1 G (ok0 (lU n a b d)) (.mu 1 (.ca cf0 (.mu 1 (.done (.nh [2] [.own (ae.c b)] (.ret ?_))))))
 obtain rfl := oi hr
 exact aH.r1 [.agg (ae.c b)]

theorem kb (n : Nat) {b : ae} {a : ae} (h : ([.agg (ae.c b)] : List AV) = [.agg (ae.c a)]) : cY n b = cY n a := by
 obtain rfl := dK h
 rfl
theorem cV (n : Nat) (b : ae) (r : Bool) (hr : cY n b = some r) : aK Tryz.prog 112 [.agg (ae.c b)] (aB r) := by
 unfold cY at hr
 refine aK.bd G Tryz.func112 [.tmp 2] ?_
 unfold Tryz.f112
 simp only [gS]
 refine .seq (.r2 G 31 [(1, .hp 0 0)] [.own (ae.c b)] (.seq (.r4 G [1] [(3, ag (b.Groups.length : Int))] (.seq (.seq (.r4 G [1, 3] [(4, ag 0)] (.block ?_)))))))
 replace hr := bd hr; obtain ⟨h, e, hr⟩ := hr
 refine .aN (σ := fun j => match j with | d => ⟨mkS 31 0 [(1, .hp 0 0), (3, ag (b.Groups.length : Int)), (4, ag d)], [.own (ae.c b)]⟩) (Q := fun x st' => match (generalizing := false) h with | .inl _ => x = .exit 0 /\ Wk 0 st' ⟨mkS 31 0 [(1, .hp 0 0), (3, ag (b.Groups.length : Int))], [.own (ae.c b)]⟩ | .inr (r0) => x = .ret /\ aH Tryz.prog [.tmp 2] (aB r0) .ret st') e ((Wk.gc [1, 3, 4] [(0, true)] rfl trivial).to) ?_ ?_
 ·clear hr
  rintro m d hr
  refine CQ.sh ?_
  refine .seq (.seq (.r4 G [1, 3, 4] [(10, aB (decide (d < (b.Groups.length : Int))))] ?_))
  refine .cd hr ?_ ?_ <;> intro k hr
  ·refine .skip (.seq (.block (.seq ?_)))
   obtain ⟨g, hr⟩ := gd hr
   refine .r0 G (.mu 3 (.p0 (v := .pp (b.Groups.flatMap iCu) (d.toNat * 1)) (tr (ar g)) (.p0 (v := a7 (gt b.Groups d)) (tr (aI (aJ (aG .u32) (aE g) z1 (by omega : d.toNat * 1 = d.toNat * 1 + 0) kRf))) (.mu 1 (.done (.nh [1, 3, 4, 18] [.own (ae.c b)] ?_))))))
   refine .cd hr ?_ ?_ <;> intro l hr
   ·refine .seq (.ru G (.ret ?_))
    obtain rfl := oi hr
    exact ⟨rfl, aH.ret (vs := [aB false]) kRf (Sn.pure rfl)⟩
   refine .skip (.pop (.ru G ?_))
   exact az (G1 (d + 1)) hr ((Wk.gc [1, 3, 4] [(0, true)] rfl trivial).to)
  refine .leave rfl ?_
  obtain rfl := oi hr
  exact ⟨rfl, ((Wk.gc [1, 3] [(0, true)] rfl trivial).to)⟩
 rcases h with ⟨⟩ | r0
 ·rintro x st' a
  clear e
  obtain ⟨rfl, a⟩ := a
  refine aU _ rfl (.wk a (.seq (.seq (.r4 G [1, 3] [(20, aB (((b.Groups.length : Int) : Int) == 0))] ?_))))
  refine .cd hr ?_ ?_ <;> intro i hr
  ·refine .seq (.ru G (.ret ?_))
   obtain rfl := oi hr
   exact aH.r1 [aB (!b.Negative)]
  refine .skip (.seq ?_)
  obtain ⟨f, hr⟩ := gd hr
  refine .r0 G (.mu 4 (.p0 (v := .pp (b.Groups.flatMap iCu) ((G1 ((b.Groups.length : Int) - 1)).toNat * 1)) (tr (ar f)) (.p0 (v := a7 (gt b.Groups (G1 ((b.Groups.length : Int) - 1)))) (tr (aI (aJ (aG .u32) (aE f) z1 (by omega : (G1 ((b.Groups.length : Int) - 1)).toNat * 1 = (G1 ((b.Groups.length : Int) - 1)).toNat * 1 + 0) kRf))) (.mu 2 (.done (.ret ?_))))))
  obtain rfl := oi hr
  exact aH.r1 [aB (((gt b.Groups (G1 ((b.Groups.length : Int) - 1))) : Int) != 0)]
 rintro x st' a
 clear e
 obtain ⟨rfl, a⟩ := a
 obtain rfl := oi hr
 exact gJ _ a

theorem fl (n : Nat) {b : ae} {a : ae} (h : ([.agg (ae.c b)] : List AV) = [.agg (ae.c a)]) : a8 n b = a8 n a := by
 obtain rfl := dK h
 rfl
theorem br (n : Nat) (a : ae) (r : ae) (hr : a8 n a = some r) : aK Tryz.prog 128 [.agg (ae.c a)] (.agg (ae.c r)) := by
 unfold a8 at hr
 refine aK.bd G Tryz.func128 [.cell 2 40] ?_
 unfold Tryz.f128
 simp only [gS]
 refine .seq (.r2 G 14 [(1, .hp 0 0), (2, .hp 1 0)] [.own (ae.c a), .own [aB false, nS]] (.seq (.seq ?_)))
 obtain ⟨g, b, hr⟩ := bd hr
 refine .g1 G (ok0 (cV n a g b)) (.mu 1 (.ca cf0 (.mu 1 (.done (.nh [1, 2, 5] [.own (ae.c a), .own [aB false, nS]] ?_)))))
 refine .cd hr ?_ ?_ <;> intro i hr
 ·refine .seq (.r4 G [2] [] (.ret ?_))
  obtain rfl := oi hr
  exact aH.ret (vs := [.agg [aB false, nS]]) kRf (Sn.agg (Sp (SnL.cons Sn.ft SnL.nil)))
 refine .skip (.seq ?_)
 obtain ⟨d, e, hr⟩ := gd2 hr
 refine .eX G bO (.mu 5 (.ek (v := .hs 3 0 a.Groups.length 1) (ws := [(2, .dead), (3, .own (a.Groups.flatMap iCu))]) (tr (y := zU (decide (((a.Groups.flatMap iCu)).length = a.Groups.length * 1)) (a.Groups.flatMap iCu) a.Groups.length (fun z1 f => ni (decide (0 + 0 * 1 <= (([] : List Int).flatMap iCu).length) && decide ((0 + f) * 4 <= 140737488355328) && decide (0 + f <= 4611686018427387904)) (some (.eff (.hs 3 0 (0 + f) 1) [(2, .dead), (3, .own (((([] : List Int).flatMap iCu).drop 0).take (0 * 1) ++ z1))])))) (tD (mc (aG _)) rfl (dX (l := ([] : List Int)) (xs := a.Groups) (aG _) rfl rfl rfl d e))) (.mu 2 ?_)))
 refine .done (kRa ?_)
 refine .nh [2] [.own (ae.c a), .own [aB a.Negative, .hs 3 0 a.Groups.length 1], .dead, .own (a.Groups.flatMap iCu)] (.ret ?_)
 obtain rfl := oi hr
 exact aH.ret (vs := [.agg [aB a.Negative, .hs 3 0 a.Groups.length 1]]) kRf (Sn.agg (Sp (SnL.cons (Sn.hs rfl (.inl rfl) (SnC.pure (aY (aA _) _)) (fun h => cc h)) SnL.nil)))

theorem dY (n : Nat) (a : ae) (r : Int) (hr : di n a = some r) : aK Tryz.prog 113 [.agg (ae.c a)] (ag r) := by
 unfold di at hr
 refine aK.bd G Tryz.func113 [.tmp 2] ?_
 unfold Tryz.f113
 simp only [gS]
 refine .seq (.r2 G 11 [(1, .hp 0 0)] [.own (ae.c a)] (.seq ?_))
 obtain ⟨b, d, hr⟩ := bd hr
 refine .g1 G (ok0 (br n a b d)) (.mu 1 (.ca cf0 (.mu 1 (.done (.nh [1] [.own (ae.c b)] (.seq (.seq (.r4 G [1] [(8, aB (((b.Groups.length : Int) : Int) == 0))] ?_))))))))
 refine .cd hr ?_ ?_ <;> intro e hr
 ·refine .seq (.ru G (.ret ?_))
  obtain rfl := oi hr
  exact aH.r1 [ag 0]
 refine .skip (.seq (.seq (.r3 G 11 [(10, aB b.Negative)] ?_)))
 refine .cd hr ?_ ?_ <;> intro f hr
 ·refine .seq (.ru G (.ret ?_))
  obtain rfl := oi hr
  exact aH.r1 [ag (-1)]
 refine .skip (.seq (.ru G (.ret ?_)))
 obtain rfl := oi hr
 exact aH.r1 [ag 1]
end Go.L
