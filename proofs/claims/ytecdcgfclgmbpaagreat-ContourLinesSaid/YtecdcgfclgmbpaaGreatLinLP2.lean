
import Derived.Test.YtecdcgfclgmbpaaGreatLinLP1
import Derived.Test.YtecdcgfclgmbpaaGreatL0Lins
import Derived.Test.YtecdcgfclgmbpaaGreatSortCLins
import Derived.Test.YtecdcgfclgmbpaaGreatSortKLins
import Derived.Test.YtecdcgfclgmbpaaGreatChecked
import Derived.KernelRfl
set_option linter.all false
set_option maxRecDepth 100000
set_option maxHeartbeats 4000000
namespace Go.L
open Go Go.Eng Go.Proofs
theorem lV (n : Nat) (start : A2 Int) (closed : Bool) (p : List (A2 Int × Bool)) (D : Int) (C : Int) (u : Int) (t : Int) (o : Int) (k : List Int) (g : Int) (d : List (A2 Int × A2 Int)) (a : List ae) (r : List (A2 Int × Bool) × List ae) (hr : dC n start closed p D C u t o k g d a = some r) : dK 5 Tryz.prog 93 [.agg (aj.c start), aB closed, .hp 0 0, .hp 1 0, .hp 2 0, .hp 3 0, .hp 4 0] [.own [.mp 5], .own [ag D, ag C, ag u, ag t, ag o, bE k], .own [ag g], .own [.mp 6], .own [.hs 7 0 a.length 2], .map (p.map (mpK an.K bA)), .map (d.map (mpK an.K (gA aj.c))), .own (a.flatMap ae.c)] (.tup []) [.own [.mp 5], .own [ag D, ag C, ag u, ag t, ag o, bE k], .own [ag g], .own [.mp 6], .own [.hs 7 0 r.2.length 2], .map (r.1.map (mpK an.K bA)), .map (d.map (mpK an.K (gA aj.c))), .own (r.2.flatMap ae.c)] := by
 unfold dC at hr
 refine dK.qf G Tryz.func93 (c := (Tryz.f93.body).getD .skip) rfl (us := []) (s := mkS 46 0 [(0, .agg (aj.c start)), (1, aB closed), (2, .hp 0 0), (3, .hp 1 0), (4, .hp 2 0), (5, .hp 3 0), (6, .hp 4 0)]) kRf (rs := []) rfl ?_
 unfold Tryz.f93
 simp only [gS]
 refine .seq (.r5 G [1, 2, 3, 4, 5, 6] [(7, .hp 8 0)] [.own [.mp 5], .own [ag D, ag C, ag u, ag t, ag o, bE k], .own [ag g], .own [.mp 6], .own [.hs 7 0 a.length 2], .map (p.map (mpK an.K bA)), .map (d.map (mpK an.K (gA aj.c))), .own (a.flatMap ae.c), .own (aj.c start)] (.scope (.seq (.r5 G [2, 3, 4, 5, 6, 7] [(9, .hp 9 0)] [.own [.mp 5], .own [ag D, ag C, ag u, ag t, ag o, bE k], .own [ag g], .own [.mp 6], .own [.hs 7 0 a.length 2], .map (p.map (mpK an.K bA)), .map (d.map (mpK an.K (gA aj.c))), .own (a.flatMap ae.c), .own (aj.c start), .own [aB closed, nS]] (.seq (.label (.seq (.seq (.r5 G [2, 3, 4, 5, 6, 9] [(10, .hp 10 0)] [.own [.mp 5], .own [ag D, ag C, ag u, ag t, ag o, bE k], .own [ag g], .own [.mp 6], .own [.hs 7 0 a.length 2], .map (p.map (mpK an.K bA)), .map (d.map (mpK an.K (gA aj.c))), .own (a.flatMap ae.c), .own (aj.c start), .own [aB closed, nS], .own (aj.c start)] (.block ?_))))))))))
 replace hr := bd hr; obtain ⟨J, I, hr⟩ := hr
 refine .aN (σ := fun T => match T with | (w, q, i, j) => ⟨mkS 46 0 [(2, .hp 0 0), (3, .hp 1 0), (4, .hp 2 0), (5, .hp 3 0), (6, .hp 4 0), (9, .hp 8 0), (10, .hp 10 0)], [.own [.mp 5], .own [ag D, ag C, ag u, ag t, ag o, bE k], .own [ag g], .own [.mp 6], .own [.hs 7 0 a.length 2], .map (w.map (mpK an.K bA)), .map (d.map (mpK an.K (gA aj.c))), .own (a.flatMap ae.c), .own [aB closed, .hs 9 0 q.length 6], .own (q.flatMap ai.c), .own [ag i, ag j]]⟩) (Q := fun x st' => match (generalizing := false) J with | (F, B) => x = .exit 0 /\ Wk 5 st' ⟨mkS 46 0 [(6, .hp 4 0), (9, .hp 8 0)], [.own [.mp 5], .own [ag D, ag C, ag u, ag t, ag o, bE k], .own [ag g], .own [.mp 6], .own [.hs 7 0 a.length 2], .map (F.map (mpK an.K bA)), .map (d.map (mpK an.K (gA aj.c))), .own (a.flatMap ae.c), .own [aB closed, .hs 9 0 B.length 6], .own (B.flatMap ai.c)]⟩) I ((Wk.xR 9 1 6 (cs := [aB closed, nS]) kRf kRf).trans ((Wk.gc [2, 3, 4, 5, 6, 9, 10] [(0, true), (1, true), (2, true), (3, true), (4, true), (5, false), (6, false), (7, false), (9, true), (11, false), (10, true)] rfl (pKt (pKt (pKt (pKt (pKt (pKM an.K bA (fun _ => rfl) p (pKM an.K (gA aj.c) (fun _ => rfl) d (pKo ae.c ae.pure a (pKt (pKc trivial))))))))))).to)) ?_ ?_
 ·clear hr
  rintro m ⟨w, q, i, j⟩ hr
  refine CQ.sh ?_
  refine .seq (.block (.seq (.r0 G (.mu 2 (.e0 (v := .unk) (ws := [(5, .map ((cV w (A2.mk i j) true).map (mpK an.K bA)))]) (tr (y := fI Tryz.prog [.own [.mp 5], .own [ag D, ag C, ag u, ag t, ag o, bE k], .own [ag g], .own [.mp 6], .own [.hs 7 0 a.length 2], .map (w.map (mpK an.K bA)), .map (d.map (mpK an.K (gA aj.c))), .own (a.flatMap ae.c), .own [aB closed, .hs 9 0 q.length 6], .own (q.flatMap ai.c), .own [ag i, ag j]] 125 (.mp 5) (.agg [ag i, ag j]) (aB true)) (xj (kt := 101) (e := 4) (l := w) (f := bA) (v := true) (K := an.K) (x := A2.mk i j) an.key kRf kRf kRf kRf)) (.done (.nh [2, 3, 4, 5, 6, 9, 10] [.own [.mp 5], .own [ag D, ag C, ag u, ag t, ag o, bE k], .own [ag g], .own [.mp 6], .own [.hs 7 0 a.length 2], .map ((cV w (A2.mk i j) true).map (mpK an.K bA)), .map (d.map (mpK an.K (gA aj.c))), .own (a.flatMap ae.c), .own [aB closed, .hs 9 0 q.length 6], .own (q.flatMap ai.c), .own [ag i, ag j]] (.seq ?_))))))))
  obtain ⟨A, L, hr⟩ := bd hr
  obtain ⟨M, N, hr⟩ := gd2 hr
  refine .t1 G (ok0 (ri n (al.mk D C u t o k) g (A2.mk i j) A L)) (.mu 5 (.ca cf0 (.mu 1 (.ek (v := .hs 12 0 (q ++ [A]).length 6) (ws := [(9, .dead), (12, .own ((q ++ [A]).flatMap ai.c))]) (tr (dB (new := (ai.c A)) (l := q) (xs := [A]) ai.len rfl rfl kRf M N)) (.mu 2 ?_)))))
  refine .done (kRa ?_)
  refine .nh [2, 3, 4, 5, 6, 9, 10] [.own [.mp 5], .own [ag D, ag C, ag u, ag t, ag o, bE k], .own [ag g], .own [.mp 6], .own [.hs 7 0 a.length 2], .map ((cV w (A2.mk i j) true).map (mpK an.K bA)), .map (d.map (mpK an.K (gA aj.c))), .own (a.flatMap ae.c), .own [aB closed, .hs 12 0 (q ++ [A]).length 6], .dead, .own [ag i, ag j], .own (ai.c A), .own ((q ++ [A]).flatMap ai.c)] (.seq (.r0 G (.mu 2 (.p0 (v := .tup [.agg (aj.c (getM (A2.mk 0 0 : A2 Int) d (A2.mk i j))), aB (dG d (A2.mk i j))]) (tr (y := br.ofP (dF Tryz.prog [.own [.mp 5], .own [ag D, ag C, ag u, ag t, ag o, bE k], .own [ag g], .own [.mp 6], .own [.hs 7 0 a.length 2], .map ((cV w (A2.mk i j) true).map (mpK an.K bA)), .map (d.map (mpK an.K (gA aj.c))), .own (a.flatMap ae.c), .own [aB closed, .hs 12 0 (q ++ [A]).length 6], .dead, .own [ag i, ag j], .own (ai.c A), .own ((q ++ [A]).flatMap ai.c)] 124 (.mp 6) (.agg [ag i, ag j]) true)) (xF (kt := 101) (e := 101) (l := d) (f := (gA aj.c)) (z := (A2.mk 0 0 : A2 Int)) (K := an.K) (x := A2.mk i j) an.key kRf kRf kRf kRf kRf)) (.mu 6 (.done (.nh [2, 3, 4, 5, 6, 9, 10, 11, 12] [.own [.mp 5], .own [ag D, ag C, ag u, ag t, ag o, bE k], .own [ag g], .own [.mp 6], .own [.hs 7 0 a.length 2], .map ((cV w (A2.mk i j) true).map (mpK an.K bA)), .map (d.map (mpK an.K (gA aj.c))), .own (a.flatMap ae.c), .own [aB closed, .hs 12 0 (q ++ [A]).length 6], .dead, .own [ag i, ag j], .own (ai.c A), .own ((q ++ [A]).flatMap ai.c), .own (aj.c (getM (A2.mk 0 0 : A2 Int) d (A2.mk i j)))] (.seq (.seq ?_)))))))))
  rcases bT (!(dG d (A2.mk i j))) with E | E
  ·replace hr := cg E hr
   refine .r0 G (.mu 1 (.p0 (v := aB true) (eB E) (.mu 5 (.done (.nh [2, 3, 4, 5, 6, 9, 10, 11, 39] [.own [.mp 5], .own [ag D, ag C, ag u, ag t, ag o, bE k], .own [ag g], .own [.mp 6], .own [.hs 7 0 a.length 2], .map ((cV w (A2.mk i j) true).map (mpK an.K bA)), .map (d.map (mpK an.K (gA aj.c))), .own (a.flatMap ae.c), .own [aB closed, .hs 12 0 (q ++ [A]).length 6], .dead, .own [ag i, ag j], .own (ai.c A), .own ((q ++ [A]).flatMap ai.c), .own (aj.c (getM (A2.mk 0 0 : A2 Int) d (A2.mk i j)))] (.cT kRf (.leave rfl ?_)))))))
   obtain rfl := oi hr
   exact ⟨rfl, ((Wk.gc [6, 9] [(0, true), (1, true), (2, true), (3, true), (4, true), (5, false), (6, false), (7, false), (8, true), (12, false)] rfl (pKt (pKt (pKt (pKt (pKt (pKM an.K bA (fun _ => rfl) (cV w (A2.mk i j) true) (pKM an.K (gA aj.c) (fun _ => rfl) d (pKo ae.c ae.pure a (pKt (pKo ai.c ai.pure (q ++ [A]) trivial))))))))))).to)⟩
  replace hr := ch E hr
  refine .r0 G (.mu 1 (.p0 (v := aB false) (eB E) (.mu 3 (.pure (v := aB (getM false (cV w (A2.mk i j) true) (getM (A2.mk 0 0 : A2 Int) d (A2.mk i j)))) kRf (tr (y := br.ofP (dF Tryz.prog [.own [.mp 5], .own [ag D, ag C, ag u, ag t, ag o, bE k], .own [ag g], .own [.mp 6], .own [.hs 7 0 a.length 2], .map ((cV w (A2.mk i j) true).map (mpK an.K bA)), .map (d.map (mpK an.K (gA aj.c))), .own (a.flatMap ae.c), .own [aB closed, .hs 12 0 (q ++ [A]).length 6], .dead, .own [ag i, ag j], .own (ai.c A), .own ((q ++ [A]).flatMap ai.c), .own (aj.c (getM (A2.mk 0 0 : A2 Int) d (A2.mk i j)))] 125 (.mp 5) (.agg (aj.c (getM (A2.mk 0 0 : A2 Int) d (A2.mk i j)))) false)) (tu (kt := 101) (e := 4) (l := cV w (A2.mk i j) true) (f := bA) (z := false) (K := an.K) (x := (getM (A2.mk 0 0 : A2 Int) d (A2.mk i j))) an.key kRf kRf kRf kRf kRf)) (.mu 1 (.done (.nh [2, 3, 4, 5, 6, 9, 10, 11, 39] [.own [.mp 5], .own [ag D, ag C, ag u, ag t, ag o, bE k], .own [ag g], .own [.mp 6], .own [.hs 7 0 a.length 2], .map ((cV w (A2.mk i j) true).map (mpK an.K bA)), .map (d.map (mpK an.K (gA aj.c))), .own (a.flatMap ae.c), .own [aB closed, .hs 12 0 (q ++ [A]).length 6], .dead, .own [ag i, ag j], .own (ai.c A), .own ((q ++ [A]).flatMap ai.c), .own (aj.c (getM (A2.mk 0 0 : A2 Int) d (A2.mk i j)))] ?_)))))))
  refine .cd hr ?_ ?_ <;> intro S hr
  ·refine .leave rfl ?_
   obtain rfl := oi hr
   exact ⟨rfl, ((Wk.gc [6, 9] [(0, true), (1, true), (2, true), (3, true), (4, true), (5, false), (6, false), (7, false), (8, true), (12, false)] rfl (pKt (pKt (pKt (pKt (pKt (pKM an.K bA (fun _ => rfl) (cV w (A2.mk i j) true) (pKM an.K (gA aj.c) (fun _ => rfl) d (pKo ae.c ae.pure a (pKt (pKo ai.c ai.pure (q ++ [A]) trivial))))))))))).to)⟩
  refine .skip (.ru G (.pop (.seq (.r4 G [2, 3, 4, 5, 6, 9] [(41, .agg (aj.c (getM (A2.mk 0 0 : A2 Int) d (A2.mk i j))))] (.ru G ?_)))))
  exact av (cV w (A2.mk i j) true, q ++ [A], (getM (A2.mk 0 0 : A2 Int) d (A2.mk i j)).e0, (getM (A2.mk 0 0 : A2 Int) d (A2.mk i j)).e1) hr ((Wk.gc [2, 3, 4, 5, 6, 9, 10] [(0, true), (1, true), (2, true), (3, true), (4, true), (5, false), (6, false), (7, false), (8, true), (12, false), (14, true)] rfl (pKt (pKt (pKt (pKt (pKt (pKM an.K bA (fun _ => rfl) (cV w (A2.mk i j) true) (pKM an.K (gA aj.c) (fun _ => rfl) d (pKo ae.c ae.pure a (pKt (pKo ai.c ai.pure (q ++ [A]) trivial))))))))))).to)
 rcases J with ⟨F, B⟩
 rintro x st' H
 clear I
 obtain ⟨rfl, H⟩ := H
 refine aW _ rfl (.wk H (.wk (((Wk.fix 9 (cs := (B.flatMap ai.c)) kRf).trans (Wk.AT 8 1 (b := 9) (len := B.length) (es := 6) (cs := (B.flatMap ai.c)) (cs' := [aB closed, .hs 9 0 B.length 6]) kRf kRf kRf (a7 ai.pure _) (fun h => bZ h))).to (c := ⟨mkS 46 0 [(6, .hp 4 0), (9, .hp 8 0)], [.own [.mp 5], .own [ag D, ag C, ag u, ag t, ag o, bE k], .own [ag g], .own [.mp 6], .own [.hs 7 0 a.length 2], .map (F.map (mpK an.K bA)), .map (d.map (mpK an.K (gA aj.c))), .own (a.flatMap ae.c), .own [aB closed, slT ai.c B], .fix (B.flatMap ai.c)]⟩) kRf) ?_))
 obtain ⟨O, R, hr⟩ := gd2 hr
 refine .r0 G (.mu 3 (.e0 (v := .hs 11 0 (a ++ [ae.mk closed B]).length 2) (ws := [(7, .dead), (11, .own ((a ++ [ae.mk closed B]).flatMap ae.c))]) (tr (dB (new := [aB closed, slT ai.c B]) (l := a) (xs := [ae.mk closed B]) ae.len rfl rfl kRf O R)) (.mu 1 (.done ?_))))
 obtain rfl := oi hr
 exact gR.normal [] ((Wk.gc [] [(0, true), (1, true), (2, true), (3, true), (4, true), (5, false), (6, false), (11, false)] rfl (pKt (pKt (pKt (pKt (pKt (pKM an.K bA (fun _ => rfl) F (pKM an.K (gA aj.c) (fun _ => rfl) d (pKo ae.c ae.pure (a ++ [ae.mk closed B]) trivial))))))))).to)

theorem nT {c : ae} {a : ae} (h : ([.agg [.at (.bool c.Closed), slT ai.c c.Points]] : List AV) = [.agg [.at (.bool a.Closed), slT ai.c a.Points]]) : c = a := by
 obtain ⟨_, _⟩ := c
 obtain ⟨_, _⟩ := a
 simp only [List.cons.injEq, AV.agg.injEq, AV.at.injEq, Value.int.injEq, Value.bool.injEq, AV.fn.injEq, AV.pp.injEq, true_and, and_true, (An ai.len (by decide) ai.inj)] at h
 simp_all
theorem oF (n : Nat) {c : ae} {a : ae} (h : ([.agg [.at (.bool c.Closed), slT ai.c c.Points]] : List AV) = [.agg [.at (.bool a.Closed), slT ai.c a.Points]]) : eu n c = eu n a := by
 obtain rfl := nT h
 rfl
theorem jH [Dr] (n : Nat) (c : ae) (r : A2 Int) (hr : eu n c = some r) : aO Tryz.prog 55 [.agg (ae.c c)] (.agg (aj.c r)) := by
 unfold eu at hr
 refine aO.bd G Tryz.func55 [.cell 2 101] ?_
 unfold Tryz.f55
 simp only [gS]
 refine .seq (.r2 G 14 [(1, .hp 0 0), (2, .hp 1 0)] [.own (ae.c c), .own [ag 0, ag 0]] (.seq ?_))
 obtain ⟨a, hr⟩ := gd hr
 refine .dS G bF (.mu 2 (.pk (v := .pp (c.Points.flatMap ai.c) ((0 : Int).toNat * 6)) (tr (au a)) (.mu 1 (.pk (v := ag (gt c.Points 0).A) (tr (aE (aF ai.len (aC a) (by decide : 0 < 6) (by omega : (0 : Int).toNat * 6 + 0 = (0 : Int).toNat * 6 + 0) kRf))) (.mu 2 (.pk (v := .pp (c.Points.flatMap ai.c) ((0 : Int).toNat * 6)) (tr (au a)) (.mu 1 (.pk (v := ag (gt c.Points 0).B) (tr (aE (aF ai.len (aC a) (by decide : 1 < 6) (by omega : (0 : Int).toNat * 6 + 1 = (0 : Int).toNat * 6 + 1) kRf))) (.mu 2 ?_)))))))))
 refine .done (kRa ?_)
 refine .nh [2] [.own (ae.c c), .own [ag (gt c.Points 0).A, ag (gt c.Points 0).B]] (.ret ?_)
 obtain rfl := oi hr
 exact aK.r1 [.agg [ag (gt c.Points 0).A, ag (gt c.Points 0).B]]

theorem sb [Dr] (n : Nat) (a : ae) (b : ae) (r : Int) (hr : iN n a b = some r) : aO Tryz.prog 95 [.agg (ae.c a), .agg (ae.c b)] (ag r) := by
 unfold iN at hr
 refine aO.bd G Tryz.func95 [.tmp 4] ?_
 unfold Tryz.f95
 simp only [gS]
 refine .seq (.r2 G 10 [(2, .hp 0 0), (3, .hp 1 0)] [.own (ae.c a), .own (ae.c b)] (.seq ?_))
 obtain ⟨g, d, i, e, j, f, hr⟩ := bd3 hr
 refine .tn G (ca1 (ok0 (jH n a g d)) (ca1 (ok0 (jH n b i e)) (ca3 (ok0 (iE n g i j f))))) (.mu 1 (.ca cf0 (.mu 1 (.ca (cfA (fun h => by rw [sv e d (oF n h)]) cf0) (.ca (cfF (cfF cf0)) (.mu 1 ?_))))))
 refine .done (kRa ?_)
 refine .ret ?_
 obtain rfl := oi hr
 exact aK.r1 [ag j]

theorem cQ (n : Nat) (a : List ae) (r : List ae) (hr : aL n a = some r) : dK 1 Tryz.prog 52 [.hs 0 0 a.length 2, .fn 95 [] []] [.own (a.flatMap ae.c)] (.tup []) [.own (r.flatMap ae.c)] := by
 unfold aL at hr
 obtain ⟨b, hr⟩ := gd hr
 exact dK.BD (c := ae.c) (caps' := []) (Go.Proofs.YtecdcgfclgmbpaaGreat.rD (enters_of Tryz.func95 kRf rfl)) Go.Proofs.YtecdcgfclgmbpaaGreat.wQ ae.len ae.pure hr (dcT b) SnL.nil (fun x y r hc => @sb ⟨true⟩ n x y r hc)

theorem oG (n : Nat) (g : al) (level : Int) (r : List ae) (hr : fU n g level = some r) : aO Tryz.prog 45 [.agg (al.c g), ag level] (slT ae.c r) := by
 unfold fU at hr
 refine aO.bd G Tryz.func45 [.tmp 4] ?_
 unfold Tryz.f45
 simp only [gS]
 refine .seq (.r2 G 68 [(2, .hp 0 0), (3, .hp 1 0)] [.own (al.c g), .own [ag level]] (.seq (.r5 G [2, 3] [(5, .hp 2 0)] [.own (al.c g), .own [ag level], .own [.fn 88 [] [.hp 0 0, .hp 1 0]]] (.seq (.r5 G [2, 3, 5] [(6, .hp 5 0), (7, .hp 6 0)] [.own (al.c g), .own [ag level], .own [.fn 88 [] [.hp 0 0, .hp 1 0]], .map (([] : List (A2 Int × A2 Int)).map (mpK an.K (gA aj.c))), .map (([] : List (A2 Int × Bool)).map (mpK an.K bA)), .own [.mp 3], .own [.mp 4]] (.seq ?_))))))
 obtain ⟨d, j8, hr⟩ := bd hr
 refine .g1 G (fT 2 (.own [.fn 88 [] [.hp 0 0, .hp 1 0]]) [] [(0, .own (al.c g)), (1, .own [ag level]), (5, .own [.mp 7]), (6, .own [.mp 8]), (7, .map (d.1.map (mpK an.K (gA aj.c)))), (8, .map (d.2.map (mpK an.K bA))), (3, .dead), (4, .dead)] (cL (args := [.agg (al.c g), .fn 90 [] [.hp 2 0, .hp 5 0, .hp 6 0]]) 5 2 [(2, true), (0, true), (1, true), (5, true), (6, true), (3, false), (4, false)] [true, true, true, true, true, false, false] (iR n g g.X0 g.Y0 g.Step g.Width g.Height g.Z level ([] : List (A2 Int × A2 Int)) ([] : List (A2 Int × Bool)) d j8) (by exact ⟨dz (fun _ => rfl) _, ⟨dz (fun _ => rfl) _, trivial⟩⟩) (by exact ⟨dz (fun _ => rfl) _, ⟨dz (fun _ => rfl) _, trivial⟩⟩) rfl rfl kRf kRf)) (.mu 2 (.ca cf0 (.done (.nh [2, 3, 6, 7] [.own (al.c g), .own [ag level], .own [.fn 88 [] [.hp 0 0, .hp 1 0]], .dead, .dead, .own [.mp 7], .own [.mp 8], .map (d.1.map (mpK an.K (gA aj.c))), .map (d.2.map (mpK an.K bA))] (.seq (.r4 G [2, 3, 6, 7] [(8, nS)] (.seq (.seq (.r0 G (.mu 1 (.e0 (v := .hp 9 0) (ws := [(9, .iter 7 d.1.length [])]) (tr (y := mH Tryz.prog [.own (al.c g), .own [ag level], .own [.fn 88 [] [.hp 0 0, .hp 1 0]], .dead, .dead, .own [.mp 7], .own [.mp 8], .map (d.1.map (mpK an.K (gA aj.c))), .map (d.2.map (mpK an.K bA))] 9 124 (.mp 7)) (C1 (kt := 101) (e := 101) (es := d.1) (mk := (mpK an.K (gA aj.c))) kRf kRf)) (.done (.nh [2, 3, 6, 7, 8, 24] [.own (al.c g), .own [ag level], .own [.fn 88 [] [.hp 0 0, .hp 1 0]], .dead, .dead, .own [.mp 7], .own [.mp 8], .map (d.1.map (mpK an.K (gA aj.c))), .map (d.2.map (mpK an.K bA)), .iter 7 d.1.length []] (.block ?_))))))))))))))
 refine .DQ (mk := (mpK an.K (gA aj.c))) hr (fun N sn => match N with | i => ⟨mkS 68 0 [(2, .hp 0 0), (3, .hp 1 0), (6, .hp 2 0), (7, .hp 4 0), (8, .hs 6 0 i.length 2), (24, .hp 7 0)], [.own (al.c g), .own [ag level], .own [.mp 3], .map (d.1.map (mpK an.K (gA aj.c))), .own [.mp 5], .map (d.2.map (mpK an.K bA)), .own (i.flatMap aj.c), .iter 3 d.1.length sn]⟩) 7 3 ((Wk.nil 8 2 kRf).trans ((Wk.gc [2, 3, 6, 7, 8, 24] [(0, true), (1, true), (5, true), (7, false), (6, true), (8, false), (10, false), (9, true)] rfl (pKt (pKt (pKt (pKM an.K (gA aj.c) (fun _ => rfl) d.1 (pKt (pKM an.K bA (fun _ => rfl) d.2 (pKc trivial)))))))).to)) ?_ ?_
 ·clear hr
  rintro i sn M t z' G' O hr R
  refine .wk ((Wk.refl _).to (c := ⟨mkS 68 0 [(2, .hp 0 0), (3, .hp 1 0), (6, .hp 2 0), (7, .hp 4 0), (8, .hs 6 0 i.length 2), (24, .hp 7 0), (26, aB true)], [.own (al.c g), .own [ag level], .own [.mp 3], .map (d.1.map (mpK an.K (gA aj.c))), .own [.mp 5], .map (d.2.map (mpK an.K bA)), .own (i.flatMap aj.c), .iter 3 d.1.length (sn ++ [M])]⟩)) (.block (.seq (.r0 G (.p0 (v := .tup [.agg [ag t.1.e0, ag t.1.e1], .agg [ag t.2.e0, ag t.2.e1]]) (tr (y := iz [.own (al.c g), .own [ag level], .own [.mp 3], .map (d.1.map (mpK an.K (gA aj.c))), .own [.mp 5], .map (d.2.map (mpK an.K bA)), .own (i.flatMap aj.c), .iter 3 d.1.length (sn ++ [M])] (.hp 7 0)) (Eq.trans (CR (P := Tryz.prog) (m := 3) (sn := sn) (es := d.1) (mk := (mpK an.K (gA aj.c))) (e := t) kRf kRf O) kRf)) (.mu 3 (.done (.nh [2, 3, 6, 7, 8, 9, 24] [.own (al.c g), .own [ag level], .own [.mp 3], .map (d.1.map (mpK an.K (gA aj.c))), .own [.mp 5], .map (d.2.map (mpK an.K bA)), .own (i.flatMap aj.c), .iter 3 d.1.length (sn ++ [M]), .own [ag t.1.e0, ag t.1.e1]] ?_)))))))
  obtain ⟨S, T, hr⟩ := gd2 hr
  refine .r0 G (.mu 3 (.e0 (v := .hs 10 0 (i ++ [t.1]).length 2) (ws := [(6, .dead), (10, .own ((i ++ [t.1]).flatMap aj.c))]) (tr (dB (new := [ag t.1.e0, ag t.1.e1]) (l := i) (xs := [t.1]) aj.len rfl rfl kRf S T)) (.mu 1 (.done (.pop ?_)))))
  obtain rfl := oi hr
  exact R _ ((Wk.gc [2, 3, 6, 7, 8, 24] [(0, true), (1, true), (2, true), (3, false), (4, true), (5, false), (10, false), (7, true)] rfl (pKt (pKt (pKt (pKM an.K (gA aj.c) (fun _ => rfl) d.1 (pKt (pKM an.K bA (fun _ => rfl) d.2 (pKo aj.c aj.pure (i ++ [t.1]) trivial)))))))).to)
 clear hr
 rintro i sn hr
 refine aW _ rfl (.wk ((Wk.refl _).to (c := ⟨mkS 68 0 [(2, .hp 0 0), (3, .hp 1 0), (6, .hp 2 0), (7, .hp 4 0), (8, .hs 6 0 i.length 2), (24, .hp 7 0), (26, aB false)], [.own (al.c g), .own [ag level], .own [.mp 3], .map (d.1.map (mpK an.K (gA aj.c))), .own [.mp 5], .map (d.2.map (mpK an.K bA)), .own (i.flatMap aj.c), .iter 3 d.1.length sn]⟩)) (.seq ?_))
 obtain ⟨a, U, hr⟩ := bd hr
 obtain ⟨F, hr⟩ := gd hr
 refine .g1 G (cL (args := [.hs 6 0 i.length 2, .fn 54 [] []]) 1 0 [(6, false)] [false] (cO n i a U) (by exact ⟨a7 aj.pure _, trivial⟩) (by exact ⟨a7 aj.pure _, trivial⟩) rfl rfl kRf kRf) (.mu 1 (.ca cf0 (.done (.nh [2, 3, 6, 7, 8] [.own (al.c g), .own [ag level], .own [.mp 3], .map (d.1.map (mpK an.K (gA aj.c))), .own [.mp 5], .map (d.2.map (mpK an.K bA)), .own (a.flatMap aj.c), .iter 3 d.1.length sn] (.seq (.r5 G [2, 3, 6, 7, 8] [(10, .hp 9 0)] [.own (al.c g), .own [ag level], .own [.mp 3], .map (d.1.map (mpK an.K (gA aj.c))), .own [.mp 5], .map (d.2.map (mpK an.K bA)), .own (a.flatMap aj.c), .iter 3 d.1.length sn, .map (([] : List (A2 Int × Bool)).map (mpK an.K bA)), .own [.mp 8]] (.seq (.r5 G [2, 3, 6, 7, 8, 10] [(11, .hp 10 0)] [.own (al.c g), .own [ag level], .own [.mp 3], .map (d.1.map (mpK an.K (gA aj.c))), .own [.mp 5], .map (d.2.map (mpK an.K bA)), .own (a.flatMap aj.c), .iter 3 d.1.length sn, .map (([] : List (A2 Int × Bool)).map (mpK an.K bA)), .own [.mp 8], .own [nS]] (.seq (.r4 G [7, 8, 10, 11] [(12, .fn 93 [] [.hp 9 0, .hp 0 0, .hp 1 0, .hp 2 0, .hp 10 0])] (.seq (.seq (.r4 G [7, 8, 10, 11, 12] [(37, .hs 6 0 i.length 2), (38, ag (i.length : Int)), (39, ag 0)] (.block ?_))))))))))))))
 replace hr := bd hr; obtain ⟨V, H, hr⟩ := hr
 refine .aN (σ := fun N => match N with | (s, o, j) => ⟨mkS 68 0 [(7, .hp 0 0), (8, .hs 2 0 a.length 2), (10, .hp 3 0), (11, .hp 5 0), (12, .fn 93 [] [.hp 3 0, .hp 7 0, .hp 8 0, .hp 9 0, .hp 5 0]), (37, .hs 2 0 a.length 2), (38, ag (i.length : Int)), (39, ag j)], [.own [.mp 1], .map (d.2.map (mpK an.K bA)), .own (a.flatMap aj.c), .own [.mp 4], .map (s.map (mpK an.K bA)), .own [.hs 6 0 o.length 2], .own (o.flatMap ae.c), .own (al.c g), .own [ag level], .own [.mp 10], .map (d.1.map (mpK an.K (gA aj.c)))]⟩) (Q := fun x st' => match (generalizing := false) V with | (C, B) => x = .exit 2 /\ Wk 0 st' ⟨mkS 68 0 [(8, .hs 0 0 a.length 2), (10, .hp 1 0), (11, .hp 3 0), (12, .fn 93 [] [.hp 1 0, .hp 5 0, .hp 6 0, .hp 7 0, .hp 3 0])], [.own (a.flatMap aj.c), .own [.mp 2], .map (C.map (mpK an.K bA)), .own [.hs 4 0 B.length 2], .own (B.flatMap ae.c), .own (al.c g), .own [ag level], .own [.mp 8], .map (d.1.map (mpK an.K (gA aj.c)))]⟩) H ((Wk.jl 8 (b := 6) (es := 2) (len := i.length) a.length kRf (Eq.symm (dcT F))).trans ((Wk.xR 10 0 2 (cs := [nS]) kRf kRf).trans ((Wk.jl 37 (b := 6) (es := 2) (len := i.length) a.length kRf (Eq.symm (dcT F))).trans ((Wk.gc [7, 8, 10, 11, 12, 37, 38, 39] [(4, true), (5, false), (6, false), (9, true), (8, false), (10, true), (11, false), (0, true), (1, true), (2, true), (3, false)] rfl (pKt (pKM an.K bA (fun _ => rfl) d.2 (pKo aj.c aj.pure a (pKt (pKM an.K bA (fun _ => rfl) ([] : List (A2 Int × Bool)) (pKt (pKc (pKt (pKt (pKt (pKM an.K (gA aj.c) (fun _ => rfl) d.1 trivial)))))))))))).to)))) ?_ ?_
 ·clear hr
  rintro m ⟨s, o, j⟩ hr
  refine CQ.sh ?_
  refine .seq (.r4 G [7, 8, 10, 11, 12, 37, 38, 39] [(40, aB (decide (j < (i.length : Int))))] (.seq ?_))
  refine .cd hr ?_ ?_ <;> intro kB hr
  ·refine .skip (.seq (.block (.seq ?_)))
   obtain ⟨I, hr⟩ := gd hr
   refine .r0 G (.p0 (v := .hp 2 (0 + j.toNat * 2)) (tr (au I)) (.p0 (v := .agg (aj.c (gt a j))) (tr (y := br.ofP (ei (decide (2 <= ((a.flatMap aj.c).drop (0 + j.toNat * 2)).length)) (.agg (((a.flatMap aj.c).drop (0 + j.toNat * 2)).take 2)))) (b6 aj.len (aC I) (by decide) (by omega : 0 + j.toNat * 2 = j.toNat * 2 + 0) kRf)) (.mu 2 (.done (.nh [7, 8, 10, 11, 12, 14, 37, 38, 39] [.own [.mp 1], .map (d.2.map (mpK an.K bA)), .own (a.flatMap aj.c), .own [.mp 4], .map (s.map (mpK an.K bA)), .own [.hs 6 0 o.length 2], .own (o.flatMap ae.c), .own (al.c g), .own [ag level], .own [.mp 10], .map (d.1.map (mpK an.K (gA aj.c))), .own (aj.c (gt a j))] (.seq (.r0 G (.mu 2 (.p0 (v := aB (getM false d.2 (gt a j))) (tr (y := br.ofP (dF Tryz.prog [.own [.mp 1], .map (d.2.map (mpK an.K bA)), .own (a.flatMap aj.c), .own [.mp 4], .map (s.map (mpK an.K bA)), .own [.hs 6 0 o.length 2], .own (o.flatMap ae.c), .own (al.c g), .own [ag level], .own [.mp 10], .map (d.1.map (mpK an.K (gA aj.c))), .own (aj.c (gt a j))] 125 (.mp 1) (.agg (aj.c (gt a j))) false)) (tu (kt := 101) (e := 4) (l := d.2) (f := bA) (z := false) (K := an.K) (x := (gt a j)) an.key kRf kRf kRf kRf kRf)) (.mu 1 (.done (.nh [7, 8, 10, 11, 12, 14, 37, 38, 39, 46] [.own [.mp 1], .map (d.2.map (mpK an.K bA)), .own (a.flatMap aj.c), .own [.mp 4], .map (s.map (mpK an.K bA)), .own [.hs 6 0 o.length 2], .own (o.flatMap ae.c), .own (al.c g), .own [ag level], .own [.mp 10], .map (d.1.map (mpK an.K (gA aj.c))), .own (aj.c (gt a j))] ?_))))))))))))
   refine .cd hr ?_ ?_ <;> intro j9 hr
   ·obtain ⟨u, W, hr⟩ := bd hr
    refine .g1 G (fT 8 (.own [ag level]) [(3, .own [.mp 12])] [(9, .own [.mp 13]), (5, .own [.hs 14 0 u.2.length 2]), (12, .map (u.1.map (mpK an.K bA))), (13, .map (d.1.map (mpK an.K (gA aj.c)))), (14, .own (u.2.flatMap ae.c)), (4, .dead), (10, .dead), (6, .dead)] (fT 7 (.own (al.c g)) [(3, .own [.mp 12])] [(8, .own [ag level]), (9, .own [.mp 13]), (5, .own [.hs 14 0 u.2.length 2]), (12, .map (u.1.map (mpK an.K bA))), (13, .map (d.1.map (mpK an.K (gA aj.c)))), (14, .own (u.2.flatMap ae.c)), (4, .dead), (10, .dead), (6, .dead)] (cL (args := [.agg (aj.c (gt a j)), aB false, .hp 3 0, .hp 7 0, .hp 8 0, .hp 9 0, .hp 5 0]) 5 3 [(3, true), (7, true), (8, true), (9, true), (5, true), (4, false), (10, false), (6, false)] [true, true, true, true, true, false, false, false] (lV n (gt a j) false s g.X0 g.Y0 g.Step g.Width g.Height g.Z level d.1 o u W) (by exact ⟨dz (fun _ => rfl) _, ⟨dz (fun _ => rfl) _, ⟨a7 ae.pure _, trivial⟩⟩⟩) (by exact ⟨dz (fun _ => rfl) _, ⟨dz (fun _ => rfl) _, ⟨a7 ae.pure _, trivial⟩⟩⟩) rfl rfl kRf kRf))) (.mu 2 (.ca cf0 (.done (.pop (.ru G ?_)))))
    exact av (u.1, u.2, FK (j + 1)) hr ((Wk.gc [7, 8, 10, 11, 12, 37, 38, 39] [(0, true), (1, false), (2, false), (3, true), (12, false), (5, true), (14, false), (7, true), (8, true), (9, true), (13, false)] rfl (pKt (pKM an.K bA (fun _ => rfl) d.2 (pKo aj.c aj.pure a (pKt (pKM an.K bA (fun _ => rfl) u.1 (pKt (pKo ae.c ae.pure u.2 (pKt (pKt (pKt (pKM an.K (gA aj.c) (fun _ => rfl) d.1 trivial)))))))))))).to)
   refine .skip (.pop (.ru G ?_))
   exact av (s, o, FK (j + 1)) hr ((Wk.gc [7, 8, 10, 11, 12, 37, 38, 39] [(0, true), (1, false), (2, false), (3, true), (4, false), (5, true), (6, false), (7, true), (8, true), (9, true), (10, false)] rfl (pKt (pKM an.K bA (fun _ => rfl) d.2 (pKo aj.c aj.pure a (pKt (pKM an.K bA (fun _ => rfl) s (pKt (pKo ae.c ae.pure o (pKt (pKt (pKt (pKM an.K (gA aj.c) (fun _ => rfl) d.1 trivial)))))))))))).to)
  refine .leave rfl ?_
  obtain rfl := oi hr
  exact ⟨rfl, ((Wk.gc [8, 10, 11, 12] [(2, false), (3, true), (4, false), (5, true), (6, false), (7, true), (8, true), (9, true), (10, false)] rfl (pKo aj.c aj.pure a (pKt (pKM an.K bA (fun _ => rfl) s (pKt (pKo ae.c ae.pure o (pKt (pKt (pKt (pKM an.K (gA aj.c) (fun _ => rfl) d.1 trivial)))))))))).to)⟩
 rcases V with ⟨C, B⟩
 rintro x st' D
 clear H
 obtain ⟨rfl, D⟩ := D
 refine aW _ rfl (.wk D (.seq (.seq (.r4 G [10, 11, 12] [(51, .hs 0 0 a.length 2), (52, ag (a.length : Int)), (53, ag 0)] (.block ?_)))))
 replace hr := bd hr; obtain ⟨w, J, hr⟩ := hr
 refine .aN (σ := fun N => match N with | (q, p, k) => ⟨mkS 68 0 [(10, .hp 0 0), (11, .hp 2 0), (12, .fn 93 [] [.hp 0 0, .hp 4 0, .hp 5 0, .hp 6 0, .hp 2 0]), (51, .hs 8 0 a.length 2), (52, ag (a.length : Int)), (53, ag k)], [.own [.mp 1], .map (q.map (mpK an.K bA)), .own [.hs 3 0 p.length 2], .own (p.flatMap ae.c), .own (al.c g), .own [ag level], .own [.mp 7], .map (d.1.map (mpK an.K (gA aj.c))), .own (a.flatMap aj.c)]⟩) (Q := fun x st' => x = .exit 4 /\ Wk 0 st' ⟨mkS 68 0 [(11, .hp 0 0)], [.own [.hs 1 0 w.length 2], .own (w.flatMap ae.c)]⟩) J ((Wk.gc [10, 11, 12, 51, 52, 53] [(1, true), (2, false), (3, true), (4, false), (5, true), (6, true), (7, true), (8, false), (0, false)] rfl (pKt (pKM an.K bA (fun _ => rfl) C (pKt (pKo ae.c ae.pure B (pKt (pKt (pKt (pKM an.K (gA aj.c) (fun _ => rfl) d.1 (pKo aj.c aj.pure a trivial)))))))))).to) ?_ ?_
 ·clear hr
  rintro m ⟨q, p, k⟩ hr
  refine CQ.sh ?_
  refine .seq (.r4 G [10, 11, 12, 51, 52, 53] [(54, aB (decide (k < (a.length : Int))))] (.seq ?_))
  refine .cd hr ?_ ?_ <;> intro kO hr
  ·refine .skip (.seq (.block (.seq ?_)))
   obtain ⟨L, hr⟩ := gd hr
   refine .r0 G (.p0 (v := .hp 8 (0 + k.toNat * 2)) (tr (au L)) (.p0 (v := .agg (aj.c (gt a k))) (tr (y := br.ofP (ei (decide (2 <= ((a.flatMap aj.c).drop (0 + k.toNat * 2)).length)) (.agg (((a.flatMap aj.c).drop (0 + k.toNat * 2)).take 2)))) (b6 aj.len (aC L) (by decide) (by omega : 0 + k.toNat * 2 = k.toNat * 2 + 0) kRf)) (.mu 2 (.done (.nh [10, 11, 12, 16, 51, 52, 53] [.own [.mp 1], .map (q.map (mpK an.K bA)), .own [.hs 3 0 p.length 2], .own (p.flatMap ae.c), .own (al.c g), .own [ag level], .own [.mp 7], .map (d.1.map (mpK an.K (gA aj.c))), .own (a.flatMap aj.c), .own (aj.c (gt a k))] (.seq (.r0 G (.mu 2 (.p0 (v := aB (getM false q (gt a k))) (tr (y := br.ofP (dF Tryz.prog [.own [.mp 1], .map (q.map (mpK an.K bA)), .own [.hs 3 0 p.length 2], .own (p.flatMap ae.c), .own (al.c g), .own [ag level], .own [.mp 7], .map (d.1.map (mpK an.K (gA aj.c))), .own (a.flatMap aj.c), .own (aj.c (gt a k))] 125 (.mp 1) (.agg (aj.c (gt a k))) false)) (tu (kt := 101) (e := 4) (l := q) (f := bA) (z := false) (K := an.K) (x := (gt a k)) an.key kRf kRf kRf kRf kRf)) (.mu 1 (.done (.nh [10, 11, 12, 16, 51, 52, 53, 60] [.own [.mp 1], .map (q.map (mpK an.K bA)), .own [.hs 3 0 p.length 2], .own (p.flatMap ae.c), .own (al.c g), .own [ag level], .own [.mp 7], .map (d.1.map (mpK an.K (gA aj.c))), .own (a.flatMap aj.c), .own (aj.c (gt a k))] ?_))))))))))))
   refine .cd hr ?_ ?_ <;> intro lH hr
   ·obtain ⟨A, X, hr⟩ := bd hr
    refine .g1 G (fT 5 (.own [ag level]) [(0, .own [.mp 10])] [(6, .own [.mp 11]), (2, .own [.hs 12 0 A.2.length 2]), (10, .map (A.1.map (mpK an.K bA))), (11, .map (d.1.map (mpK an.K (gA aj.c)))), (12, .own (A.2.flatMap ae.c)), (1, .dead), (7, .dead), (3, .dead)] (fT 4 (.own (al.c g)) [(0, .own [.mp 10])] [(5, .own [ag level]), (6, .own [.mp 11]), (2, .own [.hs 12 0 A.2.length 2]), (10, .map (A.1.map (mpK an.K bA))), (11, .map (d.1.map (mpK an.K (gA aj.c)))), (12, .own (A.2.flatMap ae.c)), (1, .dead), (7, .dead), (3, .dead)] (cL (args := [.agg (aj.c (gt a k)), aB true, .hp 0 0, .hp 4 0, .hp 5 0, .hp 6 0, .hp 2 0]) 5 3 [(0, true), (4, true), (5, true), (6, true), (2, true), (1, false), (7, false), (3, false)] [true, true, true, true, true, false, false, false] (lV n (gt a k) true q g.X0 g.Y0 g.Step g.Width g.Height g.Z level d.1 p A X) (by exact ⟨dz (fun _ => rfl) _, ⟨dz (fun _ => rfl) _, ⟨a7 ae.pure _, trivial⟩⟩⟩) (by exact ⟨dz (fun _ => rfl) _, ⟨dz (fun _ => rfl) _, ⟨a7 ae.pure _, trivial⟩⟩⟩) rfl rfl kRf kRf))) (.mu 2 (.ca cf0 (.done (.pop (.ru G ?_)))))
    exact av (A.1, A.2, FK (k + 1)) hr ((Wk.gc [10, 11, 12, 51, 52, 53] [(0, true), (10, false), (2, true), (12, false), (4, true), (5, true), (6, true), (11, false), (8, false)] rfl (pKt (pKM an.K bA (fun _ => rfl) A.1 (pKt (pKo ae.c ae.pure A.2 (pKt (pKt (pKt (pKM an.K (gA aj.c) (fun _ => rfl) d.1 (pKo aj.c aj.pure a trivial)))))))))).to)
   refine .skip (.pop (.ru G ?_))
   exact av (q, p, FK (k + 1)) hr ((Wk.gc [10, 11, 12, 51, 52, 53] [(0, true), (1, false), (2, true), (3, false), (4, true), (5, true), (6, true), (7, false), (8, false)] rfl (pKt (pKM an.K bA (fun _ => rfl) q (pKt (pKo ae.c ae.pure p (pKt (pKt (pKt (pKM an.K (gA aj.c) (fun _ => rfl) d.1 (pKo aj.c aj.pure a trivial)))))))))).to)
  refine .leave rfl ?_
  obtain rfl := oi hr
  exact ⟨rfl, ((Wk.gc [11] [(2, true), (3, false)] rfl (pKt (pKo ae.c ae.pure p trivial))).to)⟩
 rintro x st' E
 clear J
 obtain ⟨rfl, E⟩ := E
 refine aW _ rfl (.wk E (.seq ?_))
 obtain ⟨Y, jB, hr⟩ := bd hr
 obtain ⟨jQ, hr⟩ := gd hr
 refine .g1 G (cL (args := [.hs 1 0 w.length 2, .fn 95 [] []]) 1 0 [(1, false)] [false] (cQ n w Y jB) (by exact ⟨a7 ae.pure _, trivial⟩) (by exact ⟨a7 ae.pure _, trivial⟩) rfl rfl kRf kRf) (.mu 1 (.ca cf0 (.done (.nh [11] [.own [.hs 1 0 w.length 2], .own (Y.flatMap ae.c)] (.seq (.r3 G 68 [(4, .hs 1 0 w.length 2)] (.ret ?_)))))))
 obtain rfl := oi hr
 exact aK.ret (vs := [.hs 1 0 w.length 2]) kRf (Sn.hse (dcT jQ) rfl (.inl rfl) (SnC.pure (a7 ae.pure _)) (fun h => bZ h))

theorem ou (n : Nat) (g : al) (level : Int) (r : List ae × Int) (hr : ew n g level = some r) : aO Tryz.prog 14 [.agg (al.c g), ag level] (.tup [slT ae.c r.1, ag r.2]) := by
 unfold ew at hr
 refine aO.bd G Tryz.func14 [.tmp 4, .tmp 5] ?_
 unfold Tryz.f14
 simp only [gS]
 refine .seq (.r5 G [1] [(2, .hp 0 0)] [.own (al.c g)] (.seq (.seq ?_)))
 obtain ⟨a, b, hr⟩ := bd hr
 refine .g1 G (ok0 (je n g level a b)) (.mu 2 (.ca cf0 (.mu 1 (.done (.nh [1, 2, 6] [.own (al.c g)] (.seq (.r4 G [1, 2, 6] [(11, aB ((a : Int) != 0))] ?_)))))))
 refine .cd hr ?_ ?_ <;> intro f hr
 ·refine .seq (.r3 G 16 [(4, nS), (5, ag a)] (.ret ?_))
  obtain rfl := oi hr
  exact aK.ret (vs := [nS, ag a]) kRf (Sn.tup (SnL.cons Sn.gh (Sp SnL.nil)))
 refine .skip (.seq ?_)
 obtain ⟨e, d, hr⟩ := bd hr
 refine .g1 G (ok0 (oG n g level e d)) (.mu 2 (.ca cf0 (.mu 2 (.done (.ret ?_)))))
 obtain rfl := oi hr
 exact aK.ret (vs := [slT ae.c e, ag 0]) kRf (Sn.tup (Sp (Sp SnL.nil)))

theorem nN (n : Nat) {b : Int} {a : Int} (h : ([.at (.int .i64 b)] : List AV) = [.at (.int .i64 a)]) : cG n b = cG n a := by
 obtain rfl := eN h
 rfl
theorem cZ (n : Nat) (f : Int) (r : ak) (hr : cG n f = some r) : aO Tryz.prog 61 [ag f] (.agg (ak.c r)) := by
 unfold cG at hr
 refine aO.bd G Tryz.func61 [.cell 2 42] ?_
 unfold Tryz.f61
 simp only [gS]
 refine .seq (.r5 G [0] [(2, .hp 0 0)] [.own zN2] (.seq ?_))
 obtain ⟨a, b, d, e, hr⟩ := bd2 hr
 refine .gn G (ca1 (ok0 (iZ n f a b)) (ca3 (ok0 (iZ n 1 d e)))) (.mu 1 (.ca cf0 (.ca (cfA (fun h => by rw [sv e b (rB n h)]) cf0) (.mu 2 (.done (.nh [2] [.own [aB a.Negative, az a.Groups, aB d.Negative, az d.Groups]] (.ret ?_)))))))
 obtain rfl := oi hr
 exact aK.r1 [.agg [aB a.Negative, az a.Groups, aB d.Negative, az d.Groups]]

theorem oI (n : Nat) (a : Int) (r : Bool) (hr : lN n a = some r) : aO Tryz.prog 198 [ag a] (aB r) := by
 unfold lN at hr
 refine aO.bd G Tryz.func198 [.tmp 2] ?_
 unfold Tryz.f198
 simp only [gS]
 refine .seq (.r4 G [0] [] (.seq (.ru G (.ret ?_))))
 obtain rfl := oi hr
 exact aK.r1 [aB ((a : Int) != a)]

theorem sa (n : Nat) (a : Int) (y : Int) (r : Int) (hr : me n a y = some r) : aO Tryz.prog 179 [ag a, ag y] (ag r) := by
 unfold me at hr
 refine aO.bd G Tryz.func179 [.tmp 4] ?_
 unfold Tryz.f179
 simp only [gS]
 refine .seq (.r4 G [0, 1] [] (.seq ?_))
 obtain ⟨e, b, hr⟩ := bd hr
 refine .g1 G (ok0 (oI n a e b)) (.mu 1 (.ca cf0 (.mu 1 (.done (.nh [0, 1, 5] [] (.seq ?_))))))
 obtain ⟨c, d, hr⟩ := bd hr
 refine .g1 G (ok0 (oI n y c d)) (.mu 1 (.ca cf0 (.mu 1 (.done (.nh [0, 1, 5, 6] [] (.seq (.seq (.r4 G [0, 1, 6] [(11, aB e)] ?_))))))))
 refine .cd hr ?_ ?_ <;> intro f hr
 ·refine .seq (.seq (.r3 G 20 [(12, aB c)] ?_))
  refine .cd hr ?_ ?_ <;> intro g hr
  ·refine .seq (.ru G (.ret ?_))
   obtain rfl := oi hr
   exact aK.r1 [ag 0]
  refine .skip (.seq (.ru G (.ret ?_)))
  obtain rfl := oi hr
  exact aK.r1 [ag (-1)]
 refine .skip (.seq (.seq (.r4 G [0, 1] [(13, aB c)] ?_)))
 refine .cd hr ?_ ?_ <;> intro h hr
 ·refine .seq (.ru G (.ret ?_))
  obtain rfl := oi hr
  exact aK.r1 [ag 1]
 refine .skip (.seq (.seq (.r4 G [0, 1] [(16, aB (decide (a < y)))] ?_)))
 refine .cd hr ?_ ?_ <;> intro i hr
 ·refine .seq (.ru G (.ret ?_))
  obtain rfl := oi hr
  exact aK.r1 [ag (-1)]
 refine .skip (.seq (.seq (.r3 G 20 [(19, aB (decide (a > y)))] ?_)))
 refine .cd hr ?_ ?_ <;> intro j hr
 ·refine .seq (.ru G (.ret ?_))
  obtain rfl := oi hr
  exact aK.r1 [ag 1]
 refine .skip (.seq (.ru G (.ret ?_)))
 obtain rfl := oi hr
 exact aK.r1 [ag 0]

theorem nk (n : Nat) (b : ah) (y : ah) (r : Int) (hr : j6 n b y = some r) : aO Tryz.prog 144 [.agg (ah.c b), .agg (ah.c y)] (ag r) := by
 unfold j6 at hr
 refine aO.bd G Tryz.func144 [.tmp 4] ?_
 unfold Tryz.f144
 simp only [gS]
 refine .seq (.r2 G 28 [(2, .hp 0 0), (3, .hp 1 0)] [.own (ah.c b), .own (ah.c y)] (.seq (.seq ?_)))
 obtain ⟨k, e, l, f, hr⟩ := bd2 hr
 refine .tn G (ca1 (ok0 (fA n b k e)) (ca3 (ok0 (fA n y l f)))) (.mu 1 (.ca cf0 (.mu 1 (.ca (cfA (fun h => by rw [sv f e (uH n h)]) cf0) (.mu 2 ?_)))))
 refine .done (kRa ?_)
 refine .nh [2, 3, 5, 6] [.own (ah.c b), .own (ah.c y)] (.seq (.r4 G [2, 3, 5, 6] [(14, aB ((k : Int) != l))] ?_))
 refine .cd hr ?_ ?_ <;> intro s hr
 ·refine .seq ?_
  obtain ⟨o, m, hr⟩ := bd hr
  refine .g1 G (ok0 (sa n k l o m)) (.mu 2 (.ca cf0 (.mu 1 (.done (.ret ?_)))))
  obtain rfl := oi hr
  exact aK.r1 [ag o]
 refine .skip (.seq ?_)
 obtain ⟨p, g, i, d, a, j, hr⟩ := bd3 hr
 refine .tn G (ca1 (ok0 (b9 n b p g)) (ca1 (ok0 (b9 n y i d)) (ca3 (ok0 (kg n p i a j))))) (.mu 1 (.ca cf0 (.mu 1 (.ca (cfA (fun h => by rw [sv d g (gL n h)]) cf0) (.ca (cfF (cfF cf0)) (.mu 1 ?_))))))
 refine .done (kRa ?_)
 refine .nh [2, 7] [.own (ah.c b), .own (ah.c y)] (.seq (.seq (.r4 G [7] [(24, aB b.Negative)] ?_)))
 refine .cd hr ?_ ?_ <;> intro q hr
 ·refine .seq (.r0 G (.mu 1 (.p0 (v := ag (FK (0 - a))) (tr (y := some (.pure (ag (IntKind.wrap .i64 (0 - a))))) x7) (.mu 1 (.done (.ret ?_))))))
  obtain rfl := oi hr
  exact aK.r1 [ag (FK (0 - a))]
 refine .skip (.seq (.ru G (.ret ?_)))
 obtain rfl := oi hr
 exact aK.r1 [ag a]

theorem iK {b : ak} {a : ak} (h : ([.agg [.at (.bool b.Num.Negative), slT iCu b.Num.Groups, .at (.bool b.Den.Negative), slT iCu b.Den.Groups]] : List AV) = [.agg [.at (.bool a.Num.Negative), slT iCu a.Num.Groups, .at (.bool a.Den.Negative), slT iCu a.Den.Groups]]) : b = a := by
 obtain ⟨⟨_, _⟩, ⟨_, _⟩⟩ := b
 obtain ⟨⟨_, _⟩, ⟨_, _⟩⟩ := a
 simp only [List.cons.injEq, AV.agg.injEq, AV.at.injEq, Value.int.injEq, Value.bool.injEq, AV.fn.injEq, AV.pp.injEq, true_and, and_true, dV] at h
 simp_all
theorem nK (n : Nat) {b : ak} {a : ak} (h : ([.agg (ak.c b)] : List AV) = [.agg (ak.c a)]) : fo n b = fo n a := by
 obtain rfl := iK h
 rfl
theorem eG (n : Nat) (a : ak) (r : Bool) (hr : fo n a = some r) : aO Tryz.prog 101 [.agg (ak.c a)] (aB r) := by
 unfold fo at hr
 refine aO.bd G Tryz.func101 [.tmp 2] ?_
 unfold Tryz.f101
 simp only [gS]
 refine .seq (.r2 G 27 [(1, .hp 0 0)] [.own (ak.c a)] (.seq (.seq ?_)))
 obtain ⟨o, d, hr⟩ := bd hr
 rcases bT (!o) with b | b
 ·replace hr := cg b hr
  refine .g1 G (ok0 (fe n a.Num o d)) (.mu 2 (.ca cf0 (.p0 (v := aB true) (eB b) (.mu 12 (.done (.nh [1, 18] [.own (ak.c a)] (.cT kRf (.seq (.ru G (.ret ?_))))))))))
  obtain rfl := oi hr
  exact aK.r1 [aB false]
 replace hr := ch b hr
 obtain ⟨p, f, hr⟩ := bd hr
 rcases bT (!p) with e | e
 ·replace hr := cg e hr
  refine .gn G (ca1 (ok0 (fe n a.Num o d)) (ca3 (ok0 (fe n a.Den p f)))) (.mu 2 (.ca cf0 (.p0 (v := aB false) (eB b) (.mu 3 (.ca (cfA (fun h => by rw [sv f d (oy n h)]) cf0) (.pure (v := aB true) kRf (eB e) (.mu 7 (.done (.nh [1, 18] [.own (ak.c a)] (.cT kRf (.seq (.ru G (.ret ?_)))))))))))))
  obtain rfl := oi hr
  exact aK.r1 [aB false]
 replace hr := ch e hr
 obtain ⟨s, q, hr⟩ := bd hr
 refine .gn G (ca1 (ok0 (fe n a.Num o d)) (ca1 (ok0 (fe n a.Den p f)) (ca3 (ok0 (fA n a.Den s q))))) (.mu 2 (.ca cf0 (.p0 (v := aB false) (eB b) (.mu 3 (.ca (cfA (fun h => by rw [sv f d (oy n h)]) cf0) (.pure (v := aB false) kRf (eB e) (.mu 4 (.ca (cfF (cfF cf0)) (.mu 2 (.done (.nh [1, 18] [.own (ak.c a)] ?_)))))))))))
 refine .cd hr ?_ ?_ <;> intro t hr
 ·refine .seq (.ru G (.ret ?_))
  obtain rfl := oi hr
  exact aK.r1 [aB false]
 refine .skip (.seq ?_)
 obtain ⟨g, i, j, k, l, m, hr⟩ := bd3 hr
 refine .gn G (ca1 (ok0 (nq n a.Num a.Den g i)) (ca1 (ok0 (iZ n 1 j k)) (ca3 (ok0 (nk n g j l m))))) (.mu 4 (.ca cf0 (.ca (cfF cf0) (.ca (cfF (cfF cf0)) (.mu 2 (.done (.ret ?_)))))))
 obtain rfl := oi hr
 exact aK.r1 [aB ((l : Int) == 0)]

theorem r7 (n : Nat) (f : ak) (r : ak) (hr : ml n f = some r) : aO Tryz.prog 159 [.agg (ak.c f)] (.agg (ak.c r)) := by
 unfold ml at hr
 refine aO.bd G Tryz.func159 [.cell 2 42] ?_
 unfold Tryz.f159
 simp only [gS]
 refine .seq (.r2 G 12 [(1, .hp 0 0), (2, .hp 1 0)] [.own (ak.c f), .own zN2] (.seq ?_))
 obtain ⟨j, a, g, b, k, d, hr⟩ := bd3 hr
 obtain ⟨i, e, hr⟩ := bd hr
 refine .tn G (ca1 (ok0 (gj n f.Num j a)) (ca1 (ok0 (gj n j g b)) (ca1 (ok0 (gj n f.Den k d)) (ca3 (ok0 (gj n k i e)))))) (.mu 2 (.ca cf0 (.ca (cfA (fun h => by rw [sv b a (fY n h)]) cf0) (.mu 2 (.ca (cfA (fun h => by rw [sv d a (fY n h)]) (cfA (fun h => by rw [sv d b (fY n h)]) cf0)) (.ca (cfA (fun h => by rw [sv e a (fY n h)]) (cfA (fun h => by rw [sv e b (fY n h)]) (cfA (fun h => by rw [sv e d (fY n h)]) cf0))) (.mu 2 ?_)))))))
 refine .done (kRa ?_)
 refine .nh [2] [.own (ak.c f), .own [aB g.Negative, az g.Groups, aB i.Negative, az i.Groups]] (.ret ?_)
 obtain rfl := oi hr
 exact aK.r1 [.agg [aB g.Negative, az g.Groups, aB i.Negative, az i.Groups]]

theorem jk (n : Nat) {b : ak} {a : ak} (h : ([.agg (ak.c b)] : List AV) = [.agg (ak.c a)]) : ct n b = ct n a := by
 obtain rfl := iK h
 rfl
theorem cI (n : Nat) (a : ak) (r : ak) (hr : ct n a = some r) : aO Tryz.prog 121 [.agg (ak.c a)] (.agg (ak.c r)) := by
 unfold ct at hr
 refine aO.bd G Tryz.func121 [.cell 2 42] ?_
 unfold Tryz.f121
 simp only [gS]
 refine .seq (.r2 G 8 [(1, .hp 0 0), (2, .hp 1 0)] [.own (ak.c a), .own zN2] (.seq (.seq ?_)))
 obtain ⟨h, b, hr⟩ := bd hr
 refine .g1 G (ok0 (eG n a h b)) (.mu 1 (.ca cf0 (.done (.nh [1, 2, 4] [.own (ak.c a), .own zN2] ?_))))
 refine .cd hr ?_ ?_ <;> intro i hr
 ·refine .seq ?_
  obtain ⟨d, e, hr⟩ := bd hr
  refine .g1 G (ok0 (r7 n a d e)) (.mu 1 (.ca cf0 (.mu 1 (.done (.nh [2] [.own (ak.c a), .own (ak.c d)] (.ret ?_))))))
  obtain rfl := oi hr
  exact aK.r1 [.agg (ak.c d)]
 refine .skip (.seq ?_)
 obtain ⟨f, g, hr⟩ := bd hr
 refine .g1 G (ok0 (cZ n 0 f g)) (.ca cf0 (.mu 1 (.done (.nh [2] [.own (ak.c a), .own (ak.c f)] (.ret ?_)))))
 obtain rfl := oi hr
 exact aK.r1 [.agg (ak.c f)]

theorem jL (n : Nat) {b : ak} {a : ak} (h : ([.agg (ak.c b)] : List AV) = [.agg (ak.c a)]) : cy n b = cy n a := by
 obtain rfl := iK h
 rfl
theorem b8 (n : Nat) (a : ak) (r : Int) (hr : cy n a = some r) : aO Tryz.prog 107 [.agg (ak.c a)] (ag r) := by
 unfold cy at hr
 refine aO.bd G Tryz.func107 [.tmp 2] ?_
 unfold Tryz.f107
 simp only [gS]
 refine .seq (.r2 G 7 [(1, .hp 0 0)] [.own (ak.c a)] (.seq ?_))
 obtain ⟨e, b, f, d, hr⟩ := bd2 hr
 refine .gn G (ca1 (ok0 (cI n a e b)) (ca3 (ok0 (fA n e.Num f d)))) (.mu 1 (.ca cf0 (.mu 1 (.ca (cfF cf0) (.mu 1 (.done (.ret ?_)))))))
 obtain rfl := oi hr
 exact aK.r1 [ag f]

theorem uG (n : Nat) (d : ak) (r : ak) (hr : pd n d = some r) : aO Tryz.prog 120 [.agg (ak.c d)] (.agg (ak.c r)) := by
 unfold pd at hr
 refine aO.bd G Tryz.func120 [.cell 2 42] ?_
 unfold Tryz.f120
 simp only [gS]
 refine .seq (.r2 G 11 [(1, .hp 0 0), (2, .hp 1 0)] [.own (ak.c d), .own zN2] (.seq ?_))
 obtain ⟨a, e, hr⟩ := bd hr
 refine .g1 G (ok0 (cI n d a e)) (.mu 1 (.ca cf0 (.mu 1 (.done (.nh [1, 2] [.own (ak.c a), .own zN2] (.seq ?_))))))
 obtain ⟨b, f, hr⟩ := bd hr
 refine .t1 G (ok0 (gj n a.Num b f)) (.mu 2 (.ca cf0 (.mu 4 ?_)))
 refine .done (kRa ?_)
 refine .nh [2] [.own (ak.c a), .own [aB b.Negative, az b.Groups, aB a.Den.Negative, az a.Den.Groups]] (.ret ?_)
 obtain rfl := oi hr
 exact aK.r1 [.agg [aB b.Negative, az b.Groups, aB a.Den.Negative, az a.Den.Groups]]

theorem pP {b : ah} {y : ah} {a : ah} {c : ah} (h : ([.agg [.at (.bool b.Negative), slT iCu b.Groups], .agg [.at (.bool y.Negative), slT iCu y.Groups]] : List AV) = [.agg [.at (.bool a.Negative), slT iCu a.Groups], .agg [.at (.bool c.Negative), slT iCu c.Groups]]) : b = a /\ y = c := by
 obtain ⟨_, _⟩ := b
 obtain ⟨_, _⟩ := a
 obtain ⟨_, _⟩ := y
 obtain ⟨_, _⟩ := c
 simp only [List.cons.injEq, AV.agg.injEq, AV.at.injEq, Value.int.injEq, Value.bool.injEq, AV.fn.injEq, AV.pp.injEq, true_and, and_true, dV] at h
 simp_all
theorem ib (n : Nat) {b : ah} {y : ah} {a : ah} {d : ah} (h : ([.agg (ah.c b), .agg (ah.c y)] : List AV) = [.agg (ah.c a), .agg (ah.c d)]) : dZ n b y = dZ n a d := by
 obtain ⟨rfl, rfl⟩ := pP h
 rfl
theorem eD (n : Nat) (a : ah) (y : ah) (r : ah) (hr : dZ n a y = some r) : aO Tryz.prog 123 [.agg (ah.c a), .agg (ah.c y)] (.agg (ah.c r)) := by
 unfold dZ at hr
 refine aO.bd G Tryz.func123 [.cell 4 40] ?_
 unfold Tryz.f123
 simp only [gS]
 refine .seq (.r2 G 16 [(2, .hp 0 0), (3, .hp 1 0), (4, .hp 2 0)] [.own (ah.c a), .own (ah.c y), .own [aB false, nS]] (.seq ?_))
 obtain ⟨i, b, j, d, k, e, hr⟩ := bd3 hr
 obtain ⟨f, g, hr⟩ := bd hr
 refine .tn G (ca1 (ok0 (b9 n a i b)) (ca1 (ok0 (b9 n y j d)) (ca1 (ok0 (tV n i j k e)) (ca3 (ok0 (bU n (a.Negative != y.Negative) k f g)))))) (.mu 6 (.ca cf0 (.mu 1 (.ca (cfA (fun h => by rw [sv d b (gL n h)]) cf0) (.ca (cfF (cfF cf0)) (.ca (cfF (cfF (cfF cf0))) (.mu 1 ?_)))))))
 refine .done (kRa ?_)
 refine .nh [4] [.own (ah.c a), .own (ah.c y), .own (ah.c f)] (.ret ?_)
 obtain rfl := oi hr
 exact aK.r1 [.agg (ah.c f)]

theorem vS (n : Nat) (negative : Bool) (a : List Int) (other : Bool) (b : List Int) (r : ah) (hr : qy n negative a other b = some r) : aO Tryz.prog 163 [aB negative, az a, aB other, az b] (.agg (ah.c r)) := by
 unfold qy at hr
 refine aO.bd G Tryz.func163 [.cell 8 40] ?_
 unfold Tryz.f163
 simp only [gS]
 refine .seq (.r5 G [0, 1, 2, 3] [(8, .hp 0 0)] [.own [aB false, nS]] (.seq (.block (.seq (.r4 G [0, 1, 2, 3, 8] [(9, aB (negative == other))] ?_)))))
 refine .cd hr ?_ ?_ <;> intro s hr
 ·refine .seq ?_
  obtain ⟨p, k, l, m, hr⟩ := bd2 hr
  refine .gn G (ca1 (ok0 (pL n a b p k)) (ca3 (ok0 (bU n negative p l m)))) (.mu 3 (.ca cf0 (.ca (cfF cf0) (.mu 1 (.done (.nh [8] [.own (ah.c l)] (.ret ?_)))))))
  obtain rfl := oi hr
  exact aK.r1 [.agg (ah.c l)]
 refine .seq ?_
 obtain ⟨t, o, hr⟩ := bd hr
 refine .g1 G (ok0 (kg n a b t o)) (.mu 2 (.ca cf0 (.mu 2 (.done (.nh [0, 1, 2, 3, 8, 18] [.own [aB false, nS]] ?_)))))
 refine .cd hr ?_ ?_ <;> intro u hr
 ·refine .seq ?_
  obtain ⟨q, f, d, g, hr⟩ := bd2 hr
  refine .gn G (ca1 (ok0 (lG n a b q f)) (ca3 (ok0 (bU n negative q d g)))) (.mu 3 (.ca cf0 (.ca (cfF cf0) (.mu 1 (.done (.nh [8] [.own (ah.c d)] (.ret ?_)))))))
  obtain rfl := oi hr
  exact aK.r1 [.agg (ah.c d)]
 refine .skip (.pop (.seq ?_))
 obtain ⟨h, i, e, j, hr⟩ := bd2 hr
 refine .gn G (ca1 (ok0 (lG n b a h i)) (ca3 (ok0 (bU n other h e j)))) (.mu 3 (.ca cf0 (.ca (cfF cf0) (.mu 1 (.done (.nh [8] [.own (ah.c e)] (.ret ?_)))))))
 obtain rfl := oi hr
 exact aK.r1 [.agg (ah.c e)]

theorem vY (n : Nat) (a : ah) (y : ah) (r : ah) (hr : qK n a y = some r) : aO Tryz.prog 124 [.agg (ah.c a), .agg (ah.c y)] (.agg (ah.c r)) := by
 unfold qK at hr
 refine aO.bd G Tryz.func124 [.cell 4 40] ?_
 unfold Tryz.f124
 simp only [gS]
 refine .seq (.r2 G 14 [(2, .hp 0 0), (3, .hp 1 0), (4, .hp 2 0)] [.own (ah.c a), .own (ah.c y), .own [aB false, nS]] (.seq ?_))
 obtain ⟨g, b, i, d, e, f, hr⟩ := bd3 hr
 refine .tn G (ca1 (ok0 (b9 n a g b)) (ca1 (ok0 (b9 n y i d)) (ca3 (ok0 (vS n a.Negative g y.Negative i e f))))) (.mu 3 (.ca cf0 (.mu 3 (.ca (cfA (fun h => by rw [sv d b (gL n h)]) cf0) (.ca (cfF (cfF cf0)) (.mu 1 ?_))))))
 refine .done (kRa ?_)
 refine .nh [4] [.own (ah.c a), .own (ah.c y), .own (ah.c e)] (.ret ?_)
 obtain rfl := oi hr
 exact aK.r1 [.agg (ah.c e)]

theorem gB (n : Nat) (o : ak) (y : ak) (r : ak) (hr : gM n o y = some r) : aO Tryz.prog 80 [.agg (ak.c o), .agg (ak.c y)] (.agg (ak.c r)) := by
 unfold gM at hr
 refine aO.bd G Tryz.func80 [.cell 4 42] ?_
 unfold Tryz.f80
 simp only [gS]
 refine .seq (.r2 G 26 [(2, .hp 0 0), (3, .hp 1 0), (4, .hp 2 0)] [.own (ak.c o), .own (ak.c y), .own zN2] (.seq ?_))
 obtain ⟨f, i, g, j, hr⟩ := bd2 hr
 refine .tn G (ca1 (ok0 (cI n o f i)) (ca3 (ok0 (cI n y g j)))) (.mu 1 (.ca cf0 (.mu 1 (.ca (cfA (fun h => by rw [sv j i (jk n h)]) cf0) (.mu 2 ?_)))))
 refine .done (kRa ?_)
 refine .nh [2, 3, 4] [.own (ak.c f), .own (ak.c g), .own zN2] (.seq ?_)
 obtain ⟨p, b, q, d, s, k, hr⟩ := bd3 hr
 obtain ⟨l, a, e, m, hr⟩ := bd2 hr
 refine .tn G (ca1 (ok0 (eD n f.Num g.Den p b)) (ca1 (ok0 (eD n g.Num f.Den q d)) (ca1 (ok0 (vY n p q s k)) (ca1 (ok0 (eD n f.Den g.Den l a)) (ca3 (ok0 (gY n s l e m))))))) (.mu 4 (.ca cf0 (.mu 4 (.ca (cfA (fun h => by rw [sv d b (ib n h)]) cf0) (.ca (cfF (cfF cf0)) (.mu 4 (.ca (cfA (fun h => by rw [sv a b (ib n h)]) (cfA (fun h => by rw [sv a d (ib n h)]) (cfF cf0))) (.ca (cfF (cfF (cfF (cfF cf0)))) (.mu 1 ?_)))))))))
 refine .done (kRa ?_)
 refine .nh [4] [.own (ak.c f), .own (ak.c g), .own (ak.c e)] (.ret ?_)
 obtain rfl := oi hr
 exact aK.r1 [.agg (ak.c e)]

theorem oU {b : ak} {y : ak} {a : ak} {c : ak} (h : ([.agg [.at (.bool b.Num.Negative), slT iCu b.Num.Groups, .at (.bool b.Den.Negative), slT iCu b.Den.Groups], .agg [.at (.bool y.Num.Negative), slT iCu y.Num.Groups, .at (.bool y.Den.Negative), slT iCu y.Den.Groups]] : List AV) = [.agg [.at (.bool a.Num.Negative), slT iCu a.Num.Groups, .at (.bool a.Den.Negative), slT iCu a.Den.Groups], .agg [.at (.bool c.Num.Negative), slT iCu c.Num.Groups, .at (.bool c.Den.Negative), slT iCu c.Den.Groups]]) : b = a /\ y = c := by
 obtain ⟨⟨_, _⟩, ⟨_, _⟩⟩ := b
 obtain ⟨⟨_, _⟩, ⟨_, _⟩⟩ := a
 obtain ⟨⟨_, _⟩, ⟨_, _⟩⟩ := y
 obtain ⟨⟨_, _⟩, ⟨_, _⟩⟩ := c
 simp only [List.cons.injEq, AV.agg.injEq, AV.at.injEq, Value.int.injEq, Value.bool.injEq, AV.fn.injEq, AV.pp.injEq, true_and, and_true, dV] at h
 simp_all
theorem mr (n : Nat) {b : ak} {y : ak} {a : ak} {d : ak} (h : ([.agg (ak.c b), .agg (ak.c y)] : List AV) = [.agg (ak.c a), .agg (ak.c d)]) : dM n b y = dM n a d := by
 obtain ⟨rfl, rfl⟩ := oU h
 rfl
theorem eP (n : Nat) (a : ak) (y : ak) (r : ak) (hr : dM n a y = some r) : aO Tryz.prog 75 [.agg (ak.c a), .agg (ak.c y)] (.agg (ak.c r)) := by
 unfold dM at hr
 refine aO.bd G Tryz.func75 [.cell 4 42] ?_
 unfold Tryz.f75
 simp only [gS]
 refine .seq (.r2 G 9 [(2, .hp 0 0), (3, .hp 1 0), (4, .hp 2 0)] [.own (ak.c a), .own (ak.c y), .own zN2] (.seq ?_))
 obtain ⟨f, b, d, e, hr⟩ := bd2 hr
 refine .tn G (ca1 (ok0 (uG n y f b)) (ca3 (ok0 (gB n a f d e)))) (.mu 2 (.ca cf0 (.ca (cfF cf0) (.mu 1 ?_))))
 refine .done (kRa ?_)
 refine .nh [4] [.own (ak.c a), .own (ak.c y), .own (ak.c d)] (.ret ?_)
 obtain rfl := oi hr
 exact aK.r1 [.agg (ak.c d)]

theorem m8 (n : Nat) (p : ak) (b : ak) (a : ak) (tip : ak) (r : ak) (hr : j7 n p b a tip = some r) : aO Tryz.prog 74 [.agg (ak.c p), .agg (ak.c b), .agg (ak.c a), .agg (ak.c tip)] (.agg (ak.c r)) := by
 unfold j7 at hr
 refine aO.bd G Tryz.func74 [.cell 8 42] ?_
 unfold Tryz.f74
 simp only [gS]
 refine .seq (.r2 G 12 [(7, .hp 3 0), (8, .hp 4 0)] [.own (ak.c p), .own (ak.c b), .own (ak.c a), .own (ak.c tip), .own zN2] (.seq ?_))
 obtain ⟨g, d, e, f, hr⟩ := bd2 hr
 refine .tn G (ca1 (ok0 (cZ n 1 g d)) (ca3 (ok0 (eP n g tip e f)))) (.ca cf0 (.mu 1 (.ca (cfF cf0) (.mu 1 ?_))))
 refine .done (kRa ?_)
 refine .nh [8] [.own (ak.c p), .own (ak.c b), .own (ak.c a), .own (ak.c tip), .own (ak.c e)] (.ret ?_)
 obtain rfl := oi hr
 exact aK.r1 [.agg (ak.c e)]

theorem mg (n : Nat) {b : ak} {y : ak} {a : ak} {d : ak} (h : ([.agg (ak.c b), .agg (ak.c y)] : List AV) = [.agg (ak.c a), .agg (ak.c d)]) : dQ n b y = dQ n a d := by
 obtain ⟨rfl, rfl⟩ := oU h
 rfl
theorem eQ (n : Nat) (j : ak) (y : ak) (r : ak) (hr : dQ n j y = some r) : aO Tryz.prog 78 [.agg (ak.c j), .agg (ak.c y)] (.agg (ak.c r)) := by
 unfold dQ at hr
 refine aO.bd G Tryz.func78 [.cell 4 42] ?_
 unfold Tryz.f78
 simp only [gS]
 refine .seq (.r2 G 20 [(2, .hp 0 0), (3, .hp 1 0), (4, .hp 2 0)] [.own (ak.c j), .own (ak.c y), .own zN2] (.seq ?_))
 obtain ⟨a, b, d, e, hr⟩ := bd2 hr
 refine .tn G (ca1 (ok0 (cI n j a b)) (ca3 (ok0 (cI n y d e)))) (.mu 1 (.ca cf0 (.mu 1 (.ca (cfA (fun h => by rw [sv e b (jk n h)]) cf0) (.mu 2 ?_)))))
 refine .done (kRa ?_)
 refine .nh [2, 3, 4] [.own (ak.c a), .own (ak.c d), .own zN2] (.seq ?_)
 obtain ⟨l, f, m, g, k, i, hr⟩ := bd3 hr
 refine .tn G (ca1 (ok0 (eD n a.Num d.Num l f)) (ca1 (ok0 (eD n a.Den d.Den m g)) (ca3 (ok0 (gY n l m k i))))) (.mu 4 (.ca cf0 (.mu 4 (.ca (cfA (fun h => by rw [sv g f (ib n h)]) cf0) (.ca (cfF (cfF cf0)) (.mu 1 ?_))))))
 refine .done (kRa ?_)
 refine .nh [4] [.own (ak.c a), .own (ak.c d), .own (ak.c k)] (.ret ?_)
 obtain rfl := oi hr
 exact aK.r1 [.agg (ak.c k)]

theorem rG (n : Nat) (l : ak) (y : ak) (r : ak × Int) (hr : mm n l y = some r) : aO Tryz.prog 119 [.agg (ak.c l), .agg (ak.c y)] (.tup [.agg (ak.c r.1), ag r.2]) := by
 unfold mm at hr
 refine aO.bd G Tryz.func119 [.cell 4 42, .tmp 5] ?_
 unfold Tryz.f119
 simp only [gS]
 refine .seq (.r2 G 26 [(2, .hp 0 0), (3, .hp 1 0), (4, .hp 2 0)] [.own (ak.c l), .own (ak.c y), .own zN2] (.seq ?_))
 obtain ⟨e, f, b, g, hr⟩ := bd2 hr
 refine .tn G (ca1 (ok0 (cI n l e f)) (ca3 (ok0 (cI n y b g)))) (.mu 1 (.ca cf0 (.mu 1 (.ca (cfA (fun h => by rw [sv g f (jk n h)]) cf0) (.mu 2 ?_)))))
 refine .done (kRa ?_)
 refine .nh [2, 3, 4] [.own (ak.c e), .own (ak.c b), .own zN2] (.seq (.seq ?_))
 obtain ⟨p, m, hr⟩ := bd hr
 refine .g1 G (ok0 (fA n b.Num p m)) (.mu 2 (.ca cf0 (.mu 1 (.done (.nh [2, 3, 4, 13] [.own (ak.c e), .own (ak.c b), .own zN2] ?_)))))
 refine .cd hr ?_ ?_ <;> intro q hr
 ·refine .seq (.r4 G [4] [(5, ag 14)] (.ret ?_))
  obtain rfl := oi hr
  exact aK.ret (vs := [.agg zN2, ag 14]) kRf (Sn.tup (SnL.cons (Sn.agg (Sp (SnL.cons Sn.gh (Sp (SnL.cons Sn.gh SnL.nil))))) (Sp SnL.nil)))
 refine .skip (.seq ?_)
 obtain ⟨o, i, j, a, d, k, hr⟩ := bd3 hr
 refine .tn G (ca1 (ok0 (eD n e.Num b.Den o i)) (ca1 (ok0 (eD n e.Den b.Num j a)) (ca3 (ok0 (gY n o j d k))))) (.mu 4 (.ca cf0 (.mu 4 (.ca (cfA (fun h => by rw [sv a i (ib n h)]) cf0) (.ca (cfF (cfF cf0)) (.mu 2 ?_))))))
 refine .done (kRa ?_)
 refine .nh [4, 5] [.own (ak.c e), .own (ak.c b), .own (ak.c d)] (.ret ?_)
 obtain rfl := oi hr
 exact aK.ret (vs := [.agg (ak.c d), ag 0]) kRf (Sn.tup (Sp (Sp SnL.nil)))

theorem tP (n : Nat) (a : ak) (b : ak) (c : ak) (r : ak) (hr : n4 n a b c = some r) : aO Tryz.prog 73 [.agg (ak.c a), .agg (ak.c b), .agg (ak.c c)] (.agg (ak.c r)) := by
 unfold n4 at hr
 refine aO.bd G Tryz.func73 [.cell 6 42] ?_
 unfold Tryz.f73
 simp only [gS]
 refine .seq (.r2 G 24 [(3, .hp 0 0), (4, .hp 1 0), (5, .hp 2 0), (6, .hp 3 0)] [.own (ak.c a), .own (ak.c b), .own (ak.c c), .own zN2] (.seq ?_))
 obtain ⟨k, d, l, e, m, f, hr⟩ := bd3 hr
 obtain ⟨o, g, i, j, hr⟩ := bd2 hr
 refine .tn G (ca1 (ok0 (eQ n a a k d)) (ca1 (ok0 (eP n a b l e)) (ca1 (ok0 (eP n a c m f)) (ca1 (ok0 (eQ n l m o g)) (ca3 (ok0 (rG n k o i j))))))) (.mu 2 (.ca cf0 (.mu 2 (.ca (cfF cf0) (.mu 2 (.ca (cfF (cfA (fun h => by rw [sv f e (mr n h)]) cf0)) (.ca (cfA (fun h => by rw [sv g d (mg n h)]) (cfF (cfF cf0))) (.ca (cfF (cfF (cfF (cfF cf0)))) (.mu 6 ?_)))))))))
 refine .done (kRa ?_)
 refine .nh [6, 7] [.own (ak.c a), .own (ak.c b), .own (ak.c c), .own zN2, .own (ak.c i.1)] (.seq (.r5 G [6] [] [.own (ak.c a), .own (ak.c b), .own (ak.c c), .own (ak.c i.1), .own (ak.c i.1)] (.ret ?_)))
 obtain rfl := oi hr
 exact aK.r1 [.agg (ak.c i.1)]

theorem qD (n : Nat) (t : A3 Int) (p : Int) (p' : Int) (u : Int) (j : Int) (i : Int) (f : List Int) (g : Int) (e : Bool) (d : List Int) (b : Bool) (a : List Int) (r : Bool × List Int × Bool × List Int) (hr : ky n t p p' u j i f g e d b a = some r) : dK 5 Tryz.prog 117 [.agg (ar.c t), .hp 0 0, .hp 1 0, .hp 2 0, .hp 3 0, .hp 4 0] [.own [ag p, ag p', ag u, ag j, ag i, bE f], .own [ag g], .own [aB e, az d, aB b, az a], .own [.fn 74 [] []], .own [.fn 73 [] []]] (.tup []) [.own [ag p, ag p', ag u, ag j, ag i, bE f], .own [ag g], .own [aB r.1, az r.2.1, aB r.2.2.1, az r.2.2.2], .own [.fn 74 [] []], .own [.fn 73 [] []]] := by
 unfold ky at hr
 refine dK.qf G Tryz.func117 (c := (Tryz.f117.body).getD .skip) rfl (us := []) (s := mkS 104 0 [(0, .agg (ar.c t)), (1, .hp 0 0), (2, .hp 1 0), (3, .hp 2 0), (4, .hp 3 0), (5, .hp 4 0)]) kRf (rs := []) rfl ?_
 unfold Tryz.f117
 simp only [gS]
 refine .seq (.r5 G [1, 2, 3, 4, 5] [(6, .hp 5 0)] [.own [ag p, ag p', ag u, ag j, ag i, bE f], .own [ag g], .own [aB e, az d, aB b, az a], .own [.fn 74 [] []], .own [.fn 73 [] []], .own (ar.c t)] (.seq (.r5 G [1, 2, 3, 4, 5, 6] [(7, .hp 6 0)] [.own [ag p, ag p', ag u, ag j, ag i, bE f], .own [ag g], .own [aB e, az d, aB b, az a], .own [.fn 74 [] []], .own [.fn 73 [] []], .own (ar.c t), .own [aB false, nS, aB false, nS, aB false, nS, aB false, nS, aB false, nS, aB false, nS]] (.seq (.r4 G [1, 2, 3, 4, 5, 6, 7] [(8, ag 0)] (.seq (.seq (.r4 G [1, 2, 3, 4, 5, 7, 8] [(12, .agg (ar.c t)), (13, ag 0)] (.block ?_)))))))))
 refine .DK 4 (UNR.one ?_)
 refine .seq (.r4 G [1, 2, 3, 4, 5, 7, 8, 12, 13] [(14, aB true)] (.seq (.cT kRf (.skip (.seq ?_)))))
 replace hr := bd hr; obtain ⟨yB, mA, hr⟩ := hr
 refine .yV (Q := fun x st' => match (generalizing := false) yB with | (k, l, o, q, mw) => x = .normal /\ Wk 5 st' ⟨mkS 104 0 [(1, .hp 0 0), (2, .hp 1 0), (3, .hp 2 0), (4, .hp 3 0), (5, .hp 4 0), (7, .hp 5 0), (8, ag mw), (12, .agg (ar.c t)), (13, ag 0)], [.own [ag p, ag p', ag u, ag j, ag i, bE f], .own [ag g], .own [aB e, az d, aB b, az a], .own [.fn 74 [] []], .own [.fn 73 [] []], .own [aB k, az l, aB o, az q, aB false, nS, aB false, nS, aB false, nS, aB false, nS]]⟩) ?_ ?_
 ·clear hr
  have hr := mA
  clear mA
  refine .block (.seq (.r4 G [1, 2, 3, 4, 5, 7, 8, 12, 13] [(9, ag 0), (10, ag t.e0)] (.seq ?_)))
  obtain ⟨yo, hr⟩ := gd hr
  obtain ⟨S, DG, hr⟩ := bd hr
  refine .t1 G (ok0 (jE n (FK ((FK (2 * (gt f t.e0))) - g)) 2 S DG)) (.mu 4 (.pk (v := .pp (f.flatMap (iC .i64)) (t.e0.toNat * 1)) (tr (au yo)) (.pk (v := ag (gt f t.e0)) (tr (aE (aF (aG .i64) (aC yo) z1 (by omega : t.e0.toNat * 1 = t.e0.toNat * 1 + 0) kRf))) (.mu 3 (.ca cf0 (.mu 5 ?_))))))
  refine .done (kRa ?_)
  refine .nh [1, 2, 3, 4, 5, 7, 8, 9, 12, 13] [.own [ag p, ag p', ag u, ag j, ag i, bE f], .own [ag g], .own [aB e, az d, aB b, az a], .own [.fn 74 [] []], .own [.fn 73 [] []], .own (ar.c t), .own [aB S.1.Num.Negative, az S.1.Num.Groups, aB S.1.Den.Negative, az S.1.Den.Groups, aB false, nS, aB false, nS, aB false, nS, aB false, nS]] (.seq ?_)
  obtain ⟨EU, DI, hr⟩ := bd hr
  refine .g1 G (ok0 (b8 n S.1 EU DI)) (.mu 3 (.ca cf0 (.mu 1 (.done (.nh [1, 2, 3, 4, 5, 7, 8, 12, 13, 35] [.own [ag p, ag p', ag u, ag j, ag i, bE f], .own [ag g], .own [aB e, az d, aB b, az a], .own [.fn 74 [] []], .own [.fn 73 [] []], .own (ar.c t), .own [aB S.1.Num.Negative, az S.1.Num.Groups, aB S.1.Den.Negative, az S.1.Den.Groups, aB false, nS, aB false, nS, aB false, nS, aB false, nS]] ?_)))))
  refine .cd hr ?_ ?_ <;> intro FD hr
  ·refine .ru G (.pop ?_)
   obtain rfl := oi hr
   exact ⟨rfl, ((Wk.gc [1, 2, 3, 4, 5, 7, 8, 12, 13] [(0, true), (1, true), (2, true), (3, true), (4, true), (6, true)] rfl trivial).to)⟩
  refine .skip (.pop ?_)
  obtain rfl := oi hr
  exact ⟨rfl, ((Wk.gc [1, 2, 3, 4, 5, 7, 8, 12, 13] [(0, true), (1, true), (2, true), (3, true), (4, true), (6, true)] rfl trivial).to)⟩
 rcases yB with ⟨k, l, o, q, mw⟩
 rintro x st' nH
 clear mA
 obtain ⟨rfl, nH⟩ := nH
 refine .wk nH (.ru G (UNR.next (.n2 104 [(1, .hp 0 0), (2, .hp 1 0), (3, .hp 2 0), (4, .hp 3 0), (5, .hp 4 0), (7, .hp 5 0), (8, ag mw), (12, .agg (ar.c t)), (13, ag 1)] [.own [ag p, ag p', ag u, ag j, ag i, bE f], .own [ag g], .own [aB e, az d, aB b, az a], .own [.fn 74 [] []], .own [.fn 73 [] []], .own [aB k, az l, aB o, az q, aB false, nS, aB false, nS, aB false, nS, aB false, nS]] (.seq (.r4 G [1, 2, 3, 4, 5, 7, 8, 12, 13] [(14, aB true)] (.seq (.cT kRf (.skip (.seq ?_)))))))))
 replace hr := bd hr; obtain ⟨Cw, oD, hr⟩ := hr
 refine .yV (Q := fun x st' => match (generalizing := false) Cw with | (y, z, A, B, pK) => x = .normal /\ Wk 5 st' ⟨mkS 104 0 [(1, .hp 0 0), (2, .hp 1 0), (3, .hp 2 0), (4, .hp 3 0), (5, .hp 4 0), (7, .hp 5 0), (8, ag pK), (12, .agg (ar.c t)), (13, ag 1)], [.own [ag p, ag p', ag u, ag j, ag i, bE f], .own [ag g], .own [aB e, az d, aB b, az a], .own [.fn 74 [] []], .own [.fn 73 [] []], .own [aB k, az l, aB o, az q, aB y, az z, aB A, az B, aB false, nS, aB false, nS]]⟩) ?_ ?_
 ·clear hr
  have hr := oD
  clear oD
  refine .block (.seq (.r4 G [1, 2, 3, 4, 5, 7, 8, 12, 13] [(9, ag 1), (10, ag t.e1)] (.seq ?_)))
  obtain ⟨yJ, hr⟩ := gd hr
  obtain ⟨T, Dz, hr⟩ := bd hr
  refine .t1 G (ok0 (jE n (FK ((FK (2 * (gt f t.e1))) - g)) 2 T Dz)) (.mu 4 (.pk (v := .pp (f.flatMap (iC .i64)) (t.e1.toNat * 1)) (tr (au yJ)) (.pk (v := ag (gt f t.e1)) (tr (aE (aF (aG .i64) (aC yJ) z1 (by omega : t.e1.toNat * 1 = t.e1.toNat * 1 + 0) kRf))) (.mu 3 (.ca cf0 (.mu 5 ?_))))))
  refine .done (kRa ?_)
  refine .nh [1, 2, 3, 4, 5, 7, 8, 9, 12, 13] [.own [ag p, ag p', ag u, ag j, ag i, bE f], .own [ag g], .own [aB e, az d, aB b, az a], .own [.fn 74 [] []], .own [.fn 73 [] []], .own [aB k, az l, aB o, az q, aB T.1.Num.Negative, az T.1.Num.Groups, aB T.1.Den.Negative, az T.1.Den.Groups, aB false, nS, aB false, nS]] (.seq ?_)
  obtain ⟨EX, EB, hr⟩ := bd hr
  refine .g1 G (ok0 (b8 n T.1 EX EB)) (.mu 3 (.ca cf0 (.mu 1 (.done (.nh [1, 2, 3, 4, 5, 7, 8, 12, 13, 35] [.own [ag p, ag p', ag u, ag j, ag i, bE f], .own [ag g], .own [aB e, az d, aB b, az a], .own [.fn 74 [] []], .own [.fn 73 [] []], .own [aB k, az l, aB o, az q, aB T.1.Num.Negative, az T.1.Num.Groups, aB T.1.Den.Negative, az T.1.Den.Groups, aB false, nS, aB false, nS]] ?_)))))
  refine .cd hr ?_ ?_ <;> intro FC hr
  ·refine .ru G (.pop ?_)
   obtain rfl := oi hr
   exact ⟨rfl, ((Wk.gc [1, 2, 3, 4, 5, 7, 8, 12, 13] kT6 rfl trivial).to)⟩
  refine .skip (.pop ?_)
  obtain rfl := oi hr
  exact ⟨rfl, ((Wk.gc [1, 2, 3, 4, 5, 7, 8, 12, 13] kT6 rfl trivial).to)⟩
 rcases Cw with ⟨y, z, A, B, pK⟩
 rintro x st' qd
 clear oD
 obtain ⟨rfl, qd⟩ := qd
 refine .wk qd (.ru G (UNR.next (.n2 104 [(1, .hp 0 0), (2, .hp 1 0), (3, .hp 2 0), (4, .hp 3 0), (5, .hp 4 0), (7, .hp 5 0), (8, ag pK), (12, .agg (ar.c t)), (13, ag 2)] [.own [ag p, ag p', ag u, ag j, ag i, bE f], .own [ag g], .own [aB e, az d, aB b, az a], .own [.fn 74 [] []], .own [.fn 73 [] []], .own [aB k, az l, aB o, az q, aB y, az z, aB A, az B, aB false, nS, aB false, nS]] (.seq (.r4 G [1, 2, 3, 4, 5, 7, 8, 12, 13] [(14, aB true)] (.seq (.cT kRf (.skip (.seq ?_)))))))))
 replace hr := bd hr; obtain ⟨CC, so, hr⟩ := hr
 refine .yV (Q := fun x st' => match (generalizing := false) CC with | (mF, nw, jS, ki, w) => x = .normal /\ Wk 5 st' ⟨mkS 104 0 [(1, .hp 0 0), (2, .hp 1 0), (3, .hp 2 0), (4, .hp 3 0), (5, .hp 4 0), (7, .hp 5 0), (8, ag w), (12, .agg (ar.c t)), (13, ag 2)], [.own [ag p, ag p', ag u, ag j, ag i, bE f], .own [ag g], .own [aB e, az d, aB b, az a], .own [.fn 74 [] []], .own [.fn 73 [] []], .own [aB k, az l, aB o, az q, aB y, az z, aB A, az B, aB mF, az nw, aB jS, az ki]]⟩) ?_ ?_
 ·clear hr
  have hr := so
  clear so
  refine .block (.seq (.r4 G [1, 2, 3, 4, 5, 7, 8, 12, 13] [(9, ag 2), (10, ag t.e2)] (.seq ?_)))
  obtain ⟨yb, hr⟩ := gd hr
  obtain ⟨U, EG, hr⟩ := bd hr
  refine .t1 G (ok0 (jE n (FK ((FK (2 * (gt f t.e2))) - g)) 2 U EG)) (.mu 4 (.pk (v := .pp (f.flatMap (iC .i64)) (t.e2.toNat * 1)) (tr (au yb)) (.pk (v := ag (gt f t.e2)) (tr (aE (aF (aG .i64) (aC yb) z1 (by omega : t.e2.toNat * 1 = t.e2.toNat * 1 + 0) kRf))) (.mu 3 (.ca cf0 (.mu 5 ?_))))))
  refine .done (kRa ?_)
  refine .nh [1, 2, 3, 4, 5, 7, 8, 9, 12, 13] [.own [ag p, ag p', ag u, ag j, ag i, bE f], .own [ag g], .own [aB e, az d, aB b, az a], .own [.fn 74 [] []], .own [.fn 73 [] []], .own [aB k, az l, aB o, az q, aB y, az z, aB A, az B, aB U.1.Num.Negative, az U.1.Num.Groups, aB U.1.Den.Negative, az U.1.Den.Groups]] (.seq ?_)
  obtain ⟨E0, EJ, hr⟩ := bd hr
  refine .g1 G (ok0 (b8 n U.1 E0 EJ)) (.mu 3 (.ca cf0 (.mu 1 (.done (.nh [1, 2, 3, 4, 5, 7, 8, 12, 13, 35] [.own [ag p, ag p', ag u, ag j, ag i, bE f], .own [ag g], .own [aB e, az d, aB b, az a], .own [.fn 74 [] []], .own [.fn 73 [] []], .own [aB k, az l, aB o, az q, aB y, az z, aB A, az B, aB U.1.Num.Negative, az U.1.Num.Groups, aB U.1.Den.Negative, az U.1.Den.Groups]] ?_)))))
  refine .cd hr ?_ ?_ <;> intro FA hr
  ·refine .ru G (.pop ?_)
   obtain rfl := oi hr
   exact ⟨rfl, ((Wk.gc [1, 2, 3, 4, 5, 7, 8, 12, 13] kT6 rfl trivial).to)⟩
  refine .skip (.pop ?_)
  obtain rfl := oi hr
  exact ⟨rfl, ((Wk.gc [1, 2, 3, 4, 5, 7, 8, 12, 13] kT6 rfl trivial).to)⟩
 rcases CC with ⟨mF, nw, jS, ki, w⟩
 rintro x st' rz
 clear so
 obtain ⟨rfl, rz⟩ := rz
 refine .wk rz (.ru G (UNR.next (.n2 104 [(1, .hp 0 0), (2, .hp 1 0), (3, .hp 2 0), (4, .hp 3 0), (5, .hp 4 0), (7, .hp 5 0), (8, ag w), (12, .agg (ar.c t)), (13, ag 3)] [.own [ag p, ag p', ag u, ag j, ag i, bE f], .own [ag g], .own [aB e, az d, aB b, az a], .own [.fn 74 [] []], .own [.fn 73 [] []], .own [aB k, az l, aB o, az q, aB y, az z, aB A, az B, aB mF, az nw, aB jS, az ki]] (.seq (.r4 G [1, 2, 3, 4, 5, 7, 8, 12, 13] [(14, aB false)] (.seq (.cF kRf (.leave rfl (unF.exit rfl (.seq (.seq (.r4 G [3, 4, 5, 7, 8] [(39, ag w)] (.block (.seq (.r4 G [3, 4, 5, 7, 8, 39] [(40, aB ((w : Int) == 0))] ?_)))))))))))))))
 refine .cd hr ?_ ?_ <;> intro FF hr
 ·refine .ret ?_
  obtain rfl := oi hr
  exact gR.ret [] ((Wk.gc [] kT5 rfl trivial).to)
 refine .seq (.r4 G [3, 4, 5, 7, 8] [(42, aB ((w : Int) == 3))] ?_)
 refine .cd hr ?_ ?_ <;> intro FG hr
 ·refine .seq ?_
  obtain ⟨CH, E1, CB, E3, Cq, EA, hr⟩ := bd3 hr
  refine .tn G (ca1 (ok0 (cZ n 0 CH E1)) (ca1 (ok0 (m8 n (ak.mk (ah.mk k l) (ah.mk o q)) (ak.mk (ah.mk y z) (ah.mk A B)) (ak.mk (ah.mk mF nw) (ah.mk jS ki)) CH CB E3)) (ca3 (ok0 (gB n (ak.mk (ah.mk e d) (ah.mk b a)) CB Cq EA))))) (.mu 8 (.ca cf0 (.ca (cfF cf0) (.ca (cfF (cfF cf0)) (.mu 1 ?_)))))
  refine .done (kRa ?_)
  refine .nh [] [.own [ag p, ag p', ag u, ag j, ag i, bE f], .own [ag g], .own (ak.c Cq), .own [.fn 74 [] []], .own [.fn 73 [] []], .own [aB k, az l, aB o, az q, aB y, az z, aB A, az B, aB mF, az nw, aB jS, az ki]] (.ret ?_)
  obtain rfl := oi hr
  exact gR.ret [] ((Wk.gc [] kT5 rfl trivial).to)
 refine .skip (.pop (.seq (.block ?_)))
 replace hr := bd hr; obtain ⟨B7, yv, hr⟩ := hr
 refine .aN (σ := fun z0 => match z0 with | (C, D, E, F, H, I, J, L, M, N, O, R) => ⟨mkS 104 0 [(3, .hp 2 0), (4, .hp 3 0), (5, .hp 4 0), (7, .hp 5 0), (8, ag w)], [.own [ag p, ag p', ag u, ag j, ag i, bE f], .own [ag g], .own [aB e, az d, aB b, az a], .own [.fn 74 [] []], .own [.fn 73 [] []], .own [aB C, az D, aB E, az F, aB H, az I, aB J, az L, aB M, az N, aB O, az R]]⟩) (Q := fun x st' => match (generalizing := false) B7 with | (W, X, Y, Z, jB, jQ, j8, kB, j9, kO, lH, mN) => x = .exit 3 /\ Wk 5 st' ⟨mkS 104 0 [(3, .hp 2 0), (4, .hp 3 0), (5, .hp 4 0), (7, .hp 5 0), (8, ag w)], [.own [ag p, ag p', ag u, ag j, ag i, bE f], .own [ag g], .own [aB e, az d, aB b, az a], .own [.fn 74 [] []], .own [.fn 73 [] []], .own [aB W, az X, aB Y, az Z, aB jB, az jQ, aB j8, az kB, aB j9, az kO, aB lH, az mN]]⟩) yv ((Wk.gc [3, 4, 5, 7, 8] kT6 rfl trivial).to) ?_ ?_
 ·clear hr
  rintro m ⟨C, D, E, F, H, I, J, L, M, N, O, R⟩ hr
  refine CQ.sh ?_
  refine .seq (.seq ?_)
  replace hr := bd hr; obtain ⟨BZ, kX, hr⟩ := hr
  refine .E9 (Q := fun x st' => match (generalizing := false) BZ with | .inl _ => x = .exit 3 /\ Wk 5 st' ⟨mkS 104 0 [(3, .hp 2 0), (4, .hp 3 0), (5, .hp 4 0), (7, .hp 5 0), (8, ag w)], [.own [ag p, ag p', ag u, ag j, ag i, bE f], .own [ag g], .own [aB e, az d, aB b, az a], .own [.fn 74 [] []], .own [.fn 73 [] []], .own [aB C, az D, aB E, az F, aB H, az I, aB J, az L, aB M, az N, aB O, az R]]⟩ | .inr (_) => x = .normal /\ Wk 5 st' ⟨mkS 104 0 [(3, .hp 2 0), (4, .hp 3 0), (5, .hp 4 0), (7, .hp 5 0), (8, ag w)], [.own [ag p, ag p', ag u, ag j, ag i, bE f], .own [ag g], .own [aB e, az d, aB b, az a], .own [.fn 74 [] []], .own [.fn 73 [] []], .own [aB C, az D, aB E, az F, aB H, az I, aB J, az L, aB M, az N, aB O, az R]]⟩) ?_ ?_
  ·clear hr
   have hr := kX
   clear kX
   obtain ⟨wN, kV, hr⟩ := bd hr
   rcases bT ((decide (wN > 0)) != ((w : Int) == 1)) with kp | kp
   ·replace hr := cg kp hr
    refine .t1 G (ok0 (b8 n (ak.mk (ah.mk C D) (ah.mk E F)) wN kV)) (.mu 2 (.ca cf0 (.mu 3 (.pk (v := aB true) (eB kp) (.mu 11 ?_)))))
    refine .done (kRa ?_)
    refine .nh [3, 4, 5, 7, 8, 72] [.own [ag p, ag p', ag u, ag j, ag i, bE f], .own [ag g], .own [aB e, az d, aB b, az a], .own [.fn 74 [] []], .own [.fn 73 [] []], .own [aB C, az D, aB E, az F, aB H, az I, aB J, az L, aB M, az N, aB O, az R]] (.cT kRf (.skip ?_))
    obtain rfl := oi hr
    exact ⟨rfl, ((Wk.gc [3, 4, 5, 7, 8] kT6 rfl trivial).to)⟩
   replace hr := ch kp hr
   obtain ⟨ES, rC, EP, uq, hr⟩ := bd2 hr
   refine .tn G (ca1 (ok0 (b8 n (ak.mk (ah.mk C D) (ah.mk E F)) wN kV)) (ca1 (ok0 (b8 n (ak.mk (ah.mk H I) (ah.mk J L)) ES rC)) (ca3 (ok0 (b8 n (ak.mk (ah.mk M N) (ah.mk O R)) EP uq))))) (.mu 2 (.ca cf0 (.mu 3 (.pk (v := aB false) (eB kp) (.mu 3 (.ca (cfA (fun h => by rw [sv rC kV (jL n h)]) cf0) (.mu 3 (.ca (cfA (fun h => by rw [sv uq kV (jL n h)]) (cfA (fun h => by rw [sv uq rC (jL n h)]) cf0)) (.mu 3 ?_)))))))))
   refine .done (kRa ?_)
   refine .nh [3, 4, 5, 7, 8, 72] [.own [ag p, ag p', ag u, ag j, ag i, bE f], .own [ag g], .own [aB e, az d, aB b, az a], .own [.fn 74 [] []], .own [.fn 73 [] []], .own [aB C, az D, aB E, az F, aB H, az I, aB J, az L, aB M, az N, aB O, az R]] ?_
   refine .cd hr ?_ ?_ <;> intro FI hr
   ·refine .skip ?_
    obtain rfl := oi hr
    exact ⟨rfl, ((Wk.gc [3, 4, 5, 7, 8] kT6 rfl trivial).to)⟩
   refine .leave rfl ?_
   obtain rfl := oi hr
   exact ⟨rfl, ((Wk.gc [3, 4, 5, 7, 8] kT6 rfl trivial).to)⟩
  rcases BZ with ⟨⟩ | ⟨⟩
  ·rintro x st' V
   clear kX
   obtain ⟨rfl, V⟩ := V
   refine vW _ rfl ?_
   obtain rfl := oi hr
   exact ⟨rfl, (V.trans ((Wk.gc [3, 4, 5, 7, 8] kT6 rfl trivial).to))⟩
  rintro x st' V
  clear kX
  obtain ⟨rfl, V⟩ := V
  refine .wk V (.block (.ru G (.pop ?_)))
  exact av (H, I, J, L, M, N, O, R, C, D, E, F) hr ((Wk.gc [3, 4, 5, 7, 8] kT6 rfl trivial).to)
 rcases B7 with ⟨W, X, Y, Z, jB, jQ, j8, kB, j9, kO, lH, mN⟩
 rintro x st' uh
 clear yv
 obtain ⟨rfl, uh⟩ := uh
 refine aW _ rfl (.wk uh (.seq ?_))
 obtain ⟨we, E7, hr⟩ := bd hr
 refine .g1 G (ok0 (tP n (ak.mk (ah.mk W X) (ah.mk Y Z)) (ak.mk (ah.mk jB jQ) (ah.mk j8 kB)) (ak.mk (ah.mk j9 kO) (ah.mk lH mN)) we E7)) (.mu 7 (.ca cf0 (.mu 2 (.done (.nh [3, 4, 7, 8, 11] [.own [ag p, ag p', ag u, ag j, ag i, bE f], .own [ag g], .own [aB e, az d, aB b, az a], .own [.fn 74 [] []], .own [.fn 73 [] []], .own [aB W, az X, aB Y, az Z, aB jB, az jQ, aB j8, az kB, aB j9, az kO, aB lH, az mN], .own (ak.c we)] (.seq (.seq (.r4 G [3, 4, 7, 11] [(91, aB ((w : Int) == 2))] ?_))))))))
 refine .cd hr ?_ ?_ <;> intro Fy hr
 ·obtain ⟨wJ, E2, hr⟩ := bd hr
  refine .g1 G (ok0 (m8 n (ak.mk (ah.mk W X) (ah.mk Y Z)) (ak.mk (ah.mk jB jQ) (ah.mk j8 kB)) (ak.mk (ah.mk j9 kO) (ah.mk lH mN)) we wJ E2)) (.mu 8 (.ca cf0 (.mu 1 (.done (.nh [3, 11] [.own [ag p, ag p', ag u, ag j, ag i, bE f], .own [ag g], .own [aB e, az d, aB b, az a], .own [.fn 74 [] []], .own [.fn 73 [] []], .own [aB W, az X, aB Y, az Z, aB jB, az jQ, aB j8, az kB, aB j9, az kO, aB lH, az mN], .own (ak.c wJ)] ?_)))))
  obtain ⟨Ex, EN, hr⟩ := bd hr
  refine .g1 G (ok0 (gB n (ak.mk (ah.mk e d) (ah.mk b a)) wJ Ex EN)) (.mu 2 (.ca cf0 (.mu 1 (.done ?_))))
  obtain rfl := oi hr
  exact gR.normal [] ((Wk.gc [] kT5 rfl trivial).to)
 refine .skip ?_
 obtain ⟨EO, ED, hr⟩ := bd hr
 refine .g1 G (ok0 (gB n (ak.mk (ah.mk e d) (ah.mk b a)) we EO ED)) (.mu 2 (.ca cf0 (.mu 1 (.done ?_))))
 obtain rfl := oi hr
 exact gR.normal [] ((Wk.gc [] kT5 rfl trivial).to)

theorem iP (n : Nat) (g : al) (c : Int) (L : Int) (t : Int) (i : Int) (f : Int) (e : List Int) (d : Int) (z : Bool) (w : List Int) (u : Bool) (q : List Int) (r : Bool × List Int × Bool × List Int) (hr : dc n g c L t i f e d z w u q = some r) : dK 5 Tryz.prog 89 [.agg (al.c g), .fn 117 [] [.hp 0 0, .hp 1 0, .hp 2 0, .hp 3 0, .hp 4 0]] [.own [ag c, ag L, ag t, ag i, ag f, bE e], .own [ag d], .own [aB z, az w, aB u, az q], .own [.fn 74 [] []], .own [.fn 73 [] []]] (.tup []) [.own [ag c, ag L, ag t, ag i, ag f, bE e], .own [ag d], .own [aB r.1, az r.2.1, aB r.2.2.1, az r.2.2.2], .own [.fn 74 [] []], .own [.fn 73 [] []]] := by
 unfold dc at hr
 refine dK.qf G Tryz.func89 (c := (Tryz.f89.body).getD .skip) rfl (us := []) (s := mkS 82 0 [(0, .agg (al.c g)), (1, .fn 117 [] [.hp 0 0, .hp 1 0, .hp 2 0, .hp 3 0, .hp 4 0])]) kRf (rs := []) rfl ?_
 unfold Tryz.f89
 simp only [gS]
 refine .seq (.r5 G [1] [(2, .hp 5 0)] [.own [ag c, ag L, ag t, ag i, ag f, bE e], .own [ag d], .own [aB z, az w, aB u, az q], .own [.fn 74 [] []], .own [.fn 73 [] []], .own (al.c g)] (.seq (.r4 G [1, 2] [(4, ag g.Width)] (.seq (.r4 G [1, 2, 4] [(14, ag (FK (g.Height - 1))), (15, ag 0)] (.block ?_))))))
 replace hr := bd hr; obtain ⟨kV, jQ, hr⟩ := hr
 refine .aN (σ := fun z0 => match z0 with | (j8, kB, j9, kO, h) => ⟨mkS 82 0 [(1, .fn 117 [] [.hp 0 0, .hp 1 0, .hp 2 0, .hp 3 0, .hp 4 0]), (2, .hp 5 0), (4, ag g.Width), (14, ag (FK (g.Height - 1))), (15, ag h)], [.own [ag c, ag L, ag t, ag i, ag f, bE e], .own [ag d], .own [aB j8, az kB, aB j9, az kO], .own [.fn 74 [] []], .own [.fn 73 [] []], .own (al.c g)]⟩) (Q := fun x st' => match (generalizing := false) kV with | (lH, mN, mF, nw) => x = .exit 0 /\ Wk 5 st' ⟨mkS 82 0 [], [.own [ag c, ag L, ag t, ag i, ag f, bE e], .own [ag d], .own [aB lH, az mN, aB mF, az nw], .own [.fn 74 [] []], .own [.fn 73 [] []]]⟩) jQ ((Wk.gc [1, 2, 4, 14, 15] kT6 rfl trivial).to) ?_ ?_
 ·clear hr
  rintro m ⟨j8, kB, j9, kO, h⟩ hr
  refine CQ.sh ?_
  refine .seq (.r4 G [1, 2, 4, 14, 15] [(16, aB (decide (h < (FK (g.Height - 1)))))] (.seq ?_))
  refine .cd hr ?_ ?_ <;> intro qd hr
  ·refine .skip (.seq (.block (.seq (.r4 G [1, 2, 4, 14, 15] [(5, ag h)] (.seq (.r4 G [1, 2, 4, 5, 14, 15] [(19, ag (FK (g.Width - 1))), (20, ag 0)] (.block ?_)))))))
   replace hr := bd hr; obtain ⟨mA, jS, hr⟩ := hr
   refine .aN (σ := fun z0 => match z0 with | (C, D, E, F, j) => ⟨mkS 82 0 [(1, .fn 117 [] [.hp 0 0, .hp 1 0, .hp 2 0, .hp 3 0, .hp 4 0]), (2, .hp 5 0), (4, ag g.Width), (5, ag h), (14, ag (FK (g.Height - 1))), (15, ag h), (19, ag (FK (g.Width - 1))), (20, ag j)], [.own [ag c, ag L, ag t, ag i, ag f, bE e], .own [ag d], .own [aB C, az D, aB E, az F], .own [.fn 74 [] []], .own [.fn 73 [] []], .own (al.c g)]⟩) (Q := fun x st' => match (generalizing := false) mA with | (N, O, R, S) => x = .exit 2 /\ Wk 5 st' ⟨mkS 82 0 [(1, .fn 117 [] [.hp 0 0, .hp 1 0, .hp 2 0, .hp 3 0, .hp 4 0]), (2, .hp 5 0), (4, ag g.Width), (14, ag (FK (g.Height - 1))), (15, ag h)], [.own [ag c, ag L, ag t, ag i, ag f, bE e], .own [ag d], .own [aB N, az O, aB R, az S], .own [.fn 74 [] []], .own [.fn 73 [] []], .own (al.c g)]⟩) jS ((Wk.gc [1, 2, 4, 5, 14, 15, 19, 20] kT6 rfl trivial).to) ?_ ?_
   ·clear hr
    rintro m ⟨C, D, E, F, j⟩ hr
    refine CQ.sh ?_
    refine .seq (.r4 G [1, 2, 4, 5, 14, 15, 19, 20] [(21, aB (decide (j < (FK (g.Width - 1)))))] (.seq ?_))
    refine .cd hr ?_ ?_ <;> intro so hr
    ·refine .skip (.seq (.block (.seq (.r4 G [1, 2, 4, 5, 14, 15, 19, 20] [(6, ag j)] (.seq (.r4 G [1, 2, 4, 5, 14, 15, 19, 20] [(7, ag (FK ((FK (h * g.Width)) + j)))] ?_))))))
     obtain ⟨H, nH, hr⟩ := bd hr
     refine .wk ((Wk.refl _).to (c := ⟨mkS 82 0 [(1, .fn 117 [] [.hp 0 0, .hp 1 0, .hp 2 0, .hp 3 0, .hp 4 0]), (2, .hp 5 0), (4, ag g.Width), (5, ag h), (7, ag H), (14, ag (FK (g.Height - 1))), (15, ag h), (19, ag (FK (g.Width - 1))), (20, ag j)], [.own [ag c, ag L, ag t, ag i, ag f, bE e], .own [ag d], .own [aB C, az D, aB E, az F], .own [.fn 74 [] []], .own [.fn 73 [] []], .own (al.c g)]⟩) (by rw [oi nH]; first | done | kernel_rfl)) <| .seq <| .r5 G [1, 2, 4, 5, 14, 15, 19, 20] [(45, .hs 6 0 2 3), (46, ag 2), (47, ag 0)] [.own [ag c, ag L, ag t, ag i, ag f, bE e], .own [ag d], .own [aB C, az D, aB E, az F], .own [.fn 74 [] []], .own [.fn 73 [] []], .own (al.c g), .own [ag H, ag (FK (H + 1)), ag (FK ((FK (H + g.Width)) + 1)), ag H, ag (FK ((FK (H + g.Width)) + 1)), ag (FK (H + g.Width))]] <| .block ?_
     obtain ⟨b, oD, hr⟩ := bd hr
     refine .wk ((Wk.refl _).to (c := ⟨mkS 82 0 [(1, .fn 117 [] [.hp 0 0, .hp 1 0, .hp 2 0, .hp 3 0, .hp 4 0]), (2, .hp 5 0), (4, ag g.Width), (5, ag h), (14, ag (FK (g.Height - 1))), (15, ag h), (19, ag (FK (g.Width - 1))), (20, ag j), (45, .hs 6 0 b.length 3), (46, ag 2), (47, ag 0)], [.own [ag c, ag L, ag t, ag i, ag f, bE e], .own [ag d], .own [aB C, az D, aB E, az F], .own [.fn 74 [] []], .own [.fn 73 [] []], .own (al.c g), .own (b.flatMap ar.c)]⟩) (by rw [<- oi oD]; kernel_rfl)) ?_
     replace hr := bd hr; obtain ⟨mw, ki, hr⟩ := hr
     refine .aN (σ := fun z0 => match z0 with | (k, l, o, p, a) => ⟨mkS 82 0 [(1, .fn 117 [] [.hp 0 0, .hp 1 0, .hp 2 0, .hp 3 0, .hp 4 0]), (2, .hp 5 0), (4, ag g.Width), (5, ag h), (14, ag (FK (g.Height - 1))), (15, ag h), (19, ag (FK (g.Width - 1))), (20, ag j), (45, .hs 6 0 b.length 3), (46, ag 2), (47, ag a)], [.own [ag c, ag L, ag t, ag i, ag f, bE e], .own [ag d], .own [aB k, az l, aB o, az p], .own [.fn 74 [] []], .own [.fn 73 [] []], .own (al.c g), .own (b.flatMap ar.c)]⟩) (Q := fun x st' => match (generalizing := false) mw with | (T, U, V, W) => x = .exit 4 /\ Wk 5 st' ⟨mkS 82 0 [(1, .fn 117 [] [.hp 0 0, .hp 1 0, .hp 2 0, .hp 3 0, .hp 4 0]), (2, .hp 5 0), (4, ag g.Width), (5, ag h), (14, ag (FK (g.Height - 1))), (15, ag h), (19, ag (FK (g.Width - 1))), (20, ag j)], [.own [ag c, ag L, ag t, ag i, ag f, bE e], .own [ag d], .own [aB T, az U, aB V, az W], .own [.fn 74 [] []], .own [.fn 73 [] []], .own (al.c g)]⟩) ki ((Wk.gc [1, 2, 4, 5, 14, 15, 19, 20, 45, 46, 47] [(0, true), (1, true), (2, true), (3, true), (4, true), (5, true), (6, false)] rfl (pKt (pKt (pKt (pKt (pKt (pKt (pKo ar.c ar.pure b trivial)))))))).to) ?_ ?_
     ·clear hr
      rintro m ⟨k, l, o, p, a⟩ hr
      refine CQ.sh ?_
      refine .seq (.r4 G [1, 2, 4, 5, 14, 15, 19, 20, 45, 46, 47] [(48, aB (decide (a < 2)))] (.seq ?_))
      refine .cd hr ?_ ?_ <;> intro rz hr
      ·refine .skip (.seq (.block (.seq ?_)))
       obtain ⟨kp, hr⟩ := gd hr
       refine .r0 G (.p0 (v := .hp 6 (0 + a.toNat * 3)) (tr (au kp)) (.p0 (v := .agg (ar.c (gt b a))) (tr (y := br.ofP (ei (decide (3 <= ((b.flatMap ar.c).drop (0 + a.toNat * 3)).length)) (.agg (((b.flatMap ar.c).drop (0 + a.toNat * 3)).take 3)))) (b6 ar.len (aC kp) (by decide) (by omega : 0 + a.toNat * 3 = a.toNat * 3 + 0) kRf)) (.mu 2 (.done (.nh [1, 2, 4, 5, 9, 14, 15, 19, 20, 45, 46, 47] [.own [ag c, ag L, ag t, ag i, ag f, bE e], .own [ag d], .own [aB k, az l, aB o, az p], .own [.fn 74 [] []], .own [.fn 73 [] []], .own (al.c g), .own (b.flatMap ar.c), .own (ar.c (gt b a))] (.seq ?_))))))
       obtain ⟨A, hr⟩ := gd hr
       rcases bT (((gt g.Z (gt b a).e0) : Int) != (-2147483648)) with B | B
       ·replace hr := cg B hr
        obtain ⟨J, hr⟩ := gd hr
        rcases bT (((gt g.Z (gt b a).e1) : Int) != (-2147483648)) with I | I
        ·replace hr := cg I hr
         obtain ⟨kX, hr⟩ := gd hr
         refine .r0 G (.mu 4 (.p0 (v := .pp (g.Z.flatMap (iC .i64)) ((gt b a).e0.toNat * 1)) (tr (au A)) (.p0 (v := ag (gt g.Z (gt b a).e0)) (tr (aE (aF (aG .i64) (aC A) z1 (by omega : (gt b a).e0.toNat * 1 = (gt b a).e0.toNat * 1 + 0) kRf))) (.p0 (v := aB true) (eB B) (.mu 5 (.pure (v := .pp (g.Z.flatMap (iC .i64)) ((gt b a).e1.toNat * 1)) kRf (tr (au J)) (.pure (v := ag (gt g.Z (gt b a).e1)) kRf (tr (aE (aF (aG .i64) (aC J) z1 (by omega : (gt b a).e1.toNat * 1 = (gt b a).e1.toNat * 1 + 0) kRf))) (.pure (v := aB true) kRf (eB I) (.mu 6 (.pure (v := .pp (g.Z.flatMap (iC .i64)) ((gt b a).e2.toNat * 1)) kRf (tr (au kX)) (.pure (v := ag (gt g.Z (gt b a).e2)) kRf (tr (aE (aF (aG .i64) (aC kX) z1 (by omega : (gt b a).e2.toNat * 1 = (gt b a).e2.toNat * 1 + 0) kRf))) (.mu 2 (.done (.nh [1, 2, 4, 5, 9, 14, 15, 19, 20, 45, 46, 47, 75] [.own [ag c, ag L, ag t, ag i, ag f, bE e], .own [ag d], .own [aB k, az l, aB o, az p], .own [.fn 74 [] []], .own [.fn 73 [] []], .own (al.c g), .own (b.flatMap ar.c), .own (ar.c (gt b a))] ?_))))))))))))))
         refine .cd hr ?_ ?_ <;> intro rC hr
         ·obtain ⟨M, pK, hr⟩ := bd hr
          refine .g1 G (cL (args := [.agg (ar.c (gt b a)), .hp 0 0, .hp 1 0, .hp 2 0, .hp 3 0, .hp 4 0]) 5 0 kT5 [true, true, true, true, true] (qD n (gt b a) c L t i f e d k l o p M pK) trivial trivial rfl rfl kRf kRf) (.mu 2 (.ca cf0 (.done (.pop (.ru G ?_)))))
          exact av (M.1, M.2.1, M.2.2.1, M.2.2.2, FK (a + 1)) hr ((Wk.gc [1, 2, 4, 5, 14, 15, 19, 20, 45, 46, 47] [(0, true), (1, true), (2, true), (3, true), (4, true), (5, true), (6, false)] rfl (pKt (pKt (pKt (pKt (pKt (pKt (pKo ar.c ar.pure b trivial)))))))).to)
         refine .skip (.pop (.ru G ?_))
         exact av (k, l, o, p, FK (a + 1)) hr ((Wk.gc [1, 2, 4, 5, 14, 15, 19, 20, 45, 46, 47] [(0, true), (1, true), (2, true), (3, true), (4, true), (5, true), (6, false)] rfl (pKt (pKt (pKt (pKt (pKt (pKt (pKo ar.c ar.pure b trivial)))))))).to)
        replace hr := ch I hr
        refine .r0 G (.mu 4 (.p0 (v := .pp (g.Z.flatMap (iC .i64)) ((gt b a).e0.toNat * 1)) (tr (au A)) (.p0 (v := ag (gt g.Z (gt b a).e0)) (tr (aE (aF (aG .i64) (aC A) z1 (by omega : (gt b a).e0.toNat * 1 = (gt b a).e0.toNat * 1 + 0) kRf))) (.p0 (v := aB true) (eB B) (.mu 5 (.pure (v := .pp (g.Z.flatMap (iC .i64)) ((gt b a).e1.toNat * 1)) kRf (tr (au J)) (.pure (v := ag (gt g.Z (gt b a).e1)) kRf (tr (aE (aF (aG .i64) (aC J) z1 (by omega : (gt b a).e1.toNat * 1 = (gt b a).e1.toNat * 1 + 0) kRf))) (.pure (v := aB false) kRf (eB I) (.mu 10 (.done (.nh [1, 2, 4, 5, 9, 14, 15, 19, 20, 45, 46, 47, 75] [.own [ag c, ag L, ag t, ag i, ag f, bE e], .own [ag d], .own [aB k, az l, aB o, az p], .own [.fn 74 [] []], .own [.fn 73 [] []], .own (al.c g), .own (b.flatMap ar.c), .own (ar.c (gt b a))] (.cF kRf (.skip (.pop (.ru G ?_)))))))))))))))
        exact av (k, l, o, p, FK (a + 1)) hr ((Wk.gc [1, 2, 4, 5, 14, 15, 19, 20, 45, 46, 47] [(0, true), (1, true), (2, true), (3, true), (4, true), (5, true), (6, false)] rfl (pKt (pKt (pKt (pKt (pKt (pKt (pKo ar.c ar.pure b trivial)))))))).to)
       replace hr := ch B hr
       refine .r0 G (.mu 4 (.p0 (v := .pp (g.Z.flatMap (iC .i64)) ((gt b a).e0.toNat * 1)) (tr (au A)) (.p0 (v := ag (gt g.Z (gt b a).e0)) (tr (aE (aF (aG .i64) (aC A) z1 (by omega : (gt b a).e0.toNat * 1 = (gt b a).e0.toNat * 1 + 0) kRf))) (.p0 (v := aB false) (eB B) (.mu 18 (.done (.nh [1, 2, 4, 5, 9, 14, 15, 19, 20, 45, 46, 47, 75] [.own [ag c, ag L, ag t, ag i, ag f, bE e], .own [ag d], .own [aB k, az l, aB o, az p], .own [.fn 74 [] []], .own [.fn 73 [] []], .own (al.c g), .own (b.flatMap ar.c), .own (ar.c (gt b a))] (.cF kRf (.skip (.pop (.ru G ?_)))))))))))
       exact av (k, l, o, p, FK (a + 1)) hr ((Wk.gc [1, 2, 4, 5, 14, 15, 19, 20, 45, 46, 47] [(0, true), (1, true), (2, true), (3, true), (4, true), (5, true), (6, false)] rfl (pKt (pKt (pKt (pKt (pKt (pKt (pKo ar.c ar.pure b trivial)))))))).to)
      refine .leave rfl ?_
      obtain rfl := oi hr
      exact ⟨rfl, ((Wk.gc [1, 2, 4, 5, 14, 15, 19, 20] kT6 rfl trivial).to)⟩
     rcases mw with ⟨T, U, V, W⟩
     rintro x st' X
     clear ki
     obtain ⟨rfl, X⟩ := X
     refine aW _ rfl (.pop (.wk X (.ru G ?_)))
     exact av (T, U, V, W, FK (j + 1)) hr ((Wk.gc [1, 2, 4, 5, 14, 15, 19, 20] kT6 rfl trivial).to)
    refine .leave rfl ?_
    obtain rfl := oi hr
    exact ⟨rfl, ((Wk.gc [1, 2, 4, 14, 15] kT6 rfl trivial).to)⟩
   rcases mA with ⟨N, O, R, S⟩
   rintro x st' Y
   clear jS
   obtain ⟨rfl, Y⟩ := Y
   refine aW _ rfl (.pop (.wk Y (.ru G ?_)))
   exact av (N, O, R, S, FK (h + 1)) hr ((Wk.gc [1, 2, 4, 14, 15] kT6 rfl trivial).to)
  refine .leave rfl ?_
  obtain rfl := oi hr
  exact ⟨rfl, ((Wk.gc [] kT5 rfl trivial).to)⟩
 rcases kV with ⟨lH, mN, mF, nw⟩
 rintro x st' jB
 clear jQ
 obtain ⟨rfl, jB⟩ := jB
 refine aW _ rfl ?_
 obtain rfl := oi hr
 exact gR.wk jB (gR.normal [] ((Wk.gc [] kT5 rfl trivial).to))

theorem fL (n : Nat) (g : al) (level : Int) (r : ak) (hr : cm n g level = some r) : aO Tryz.prog 72 [.agg (al.c g), ag level, .fn 73 [] [], .fn 74 [] []] (.agg (ak.c r)) := by
 unfold cm at hr
 refine aO.bd G Tryz.func72 [.cell 8 42] ?_
 unfold Tryz.f72
 simp only [gS]
 refine .seq (.r2 G 28 [(4, .hp 0 0), (5, .hp 1 0), (6, .hp 2 0), (7, .hp 3 0), (8, .hp 4 0)] [.own (al.c g), .own [ag level], .own [.fn 73 [] []], .own [.fn 74 [] []], .own zN2] (.seq ?_))
 obtain ⟨b, e, hr⟩ := bd hr
 refine .g1 G (ok0 (cZ n 0 b e)) (.ca cf0 (.mu 2 (.done (.nh [4, 5, 6, 7, 8, 9] [.own (al.c g), .own [ag level], .own [.fn 73 [] []], .own [.fn 74 [] []], .own zN2, .own (ak.c b)] (.seq ?_)))))
 obtain ⟨a, f, hr⟩ := bd hr
 refine .g1 G (cL (args := [.agg (al.c g), .fn 117 [] [.hp 0 0, .hp 1 0, .hp 5 0, .hp 3 0, .hp 2 0]]) 5 0 [(0, true), (1, true), (5, true), (3, true), (2, true)] [true, true, true, true, true] (iP n g g.X0 g.Y0 g.Step g.Width g.Height g.Z level b.Num.Negative b.Num.Groups b.Den.Negative b.Den.Groups a f) trivial trivial rfl rfl kRf kRf) (.mu 2 (.ca cf0 (.done (.nh [4, 8, 9] [.own (al.c g), .own [ag level], .own [.fn 73 [] []], .own [.fn 74 [] []], .own zN2, .own [aB a.1, az a.2.1, aB a.2.2.1, az a.2.2.2]] (.seq ?_)))))
 obtain ⟨d, h, hr⟩ := bd hr
 refine .g1 G (ok0 (jE n (FK (g.Step * g.Step)) 2 d h)) (.mu 5 (.ca cf0 (.mu 6 (.done (.nh [8, 9, 10] [.own (al.c g), .own [ag level], .own [.fn 73 [] []], .own [.fn 74 [] []], .own zN2, .own [aB a.1, az a.2.1, aB a.2.2.1, az a.2.2.2], .own (ak.c d.1)] (.seq ?_))))))
 obtain ⟨i, j, hr⟩ := bd hr
 refine .g1 G (ok0 (eQ n (ak.mk (ah.mk a.1 a.2.1) (ah.mk a.2.2.1 a.2.2.2)) d.1 i j)) (.mu 2 (.ca cf0 (.mu 1 (.done (.nh [8] [.own (al.c g), .own [ag level], .own [.fn 73 [] []], .own [.fn 74 [] []], .own (ak.c i), .own [aB a.1, az a.2.1, aB a.2.2.1, az a.2.2.2], .own (ak.c d.1)] (.ret ?_))))))
 obtain rfl := oi hr
 exact aK.r1 [.agg (ak.c i)]

theorem tq (n : Nat) (g : al) (level : Int) (r : ak × Int) (hr : nV n g level = some r) : aO Tryz.prog 33 [.agg (al.c g), ag level] (.tup [.agg (ak.c r.1), ag r.2]) := by
 unfold nV at hr
 refine aO.bd G Tryz.func33 [.cell 4 42, .tmp 5] ?_
 unfold Tryz.f33
 simp only [gS]
 refine .seq (.r5 G [1] [(2, .hp 0 0), (4, .hp 1 0)] [.own (al.c g), .own zN2] (.seq (.seq ?_)))
 obtain ⟨a, b, hr⟩ := bd hr
 refine .g1 G (ok0 (je n g level a b)) (.mu 2 (.ca cf0 (.mu 1 (.done (.nh [1, 2, 4, 6] [.own (al.c g), .own zN2] (.seq (.r4 G [1, 2, 4, 6] [(11, aB ((a : Int) != 0))] ?_)))))))
 refine .cd hr ?_ ?_ <;> intro f hr
 ·refine .seq (.r4 G [4] [(5, ag a)] (.ret ?_))
  obtain rfl := oi hr
  exact aK.ret (vs := [.agg zN2, ag a]) kRf (Sn.tup (SnL.cons (Sn.agg (Sp (SnL.cons Sn.gh (Sp (SnL.cons Sn.gh SnL.nil))))) (Sp SnL.nil)))
 refine .skip (.seq ?_)
 obtain ⟨d, e, hr⟩ := bd hr
 refine .g1 G (ok0 (fL n g level d e)) (.mu 2 (.ca cf0 (.mu 2 (.done (.nh [4, 5] [.own (al.c g), .own (ak.c d)] (.ret ?_))))))
 obtain rfl := oi hr
 exact aK.ret (vs := [.agg (ak.c d), ag 0]) kRf (Sn.tup (Sp (Sp SnL.nil)))

theorem ot (n : Nat) (s : List Int) (v : Int) (r : Int) (hr : jG n s v = some r) : aO Tryz.prog 185 [bE s, ag v] (ag r) := by
 unfold jG at hr
 refine aO.bd G Tryz.func185 [.tmp 4] ?_
 unfold Tryz.f185
 simp only [gS]
 refine .seq (.r4 G [0, 1] [] (.seq (.seq (.r4 G [0, 1] [(7, ag (s.length : Int)), (8, ag 0)] (.block ?_)))))
 replace hr := bd hr; obtain ⟨e, c, hr⟩ := hr
 refine .aN (σ := fun f => match f with | b => ⟨mkS 19 0 [(0, bE s), (1, ag v), (7, ag (s.length : Int)), (8, ag b)], []⟩) (Q := fun x st' => match (generalizing := false) e with | .inl _ => x = .exit 0 /\ Wk 0 st' ⟨mkS 19 0 [], []⟩ | .inr (r0) => x = .ret /\ aK Tryz.prog [.tmp 4] (ag r0) .ret st') c ((Wk.gc [0, 1, 7, 8] [] rfl pK0).to) ?_ ?_
 ·clear hr
  rintro m b hr
  refine CQ.sh ?_
  refine .seq (.r4 G [0, 1, 7, 8] [(9, aB (decide (b < (s.length : Int))))] (.seq ?_))
  refine .cd hr ?_ ?_ <;> intro g hr
  ·refine .skip (.seq (.block (.seq (.r4 G [0, 1, 7, 8] [(5, ag b)] (.seq ?_)))))
   obtain ⟨d, hr⟩ := gd hr
   refine .r0 G (.mu 3 (.p0 (v := .pp (s.flatMap (iC .i64)) (b.toNat * 1)) (tr (au d)) (.p0 (v := ag (gt s b)) (tr (aE (aF (aG .i64) (aC d) z1 (by omega : b.toNat * 1 = b.toNat * 1 + 0) kRf))) (.mu 1 (.done (.nh [0, 1, 5, 7, 8, 16] [] ?_))))))
   refine .cd hr ?_ ?_ <;> intro h hr
   ·refine .seq (.ru G (.ret ?_))
    obtain rfl := oi hr
    exact ⟨rfl, aK.ret (vs := [ag b]) kRf (Sn.pure rfl)⟩
   refine .skip (.pop (.ru G ?_))
   exact av (FK (b + 1)) hr ((Wk.gc [0, 1, 7, 8] [] rfl pK0).to)
  refine .leave rfl ?_
  obtain rfl := oi hr
  exact ⟨rfl, ((Wk.gc [] [] rfl pK0).to)⟩
 rcases e with ⟨⟩ | r0
 ·rintro x st' a
  clear c
  obtain ⟨rfl, a⟩ := a
  refine aW _ rfl (.wk a (.seq (.ru G (.ret ?_))))
  obtain rfl := oi hr
  exact aK.r1 [ag (-1)]
 rintro x st' a
 clear c
 obtain ⟨rfl, a⟩ := a
 obtain rfl := oi hr
 exact iM _ a

theorem mL {s : List Int} {v : Int} {a : List Int} {b : Int} (h : ([slT (iC .i64) s, .at (.int .i64 v)] : List AV) = [slT (iC .i64) a, .at (.int .i64 b)]) : s = a /\ v = b := by
 simp only [List.cons.injEq, AV.agg.injEq, AV.at.injEq, Value.int.injEq, Value.bool.injEq, AV.fn.injEq, AV.pp.injEq, true_and, and_true, dV] at h
 simp_all
theorem nc (n : Nat) {s : List Int} {v : Int} {a : List Int} {b : Int} (h : ([slT (iC .i64) s, .at (.int .i64 v)] : List AV) = [slT (iC .i64) a, .at (.int .i64 b)]) : c7 n s v = c7 n a b := by
 obtain ⟨rfl, rfl⟩ := mL h
 rfl
theorem gk (n : Nat) (s : List Int) (v : Int) (r : Bool) (hr : c7 n s v = some r) : aO Tryz.prog 150 [bE s, ag v] (aB r) := by
 unfold c7 at hr
 refine aO.bd G Tryz.func150 [.tmp 4] ?_
 unfold Tryz.f150
 simp only [gS]
 refine .seq (.r4 G [0, 1] [] (.seq ?_))
 obtain ⟨b, a, hr⟩ := bd hr
 refine .g1 G (ok0 (ot n s v b a)) (.mu 2 (.ca cf0 (.mu 2 (.done (.ret ?_)))))
 obtain rfl := oi hr
 exact aK.r1 [aB (decide (b >= 0))]

theorem pU (n : Nat) (t : A3 Int) (p : Bool) (f : Int) (a : Int) (r : Bool) (hr : ka n t p f a = some r) : dK 3 Tryz.prog 149 [.agg (ar.c t), .hp 0 0, .hp 1 0, .hp 2 0] [.own [aB p], .own [ag f], .own [ag a]] (.tup []) [.own [aB r], .own [ag f], .own [ag a]] := by
 unfold ka at hr
 refine dK.qf G Tryz.func149 (c := (Tryz.f149.body).getD .skip) rfl (us := []) (s := mkS 16 0 [(0, .agg (ar.c t)), (1, .hp 0 0), (2, .hp 1 0), (3, .hp 2 0)]) kRf (rs := []) rfl ?_
 unfold Tryz.f149
 simp only [gS]
 refine .seq (.r5 G [1, 2, 3] [(4, .hp 3 0)] [.own [aB p], .own [ag f], .own [ag a], .own (ar.c t)] ?_)
 rcases bT p with b | b
 ·replace hr := cg b hr
  refine .dS G bF (.pk (v := aB true) (eB b) (.mu 11 ?_))
  refine .done (kRa ?_)
  obtain rfl := oi hr
  exact gR.normal [] ((Wk.gc [] kT3 rfl trivial).to)
 replace hr := ch b hr
 obtain ⟨j, d, hr⟩ := bd hr
 rcases bT j with e | e
 ·subst e
  replace hr := cg rfl hr
  obtain ⟨i, g, hr⟩ := bd hr
  refine .tn G (ca1 (gb (args := [.hs 3 0 3 1, ag f]) (l := [3]) rfl (SnL.cons (Sn.hs rfl (.inl rfl) (SnC.cons (Sn.pure rfl) (SnC.cons (Sn.pure rfl) (SnC.cons (Sn.pure rfl) SnC.nil))) (fun h => nomatch h)) (Sp SnL.nil)) (gk n [t.e0, t.e1, t.e2] f true d)) (ca3 (gb (args := [.hs 3 0 3 1, ag a]) (l := [3]) rfl (SnL.cons (Sn.hs rfl (.inl rfl) (SnC.cons (Sn.pure rfl) (SnC.cons (Sn.pure rfl) (SnC.cons (Sn.pure rfl) SnC.nil))) (fun h => nomatch h)) (Sp SnL.nil)) (gk n [t.e0, t.e1, t.e2] a i g)))) (.pk (v := aB false) (eB b) (.mu 3 (.ca cf0 (.mu 3 (.ca (cfA (fun h => by rw [sv g d (nc n (show ([bE [t.e0, t.e1, t.e2], ag a] : List AV) = [bE [t.e0, t.e1, t.e2], ag f] from (congr (congrArg List.cons rfl) (congr (congrArg List.cons (List.cons.inj (List.cons.inj h).2).1) rfl))))]) cf0) (.mu 3 ?_))))))
  refine .done (kRa ?_)
  obtain rfl := oi hr
  exact gR.normal [] ((Wk.gc [] kT3 rfl trivial).to)
 subst e
 replace hr := ch rfl hr
 refine .t1 G (gb (args := [.hs 3 0 3 1, ag f]) (l := [3]) rfl (SnL.cons (Sn.hs rfl (.inl rfl) (SnC.cons (Sn.pure rfl) (SnC.cons (Sn.pure rfl) (SnC.cons (Sn.pure rfl) SnC.nil))) (fun h => nomatch h)) (Sp SnL.nil)) (gk n [t.e0, t.e1, t.e2] f false d)) (.pk (v := aB false) (eB b) (.mu 3 (.ca cf0 (.mu 7 ?_))))
 refine .done (kRa ?_)
 obtain rfl := oi hr
 exact gR.normal [] ((Wk.gc [] kT3 rfl trivial).to)

theorem iG (n : Nat) (g : al) (c : Bool) (q : Int) (h : Int) (r : Bool) (hr : c6 n g c q h = some r) : dK 3 Tryz.prog 89 [.agg (al.c g), .fn 149 [] [.hp 0 0, .hp 1 0, .hp 2 0]] [.own [aB c], .own [ag q], .own [ag h]] (.tup []) [.own [aB r], .own [ag q], .own [ag h]] := by
 unfold c6 at hr
 refine dK.qf G Tryz.func89 (c := (Tryz.f89.body).getD .skip) rfl (us := []) (s := mkS 82 0 [(0, .agg (al.c g)), (1, .fn 149 [] [.hp 0 0, .hp 1 0, .hp 2 0])]) kRf (rs := []) rfl ?_
 unfold Tryz.f89
 simp only [gS]
 refine .seq (.r5 G [1] [(2, .hp 3 0)] [.own [aB c], .own [ag q], .own [ag h], .own (al.c g)] (.seq (.r4 G [1, 2] [(4, ag g.Width)] (.seq (.r4 G [1, 2, 4] [(14, ag (FK (g.Height - 1))), (15, ag 0)] (.block ?_))))))
 replace hr := bd hr; obtain ⟨J, z, hr⟩ := hr
 refine .aN (σ := fun O => match O with | (A, d) => ⟨mkS 82 0 [(1, .fn 149 [] [.hp 0 0, .hp 1 0, .hp 2 0]), (2, .hp 3 0), (4, ag g.Width), (14, ag (FK (g.Height - 1))), (15, ag d)], [.own [aB A], .own [ag q], .own [ag h], .own (al.c g)]⟩) (Q := fun x st' => x = .exit 0 /\ Wk 3 st' ⟨mkS 82 0 [], [.own [aB J], .own [ag q], .own [ag h]]⟩) z ((Wk.gc [1, 2, 4, 14, 15] kT4 rfl trivial).to) ?_ ?_
 ·clear hr
  rintro m ⟨A, d⟩ hr
  refine CQ.sh ?_
  refine .seq (.r4 G [1, 2, 4, 14, 15] [(16, aB (decide (d < (FK (g.Height - 1)))))] (.seq ?_))
  refine .cd hr ?_ ?_ <;> intro R hr
  ·refine .skip (.seq (.block (.seq (.r4 G [1, 2, 4, 14, 15] [(5, ag d)] (.seq (.r4 G [1, 2, 4, 5, 14, 15] [(19, ag (FK (g.Width - 1))), (20, ag 0)] (.block ?_)))))))
   replace hr := bd hr; obtain ⟨B, C, hr⟩ := hr
   refine .aN (σ := fun O => match O with | (k, e) => ⟨mkS 82 0 [(1, .fn 149 [] [.hp 0 0, .hp 1 0, .hp 2 0]), (2, .hp 3 0), (4, ag g.Width), (5, ag d), (14, ag (FK (g.Height - 1))), (15, ag d), (19, ag (FK (g.Width - 1))), (20, ag e)], [.own [aB k], .own [ag q], .own [ag h], .own (al.c g)]⟩) (Q := fun x st' => x = .exit 2 /\ Wk 3 st' ⟨mkS 82 0 [(1, .fn 149 [] [.hp 0 0, .hp 1 0, .hp 2 0]), (2, .hp 3 0), (4, ag g.Width), (14, ag (FK (g.Height - 1))), (15, ag d)], [.own [aB B], .own [ag q], .own [ag h], .own (al.c g)]⟩) C ((Wk.gc [1, 2, 4, 5, 14, 15, 19, 20] kT4 rfl trivial).to) ?_ ?_
   ·clear hr
    rintro m ⟨k, e⟩ hr
    refine CQ.sh ?_
    refine .seq (.r4 G [1, 2, 4, 5, 14, 15, 19, 20] [(21, aB (decide (e < (FK (g.Width - 1)))))] (.seq ?_))
    refine .cd hr ?_ ?_ <;> intro S hr
    ·refine .skip (.seq (.block (.seq (.r4 G [1, 2, 4, 5, 14, 15, 19, 20] [(6, ag e)] (.seq (.r4 G [1, 2, 4, 5, 14, 15, 19, 20] [(7, ag (FK ((FK (d * g.Width)) + e)))] ?_))))))
     obtain ⟨l, L, hr⟩ := bd hr
     refine .wk ((Wk.refl _).to (c := ⟨mkS 82 0 [(1, .fn 149 [] [.hp 0 0, .hp 1 0, .hp 2 0]), (2, .hp 3 0), (4, ag g.Width), (5, ag d), (7, ag l), (14, ag (FK (g.Height - 1))), (15, ag d), (19, ag (FK (g.Width - 1))), (20, ag e)], [.own [aB k], .own [ag q], .own [ag h], .own (al.c g)]⟩) (by rw [oi L]; first | done | kernel_rfl)) <| .seq <| .r5 G [1, 2, 4, 5, 14, 15, 19, 20] [(45, .hs 4 0 2 3), (46, ag 2), (47, ag 0)] [.own [aB k], .own [ag q], .own [ag h], .own (al.c g), .own [ag l, ag (FK (l + 1)), ag (FK ((FK (l + g.Width)) + 1)), ag l, ag (FK ((FK (l + g.Width)) + 1)), ag (FK (l + g.Width))]] <| .block ?_
     obtain ⟨b, M, hr⟩ := bd hr
     refine .wk ((Wk.refl _).to (c := ⟨mkS 82 0 [(1, .fn 149 [] [.hp 0 0, .hp 1 0, .hp 2 0]), (2, .hp 3 0), (4, ag g.Width), (5, ag d), (14, ag (FK (g.Height - 1))), (15, ag d), (19, ag (FK (g.Width - 1))), (20, ag e), (45, .hs 4 0 b.length 3), (46, ag 2), (47, ag 0)], [.own [aB k], .own [ag q], .own [ag h], .own (al.c g), .own (b.flatMap ar.c)]⟩) (by rw [<- oi M]; kernel_rfl)) ?_
     replace hr := bd hr; obtain ⟨D, E, hr⟩ := hr
     refine .aN (σ := fun O => match O with | (f, a) => ⟨mkS 82 0 [(1, .fn 149 [] [.hp 0 0, .hp 1 0, .hp 2 0]), (2, .hp 3 0), (4, ag g.Width), (5, ag d), (14, ag (FK (g.Height - 1))), (15, ag d), (19, ag (FK (g.Width - 1))), (20, ag e), (45, .hs 4 0 b.length 3), (46, ag 2), (47, ag a)], [.own [aB f], .own [ag q], .own [ag h], .own (al.c g), .own (b.flatMap ar.c)]⟩) (Q := fun x st' => x = .exit 4 /\ Wk 3 st' ⟨mkS 82 0 [(1, .fn 149 [] [.hp 0 0, .hp 1 0, .hp 2 0]), (2, .hp 3 0), (4, ag g.Width), (5, ag d), (14, ag (FK (g.Height - 1))), (15, ag d), (19, ag (FK (g.Width - 1))), (20, ag e)], [.own [aB D], .own [ag q], .own [ag h], .own (al.c g)]⟩) E ((Wk.gc [1, 2, 4, 5, 14, 15, 19, 20, 45, 46, 47] [(0, true), (1, true), (2, true), (3, true), (4, false)] rfl (pKt (pKt (pKt (pKt (pKo ar.c ar.pure b trivial)))))).to) ?_ ?_
     ·clear hr
      rintro m ⟨f, a⟩ hr
      refine CQ.sh ?_
      refine .seq (.r4 G [1, 2, 4, 5, 14, 15, 19, 20, 45, 46, 47] [(48, aB (decide (a < 2)))] (.seq ?_))
      refine .cd hr ?_ ?_ <;> intro T hr
      ·refine .skip (.seq (.block (.seq ?_)))
       obtain ⟨F, hr⟩ := gd hr
       refine .r0 G (.p0 (v := .hp 4 (0 + a.toNat * 3)) (tr (au F)) (.p0 (v := .agg (ar.c (gt b a))) (tr (y := br.ofP (ei (decide (3 <= ((b.flatMap ar.c).drop (0 + a.toNat * 3)).length)) (.agg (((b.flatMap ar.c).drop (0 + a.toNat * 3)).take 3)))) (b6 ar.len (aC F) (by decide) (by omega : 0 + a.toNat * 3 = a.toNat * 3 + 0) kRf)) (.mu 2 (.done (.nh [1, 2, 4, 5, 9, 14, 15, 19, 20, 45, 46, 47] [.own [aB f], .own [ag q], .own [ag h], .own (al.c g), .own (b.flatMap ar.c), .own (ar.c (gt b a))] (.seq ?_))))))
       obtain ⟨i, hr⟩ := gd hr
       rcases bT (((gt g.Z (gt b a).e0) : Int) != (-2147483648)) with j | j
       ·replace hr := cg j hr
        obtain ⟨p, hr⟩ := gd hr
        rcases bT (((gt g.Z (gt b a).e1) : Int) != (-2147483648)) with o | o
        ·replace hr := cg o hr
         obtain ⟨H, hr⟩ := gd hr
         refine .r0 G (.mu 4 (.p0 (v := .pp (g.Z.flatMap (iC .i64)) ((gt b a).e0.toNat * 1)) (tr (au i)) (.p0 (v := ag (gt g.Z (gt b a).e0)) (tr (aE (aF (aG .i64) (aC i) z1 (by omega : (gt b a).e0.toNat * 1 = (gt b a).e0.toNat * 1 + 0) kRf))) (.p0 (v := aB true) (eB j) (.mu 5 (.pure (v := .pp (g.Z.flatMap (iC .i64)) ((gt b a).e1.toNat * 1)) kRf (tr (au p)) (.pure (v := ag (gt g.Z (gt b a).e1)) kRf (tr (aE (aF (aG .i64) (aC p) z1 (by omega : (gt b a).e1.toNat * 1 = (gt b a).e1.toNat * 1 + 0) kRf))) (.pure (v := aB true) kRf (eB o) (.mu 6 (.pure (v := .pp (g.Z.flatMap (iC .i64)) ((gt b a).e2.toNat * 1)) kRf (tr (au H)) (.pure (v := ag (gt g.Z (gt b a).e2)) kRf (tr (aE (aF (aG .i64) (aC H) z1 (by omega : (gt b a).e2.toNat * 1 = (gt b a).e2.toNat * 1 + 0) kRf))) (.mu 2 (.done (.nh [1, 2, 4, 5, 9, 14, 15, 19, 20, 45, 46, 47, 75] [.own [aB f], .own [ag q], .own [ag h], .own (al.c g), .own (b.flatMap ar.c), .own (ar.c (gt b a))] ?_))))))))))))))
         refine .cd hr ?_ ?_ <;> intro U hr
         ·obtain ⟨I, N, hr⟩ := bd hr
          refine .g1 G (cL (args := [.agg (ar.c (gt b a)), .hp 0 0, .hp 1 0, .hp 2 0]) 3 0 kT3 [true, true, true] (pU n (gt b a) f q h I N) trivial trivial rfl rfl kRf kRf) (.mu 2 (.ca cf0 (.done (.pop (.ru G ?_)))))
          exact av (I, FK (a + 1)) hr ((Wk.gc [1, 2, 4, 5, 14, 15, 19, 20, 45, 46, 47] [(0, true), (1, true), (2, true), (3, true), (4, false)] rfl (pKt (pKt (pKt (pKt (pKo ar.c ar.pure b trivial)))))).to)
         refine .skip (.pop (.ru G ?_))
         exact av (f, FK (a + 1)) hr ((Wk.gc [1, 2, 4, 5, 14, 15, 19, 20, 45, 46, 47] [(0, true), (1, true), (2, true), (3, true), (4, false)] rfl (pKt (pKt (pKt (pKt (pKo ar.c ar.pure b trivial)))))).to)
        replace hr := ch o hr
        refine .r0 G (.mu 4 (.p0 (v := .pp (g.Z.flatMap (iC .i64)) ((gt b a).e0.toNat * 1)) (tr (au i)) (.p0 (v := ag (gt g.Z (gt b a).e0)) (tr (aE (aF (aG .i64) (aC i) z1 (by omega : (gt b a).e0.toNat * 1 = (gt b a).e0.toNat * 1 + 0) kRf))) (.p0 (v := aB true) (eB j) (.mu 5 (.pure (v := .pp (g.Z.flatMap (iC .i64)) ((gt b a).e1.toNat * 1)) kRf (tr (au p)) (.pure (v := ag (gt g.Z (gt b a).e1)) kRf (tr (aE (aF (aG .i64) (aC p) z1 (by omega : (gt b a).e1.toNat * 1 = (gt b a).e1.toNat * 1 + 0) kRf))) (.pure (v := aB false) kRf (eB o) (.mu 10 (.done (.nh [1, 2, 4, 5, 9, 14, 15, 19, 20, 45, 46, 47, 75] [.own [aB f], .own [ag q], .own [ag h], .own (al.c g), .own (b.flatMap ar.c), .own (ar.c (gt b a))] (.cF kRf (.skip (.pop (.ru G ?_)))))))))))))))
        exact av (f, FK (a + 1)) hr ((Wk.gc [1, 2, 4, 5, 14, 15, 19, 20, 45, 46, 47] [(0, true), (1, true), (2, true), (3, true), (4, false)] rfl (pKt (pKt (pKt (pKt (pKo ar.c ar.pure b trivial)))))).to)
       replace hr := ch j hr
       refine .r0 G (.mu 4 (.p0 (v := .pp (g.Z.flatMap (iC .i64)) ((gt b a).e0.toNat * 1)) (tr (au i)) (.p0 (v := ag (gt g.Z (gt b a).e0)) (tr (aE (aF (aG .i64) (aC i) z1 (by omega : (gt b a).e0.toNat * 1 = (gt b a).e0.toNat * 1 + 0) kRf))) (.p0 (v := aB false) (eB j) (.mu 18 (.done (.nh [1, 2, 4, 5, 9, 14, 15, 19, 20, 45, 46, 47, 75] [.own [aB f], .own [ag q], .own [ag h], .own (al.c g), .own (b.flatMap ar.c), .own (ar.c (gt b a))] (.cF kRf (.skip (.pop (.ru G ?_)))))))))))
       exact av (f, FK (a + 1)) hr ((Wk.gc [1, 2, 4, 5, 14, 15, 19, 20, 45, 46, 47] [(0, true), (1, true), (2, true), (3, true), (4, false)] rfl (pKt (pKt (pKt (pKt (pKo ar.c ar.pure b trivial)))))).to)
      refine .leave rfl ?_
      obtain rfl := oi hr
      exact ⟨rfl, ((Wk.gc [1, 2, 4, 5, 14, 15, 19, 20] kT4 rfl trivial).to)⟩
     rintro x st' t
     clear E
     obtain ⟨rfl, t⟩ := t
     refine aW _ rfl (.pop (.wk t (.ru G ?_)))
     exact av (D, FK (e + 1)) hr ((Wk.gc [1, 2, 4, 5, 14, 15, 19, 20] kT4 rfl trivial).to)
    refine .leave rfl ?_
    obtain rfl := oi hr
    exact ⟨rfl, ((Wk.gc [1, 2, 4, 14, 15] kT4 rfl trivial).to)⟩
   rintro x st' u
   clear C
   obtain ⟨rfl, u⟩ := u
   refine aW _ rfl (.pop (.wk u (.ru G ?_)))
   exact av (B, FK (d + 1)) hr ((Wk.gc [1, 2, 4, 14, 15] kT4 rfl trivial).to)
  refine .leave rfl ?_
  obtain rfl := oi hr
  exact ⟨rfl, ((Wk.gc [] kT3 rfl trivial).to)⟩
 rintro x st' w
 clear z
 obtain ⟨rfl, w⟩ := w
 refine aW _ rfl ?_
 obtain rfl := oi hr
 exact gR.wk w (gR.normal [] ((Wk.gc [] kT3 rfl trivial).to))

theorem sm (n : Nat) (g : al) (a : Int) (b : Int) (r : Bool) (hr : nr n g a b = some r) : aO Tryz.prog 110 [.agg (al.c g), ag a, ag b] (aB r) := by
 unfold nr at hr
 refine aO.bd G Tryz.func110 [.tmp 6] ?_
 unfold Tryz.f110
 simp only [gS]
 refine .seq (.r2 G 26 [(3, .hp 0 0), (4, .hp 1 0), (5, .hp 2 0)] [.own (al.c g), .own [ag a], .own [ag b]] (.seq (.seq ?_)))
 rcases bT (decide (a < 0)) with d | d
 ·replace hr := cg d hr
  refine .r0 G (.mu 1 (.p0 (v := aB true) (eB d) (.mu 12 (.done (.nh [3, 4, 5, 21] [.own (al.c g), .own [ag a], .own [ag b]] (.cT kRf (.seq (.ru G (.ret ?_)))))))))
  obtain rfl := oi hr
  exact aK.r1 [aB false]
 replace hr := ch d hr
 rcases bT (decide (a >= b)) with e | e
 ·replace hr := cg e hr
  refine .r0 G (.mu 1 (.p0 (v := aB false) (eB d) (.mu 3 (.pure (v := aB true) kRf (eB e) (.mu 8 (.done (.nh [3, 4, 5, 21] [.own (al.c g), .own [ag a], .own [ag b]] (.cT kRf (.seq (.ru G (.ret ?_)))))))))))
  obtain rfl := oi hr
  exact aK.r1 [aB false]
 replace hr := ch e hr
 refine .r0 G (.mu 1 (.p0 (v := aB false) (eB d) (.mu 3 (.pure (v := aB false) kRf (eB e) (.mu 8 (.done (.nh [3, 4, 5, 21] [.own (al.c g), .own [ag a], .own [ag b]] ?_)))))))
 refine .cd hr ?_ ?_ <;> intro i hr
 ·refine .seq (.ru G (.ret ?_))
  obtain rfl := oi hr
  exact aK.r1 [aB false]
 refine .skip (.seq (.r5 G [3, 4, 5] [(7, .hp 3 0)] [.own (al.c g), .own [ag a], .own [ag b], .own [aB false]] (.seq ?_)))
 obtain ⟨f, h, hr⟩ := bd hr
 refine .g1 G (cL (args := [.agg (al.c g), .fn 149 [] [.hp 3 0, .hp 1 0, .hp 2 0]]) 3 0 [(3, true), (1, true), (2, true)] [true, true, true] (iG n g false a b f h) trivial trivial rfl rfl kRf kRf) (.mu 2 (.ca cf0 (.done (.nh [7] [.own (al.c g), .own [ag a], .own [ag b], .own [aB f]] (.seq (.ru G (.ret ?_)))))))
 obtain rfl := oi hr
 exact aK.r1 [aB f]

theorem mD (n : Nat) (g : ak) (y : ak) (r : Int) (hr : jP n g y = some r) : aO Tryz.prog 102 [.agg (ak.c g), .agg (ak.c y)] (ag r) := by
 unfold jP at hr
 refine aO.bd G Tryz.func102 [.tmp 4] ?_
 unfold Tryz.f102
 simp only [gS]
 refine .seq (.r2 G 20 [(2, .hp 0 0), (3, .hp 1 0)] [.own (ak.c g), .own (ak.c y)] (.seq ?_))
 obtain ⟨i, a, j, b, hr⟩ := bd2 hr
 refine .tn G (ca1 (ok0 (cI n g i a)) (ca3 (ok0 (cI n y j b)))) (.mu 1 (.ca cf0 (.mu 1 (.ca (cfA (fun h => by rw [sv b a (jk n h)]) cf0) (.mu 2 ?_)))))
 refine .done (kRa ?_)
 refine .nh [2, 3] [.own (ak.c i), .own (ak.c j)] (.seq ?_)
 obtain ⟨k, d, l, e, m, f, hr⟩ := bd3 hr
 refine .tn G (ca1 (ok0 (eD n i.Num j.Den k d)) (ca1 (ok0 (eD n j.Num i.Den l e)) (ca3 (ok0 (nk n k l m f))))) (.mu 4 (.ca cf0 (.mu 4 (.ca (cfA (fun h => by rw [sv e d (ib n h)]) cf0) (.ca (cfF (cfF cf0)) (.mu 1 ?_))))))
 refine .done (kRa ?_)
 refine .ret ?_
 obtain rfl := oi hr
 exact aK.r1 [ag m]

theorem rm {a : Int} {b : Int} {p : Int} {m : Int} {k : Bool} {i : List Int} {f : Bool} {d : List Int} {n : Int} {o : Int} {q : Int} {l : Int} {j : Bool} {g : List Int} {e : Bool} {c : List Int} (h : ([.at (.int .i64 a), .at (.int .i64 b), .pp [.at (.int .i64 p), .at (.int .i64 m), .at (.bool k), slT iCu i, .at (.bool f), slT iCu d] 0] : List AV) = [.at (.int .i64 n), .at (.int .i64 o), .pp [.at (.int .i64 q), .at (.int .i64 l), .at (.bool j), slT iCu g, .at (.bool e), slT iCu c] 0]) : a = n /\ b = o /\ p = q /\ m = l /\ k = j /\ i = g /\ f = e /\ d = c := by
 simp only [List.cons.injEq, AV.agg.injEq, AV.at.injEq, Value.int.injEq, Value.bool.injEq, AV.fn.injEq, AV.pp.injEq, true_and, and_true, dV] at h
 simp_all
theorem rZ (n : Nat) {a : Int} {b : Int} {p : Int} {m : Int} {k : Bool} {i : List Int} {f : Bool} {d : List Int} {o : Int} {q : Int} {r : Int} {l : Int} {j : Bool} {g : List Int} {e : Bool} {c : List Int} (h : ([.at (.int .i64 a), .at (.int .i64 b), .pp [.at (.int .i64 p), .at (.int .i64 m), .at (.bool k), slT iCu i, .at (.bool f), slT iCu d] 0] : List AV) = [.at (.int .i64 o), .at (.int .i64 q), .pp [.at (.int .i64 r), .at (.int .i64 l), .at (.bool j), slT iCu g, .at (.bool e), slT iCu c] 0]) : gy n a b p m k i f d = gy n o q r l j g e c := by
 obtain ⟨rfl, rfl, rfl, rfl, rfl, rfl, rfl, rfl⟩ := rm h
 rfl
theorem mV (n : Nat) (a : Int) (b : Int) (p : Int) (o : Int) (g : Bool) (f : List Int) (e : Bool) (d : List Int) (r : ak) (hr : gy n a b p o g f e d = some r) : aO Tryz.prog 111 [ag a, ag b, .pp [ag p, ag o, aB g, az f, aB e, az d] 0] (.agg (ak.c r)) := by
 unfold gy at hr
 refine aO.bd G Tryz.func111 [.cell 5 42] ?_
 unfold Tryz.f111
 simp only [gS]
 refine .seq (.r5 G [0, 1, 2] [(5, .hp 0 0)] [.own zN2] (.seq ?_))
 obtain ⟨q, i, s, j, t, k, hr⟩ := bd3 hr
 obtain ⟨l, m, hr⟩ := bd hr
 refine .tn G (ca1 (ok0 (cZ n a q i)) (ca1 (ok0 (cZ n (FK (b - a)) s j)) (ca1 (ok0 (eQ n (ak.mk (ah.mk g f) (ah.mk e d)) s t k)) (ca3 (ok0 (gB n q t l m)))))) (.mu 1 (.ca cf0 (.mu 5 (.ca (cfA (fun h => by rw [sv j i (nN n h)]) cf0) (.ca (cfF (cfF cf0)) (.ca (cfF (cfF (cfF cf0))) (.mu 1 ?_)))))))
 refine .done (kRa ?_)
 refine .nh [5] [.own (ak.c l)] (.ret ?_)
 obtain rfl := oi hr
 exact aK.r1 [.agg (ak.c l)]

theorem uc (n : Nat) (g : al) (c : ai) (r : aJ × Int) (hr : nY n g c = some r) : aO Tryz.prog 66 [.agg (al.c g), .agg (ai.c c)] (.tup [.agg (aJ.c r.1), ag r.2]) := by
 unfold nY at hr
 refine aO.bd G Tryz.func66 [.cell 4 59, .tmp 5] ?_
 unfold Tryz.f66
 simp only [gS]
 refine .seq (.r2 G 81 [(2, .hp 0 0), (3, .hp 1 0), (4, .hp 2 0)] [.own (al.c g), .own (ai.c c), .own zN4] (.seq (.seq ?_)))
 obtain ⟨D, u, hr⟩ := bd hr
 refine .g1 G (ok0 (sm n g c.A c.B D u)) (.mu 5 (.ca cf0 (.mu 1 (.done (.nh [2, 3, 4, 14] [.own (al.c g), .own (ai.c c), .own zN4] ?_)))))
 refine .cd hr ?_ ?_ <;> intro E hr
 ·refine .seq (.r4 G [4] [(5, ag 6)] (.ret ?_))
  obtain rfl := oi hr
  exact aK.ret (vs := [.agg zN4, ag 6]) kRf (Sn.tup (SnL.cons (Sn.agg (Sp (SnL.cons Sn.gh (Sp (SnL.cons Sn.gh (Sp (SnL.cons Sn.gh (Sp (SnL.cons Sn.gh SnL.nil))))))))) (Sp SnL.nil)))
 refine .skip (.seq (.seq ?_))
 obtain ⟨F, w, hr⟩ := bd hr
 refine .g1 G (ok0 (eG n c.At F w)) (.mu 2 (.ca cf0 (.mu 1 (.done (.nh [2, 3, 4, 19] [.own (al.c g), .own (ai.c c), .own zN4] ?_)))))
 refine .cd hr ?_ ?_ <;> intro H hr
 ·refine .seq (.r4 G [4] [(5, ag 1)] (.ret ?_))
  obtain rfl := oi hr
  exact aK.ret (vs := [.agg zN4, ag 1]) kRf (Sn.tup (SnL.cons (Sn.agg (Sp (SnL.cons Sn.gh (Sp (SnL.cons Sn.gh (Sp (SnL.cons Sn.gh (Sp (SnL.cons Sn.gh SnL.nil))))))))) (Sp SnL.nil)))
 refine .skip (.seq (.seq ?_))
 replace hr := bd hr; obtain ⟨p, f, hr⟩ := hr
 refine .yV (Q := fun x st' => x = .normal /\ Wk 0 st' ⟨mkS 81 0 [(2, .hp 0 0), (3, .hp 1 0), (4, .hp 2 0), (31, aB p)], [.own (al.c g), .own (ai.c c), .own zN4]⟩) ?_ ?_
 ·clear hr
  have hr := f
  clear f
  obtain ⟨o, j, hr⟩ := bd hr
  rcases bT (decide (o < 0)) with d | d
  ·replace hr := cg d hr
   refine .t1 G (ok0 (b8 n c.At o j)) (.mu 2 (.ca cf0 (.pk (v := aB true) (eB d) (.mu 7 ?_))))
   refine .done (kRa ?_)
   obtain rfl := oi hr
   exact ⟨rfl, ((Wk.gc [2, 3, 4, 31] kT3 rfl trivial).to)⟩
  replace hr := ch d hr
  obtain ⟨q, s, z, t, hr⟩ := bd2 hr
  refine .tn G (ca1 (ok0 (b8 n c.At o j)) (ca1 (ok0 (cZ n 1 q s)) (ca3 (ok0 (mD n c.At q z t))))) (.mu 2 (.ca cf0 (.pk (v := aB false) (eB d) (.mu 3 (.ca (cfF cf0) (.ca (cfF (cfF cf0)) (.mu 2 ?_)))))))
  refine .done (kRa ?_)
  obtain rfl := oi hr
  exact ⟨rfl, ((Wk.gc [2, 3, 4, 31] kT3 rfl trivial).to)⟩
 rintro x st' i
 clear f
 obtain ⟨rfl, i⟩ := i
 refine .wk i ?_
 refine .cd hr ?_ ?_ <;> intro C hr
 ·refine .seq (.r4 G [4] [(5, ag 2)] (.ret ?_))
  obtain rfl := oi hr
  exact aK.ret (vs := [.agg zN4, ag 2]) kRf (Sn.tup (SnL.cons (Sn.agg (Sp (SnL.cons Sn.gh (Sp (SnL.cons Sn.gh (Sp (SnL.cons Sn.gh (Sp (SnL.cons Sn.gh SnL.nil))))))))) (Sp SnL.nil)))
 refine .skip (.seq (.r4 G [2, 3, 4] [(6, .fn 111 [] [.hp 1 0])] (.seq (.r4 G [2, 3, 4, 6] [(7, ag g.Width)] (.seq (.wk ((Wk.fix 1 (cs := (ai.c c)) kRf).to (c := ⟨mkS 81 0 [(2, .hp 0 0), (3, .hp 1 0), (4, .hp 2 0), (6, .fn 111 [] [.hp 1 0]), (7, ag g.Width)], [.own (al.c g), .fix (ai.c c), .own zN4]⟩) kRf) ?_))))))
 obtain ⟨e, hr⟩ := gd hr
 obtain ⟨a, k, b, m, hr⟩ := bd2 hr
 refine .tn G (ca1 (cx (args := [ag (FK (g.X0 + (FK ((c.A.tmod g.Width) * g.Step)))), ag (FK (g.X0 + (FK ((c.B.tmod g.Width) * g.Step)))), .hp 1 0]) (l := [1]) (Sp (Sp (SnL.cons (Sn.hp rfl (.inr rfl) (SnC.cons (Sn.pure rfl) (SnC.cons (Sn.pure rfl) (SnC.cons (Sn.pure rfl) (SnC.cons (Sn.pure rfl) (SnC.cons (Sn.pure rfl) (SnC.cons (Sn.pure rfl) SnC.nil))))))) SnL.nil))) (mV n (FK (g.X0 + (FK ((c.A.tmod g.Width) * g.Step)))) (FK (g.X0 + (FK ((c.B.tmod g.Width) * g.Step)))) c.A c.B c.At.Num.Negative c.At.Num.Groups c.At.Den.Negative c.At.Den.Groups a k)) (ca3 (cx (args := [ag (FK (g.Y0 + (FK ((FK (c.A.tdiv g.Width)) * g.Step)))), ag (FK (g.Y0 + (FK ((FK (c.B.tdiv g.Width)) * g.Step)))), .hp 1 0]) (l := [1]) (Sp (Sp (SnL.cons (Sn.hp rfl (.inr rfl) (SnC.cons (Sn.pure rfl) (SnC.cons (Sn.pure rfl) (SnC.cons (Sn.pure rfl) (SnC.cons (Sn.pure rfl) (SnC.cons (Sn.pure rfl) (SnC.cons (Sn.pure rfl) SnC.nil))))))) SnL.nil))) (mV n (FK (g.Y0 + (FK ((FK (c.A.tdiv g.Width)) * g.Step)))) (FK (g.Y0 + (FK ((FK (c.B.tdiv g.Width)) * g.Step)))) c.A c.B c.At.Num.Negative c.At.Num.Groups c.At.Den.Negative c.At.Den.Groups b m)))) (.mu 6 (.pk (v := ag (c.A.tmod g.Width)) (qn (x := c.A) (y := g.Width) kRf kRf e) (.mu 9 (.pk (v := ag (c.B.tmod g.Width)) (qn (x := c.B) (y := g.Width) kRf kRf e) (.mu 4 (.ca cf0 (.mu 6 (.pk (v := ag (FK (c.A.tdiv g.Width))) (qL (x := c.A) (y := g.Width) kRf kRf e) (.mu 9 (.pk (v := ag (FK (c.B.tdiv g.Width))) (qL (x := c.B) (y := g.Width) kRf kRf e) (.mu 4 (.ca (cfA (fun h => by rw [sv m k (rZ n (show ([ag (FK (g.Y0 + (FK ((FK (c.A.tdiv g.Width)) * g.Step)))), ag (FK (g.Y0 + (FK ((FK (c.B.tdiv g.Width)) * g.Step)))), .pp (ai.c c) 0] : List AV) = [ag (FK (g.X0 + (FK ((c.A.tmod g.Width) * g.Step)))), ag (FK (g.X0 + (FK ((c.B.tmod g.Width) * g.Step)))), .pp (ai.c c) 0] from (congr (congrArg List.cons (List.cons.inj h).1) (congr (congrArg List.cons (List.cons.inj (List.cons.inj h).2).1) (congr (congrArg List.cons rfl) rfl)))))]) cf0) (.mu 3 ?_)))))))))))))
 refine .done (kRa ?_)
 refine .nh [4, 5] [.own (al.c g), .fix (ai.c c), .own [aB a.Num.Negative, az a.Num.Groups, aB a.Den.Negative, az a.Den.Groups, aB b.Num.Negative, az b.Num.Groups, aB b.Den.Negative, az b.Den.Groups]] (.ret ?_)
 obtain rfl := oi hr
 exact aK.ret (vs := [.agg [aB a.Num.Negative, az a.Num.Groups, aB a.Den.Negative, az a.Den.Groups, aB b.Num.Negative, az b.Num.Groups, aB b.Den.Negative, az b.Den.Groups], ag 0]) kRf (Sn.tup (Sp (Sp SnL.nil)))

theorem sO (n : Nat) (g : al) (c : ae) (r : List aJ × Int) (hr : mZ n g c = some r) : aO Tryz.prog 59 [.agg (al.c g), .agg (ae.c c)] (.tup [slT aJ.c r.1, ag r.2]) := by
 unfold mZ at hr
 refine aO.bd G Tryz.func59 [.tmp 4, .tmp 5] ?_
 unfold Tryz.f59
 simp only [gS]
 refine .seq (.r2 G 33 [(2, .hp 0 0), (3, .hp 1 0)] [.own (al.c g), .own (ae.c c)] (.seq (.r4 G [2, 3] [(6, nS)] (.seq (.seq (.r4 G [2, 6] [(12, slT ai.c c.Points), (13, ag (c.Points.length : Int)), (14, ag 0)] (.block ?_)))))))
 replace hr := bd hr; obtain ⟨k, i, hr⟩ := hr
 refine .aN (σ := fun u => match u with | (b, a) => ⟨mkS 33 0 [(2, .hp 0 0), (6, .hs 1 0 b.length 8), (12, slT ai.c c.Points), (13, ag (c.Points.length : Int)), (14, ag a)], [.own (al.c g), .own (b.flatMap aJ.c)]⟩) (Q := fun x st' => match (generalizing := false) k with | .inl f => x = .exit 0 /\ Wk 0 st' ⟨mkS 33 0 [(6, .hs 0 0 f.length 8)], [.own (f.flatMap aJ.c)]⟩ | .inr (r0) => x = .ret /\ aK Tryz.prog [.tmp 4, .tmp 5] (.tup [slT aJ.c r0.1, ag r0.2]) .ret st') i ((Wk.nil 6 8 kRf).trans ((Wk.gc [2, 6, 12, 13, 14] [(0, true), (2, false)] rfl (pKt (pKc trivial))).to)) ?_ ?_
 ·clear hr
  rintro m ⟨b, a⟩ hr
  refine CQ.sh ?_
  refine .seq (.r4 G [2, 6, 12, 13, 14] [(15, aB (decide (a < (c.Points.length : Int))))] (.seq ?_))
  refine .cd hr ?_ ?_ <;> intro s hr
  ·refine .skip (.seq (.block (.seq ?_)))
   obtain ⟨j, hr⟩ := gd hr
   refine .r0 G (.p0 (v := .pp (c.Points.flatMap ai.c) (a.toNat * 6)) (tr (au j)) (.p0 (v := .agg (ai.c (gt c.Points a))) (tr (y := br.ofP (ei (decide (6 <= ((c.Points.flatMap ai.c).drop (a.toNat * 6)).length)) (.agg (((c.Points.flatMap ai.c).drop (a.toNat * 6)).take 6)))) (b6 ai.len (aC j) (by decide) (by omega : a.toNat * 6 = a.toNat * 6 + 0) kRf)) (.mu 2 (.done (.nh [2, 6, 8, 12, 13, 14] [.own (al.c g), .own (b.flatMap aJ.c), .own (ai.c (gt c.Points a))] (.seq ?_))))))
   obtain ⟨d, o, hr⟩ := bd hr
   refine .g1 G (ok0 (uc n g (gt c.Points a) d o)) (.mu 2 (.ca cf0 (.mu 6 (.done (.nh [2, 6, 9, 10, 12, 13, 14] [.own (al.c g), .own (b.flatMap aJ.c), .own (ai.c (gt c.Points a)), .own (aJ.c d.1)] (.seq (.seq (.r4 G [2, 6, 9, 10, 12, 13, 14] [(25, aB ((d.2 : Int) != 0))] ?_))))))))
   refine .cd hr ?_ ?_ <;> intro t hr
   ·refine .seq (.r3 G 33 [(4, nS), (5, ag d.2)] (.ret ?_))
    obtain rfl := oi hr
    exact ⟨rfl, aK.ret (vs := [nS, ag d.2]) kRf (Sn.tup (SnL.cons Sn.gh (Sp SnL.nil)))⟩
   refine .skip ?_
   obtain ⟨p, q, hr⟩ := gd2 hr
   refine .r0 G (.mu 3 (.e0 (v := .hs 5 0 (b ++ [d.1]).length 8) (ws := [(1, .dead), (5, .own ((b ++ [d.1]).flatMap aJ.c))]) (tr (dB (new := (aJ.c d.1)) (l := b) (xs := [d.1]) aJ.len rfl rfl kRf p q)) (.mu 1 (.done (.pop (.ru G ?_))))))
   exact av (b ++ [d.1], FK (a + 1)) hr ((Wk.gc [2, 6, 12, 13, 14] [(0, true), (5, false)] rfl (pKt (pKo aJ.c aJ.pure (b ++ [d.1]) trivial))).to)
  refine .leave rfl ?_
  obtain rfl := oi hr
  exact ⟨rfl, ((Wk.gc [6] [(1, false)] rfl (pKo aJ.c aJ.pure b trivial)).to)⟩
 rcases k with f | r0
 ·rintro x st' e
  clear i
  obtain ⟨rfl, e⟩ := e
  refine aW _ rfl (.wk e (.seq (.r3 G 33 [(4, .hs 0 0 f.length 8), (5, ag 0)] (.ret ?_))))
  obtain rfl := oi hr
  exact aK.ret (vs := [.hs 0 0 f.length 8, ag 0]) kRf (Sn.tup (SnL.cons (Sn.hs rfl (.inl rfl) (SnC.pure (a7 aJ.pure _)) (fun h => bZ h)) (Sp SnL.nil)))
 rintro x st' e
 clear i
 obtain ⟨rfl, e⟩ := e
 obtain rfl := oi hr
 exact iM _ e

theorem rQ (n : Nat) (polygon : List aJ) (o : aJ) (r : Int × Bool) (hr : mi n polygon o = some r) : aO Tryz.prog 60 [slT aJ.c polygon, .agg (aJ.c o)] (.tup [ag r.1, aB r.2]) := by
 unfold mi at hr
 refine aO.bd G Tryz.func60 [.tmp 4, .tmp 5] ?_
 unfold Tryz.f60
 simp only [gS]
 refine .seq (.r5 G [0] [(3, .hp 0 0)] [.own (aJ.c o)] (.seq (.r4 G [0, 3] [(6, ag 0)] (.seq (.seq (.r4 G [0, 3, 6] [(17, slT aJ.c polygon), (18, ag (polygon.length : Int)), (19, ag 0)] (.block ?_)))))))
 replace hr := bd hr; obtain ⟨E, s, hr⟩ := hr
 refine .aN (σ := fun z0 => match z0 with | (j, a) => ⟨mkS 105 0 [(0, slT aJ.c polygon), (3, .hp 0 0), (6, ag j), (17, slT aJ.c polygon), (18, ag (polygon.length : Int)), (19, ag a)], [.own (aJ.c o)]⟩) (Q := fun x st' => match (generalizing := false) E with | .inl w => x = .exit 0 /\ Wk 0 st' ⟨mkS 105 0 [(6, ag w)], []⟩ | .inr (r0) => x = .ret /\ aK Tryz.prog [.tmp 4, .tmp 5] (.tup [ag r0.1, aB r0.2]) .ret st') s ((Wk.gc [0, 3, 6, 17, 18, 19] [(0, true)] rfl trivial).to) ?_ ?_
 ·clear hr
  rintro m ⟨j, a⟩ hr
  refine CQ.sh ?_
  refine .seq (.r4 G [0, 3, 6, 17, 18, 19] [(20, aB (decide (a < (polygon.length : Int))))] (.seq ?_))
  refine .cd hr ?_ ?_ <;> intro kp hr
  ·refine .skip (.seq (.block (.seq ?_)))
   obtain ⟨F, hr⟩ := gd hr
   refine .r0 G (.mu 1 (.p0 (v := .pp (polygon.flatMap aJ.c) (a.toNat * 8)) (tr (au F)) (.p0 (v := .agg (aJ.c (gt polygon a))) (tr (y := br.ofP (ei (decide (8 <= ((polygon.flatMap aJ.c).drop (a.toNat * 8)).length)) (.agg (((polygon.flatMap aJ.c).drop (a.toNat * 8)).take 8)))) (b6 aJ.len (aC F) (by decide) (by omega : a.toNat * 8 = a.toNat * 8 + 0) kRf)) (.mu 3 (.done (.nh [0, 3, 6, 7, 8, 17, 18, 19] [.own (aJ.c o), .own (aJ.c (gt polygon a))] (.seq ?_)))))))
   obtain ⟨V, H, hr⟩ := gd2 hr
   refine .r0 G (.mu 5 (.p0 (v := ag ((FK (a + 1)).tmod (polygon.length : Int))) (qn (x := FK (a + 1)) (y := (polygon.length : Int)) kRf kRf V) (.p0 (v := .pp (polygon.flatMap aJ.c) (((FK (a + 1)).tmod (polygon.length : Int)).toNat * 8)) (tr (au H)) (.p0 (v := .agg (aJ.c (gt polygon ((FK (a + 1)).tmod (polygon.length : Int))))) (tr (y := br.ofP (ei (decide (8 <= ((polygon.flatMap aJ.c).drop (((FK (a + 1)).tmod (polygon.length : Int)).toNat * 8)).length)) (.agg (((polygon.flatMap aJ.c).drop (((FK (a + 1)).tmod (polygon.length : Int)).toNat * 8)).take 8)))) (b6 aJ.len (aC H) (by decide) (by omega : ((FK (a + 1)).tmod (polygon.length : Int)).toNat * 8 = ((FK (a + 1)).tmod (polygon.length : Int)).toNat * 8 + 0) kRf)) (.mu 2 (.done (.nh [0, 3, 6, 8, 9, 17, 18, 19] [.own (aJ.c o), .own (aJ.c (gt polygon a)), .own (aJ.c (gt polygon ((FK (a + 1)).tmod (polygon.length : Int))))] (.seq ?_))))))))
   obtain ⟨k, I, d, J, hr⟩ := bd2 hr
   refine .tn G (ca1 (ok0 (eP n (gt polygon a).X o.X k I)) (ca3 (ok0 (eP n (gt polygon a).Y o.Y d J)))) (.mu 4 (.ca cf0 (.mu 4 (.ca (cfA (fun h => by rw [sv J I (mr n h)]) cf0) (.mu 4 ?_)))))
   refine .done (kRa ?_)
   refine .nh [0, 3, 6, 9, 10, 11, 17, 18, 19] [.own (aJ.c o), .own (aJ.c (gt polygon a)), .own (aJ.c (gt polygon ((FK (a + 1)).tmod (polygon.length : Int)))), .own (ak.c k), .own (ak.c d)] (.seq ?_)
   obtain ⟨t, L, f, M, hr⟩ := bd2 hr
   refine .tn G (ca1 (ok0 (eP n (gt polygon ((FK (a + 1)).tmod (polygon.length : Int))).X o.X t L)) (ca3 (ok0 (eP n (gt polygon ((FK (a + 1)).tmod (polygon.length : Int))).Y o.Y f M)))) (.mu 4 (.ca cf0 (.mu 4 (.ca (cfA (fun h => by rw [sv M L (mr n h)]) cf0) (.mu 4 ?_)))))
   refine .done (kRa ?_)
   refine .nh [0, 3, 6, 10, 11, 12, 13, 17, 18, 19] [.own (aJ.c o), .own (aJ.c (gt polygon a)), .own (aJ.c (gt polygon ((FK (a + 1)).tmod (polygon.length : Int)))), .own (ak.c k), .own (ak.c d), .own (ak.c t), .own (ak.c f)] (.seq ?_)
   obtain ⟨W, N, Z, O, jB, jQ, hr⟩ := bd3 hr
   obtain ⟨B, j8, hr⟩ := bd hr
   refine .tn G (ca1 (ok0 (eQ n k f W N)) (ca1 (ok0 (eQ n d t Z O)) (ca1 (ok0 (eP n W Z jB jQ)) (ca3 (ok0 (b8 n jB B j8)))))) (.mu 2 (.ca cf0 (.mu 2 (.ca (cfA (fun h => by rw [sv O N (mg n h)]) cf0) (.ca (cfF (cfF cf0)) (.ca (cfF (cfF (cfF cf0))) (.mu 1 ?_)))))))
   refine .done (kRa ?_)
   refine .nh [0, 3, 6, 10, 11, 12, 13, 14, 17, 18, 19] [.own (aJ.c o), .own (aJ.c (gt polygon a)), .own (aJ.c (gt polygon ((FK (a + 1)).tmod (polygon.length : Int)))), .own (ak.c k), .own (ak.c d), .own (ak.c t), .own (ak.c f)] (.seq (.seq ?_))
   replace hr := bd hr; obtain ⟨kB, u, hr⟩ := hr
   refine .E9 (Q := fun x st' => match (generalizing := false) kB with | .inl _ => x = .normal /\ Wk 0 st' ⟨mkS 105 0 [(0, slT aJ.c polygon), (3, .hp 0 0), (6, ag j), (11, .hp 1 0), (13, .hp 2 0), (14, ag B), (17, slT aJ.c polygon), (18, ag (polygon.length : Int)), (19, ag a)], [.own (aJ.c o), .own (ak.c d), .own (ak.c f)]⟩ | .inr (r0) => x = .ret /\ aK Tryz.prog [.tmp 4, .tmp 5] (.tup [ag r0.1, aB r0.2]) .ret st') ?_ ?_
   ·clear hr
    have hr := u
    clear u
    rcases bT ((B : Int) == 0) with l | l
    ·replace hr := cg l hr
     obtain ⟨j9, R, kO, S, lH, mN, hr⟩ := bd3 hr
     obtain ⟨jS, mF, hr⟩ := bd hr
     refine .tn G (ca1 (ok0 (eQ n k t j9 R)) (ca1 (ok0 (eQ n d f kO S)) (ca1 (ok0 (gB n j9 kO lH mN)) (ca3 (ok0 (b8 n lH jS mF)))))) (.mu 1 (.pk (v := aB true) (eB l) (.mu 3 (.ca cf0 (.mu 2 (.ca (cfA (fun h => by rw [sv S R (mg n h)]) cf0) (.ca (cfF (cfF cf0)) (.ca (cfF (cfF (cfF cf0))) (.mu 2 ?_)))))))))
     refine .done (kRa ?_)
     refine .nh [0, 3, 6, 11, 13, 14, 17, 18, 19, 72] [.own (aJ.c o), .own (aJ.c (gt polygon a)), .own (aJ.c (gt polygon ((FK (a + 1)).tmod (polygon.length : Int)))), .own (ak.c k), .own (ak.c d), .own (ak.c t), .own (ak.c f)] ?_
     refine .cd hr ?_ ?_ <;> intro kX hr
     ·refine .seq (.ru G (.ret ?_))
      obtain rfl := oi hr
      exact ⟨rfl, aK.ret (vs := [ag 0, aB true]) kRf (Sn.tup (Sp (Sp SnL.nil)))⟩
     refine .skip ?_
     obtain rfl := oi hr
     exact ⟨rfl, ((Wk.gc [0, 3, 6, 11, 13, 14, 17, 18, 19] [(0, true), (4, true), (6, true)] rfl trivial).to)⟩
    replace hr := ch l hr
    refine .dS G bF (.mu 1 (.pk (v := aB false) (eB l) (.mu 11 ?_)))
    refine .done (kRa ?_)
    refine .nh [0, 3, 6, 11, 13, 14, 17, 18, 19, 72] [.own (aJ.c o), .own (aJ.c (gt polygon a)), .own (aJ.c (gt polygon ((FK (a + 1)).tmod (polygon.length : Int)))), .own (ak.c k), .own (ak.c d), .own (ak.c t), .own (ak.c f)] (.cF kRf (.skip ?_))
    obtain rfl := oi hr
    exact ⟨rfl, ((Wk.gc [0, 3, 6, 11, 13, 14, 17, 18, 19] [(0, true), (4, true), (6, true)] rfl trivial).to)⟩
   rcases kB with ⟨⟩ | r0
   ·rintro x st' e
    clear u
    obtain ⟨rfl, e⟩ := e
    refine .wk e (.seq ?_)
    obtain ⟨C, T, D, U, hr⟩ := bd2 hr
    refine .tn G (ca1 (ok0 (b8 n d C T)) (ca3 (ok0 (b8 n f D U)))) (.mu 1 (.ca cf0 (.mu 2 (.ca (cfA (fun h => by rw [sv U T (jL n h)]) cf0) (.mu 3 ?_)))))
    refine .done (kRa ?_)
    refine .nh [0, 3, 6, 14, 15, 16, 17, 18, 19] [.own (aJ.c o), .own (ak.c d), .own (ak.c f)] (.block (.seq ?_))
    replace hr := bd hr; obtain ⟨nw, z, hr⟩ := hr
    refine .yV (Q := fun x st' => x = .normal /\ Wk 0 st' ⟨mkS 105 0 [(0, slT aJ.c polygon), (3, .hp 0 0), (6, ag j), (14, ag B), (15, aB (decide (C <= 0))), (16, aB (decide (D <= 0))), (17, slT aJ.c polygon), (18, ag (polygon.length : Int)), (19, ag a), (79, aB nw)], [.own (aJ.c o)]⟩) ?_ ?_
    ·clear hr
     have hr := z
     clear z
     rcases bT (decide (C <= 0)) with g | g
     ·replace hr := cg g hr
      rcases bT (!(decide (D <= 0))) with p | p
      ·replace hr := cg p hr
       refine .r0 G (.p0 (v := aB true) (eB g) (.mu 2 (.pure (v := aB true) kRf (eB p) (.mu 6 (.done ?_)))))
       obtain rfl := oi hr
       exact ⟨rfl, ((Wk.gc [0, 3, 6, 14, 15, 16, 17, 18, 19, 79] [(0, true)] rfl trivial).to)⟩
      replace hr := ch p hr
      refine .r0 G (.p0 (v := aB true) (eB g) (.mu 2 (.pure (v := aB false) kRf (eB p) (.mu 6 (.done ?_)))))
      obtain rfl := oi hr
      exact ⟨rfl, ((Wk.gc [0, 3, 6, 14, 15, 16, 17, 18, 19, 79] [(0, true)] rfl trivial).to)⟩
     replace hr := ch g hr
     refine .r0 G (.p0 (v := aB false) (eB g) (.mu 9 (.done ?_)))
     obtain rfl := oi hr
     exact ⟨rfl, ((Wk.gc [0, 3, 6, 14, 15, 16, 17, 18, 19, 79] [(0, true)] rfl trivial).to)⟩
    rintro x st' A
    clear z
    obtain ⟨rfl, A⟩ := A
    refine .wk A ?_
    refine .cd hr ?_ ?_ <;> intro kV hr
    ·refine .ru G (.pop (.pop (.ru G ?_)))
     exact av (FK (j + 1), FK (a + 1)) hr ((Wk.gc [0, 3, 6, 17, 18, 19] [(0, true)] rfl trivial).to)
    refine .seq ?_
    rcases bT (!(decide (C <= 0))) with i | i
    ·replace hr := cg i hr
     rcases bT (decide (D <= 0)) with q | q
     ·replace hr := cg q hr
      refine .r0 G (.mu 1 (.p0 (v := aB true) (eB i) (.mu 1 (.pure (v := aB true) kRf (eB q) (.mu 6 (.done (.nh [0, 3, 6, 17, 18, 19, 91] [.own (aJ.c o)] ?_)))))))
      refine .cd hr ?_ ?_ <;> intro ki hr
      ·refine .ru G (.pop (.pop (.ru G ?_)))
       exact av (FK (j - 1), FK (a + 1)) hr ((Wk.gc [0, 3, 6, 17, 18, 19] [(0, true)] rfl trivial).to)
      refine .skip (.pop (.pop (.ru G ?_)))
      exact av (j, FK (a + 1)) hr ((Wk.gc [0, 3, 6, 17, 18, 19] [(0, true)] rfl trivial).to)
     replace hr := ch q hr
     refine .r0 G (.mu 1 (.p0 (v := aB true) (eB i) (.mu 1 (.pure (v := aB false) kRf (eB q) (.mu 6 (.done (.nh [0, 3, 6, 17, 18, 19, 91] [.own (aJ.c o)] (.cF kRf (.skip (.pop (.pop (.ru G ?_))))))))))))
     exact av (j, FK (a + 1)) hr ((Wk.gc [0, 3, 6, 17, 18, 19] [(0, true)] rfl trivial).to)
    replace hr := ch i hr
    refine .r0 G (.mu 1 (.p0 (v := aB false) (eB i) (.mu 8 (.done (.nh [0, 3, 6, 17, 18, 19, 91] [.own (aJ.c o)] (.cF kRf (.skip (.pop (.pop (.ru G ?_))))))))))
    exact av (j, FK (a + 1)) hr ((Wk.gc [0, 3, 6, 17, 18, 19] [(0, true)] rfl trivial).to)
   rintro x st' e
   clear u
   obtain ⟨rfl, e⟩ := e
   obtain rfl := oi hr
   exact iM _ ⟨rfl, e⟩
  refine .leave rfl ?_
  obtain rfl := oi hr
  exact ⟨rfl, ((Wk.gc [6] [] rfl pK0).to)⟩
 rcases E with w | r0
 ·rintro x st' b
  clear s
  obtain ⟨rfl, b⟩ := b
  refine aW _ rfl (.wk b (.seq (.ru G (.ret ?_))))
  obtain rfl := oi hr
  exact aK.ret (vs := [ag w, aB false]) kRf (Sn.tup (Sp (Sp SnL.nil)))
 rintro x st' b
 clear s
 obtain ⟨rfl, b⟩ := b
 obtain rfl := oi hr
 exact iM _ b

theorem tQ (n : Nat) (g : al) (l : ae) (i : Int) (j : Int) (r : Int × Int) (hr : oq n g l i j = some r) : aO Tryz.prog 22 [.agg (al.c g), .agg (ae.c l), ag i, ag j] (.tup [ag r.1, ag r.2]) := by
 unfold oq at hr
 refine aO.bd G Tryz.func22 [.tmp 8, .tmp 9] ?_
 unfold Tryz.f22
 simp only [gS]
 refine .seq (.r5 G [2, 3] [(4, .hp 0 0), (5, .hp 1 0)] [.own (al.c g), .own (ae.c l)] (.seq (.seq ?_)))
 obtain ⟨y, z, hr⟩ := bd hr
 refine .g1 G (ok0 (ow n g y z)) (.mu 1 (.ca cf0 (.mu 1 (.done (.nh [2, 3, 4, 5, 10] [.own (al.c g), .own (ae.c l)] (.seq (.r4 G [2, 3, 4, 5, 10] [(18, aB ((y : Int) != 0))] ?_)))))))
 refine .cd hr ?_ ?_ <;> intro F hr
 ·refine .seq (.ru G (.ret ?_))
  obtain rfl := oi hr
  exact aK.ret (vs := [ag 0, ag y]) kRf (Sn.tup (Sp (Sp SnL.nil)))
 refine .skip (.seq (.seq ?_))
 replace hr := bd hr; obtain ⟨A, e, hr⟩ := hr
 refine .yV (Q := fun x st' => x = .normal /\ Wk 0 st' ⟨mkS 79 0 [(2, ag i), (3, ag j), (4, .hp 0 0), (5, .hp 1 0), (37, aB A)], [.own (al.c g), .own (ae.c l)]⟩) ?_ ?_
 ·clear hr
  have hr := e
  clear e
  rcases bT (decide (i < 0)) with b | b
  ·replace hr := cg b hr
   refine .r0 G (.mu 1 (.p0 (v := aB true) (eB b) (.mu 16 (.done ?_))))
   obtain rfl := oi hr
   exact ⟨rfl, ((Wk.gc [2, 3, 4, 5, 37] [(0, true), (1, true)] rfl trivial).to)⟩
  replace hr := ch b hr
  rcases bT (decide (i >= g.Width)) with d | d
  ·replace hr := cg d hr
   refine .r0 G (.mu 1 (.p0 (v := aB false) (eB b) (.mu 4 (.pure (v := aB true) kRf (eB d) (.mu 11 (.done ?_))))))
   obtain rfl := oi hr
   exact ⟨rfl, ((Wk.gc [2, 3, 4, 5, 37] [(0, true), (1, true)] rfl trivial).to)⟩
  replace hr := ch d hr
  rcases bT (decide (j < 0)) with f | f
  ·replace hr := cg f hr
   refine .r0 G (.mu 1 (.p0 (v := aB false) (eB b) (.mu 4 (.pure (v := aB false) kRf (eB d) (.mu 3 (.pure (v := aB true) kRf (eB f) (.mu 7 (.done ?_))))))))
   obtain rfl := oi hr
   exact ⟨rfl, ((Wk.gc [2, 3, 4, 5, 37] [(0, true), (1, true)] rfl trivial).to)⟩
  replace hr := ch f hr
  refine .r0 G (.mu 1 (.p0 (v := aB false) (eB b) (.mu 4 (.pure (v := aB false) kRf (eB d) (.mu 3 (.pure (v := aB false) kRf (eB f) (.mu 7 (.done ?_))))))))
  obtain rfl := oi hr
  exact ⟨rfl, ((Wk.gc [2, 3, 4, 5, 37] [(0, true), (1, true)] rfl trivial).to)⟩
 rintro x st' k
 clear e
 obtain ⟨rfl, k⟩ := k
 refine .wk k ?_
 refine .cd hr ?_ ?_ <;> intro B hr
 ·refine .seq (.ru G (.ret ?_))
  obtain rfl := oi hr
  exact aK.ret (vs := [ag 0, ag 2]) kRf (Sn.tup (Sp (Sp SnL.nil)))
 refine .skip (.seq (.seq (.r4 G [2, 3, 4, 5] [(40, aB (!l.Closed))] ?_)))
 refine .cd hr ?_ ?_ <;> intro C hr
 ·refine .seq (.ru G (.ret ?_))
  obtain rfl := oi hr
  exact aK.ret (vs := [ag 0, ag 11]) kRf (Sn.tup (Sp (Sp SnL.nil)))
 refine .skip (.seq ?_)
 obtain ⟨m, s, hr⟩ := bd hr
 refine .g1 G (ok0 (sO n g l m s)) (.mu 2 (.ca cf0 (.mu 5 (.done (.nh [2, 3, 4, 11, 12] [.own (al.c g), .own (ae.c l)] (.seq (.seq (.r4 G [2, 3, 4, 11, 12] [(48, aB ((m.2 : Int) != 0))] ?_))))))))
 refine .cd hr ?_ ?_ <;> intro D hr
 ·refine .seq (.ru G (.ret ?_))
  obtain rfl := oi hr
  exact aK.ret (vs := [ag 0, ag m.2]) kRf (Sn.tup (Sp (Sp SnL.nil)))
 refine .skip (.seq ?_)
 obtain ⟨t, o, u, p, q, w, hr⟩ := bd3 hr
 refine .tn G (ca1 (ok0 (cZ n (FK (g.X0 + (FK (i * g.Step)))) t o)) (ca1 (ok0 (cZ n (FK (g.Y0 + (FK (j * g.Step)))) u p)) (ca3 (ok0 (rQ n m.1 (aJ.mk t u) q w))))) (.mu 8 (.ca cf0 (.mu 7 (.ca (cfA (fun h => by rw [sv p o (nN n h)]) cf0) (.mu 1 (.ca (cfF (cfF cf0)) (.mu 5 ?_)))))))
 refine .done (kRa ?_)
 refine .nh [11, 13, 14] [.own (al.c g), .own (ae.c l)] (.seq (.seq ?_))
 rcases bT q.2 with a | a
 ·replace hr := cg a hr
  refine .r0 G (.p0 (v := aB true) (eB a) (.mu 5 (.done (.nh [13, 77] [.own (al.c g), .own (ae.c l)] (.cT kRf (.seq (.ru G (.ret ?_))))))))
  obtain rfl := oi hr
  exact aK.ret (vs := [ag 0, ag 13]) kRf (Sn.tup (Sp (Sp SnL.nil)))
 replace hr := ch a hr
 refine .r0 G (.p0 (v := aB false) (eB a) (.mu 5 (.done (.nh [13, 77] [.own (al.c g), .own (ae.c l)] ?_))))
 refine .cd hr ?_ ?_ <;> intro E hr
 ·refine .seq (.ru G (.ret ?_))
  obtain rfl := oi hr
  exact aK.ret (vs := [ag 0, ag 13]) kRf (Sn.tup (Sp (Sp SnL.nil)))
 refine .skip (.seq (.ru G (.ret ?_)))
 obtain rfl := oi hr
 exact aK.ret (vs := [ag q.1, ag 0]) kRf (Sn.tup (Sp (Sp SnL.nil)))

theorem aX (n : Nat) (negative : Bool) (l : List Int) (r : ah) (hr : aV n negative l = some r) : aO Tryz.prog 129 [aB negative, az l] (.agg (ah.c r)) := by
 unfold aV at hr
 refine aO.bd G Tryz.func129 [.cell 4 40] ?_
 unfold Tryz.f129
 simp only [gS]
 refine .seq (.r5 G [0, 1] [(4, .hp 0 0)] [.own [aB false, nS]] (.seq (.r4 G [0, 1, 4] [(5, ag (l.length : Int))] (.seq (.block ?_)))))
 replace hr := bd hr; obtain ⟨a, i, hr⟩ := hr
 refine .aN (σ := fun u => match u with | b => ⟨mkS 31 0 [(0, aB negative), (1, az l), (4, .hp 0 0), (5, ag b)], [.own [aB false, nS]]⟩) (Q := fun x st' => x = .exit 0 /\ Wk 0 st' ⟨mkS 31 0 [(0, aB negative), (1, az l), (4, .hp 0 0), (5, ag a)], [.own [aB false, nS]]⟩) i ((Wk.gc [0, 1, 4, 5] [(0, true)] rfl trivial).to) ?_ ?_
 ·clear hr
  rintro m b hr
  refine CQ.sh ?_
  refine .seq (.seq ?_)
  rcases bT (decide (b > 0)) with f | f
  ·replace hr := cg f hr
   obtain ⟨o, hr⟩ := gd hr
   refine .r0 G (.mu 1 (.p0 (v := aB true) (eB f) (.mu 4 (.pure (v := .pp (l.flatMap iCu) ((FK (b - 1)).toNat * 1)) kRf (tr (au o)) (.pure (v := bj (gt l (FK (b - 1)))) kRf (tr (aE (aF (aG .u32) (aC o) z1 (by omega : (FK (b - 1)).toNat * 1 = (FK (b - 1)).toNat * 1 + 0) kRf))) (.mu 2 (.done (.nh [0, 1, 4, 5, 17] [.own [aB false, nS]] ?_))))))))
   refine .cd hr ?_ ?_ <;> intro w hr
   ·refine .skip (.block (.ru G (.pop ?_)))
    exact av (FK (b - 1)) hr ((Wk.gc [0, 1, 4, 5] [(0, true)] rfl trivial).to)
   refine .leave rfl ?_
   obtain rfl := oi hr
   exact ⟨rfl, ((Wk.gc [0, 1, 4, 5] [(0, true)] rfl trivial).to)⟩
  replace hr := ch f hr
  refine .r0 G (.mu 1 (.p0 (v := aB false) (eB f) (.mu 8 (.done (.nh [0, 1, 4, 5, 17] [.own [aB false, nS]] (.cF kRf (.leave rfl ?_)))))))
  obtain rfl := oi hr
  exact ⟨rfl, ((Wk.gc [0, 1, 4, 5] [(0, true)] rfl trivial).to)⟩
 rintro x st' g
 clear i
 obtain ⟨rfl, g⟩ := g
 refine aW _ rfl (.wk g (.seq ?_))
 rcases bT negative with d | d
 ·replace hr := cg d hr
  obtain ⟨j, p, q, hr⟩ := gd3 hr
  refine .r0 G (.p0 (v := aB true) (eB d) (.mu 7 (.p0 (v := az ((l.drop (0 : Int).toNat).take (a.toNat - (0 : Int).toNat))) (tr (y := slO (inS 0 a l.length) (0 : Int).toNat a.toNat (fun z1 e => .sl true (((l.flatMap iCu).drop (z1 * 1)).take ((e - z1) * 1)) (e - z1))) (wG j (tm (aG _) (pY j)))) (.e0 (v := .hs 2 0 ((l.drop (0 : Int).toNat).take (a.toNat - (0 : Int).toNat)).length 1) (ws := [(1, .dead), (2, .own (((l.drop (0 : Int).toNat).take (a.toNat - (0 : Int).toNat)).flatMap iCu))]) (tr (y := zo (decide (((((l.drop (0 : Int).toNat).take (a.toNat - (0 : Int).toNat)).flatMap iCu)).length = ((l.drop (0 : Int).toNat).take (a.toNat - (0 : Int).toNat)).length * 1)) (((l.drop (0 : Int).toNat).take (a.toNat - (0 : Int).toNat)).flatMap iCu) ((l.drop (0 : Int).toNat).take (a.toNat - (0 : Int).toNat)).length (fun z1 e => og (decide (0 + 0 * 1 <= (([] : List Int).flatMap iCu).length) && decide ((0 + e) * 4 <= 140737488355328) && decide (0 + e <= 4611686018427387904)) (some (.eff (.hs 2 0 (0 + e) 1) [(1, .dead), (2, .own (((([] : List Int).flatMap iCu).drop 0).take (0 * 1) ++ z1))])))) (tt (mP (aG _)) rfl (dB (l := ([] : List Int)) (xs := (l.drop (0 : Int).toNat).take (a.toNat - (0 : Int).toNat)) (aG _) rfl rfl rfl p q))) (.mu 2 (.done (.nh [4] [.own [aB (decide (a > 0)), .hs 2 0 ((l.drop (0 : Int).toNat).take (a.toNat - (0 : Int).toNat)).length 1], .dead, .own (((l.drop (0 : Int).toNat).take (a.toNat - (0 : Int).toNat)).flatMap iCu)] (.ret ?_))))))))
  obtain rfl := oi hr
  exact aK.ret (vs := [.agg [aB (decide (a > 0)), .hs 2 0 ((l.drop (0 : Int).toNat).take (a.toNat - (0 : Int).toNat)).length 1]]) kRf (Sn.agg (Sp (SnL.cons (Sn.hs rfl (.inl rfl) (SnC.pure (a7 (aD _) _)) (fun h => bZ h)) SnL.nil)))
 replace hr := ch d hr
 obtain ⟨k, s, t, hr⟩ := gd3 hr
 refine .r0 G (.p0 (v := aB false) (eB d) (.mu 7 (.p0 (v := az ((l.drop (0 : Int).toNat).take (a.toNat - (0 : Int).toNat))) (tr (y := slO (inS 0 a l.length) (0 : Int).toNat a.toNat (fun z1 e => .sl true (((l.flatMap iCu).drop (z1 * 1)).take ((e - z1) * 1)) (e - z1))) (wG k (tm (aG _) (pY k)))) (.e0 (v := .hs 2 0 ((l.drop (0 : Int).toNat).take (a.toNat - (0 : Int).toNat)).length 1) (ws := [(1, .dead), (2, .own (((l.drop (0 : Int).toNat).take (a.toNat - (0 : Int).toNat)).flatMap iCu))]) (tr (y := zo (decide (((((l.drop (0 : Int).toNat).take (a.toNat - (0 : Int).toNat)).flatMap iCu)).length = ((l.drop (0 : Int).toNat).take (a.toNat - (0 : Int).toNat)).length * 1)) (((l.drop (0 : Int).toNat).take (a.toNat - (0 : Int).toNat)).flatMap iCu) ((l.drop (0 : Int).toNat).take (a.toNat - (0 : Int).toNat)).length (fun z1 e => og (decide (0 + 0 * 1 <= (([] : List Int).flatMap iCu).length) && decide ((0 + e) * 4 <= 140737488355328) && decide (0 + e <= 4611686018427387904)) (some (.eff (.hs 2 0 (0 + e) 1) [(1, .dead), (2, .own (((([] : List Int).flatMap iCu).drop 0).take (0 * 1) ++ z1))])))) (tt (mP (aG _)) rfl (dB (l := ([] : List Int)) (xs := (l.drop (0 : Int).toNat).take (a.toNat - (0 : Int).toNat)) (aG _) rfl rfl rfl s t))) (.mu 2 (.done (.nh [4] [.own [aB false, .hs 2 0 ((l.drop (0 : Int).toNat).take (a.toNat - (0 : Int).toNat)).length 1], .dead, .own (((l.drop (0 : Int).toNat).take (a.toNat - (0 : Int).toNat)).flatMap iCu)] (.ret ?_))))))))
 obtain rfl := oi hr
 exact aK.ret (vs := [.agg [aB false, .hs 2 0 ((l.drop (0 : Int).toNat).take (a.toNat - (0 : Int).toNat)).length 1]]) kRf (Sn.agg (Sp (SnL.cons (Sn.hs rfl (.inl rfl) (SnC.pure (a7 (aD _) _)) (fun h => bZ h)) SnL.nil)))

theorem mB (n : Nat) (k : Int) (r : ah) (hr : fV n k = some r) : aO Tryz.prog 125 [ag k] (.agg (ah.c r)) := by
 unfold fV at hr
 refine aO.bd G Tryz.func125 [.cell 2 40] ?_
 unfold Tryz.f125
 simp only [gS]
 refine .seq (.r5 G [0] [(2, .hp 0 0)] [.own [aB false, nS]] (.seq (.r4 G [0, 2] [(3, cU (wFu k))] (.seq (.seq (.r4 G [0, 2, 3] [(8, aB (decide (k < 0)))] ?_))))))
 refine .cd hr ?_ ?_ <;> intro t hr
 ·refine .r0 G (.mu 2 (.p0 (v := ag (FK (0 - (FK (k + 1))))) (tr (y := some (.pure (ag (IntKind.wrap .i64 (0 - (FK (k + 1))))))) x7) (.mu 3 (.done (.nh [0, 2, 3] [.own [aB false, nS]] (.seq (.r5 G [0, 2, 3] [(4, .hs 1 0 0 1)] [.own [aB false, nS], .own []] (.seq (.block ?_)))))))))
  replace hr := bd hr; obtain ⟨g, o, hr⟩ := hr
  refine .aN (σ := fun D => match D with | (d, e) => ⟨mkS 29 0 [(0, ag k), (2, .hp 0 0), (3, cU d), (4, .hs 1 0 e.length 1)], [.own [aB false, nS], .own (e.flatMap iCu)]⟩) (Q := fun x st' => x = .exit 0 /\ Wk 0 st' ⟨mkS 29 0 [(0, ag k), (2, .hp 0 0), (4, .hs 1 0 g.length 1)], [.own [aB false, nS], .own (g.flatMap iCu)]⟩) o ((Wk.gc [0, 2, 3, 4] [(0, true), (1, false)] rfl (pKt (pKc trivial))).to) ?_ ?_
  ·clear hr
   rintro m ⟨d, e⟩ hr
   refine CQ.sh ?_
   refine .seq (.seq (.r4 G [0, 2, 3, 4] [(16, aB (decide (d > 0)))] ?_))
   refine .cd hr ?_ ?_ <;> intro F hr
   ·refine .skip (.block (.seq ?_))
    obtain ⟨u, w, hr⟩ := gd2 hr
    refine .r0 G (.mu 5 (.e0 (v := .hs 3 0 (e ++ [aa .u32 (d.tmod 1000000000)]).length 1) (ws := [(1, .dead), (3, .own ((e ++ [aa .u32 (d.tmod 1000000000)]).flatMap iCu))]) (tr (dB (new := [bj (aa .u32 (d.tmod 1000000000))]) (l := e) (xs := [aa .u32 (d.tmod 1000000000)]) (aG .u32) rfl rfl kRf u w)) (.mu 1 (.done (.nh [0, 2, 3, 4] [.own [aB false, nS], .dead, .own [bj (aa .u32 (d.tmod 1000000000))], .own ((e ++ [aa .u32 (d.tmod 1000000000)]).flatMap iCu)] (.ru G (.pop ?_)))))))
    exact av (wFu (d.tdiv 1000000000), e ++ [aa .u32 (d.tmod 1000000000)]) hr ((Wk.gc [0, 2, 3, 4] [(0, true), (3, false)] rfl (pKt (pKo iCu (aD _) (e ++ [aa .u32 (d.tmod 1000000000)]) trivial))).to)
   refine .leave rfl ?_
   obtain rfl := oi hr
   exact ⟨rfl, ((Wk.gc [0, 2, 4] [(0, true), (1, false)] rfl (pKt (pKo iCu (aD _) e trivial))).to)⟩
  rintro x st' i
  clear o
  obtain ⟨rfl, i⟩ := i
  refine aW _ rfl (.wk i (.seq ?_))
  obtain ⟨q, z, hr⟩ := bd hr
  refine .g1 G (cx (args := [aB true, .hs 1 0 g.length 1]) (l := [1]) (Sp (SnL.cons (Sn.hs rfl (.inl rfl) (SnC.pure (a7 (aD _) _)) (fun h => bZ h)) SnL.nil)) (aX n true g q z)) (.mu 1 (.p0 (v := aB true) (eB t) (.mu 1 (.ca cf0 (.mu 1 (.done (.nh [2] [.own (ah.c q), .fix (g.flatMap iCu)] (.ret ?_))))))))
  obtain rfl := oi hr
  exact aK.r1 [.agg (ah.c q)]
 refine .skip (.seq (.r5 G [0, 2, 3] [(4, .hs 1 0 0 1)] [.own [aB false, nS], .own []] (.seq (.block ?_))))
 replace hr := bd hr; obtain ⟨f, p, hr⟩ := hr
 refine .aN (σ := fun D => match D with | (a, b) => ⟨mkS 29 0 [(0, ag k), (2, .hp 0 0), (3, cU a), (4, .hs 1 0 b.length 1)], [.own [aB false, nS], .own (b.flatMap iCu)]⟩) (Q := fun x st' => x = .exit 0 /\ Wk 0 st' ⟨mkS 29 0 [(0, ag k), (2, .hp 0 0), (4, .hs 1 0 f.length 1)], [.own [aB false, nS], .own (f.flatMap iCu)]⟩) p ((Wk.gc [0, 2, 3, 4] [(0, true), (1, false)] rfl (pKt (pKc trivial))).to) ?_ ?_
 ·clear hr
  rintro m ⟨a, b⟩ hr
  refine CQ.sh ?_
  refine .seq (.seq (.r4 G [0, 2, 3, 4] [(16, aB (decide (a > 0)))] ?_))
  refine .cd hr ?_ ?_ <;> intro E hr
  ·refine .skip (.block (.seq ?_))
   obtain ⟨A, B, hr⟩ := gd2 hr
   refine .r0 G (.mu 5 (.e0 (v := .hs 3 0 (b ++ [aa .u32 (a.tmod 1000000000)]).length 1) (ws := [(1, .dead), (3, .own ((b ++ [aa .u32 (a.tmod 1000000000)]).flatMap iCu))]) (tr (dB (new := [bj (aa .u32 (a.tmod 1000000000))]) (l := b) (xs := [aa .u32 (a.tmod 1000000000)]) (aG .u32) rfl rfl kRf A B)) (.mu 1 (.done (.nh [0, 2, 3, 4] [.own [aB false, nS], .dead, .own [bj (aa .u32 (a.tmod 1000000000))], .own ((b ++ [aa .u32 (a.tmod 1000000000)]).flatMap iCu)] (.ru G (.pop ?_)))))))
   exact av (wFu (a.tdiv 1000000000), b ++ [aa .u32 (a.tmod 1000000000)]) hr ((Wk.gc [0, 2, 3, 4] [(0, true), (3, false)] rfl (pKt (pKo iCu (aD _) (b ++ [aa .u32 (a.tmod 1000000000)]) trivial))).to)
  refine .leave rfl ?_
  obtain rfl := oi hr
  exact ⟨rfl, ((Wk.gc [0, 2, 4] [(0, true), (1, false)] rfl (pKt (pKo iCu (aD _) b trivial))).to)⟩
 rintro x st' j
 clear p
 obtain ⟨rfl, j⟩ := j
 refine aW _ rfl (.wk j (.seq ?_))
 obtain ⟨s, C, hr⟩ := bd hr
 refine .g1 G (cx (args := [aB false, .hs 1 0 f.length 1]) (l := [1]) (Sp (SnL.cons (Sn.hs rfl (.inl rfl) (SnC.pure (a7 (aD _) _)) (fun h => bZ h)) SnL.nil)) (aX n false f s C)) (.mu 1 (.p0 (v := aB false) (eB t) (.mu 1 (.ca cf0 (.mu 1 (.done (.nh [2] [.own (ah.c s), .fix (f.flatMap iCu)] (.ret ?_))))))))
 obtain rfl := oi hr
 exact aK.r1 [.agg (ah.c s)]

theorem kH (n : Nat) {b : Int} {a : Int} (h : ([.at (.int .i64 b)] : List AV) = [.at (.int .i64 a)]) : bY n b = bY n a := by
 obtain rfl := eN h
 rfl
theorem eJ (n : Nat) (a : Int) (r : ah) (hr : bY n a = some r) : aO Tryz.prog 83 [ag a] (.agg (ah.c r)) := by
 unfold bY at hr
 refine aO.bd G Tryz.func83 [.cell 2 40] ?_
 unfold Tryz.f83
 simp only [gS]
 refine .seq (.r5 G [0] [(2, .hp 0 0)] [.own [aB false, nS]] (.seq ?_))
 obtain ⟨b, d, hr⟩ := bd hr
 refine .g1 G (ok0 (mB n a b d)) (.mu 1 (.ca cf0 (.mu 1 (.done (.nh [2] [.own (ah.c b)] (.ret ?_))))))
 obtain rfl := oi hr
 exact aK.r1 [.agg (ah.c b)]

theorem kE (n : Nat) {b : ah} {a : ah} (h : ([.agg (ah.c b)] : List AV) = [.agg (ah.c a)]) : cz n b = cz n a := by
 obtain rfl := eE h
 rfl
theorem dm (n : Nat) (b : ah) (r : Bool) (hr : cz n b = some r) : aO Tryz.prog 112 [.agg (ah.c b)] (aB r) := by
 unfold cz at hr
 refine aO.bd G Tryz.func112 [.tmp 2] ?_
 unfold Tryz.f112
 simp only [gS]
 refine .seq (.r2 G 31 [(1, .hp 0 0)] [.own (ah.c b)] (.seq (.r4 G [1] [(3, ag (b.Groups.length : Int))] (.seq (.seq (.r4 G [1, 3] [(4, ag 0)] (.block ?_)))))))
 replace hr := bd hr; obtain ⟨h, e, hr⟩ := hr
 refine .aN (σ := fun j => match j with | d => ⟨mkS 31 0 [(1, .hp 0 0), (3, ag (b.Groups.length : Int)), (4, ag d)], [.own (ah.c b)]⟩) (Q := fun x st' => match (generalizing := false) h with | .inl _ => x = .exit 0 /\ Wk 0 st' ⟨mkS 31 0 [(1, .hp 0 0), (3, ag (b.Groups.length : Int))], [.own (ah.c b)]⟩ | .inr (r0) => x = .ret /\ aK Tryz.prog [.tmp 2] (aB r0) .ret st') e ((Wk.gc [1, 3, 4] [(0, true)] rfl trivial).to) ?_ ?_
 ·clear hr
  rintro m d hr
  refine CQ.sh ?_
  refine .seq (.seq (.r4 G [1, 3, 4] [(10, aB (decide (d < (b.Groups.length : Int))))] ?_))
  refine .cd hr ?_ ?_ <;> intro k hr
  ·refine .skip (.seq (.block (.seq ?_)))
   obtain ⟨g, hr⟩ := gd hr
   refine .r0 G (.mu 3 (.p0 (v := .pp (b.Groups.flatMap iCu) (d.toNat * 1)) (tr (au g)) (.p0 (v := bj (gt b.Groups d)) (tr (aE (aF (aG .u32) (aC g) z1 (by omega : d.toNat * 1 = d.toNat * 1 + 0) kRf))) (.mu 1 (.done (.nh [1, 3, 4, 18] [.own (ah.c b)] ?_))))))
   refine .cd hr ?_ ?_ <;> intro l hr
   ·refine .seq (.ru G (.ret ?_))
    obtain rfl := oi hr
    exact ⟨rfl, aK.ret (vs := [aB false]) kRf (Sn.pure rfl)⟩
   refine .skip (.pop (.ru G ?_))
   exact av (FK (d + 1)) hr ((Wk.gc [1, 3, 4] [(0, true)] rfl trivial).to)
  refine .leave rfl ?_
  obtain rfl := oi hr
  exact ⟨rfl, ((Wk.gc [1, 3] [(0, true)] rfl trivial).to)⟩
 rcases h with ⟨⟩ | r0
 ·rintro x st' a
  clear e
  obtain ⟨rfl, a⟩ := a
  refine aW _ rfl (.wk a (.seq (.seq (.r4 G [1, 3] [(20, aB (((b.Groups.length : Int) : Int) == 0))] ?_))))
  refine .cd hr ?_ ?_ <;> intro i hr
  ·refine .seq (.ru G (.ret ?_))
   obtain rfl := oi hr
   exact aK.r1 [aB (!b.Negative)]
  refine .skip (.seq ?_)
  obtain ⟨f, hr⟩ := gd hr
  refine .r0 G (.mu 4 (.p0 (v := .pp (b.Groups.flatMap iCu) ((FK ((b.Groups.length : Int) - 1)).toNat * 1)) (tr (au f)) (.p0 (v := bj (gt b.Groups (FK ((b.Groups.length : Int) - 1)))) (tr (aE (aF (aG .u32) (aC f) z1 (by omega : (FK ((b.Groups.length : Int) - 1)).toNat * 1 = (FK ((b.Groups.length : Int) - 1)).toNat * 1 + 0) kRf))) (.mu 2 (.done (.ret ?_))))))
  obtain rfl := oi hr
  exact aK.r1 [aB (((gt b.Groups (FK ((b.Groups.length : Int) - 1))) : Int) != 0)]
 rintro x st' a
 clear e
 obtain ⟨rfl, a⟩ := a
 obtain rfl := oi hr
 exact iM _ a

theorem fQ (n : Nat) {b : ah} {a : ah} (h : ([.agg (ah.c b)] : List AV) = [.agg (ah.c a)]) : bf n b = bf n a := by
 obtain rfl := eE h
 rfl
theorem bL (n : Nat) (a : ah) (r : ah) (hr : bf n a = some r) : aO Tryz.prog 128 [.agg (ah.c a)] (.agg (ah.c r)) := by
 unfold bf at hr
 refine aO.bd G Tryz.func128 [.cell 2 40] ?_
 unfold Tryz.f128
 simp only [gS]
 refine .seq (.r2 G 14 [(1, .hp 0 0), (2, .hp 1 0)] [.own (ah.c a), .own [aB false, nS]] (.seq (.seq ?_)))
 obtain ⟨g, b, hr⟩ := bd hr
 refine .g1 G (ok0 (dm n a g b)) (.mu 1 (.ca cf0 (.mu 1 (.done (.nh [1, 2, 5] [.own (ah.c a), .own [aB false, nS]] ?_)))))
 refine .cd hr ?_ ?_ <;> intro i hr
 ·refine .seq (.r4 G [2] [] (.ret ?_))
  obtain rfl := oi hr
  exact aK.ret (vs := [.agg [aB false, nS]]) kRf (Sn.agg (Sp (SnL.cons Sn.gh SnL.nil)))
 refine .skip (.seq ?_)
 obtain ⟨d, e, hr⟩ := gd2 hr
 refine .dS G bF (.mu 5 (.ek (v := .hs 3 0 a.Groups.length 1) (ws := [(2, .dead), (3, .own (a.Groups.flatMap iCu))]) (tr (y := zo (decide (((a.Groups.flatMap iCu)).length = a.Groups.length * 1)) (a.Groups.flatMap iCu) a.Groups.length (fun z1 f => og (decide (0 + 0 * 1 <= (([] : List Int).flatMap iCu).length) && decide ((0 + f) * 4 <= 140737488355328) && decide (0 + f <= 4611686018427387904)) (some (.eff (.hs 3 0 (0 + f) 1) [(2, .dead), (3, .own (((([] : List Int).flatMap iCu).drop 0).take (0 * 1) ++ z1))])))) (tt (mP (aG _)) rfl (dB (l := ([] : List Int)) (xs := a.Groups) (aG _) rfl rfl rfl d e))) (.mu 2 ?_)))
 refine .done (kRa ?_)
 refine .nh [2] [.own (ah.c a), .own [aB a.Negative, .hs 3 0 a.Groups.length 1], .dead, .own (a.Groups.flatMap iCu)] (.ret ?_)
 obtain rfl := oi hr
 exact aK.ret (vs := [.agg [aB a.Negative, .hs 3 0 a.Groups.length 1]]) kRf (Sn.agg (Sp (SnL.cons (Sn.hs rfl (.inl rfl) (SnC.pure (a7 (aD _) _)) (fun h => bZ h)) SnL.nil)))

theorem eX (n : Nat) (a : ah) (r : Int) (hr : cw n a = some r) : aO Tryz.prog 113 [.agg (ah.c a)] (ag r) := by
 unfold cw at hr
 refine aO.bd G Tryz.func113 [.tmp 2] ?_
 unfold Tryz.f113
 simp only [gS]
 refine .seq (.r2 G 11 [(1, .hp 0 0)] [.own (ah.c a)] (.seq ?_))
 obtain ⟨b, d, hr⟩ := bd hr
 refine .g1 G (ok0 (bL n a b d)) (.mu 1 (.ca cf0 (.mu 1 (.done (.nh [1] [.own (ah.c b)] (.seq (.seq (.r4 G [1] [(8, aB (((b.Groups.length : Int) : Int) == 0))] ?_))))))))
 refine .cd hr ?_ ?_ <;> intro e hr
 ·refine .seq (.ru G (.ret ?_))
  obtain rfl := oi hr
  exact aK.r1 [ag 0]
 refine .skip (.seq (.seq (.r3 G 11 [(10, aB b.Negative)] ?_)))
 refine .cd hr ?_ ?_ <;> intro f hr
 ·refine .seq (.ru G (.ret ?_))
  obtain rfl := oi hr
  exact aK.r1 [ag (-1)]
 refine .skip (.seq (.ru G (.ret ?_)))
 obtain rfl := oi hr
 exact aK.r1 [ag 1]
end Go.L
