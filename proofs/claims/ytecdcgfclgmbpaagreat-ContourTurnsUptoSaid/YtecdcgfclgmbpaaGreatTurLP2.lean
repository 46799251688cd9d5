
import Derived.Test.YtecdcgfclgmbpaaGreatTurLP1
import Derived.Test.YtecdcgfclgmbpaaGreatL0Turs
import Derived.Test.YtecdcgfclgmbpaaGreatChecked
import Derived.KernelRfl
set_option linter.all false
set_option maxRecDepth 100000
set_option maxHeartbeats 4000000
namespace Go.L
open Go Go.Eng Go.Proofs
theorem uz (n : Nat) (num : ai) (den : ai) (r : ak × Int) (hr : py n num den = some r) : aM Tryz.prog 157 [.agg (ai.c num), .agg (ai.c den)] (.tup [.agg (ak.c r.1), aj r.2]) := by
 unfold py at hr
 refine aM.bd G Tryz.func157 [.cell 4 42, .tmp 5] ?_
 unfold Tryz.f157
 simp only [gS]
 refine .seq (.r2 G 17 [(2, .hp 0 0), (3, .hp 1 0), (4, .hp 2 0)] [.own (ai.c num), .own (ai.c den), .own zN2] (.seq ?_))
 obtain ⟨b, d, a, e, hr⟩ := bd2 hr
 refine .tn G (ca1 (ok0 (mL n num b d)) (ca3 (ok0 (mL n den a e)))) (.mu 1 (.ca cf0 (.mu 1 (.ca (cfA (fun h => by rw [sv e d (q8 n h)]) cf0) (.mu 2 ?_)))))
 refine .done ⟨by kernel_rfl, ?_⟩
 refine .nh [2, 3, 4] [.own (ai.c b), .own (ai.c a), .own zN2] (.seq (.seq ?_))
 obtain ⟨j, f, hr⟩ := bd hr
 refine .g1 G (ok0 (fO n a j f)) (.mu 1 (.ca cf0 (.mu 1 (.done (.nh [2, 3, 4, 12] [.own (ai.c b), .own (ai.c a), .own zN2] ?_)))))
 refine .cd hr ?_ ?_ <;> intro k hr
 ·refine .seq (.r4 G [4] [(5, aj 14)] (.ret ?_))
  obtain rfl := oi hr
  exact aF.ret (vs := [.agg zN2, aj 14]) (by kernel_rfl) (Sn.tup (SnL.cons (Sn.agg (Sp (SnL.cons Sn.dB (Sp (SnL.cons Sn.dB SnL.nil))))) (Sp SnL.nil)))
 refine .skip (.seq ?_)
 obtain ⟨g, i, hr⟩ := bd hr
 refine .g1 G (ok0 (ir n b a g i)) (.mu 2 (.ca cf0 (.mu 2 (.done (.nh [4, 5] [.own (ai.c b), .own (ai.c a), .own (ak.c g)] (.ret ?_))))))
 obtain rfl := oi hr
 exact aF.ret (vs := [.agg (ak.c g), aj 0]) (by kernel_rfl) (Sn.tup (Sp (Sp SnL.nil)))

theorem jH (n : Nat) (f : Int) (d : Int) (r : ak × Int) (hr : jB n f d = some r) : aM Tryz.prog 118 [aj f, aj d] (.tup [.agg (ak.c r.1), aj r.2]) := by
 unfold jB at hr
 refine aM.bd G Tryz.func118 [.cell 4 42, .tmp 5] ?_
 unfold Tryz.f118
 simp only [gS]
 refine .seq (.r5 G [0, 1] [(4, .hp 0 0)] [.own zN2] (.seq ?_))
 obtain ⟨i, a, j, b, e, g, hr⟩ := bd3 hr
 refine .gn G (ca1 (ok0 (jf n f i a)) (ca1 (ok0 (jf n d j b)) (ca3 (ok0 (uz n i j e g))))) (.mu 1 (.ca cf0 (.mu 1 (.ca (cfA (fun h => by rw [sv b a (rj n h)]) cf0) (.ca (cfF (cfF cf0)) (.mu 4 (.done (.nh [4, 5] [.own (ak.c e.1)] (.ret ?_)))))))))
 obtain rfl := oi hr
 exact aF.ret (vs := [.agg (ak.c e.1), aj e.2]) (by kernel_rfl) (Sn.tup (Sp (Sp SnL.nil)))

theorem rh (n : Nat) (g : ar) (level : Int) (e : A2 Int) (r : al) (hr : lL n g level e = some r) : aM Tryz.prog 94 [.agg (ar.c g), aj level, .agg (ah.c e)] (.agg (al.c r)) := by
 unfold lL at hr
 refine aM.bd G Tryz.func94 [.cell 6 44] ?_
 unfold Tryz.f94
 simp only [gS]
 refine .seq (.r5 G [1] [(3, .hp 0 0), (5, .hp 1 0), (6, .hp 2 0)] [.own (ar.c g), .own (ah.c e), .own [aj 0, aj 0, aB false, nS, aB false, nS]] (.seq ?_))
 obtain ⟨b, d, hr⟩ := gd2 hr
 refine .ei G bL (.mu 4 (.pk (v := .pp (g.Z.flatMap (iC .i64)) (e.e0.toNat * 1)) (tr (au b)) (.pk (v := aj (gt g.Z e.e0)) (tr (aH (aK (aI .i64) (aD b) z1 (by omega : e.e0.toNat * 1 = e.e0.toNat * 1 + 0) (by kernel_rfl)))) (.mu 4 (.pk (v := .pp (g.Z.flatMap (iC .i64)) (e.e1.toNat * 1)) (tr (au d)) (.pk (v := aj (gt g.Z e.e1)) (tr (aH (aK (aI .i64) (aD d) z1 (by omega : e.e1.toNat * 1 = e.e1.toNat * 1 + 0) (by kernel_rfl)))) (.mu 2 ?_)))))))
 refine .done ⟨by kernel_rfl, ?_⟩
 refine .nh [1, 5, 6, 7, 8] [.own (ar.c g), .own (ah.c e), .own [aj 0, aj 0, aB false, nS, aB false, nS]] (.seq ?_)
 obtain ⟨a, f, hr⟩ := bd hr
 refine .g1 G (ok0 (jH n (EN (level - (EN (2 * (gt g.Z e.e0))))) (EN (2 * (EN ((gt g.Z e.e1) - (gt g.Z e.e0))))) a f)) (.mu 8 (.ca cf0 (.mu 6 (.done (.nh [5, 6, 9] [.own (ar.c g), .own (ah.c e), .own [aj 0, aj 0, aB false, nS, aB false, nS], .own (ak.c a.1)] (.seq (.r5 G [6] [] [.own (ar.c g), .own (ah.c e), .own [aj e.e0, aj e.e1, aB a.1.Num.Negative, aC a.1.Num.Groups, aB a.1.Den.Negative, aC a.1.Den.Groups], .own (ak.c a.1)] (.ret ?_))))))))
 obtain rfl := oi hr
 exact aF.r1 [.agg [aj e.e0, aj e.e1, aB a.1.Num.Negative, aC a.1.Num.Groups, aB a.1.Den.Negative, aC a.1.Den.Groups]]

theorem ma (n : Nat) (start : A2 Int) (closed : Bool) (p : List (A2 Int × Bool)) (D : Int) (C : Int) (u : Int) (t : Int) (o : Int) (k : List Int) (g : Int) (d : List (A2 Int × A2 Int)) (a : List ae) (r : List (A2 Int × Bool) × List ae) (hr : fF n start closed p D C u t o k g d a = some r) : dU 5 Tryz.prog 93 [.agg (ah.c start), aB closed, .hp 0 0, .hp 1 0, .hp 2 0, .hp 3 0, .hp 4 0] [.own [.mp 5], .own [aj D, aj C, aj u, aj t, aj o, ch k], .own [aj g], .own [.mp 6], .own [.hs 7 0 a.length 2], .map (p.map (mpK aw.K bA)), .map (d.map (mpK aw.K (gA ah.c))), .own (a.flatMap ae.c)] (.tup []) [.own [.mp 5], .own [aj D, aj C, aj u, aj t, aj o, ch k], .own [aj g], .own [.mp 6], .own [.hs 7 0 r.2.length 2], .map (r.1.map (mpK aw.K bA)), .map (d.map (mpK aw.K (gA ah.c))), .own (r.2.flatMap ae.c)] := by
 unfold fF at hr
 refine dU.kR G Tryz.func93 (c := (Tryz.f93.body).getD .skip) rfl (us := []) (s := mkS 46 0 [(0, .agg (ah.c start)), (1, aB closed), (2, .hp 0 0), (3, .hp 1 0), (4, .hp 2 0), (5, .hp 3 0), (6, .hp 4 0)]) (by kernel_rfl) (rs := []) rfl ?_
 unfold Tryz.f93
 simp only [gS]
 refine .seq (.r5 G [1, 2, 3, 4, 5, 6] [(7, .hp 8 0)] [.own [.mp 5], .own [aj D, aj C, aj u, aj t, aj o, ch k], .own [aj g], .own [.mp 6], .own [.hs 7 0 a.length 2], .map (p.map (mpK aw.K bA)), .map (d.map (mpK aw.K (gA ah.c))), .own (a.flatMap ae.c), .own (ah.c start)] (.scope (.seq (.r5 G [2, 3, 4, 5, 6, 7] [(9, .hp 9 0)] [.own [.mp 5], .own [aj D, aj C, aj u, aj t, aj o, ch k], .own [aj g], .own [.mp 6], .own [.hs 7 0 a.length 2], .map (p.map (mpK aw.K bA)), .map (d.map (mpK aw.K (gA ah.c))), .own (a.flatMap ae.c), .own (ah.c start), .own [aB closed, nS]] (.seq (.label (.seq (.seq (.r5 G [2, 3, 4, 5, 6, 9] [(10, .hp 10 0)] [.own [.mp 5], .own [aj D, aj C, aj u, aj t, aj o, ch k], .own [aj g], .own [.mp 6], .own [.hs 7 0 a.length 2], .map (p.map (mpK aw.K bA)), .map (d.map (mpK aw.K (gA ah.c))), .own (a.flatMap ae.c), .own (ah.c start), .own [aB closed, nS], .own (ah.c start)] (.block ?_))))))))))
 replace hr := bd hr; obtain ⟨J, I, hr⟩ := hr
 refine .aL (σ := fun T => match T with | (w, q, i, j) => ⟨mkS 46 0 [(2, .hp 0 0), (3, .hp 1 0), (4, .hp 2 0), (5, .hp 3 0), (6, .hp 4 0), (9, .hp 8 0), (10, .hp 10 0)], [.own [.mp 5], .own [aj D, aj C, aj u, aj t, aj o, ch k], .own [aj g], .own [.mp 6], .own [.hs 7 0 a.length 2], .map (w.map (mpK aw.K bA)), .map (d.map (mpK aw.K (gA ah.c))), .own (a.flatMap ae.c), .own [aB closed, .hs 9 0 q.length 6], .own (q.flatMap al.c), .own [aj i, aj j]]⟩) (Q := fun x st' => match (generalizing := false) J with | (F, B) => x = .exit 0 /\ Wk 5 st' ⟨mkS 46 0 [(6, .hp 4 0), (9, .hp 8 0)], [.own [.mp 5], .own [aj D, aj C, aj u, aj t, aj o, ch k], .own [aj g], .own [.mp 6], .own [.hs 7 0 a.length 2], .map (F.map (mpK aw.K bA)), .map (d.map (mpK aw.K (gA ah.c))), .own (a.flatMap ae.c), .own [aB closed, .hs 9 0 B.length 6], .own (B.flatMap al.c)]⟩) I ((Wk.zr 9 1 6 (cs := [aB closed, nS]) (by kernel_rfl) (by kernel_rfl)).trans ((Wk.gc [2, 3, 4, 5, 6, 9, 10] [(0, true), (1, true), (2, true), (3, true), (4, true), (5, false), (6, false), (7, false), (9, true), (11, false), (10, true)] rfl (pKt (pKt (pKt (pKt (pKt (pKM aw.K bA (fun _ => rfl) p (pKM aw.K (gA ah.c) (fun _ => rfl) d (pKo ae.c ae.pure a (pKt (pKc trivial))))))))))).to)) ?_ ?_
 ·clear hr
  rintro m ⟨w, q, i, j⟩ hr
  show CQ _ _ _ _ _ ⟨_, _⟩
  refine .seq (.block (.seq (.r0 G (.mu 2 (.e0 (v := .unk) (ws := [(5, .map ((j5 w (A2.mk i j) true).map (mpK aw.K bA)))]) (tr (y := iz Tryz.prog [.own [.mp 5], .own [aj D, aj C, aj u, aj t, aj o, ch k], .own [aj g], .own [.mp 6], .own [.hs 7 0 a.length 2], .map (w.map (mpK aw.K bA)), .map (d.map (mpK aw.K (gA ah.c))), .own (a.flatMap ae.c), .own [aB closed, .hs 9 0 q.length 6], .own (q.flatMap al.c), .own [aj i, aj j]] 125 (.mp 5) (.agg [aj i, aj j]) (aB true)) (AX (kt := 101) (e := 4) (l := w) (f := bA) (v := true) (K := aw.K) (x := A2.mk i j) aw.key (by kernel_rfl) (by kernel_rfl) (by kernel_rfl) (by kernel_rfl))) (.done (.nh [2, 3, 4, 5, 6, 9, 10] [.own [.mp 5], .own [aj D, aj C, aj u, aj t, aj o, ch k], .own [aj g], .own [.mp 6], .own [.hs 7 0 a.length 2], .map ((j5 w (A2.mk i j) true).map (mpK aw.K bA)), .map (d.map (mpK aw.K (gA ah.c))), .own (a.flatMap ae.c), .own [aB closed, .hs 9 0 q.length 6], .own (q.flatMap al.c), .own [aj i, aj j]] (.seq ?_))))))))
  obtain ⟨A, L, hr⟩ := bd hr
  obtain ⟨M, N, hr⟩ := gd2 hr
  refine .t1 G (ok0 (rh n (ar.mk D C u t o k) g (A2.mk i j) A L)) (.mu 5 (.ca cf0 (.mu 1 (.ek (v := .hs 12 0 (q ++ [A]).length 6) (ws := [(9, .dead), (12, .own ((q ++ [A]).flatMap al.c))]) (tr (eJ (new := (al.c A)) (l := q) (xs := [A]) al.len rfl rfl (by kernel_rfl) M N)) (.mu 2 ?_)))))
  refine .done ⟨by kernel_rfl, ?_⟩
  refine .nh [2, 3, 4, 5, 6, 9, 10] [.own [.mp 5], .own [aj D, aj C, aj u, aj t, aj o, ch k], .own [aj g], .own [.mp 6], .own [.hs 7 0 a.length 2], .map ((j5 w (A2.mk i j) true).map (mpK aw.K bA)), .map (d.map (mpK aw.K (gA ah.c))), .own (a.flatMap ae.c), .own [aB closed, .hs 12 0 (q ++ [A]).length 6], .dead, .own [aj i, aj j], .own (al.c A), .own ((q ++ [A]).flatMap al.c)] (.seq (.r0 G (.mu 2 (.p0 (v := .tup [.agg (ah.c (getM (A2.mk 0 0 : A2 Int) d (A2.mk i j))), aB (p7 d (A2.mk i j))]) (tr (y := bt.ofP (ft Tryz.prog [.own [.mp 5], .own [aj D, aj C, aj u, aj t, aj o, ch k], .own [aj g], .own [.mp 6], .own [.hs 7 0 a.length 2], .map ((j5 w (A2.mk i j) true).map (mpK aw.K bA)), .map (d.map (mpK aw.K (gA ah.c))), .own (a.flatMap ae.c), .own [aB closed, .hs 12 0 (q ++ [A]).length 6], .dead, .own [aj i, aj j], .own (al.c A), .own ((q ++ [A]).flatMap al.c)] 124 (.mp 6) (.agg [aj i, aj j]) true)) (Cm (kt := 101) (e := 101) (l := d) (f := (gA ah.c)) (z := (A2.mk 0 0 : A2 Int)) (K := aw.K) (x := A2.mk i j) aw.key (by kernel_rfl) (by kernel_rfl) (by kernel_rfl) (by kernel_rfl) (by kernel_rfl))) (.mu 6 (.done (.nh [2, 3, 4, 5, 6, 9, 10, 11, 12] [.own [.mp 5], .own [aj D, aj C, aj u, aj t, aj o, ch k], .own [aj g], .own [.mp 6], .own [.hs 7 0 a.length 2], .map ((j5 w (A2.mk i j) true).map (mpK aw.K bA)), .map (d.map (mpK aw.K (gA ah.c))), .own (a.flatMap ae.c), .own [aB closed, .hs 12 0 (q ++ [A]).length 6], .dead, .own [aj i, aj j], .own (al.c A), .own ((q ++ [A]).flatMap al.c), .own (ah.c (getM (A2.mk 0 0 : A2 Int) d (A2.mk i j)))] (.seq (.seq ?_)))))))))
  rcases bT (!(p7 d (A2.mk i j))) with E | E
  ·replace hr := b8 E hr
   refine .r0 G (.mu 1 (.p0 (v := aB true) (eB E) (.mu 5 (.done (.nh [2, 3, 4, 5, 6, 9, 10, 11, 39] [.own [.mp 5], .own [aj D, aj C, aj u, aj t, aj o, ch k], .own [aj g], .own [.mp 6], .own [.hs 7 0 a.length 2], .map ((j5 w (A2.mk i j) true).map (mpK aw.K bA)), .map (d.map (mpK aw.K (gA ah.c))), .own (a.flatMap ae.c), .own [aB closed, .hs 12 0 (q ++ [A]).length 6], .dead, .own [aj i, aj j], .own (al.c A), .own ((q ++ [A]).flatMap al.c), .own (ah.c (getM (A2.mk 0 0 : A2 Int) d (A2.mk i j)))] (.cT (by kernel_rfl) (.leave rfl ?_)))))))
   obtain rfl := oi hr
   exact ⟨rfl, ((Wk.gc [6, 9] [(0, true), (1, true), (2, true), (3, true), (4, true), (5, false), (6, false), (7, false), (8, true), (12, false)] rfl (pKt (pKt (pKt (pKt (pKt (pKM aw.K bA (fun _ => rfl) (j5 w (A2.mk i j) true) (pKM aw.K (gA ah.c) (fun _ => rfl) d (pKo ae.c ae.pure a (pKt (pKo al.c al.pure (q ++ [A]) trivial))))))))))).to)⟩
  replace hr := bX E hr
  refine .r0 G (.mu 1 (.p0 (v := aB false) (eB E) (.mu 3 (.pure (v := aB (getM false (j5 w (A2.mk i j) true) (getM (A2.mk 0 0 : A2 Int) d (A2.mk i j)))) (by kernel_rfl) (tr (y := bt.ofP (ft Tryz.prog [.own [.mp 5], .own [aj D, aj C, aj u, aj t, aj o, ch k], .own [aj g], .own [.mp 6], .own [.hs 7 0 a.length 2], .map ((j5 w (A2.mk i j) true).map (mpK aw.K bA)), .map (d.map (mpK aw.K (gA ah.c))), .own (a.flatMap ae.c), .own [aB closed, .hs 12 0 (q ++ [A]).length 6], .dead, .own [aj i, aj j], .own (al.c A), .own ((q ++ [A]).flatMap al.c), .own (ah.c (getM (A2.mk 0 0 : A2 Int) d (A2.mk i j)))] 125 (.mp 5) (.agg (ah.c (getM (A2.mk 0 0 : A2 Int) d (A2.mk i j)))) false)) (yI (kt := 101) (e := 4) (l := j5 w (A2.mk i j) true) (f := bA) (z := false) (K := aw.K) (x := (getM (A2.mk 0 0 : A2 Int) d (A2.mk i j))) aw.key (by kernel_rfl) (by kernel_rfl) (by kernel_rfl) (by kernel_rfl) (by kernel_rfl))) (.mu 1 (.done (.nh [2, 3, 4, 5, 6, 9, 10, 11, 39] [.own [.mp 5], .own [aj D, aj C, aj u, aj t, aj o, ch k], .own [aj g], .own [.mp 6], .own [.hs 7 0 a.length 2], .map ((j5 w (A2.mk i j) true).map (mpK aw.K bA)), .map (d.map (mpK aw.K (gA ah.c))), .own (a.flatMap ae.c), .own [aB closed, .hs 12 0 (q ++ [A]).length 6], .dead, .own [aj i, aj j], .own (al.c A), .own ((q ++ [A]).flatMap al.c), .own (ah.c (getM (A2.mk 0 0 : A2 Int) d (A2.mk i j)))] ?_)))))))
  refine .cd hr ?_ ?_ <;> intro S hr
  ·refine .leave rfl ?_
   obtain rfl := oi hr
   exact ⟨rfl, ((Wk.gc [6, 9] [(0, true), (1, true), (2, true), (3, true), (4, true), (5, false), (6, false), (7, false), (8, true), (12, false)] rfl (pKt (pKt (pKt (pKt (pKt (pKM aw.K bA (fun _ => rfl) (j5 w (A2.mk i j) true) (pKM aw.K (gA ah.c) (fun _ => rfl) d (pKo ae.c ae.pure a (pKt (pKo al.c al.pure (q ++ [A]) trivial))))))))))).to)⟩
  refine .skip (.ru G (.pop (.seq (.r4 G [2, 3, 4, 5, 6, 9] [(41, .agg (ah.c (getM (A2.mk 0 0 : A2 Int) d (A2.mk i j))))] (.ru G ?_)))))
  exact aA (j5 w (A2.mk i j) true, q ++ [A], (getM (A2.mk 0 0 : A2 Int) d (A2.mk i j)).e0, (getM (A2.mk 0 0 : A2 Int) d (A2.mk i j)).e1) hr ((Wk.gc [2, 3, 4, 5, 6, 9, 10] [(0, true), (1, true), (2, true), (3, true), (4, true), (5, false), (6, false), (7, false), (8, true), (12, false), (14, true)] rfl (pKt (pKt (pKt (pKt (pKt (pKM aw.K bA (fun _ => rfl) (j5 w (A2.mk i j) true) (pKM aw.K (gA ah.c) (fun _ => rfl) d (pKo ae.c ae.pure a (pKt (pKo al.c al.pure (q ++ [A]) trivial))))))))))).to)
 rcases J with ⟨F, B⟩
 rintro x st' H
 clear I
 obtain ⟨rfl, H⟩ := H
 refine aV _ rfl (.wk H (.wk (((Wk.fix 9 (cs := (B.flatMap al.c)) (by kernel_rfl)).trans (Wk.Ci 8 1 (b := 9) (len := B.length) (es := 6) (cs := (B.flatMap al.c)) (cs' := [aB closed, .hs 9 0 B.length 6]) (by kernel_rfl) (by kernel_rfl) (by kernel_rfl) (aZ al.pure _) (fun h => cB h))).to (c := ⟨mkS 46 0 [(6, .hp 4 0), (9, .hp 8 0)], [.own [.mp 5], .own [aj D, aj C, aj u, aj t, aj o, ch k], .own [aj g], .own [.mp 6], .own [.hs 7 0 a.length 2], .map (F.map (mpK aw.K bA)), .map (d.map (mpK aw.K (gA ah.c))), .own (a.flatMap ae.c), .own [aB closed, slT al.c B], .fix (B.flatMap al.c)]⟩) (by kernel_rfl)) ?_))
 obtain ⟨O, R, hr⟩ := gd2 hr
 refine .r0 G (.mu 3 (.e0 (v := .hs 11 0 (a ++ [ae.mk closed B]).length 2) (ws := [(7, .dead), (11, .own ((a ++ [ae.mk closed B]).flatMap ae.c))]) (tr (eJ (new := [aB closed, slT al.c B]) (l := a) (xs := [ae.mk closed B]) ae.len rfl rfl (by kernel_rfl) O R)) (.mu 1 (.done ?_))))
 obtain rfl := oi hr
 exact ee.normal [] ((Wk.gc [] [(0, true), (1, true), (2, true), (3, true), (4, true), (5, false), (6, false), (11, false)] rfl (pKt (pKt (pKt (pKt (pKt (pKM aw.K bA (fun _ => rfl) F (pKM aw.K (gA ah.c) (fun _ => rfl) d (pKo ae.c ae.pure (a ++ [ae.mk closed B]) trivial))))))))).to)

theorem sL {c : ae} {a : ae} (h : ([.agg [.at (.bool c.Closed), slT al.c c.Points]] : List AV) = [.agg [.at (.bool a.Closed), slT al.c a.Points]]) : c = a := by
 obtain ⟨_, _⟩ := c
 obtain ⟨_, _⟩ := a
 simp only [List.cons.injEq, AV.agg.injEq, AV.at.injEq, Value.int.injEq, Value.bool.injEq, AV.fn.injEq, AV.pp.injEq, true_and, and_true, (zz al.len (by decide) al.inj)] at h
 simp_all
theorem o0 (n : Nat) {c : ae} {a : ae} (h : ([.agg [.at (.bool c.Closed), slT al.c c.Points]] : List AV) = [.agg [.at (.bool a.Closed), slT al.c a.Points]]) : gg n c = gg n a := by
 obtain rfl := sL h
 rfl
theorem jM (n : Nat) (c : ae) (r : A2 Int) (hr : gg n c = some r) : aM Tryz.prog 55 [.agg (ae.c c)] (.agg (ah.c r)) := by
 unfold gg at hr
 refine aM.bd G Tryz.func55 [.cell 2 101] ?_
 unfold Tryz.f55
 simp only [gS]
 refine .seq (.r2 G 14 [(1, .hp 0 0), (2, .hp 1 0)] [.own (ae.c c), .own [aj 0, aj 0]] (.seq ?_))
 obtain ⟨a, hr⟩ := gd hr
 refine .ei G bL (.mu 2 (.pk (v := .pp (c.Points.flatMap al.c) ((0 : Int).toNat * 6)) (tr (au a)) (.mu 1 (.pk (v := aj (gt c.Points 0).A) (tr (aH (aK al.len (aD a) (by decide : 0 < 6) (by omega : (0 : Int).toNat * 6 + 0 = (0 : Int).toNat * 6 + 0) (by kernel_rfl)))) (.mu 2 (.pk (v := .pp (c.Points.flatMap al.c) ((0 : Int).toNat * 6)) (tr (au a)) (.mu 1 (.pk (v := aj (gt c.Points 0).B) (tr (aH (aK al.len (aD a) (by decide : 1 < 6) (by omega : (0 : Int).toNat * 6 + 1 = (0 : Int).toNat * 6 + 1) (by kernel_rfl)))) (.mu 2 ?_)))))))))
 refine .done ⟨by kernel_rfl, ?_⟩
 refine .nh [2] [.own (ae.c c), .own [aj (gt c.Points 0).A, aj (gt c.Points 0).B]] (.ret ?_)
 obtain rfl := oi hr
 exact aF.r1 [.agg [aj (gt c.Points 0).A, aj (gt c.Points 0).B]]

theorem rM (n : Nat) (a : ae) (b : ae) (r : Int) (hr : mF n a b = some r) : aM Tryz.prog 95 [.agg (ae.c a), .agg (ae.c b)] (aj r) := by
 unfold mF at hr
 refine aM.bd G Tryz.func95 [.tmp 4] ?_
 unfold Tryz.f95
 simp only [gS]
 refine .seq (.r2 G 10 [(2, .hp 0 0), (3, .hp 1 0)] [.own (ae.c a), .own (ae.c b)] (.seq ?_))
 obtain ⟨g, d, i, e, j, f, hr⟩ := bd3 hr
 refine .tn G (ca1 (ok0 (jM n a g d)) (ca1 (ok0 (jM n b i e)) (ca3 (ok0 (iQ n g i j f))))) (.mu 1 (.ca cf0 (.mu 1 (.ca (cfA (fun h => by rw [sv e d (o0 n h)]) cf0) (.ca (cfF (cfF cf0)) (.mu 1 ?_))))))
 refine .done ⟨by kernel_rfl, ?_⟩
 refine .ret ?_
 obtain rfl := oi hr
 exact aF.r1 [aj j]

theorem dQ (n : Nat) (data : List ae) (a : Int) (b : Int) (r : List ae) (hr : bl n data a b = some r) : dU 1 Tryz.prog 132 [.hs 0 0 data.length 2, aj a, aj b, .fn 95 [] []] [.own (data.flatMap ae.c)] (.tup []) [.own (r.flatMap ae.c)] := by
 unfold bl at hr
 refine dU.kR G Tryz.func132 (c := (Tryz.f132.body).getD .skip) rfl (us := []) (s := mkS 53 0 [(0, .hs 0 0 data.length 2), (1, aj a), (2, aj b), (3, .fn 95 [] [])]) (by kernel_rfl) (rs := []) rfl ?_
 unfold Tryz.f132
 simp only [gS]
 refine .seq (.r4 G [0, 1, 2, 3] [(8, aj (EN (a + 1)))] (.block ?_))
 replace hr := bd hr; obtain ⟨p, q, hr⟩ := hr
 refine .aL (σ := fun w => match w with | (i, f) => ⟨mkS 53 0 [(0, .hs 0 0 i.length 2), (1, aj a), (2, aj b), (3, .fn 95 [] []), (8, aj f)], [.own (i.flatMap ae.c)]⟩) (Q := fun x st' => x = .exit 0 /\ Wk 1 st' ⟨mkS 53 0 [], [.own (p.flatMap ae.c)]⟩) q ((Wk.gc [0, 1, 2, 3, 8] [(0, false)] rfl (pKo ae.c ae.pure data trivial)).to) ?_ ?_
 ·clear hr
  rintro m ⟨i, f⟩ hr
  show CQ _ _ _ _ _ ⟨_, _⟩
  refine .seq (.seq (.r4 G [0, 1, 2, 3, 8] [(14, aB (decide (f < b)))] ?_))
  refine .cd hr ?_ ?_ <;> intro A hr
  ·refine .skip (.seq (.block (.seq (.r4 G [0, 1, 2, 3, 8] [(9, aj f)] (.block ?_)))))
   replace hr := bd hr; obtain ⟨k, t, hr⟩ := hr
   refine .aL (σ := fun w => match w with | (e, d) => ⟨mkS 53 0 [(0, .hs 0 0 e.length 2), (1, aj a), (2, aj b), (3, .fn 95 [] []), (8, aj f), (9, aj d)], [.own (e.flatMap ae.c)]⟩) (Q := fun x st' => x = .exit 2 /\ Wk 1 st' ⟨mkS 53 0 [(0, .hs 0 0 k.length 2), (1, aj a), (2, aj b), (3, .fn 95 [] []), (8, aj f)], [.own (k.flatMap ae.c)]⟩) t ((Wk.gc [0, 1, 2, 3, 8, 9] [(0, false)] rfl (pKo ae.c ae.pure i trivial)).to) ?_ ?_
   ·clear hr
    rintro m ⟨e, d⟩ hr
    show CQ _ _ _ _ _ ⟨_, _⟩
    refine .seq (.seq ?_)
    rcases bT (decide (d > a)) with j | j
    ·replace hr := b8 j hr
     obtain ⟨g, h, hr⟩ := gd2 hr
     obtain ⟨z, u, hr⟩ := bd hr
     refine .t1 G (ok0 (rM n (gt e d) (gt e (EN (d - 1))) z u)) (.mu 2 (.pk (v := aB true) (eB j) (.mu 4 (.pk (v := .hp 0 (0 + d.toNat * 2)) (tr (au g)) (.pk (v := .agg (ae.c (gt e d))) (tr (y := bt.ofP (dz (decide (2 <= ((e.flatMap ae.c).drop (0 + d.toNat * 2)).length)) (.agg (((e.flatMap ae.c).drop (0 + d.toNat * 2)).take 2)))) (bB ae.len (aD g) (by decide) (by omega : 0 + d.toNat * 2 = d.toNat * 2 + 0) (by kernel_rfl))) (.mu 3 (.pk (v := .hp 0 (0 + (EN (d - 1)).toNat * 2)) (tr (au h)) (.pk (v := .agg (ae.c (gt e (EN (d - 1))))) (tr (y := bt.ofP (dz (decide (2 <= ((e.flatMap ae.c).drop (0 + (EN (d - 1)).toNat * 2)).length)) (.agg (((e.flatMap ae.c).drop (0 + (EN (d - 1)).toNat * 2)).take 2)))) (bB ae.len (aD h) (by decide) (by omega : 0 + (EN (d - 1)).toNat * 2 = (EN (d - 1)).toNat * 2 + 0) (by kernel_rfl))) (.ca cf0 (.mu 2 ?_))))))))))
     refine .done ⟨by kernel_rfl, ?_⟩
     refine .nh [0, 1, 2, 3, 8, 9, 34] [.own (e.flatMap ae.c)] ?_
     refine .cd hr ?_ ?_ <;> intro B hr
     ·refine .skip (.seq (.block (.ei G bL (.mu 8 (.pk (v := .hp 0 (0 + (EN (d - 1)).toNat * 2)) (tr (au h)) (.pk (v := .agg (ae.c (gt e (EN (d - 1))))) (tr (y := bt.ofP (dz (decide (2 <= ((e.flatMap ae.c).drop (0 + (EN (d - 1)).toNat * 2)).length)) (.agg (((e.flatMap ae.c).drop (0 + (EN (d - 1)).toNat * 2)).take 2)))) (bB ae.len (aD h) (by decide) (by omega : 0 + (EN (d - 1)).toNat * 2 = (EN (d - 1)).toNat * 2 + 0) (by kernel_rfl))) (.mu 2 (.pk (v := .hp 0 (0 + d.toNat * 2)) (tr (au g)) (.pk (v := .agg (ae.c (gt e d))) (tr (y := bt.ofP (dz (decide (2 <= ((e.flatMap ae.c).drop (0 + d.toNat * 2)).length)) (.agg (((e.flatMap ae.c).drop (0 + d.toNat * 2)).take 2)))) (bB ae.len (aD g) (by decide) (by omega : 0 + d.toNat * 2 = d.toNat * 2 + 0) (by kernel_rfl))) (.pk (v := .hp 0 (0 + d.toNat * 2)) (tr (au g)) (.ek (v := .unk) (ws := [(0, .own ((e.set d.toNat (gt e (EN (d - 1)))).flatMap ae.c))]) (tr (iE (iy (cx (n := 2) ae.len (aD g) (lbT rfl) (by omega : 0 + d.toNat * 2 = d.toNat * 2 + 0))) (congrArg Blk.own (cU (xs := (ae.c (gt e (EN (d - 1))))) ae.len (aD g) (lbT rfl) (by omega : 0 + d.toNat * 2 = d.toNat * 2 + 0) (by kernel_rfl))))) (.pk (v := .hp 0 (0 + (EN (d - 1)).toNat * 2)) (tr (au h)) (.ek (v := .unk) (ws := [(0, .own (((e.set d.toNat (gt e (EN (d - 1)))).set (EN (d - 1)).toNat (gt e d)).flatMap ae.c))]) (tr (y := stO (decide ((0 + (EN (d - 1)).toNat * 2) + 2 <= ((e.set d.toNat (gt e (EN (d - 1)))).flatMap ae.c).length) && true) [(0, .own (setCells ((e.set d.toNat (gt e (EN (d - 1)))).flatMap ae.c) (0 + (EN (d - 1)).toNat * 2) (ae.c (gt e d))))]) (iE (iy (cx ae.len (aD (q0 h)) (lbT rfl) (by omega : 0 + (EN (d - 1)).toNat * 2 = (EN (d - 1)).toNat * 2 + 0))) (congrArg Blk.own (cU ae.len (aD (q0 h)) (lbT rfl) (by omega : 0 + (EN (d - 1)).toNat * 2 = (EN (d - 1)).toNat * 2 + 0) (by kernel_rfl))))) ?_)))))))))))))
      refine .done ⟨by kernel_rfl, ?_⟩
      refine .pop (.ru G ?_)
      exact aA ((e.set d.toNat (gt e (EN (d - 1)))).set (EN (d - 1)).toNat (gt e d), EN (d - 1)) hr ((Wk.iG 0 (b := 0) (es := 2) (len := e.length) ((e.set d.toNat (gt e (EN (d - 1)))).set (EN (d - 1)).toNat (gt e d)).length (by kernel_rfl) (Eq.symm (List.length_set.trans (List.length_set.trans rfl)))).trans ((Wk.gc [0, 1, 2, 3, 8, 9] [(0, false)] rfl (pKo ae.c ae.pure ((e.set d.toNat (gt e (EN (d - 1)))).set (EN (d - 1)).toNat (gt e d)) trivial)).to))
     refine .leave rfl ?_
     obtain rfl := oi hr
     exact ⟨rfl, ((Wk.gc [0, 1, 2, 3, 8] [(0, false)] rfl (pKo ae.c ae.pure e trivial)).to)⟩
    replace hr := bX j hr
    refine .ei G bL (.mu 2 (.pk (v := aB false) (eB j) (.mu 14 ?_)))
    refine .done ⟨by kernel_rfl, ?_⟩
    refine .nh [0, 1, 2, 3, 8, 9, 34] [.own (e.flatMap ae.c)] (.cF (by kernel_rfl) (.leave rfl ?_))
    obtain rfl := oi hr
    exact ⟨rfl, ((Wk.gc [0, 1, 2, 3, 8] [(0, false)] rfl (pKo ae.c ae.pure e trivial)).to)⟩
   rintro x st' l
   clear t
   obtain ⟨rfl, l⟩ := l
   refine aV _ rfl (.pop (.wk l (.ru G ?_)))
   exact aA (k, EN (f + 1)) hr ((Wk.gc [0, 1, 2, 3, 8] [(0, false)] rfl (pKo ae.c ae.pure k trivial)).to)
  refine .leave rfl ?_
  obtain rfl := oi hr
  exact ⟨rfl, ((Wk.gc [] [(0, false)] rfl (pKo ae.c ae.pure i trivial)).to)⟩
 rintro x st' o
 clear q
 obtain ⟨rfl, o⟩ := o
 refine aV _ rfl ?_
 obtain rfl := oi hr
 exact ee.wk o (ee.normal [] ((Wk.gc [] [(0, false)] rfl (pKo ae.c ae.pure p trivial)).to))

theorem eA (n : Nat) (data : List ae) (a : Int) (b : Int) (limit : Int) (r : List ae) (hr : bF n data a b limit = some r) : dU 1 Tryz.prog 97 [.hs 0 0 data.length 2, aj a, aj b, aj limit, .fn 95 [] []] [.own (data.flatMap ae.c)] (.tup []) [.own (r.flatMap ae.c)] := by
 unfold bF at hr
 refine dU.kR G Tryz.func97 (c := (Tryz.f97.body).getD .skip) rfl (us := []) (s := mkS 148 0 [(0, .hs 0 0 data.length 2), (1, aj a), (2, aj b), (3, aj limit), (4, .fn 95 [] [])]) (by kernel_rfl) (rs := []) rfl ?_
 unfold Tryz.f97
 simp only [gS]
 refine .seq (.r4 G [0, 1, 2, 3, 4] [(10, aB true)] (.seq (.r4 G [0, 1, 2, 3, 4, 10] [(11, aB true)] (.block ?_))))
 replace hr := bd hr; obtain ⟨r0, g, hr⟩ := hr
 refine .aL (σ := fun p => match p with | (d, e, h, i, j) => ⟨mkS 148 0 [(0, .hs 0 0 data.length 2), (1, aj d), (2, aj e), (3, aj h), (4, .fn 95 [] []), (10, aB i), (11, aB j)], [.own (data.flatMap ae.c)]⟩) (Q := fun x st' => x = .ret /\ ee 1 Tryz.prog [] [] [.own (r0.flatMap ae.c)] .ret st') g ((Wk.gc [0, 1, 2, 3, 4, 10, 11] [(0, false)] rfl (pKo ae.c ae.pure data trivial)).to) ?_ ?_
 ·clear hr
  rintro m ⟨d, e, h, i, j⟩ hr
  show CQ _ _ _ _ _ ⟨_, _⟩
  refine .block (.seq (.r4 G [0, 1, 2, 3, 4, 10, 11] [(12, aj (EN (e - d)))] (.seq (.seq (.r4 G [0, 1, 2, 3, 4, 10, 11, 12] [(25, aB (decide ((EN (e - d)) <= 12)))] ?_)))))
  obtain ⟨l, hr⟩ := gd hr
  refine .cY l (.seq ?_)
  obtain ⟨k, o, hr⟩ := bd hr
  refine .g1 G (cu (args := [.hs 0 0 data.length 2, aj d, aj e, .fn 95 [] []]) 1 0 [(0, false)] [false] (dQ n data d e k o) (by exact ⟨aZ ae.pure _, trivial⟩) (by exact ⟨aZ ae.pure _, trivial⟩) rfl rfl (by kernel_rfl) (by kernel_rfl)) (.mu 4 (.ca cf0 (.done (.nh [] [.own (k.flatMap ae.c)] (.ret ?_)))))
  obtain rfl := oi hr
  exact ⟨rfl, ee.ret [] ((Wk.gc [] [(0, false)] rfl (pKo ae.c ae.pure k trivial)).to)⟩
 rintro x st' f
 clear g
 obtain ⟨rfl, f⟩ := f
 obtain rfl := oi hr
 exact gw _ f

theorem dc (n : Nat) (a : List ae) (r : List ae) (hr : aW n a = some r) : dU 1 Tryz.prog 52 [.hs 0 0 a.length 2, .fn 95 [] []] [.own (a.flatMap ae.c)] (.tup []) [.own (r.flatMap ae.c)] := by
 unfold aW at hr
 refine dU.kR G Tryz.func52 (c := (Tryz.f52.body).getD .skip) rfl (us := []) (s := mkS 14 0 [(0, .hs 0 0 a.length 2), (1, .fn 95 [] [])]) (by kernel_rfl) (rs := []) rfl ?_
 unfold Tryz.f52
 simp only [gS]
 refine .seq (.r4 G [0, 1] [(4, aj (a.length : Int))] ?_)
 obtain ⟨b, d, f, e, hr⟩ := bd2 hr
 refine .gn G (ca1 (ok0 (lN n (wFu (a.length : Int)) b d)) (ca3 (cu (args := [.hs 0 0 a.length 2, aj 0, aj (a.length : Int), aj b, .fn 95 [] []]) 1 0 [(0, false)] [false] (eA n a 0 (a.length : Int) b f e) (by exact ⟨aZ ae.pure _, trivial⟩) (by exact ⟨aZ ae.pure _, trivial⟩) rfl rfl (by kernel_rfl) (by kernel_rfl)))) (.mu 4 (.ca cf0 (.mu 1 (.ca (cfF cf0) (.done ?_)))))
 obtain rfl := oi hr
 exact ee.normal [] ((Wk.gc [] [(0, false)] rfl (pKo ae.c ae.pure f trivial)).to)

theorem oT (n : Nat) (g : ar) (level : Int) (r : List ae) (hr : im n g level = some r) : aM Tryz.prog 45 [.agg (ar.c g), aj level] (slT ae.c r) := by
 unfold im at hr
 refine aM.bd G Tryz.func45 [.tmp 4] ?_
 unfold Tryz.f45
 simp only [gS]
 refine .seq (.r2 G 68 [(2, .hp 0 0), (3, .hp 1 0)] [.own (ar.c g), .own [aj level]] (.seq (.r5 G [2, 3] [(5, .hp 2 0)] [.own (ar.c g), .own [aj level], .own [.fn 88 [] [.hp 0 0, .hp 1 0]]] (.seq (.r5 G [2, 3, 5] [(6, .hp 5 0), (7, .hp 6 0)] [.own (ar.c g), .own [aj level], .own [.fn 88 [] [.hp 0 0, .hp 1 0]], .map (([] : List (A2 Int × A2 Int)).map (mpK aw.K (gA ah.c))), .map (([] : List (A2 Int × Bool)).map (mpK aw.K bA)), .own [.mp 3], .own [.mp 4]] (.seq ?_))))))
 obtain ⟨d, lH, hr⟩ := bd hr
 refine .g1 G (kx 2 (.own [.fn 88 [] [.hp 0 0, .hp 1 0]]) [] [(0, .own (ar.c g)), (1, .own [aj level]), (5, .own [.mp 7]), (6, .own [.mp 8]), (7, .map (d.1.map (mpK aw.K (gA ah.c)))), (8, .map (d.2.map (mpK aw.K bA))), (3, .dead), (4, .dead)] (cu (args := [.agg (ar.c g), .fn 90 [] [.hp 2 0, .hp 5 0, .hp 6 0]]) 5 2 [(2, true), (0, true), (1, true), (5, true), (6, true), (3, false), (4, false)] [true, true, true, true, true, false, false] (iV n g g.X0 g.Y0 g.Step g.Width g.Height g.Z level ([] : List (A2 Int × A2 Int)) ([] : List (A2 Int × Bool)) d lH) (by exact ⟨gC (fun _ => rfl) _, ⟨gC (fun _ => rfl) _, trivial⟩⟩) (by exact ⟨gC (fun _ => rfl) _, ⟨gC (fun _ => rfl) _, trivial⟩⟩) rfl rfl (by kernel_rfl) (by kernel_rfl))) (.mu 2 (.ca cf0 (.done (.nh [2, 3, 6, 7] [.own (ar.c g), .own [aj level], .own [.fn 88 [] [.hp 0 0, .hp 1 0]], .dead, .dead, .own [.mp 7], .own [.mp 8], .map (d.1.map (mpK aw.K (gA ah.c))), .map (d.2.map (mpK aw.K bA))] (.seq (.r4 G [2, 3, 6, 7] [(8, nS)] (.seq (.seq (.r0 G (.mu 1 (.e0 (v := .hp 9 0) (ws := [(9, .iter 7 d.1.length [])]) (tr (y := mS Tryz.prog [.own (ar.c g), .own [aj level], .own [.fn 88 [] [.hp 0 0, .hp 1 0]], .dead, .dead, .own [.mp 7], .own [.mp 8], .map (d.1.map (mpK aw.K (gA ah.c))), .map (d.2.map (mpK aw.K bA))] 9 124 (.mp 7)) (CD (kt := 101) (e := 101) (es := d.1) (mk := (mpK aw.K (gA ah.c))) (by kernel_rfl) (by kernel_rfl))) (.done (.nh [2, 3, 6, 7, 8, 24] [.own (ar.c g), .own [aj level], .own [.fn 88 [] [.hp 0 0, .hp 1 0]], .dead, .dead, .own [.mp 7], .own [.mp 8], .map (d.1.map (mpK aw.K (gA ah.c))), .map (d.2.map (mpK aw.K bA)), .iter 7 d.1.length []] (.block ?_))))))))))))))
 refine .Dc (mk := (mpK aw.K (gA ah.c))) hr (fun N sn => match N with | i => ⟨mkS 68 0 [(2, .hp 0 0), (3, .hp 1 0), (6, .hp 2 0), (7, .hp 4 0), (8, .hs 6 0 i.length 2), (24, .hp 7 0)], [.own (ar.c g), .own [aj level], .own [.mp 3], .map (d.1.map (mpK aw.K (gA ah.c))), .own [.mp 5], .map (d.2.map (mpK aw.K bA)), .own (i.flatMap ah.c), .iter 3 d.1.length sn]⟩) 7 3 ((Wk.nil 8 2 (by kernel_rfl)).trans ((Wk.gc [2, 3, 6, 7, 8, 24] [(0, true), (1, true), (5, true), (7, false), (6, true), (8, false), (10, false), (9, true)] rfl (pKt (pKt (pKt (pKM aw.K (gA ah.c) (fun _ => rfl) d.1 (pKt (pKM aw.K bA (fun _ => rfl) d.2 (pKc trivial)))))))).to)) ?_ ?_
 ·clear hr
  rintro i sn M t z' G' O hr R
  refine .wk ((Wk.refl _).to (c := ⟨mkS 68 0 [(2, .hp 0 0), (3, .hp 1 0), (6, .hp 2 0), (7, .hp 4 0), (8, .hs 6 0 i.length 2), (24, .hp 7 0), (26, aB true)], [.own (ar.c g), .own [aj level], .own [.mp 3], .map (d.1.map (mpK aw.K (gA ah.c))), .own [.mp 5], .map (d.2.map (mpK aw.K bA)), .own (i.flatMap ah.c), .iter 3 d.1.length (sn ++ [M])]⟩)) (.block (.seq (.r0 G (.p0 (v := .tup [.agg [aj t.1.e0, aj t.1.e1], .agg [aj t.2.e0, aj t.2.e1]]) (tr (y := iL [.own (ar.c g), .own [aj level], .own [.mp 3], .map (d.1.map (mpK aw.K (gA ah.c))), .own [.mp 5], .map (d.2.map (mpK aw.K bA)), .own (i.flatMap ah.c), .iter 3 d.1.length (sn ++ [M])] (.hp 7 0)) (Eq.trans (Ch (P := Tryz.prog) (m := 3) (sn := sn) (es := d.1) (mk := (mpK aw.K (gA ah.c))) (e := t) (by kernel_rfl) (by kernel_rfl) O) (by kernel_rfl))) (.mu 3 (.done (.nh [2, 3, 6, 7, 8, 9, 24] [.own (ar.c g), .own [aj level], .own [.mp 3], .map (d.1.map (mpK aw.K (gA ah.c))), .own [.mp 5], .map (d.2.map (mpK aw.K bA)), .own (i.flatMap ah.c), .iter 3 d.1.length (sn ++ [M]), .own [aj t.1.e0, aj t.1.e1]] ?_)))))))
  obtain ⟨S, T, hr⟩ := gd2 hr
  refine .r0 G (.mu 3 (.e0 (v := .hs 10 0 (i ++ [t.1]).length 2) (ws := [(6, .dead), (10, .own ((i ++ [t.1]).flatMap ah.c))]) (tr (eJ (new := [aj t.1.e0, aj t.1.e1]) (l := i) (xs := [t.1]) ah.len rfl rfl (by kernel_rfl) S T)) (.mu 1 (.done (.pop ?_)))))
  obtain rfl := oi hr
  exact R _ ((Wk.gc [2, 3, 6, 7, 8, 24] [(0, true), (1, true), (2, true), (3, false), (4, true), (5, false), (10, false), (7, true)] rfl (pKt (pKt (pKt (pKM aw.K (gA ah.c) (fun _ => rfl) d.1 (pKt (pKM aw.K bA (fun _ => rfl) d.2 (pKo ah.c ah.pure (i ++ [t.1]) trivial)))))))).to)
 clear hr
 rintro i sn hr
 refine aV _ rfl (.wk ((Wk.refl _).to (c := ⟨mkS 68 0 [(2, .hp 0 0), (3, .hp 1 0), (6, .hp 2 0), (7, .hp 4 0), (8, .hs 6 0 i.length 2), (24, .hp 7 0), (26, aB false)], [.own (ar.c g), .own [aj level], .own [.mp 3], .map (d.1.map (mpK aw.K (gA ah.c))), .own [.mp 5], .map (d.2.map (mpK aw.K bA)), .own (i.flatMap ah.c), .iter 3 d.1.length sn]⟩)) (.seq ?_))
 obtain ⟨a, U, hr⟩ := bd hr
 obtain ⟨F, hr⟩ := gd hr
 refine .g1 G (cu (args := [.hs 6 0 i.length 2, .fn 54 [] []]) 1 0 [(6, false)] [false] (dd n i a U) (by exact ⟨aZ ah.pure _, trivial⟩) (by exact ⟨aZ ah.pure _, trivial⟩) rfl rfl (by kernel_rfl) (by kernel_rfl)) (.mu 1 (.ca cf0 (.done (.nh [2, 3, 6, 7, 8] [.own (ar.c g), .own [aj level], .own [.mp 3], .map (d.1.map (mpK aw.K (gA ah.c))), .own [.mp 5], .map (d.2.map (mpK aw.K bA)), .own (a.flatMap ah.c), .iter 3 d.1.length sn] (.seq (.r5 G [2, 3, 6, 7, 8] [(10, .hp 9 0)] [.own (ar.c g), .own [aj level], .own [.mp 3], .map (d.1.map (mpK aw.K (gA ah.c))), .own [.mp 5], .map (d.2.map (mpK aw.K bA)), .own (a.flatMap ah.c), .iter 3 d.1.length sn, .map (([] : List (A2 Int × Bool)).map (mpK aw.K bA)), .own [.mp 8]] (.seq (.r5 G [2, 3, 6, 7, 8, 10] [(11, .hp 10 0)] [.own (ar.c g), .own [aj level], .own [.mp 3], .map (d.1.map (mpK aw.K (gA ah.c))), .own [.mp 5], .map (d.2.map (mpK aw.K bA)), .own (a.flatMap ah.c), .iter 3 d.1.length sn, .map (([] : List (A2 Int × Bool)).map (mpK aw.K bA)), .own [.mp 8], .own [nS]] (.seq (.r4 G [7, 8, 10, 11] [(12, .fn 93 [] [.hp 9 0, .hp 0 0, .hp 1 0, .hp 2 0, .hp 10 0])] (.seq (.seq (.r4 G [7, 8, 10, 11, 12] [(37, .hs 6 0 i.length 2), (38, aj (i.length : Int)), (39, aj 0)] (.block ?_))))))))))))))
 replace hr := bd hr; obtain ⟨V, H, hr⟩ := hr
 refine .aL (σ := fun N => match N with | (s, o, j) => ⟨mkS 68 0 [(7, .hp 0 0), (8, .hs 2 0 a.length 2), (10, .hp 3 0), (11, .hp 5 0), (12, .fn 93 [] [.hp 3 0, .hp 7 0, .hp 8 0, .hp 9 0, .hp 5 0]), (37, .hs 2 0 a.length 2), (38, aj (i.length : Int)), (39, aj j)], [.own [.mp 1], .map (d.2.map (mpK aw.K bA)), .own (a.flatMap ah.c), .own [.mp 4], .map (s.map (mpK aw.K bA)), .own [.hs 6 0 o.length 2], .own (o.flatMap ae.c), .own (ar.c g), .own [aj level], .own [.mp 10], .map (d.1.map (mpK aw.K (gA ah.c)))]⟩) (Q := fun x st' => match (generalizing := false) V with | (C, B) => x = .exit 2 /\ Wk 0 st' ⟨mkS 68 0 [(8, .hs 0 0 a.length 2), (10, .hp 1 0), (11, .hp 3 0), (12, .fn 93 [] [.hp 1 0, .hp 5 0, .hp 6 0, .hp 7 0, .hp 3 0])], [.own (a.flatMap ah.c), .own [.mp 2], .map (C.map (mpK aw.K bA)), .own [.hs 4 0 B.length 2], .own (B.flatMap ae.c), .own (ar.c g), .own [aj level], .own [.mp 8], .map (d.1.map (mpK aw.K (gA ah.c)))]⟩) H ((Wk.iG 8 (b := 6) (es := 2) (len := i.length) a.length (by kernel_rfl) (Eq.symm (dcT F))).trans ((Wk.zr 10 0 2 (cs := [nS]) (by kernel_rfl) (by kernel_rfl)).trans ((Wk.iG 37 (b := 6) (es := 2) (len := i.length) a.length (by kernel_rfl) (Eq.symm (dcT F))).trans ((Wk.gc [7, 8, 10, 11, 12, 37, 38, 39] [(4, true), (5, false), (6, false), (9, true), (8, false), (10, true), (11, false), (0, true), (1, true), (2, true), (3, false)] rfl (pKt (pKM aw.K bA (fun _ => rfl) d.2 (pKo ah.c ah.pure a (pKt (pKM aw.K bA (fun _ => rfl) ([] : List (A2 Int × Bool)) (pKt (pKc (pKt (pKt (pKt (pKM aw.K (gA ah.c) (fun _ => rfl) d.1 trivial)))))))))))).to)))) ?_ ?_
 ·clear hr
  rintro m ⟨s, o, j⟩ hr
  show CQ _ _ _ _ _ ⟨_, _⟩
  refine .seq (.r4 G [7, 8, 10, 11, 12, 37, 38, 39] [(40, aB (decide (j < (i.length : Int))))] (.seq ?_))
  refine .cd hr ?_ ?_ <;> intro l8 hr
  ·refine .skip (.seq (.block (.seq ?_)))
   obtain ⟨I, hr⟩ := gd hr
   refine .r0 G (.p0 (v := .hp 2 (0 + j.toNat * 2)) (tr (au I)) (.p0 (v := .agg (ah.c (gt a j))) (tr (y := bt.ofP (dz (decide (2 <= ((a.flatMap ah.c).drop (0 + j.toNat * 2)).length)) (.agg (((a.flatMap ah.c).drop (0 + j.toNat * 2)).take 2)))) (bB ah.len (aD I) (by decide) (by omega : 0 + j.toNat * 2 = j.toNat * 2 + 0) (by kernel_rfl))) (.mu 2 (.done (.nh [7, 8, 10, 11, 12, 14, 37, 38, 39] [.own [.mp 1], .map (d.2.map (mpK aw.K bA)), .own (a.flatMap ah.c), .own [.mp 4], .map (s.map (mpK aw.K bA)), .own [.hs 6 0 o.length 2], .own (o.flatMap ae.c), .own (ar.c g), .own [aj level], .own [.mp 10], .map (d.1.map (mpK aw.K (gA ah.c))), .own (ah.c (gt a j))] (.seq (.r0 G (.mu 2 (.p0 (v := aB (getM false d.2 (gt a j))) (tr (y := bt.ofP (ft Tryz.prog [.own [.mp 1], .map (d.2.map (mpK aw.K bA)), .own (a.flatMap ah.c), .own [.mp 4], .map (s.map (mpK aw.K bA)), .own [.hs 6 0 o.length 2], .own (o.flatMap ae.c), .own (ar.c g), .own [aj level], .own [.mp 10], .map (d.1.map (mpK aw.K (gA ah.c))), .own (ah.c (gt a j))] 125 (.mp 1) (.agg (ah.c (gt a j))) false)) (yI (kt := 101) (e := 4) (l := d.2) (f := bA) (z := false) (K := aw.K) (x := (gt a j)) aw.key (by kernel_rfl) (by kernel_rfl) (by kernel_rfl) (by kernel_rfl) (by kernel_rfl))) (.mu 1 (.done (.nh [7, 8, 10, 11, 12, 14, 37, 38, 39, 46] [.own [.mp 1], .map (d.2.map (mpK aw.K bA)), .own (a.flatMap ah.c), .own [.mp 4], .map (s.map (mpK aw.K bA)), .own [.hs 6 0 o.length 2], .own (o.flatMap ae.c), .own (ar.c g), .own [aj level], .own [.mp 10], .map (d.1.map (mpK aw.K (gA ah.c))), .own (ah.c (gt a j))] ?_))))))))))))
   refine .cd hr ?_ ?_ <;> intro lK hr
   ·obtain ⟨u, W, hr⟩ := bd hr
    refine .g1 G (kx 8 (.own [aj level]) [(3, .own [.mp 12])] [(9, .own [.mp 13]), (5, .own [.hs 14 0 u.2.length 2]), (12, .map (u.1.map (mpK aw.K bA))), (13, .map (d.1.map (mpK aw.K (gA ah.c)))), (14, .own (u.2.flatMap ae.c)), (4, .dead), (10, .dead), (6, .dead)] (kx 7 (.own (ar.c g)) [(3, .own [.mp 12])] [(8, .own [aj level]), (9, .own [.mp 13]), (5, .own [.hs 14 0 u.2.length 2]), (12, .map (u.1.map (mpK aw.K bA))), (13, .map (d.1.map (mpK aw.K (gA ah.c)))), (14, .own (u.2.flatMap ae.c)), (4, .dead), (10, .dead), (6, .dead)] (cu (args := [.agg (ah.c (gt a j)), aB false, .hp 3 0, .hp 7 0, .hp 8 0, .hp 9 0, .hp 5 0]) 5 3 [(3, true), (7, true), (8, true), (9, true), (5, true), (4, false), (10, false), (6, false)] [true, true, true, true, true, false, false, false] (ma n (gt a j) false s g.X0 g.Y0 g.Step g.Width g.Height g.Z level d.1 o u W) (by exact ⟨gC (fun _ => rfl) _, ⟨gC (fun _ => rfl) _, ⟨aZ ae.pure _, trivial⟩⟩⟩) (by exact ⟨gC (fun _ => rfl) _, ⟨gC (fun _ => rfl) _, ⟨aZ ae.pure _, trivial⟩⟩⟩) rfl rfl (by kernel_rfl) (by kernel_rfl)))) (.mu 2 (.ca cf0 (.done (.pop (.ru G ?_)))))
    exact aA (u.1, u.2, EN (j + 1)) hr ((Wk.gc [7, 8, 10, 11, 12, 37, 38, 39] [(0, true), (1, false), (2, false), (3, true), (12, false), (5, true), (14, false), (7, true), (8, true), (9, true), (13, false)] rfl (pKt (pKM aw.K bA (fun _ => rfl) d.2 (pKo ah.c ah.pure a (pKt (pKM aw.K bA (fun _ => rfl) u.1 (pKt (pKo ae.c ae.pure u.2 (pKt (pKt (pKt (pKM aw.K (gA ah.c) (fun _ => rfl) d.1 trivial)))))))))))).to)
   refine .skip (.pop (.ru G ?_))
   exact aA (s, o, EN (j + 1)) hr ((Wk.gc [7, 8, 10, 11, 12, 37, 38, 39] [(0, true), (1, false), (2, false), (3, true), (4, false), (5, true), (6, false), (7, true), (8, true), (9, true), (10, false)] rfl (pKt (pKM aw.K bA (fun _ => rfl) d.2 (pKo ah.c ah.pure a (pKt (pKM aw.K bA (fun _ => rfl) s (pKt (pKo ae.c ae.pure o (pKt (pKt (pKt (pKM aw.K (gA ah.c) (fun _ => rfl) d.1 trivial)))))))))))).to)
  refine .leave rfl ?_
  obtain rfl := oi hr
  exact ⟨rfl, ((Wk.gc [8, 10, 11, 12] [(2, false), (3, true), (4, false), (5, true), (6, false), (7, true), (8, true), (9, true), (10, false)] rfl (pKo ah.c ah.pure a (pKt (pKM aw.K bA (fun _ => rfl) s (pKt (pKo ae.c ae.pure o (pKt (pKt (pKt (pKM aw.K (gA ah.c) (fun _ => rfl) d.1 trivial)))))))))).to)⟩
 rcases V with ⟨C, B⟩
 rintro x st' D
 clear H
 obtain ⟨rfl, D⟩ := D
 refine aV _ rfl (.wk D (.seq (.seq (.r4 G [10, 11, 12] [(51, .hs 0 0 a.length 2), (52, aj (a.length : Int)), (53, aj 0)] (.block ?_)))))
 replace hr := bd hr; obtain ⟨w, J, hr⟩ := hr
 refine .aL (σ := fun N => match N with | (q, p, k) => ⟨mkS 68 0 [(10, .hp 0 0), (11, .hp 2 0), (12, .fn 93 [] [.hp 0 0, .hp 4 0, .hp 5 0, .hp 6 0, .hp 2 0]), (51, .hs 8 0 a.length 2), (52, aj (a.length : Int)), (53, aj k)], [.own [.mp 1], .map (q.map (mpK aw.K bA)), .own [.hs 3 0 p.length 2], .own (p.flatMap ae.c), .own (ar.c g), .own [aj level], .own [.mp 7], .map (d.1.map (mpK aw.K (gA ah.c))), .own (a.flatMap ah.c)]⟩) (Q := fun x st' => x = .exit 4 /\ Wk 0 st' ⟨mkS 68 0 [(11, .hp 0 0)], [.own [.hs 1 0 w.length 2], .own (w.flatMap ae.c)]⟩) J ((Wk.gc [10, 11, 12, 51, 52, 53] [(1, true), (2, false), (3, true), (4, false), (5, true), (6, true), (7, true), (8, false), (0, false)] rfl (pKt (pKM aw.K bA (fun _ => rfl) C (pKt (pKo ae.c ae.pure B (pKt (pKt (pKt (pKM aw.K (gA ah.c) (fun _ => rfl) d.1 (pKo ah.c ah.pure a trivial)))))))))).to) ?_ ?_
 ·clear hr
  rintro m ⟨q, p, k⟩ hr
  show CQ _ _ _ _ _ ⟨_, _⟩
  refine .seq (.r4 G [10, 11, 12, 51, 52, 53] [(54, aB (decide (k < (a.length : Int))))] (.seq ?_))
  refine .cd hr ?_ ?_ <;> intro mv hr
  ·refine .skip (.seq (.block (.seq ?_)))
   obtain ⟨L, hr⟩ := gd hr
   refine .r0 G (.p0 (v := .hp 8 (0 + k.toNat * 2)) (tr (au L)) (.p0 (v := .agg (ah.c (gt a k))) (tr (y := bt.ofP (dz (decide (2 <= ((a.flatMap ah.c).drop (0 + k.toNat * 2)).length)) (.agg (((a.flatMap ah.c).drop (0 + k.toNat * 2)).take 2)))) (bB ah.len (aD L) (by decide) (by omega : 0 + k.toNat * 2 = k.toNat * 2 + 0) (by kernel_rfl))) (.mu 2 (.done (.nh [10, 11, 12, 16, 51, 52, 53] [.own [.mp 1], .map (q.map (mpK aw.K bA)), .own [.hs 3 0 p.length 2], .own (p.flatMap ae.c), .own (ar.c g), .own [aj level], .own [.mp 7], .map (d.1.map (mpK aw.K (gA ah.c))), .own (a.flatMap ah.c), .own (ah.c (gt a k))] (.seq (.r0 G (.mu 2 (.p0 (v := aB (getM false q (gt a k))) (tr (y := bt.ofP (ft Tryz.prog [.own [.mp 1], .map (q.map (mpK aw.K bA)), .own [.hs 3 0 p.length 2], .own (p.flatMap ae.c), .own (ar.c g), .own [aj level], .own [.mp 7], .map (d.1.map (mpK aw.K (gA ah.c))), .own (a.flatMap ah.c), .own (ah.c (gt a k))] 125 (.mp 1) (.agg (ah.c (gt a k))) false)) (yI (kt := 101) (e := 4) (l := q) (f := bA) (z := false) (K := aw.K) (x := (gt a k)) aw.key (by kernel_rfl) (by kernel_rfl) (by kernel_rfl) (by kernel_rfl) (by kernel_rfl))) (.mu 1 (.done (.nh [10, 11, 12, 16, 51, 52, 53, 60] [.own [.mp 1], .map (q.map (mpK aw.K bA)), .own [.hs 3 0 p.length 2], .own (p.flatMap ae.c), .own (ar.c g), .own [aj level], .own [.mp 7], .map (d.1.map (mpK aw.K (gA ah.c))), .own (a.flatMap ah.c), .own (ah.c (gt a k))] ?_))))))))))))
   refine .cd hr ?_ ?_ <;> intro mw hr
   ·obtain ⟨A, X, hr⟩ := bd hr
    refine .g1 G (kx 5 (.own [aj level]) [(0, .own [.mp 10])] [(6, .own [.mp 11]), (2, .own [.hs 12 0 A.2.length 2]), (10, .map (A.1.map (mpK aw.K bA))), (11, .map (d.1.map (mpK aw.K (gA ah.c)))), (12, .own (A.2.flatMap ae.c)), (1, .dead), (7, .dead), (3, .dead)] (kx 4 (.own (ar.c g)) [(0, .own [.mp 10])] [(5, .own [aj level]), (6, .own [.mp 11]), (2, .own [.hs 12 0 A.2.length 2]), (10, .map (A.1.map (mpK aw.K bA))), (11, .map (d.1.map (mpK aw.K (gA ah.c)))), (12, .own (A.2.flatMap ae.c)), (1, .dead), (7, .dead), (3, .dead)] (cu (args := [.agg (ah.c (gt a k)), aB true, .hp 0 0, .hp 4 0, .hp 5 0, .hp 6 0, .hp 2 0]) 5 3 [(0, true), (4, true), (5, true), (6, true), (2, true), (1, false), (7, false), (3, false)] [true, true, true, true, true, false, false, false] (ma n (gt a k) true q g.X0 g.Y0 g.Step g.Width g.Height g.Z level d.1 p A X) (by exact ⟨gC (fun _ => rfl) _, ⟨gC (fun _ => rfl) _, ⟨aZ ae.pure _, trivial⟩⟩⟩) (by exact ⟨gC (fun _ => rfl) _, ⟨gC (fun _ => rfl) _, ⟨aZ ae.pure _, trivial⟩⟩⟩) rfl rfl (by kernel_rfl) (by kernel_rfl)))) (.mu 2 (.ca cf0 (.done (.pop (.ru G ?_)))))
    exact aA (A.1, A.2, EN (k + 1)) hr ((Wk.gc [10, 11, 12, 51, 52, 53] [(0, true), (10, false), (2, true), (12, false), (4, true), (5, true), (6, true), (11, false), (8, false)] rfl (pKt (pKM aw.K bA (fun _ => rfl) A.1 (pKt (pKo ae.c ae.pure A.2 (pKt (pKt (pKt (pKM aw.K (gA ah.c) (fun _ => rfl) d.1 (pKo ah.c ah.pure a trivial)))))))))).to)
   refine .skip (.pop (.ru G ?_))
   exact aA (q, p, EN (k + 1)) hr ((Wk.gc [10, 11, 12, 51, 52, 53] [(0, true), (1, false), (2, true), (3, false), (4, true), (5, true), (6, true), (7, false), (8, false)] rfl (pKt (pKM aw.K bA (fun _ => rfl) q (pKt (pKo ae.c ae.pure p (pKt (pKt (pKt (pKM aw.K (gA ah.c) (fun _ => rfl) d.1 (pKo ah.c ah.pure a trivial)))))))))).to)
  refine .leave rfl ?_
  obtain rfl := oi hr
  exact ⟨rfl, ((Wk.gc [11] [(2, true), (3, false)] rfl (pKt (pKo ae.c ae.pure p trivial))).to)⟩
 rintro x st' E
 clear J
 obtain ⟨rfl, E⟩ := E
 refine aV _ rfl (.wk E (.seq ?_))
 obtain ⟨Y, jX, hr⟩ := bd hr
 obtain ⟨kB, hr⟩ := gd hr
 refine .g1 G (cu (args := [.hs 1 0 w.length 2, .fn 95 [] []]) 1 0 [(1, false)] [false] (dc n w Y jX) (by exact ⟨aZ ae.pure _, trivial⟩) (by exact ⟨aZ ae.pure _, trivial⟩) rfl rfl (by kernel_rfl) (by kernel_rfl)) (.mu 1 (.ca cf0 (.done (.nh [11] [.own [.hs 1 0 w.length 2], .own (Y.flatMap ae.c)] (.seq (.r3 G 68 [(4, .hs 1 0 w.length 2)] (.ret ?_)))))))
 obtain rfl := oi hr
 exact aF.ret (vs := [.hs 1 0 w.length 2]) (by kernel_rfl) (Sn.hse (dcT kB) rfl (.inl rfl) (SnC.pure (aZ ae.pure _)) (fun h => cB h))

theorem tE (n : Nat) (g : ar) (level : Int) (r : List ae × Int) (hr : j8 n g level = some r) : aM Tryz.prog 14 [.agg (ar.c g), aj level] (.tup [slT ae.c r.1, aj r.2]) := by
 unfold j8 at hr
 refine aM.bd G Tryz.func14 [.tmp 4, .tmp 5] ?_
 unfold Tryz.f14
 simp only [gS]
 refine .seq (.r5 G [1] [(2, .hp 0 0)] [.own (ar.c g)] (.seq (.seq ?_)))
 obtain ⟨a, b, hr⟩ := bd hr
 refine .g1 G (ok0 (jm n g level a b)) (.mu 2 (.ca cf0 (.mu 1 (.done (.nh [1, 2, 6] [.own (ar.c g)] (.seq (.r4 G [1, 2, 6] [(11, aB ((a : Int) != 0))] ?_)))))))
 refine .cd hr ?_ ?_ <;> intro f hr
 ·refine .seq (.r3 G 16 [(4, nS), (5, aj a)] (.ret ?_))
  obtain rfl := oi hr
  exact aF.ret (vs := [nS, aj a]) (by kernel_rfl) (Sn.tup (SnL.cons Sn.dB (Sp SnL.nil)))
 refine .skip (.seq ?_)
 obtain ⟨e, d, hr⟩ := bd hr
 refine .g1 G (ok0 (oT n g level e d)) (.mu 2 (.ca cf0 (.mu 2 (.done (.ret ?_)))))
 obtain rfl := oi hr
 exact aF.ret (vs := [slT ae.c e, aj 0]) (by kernel_rfl) (Sn.tup (Sp (Sp SnL.nil)))

theorem nO (n : Nat) {b : Int} {a : Int} (h : ([.at (.int .i64 b)] : List AV) = [.at (.int .i64 a)]) : bm n b = bm n a := by
 obtain rfl := dW h
 rfl
theorem dr (n : Nat) (f : Int) (r : ak) (hr : bm n f = some r) : aM Tryz.prog 61 [aj f] (.agg (ak.c r)) := by
 unfold bm at hr
 refine aM.bd G Tryz.func61 [.cell 2 42] ?_
 unfold Tryz.f61
 simp only [gS]
 refine .seq (.r5 G [0] [(2, .hp 0 0)] [.own zN2] (.seq ?_))
 obtain ⟨a, b, d, e, hr⟩ := bd2 hr
 refine .gn G (ca1 (ok0 (jf n f a b)) (ca3 (ok0 (jf n 1 d e)))) (.mu 1 (.ca cf0 (.ca (cfA (fun h => by rw [sv e b (rj n h)]) cf0) (.mu 2 (.done (.nh [2] [.own [aB a.Negative, aC a.Groups, aB d.Negative, aC d.Groups]] (.ret ?_)))))))
 obtain rfl := oi hr
 exact aF.r1 [.agg [aB a.Negative, aC a.Groups, aB d.Negative, aC d.Groups]]

theorem oJ (n : Nat) (a : Int) (r : Bool) (hr : j2 n a = some r) : aM Tryz.prog 198 [aj a] (aB r) := by
 unfold j2 at hr
 refine aM.bd G Tryz.func198 [.tmp 2] ?_
 unfold Tryz.f198
 simp only [gS]
 refine .seq (.r4 G [0] [] (.seq (.ru G (.ret ?_))))
 obtain rfl := oi hr
 exact aF.r1 [aB ((a : Int) != a)]

theorem rP (n : Nat) (a : Int) (y : Int) (r : Int) (hr : jb n a y = some r) : aM Tryz.prog 179 [aj a, aj y] (aj r) := by
 unfold jb at hr
 refine aM.bd G Tryz.func179 [.tmp 4] ?_
 unfold Tryz.f179
 simp only [gS]
 refine .seq (.r4 G [0, 1] [] (.seq ?_))
 obtain ⟨e, b, hr⟩ := bd hr
 refine .g1 G (ok0 (oJ n a e b)) (.mu 1 (.ca cf0 (.mu 1 (.done (.nh [0, 1, 5] [] (.seq ?_))))))
 obtain ⟨c, d, hr⟩ := bd hr
 refine .g1 G (ok0 (oJ n y c d)) (.mu 1 (.ca cf0 (.mu 1 (.done (.nh [0, 1, 5, 6] [] (.seq (.seq (.r4 G [0, 1, 6] [(11, aB e)] ?_))))))))
 refine .cd hr ?_ ?_ <;> intro f hr
 ·refine .seq (.seq (.r3 G 20 [(12, aB c)] ?_))
  refine .cd hr ?_ ?_ <;> intro g hr
  ·refine .seq (.ru G (.ret ?_))
   obtain rfl := oi hr
   exact aF.r1 [aj 0]
  refine .skip (.seq (.ru G (.ret ?_)))
  obtain rfl := oi hr
  exact aF.r1 [aj (-1)]
 refine .skip (.seq (.seq (.r4 G [0, 1] [(13, aB c)] ?_)))
 refine .cd hr ?_ ?_ <;> intro h hr
 ·refine .seq (.ru G (.ret ?_))
  obtain rfl := oi hr
  exact aF.r1 [aj 1]
 refine .skip (.seq (.seq (.r4 G [0, 1] [(16, aB (decide (a < y)))] ?_)))
 refine .cd hr ?_ ?_ <;> intro i hr
 ·refine .seq (.ru G (.ret ?_))
  obtain rfl := oi hr
  exact aF.r1 [aj (-1)]
 refine .skip (.seq (.seq (.r3 G 20 [(19, aB (decide (a > y)))] ?_)))
 refine .cd hr ?_ ?_ <;> intro j hr
 ·refine .seq (.ru G (.ret ?_))
  obtain rfl := oi hr
  exact aF.r1 [aj 1]
 refine .skip (.seq (.ru G (.ret ?_)))
 obtain rfl := oi hr
 exact aF.r1 [aj 0]

theorem np (n : Nat) (b : ai) (y : ai) (r : Int) (hr : fc n b y = some r) : aM Tryz.prog 144 [.agg (ai.c b), .agg (ai.c y)] (aj r) := by
 unfold fc at hr
 refine aM.bd G Tryz.func144 [.tmp 4] ?_
 unfold Tryz.f144
 simp only [gS]
 refine .seq (.r2 G 28 [(2, .hp 0 0), (3, .hp 1 0)] [.own (ai.c b), .own (ai.c y)] (.seq (.seq ?_)))
 obtain ⟨k, e, l, f, hr⟩ := bd2 hr
 refine .tn G (ca1 (ok0 (fO n b k e)) (ca3 (ok0 (fO n y l f)))) (.mu 1 (.ca cf0 (.mu 1 (.ca (cfA (fun h => by rw [sv f e (uw n h)]) cf0) (.mu 2 ?_)))))
 refine .done ⟨by kernel_rfl, ?_⟩
 refine .nh [2, 3, 5, 6] [.own (ai.c b), .own (ai.c y)] (.seq (.r4 G [2, 3, 5, 6] [(14, aB ((k : Int) != l))] ?_))
 refine .cd hr ?_ ?_ <;> intro s hr
 ·refine .seq ?_
  obtain ⟨o, m, hr⟩ := bd hr
  refine .g1 G (ok0 (rP n k l o m)) (.mu 2 (.ca cf0 (.mu 1 (.done (.ret ?_)))))
  obtain rfl := oi hr
  exact aF.r1 [aj o]
 refine .skip (.seq ?_)
 obtain ⟨p, g, i, d, a, j, hr⟩ := bd3 hr
 refine .tn G (ca1 (ok0 (cy n b p g)) (ca1 (ok0 (cy n y i d)) (ca3 (ok0 (kj n p i a j))))) (.mu 1 (.ca cf0 (.mu 1 (.ca (cfA (fun h => by rw [sv d g (gT n h)]) cf0) (.ca (cfF (cfF cf0)) (.mu 1 ?_))))))
 refine .done ⟨by kernel_rfl, ?_⟩
 refine .nh [2, 7] [.own (ai.c b), .own (ai.c y)] (.seq (.seq (.r4 G [7] [(24, aB b.Negative)] ?_)))
 refine .cd hr ?_ ?_ <;> intro q hr
 ·refine .seq (.r0 G (.mu 1 (.p0 (v := aj (EN (0 - a))) (tr (y := some (.pure (aj (IntKind.wrap .i64 (0 - a))))) xd) (.mu 1 (.done (.ret ?_))))))
  obtain rfl := oi hr
  exact aF.r1 [aj (EN (0 - a))]
 refine .skip (.seq (.ru G (.ret ?_)))
 obtain rfl := oi hr
 exact aF.r1 [aj a]

theorem iR {b : ak} {a : ak} (h : ([.agg [.at (.bool b.Num.Negative), slT iCu b.Num.Groups, .at (.bool b.Den.Negative), slT iCu b.Den.Groups]] : List AV) = [.agg [.at (.bool a.Num.Negative), slT iCu a.Num.Groups, .at (.bool a.Den.Negative), slT iCu a.Den.Groups]]) : b = a := by
 obtain ⟨⟨_, _⟩, ⟨_, _⟩⟩ := b
 obtain ⟨⟨_, _⟩, ⟨_, _⟩⟩ := a
 simp only [List.cons.injEq, AV.agg.injEq, AV.at.injEq, Value.int.injEq, Value.bool.injEq, AV.fn.injEq, AV.pp.injEq, true_and, and_true, dY] at h
 simp_all
theorem nI (n : Nat) {b : ak} {a : ak} (h : ([.agg (ak.c b)] : List AV) = [.agg (ak.c a)]) : cS n b = cS n a := by
 obtain rfl := iR h
 rfl
theorem eX (n : Nat) (a : ak) (r : Bool) (hr : cS n a = some r) : aM Tryz.prog 101 [.agg (ak.c a)] (aB r) := by
 unfold cS at hr
 refine aM.bd G Tryz.func101 [.tmp 2] ?_
 unfold Tryz.f101
 simp only [gS]
 refine .seq (.r2 G 27 [(1, .hp 0 0)] [.own (ak.c a)] (.seq (.seq ?_)))
 obtain ⟨o, d, hr⟩ := bd hr
 rcases bT (!o) with b | b
 ·replace hr := b8 b hr
  refine .g1 G (ok0 (fo n a.Num o d)) (.mu 2 (.ca cf0 (.p0 (v := aB true) (eB b) (.mu 12 (.done (.nh [1, 18] [.own (ak.c a)] (.cT (by kernel_rfl) (.seq (.ru G (.ret ?_))))))))))
  obtain rfl := oi hr
  exact aF.r1 [aB false]
 replace hr := bX b hr
 obtain ⟨p, f, hr⟩ := bd hr
 rcases bT (!p) with e | e
 ·replace hr := b8 e hr
  refine .gn G (ca1 (ok0 (fo n a.Num o d)) (ca3 (ok0 (fo n a.Den p f)))) (.mu 2 (.ca cf0 (.p0 (v := aB false) (eB b) (.mu 3 (.ca (cfA (fun h => by rw [sv f d (oO n h)]) cf0) (.pure (v := aB true) (by kernel_rfl) (eB e) (.mu 7 (.done (.nh [1, 18] [.own (ak.c a)] (.cT (by kernel_rfl) (.seq (.ru G (.ret ?_)))))))))))))
  obtain rfl := oi hr
  exact aF.r1 [aB false]
 replace hr := bX e hr
 obtain ⟨s, q, hr⟩ := bd hr
 refine .gn G (ca1 (ok0 (fo n a.Num o d)) (ca1 (ok0 (fo n a.Den p f)) (ca3 (ok0 (fO n a.Den s q))))) (.mu 2 (.ca cf0 (.p0 (v := aB false) (eB b) (.mu 3 (.ca (cfA (fun h => by rw [sv f d (oO n h)]) cf0) (.pure (v := aB false) (by kernel_rfl) (eB e) (.mu 4 (.ca (cfF (cfF cf0)) (.mu 2 (.done (.nh [1, 18] [.own (ak.c a)] ?_)))))))))))
 refine .cd hr ?_ ?_ <;> intro t hr
 ·refine .seq (.ru G (.ret ?_))
  obtain rfl := oi hr
  exact aF.r1 [aB false]
 refine .skip (.seq ?_)
 obtain ⟨g, i, j, k, l, m, hr⟩ := bd3 hr
 refine .gn G (ca1 (ok0 (nm n a.Num a.Den g i)) (ca1 (ok0 (jf n 1 j k)) (ca3 (ok0 (np n g j l m))))) (.mu 4 (.ca cf0 (.ca (cfF cf0) (.ca (cfF (cfF cf0)) (.mu 2 (.done (.ret ?_)))))))
 obtain rfl := oi hr
 exact aF.r1 [aB ((l : Int) == 0)]

theorem ry (n : Nat) (f : ak) (r : ak) (hr : iX n f = some r) : aM Tryz.prog 159 [.agg (ak.c f)] (.agg (ak.c r)) := by
 unfold iX at hr
 refine aM.bd G Tryz.func159 [.cell 2 42] ?_
 unfold Tryz.f159
 simp only [gS]
 refine .seq (.r2 G 12 [(1, .hp 0 0), (2, .hp 1 0)] [.own (ak.c f), .own zN2] (.seq ?_))
 obtain ⟨j, a, g, b, k, d, hr⟩ := bd3 hr
 obtain ⟨i, e, hr⟩ := bd hr
 refine .tn G (ca1 (ok0 (gu n f.Num j a)) (ca1 (ok0 (gu n j g b)) (ca1 (ok0 (gu n f.Den k d)) (ca3 (ok0 (gu n k i e)))))) (.mu 2 (.ca cf0 (.ca (cfA (fun h => by rw [sv b a (gr n h)]) cf0) (.mu 2 (.ca (cfA (fun h => by rw [sv d a (gr n h)]) (cfA (fun h => by rw [sv d b (gr n h)]) cf0)) (.ca (cfA (fun h => by rw [sv e a (gr n h)]) (cfA (fun h => by rw [sv e b (gr n h)]) (cfA (fun h => by rw [sv e d (gr n h)]) cf0))) (.mu 2 ?_)))))))
 refine .done ⟨by kernel_rfl, ?_⟩
 refine .nh [2] [.own (ak.c f), .own [aB g.Negative, aC g.Groups, aB i.Negative, aC i.Groups]] (.ret ?_)
 obtain rfl := oi hr
 exact aF.r1 [.agg [aB g.Negative, aC g.Groups, aB i.Negative, aC i.Groups]]

theorem jq (n : Nat) {b : ak} {a : ak} (h : ([.agg (ak.c b)] : List AV) = [.agg (ak.c a)]) : cl n b = cl n a := by
 obtain rfl := iR h
 rfl
theorem cV (n : Nat) (a : ak) (r : ak) (hr : cl n a = some r) : aM Tryz.prog 121 [.agg (ak.c a)] (.agg (ak.c r)) := by
 unfold cl at hr
 refine aM.bd G Tryz.func121 [.cell 2 42] ?_
 unfold Tryz.f121
 simp only [gS]
 refine .seq (.r2 G 8 [(1, .hp 0 0), (2, .hp 1 0)] [.own (ak.c a), .own zN2] (.seq (.seq ?_)))
 obtain ⟨h, b, hr⟩ := bd hr
 refine .g1 G (ok0 (eX n a h b)) (.mu 1 (.ca cf0 (.done (.nh [1, 2, 4] [.own (ak.c a), .own zN2] ?_))))
 refine .cd hr ?_ ?_ <;> intro i hr
 ·refine .seq ?_
  obtain ⟨d, e, hr⟩ := bd hr
  refine .g1 G (ok0 (ry n a d e)) (.mu 1 (.ca cf0 (.mu 1 (.done (.nh [2] [.own (ak.c a), .own (ak.c d)] (.ret ?_))))))
  obtain rfl := oi hr
  exact aF.r1 [.agg (ak.c d)]
 refine .skip (.seq ?_)
 obtain ⟨f, g, hr⟩ := bd hr
 refine .g1 G (ok0 (dr n 0 f g)) (.ca cf0 (.mu 1 (.done (.nh [2] [.own (ak.c a), .own (ak.c f)] (.ret ?_)))))
 obtain rfl := oi hr
 exact aF.r1 [.agg (ak.c f)]

theorem jT (n : Nat) {b : ak} {a : ak} (h : ([.agg (ak.c b)] : List AV) = [.agg (ak.c a)]) : bM n b = bM n a := by
 obtain rfl := iR h
 rfl
theorem cw (n : Nat) (a : ak) (r : Int) (hr : bM n a = some r) : aM Tryz.prog 107 [.agg (ak.c a)] (aj r) := by
 unfold bM at hr
 refine aM.bd G Tryz.func107 [.tmp 2] ?_
 unfold Tryz.f107
 simp only [gS]
 refine .seq (.r2 G 7 [(1, .hp 0 0)] [.own (ak.c a)] (.seq ?_))
 obtain ⟨e, b, f, d, hr⟩ := bd2 hr
 refine .gn G (ca1 (ok0 (cV n a e b)) (ca3 (ok0 (fO n e.Num f d)))) (.mu 1 (.ca cf0 (.mu 1 (.ca (cfF cf0) (.mu 1 (.done (.ret ?_)))))))
 obtain rfl := oi hr
 exact aF.r1 [aj f]

theorem uv (n : Nat) (d : ak) (r : ak) (hr : kM n d = some r) : aM Tryz.prog 120 [.agg (ak.c d)] (.agg (ak.c r)) := by
 unfold kM at hr
 refine aM.bd G Tryz.func120 [.cell 2 42] ?_
 unfold Tryz.f120
 simp only [gS]
 refine .seq (.r2 G 11 [(1, .hp 0 0), (2, .hp 1 0)] [.own (ak.c d), .own zN2] (.seq ?_))
 obtain ⟨a, e, hr⟩ := bd hr
 refine .g1 G (ok0 (cV n d a e)) (.mu 1 (.ca cf0 (.mu 1 (.done (.nh [1, 2] [.own (ak.c a), .own zN2] (.seq ?_))))))
 obtain ⟨b, f, hr⟩ := bd hr
 refine .t1 G (ok0 (gu n a.Num b f)) (.mu 2 (.ca cf0 (.mu 4 ?_)))
 refine .done ⟨by kernel_rfl, ?_⟩
 refine .nh [2] [.own (ak.c a), .own [aB b.Negative, aC b.Groups, aB a.Den.Negative, aC a.Den.Groups]] (.ret ?_)
 obtain rfl := oi hr
 exact aF.r1 [.agg [aB b.Negative, aC b.Groups, aB a.Den.Negative, aC a.Den.Groups]]

theorem pT {b : ai} {y : ai} {a : ai} {c : ai} (h : ([.agg [.at (.bool b.Negative), slT iCu b.Groups], .agg [.at (.bool y.Negative), slT iCu y.Groups]] : List AV) = [.agg [.at (.bool a.Negative), slT iCu a.Groups], .agg [.at (.bool c.Negative), slT iCu c.Groups]]) : b = a /\ y = c := by
 obtain ⟨_, _⟩ := b
 obtain ⟨_, _⟩ := a
 obtain ⟨_, _⟩ := y
 obtain ⟨_, _⟩ := c
 simp only [List.cons.injEq, AV.agg.injEq, AV.at.injEq, Value.int.injEq, Value.bool.injEq, AV.fn.injEq, AV.pp.injEq, true_and, and_true, dY] at h
 simp_all
theorem iB (n : Nat) {b : ai} {y : ai} {a : ai} {d : ai} (h : ([.agg (ai.c b), .agg (ai.c y)] : List AV) = [.agg (ai.c a), .agg (ai.c d)]) : dK n b y = dK n a d := by
 obtain ⟨rfl, rfl⟩ := pT h
 rfl
theorem eR (n : Nat) (a : ai) (y : ai) (r : ai) (hr : dK n a y = some r) : aM Tryz.prog 123 [.agg (ai.c a), .agg (ai.c y)] (.agg (ai.c r)) := by
 unfold dK at hr
 refine aM.bd G Tryz.func123 [.cell 4 40] ?_
 unfold Tryz.f123
 simp only [gS]
 refine .seq (.r2 G 16 [(2, .hp 0 0), (3, .hp 1 0), (4, .hp 2 0)] [.own (ai.c a), .own (ai.c y), .own [aB false, nS]] (.seq ?_))
 obtain ⟨i, b, j, d, k, e, hr⟩ := bd3 hr
 obtain ⟨f, g, hr⟩ := bd hr
 refine .tn G (ca1 (ok0 (cy n a i b)) (ca1 (ok0 (cy n y j d)) (ca1 (ok0 (th n i j k e)) (ca3 (ok0 (cg n (a.Negative != y.Negative) k f g)))))) (.mu 6 (.ca cf0 (.mu 1 (.ca (cfA (fun h => by rw [sv d b (gT n h)]) cf0) (.ca (cfF (cfF cf0)) (.ca (cfF (cfF (cfF cf0))) (.mu 1 ?_)))))))
 refine .done ⟨by kernel_rfl, ?_⟩
 refine .nh [4] [.own (ai.c a), .own (ai.c y), .own (ai.c f)] (.ret ?_)
 obtain rfl := oi hr
 exact aF.r1 [.agg (ai.c f)]

theorem vB (n : Nat) (negative : Bool) (a : List Int) (other : Bool) (b : List Int) (r : ai) (hr : mj n negative a other b = some r) : aM Tryz.prog 163 [aB negative, aC a, aB other, aC b] (.agg (ai.c r)) := by
 unfold mj at hr
 refine aM.bd G Tryz.func163 [.cell 8 40] ?_
 unfold Tryz.f163
 simp only [gS]
 refine .seq (.r5 G [0, 1, 2, 3] [(8, .hp 0 0)] [.own [aB false, nS]] (.seq (.block (.seq (.r4 G [0, 1, 2, 3, 8] [(9, aB (negative == other))] ?_)))))
 refine .cd hr ?_ ?_ <;> intro s hr
 ·refine .seq ?_
  obtain ⟨p, k, l, m, hr⟩ := bd2 hr
  refine .gn G (ca1 (ok0 (pV n a b p k)) (ca3 (ok0 (cg n negative p l m)))) (.mu 3 (.ca cf0 (.ca (cfF cf0) (.mu 1 (.done (.nh [8] [.own (ai.c l)] (.ret ?_)))))))
  obtain rfl := oi hr
  exact aF.r1 [.agg (ai.c l)]
 refine .seq ?_
 obtain ⟨t, o, hr⟩ := bd hr
 refine .g1 G (ok0 (kj n a b t o)) (.mu 2 (.ca cf0 (.mu 2 (.done (.nh [0, 1, 2, 3, 8, 18] [.own [aB false, nS]] ?_)))))
 refine .cd hr ?_ ?_ <;> intro u hr
 ·refine .seq ?_
  obtain ⟨q, f, d, g, hr⟩ := bd2 hr
  refine .gn G (ca1 (ok0 (lE n a b q f)) (ca3 (ok0 (cg n negative q d g)))) (.mu 3 (.ca cf0 (.ca (cfF cf0) (.mu 1 (.done (.nh [8] [.own (ai.c d)] (.ret ?_)))))))
  obtain rfl := oi hr
  exact aF.r1 [.agg (ai.c d)]
 refine .skip (.pop (.seq ?_))
 obtain ⟨h, i, e, j, hr⟩ := bd2 hr
 refine .gn G (ca1 (ok0 (lE n b a h i)) (ca3 (ok0 (cg n other h e j)))) (.mu 3 (.ca cf0 (.ca (cfF cf0) (.mu 1 (.done (.nh [8] [.own (ai.c e)] (.ret ?_)))))))
 obtain rfl := oi hr
 exact aF.r1 [.agg (ai.c e)]

theorem u6 (n : Nat) (a : ai) (y : ai) (r : ai) (hr : l5 n a y = some r) : aM Tryz.prog 124 [.agg (ai.c a), .agg (ai.c y)] (.agg (ai.c r)) := by
 unfold l5 at hr
 refine aM.bd G Tryz.func124 [.cell 4 40] ?_
 unfold Tryz.f124
 simp only [gS]
 refine .seq (.r2 G 14 [(2, .hp 0 0), (3, .hp 1 0), (4, .hp 2 0)] [.own (ai.c a), .own (ai.c y), .own [aB false, nS]] (.seq ?_))
 obtain ⟨g, b, i, d, e, f, hr⟩ := bd3 hr
 refine .tn G (ca1 (ok0 (cy n a g b)) (ca1 (ok0 (cy n y i d)) (ca3 (ok0 (vB n a.Negative g y.Negative i e f))))) (.mu 3 (.ca cf0 (.mu 3 (.ca (cfA (fun h => by rw [sv d b (gT n h)]) cf0) (.ca (cfF (cfF cf0)) (.mu 1 ?_))))))
 refine .done ⟨by kernel_rfl, ?_⟩
 refine .nh [4] [.own (ai.c a), .own (ai.c y), .own (ai.c e)] (.ret ?_)
 obtain rfl := oi hr
 exact aF.r1 [.agg (ai.c e)]

theorem gO (n : Nat) (o : ak) (y : ak) (r : ak) (hr : fw n o y = some r) : aM Tryz.prog 80 [.agg (ak.c o), .agg (ak.c y)] (.agg (ak.c r)) := by
 unfold fw at hr
 refine aM.bd G Tryz.func80 [.cell 4 42] ?_
 unfold Tryz.f80
 simp only [gS]
 refine .seq (.r2 G 26 [(2, .hp 0 0), (3, .hp 1 0), (4, .hp 2 0)] [.own (ak.c o), .own (ak.c y), .own zN2] (.seq ?_))
 obtain ⟨f, i, g, j, hr⟩ := bd2 hr
 refine .tn G (ca1 (ok0 (cV n o f i)) (ca3 (ok0 (cV n y g j)))) (.mu 1 (.ca cf0 (.mu 1 (.ca (cfA (fun h => by rw [sv j i (jq n h)]) cf0) (.mu 2 ?_)))))
 refine .done ⟨by kernel_rfl, ?_⟩
 refine .nh [2, 3, 4] [.own (ak.c f), .own (ak.c g), .own zN2] (.seq ?_)
 obtain ⟨p, b, q, d, s, k, hr⟩ := bd3 hr
 obtain ⟨l, a, e, m, hr⟩ := bd2 hr
 refine .tn G (ca1 (ok0 (eR n f.Num g.Den p b)) (ca1 (ok0 (eR n g.Num f.Den q d)) (ca1 (ok0 (u6 n p q s k)) (ca1 (ok0 (eR n f.Den g.Den l a)) (ca3 (ok0 (ir n s l e m))))))) (.mu 4 (.ca cf0 (.mu 4 (.ca (cfA (fun h => by rw [sv d b (iB n h)]) cf0) (.ca (cfF (cfF cf0)) (.mu 4 (.ca (cfA (fun h => by rw [sv a b (iB n h)]) (cfA (fun h => by rw [sv a d (iB n h)]) (cfF cf0))) (.ca (cfF (cfF (cfF (cfF cf0)))) (.mu 1 ?_)))))))))
 refine .done ⟨by kernel_rfl, ?_⟩
 refine .nh [4] [.own (ak.c f), .own (ak.c g), .own (ak.c e)] (.ret ?_)
 obtain rfl := oi hr
 exact aF.r1 [.agg (ak.c e)]

theorem gj {b : ak} {y : ak} {a : ak} {c : ak} (h : ([.agg [.at (.bool b.Num.Negative), slT iCu b.Num.Groups, .at (.bool b.Den.Negative), slT iCu b.Den.Groups], .agg [.at (.bool y.Num.Negative), slT iCu y.Num.Groups, .at (.bool y.Den.Negative), slT iCu y.Den.Groups]] : List AV) = [.agg [.at (.bool a.Num.Negative), slT iCu a.Num.Groups, .at (.bool a.Den.Negative), slT iCu a.Den.Groups], .agg [.at (.bool c.Num.Negative), slT iCu c.Num.Groups, .at (.bool c.Den.Negative), slT iCu c.Den.Groups]]) : b = a /\ y = c := by
 obtain ⟨⟨_, _⟩, ⟨_, _⟩⟩ := b
 obtain ⟨⟨_, _⟩, ⟨_, _⟩⟩ := a
 obtain ⟨⟨_, _⟩, ⟨_, _⟩⟩ := y
 obtain ⟨⟨_, _⟩, ⟨_, _⟩⟩ := c
 simp only [List.cons.injEq, AV.agg.injEq, AV.at.injEq, Value.int.injEq, Value.bool.injEq, AV.fn.injEq, AV.pp.injEq, true_and, and_true, dY] at h
 simp_all
theorem mC (n : Nat) {b : ak} {y : ak} {a : ak} {d : ak} (h : ([.agg (ak.c b), .agg (ak.c y)] : List AV) = [.agg (ak.c a), .agg (ak.c d)]) : dw n b y = dw n a d := by
 obtain ⟨rfl, rfl⟩ := gj h
 rfl
theorem fb (n : Nat) (a : ak) (y : ak) (r : ak) (hr : dw n a y = some r) : aM Tryz.prog 75 [.agg (ak.c a), .agg (ak.c y)] (.agg (ak.c r)) := by
 unfold dw at hr
 refine aM.bd G Tryz.func75 [.cell 4 42] ?_
 unfold Tryz.f75
 simp only [gS]
 refine .seq (.r2 G 9 [(2, .hp 0 0), (3, .hp 1 0), (4, .hp 2 0)] [.own (ak.c a), .own (ak.c y), .own zN2] (.seq ?_))
 obtain ⟨f, b, d, e, hr⟩ := bd2 hr
 refine .tn G (ca1 (ok0 (uv n y f b)) (ca3 (ok0 (gO n a f d e)))) (.mu 2 (.ca cf0 (.ca (cfF cf0) (.mu 1 ?_))))
 refine .done ⟨by kernel_rfl, ?_⟩
 refine .nh [4] [.own (ak.c a), .own (ak.c y), .own (ak.c d)] (.ret ?_)
 obtain rfl := oi hr
 exact aF.r1 [.agg (ak.c d)]

theorem nj (n : Nat) (p : ak) (b : ak) (a : ak) (tip : ak) (r : ak) (hr : ki n p b a tip = some r) : aM Tryz.prog 74 [.agg (ak.c p), .agg (ak.c b), .agg (ak.c a), .agg (ak.c tip)] (.agg (ak.c r)) := by
 unfold ki at hr
 refine aM.bd G Tryz.func74 [.cell 8 42] ?_
 unfold Tryz.f74
 simp only [gS]
 refine .seq (.r2 G 12 [(7, .hp 3 0), (8, .hp 4 0)] [.own (ak.c p), .own (ak.c b), .own (ak.c a), .own (ak.c tip), .own zN2] (.seq ?_))
 obtain ⟨g, d, e, f, hr⟩ := bd2 hr
 refine .tn G (ca1 (ok0 (dr n 1 g d)) (ca3 (ok0 (fb n g tip e f)))) (.ca cf0 (.mu 1 (.ca (cfF cf0) (.mu 1 ?_))))
 refine .done ⟨by kernel_rfl, ?_⟩
 refine .nh [8] [.own (ak.c p), .own (ak.c b), .own (ak.c a), .own (ak.c tip), .own (ak.c e)] (.ret ?_)
 obtain rfl := oi hr
 exact aF.r1 [.agg (ak.c e)]

theorem mG (n : Nat) {b : ak} {y : ak} {a : ak} {d : ak} (h : ([.agg (ak.c b), .agg (ak.c y)] : List AV) = [.agg (ak.c a), .agg (ak.c d)]) : dm n b y = dm n a d := by
 obtain ⟨rfl, rfl⟩ := gj h
 rfl
theorem eZ (n : Nat) (j : ak) (y : ak) (r : ak) (hr : dm n j y = some r) : aM Tryz.prog 78 [.agg (ak.c j), .agg (ak.c y)] (.agg (ak.c r)) := by
 unfold dm at hr
 refine aM.bd G Tryz.func78 [.cell 4 42] ?_
 unfold Tryz.f78
 simp only [gS]
 refine .seq (.r2 G 20 [(2, .hp 0 0), (3, .hp 1 0), (4, .hp 2 0)] [.own (ak.c j), .own (ak.c y), .own zN2] (.seq ?_))
 obtain ⟨a, b, d, e, hr⟩ := bd2 hr
 refine .tn G (ca1 (ok0 (cV n j a b)) (ca3 (ok0 (cV n y d e)))) (.mu 1 (.ca cf0 (.mu 1 (.ca (cfA (fun h => by rw [sv e b (jq n h)]) cf0) (.mu 2 ?_)))))
 refine .done ⟨by kernel_rfl, ?_⟩
 refine .nh [2, 3, 4] [.own (ak.c a), .own (ak.c d), .own zN2] (.seq ?_)
 obtain ⟨l, f, m, g, k, i, hr⟩ := bd3 hr
 refine .tn G (ca1 (ok0 (eR n a.Num d.Num l f)) (ca1 (ok0 (eR n a.Den d.Den m g)) (ca3 (ok0 (ir n l m k i))))) (.mu 4 (.ca cf0 (.mu 4 (.ca (cfA (fun h => by rw [sv g f (iB n h)]) cf0) (.ca (cfF (cfF cf0)) (.mu 1 ?_))))))
 refine .done ⟨by kernel_rfl, ?_⟩
 refine .nh [4] [.own (ak.c a), .own (ak.c d), .own (ak.c k)] (.ret ?_)
 obtain rfl := oi hr
 exact aF.r1 [.agg (ak.c k)]

theorem rU (n : Nat) (l : ak) (y : ak) (r : ak × Int) (hr : mA n l y = some r) : aM Tryz.prog 119 [.agg (ak.c l), .agg (ak.c y)] (.tup [.agg (ak.c r.1), aj r.2]) := by
 unfold mA at hr
 refine aM.bd G Tryz.func119 [.cell 4 42, .tmp 5] ?_
 unfold Tryz.f119
 simp only [gS]
 refine .seq (.r2 G 26 [(2, .hp 0 0), (3, .hp 1 0), (4, .hp 2 0)] [.own (ak.c l), .own (ak.c y), .own zN2] (.seq ?_))
 obtain ⟨e, f, b, g, hr⟩ := bd2 hr
 refine .tn G (ca1 (ok0 (cV n l e f)) (ca3 (ok0 (cV n y b g)))) (.mu 1 (.ca cf0 (.mu 1 (.ca (cfA (fun h => by rw [sv g f (jq n h)]) cf0) (.mu 2 ?_)))))
 refine .done ⟨by kernel_rfl, ?_⟩
 refine .nh [2, 3, 4] [.own (ak.c e), .own (ak.c b), .own zN2] (.seq (.seq ?_))
 obtain ⟨p, m, hr⟩ := bd hr
 refine .g1 G (ok0 (fO n b.Num p m)) (.mu 2 (.ca cf0 (.mu 1 (.done (.nh [2, 3, 4, 13] [.own (ak.c e), .own (ak.c b), .own zN2] ?_)))))
 refine .cd hr ?_ ?_ <;> intro q hr
 ·refine .seq (.r4 G [4] [(5, aj 14)] (.ret ?_))
  obtain rfl := oi hr
  exact aF.ret (vs := [.agg zN2, aj 14]) (by kernel_rfl) (Sn.tup (SnL.cons (Sn.agg (Sp (SnL.cons Sn.dB (Sp (SnL.cons Sn.dB SnL.nil))))) (Sp SnL.nil)))
 refine .skip (.seq ?_)
 obtain ⟨o, i, j, a, d, k, hr⟩ := bd3 hr
 refine .tn G (ca1 (ok0 (eR n e.Num b.Den o i)) (ca1 (ok0 (eR n e.Den b.Num j a)) (ca3 (ok0 (ir n o j d k))))) (.mu 4 (.ca cf0 (.mu 4 (.ca (cfA (fun h => by rw [sv a i (iB n h)]) cf0) (.ca (cfF (cfF cf0)) (.mu 2 ?_))))))
 refine .done ⟨by kernel_rfl, ?_⟩
 refine .nh [4, 5] [.own (ak.c e), .own (ak.c b), .own (ak.c d)] (.ret ?_)
 obtain rfl := oi hr
 exact aF.ret (vs := [.agg (ak.c d), aj 0]) (by kernel_rfl) (Sn.tup (Sp (Sp SnL.nil)))

theorem tY (n : Nat) (a : ak) (b : ak) (c : ak) (r : ak) (hr : oz n a b c = some r) : aM Tryz.prog 73 [.agg (ak.c a), .agg (ak.c b), .agg (ak.c c)] (.agg (ak.c r)) := by
 unfold oz at hr
 refine aM.bd G Tryz.func73 [.cell 6 42] ?_
 unfold Tryz.f73
 simp only [gS]
 refine .seq (.r2 G 24 [(3, .hp 0 0), (4, .hp 1 0), (5, .hp 2 0), (6, .hp 3 0)] [.own (ak.c a), .own (ak.c b), .own (ak.c c), .own zN2] (.seq ?_))
 obtain ⟨k, d, l, e, m, f, hr⟩ := bd3 hr
 obtain ⟨o, g, i, j, hr⟩ := bd2 hr
 refine .tn G (ca1 (ok0 (eZ n a a k d)) (ca1 (ok0 (fb n a b l e)) (ca1 (ok0 (fb n a c m f)) (ca1 (ok0 (eZ n l m o g)) (ca3 (ok0 (rU n k o i j))))))) (.mu 2 (.ca cf0 (.mu 2 (.ca (cfF cf0) (.mu 2 (.ca (cfF (cfA (fun h => by rw [sv f e (mC n h)]) cf0)) (.ca (cfA (fun h => by rw [sv g d (mG n h)]) (cfF (cfF cf0))) (.ca (cfF (cfF (cfF (cfF cf0)))) (.mu 6 ?_)))))))))
 refine .done ⟨by kernel_rfl, ?_⟩
 refine .nh [6, 7] [.own (ak.c a), .own (ak.c b), .own (ak.c c), .own zN2, .own (ak.c i.1)] (.seq (.r5 G [6] [] [.own (ak.c a), .own (ak.c b), .own (ak.c c), .own (ak.c i.1), .own (ak.c i.1)] (.ret ?_)))
 obtain rfl := oi hr
 exact aF.r1 [.agg (ak.c i.1)]

theorem qw (n : Nat) (t : A3 Int) (p : Int) (p' : Int) (u : Int) (j : Int) (i : Int) (f : List Int) (g : Int) (e : Bool) (d : List Int) (b : Bool) (a : List Int) (r : Bool × List Int × Bool × List Int) (hr : lj n t p p' u j i f g e d b a = some r) : dU 5 Tryz.prog 117 [.agg (av.c t), .hp 0 0, .hp 1 0, .hp 2 0, .hp 3 0, .hp 4 0] [.own [aj p, aj p', aj u, aj j, aj i, ch f], .own [aj g], .own [aB e, aC d, aB b, aC a], .own [.fn 74 [] []], .own [.fn 73 [] []]] (.tup []) [.own [aj p, aj p', aj u, aj j, aj i, ch f], .own [aj g], .own [aB r.1, aC r.2.1, aB r.2.2.1, aC r.2.2.2], .own [.fn 74 [] []], .own [.fn 73 [] []]] := by
 unfold lj at hr
 refine dU.kR G Tryz.func117 (c := (Tryz.f117.body).getD .skip) rfl (us := []) (s := mkS 104 0 [(0, .agg (av.c t)), (1, .hp 0 0), (2, .hp 1 0), (3, .hp 2 0), (4, .hp 3 0), (5, .hp 4 0)]) (by kernel_rfl) (rs := []) rfl ?_
 unfold Tryz.f117
 simp only [gS]
 refine .seq (.r5 G [1, 2, 3, 4, 5] [(6, .hp 5 0)] [.own [aj p, aj p', aj u, aj j, aj i, ch f], .own [aj g], .own [aB e, aC d, aB b, aC a], .own [.fn 74 [] []], .own [.fn 73 [] []], .own (av.c t)] (.seq (.r5 G [1, 2, 3, 4, 5, 6] [(7, .hp 6 0)] [.own [aj p, aj p', aj u, aj j, aj i, ch f], .own [aj g], .own [aB e, aC d, aB b, aC a], .own [.fn 74 [] []], .own [.fn 73 [] []], .own (av.c t), .own [aB false, nS, aB false, nS, aB false, nS, aB false, nS, aB false, nS, aB false, nS]] (.seq (.r4 G [1, 2, 3, 4, 5, 6, 7] [(8, aj 0)] (.seq (.seq (.r4 G [1, 2, 3, 4, 5, 7, 8] [(12, .agg (av.c t)), (13, aj 0)] (.block ?_)))))))))
 refine .C7 4 (UNR.one ?_)
 refine .seq (.r4 G [1, 2, 3, 4, 5, 7, 8, 12, 13] [(14, aB true)] (.seq (.cT (by kernel_rfl) (.skip (.seq ?_)))))
 replace hr := bd hr; obtain ⟨zW, qE, hr⟩ := hr
 refine .xA (Q := fun x st' => match (generalizing := false) zW with | (k, l, o, q, qG) => x = .normal /\ Wk 5 st' ⟨mkS 104 0 [(1, .hp 0 0), (2, .hp 1 0), (3, .hp 2 0), (4, .hp 3 0), (5, .hp 4 0), (7, .hp 5 0), (8, aj qG), (12, .agg (av.c t)), (13, aj 0)], [.own [aj p, aj p', aj u, aj j, aj i, ch f], .own [aj g], .own [aB e, aC d, aB b, aC a], .own [.fn 74 [] []], .own [.fn 73 [] []], .own [aB k, aC l, aB o, aC q, aB false, nS, aB false, nS, aB false, nS, aB false, nS]]⟩) ?_ ?_
 ·clear hr
  have hr := qE
  clear qE
  refine .block (.seq (.r4 G [1, 2, 3, 4, 5, 7, 8, 12, 13] [(9, aj 0), (10, aj t.e0)] (.seq ?_)))
  obtain ⟨zH, hr⟩ := gd hr
  obtain ⟨S, CS, hr⟩ := bd hr
  refine .t1 G (ok0 (jH n (EN ((EN (2 * (gt f t.e0))) - g)) 2 S CS)) (.mu 4 (.pk (v := .pp (f.flatMap (iC .i64)) (t.e0.toNat * 1)) (tr (au zH)) (.pk (v := aj (gt f t.e0)) (tr (aH (aK (aI .i64) (aD zH) z1 (by omega : t.e0.toNat * 1 = t.e0.toNat * 1 + 0) (by kernel_rfl)))) (.mu 3 (.ca cf0 (.mu 5 ?_))))))
  refine .done ⟨by kernel_rfl, ?_⟩
  refine .nh [1, 2, 3, 4, 5, 7, 8, 9, 12, 13] [.own [aj p, aj p', aj u, aj j, aj i, ch f], .own [aj g], .own [aB e, aC d, aB b, aC a], .own [.fn 74 [] []], .own [.fn 73 [] []], .own (av.c t), .own [aB S.1.Num.Negative, aC S.1.Num.Groups, aB S.1.Den.Negative, aC S.1.Den.Groups, aB false, nS, aB false, nS, aB false, nS, aB false, nS]] (.seq ?_)
  obtain ⟨DH, CO, hr⟩ := bd hr
  refine .g1 G (ok0 (cw n S.1 DH CO)) (.mu 3 (.ca cf0 (.mu 1 (.done (.nh [1, 2, 3, 4, 5, 7, 8, 12, 13, 35] [.own [aj p, aj p', aj u, aj j, aj i, ch f], .own [aj g], .own [aB e, aC d, aB b, aC a], .own [.fn 74 [] []], .own [.fn 73 [] []], .own (av.c t), .own [aB S.1.Num.Negative, aC S.1.Num.Groups, aB S.1.Den.Negative, aC S.1.Den.Groups, aB false, nS, aB false, nS, aB false, nS, aB false, nS]] ?_)))))
  refine .cd hr ?_ ?_ <;> intro EE hr
  ·refine .ru G (.pop ?_)
   obtain rfl := oi hr
   exact ⟨rfl, ((Wk.gc [1, 2, 3, 4, 5, 7, 8, 12, 13] [(0, true), (1, true), (2, true), (3, true), (4, true), (6, true)] rfl trivial).to)⟩
  refine .skip (.pop ?_)
  obtain rfl := oi hr
  exact ⟨rfl, ((Wk.gc [1, 2, 3, 4, 5, 7, 8, 12, 13] [(0, true), (1, true), (2, true), (3, true), (4, true), (6, true)] rfl trivial).to)⟩
 rcases zW with ⟨k, l, o, q, qG⟩
 rintro x st' r9
 clear qE
 obtain ⟨rfl, r9⟩ := r9
 refine .wk r9 (.ru G (UNR.next (.n2 104 [(1, .hp 0 0), (2, .hp 1 0), (3, .hp 2 0), (4, .hp 3 0), (5, .hp 4 0), (7, .hp 5 0), (8, aj qG), (12, .agg (av.c t)), (13, aj 1)] [.own [aj p, aj p', aj u, aj j, aj i, ch f], .own [aj g], .own [aB e, aC d, aB b, aC a], .own [.fn 74 [] []], .own [.fn 73 [] []], .own [aB k, aC l, aB o, aC q, aB false, nS, aB false, nS, aB false, nS, aB false, nS]] (.seq (.r4 G [1, 2, 3, 4, 5, 7, 8, 12, 13] [(14, aB true)] (.seq (.cT (by kernel_rfl) (.skip (.seq ?_)))))))))
 replace hr := bd hr; obtain ⟨BI, sI, hr⟩ := hr
 refine .xA (Q := fun x st' => match (generalizing := false) BI with | (y, z, A, B, ua) => x = .normal /\ Wk 5 st' ⟨mkS 104 0 [(1, .hp 0 0), (2, .hp 1 0), (3, .hp 2 0), (4, .hp 3 0), (5, .hp 4 0), (7, .hp 5 0), (8, aj ua), (12, .agg (av.c t)), (13, aj 1)], [.own [aj p, aj p', aj u, aj j, aj i, ch f], .own [aj g], .own [aB e, aC d, aB b, aC a], .own [.fn 74 [] []], .own [.fn 73 [] []], .own [aB k, aC l, aB o, aC q, aB y, aC z, aB A, aC B, aB false, nS, aB false, nS]]⟩) ?_ ?_
 ·clear hr
  have hr := sI
  clear sI
  refine .block (.seq (.r4 G [1, 2, 3, 4, 5, 7, 8, 12, 13] [(9, aj 1), (10, aj t.e1)] (.seq ?_)))
  obtain ⟨zt, hr⟩ := gd hr
  obtain ⟨T, CH, hr⟩ := bd hr
  refine .t1 G (ok0 (jH n (EN ((EN (2 * (gt f t.e1))) - g)) 2 T CH)) (.mu 4 (.pk (v := .pp (f.flatMap (iC .i64)) (t.e1.toNat * 1)) (tr (au zt)) (.pk (v := aj (gt f t.e1)) (tr (aH (aK (aI .i64) (aD zt) z1 (by omega : t.e1.toNat * 1 = t.e1.toNat * 1 + 0) (by kernel_rfl)))) (.mu 3 (.ca cf0 (.mu 5 ?_))))))
  refine .done ⟨by kernel_rfl, ?_⟩
  refine .nh [1, 2, 3, 4, 5, 7, 8, 9, 12, 13] [.own [aj p, aj p', aj u, aj j, aj i, ch f], .own [aj g], .own [aB e, aC d, aB b, aC a], .own [.fn 74 [] []], .own [.fn 73 [] []], .own [aB k, aC l, aB o, aC q, aB T.1.Num.Negative, aC T.1.Num.Groups, aB T.1.Den.Negative, aC T.1.Den.Groups, aB false, nS, aB false, nS]] (.seq ?_)
  obtain ⟨DT, D0, hr⟩ := bd hr
  refine .g1 G (ok0 (cw n T.1 DT D0)) (.mu 3 (.ca cf0 (.mu 1 (.done (.nh [1, 2, 3, 4, 5, 7, 8, 12, 13, 35] [.own [aj p, aj p', aj u, aj j, aj i, ch f], .own [aj g], .own [aB e, aC d, aB b, aC a], .own [.fn 74 [] []], .own [.fn 73 [] []], .own [aB k, aC l, aB o, aC q, aB T.1.Num.Negative, aC T.1.Num.Groups, aB T.1.Den.Negative, aC T.1.Den.Groups, aB false, nS, aB false, nS]] ?_)))))
  refine .cd hr ?_ ?_ <;> intro EH hr
  ·refine .ru G (.pop ?_)
   obtain rfl := oi hr
   exact ⟨rfl, ((Wk.gc [1, 2, 3, 4, 5, 7, 8, 12, 13] kT6 rfl trivial).to)⟩
  refine .skip (.pop ?_)
  obtain rfl := oi hr
  exact ⟨rfl, ((Wk.gc [1, 2, 3, 4, 5, 7, 8, 12, 13] kT6 rfl trivial).to)⟩
 rcases BI with ⟨y, z, A, B, ua⟩
 rintro x st' vC
 clear sI
 obtain ⟨rfl, vC⟩ := vC
 refine .wk vC (.ru G (UNR.next (.n2 104 [(1, .hp 0 0), (2, .hp 1 0), (3, .hp 2 0), (4, .hp 3 0), (5, .hp 4 0), (7, .hp 5 0), (8, aj ua), (12, .agg (av.c t)), (13, aj 2)] [.own [aj p, aj p', aj u, aj j, aj i, ch f], .own [aj g], .own [aB e, aC d, aB b, aC a], .own [.fn 74 [] []], .own [.fn 73 [] []], .own [aB k, aC l, aB o, aC q, aB y, aC z, aB A, aC B, aB false, nS, aB false, nS]] (.seq (.r4 G [1, 2, 3, 4, 5, 7, 8, 12, 13] [(14, aB true)] (.seq (.cT (by kernel_rfl) (.skip (.seq ?_)))))))))
 replace hr := bd hr; obtain ⟨Bz, wm, hr⟩ := hr
 refine .xA (Q := fun x st' => match (generalizing := false) Bz with | (nF, pL, kH, mN, w) => x = .normal /\ Wk 5 st' ⟨mkS 104 0 [(1, .hp 0 0), (2, .hp 1 0), (3, .hp 2 0), (4, .hp 3 0), (5, .hp 4 0), (7, .hp 5 0), (8, aj w), (12, .agg (av.c t)), (13, aj 2)], [.own [aj p, aj p', aj u, aj j, aj i, ch f], .own [aj g], .own [aB e, aC d, aB b, aC a], .own [.fn 74 [] []], .own [.fn 73 [] []], .own [aB k, aC l, aB o, aC q, aB y, aC z, aB A, aC B, aB nF, aC pL, aB kH, aC mN]]⟩) ?_ ?_
 ·clear hr
  have hr := wm
  clear wm
  refine .block (.seq (.r4 G [1, 2, 3, 4, 5, 7, 8, 12, 13] [(9, aj 2), (10, aj t.e2)] (.seq ?_)))
  obtain ⟨zQ, hr⟩ := gd hr
  obtain ⟨U, DP, hr⟩ := bd hr
  refine .t1 G (ok0 (jH n (EN ((EN (2 * (gt f t.e2))) - g)) 2 U DP)) (.mu 4 (.pk (v := .pp (f.flatMap (iC .i64)) (t.e2.toNat * 1)) (tr (au zQ)) (.pk (v := aj (gt f t.e2)) (tr (aH (aK (aI .i64) (aD zQ) z1 (by omega : t.e2.toNat * 1 = t.e2.toNat * 1 + 0) (by kernel_rfl)))) (.mu 3 (.ca cf0 (.mu 5 ?_))))))
  refine .done ⟨by kernel_rfl, ?_⟩
  refine .nh [1, 2, 3, 4, 5, 7, 8, 9, 12, 13] [.own [aj p, aj p', aj u, aj j, aj i, ch f], .own [aj g], .own [aB e, aC d, aB b, aC a], .own [.fn 74 [] []], .own [.fn 73 [] []], .own [aB k, aC l, aB o, aC q, aB y, aC z, aB A, aC B, aB U.1.Num.Negative, aC U.1.Num.Groups, aB U.1.Den.Negative, aC U.1.Den.Groups]] (.seq ?_)
  obtain ⟨DS, DV, hr⟩ := bd hr
  refine .g1 G (ok0 (cw n U.1 DS DV)) (.mu 3 (.ca cf0 (.mu 1 (.done (.nh [1, 2, 3, 4, 5, 7, 8, 12, 13, 35] [.own [aj p, aj p', aj u, aj j, aj i, ch f], .own [aj g], .own [aB e, aC d, aB b, aC a], .own [.fn 74 [] []], .own [.fn 73 [] []], .own [aB k, aC l, aB o, aC q, aB y, aC z, aB A, aC B, aB U.1.Num.Negative, aC U.1.Num.Groups, aB U.1.Den.Negative, aC U.1.Den.Groups]] ?_)))))
  refine .cd hr ?_ ?_ <;> intro EA hr
  ·refine .ru G (.pop ?_)
   obtain rfl := oi hr
   exact ⟨rfl, ((Wk.gc [1, 2, 3, 4, 5, 7, 8, 12, 13] kT6 rfl trivial).to)⟩
  refine .skip (.pop ?_)
  obtain rfl := oi hr
  exact ⟨rfl, ((Wk.gc [1, 2, 3, 4, 5, 7, 8, 12, 13] kT6 rfl trivial).to)⟩
 rcases Bz with ⟨nF, pL, kH, mN, w⟩
 rintro x st' wF
 clear wm
 obtain ⟨rfl, wF⟩ := wF
 refine .wk wF (.ru G (UNR.next (.n2 104 [(1, .hp 0 0), (2, .hp 1 0), (3, .hp 2 0), (4, .hp 3 0), (5, .hp 4 0), (7, .hp 5 0), (8, aj w), (12, .agg (av.c t)), (13, aj 3)] [.own [aj p, aj p', aj u, aj j, aj i, ch f], .own [aj g], .own [aB e, aC d, aB b, aC a], .own [.fn 74 [] []], .own [.fn 73 [] []], .own [aB k, aC l, aB o, aC q, aB y, aC z, aB A, aC B, aB nF, aC pL, aB kH, aC mN]] (.seq (.r4 G [1, 2, 3, 4, 5, 7, 8, 12, 13] [(14, aB false)] (.seq (.cF (by kernel_rfl) (.leave rfl (unF.exit rfl (.seq (.seq (.r4 G [3, 4, 5, 7, 8] [(39, aj w)] (.block (.seq (.r4 G [3, 4, 5, 7, 8, 39] [(40, aB ((w : Int) == 0))] ?_)))))))))))))))
 refine .cd hr ?_ ?_ <;> intro EJ hr
 ·refine .ret ?_
  obtain rfl := oi hr
  exact ee.ret [] ((Wk.gc [] kT5 rfl trivial).to)
 refine .seq (.r4 G [3, 4, 5, 7, 8] [(42, aB ((w : Int) == 3))] ?_)
 refine .cd hr ?_ ?_ <;> intro EI hr
 ·refine .seq ?_
  obtain ⟨AQ, DI, Bk, DX, Bb, DM, hr⟩ := bd3 hr
  refine .tn G (ca1 (ok0 (dr n 0 AQ DI)) (ca1 (ok0 (nj n (ak.mk (ai.mk k l) (ai.mk o q)) (ak.mk (ai.mk y z) (ai.mk A B)) (ak.mk (ai.mk nF pL) (ai.mk kH mN)) AQ Bk DX)) (ca3 (ok0 (gO n (ak.mk (ai.mk e d) (ai.mk b a)) Bk Bb DM))))) (.mu 8 (.ca cf0 (.ca (cfF cf0) (.ca (cfF (cfF cf0)) (.mu 1 ?_)))))
  refine .done ⟨by kernel_rfl, ?_⟩
  refine .nh [] [.own [aj p, aj p', aj u, aj j, aj i, ch f], .own [aj g], .own (ak.c Bb), .own [.fn 74 [] []], .own [.fn 73 [] []], .own [aB k, aC l, aB o, aC q, aB y, aC z, aB A, aC B, aB nF, aC pL, aB kH, aC mN]] (.ret ?_)
  obtain rfl := oi hr
  exact ee.ret [] ((Wk.gc [] kT5 rfl trivial).to)
 refine .skip (.pop (.seq (.block ?_)))
 replace hr := bd hr; obtain ⟨Bt, zi, hr⟩ := hr
 refine .aL (σ := fun z0 => match z0 with | (C, D, E, F, H, I, J, L, M, N, O, R) => ⟨mkS 104 0 [(3, .hp 2 0), (4, .hp 3 0), (5, .hp 4 0), (7, .hp 5 0), (8, aj w)], [.own [aj p, aj p', aj u, aj j, aj i, ch f], .own [aj g], .own [aB e, aC d, aB b, aC a], .own [.fn 74 [] []], .own [.fn 73 [] []], .own [aB C, aC D, aB E, aC F, aB H, aC I, aB J, aC L, aB M, aC N, aB O, aC R]]⟩) (Q := fun x st' => match (generalizing := false) Bt with | (W, X, Y, Z, jX, kB, lH, l8, lK, mv, mw, nC) => x = .exit 3 /\ Wk 5 st' ⟨mkS 104 0 [(3, .hp 2 0), (4, .hp 3 0), (5, .hp 4 0), (7, .hp 5 0), (8, aj w)], [.own [aj p, aj p', aj u, aj j, aj i, ch f], .own [aj g], .own [aB e, aC d, aB b, aC a], .own [.fn 74 [] []], .own [.fn 73 [] []], .own [aB W, aC X, aB Y, aC Z, aB jX, aC kB, aB lH, aC l8, aB lK, aC mv, aB mw, aC nC]]⟩) zi ((Wk.gc [3, 4, 5, 7, 8] kT6 rfl trivial).to) ?_ ?_
 ·clear hr
  rintro m ⟨C, D, E, F, H, I, J, L, M, N, O, R⟩ hr
  show CQ _ _ _ _ _ ⟨_, _⟩
  refine .seq (.seq ?_)
  replace hr := bd hr; obtain ⟨BP, nG, hr⟩ := hr
  refine .D2 (Q := fun x st' => match (generalizing := false) BP with | .inl _ => x = .exit 3 /\ Wk 5 st' ⟨mkS 104 0 [(3, .hp 2 0), (4, .hp 3 0), (5, .hp 4 0), (7, .hp 5 0), (8, aj w)], [.own [aj p, aj p', aj u, aj j, aj i, ch f], .own [aj g], .own [aB e, aC d, aB b, aC a], .own [.fn 74 [] []], .own [.fn 73 [] []], .own [aB C, aC D, aB E, aC F, aB H, aC I, aB J, aC L, aB M, aC N, aB O, aC R]]⟩ | .inr (_) => x = .normal /\ Wk 5 st' ⟨mkS 104 0 [(3, .hp 2 0), (4, .hp 3 0), (5, .hp 4 0), (7, .hp 5 0), (8, aj w)], [.own [aj p, aj p', aj u, aj j, aj i, ch f], .own [aj g], .own [aB e, aC d, aB b, aC a], .own [.fn 74 [] []], .own [.fn 73 [] []], .own [aB C, aC D, aB E, aC F, aB H, aC I, aB J, aC L, aB M, aC N, aB O, aC R]]⟩) ?_ ?_
  ·clear hr
   have hr := nG
   clear nG
   obtain ⟨x7, nK, hr⟩ := bd hr
   rcases bT ((decide (x7 > 0)) != ((w : Int) == 1)) with mM | mM
   ·replace hr := b8 mM hr
    refine .t1 G (ok0 (cw n (ak.mk (ai.mk C D) (ai.mk E F)) x7 nK)) (.mu 2 (.ca cf0 (.mu 3 (.pk (v := aB true) (eB mM) (.mu 11 ?_)))))
    refine .done ⟨by kernel_rfl, ?_⟩
    refine .nh [3, 4, 5, 7, 8, 72] [.own [aj p, aj p', aj u, aj j, aj i, ch f], .own [aj g], .own [aB e, aC d, aB b, aC a], .own [.fn 74 [] []], .own [.fn 73 [] []], .own [aB C, aC D, aB E, aC F, aB H, aC I, aB J, aC L, aB M, aC N, aB O, aC R]] (.cT (by kernel_rfl) (.skip ?_))
    obtain rfl := oi hr
    exact ⟨rfl, ((Wk.gc [3, 4, 5, 7, 8] kT6 rfl trivial).to)⟩
   replace hr := bX mM hr
   obtain ⟨DW, vt, DB, xI, hr⟩ := bd2 hr
   refine .tn G (ca1 (ok0 (cw n (ak.mk (ai.mk C D) (ai.mk E F)) x7 nK)) (ca1 (ok0 (cw n (ak.mk (ai.mk H I) (ai.mk J L)) DW vt)) (ca3 (ok0 (cw n (ak.mk (ai.mk M N) (ai.mk O R)) DB xI))))) (.mu 2 (.ca cf0 (.mu 3 (.pk (v := aB false) (eB mM) (.mu 3 (.ca (cfA (fun h => by rw [sv vt nK (jT n h)]) cf0) (.mu 3 (.ca (cfA (fun h => by rw [sv xI nK (jT n h)]) (cfA (fun h => by rw [sv xI vt (jT n h)]) cf0)) (.mu 3 ?_)))))))))
   refine .done ⟨by kernel_rfl, ?_⟩
   refine .nh [3, 4, 5, 7, 8, 72] [.own [aj p, aj p', aj u, aj j, aj i, ch f], .own [aj g], .own [aB e, aC d, aB b, aC a], .own [.fn 74 [] []], .own [.fn 73 [] []], .own [aB C, aC D, aB E, aC F, aB H, aC I, aB J, aC L, aB M, aC N, aB O, aC R]] ?_
   refine .cd hr ?_ ?_ <;> intro EL hr
   ·refine .skip ?_
    obtain rfl := oi hr
    exact ⟨rfl, ((Wk.gc [3, 4, 5, 7, 8] kT6 rfl trivial).to)⟩
   refine .leave rfl ?_
   obtain rfl := oi hr
   exact ⟨rfl, ((Wk.gc [3, 4, 5, 7, 8] kT6 rfl trivial).to)⟩
  rcases BP with ⟨⟩ | ⟨⟩
  ·rintro x st' V
   clear nG
   obtain ⟨rfl, V⟩ := V
   refine xh _ rfl ?_
   obtain rfl := oi hr
   exact ⟨rfl, (V.trans ((Wk.gc [3, 4, 5, 7, 8] kT6 rfl trivial).to))⟩
  rintro x st' V
  clear nG
  obtain ⟨rfl, V⟩ := V
  refine .wk V (.block (.ru G (.pop ?_)))
  exact aA (H, I, J, L, M, N, O, R, C, D, E, F) hr ((Wk.gc [3, 4, 5, 7, 8] kT6 rfl trivial).to)
 rcases Bt with ⟨W, X, Y, Z, jX, kB, lH, l8, lK, mv, mw, nC⟩
 rintro x st' yr
 clear zi
 obtain ⟨rfl, yr⟩ := yr
 refine aV _ rfl (.wk yr (.seq ?_))
 obtain ⟨wi, D5, hr⟩ := bd hr
 refine .g1 G (ok0 (tY n (ak.mk (ai.mk W X) (ai.mk Y Z)) (ak.mk (ai.mk jX kB) (ai.mk lH l8)) (ak.mk (ai.mk lK mv) (ai.mk mw nC)) wi D5)) (.mu 7 (.ca cf0 (.mu 2 (.done (.nh [3, 4, 7, 8, 11] [.own [aj p, aj p', aj u, aj j, aj i, ch f], .own [aj g], .own [aB e, aC d, aB b, aC a], .own [.fn 74 [] []], .own [.fn 73 [] []], .own [aB W, aC X, aB Y, aC Z, aB jX, aC kB, aB lH, aC l8, aB lK, aC mv, aB mw, aC nC], .own (ak.c wi)] (.seq (.seq (.r4 G [3, 4, 7, 11] [(91, aB ((w : Int) == 2))] ?_))))))))
 refine .cd hr ?_ ?_ <;> intro ED hr
 ·obtain ⟨x9, Dz, hr⟩ := bd hr
  refine .g1 G (ok0 (nj n (ak.mk (ai.mk W X) (ai.mk Y Z)) (ak.mk (ai.mk jX kB) (ai.mk lH l8)) (ak.mk (ai.mk lK mv) (ai.mk mw nC)) wi x9 Dz)) (.mu 8 (.ca cf0 (.mu 1 (.done (.nh [3, 11] [.own [aj p, aj p', aj u, aj j, aj i, ch f], .own [aj g], .own [aB e, aC d, aB b, aC a], .own [.fn 74 [] []], .own [.fn 73 [] []], .own [aB W, aC X, aB Y, aC Z, aB jX, aC kB, aB lH, aC l8, aB lK, aC mv, aB mw, aC nC], .own (ak.c x9)] ?_)))))
  obtain ⟨Dx, Eb, hr⟩ := bd hr
  refine .g1 G (ok0 (gO n (ak.mk (ai.mk e d) (ai.mk b a)) x9 Dx Eb)) (.mu 2 (.ca cf0 (.mu 1 (.done ?_))))
  obtain rfl := oi hr
  exact ee.normal [] ((Wk.gc [] kT5 rfl trivial).to)
 refine .skip ?_
 obtain ⟨Ed, DF, hr⟩ := bd hr
 refine .g1 G (ok0 (gO n (ak.mk (ai.mk e d) (ai.mk b a)) wi Ed DF)) (.mu 2 (.ca cf0 (.mu 1 (.done ?_))))
 obtain rfl := oi hr
 exact ee.normal [] ((Wk.gc [] kT5 rfl trivial).to)

theorem iZ (n : Nat) (g : ar) (c : Int) (L : Int) (t : Int) (i : Int) (f : Int) (e : List Int) (d : Int) (z : Bool) (w : List Int) (u : Bool) (q : List Int) (r : Bool × List Int × Bool × List Int) (hr : dH n g c L t i f e d z w u q = some r) : dU 5 Tryz.prog 89 [.agg (ar.c g), .fn 117 [] [.hp 0 0, .hp 1 0, .hp 2 0, .hp 3 0, .hp 4 0]] [.own [aj c, aj L, aj t, aj i, aj f, ch e], .own [aj d], .own [aB z, aC w, aB u, aC q], .own [.fn 74 [] []], .own [.fn 73 [] []]] (.tup []) [.own [aj c, aj L, aj t, aj i, aj f, ch e], .own [aj d], .own [aB r.1, aC r.2.1, aB r.2.2.1, aC r.2.2.2], .own [.fn 74 [] []], .own [.fn 73 [] []]] := by
 unfold dH at hr
 refine dU.kR G Tryz.func89 (c := (Tryz.f89.body).getD .skip) rfl (us := []) (s := mkS 82 0 [(0, .agg (ar.c g)), (1, .fn 117 [] [.hp 0 0, .hp 1 0, .hp 2 0, .hp 3 0, .hp 4 0])]) (by kernel_rfl) (rs := []) rfl ?_
 unfold Tryz.f89
 simp only [gS]
 refine .seq (.r5 G [1] [(2, .hp 5 0)] [.own [aj c, aj L, aj t, aj i, aj f, ch e], .own [aj d], .own [aB z, aC w, aB u, aC q], .own [.fn 74 [] []], .own [.fn 73 [] []], .own (ar.c g)] (.seq (.r4 G [1, 2] [(4, aj g.Width)] (.seq (.r4 G [1, 2, 4] [(14, aj (EN (g.Height - 1))), (15, aj 0)] (.block ?_))))))
 replace hr := bd hr; obtain ⟨nK, kB, hr⟩ := hr
 refine .aL (σ := fun z0 => match z0 with | (lH, l8, lK, mv, h) => ⟨mkS 82 0 [(1, .fn 117 [] [.hp 0 0, .hp 1 0, .hp 2 0, .hp 3 0, .hp 4 0]), (2, .hp 5 0), (4, aj g.Width), (14, aj (EN (g.Height - 1))), (15, aj h)], [.own [aj c, aj L, aj t, aj i, aj f, ch e], .own [aj d], .own [aB lH, aC l8, aB lK, aC mv], .own [.fn 74 [] []], .own [.fn 73 [] []], .own (ar.c g)]⟩) (Q := fun x st' => match (generalizing := false) nK with | (mw, nC, nF, pL) => x = .exit 0 /\ Wk 5 st' ⟨mkS 82 0 [], [.own [aj c, aj L, aj t, aj i, aj f, ch e], .own [aj d], .own [aB mw, aC nC, aB nF, aC pL], .own [.fn 74 [] []], .own [.fn 73 [] []]]⟩) kB ((Wk.gc [1, 2, 4, 14, 15] kT6 rfl trivial).to) ?_ ?_
 ·clear hr
  rintro m ⟨lH, l8, lK, mv, h⟩ hr
  show CQ _ _ _ _ _ ⟨_, _⟩
  refine .seq (.r4 G [1, 2, 4, 14, 15] [(16, aB (decide (h < (EN (g.Height - 1)))))] (.seq ?_))
  refine .cd hr ?_ ?_ <;> intro vC hr
  ·refine .skip (.seq (.block (.seq (.r4 G [1, 2, 4, 14, 15] [(5, aj h)] (.seq (.r4 G [1, 2, 4, 5, 14, 15] [(19, aj (EN (g.Width - 1))), (20, aj 0)] (.block ?_)))))))
   replace hr := bd hr; obtain ⟨qE, kH, hr⟩ := hr
   refine .aL (σ := fun z0 => match z0 with | (C, D, E, F, j) => ⟨mkS 82 0 [(1, .fn 117 [] [.hp 0 0, .hp 1 0, .hp 2 0, .hp 3 0, .hp 4 0]), (2, .hp 5 0), (4, aj g.Width), (5, aj h), (14, aj (EN (g.Height - 1))), (15, aj h), (19, aj (EN (g.Width - 1))), (20, aj j)], [.own [aj c, aj L, aj t, aj i, aj f, ch e], .own [aj d], .own [aB C, aC D, aB E, aC F], .own [.fn 74 [] []], .own [.fn 73 [] []], .own (ar.c g)]⟩) (Q := fun x st' => match (generalizing := false) qE with | (N, O, R, S) => x = .exit 2 /\ Wk 5 st' ⟨mkS 82 0 [(1, .fn 117 [] [.hp 0 0, .hp 1 0, .hp 2 0, .hp 3 0, .hp 4 0]), (2, .hp 5 0), (4, aj g.Width), (14, aj (EN (g.Height - 1))), (15, aj h)], [.own [aj c, aj L, aj t, aj i, aj f, ch e], .own [aj d], .own [aB N, aC O, aB R, aC S], .own [.fn 74 [] []], .own [.fn 73 [] []], .own (ar.c g)]⟩) kH ((Wk.gc [1, 2, 4, 5, 14, 15, 19, 20] kT6 rfl trivial).to) ?_ ?_
   ·clear hr
    rintro m ⟨C, D, E, F, j⟩ hr
    show CQ _ _ _ _ _ ⟨_, _⟩
    refine .seq (.r4 G [1, 2, 4, 5, 14, 15, 19, 20] [(21, aB (decide (j < (EN (g.Width - 1)))))] (.seq ?_))
    refine .cd hr ?_ ?_ <;> intro wm hr
    ·refine .skip (.seq (.block (.seq (.r4 G [1, 2, 4, 5, 14, 15, 19, 20] [(6, aj j)] (.seq (.r4 G [1, 2, 4, 5, 14, 15, 19, 20] [(7, aj (EN ((EN (h * g.Width)) + j)))] ?_))))))
     obtain ⟨H, r9, hr⟩ := bd hr
     refine .wk ((Wk.refl _).to (c := ⟨mkS 82 0 [(1, .fn 117 [] [.hp 0 0, .hp 1 0, .hp 2 0, .hp 3 0, .hp 4 0]), (2, .hp 5 0), (4, aj g.Width), (5, aj h), (7, aj H), (14, aj (EN (g.Height - 1))), (15, aj h), (19, aj (EN (g.Width - 1))), (20, aj j)], [.own [aj c, aj L, aj t, aj i, aj f, ch e], .own [aj d], .own [aB C, aC D, aB E, aC F], .own [.fn 74 [] []], .own [.fn 73 [] []], .own (ar.c g)]⟩) (by rw [oi r9]; first | done | kernel_rfl)) <| .seq <| .r5 G [1, 2, 4, 5, 14, 15, 19, 20] [(45, .hs 6 0 2 3), (46, aj 2), (47, aj 0)] [.own [aj c, aj L, aj t, aj i, aj f, ch e], .own [aj d], .own [aB C, aC D, aB E, aC F], .own [.fn 74 [] []], .own [.fn 73 [] []], .own (ar.c g), .own [aj H, aj (EN (H + 1)), aj (EN ((EN (H + g.Width)) + 1)), aj H, aj (EN ((EN (H + g.Width)) + 1)), aj (EN (H + g.Width))]] <| .block ?_
     obtain ⟨b, sI, hr⟩ := bd hr
     refine .wk ((Wk.refl _).to (c := ⟨mkS 82 0 [(1, .fn 117 [] [.hp 0 0, .hp 1 0, .hp 2 0, .hp 3 0, .hp 4 0]), (2, .hp 5 0), (4, aj g.Width), (5, aj h), (14, aj (EN (g.Height - 1))), (15, aj h), (19, aj (EN (g.Width - 1))), (20, aj j), (45, .hs 6 0 b.length 3), (46, aj 2), (47, aj 0)], [.own [aj c, aj L, aj t, aj i, aj f, ch e], .own [aj d], .own [aB C, aC D, aB E, aC F], .own [.fn 74 [] []], .own [.fn 73 [] []], .own (ar.c g), .own (b.flatMap av.c)]⟩) (by rw [<- oi sI]; kernel_rfl)) ?_
     replace hr := bd hr; obtain ⟨qG, mN, hr⟩ := hr
     refine .aL (σ := fun z0 => match z0 with | (k, l, o, p, a) => ⟨mkS 82 0 [(1, .fn 117 [] [.hp 0 0, .hp 1 0, .hp 2 0, .hp 3 0, .hp 4 0]), (2, .hp 5 0), (4, aj g.Width), (5, aj h), (14, aj (EN (g.Height - 1))), (15, aj h), (19, aj (EN (g.Width - 1))), (20, aj j), (45, .hs 6 0 b.length 3), (46, aj 2), (47, aj a)], [.own [aj c, aj L, aj t, aj i, aj f, ch e], .own [aj d], .own [aB k, aC l, aB o, aC p], .own [.fn 74 [] []], .own [.fn 73 [] []], .own (ar.c g), .own (b.flatMap av.c)]⟩) (Q := fun x st' => match (generalizing := false) qG with | (T, U, V, W) => x = .exit 4 /\ Wk 5 st' ⟨mkS 82 0 [(1, .fn 117 [] [.hp 0 0, .hp 1 0, .hp 2 0, .hp 3 0, .hp 4 0]), (2, .hp 5 0), (4, aj g.Width), (5, aj h), (14, aj (EN (g.Height - 1))), (15, aj h), (19, aj (EN (g.Width - 1))), (20, aj j)], [.own [aj c, aj L, aj t, aj i, aj f, ch e], .own [aj d], .own [aB T, aC U, aB V, aC W], .own [.fn 74 [] []], .own [.fn 73 [] []], .own (ar.c g)]⟩) mN ((Wk.gc [1, 2, 4, 5, 14, 15, 19, 20, 45, 46, 47] [(0, true), (1, true), (2, true), (3, true), (4, true), (5, true), (6, false)] rfl (pKt (pKt (pKt (pKt (pKt (pKt (pKo av.c av.pure b trivial)))))))).to) ?_ ?_
     ·clear hr
      rintro m ⟨k, l, o, p, a⟩ hr
      show CQ _ _ _ _ _ ⟨_, _⟩
      refine .seq (.r4 G [1, 2, 4, 5, 14, 15, 19, 20, 45, 46, 47] [(48, aB (decide (a < 2)))] (.seq ?_))
      refine .cd hr ?_ ?_ <;> intro wF hr
      ·refine .skip (.seq (.block (.seq ?_)))
       obtain ⟨mM, hr⟩ := gd hr
       refine .r0 G (.p0 (v := .hp 6 (0 + a.toNat * 3)) (tr (au mM)) (.p0 (v := .agg (av.c (gt b a))) (tr (y := bt.ofP (dz (decide (3 <= ((b.flatMap av.c).drop (0 + a.toNat * 3)).length)) (.agg (((b.flatMap av.c).drop (0 + a.toNat * 3)).take 3)))) (bB av.len (aD mM) (by decide) (by omega : 0 + a.toNat * 3 = a.toNat * 3 + 0) (by kernel_rfl))) (.mu 2 (.done (.nh [1, 2, 4, 5, 9, 14, 15, 19, 20, 45, 46, 47] [.own [aj c, aj L, aj t, aj i, aj f, ch e], .own [aj d], .own [aB k, aC l, aB o, aC p], .own [.fn 74 [] []], .own [.fn 73 [] []], .own (ar.c g), .own (b.flatMap av.c), .own (av.c (gt b a))] (.seq ?_))))))
       obtain ⟨A, hr⟩ := gd hr
       rcases bT (((gt g.Z (gt b a).e0) : Int) != (-2147483648)) with B | B
       ·replace hr := b8 B hr
        obtain ⟨J, hr⟩ := gd hr
        rcases bT (((gt g.Z (gt b a).e1) : Int) != (-2147483648)) with I | I
        ·replace hr := b8 I hr
         obtain ⟨nG, hr⟩ := gd hr
         refine .r0 G (.mu 4 (.p0 (v := .pp (g.Z.flatMap (iC .i64)) ((gt b a).e0.toNat * 1)) (tr (au A)) (.p0 (v := aj (gt g.Z (gt b a).e0)) (tr (aH (aK (aI .i64) (aD A) z1 (by omega : (gt b a).e0.toNat * 1 = (gt b a).e0.toNat * 1 + 0) (by kernel_rfl)))) (.p0 (v := aB true) (eB B) (.mu 5 (.pure (v := .pp (g.Z.flatMap (iC .i64)) ((gt b a).e1.toNat * 1)) (by kernel_rfl) (tr (au J)) (.pure (v := aj (gt g.Z (gt b a).e1)) (by kernel_rfl) (tr (aH (aK (aI .i64) (aD J) z1 (by omega : (gt b a).e1.toNat * 1 = (gt b a).e1.toNat * 1 + 0) (by kernel_rfl)))) (.pure (v := aB true) (by kernel_rfl) (eB I) (.mu 6 (.pure (v := .pp (g.Z.flatMap (iC .i64)) ((gt b a).e2.toNat * 1)) (by kernel_rfl) (tr (au nG)) (.pure (v := aj (gt g.Z (gt b a).e2)) (by kernel_rfl) (tr (aH (aK (aI .i64) (aD nG) z1 (by omega : (gt b a).e2.toNat * 1 = (gt b a).e2.toNat * 1 + 0) (by kernel_rfl)))) (.mu 2 (.done (.nh [1, 2, 4, 5, 9, 14, 15, 19, 20, 45, 46, 47, 75] [.own [aj c, aj L, aj t, aj i, aj f, ch e], .own [aj d], .own [aB k, aC l, aB o, aC p], .own [.fn 74 [] []], .own [.fn 73 [] []], .own (ar.c g), .own (b.flatMap av.c), .own (av.c (gt b a))] ?_))))))))))))))
         refine .cd hr ?_ ?_ <;> intro vt hr
         ·obtain ⟨M, ua, hr⟩ := bd hr
          refine .g1 G (cu (args := [.agg (av.c (gt b a)), .hp 0 0, .hp 1 0, .hp 2 0, .hp 3 0, .hp 4 0]) 5 0 kT5 [true, true, true, true, true] (qw n (gt b a) c L t i f e d k l o p M ua) trivial trivial rfl rfl (by kernel_rfl) (by kernel_rfl)) (.mu 2 (.ca cf0 (.done (.pop (.ru G ?_)))))
          exact aA (M.1, M.2.1, M.2.2.1, M.2.2.2, EN (a + 1)) hr ((Wk.gc [1, 2, 4, 5, 14, 15, 19, 20, 45, 46, 47] [(0, true), (1, true), (2, true), (3, true), (4, true), (5, true), (6, false)] rfl (pKt (pKt (pKt (pKt (pKt (pKt (pKo av.c av.pure b trivial)))))))).to)
         refine .skip (.pop (.ru G ?_))
         exact aA (k, l, o, p, EN (a + 1)) hr ((Wk.gc [1, 2, 4, 5, 14, 15, 19, 20, 45, 46, 47] [(0, true), (1, true), (2, true), (3, true), (4, true), (5, true), (6, false)] rfl (pKt (pKt (pKt (pKt (pKt (pKt (pKo av.c av.pure b trivial)))))))).to)
        replace hr := bX I hr
        refine .r0 G (.mu 4 (.p0 (v := .pp (g.Z.flatMap (iC .i64)) ((gt b a).e0.toNat * 1)) (tr (au A)) (.p0 (v := aj (gt g.Z (gt b a).e0)) (tr (aH (aK (aI .i64) (aD A) z1 (by omega : (gt b a).e0.toNat * 1 = (gt b a).e0.toNat * 1 + 0) (by kernel_rfl)))) (.p0 (v := aB true) (eB B) (.mu 5 (.pure (v := .pp (g.Z.flatMap (iC .i64)) ((gt b a).e1.toNat * 1)) (by kernel_rfl) (tr (au J)) (.pure (v := aj (gt g.Z (gt b a).e1)) (by kernel_rfl) (tr (aH (aK (aI .i64) (aD J) z1 (by omega : (gt b a).e1.toNat * 1 = (gt b a).e1.toNat * 1 + 0) (by kernel_rfl)))) (.pure (v := aB false) (by kernel_rfl) (eB I) (.mu 10 (.done (.nh [1, 2, 4, 5, 9, 14, 15, 19, 20, 45, 46, 47, 75] [.own [aj c, aj L, aj t, aj i, aj f, ch e], .own [aj d], .own [aB k, aC l, aB o, aC p], .own [.fn 74 [] []], .own [.fn 73 [] []], .own (ar.c g), .own (b.flatMap av.c), .own (av.c (gt b a))] (.cF (by kernel_rfl) (.skip (.pop (.ru G ?_)))))))))))))))
        exact aA (k, l, o, p, EN (a + 1)) hr ((Wk.gc [1, 2, 4, 5, 14, 15, 19, 20, 45, 46, 47] [(0, true), (1, true), (2, true), (3, true), (4, true), (5, true), (6, false)] rfl (pKt (pKt (pKt (pKt (pKt (pKt (pKo av.c av.pure b trivial)))))))).to)
       replace hr := bX B hr
       refine .r0 G (.mu 4 (.p0 (v := .pp (g.Z.flatMap (iC .i64)) ((gt b a).e0.toNat * 1)) (tr (au A)) (.p0 (v := aj (gt g.Z (gt b a).e0)) (tr (aH (aK (aI .i64) (aD A) z1 (by omega : (gt b a).e0.toNat * 1 = (gt b a).e0.toNat * 1 + 0) (by kernel_rfl)))) (.p0 (v := aB false) (eB B) (.mu 18 (.done (.nh [1, 2, 4, 5, 9, 14, 15, 19, 20, 45, 46, 47, 75] [.own [aj c, aj L, aj t, aj i, aj f, ch e], .own [aj d], .own [aB k, aC l, aB o, aC p], .own [.fn 74 [] []], .own [.fn 73 [] []], .own (ar.c g), .own (b.flatMap av.c), .own (av.c (gt b a))] (.cF (by kernel_rfl) (.skip (.pop (.ru G ?_)))))))))))
       exact aA (k, l, o, p, EN (a + 1)) hr ((Wk.gc [1, 2, 4, 5, 14, 15, 19, 20, 45, 46, 47] [(0, true), (1, true), (2, true), (3, true), (4, true), (5, true), (6, false)] rfl (pKt (pKt (pKt (pKt (pKt (pKt (pKo av.c av.pure b trivial)))))))).to)
      refine .leave rfl ?_
      obtain rfl := oi hr
      exact ⟨rfl, ((Wk.gc [1, 2, 4, 5, 14, 15, 19, 20] kT6 rfl trivial).to)⟩
     rcases qG with ⟨T, U, V, W⟩
     rintro x st' X
     clear mN
     obtain ⟨rfl, X⟩ := X
     refine aV _ rfl (.pop (.wk X (.ru G ?_)))
     exact aA (T, U, V, W, EN (j + 1)) hr ((Wk.gc [1, 2, 4, 5, 14, 15, 19, 20] kT6 rfl trivial).to)
    refine .leave rfl ?_
    obtain rfl := oi hr
    exact ⟨rfl, ((Wk.gc [1, 2, 4, 14, 15] kT6 rfl trivial).to)⟩
   rcases qE with ⟨N, O, R, S⟩
   rintro x st' Y
   clear kH
   obtain ⟨rfl, Y⟩ := Y
   refine aV _ rfl (.pop (.wk Y (.ru G ?_)))
   exact aA (N, O, R, S, EN (h + 1)) hr ((Wk.gc [1, 2, 4, 14, 15] kT6 rfl trivial).to)
  refine .leave rfl ?_
  obtain rfl := oi hr
  exact ⟨rfl, ((Wk.gc [] kT5 rfl trivial).to)⟩
 rcases nK with ⟨mw, nC, nF, pL⟩
 rintro x st' jX
 clear kB
 obtain ⟨rfl, jX⟩ := jX
 refine aV _ rfl ?_
 obtain rfl := oi hr
 exact ee.wk jX (ee.normal [] ((Wk.gc [] kT5 rfl trivial).to))

theorem fW (n : Nat) (g : ar) (level : Int) (r : ak) (hr : cE n g level = some r) : aM Tryz.prog 72 [.agg (ar.c g), aj level, .fn 73 [] [], .fn 74 [] []] (.agg (ak.c r)) := by
 unfold cE at hr
 refine aM.bd G Tryz.func72 [.cell 8 42] ?_
 unfold Tryz.f72
 simp only [gS]
 refine .seq (.r2 G 28 [(4, .hp 0 0), (5, .hp 1 0), (6, .hp 2 0), (7, .hp 3 0), (8, .hp 4 0)] [.own (ar.c g), .own [aj level], .own [.fn 73 [] []], .own [.fn 74 [] []], .own zN2] (.seq ?_))
 obtain ⟨b, e, hr⟩ := bd hr
 refine .g1 G (ok0 (dr n 0 b e)) (.ca cf0 (.mu 2 (.done (.nh [4, 5, 6, 7, 8, 9] [.own (ar.c g), .own [aj level], .own [.fn 73 [] []], .own [.fn 74 [] []], .own zN2, .own (ak.c b)] (.seq ?_)))))
 obtain ⟨a, f, hr⟩ := bd hr
 refine .g1 G (cu (args := [.agg (ar.c g), .fn 117 [] [.hp 0 0, .hp 1 0, .hp 5 0, .hp 3 0, .hp 2 0]]) 5 0 [(0, true), (1, true), (5, true), (3, true), (2, true)] [true, true, true, true, true] (iZ n g g.X0 g.Y0 g.Step g.Width g.Height g.Z level b.Num.Negative b.Num.Groups b.Den.Negative b.Den.Groups a f) trivial trivial rfl rfl (by kernel_rfl) (by kernel_rfl)) (.mu 2 (.ca cf0 (.done (.nh [4, 8, 9] [.own (ar.c g), .own [aj level], .own [.fn 73 [] []], .own [.fn 74 [] []], .own zN2, .own [aB a.1, aC a.2.1, aB a.2.2.1, aC a.2.2.2]] (.seq ?_)))))
 obtain ⟨d, h, hr⟩ := bd hr
 refine .g1 G (ok0 (jH n (EN (g.Step * g.Step)) 2 d h)) (.mu 5 (.ca cf0 (.mu 6 (.done (.nh [8, 9, 10] [.own (ar.c g), .own [aj level], .own [.fn 73 [] []], .own [.fn 74 [] []], .own zN2, .own [aB a.1, aC a.2.1, aB a.2.2.1, aC a.2.2.2], .own (ak.c d.1)] (.seq ?_))))))
 obtain ⟨i, j, hr⟩ := bd hr
 refine .g1 G (ok0 (eZ n (ak.mk (ai.mk a.1 a.2.1) (ai.mk a.2.2.1 a.2.2.2)) d.1 i j)) (.mu 2 (.ca cf0 (.mu 1 (.done (.nh [8] [.own (ar.c g), .own [aj level], .own [.fn 73 [] []], .own [.fn 74 [] []], .own (ak.c i), .own [aB a.1, aC a.2.1, aB a.2.2.1, aC a.2.2.2], .own (ak.c d.1)] (.ret ?_))))))
 obtain rfl := oi hr
 exact aF.r1 [.agg (ak.c i)]

theorem tF (n : Nat) (g : ar) (level : Int) (r : ak × Int) (hr : ot n g level = some r) : aM Tryz.prog 33 [.agg (ar.c g), aj level] (.tup [.agg (ak.c r.1), aj r.2]) := by
 unfold ot at hr
 refine aM.bd G Tryz.func33 [.cell 4 42, .tmp 5] ?_
 unfold Tryz.f33
 simp only [gS]
 refine .seq (.r5 G [1] [(2, .hp 0 0), (4, .hp 1 0)] [.own (ar.c g), .own zN2] (.seq (.seq ?_)))
 obtain ⟨a, b, hr⟩ := bd hr
 refine .g1 G (ok0 (jm n g level a b)) (.mu 2 (.ca cf0 (.mu 1 (.done (.nh [1, 2, 4, 6] [.own (ar.c g), .own zN2] (.seq (.r4 G [1, 2, 4, 6] [(11, aB ((a : Int) != 0))] ?_)))))))
 refine .cd hr ?_ ?_ <;> intro f hr
 ·refine .seq (.r4 G [4] [(5, aj a)] (.ret ?_))
  obtain rfl := oi hr
  exact aF.ret (vs := [.agg zN2, aj a]) (by kernel_rfl) (Sn.tup (SnL.cons (Sn.agg (Sp (SnL.cons Sn.dB (Sp (SnL.cons Sn.dB SnL.nil))))) (Sp SnL.nil)))
 refine .skip (.seq ?_)
 obtain ⟨d, e, hr⟩ := bd hr
 refine .g1 G (ok0 (fW n g level d e)) (.mu 2 (.ca cf0 (.mu 2 (.done (.nh [4, 5] [.own (ar.c g), .own (ak.c d)] (.ret ?_))))))
 obtain rfl := oi hr
 exact aF.ret (vs := [.agg (ak.c d), aj 0]) (by kernel_rfl) (Sn.tup (Sp (Sp SnL.nil)))

theorem oP (n : Nat) (s : List Int) (v : Int) (r : Int) (hr : gY n s v = some r) : aM Tryz.prog 185 [ch s, aj v] (aj r) := by
 unfold gY at hr
 refine aM.bd G Tryz.func185 [.tmp 4] ?_
 unfold Tryz.f185
 simp only [gS]
 refine .seq (.r4 G [0, 1] [] (.seq (.seq (.r4 G [0, 1] [(7, aj (s.length : Int)), (8, aj 0)] (.block ?_)))))
 replace hr := bd hr; obtain ⟨e, c, hr⟩ := hr
 refine .aL (σ := fun f => match f with | b => ⟨mkS 19 0 [(0, ch s), (1, aj v), (7, aj (s.length : Int)), (8, aj b)], []⟩) (Q := fun x st' => match (generalizing := false) e with | .inl _ => x = .exit 0 /\ Wk 0 st' ⟨mkS 19 0 [], []⟩ | .inr (r0) => x = .ret /\ aF Tryz.prog [.tmp 4] (aj r0) .ret st') c ((Wk.gc [0, 1, 7, 8] [] rfl pK0).to) ?_ ?_
 ·clear hr
  rintro m b hr
  show CQ _ _ _ _ _ ⟨_, _⟩
  refine .seq (.r4 G [0, 1, 7, 8] [(9, aB (decide (b < (s.length : Int))))] (.seq ?_))
  refine .cd hr ?_ ?_ <;> intro g hr
  ·refine .skip (.seq (.block (.seq (.r4 G [0, 1, 7, 8] [(5, aj b)] (.seq ?_)))))
   obtain ⟨d, hr⟩ := gd hr
   refine .r0 G (.mu 3 (.p0 (v := .pp (s.flatMap (iC .i64)) (b.toNat * 1)) (tr (au d)) (.p0 (v := aj (gt s b)) (tr (aH (aK (aI .i64) (aD d) z1 (by omega : b.toNat * 1 = b.toNat * 1 + 0) (by kernel_rfl)))) (.mu 1 (.done (.nh [0, 1, 5, 7, 8, 16] [] ?_))))))
   refine .cd hr ?_ ?_ <;> intro h hr
   ·refine .seq (.ru G (.ret ?_))
    obtain rfl := oi hr
    exact ⟨rfl, aF.ret (vs := [aj b]) (by kernel_rfl) (Sn.pure rfl)⟩
   refine .skip (.pop (.ru G ?_))
   exact aA (EN (b + 1)) hr ((Wk.gc [0, 1, 7, 8] [] rfl pK0).to)
  refine .leave rfl ?_
  obtain rfl := oi hr
  exact ⟨rfl, ((Wk.gc [] [] rfl pK0).to)⟩
 rcases e with ⟨⟩ | r0
 ·rintro x st' a
  clear c
  obtain ⟨rfl, a⟩ := a
  refine aV _ rfl (.wk a (.seq (.ru G (.ret ?_))))
  obtain rfl := oi hr
  exact aF.r1 [aj (-1)]
 rintro x st' a
 clear c
 obtain ⟨rfl, a⟩ := a
 obtain rfl := oi hr
 exact gw _ a

theorem mU {s : List Int} {v : Int} {a : List Int} {b : Int} (h : ([slT (iC .i64) s, .at (.int .i64 v)] : List AV) = [slT (iC .i64) a, .at (.int .i64 b)]) : s = a /\ v = b := by
 simp only [List.cons.injEq, AV.agg.injEq, AV.at.injEq, Value.int.injEq, Value.bool.injEq, AV.fn.injEq, AV.pp.injEq, true_and, and_true, dY] at h
 simp_all
theorem na (n : Nat) {s : List Int} {v : Int} {a : List Int} {b : Int} (h : ([slT (iC .i64) s, .at (.int .i64 v)] : List AV) = [slT (iC .i64) a, .at (.int .i64 b)]) : cb n s v = cb n a b := by
 obtain ⟨rfl, rfl⟩ := mU h
 rfl
theorem gy (n : Nat) (s : List Int) (v : Int) (r : Bool) (hr : cb n s v = some r) : aM Tryz.prog 150 [ch s, aj v] (aB r) := by
 unfold cb at hr
 refine aM.bd G Tryz.func150 [.tmp 4] ?_
 unfold Tryz.f150
 simp only [gS]
 refine .seq (.r4 G [0, 1] [] (.seq ?_))
 obtain ⟨b, a, hr⟩ := bd hr
 refine .g1 G (ok0 (oP n s v b a)) (.mu 2 (.ca cf0 (.mu 2 (.done (.ret ?_)))))
 obtain rfl := oi hr
 exact aF.r1 [aB (decide (b >= 0))]

theorem p6 (n : Nat) (t : A3 Int) (p : Bool) (f : Int) (a : Int) (r : Bool) (hr : fh n t p f a = some r) : dU 3 Tryz.prog 149 [.agg (av.c t), .hp 0 0, .hp 1 0, .hp 2 0] [.own [aB p], .own [aj f], .own [aj a]] (.tup []) [.own [aB r], .own [aj f], .own [aj a]] := by
 unfold fh at hr
 refine dU.kR G Tryz.func149 (c := (Tryz.f149.body).getD .skip) rfl (us := []) (s := mkS 16 0 [(0, .agg (av.c t)), (1, .hp 0 0), (2, .hp 1 0), (3, .hp 2 0)]) (by kernel_rfl) (rs := []) rfl ?_
 unfold Tryz.f149
 simp only [gS]
 refine .seq (.r5 G [1, 2, 3] [(4, .hp 3 0)] [.own [aB p], .own [aj f], .own [aj a], .own (av.c t)] ?_)
 rcases bT p with b | b
 ·replace hr := b8 b hr
  refine .ei G bL (.pk (v := aB true) (eB b) (.mu 11 ?_))
  refine .done ⟨by kernel_rfl, ?_⟩
  obtain rfl := oi hr
  exact ee.normal [] ((Wk.gc [] kT3 rfl trivial).to)
 replace hr := bX b hr
 obtain ⟨j, d, hr⟩ := bd hr
 rcases bT j with e | e
 ·subst e
  replace hr := b8 rfl hr
  obtain ⟨i, g, hr⟩ := bd hr
  refine .tn G (ca1 (fP (args := [.hs 3 0 3 1, aj f]) (l := [3]) rfl (SnL.cons (Sn.hs rfl (.inl rfl) (SnC.cons (Sn.pure rfl) (SnC.cons (Sn.pure rfl) (SnC.cons (Sn.pure rfl) SnC.nil))) (fun h => nomatch h)) (Sp SnL.nil)) (gy n [t.e0, t.e1, t.e2] f true d)) (ca3 (fP (args := [.hs 3 0 3 1, aj a]) (l := [3]) rfl (SnL.cons (Sn.hs rfl (.inl rfl) (SnC.cons (Sn.pure rfl) (SnC.cons (Sn.pure rfl) (SnC.cons (Sn.pure rfl) SnC.nil))) (fun h => nomatch h)) (Sp SnL.nil)) (gy n [t.e0, t.e1, t.e2] a i g)))) (.pk (v := aB false) (eB b) (.mu 3 (.ca cf0 (.mu 3 (.ca (cfA (fun h => by rw [sv g d (na n (show ([ch [t.e0, t.e1, t.e2], aj a] : List AV) = [ch [t.e0, t.e1, t.e2], aj f] from (congr (congrArg List.cons rfl) (congr (congrArg List.cons (List.cons.inj (List.cons.inj h).2).1) rfl))))]) cf0) (.mu 3 ?_))))))
  refine .done ⟨by kernel_rfl, ?_⟩
  obtain rfl := oi hr
  exact ee.normal [] ((Wk.gc [] kT3 rfl trivial).to)
 subst e
 replace hr := bX rfl hr
 refine .t1 G (fP (args := [.hs 3 0 3 1, aj f]) (l := [3]) rfl (SnL.cons (Sn.hs rfl (.inl rfl) (SnC.cons (Sn.pure rfl) (SnC.cons (Sn.pure rfl) (SnC.cons (Sn.pure rfl) SnC.nil))) (fun h => nomatch h)) (Sp SnL.nil)) (gy n [t.e0, t.e1, t.e2] f false d)) (.pk (v := aB false) (eB b) (.mu 3 (.ca cf0 (.mu 7 ?_))))
 refine .done ⟨by kernel_rfl, ?_⟩
 obtain rfl := oi hr
 exact ee.normal [] ((Wk.gc [] kT3 rfl trivial).to)

theorem iO (n : Nat) (g : ar) (c : Bool) (q : Int) (h : Int) (r : Bool) (hr : cH n g c q h = some r) : dU 3 Tryz.prog 89 [.agg (ar.c g), .fn 149 [] [.hp 0 0, .hp 1 0, .hp 2 0]] [.own [aB c], .own [aj q], .own [aj h]] (.tup []) [.own [aB r], .own [aj q], .own [aj h]] := by
 unfold cH at hr
 refine dU.kR G Tryz.func89 (c := (Tryz.f89.body).getD .skip) rfl (us := []) (s := mkS 82 0 [(0, .agg (ar.c g)), (1, .fn 149 [] [.hp 0 0, .hp 1 0, .hp 2 0])]) (by kernel_rfl) (rs := []) rfl ?_
 unfold Tryz.f89
 simp only [gS]
 refine .seq (.r5 G [1] [(2, .hp 3 0)] [.own [aB c], .own [aj q], .own [aj h], .own (ar.c g)] (.seq (.r4 G [1, 2] [(4, aj g.Width)] (.seq (.r4 G [1, 2, 4] [(14, aj (EN (g.Height - 1))), (15, aj 0)] (.block ?_))))))
 replace hr := bd hr; obtain ⟨J, z, hr⟩ := hr
 refine .aL (σ := fun O => match O with | (A, d) => ⟨mkS 82 0 [(1, .fn 149 [] [.hp 0 0, .hp 1 0, .hp 2 0]), (2, .hp 3 0), (4, aj g.Width), (14, aj (EN (g.Height - 1))), (15, aj d)], [.own [aB A], .own [aj q], .own [aj h], .own (ar.c g)]⟩) (Q := fun x st' => x = .exit 0 /\ Wk 3 st' ⟨mkS 82 0 [], [.own [aB J], .own [aj q], .own [aj h]]⟩) z ((Wk.gc [1, 2, 4, 14, 15] kT4 rfl trivial).to) ?_ ?_
 ·clear hr
  rintro m ⟨A, d⟩ hr
  show CQ _ _ _ _ _ ⟨_, _⟩
  refine .seq (.r4 G [1, 2, 4, 14, 15] [(16, aB (decide (d < (EN (g.Height - 1)))))] (.seq ?_))
  refine .cd hr ?_ ?_ <;> intro R hr
  ·refine .skip (.seq (.block (.seq (.r4 G [1, 2, 4, 14, 15] [(5, aj d)] (.seq (.r4 G [1, 2, 4, 5, 14, 15] [(19, aj (EN (g.Width - 1))), (20, aj 0)] (.block ?_)))))))
   replace hr := bd hr; obtain ⟨B, C, hr⟩ := hr
   refine .aL (σ := fun O => match O with | (k, e) => ⟨mkS 82 0 [(1, .fn 149 [] [.hp 0 0, .hp 1 0, .hp 2 0]), (2, .hp 3 0), (4, aj g.Width), (5, aj d), (14, aj (EN (g.Height - 1))), (15, aj d), (19, aj (EN (g.Width - 1))), (20, aj e)], [.own [aB k], .own [aj q], .own [aj h], .own (ar.c g)]⟩) (Q := fun x st' => x = .exit 2 /\ Wk 3 st' ⟨mkS 82 0 [(1, .fn 149 [] [.hp 0 0, .hp 1 0, .hp 2 0]), (2, .hp 3 0), (4, aj g.Width), (14, aj (EN (g.Height - 1))), (15, aj d)], [.own [aB B], .own [aj q], .own [aj h], .own (ar.c g)]⟩) C ((Wk.gc [1, 2, 4, 5, 14, 15, 19, 20] kT4 rfl trivial).to) ?_ ?_
   ·clear hr
    rintro m ⟨k, e⟩ hr
    show CQ _ _ _ _ _ ⟨_, _⟩
    refine .seq (.r4 G [1, 2, 4, 5, 14, 15, 19, 20] [(21, aB (decide (e < (EN (g.Width - 1)))))] (.seq ?_))
    refine .cd hr ?_ ?_ <;> intro S hr
    ·refine .skip (.seq (.block (.seq (.r4 G [1, 2, 4, 5, 14, 15, 19, 20] [(6, aj e)] (.seq (.r4 G [1, 2, 4, 5, 14, 15, 19, 20] [(7, aj (EN ((EN (d * g.Width)) + e)))] ?_))))))
     obtain ⟨l, L, hr⟩ := bd hr
     refine .wk ((Wk.refl _).to (c := ⟨mkS 82 0 [(1, .fn 149 [] [.hp 0 0, .hp 1 0, .hp 2 0]), (2, .hp 3 0), (4, aj g.Width), (5, aj d), (7, aj l), (14, aj (EN (g.Height - 1))), (15, aj d), (19, aj (EN (g.Width - 1))), (20, aj e)], [.own [aB k], .own [aj q], .own [aj h], .own (ar.c g)]⟩) (by rw [oi L]; first | done | kernel_rfl)) <| .seq <| .r5 G [1, 2, 4, 5, 14, 15, 19, 20] [(45, .hs 4 0 2 3), (46, aj 2), (47, aj 0)] [.own [aB k], .own [aj q], .own [aj h], .own (ar.c g), .own [aj l, aj (EN (l + 1)), aj (EN ((EN (l + g.Width)) + 1)), aj l, aj (EN ((EN (l + g.Width)) + 1)), aj (EN (l + g.Width))]] <| .block ?_
     obtain ⟨b, M, hr⟩ := bd hr
     refine .wk ((Wk.refl _).to (c := ⟨mkS 82 0 [(1, .fn 149 [] [.hp 0 0, .hp 1 0, .hp 2 0]), (2, .hp 3 0), (4, aj g.Width), (5, aj d), (14, aj (EN (g.Height - 1))), (15, aj d), (19, aj (EN (g.Width - 1))), (20, aj e), (45, .hs 4 0 b.length 3), (46, aj 2), (47, aj 0)], [.own [aB k], .own [aj q], .own [aj h], .own (ar.c g), .own (b.flatMap av.c)]⟩) (by rw [<- oi M]; kernel_rfl)) ?_
     replace hr := bd hr; obtain ⟨D, E, hr⟩ := hr
     refine .aL (σ := fun O => match O with | (f, a) => ⟨mkS 82 0 [(1, .fn 149 [] [.hp 0 0, .hp 1 0, .hp 2 0]), (2, .hp 3 0), (4, aj g.Width), (5, aj d), (14, aj (EN (g.Height - 1))), (15, aj d), (19, aj (EN (g.Width - 1))), (20, aj e), (45, .hs 4 0 b.length 3), (46, aj 2), (47, aj a)], [.own [aB f], .own [aj q], .own [aj h], .own (ar.c g), .own (b.flatMap av.c)]⟩) (Q := fun x st' => x = .exit 4 /\ Wk 3 st' ⟨mkS 82 0 [(1, .fn 149 [] [.hp 0 0, .hp 1 0, .hp 2 0]), (2, .hp 3 0), (4, aj g.Width), (5, aj d), (14, aj (EN (g.Height - 1))), (15, aj d), (19, aj (EN (g.Width - 1))), (20, aj e)], [.own [aB D], .own [aj q], .own [aj h], .own (ar.c g)]⟩) E ((Wk.gc [1, 2, 4, 5, 14, 15, 19, 20, 45, 46, 47] [(0, true), (1, true), (2, true), (3, true), (4, false)] rfl (pKt (pKt (pKt (pKt (pKo av.c av.pure b trivial)))))).to) ?_ ?_
     ·clear hr
      rintro m ⟨f, a⟩ hr
      show CQ _ _ _ _ _ ⟨_, _⟩
      refine .seq (.r4 G [1, 2, 4, 5, 14, 15, 19, 20, 45, 46, 47] [(48, aB (decide (a < 2)))] (.seq ?_))
      refine .cd hr ?_ ?_ <;> intro T hr
      ·refine .skip (.seq (.block (.seq ?_)))
       obtain ⟨F, hr⟩ := gd hr
       refine .r0 G (.p0 (v := .hp 4 (0 + a.toNat * 3)) (tr (au F)) (.p0 (v := .agg (av.c (gt b a))) (tr (y := bt.ofP (dz (decide (3 <= ((b.flatMap av.c).drop (0 + a.toNat * 3)).length)) (.agg (((b.flatMap av.c).drop (0 + a.toNat * 3)).take 3)))) (bB av.len (aD F) (by decide) (by omega : 0 + a.toNat * 3 = a.toNat * 3 + 0) (by kernel_rfl))) (.mu 2 (.done (.nh [1, 2, 4, 5, 9, 14, 15, 19, 20, 45, 46, 47] [.own [aB f], .own [aj q], .own [aj h], .own (ar.c g), .own (b.flatMap av.c), .own (av.c (gt b a))] (.seq ?_))))))
       obtain ⟨i, hr⟩ := gd hr
       rcases bT (((gt g.Z (gt b a).e0) : Int) != (-2147483648)) with j | j
       ·replace hr := b8 j hr
        obtain ⟨p, hr⟩ := gd hr
        rcases bT (((gt g.Z (gt b a).e1) : Int) != (-2147483648)) with o | o
        ·replace hr := b8 o hr
         obtain ⟨H, hr⟩ := gd hr
         refine .r0 G (.mu 4 (.p0 (v := .pp (g.Z.flatMap (iC .i64)) ((gt b a).e0.toNat * 1)) (tr (au i)) (.p0 (v := aj (gt g.Z (gt b a).e0)) (tr (aH (aK (aI .i64) (aD i) z1 (by omega : (gt b a).e0.toNat * 1 = (gt b a).e0.toNat * 1 + 0) (by kernel_rfl)))) (.p0 (v := aB true) (eB j) (.mu 5 (.pure (v := .pp (g.Z.flatMap (iC .i64)) ((gt b a).e1.toNat * 1)) (by kernel_rfl) (tr (au p)) (.pure (v := aj (gt g.Z (gt b a).e1)) (by kernel_rfl) (tr (aH (aK (aI .i64) (aD p) z1 (by omega : (gt b a).e1.toNat * 1 = (gt b a).e1.toNat * 1 + 0) (by kernel_rfl)))) (.pure (v := aB true) (by kernel_rfl) (eB o) (.mu 6 (.pure (v := .pp (g.Z.flatMap (iC .i64)) ((gt b a).e2.toNat * 1)) (by kernel_rfl) (tr (au H)) (.pure (v := aj (gt g.Z (gt b a).e2)) (by kernel_rfl) (tr (aH (aK (aI .i64) (aD H) z1 (by omega : (gt b a).e2.toNat * 1 = (gt b a).e2.toNat * 1 + 0) (by kernel_rfl)))) (.mu 2 (.done (.nh [1, 2, 4, 5, 9, 14, 15, 19, 20, 45, 46, 47, 75] [.own [aB f], .own [aj q], .own [aj h], .own (ar.c g), .own (b.flatMap av.c), .own (av.c (gt b a))] ?_))))))))))))))
         refine .cd hr ?_ ?_ <;> intro U hr
         ·obtain ⟨I, N, hr⟩ := bd hr
          refine .g1 G (cu (args := [.agg (av.c (gt b a)), .hp 0 0, .hp 1 0, .hp 2 0]) 3 0 kT3 [true, true, true] (p6 n (gt b a) f q h I N) trivial trivial rfl rfl (by kernel_rfl) (by kernel_rfl)) (.mu 2 (.ca cf0 (.done (.pop (.ru G ?_)))))
          exact aA (I, EN (a + 1)) hr ((Wk.gc [1, 2, 4, 5, 14, 15, 19, 20, 45, 46, 47] [(0, true), (1, true), (2, true), (3, true), (4, false)] rfl (pKt (pKt (pKt (pKt (pKo av.c av.pure b trivial)))))).to)
         refine .skip (.pop (.ru G ?_))
         exact aA (f, EN (a + 1)) hr ((Wk.gc [1, 2, 4, 5, 14, 15, 19, 20, 45, 46, 47] [(0, true), (1, true), (2, true), (3, true), (4, false)] rfl (pKt (pKt (pKt (pKt (pKo av.c av.pure b trivial)))))).to)
        replace hr := bX o hr
        refine .r0 G (.mu 4 (.p0 (v := .pp (g.Z.flatMap (iC .i64)) ((gt b a).e0.toNat * 1)) (tr (au i)) (.p0 (v := aj (gt g.Z (gt b a).e0)) (tr (aH (aK (aI .i64) (aD i) z1 (by omega : (gt b a).e0.toNat * 1 = (gt b a).e0.toNat * 1 + 0) (by kernel_rfl)))) (.p0 (v := aB true) (eB j) (.mu 5 (.pure (v := .pp (g.Z.flatMap (iC .i64)) ((gt b a).e1.toNat * 1)) (by kernel_rfl) (tr (au p)) (.pure (v := aj (gt g.Z (gt b a).e1)) (by kernel_rfl) (tr (aH (aK (aI .i64) (aD p) z1 (by omega : (gt b a).e1.toNat * 1 = (gt b a).e1.toNat * 1 + 0) (by kernel_rfl)))) (.pure (v := aB false) (by kernel_rfl) (eB o) (.mu 10 (.done (.nh [1, 2, 4, 5, 9, 14, 15, 19, 20, 45, 46, 47, 75] [.own [aB f], .own [aj q], .own [aj h], .own (ar.c g), .own (b.flatMap av.c), .own (av.c (gt b a))] (.cF (by kernel_rfl) (.skip (.pop (.ru G ?_)))))))))))))))
        exact aA (f, EN (a + 1)) hr ((Wk.gc [1, 2, 4, 5, 14, 15, 19, 20, 45, 46, 47] [(0, true), (1, true), (2, true), (3, true), (4, false)] rfl (pKt (pKt (pKt (pKt (pKo av.c av.pure b trivial)))))).to)
       replace hr := bX j hr
       refine .r0 G (.mu 4 (.p0 (v := .pp (g.Z.flatMap (iC .i64)) ((gt b a).e0.toNat * 1)) (tr (au i)) (.p0 (v := aj (gt g.Z (gt b a).e0)) (tr (aH (aK (aI .i64) (aD i) z1 (by omega : (gt b a).e0.toNat * 1 = (gt b a).e0.toNat * 1 + 0) (by kernel_rfl)))) (.p0 (v := aB false) (eB j) (.mu 18 (.done (.nh [1, 2, 4, 5, 9, 14, 15, 19, 20, 45, 46, 47, 75] [.own [aB f], .own [aj q], .own [aj h], .own (ar.c g), .own (b.flatMap av.c), .own (av.c (gt b a))] (.cF (by kernel_rfl) (.skip (.pop (.ru G ?_)))))))))))
       exact aA (f, EN (a + 1)) hr ((Wk.gc [1, 2, 4, 5, 14, 15, 19, 20, 45, 46, 47] [(0, true), (1, true), (2, true), (3, true), (4, false)] rfl (pKt (pKt (pKt (pKt (pKo av.c av.pure b trivial)))))).to)
      refine .leave rfl ?_
      obtain rfl := oi hr
      exact ⟨rfl, ((Wk.gc [1, 2, 4, 5, 14, 15, 19, 20] kT4 rfl trivial).to)⟩
     rintro x st' t
     clear E
     obtain ⟨rfl, t⟩ := t
     refine aV _ rfl (.pop (.wk t (.ru G ?_)))
     exact aA (D, EN (e + 1)) hr ((Wk.gc [1, 2, 4, 5, 14, 15, 19, 20] kT4 rfl trivial).to)
    refine .leave rfl ?_
    obtain rfl := oi hr
    exact ⟨rfl, ((Wk.gc [1, 2, 4, 14, 15] kT4 rfl trivial).to)⟩
   rintro x st' u
   clear C
   obtain ⟨rfl, u⟩ := u
   refine aV _ rfl (.pop (.wk u (.ru G ?_)))
   exact aA (B, EN (d + 1)) hr ((Wk.gc [1, 2, 4, 14, 15] kT4 rfl trivial).to)
  refine .leave rfl ?_
  obtain rfl := oi hr
  exact ⟨rfl, ((Wk.gc [] kT3 rfl trivial).to)⟩
 rintro x st' w
 clear z
 obtain ⟨rfl, w⟩ := w
 refine aV _ rfl ?_
 obtain rfl := oi hr
 exact ee.wk w (ee.normal [] ((Wk.gc [] kT3 rfl trivial).to))

theorem sH (n : Nat) (g : ar) (a : Int) (b : Int) (r : Bool) (hr : jK n g a b = some r) : aM Tryz.prog 110 [.agg (ar.c g), aj a, aj b] (aB r) := by
 unfold jK at hr
 refine aM.bd G Tryz.func110 [.tmp 6] ?_
 unfold Tryz.f110
 simp only [gS]
 refine .seq (.r2 G 26 [(3, .hp 0 0), (4, .hp 1 0), (5, .hp 2 0)] [.own (ar.c g), .own [aj a], .own [aj b]] (.seq (.seq ?_)))
 rcases bT (decide (a < 0)) with d | d
 ·replace hr := b8 d hr
  refine .r0 G (.mu 1 (.p0 (v := aB true) (eB d) (.mu 12 (.done (.nh [3, 4, 5, 21] [.own (ar.c g), .own [aj a], .own [aj b]] (.cT (by kernel_rfl) (.seq (.ru G (.ret ?_)))))))))
  obtain rfl := oi hr
  exact aF.r1 [aB false]
 replace hr := bX d hr
 rcases bT (decide (a >= b)) with e | e
 ·replace hr := b8 e hr
  refine .r0 G (.mu 1 (.p0 (v := aB false) (eB d) (.mu 3 (.pure (v := aB true) (by kernel_rfl) (eB e) (.mu 8 (.done (.nh [3, 4, 5, 21] [.own (ar.c g), .own [aj a], .own [aj b]] (.cT (by kernel_rfl) (.seq (.ru G (.ret ?_)))))))))))
  obtain rfl := oi hr
  exact aF.r1 [aB false]
 replace hr := bX e hr
 refine .r0 G (.mu 1 (.p0 (v := aB false) (eB d) (.mu 3 (.pure (v := aB false) (by kernel_rfl) (eB e) (.mu 8 (.done (.nh [3, 4, 5, 21] [.own (ar.c g), .own [aj a], .own [aj b]] ?_)))))))
 refine .cd hr ?_ ?_ <;> intro i hr
 ·refine .seq (.ru G (.ret ?_))
  obtain rfl := oi hr
  exact aF.r1 [aB false]
 refine .skip (.seq (.r5 G [3, 4, 5] [(7, .hp 3 0)] [.own (ar.c g), .own [aj a], .own [aj b], .own [aB false]] (.seq ?_)))
 obtain ⟨f, h, hr⟩ := bd hr
 refine .g1 G (cu (args := [.agg (ar.c g), .fn 149 [] [.hp 3 0, .hp 1 0, .hp 2 0]]) 3 0 [(3, true), (1, true), (2, true)] [true, true, true] (iO n g false a b f h) trivial trivial rfl rfl (by kernel_rfl) (by kernel_rfl)) (.mu 2 (.ca cf0 (.done (.nh [7] [.own (ar.c g), .own [aj a], .own [aj b], .own [aB f]] (.seq (.ru G (.ret ?_)))))))
 obtain rfl := oi hr
 exact aF.r1 [aB f]

theorem mJ (n : Nat) (g : ak) (y : ak) (r : Int) (hr : eH n g y = some r) : aM Tryz.prog 102 [.agg (ak.c g), .agg (ak.c y)] (aj r) := by
 unfold eH at hr
 refine aM.bd G Tryz.func102 [.tmp 4] ?_
 unfold Tryz.f102
 simp only [gS]
 refine .seq (.r2 G 20 [(2, .hp 0 0), (3, .hp 1 0)] [.own (ak.c g), .own (ak.c y)] (.seq ?_))
 obtain ⟨i, a, j, b, hr⟩ := bd2 hr
 refine .tn G (ca1 (ok0 (cV n g i a)) (ca3 (ok0 (cV n y j b)))) (.mu 1 (.ca cf0 (.mu 1 (.ca (cfA (fun h => by rw [sv b a (jq n h)]) cf0) (.mu 2 ?_)))))
 refine .done ⟨by kernel_rfl, ?_⟩
 refine .nh [2, 3] [.own (ak.c i), .own (ak.c j)] (.seq ?_)
 obtain ⟨k, d, l, e, m, f, hr⟩ := bd3 hr
 refine .tn G (ca1 (ok0 (eR n i.Num j.Den k d)) (ca1 (ok0 (eR n j.Num i.Den l e)) (ca3 (ok0 (np n k l m f))))) (.mu 4 (.ca cf0 (.mu 4 (.ca (cfA (fun h => by rw [sv e d (iB n h)]) cf0) (.ca (cfF (cfF cf0)) (.mu 1 ?_))))))
 refine .done ⟨by kernel_rfl, ?_⟩
 refine .ret ?_
 obtain rfl := oi hr
 exact aF.r1 [aj m]

theorem rf {a : Int} {b : Int} {p : Int} {m : Int} {k : Bool} {i : List Int} {f : Bool} {d : List Int} {n : Int} {o : Int} {q : Int} {l : Int} {j : Bool} {g : List Int} {e : Bool} {c : List Int} (h : ([.at (.int .i64 a), .at (.int .i64 b), .pp [.at (.int .i64 p), .at (.int .i64 m), .at (.bool k), slT iCu i, .at (.bool f), slT iCu d] 0] : List AV) = [.at (.int .i64 n), .at (.int .i64 o), .pp [.at (.int .i64 q), .at (.int .i64 l), .at (.bool j), slT iCu g, .at (.bool e), slT iCu c] 0]) : a = n /\ b = o /\ p = q /\ m = l /\ k = j /\ i = g /\ f = e /\ d = c := by
 simp only [List.cons.injEq, AV.agg.injEq, AV.at.injEq, Value.int.injEq, Value.bool.injEq, AV.fn.injEq, AV.pp.injEq, true_and, and_true, dY] at h
 simp_all
theorem rV (n : Nat) {a : Int} {b : Int} {p : Int} {m : Int} {k : Bool} {i : List Int} {f : Bool} {d : List Int} {o : Int} {q : Int} {r : Int} {l : Int} {j : Bool} {g : List Int} {e : Bool} {c : List Int} (h : ([.at (.int .i64 a), .at (.int .i64 b), .pp [.at (.int .i64 p), .at (.int .i64 m), .at (.bool k), slT iCu i, .at (.bool f), slT iCu d] 0] : List AV) = [.at (.int .i64 o), .at (.int .i64 q), .pp [.at (.int .i64 r), .at (.int .i64 l), .at (.bool j), slT iCu g, .at (.bool e), slT iCu c] 0]) : dN n a b p m k i f d = dN n o q r l j g e c := by
 obtain ⟨rfl, rfl, rfl, rfl, rfl, rfl, rfl, rfl⟩ := rf h
 rfl
theorem ni (n : Nat) (a : Int) (b : Int) (p : Int) (o : Int) (g : Bool) (f : List Int) (e : Bool) (d : List Int) (r : ak) (hr : dN n a b p o g f e d = some r) : aM Tryz.prog 111 [aj a, aj b, .pp [aj p, aj o, aB g, aC f, aB e, aC d] 0] (.agg (ak.c r)) := by
 unfold dN at hr
 refine aM.bd G Tryz.func111 [.cell 5 42] ?_
 unfold Tryz.f111
 simp only [gS]
 refine .seq (.r5 G [0, 1, 2] [(5, .hp 0 0)] [.own zN2] (.seq ?_))
 obtain ⟨q, i, s, j, t, k, hr⟩ := bd3 hr
 obtain ⟨l, m, hr⟩ := bd hr
 refine .tn G (ca1 (ok0 (dr n a q i)) (ca1 (ok0 (dr n (EN (b - a)) s j)) (ca1 (ok0 (eZ n (ak.mk (ai.mk g f) (ai.mk e d)) s t k)) (ca3 (ok0 (gO n q t l m)))))) (.mu 1 (.ca cf0 (.mu 5 (.ca (cfA (fun h => by rw [sv j i (nO n h)]) cf0) (.ca (cfF (cfF cf0)) (.ca (cfF (cfF (cfF cf0))) (.mu 1 ?_)))))))
 refine .done ⟨by kernel_rfl, ?_⟩
 refine .nh [5] [.own (ak.c l)] (.ret ?_)
 obtain rfl := oi hr
 exact aF.r1 [.agg (ak.c l)]

theorem tO (n : Nat) (g : ar) (c : al) (r : an × Int) (hr : eM n g c = some r) : aM Tryz.prog 66 [.agg (ar.c g), .agg (al.c c)] (.tup [.agg (an.c r.1), aj r.2]) := by
 unfold eM at hr
 refine aM.bd G Tryz.func66 [.cell 4 59, .tmp 5] ?_
 unfold Tryz.f66
 simp only [gS]
 refine .seq (.r2 G 81 [(2, .hp 0 0), (3, .hp 1 0), (4, .hp 2 0)] [.own (ar.c g), .own (al.c c), .own zN4] (.seq (.seq ?_)))
 obtain ⟨D, u, hr⟩ := bd hr
 refine .g1 G (ok0 (sH n g c.A c.B D u)) (.mu 5 (.ca cf0 (.mu 1 (.done (.nh [2, 3, 4, 14] [.own (ar.c g), .own (al.c c), .own zN4] ?_)))))
 refine .cd hr ?_ ?_ <;> intro E hr
 ·refine .seq (.r4 G [4] [(5, aj 6)] (.ret ?_))
  obtain rfl := oi hr
  exact aF.ret (vs := [.agg zN4, aj 6]) (by kernel_rfl) (Sn.tup (SnL.cons (Sn.agg (Sp (SnL.cons Sn.dB (Sp (SnL.cons Sn.dB (Sp (SnL.cons Sn.dB (Sp (SnL.cons Sn.dB SnL.nil))))))))) (Sp SnL.nil)))
 refine .skip (.seq (.seq ?_))
 obtain ⟨F, w, hr⟩ := bd hr
 refine .g1 G (ok0 (eX n c.At F w)) (.mu 2 (.ca cf0 (.mu 1 (.done (.nh [2, 3, 4, 19] [.own (ar.c g), .own (al.c c), .own zN4] ?_)))))
 refine .cd hr ?_ ?_ <;> intro H hr
 ·refine .seq (.r4 G [4] [(5, aj 1)] (.ret ?_))
  obtain rfl := oi hr
  exact aF.ret (vs := [.agg zN4, aj 1]) (by kernel_rfl) (Sn.tup (SnL.cons (Sn.agg (Sp (SnL.cons Sn.dB (Sp (SnL.cons Sn.dB (Sp (SnL.cons Sn.dB (Sp (SnL.cons Sn.dB SnL.nil))))))))) (Sp SnL.nil)))
 refine .skip (.seq (.seq ?_))
 replace hr := bd hr; obtain ⟨p, f, hr⟩ := hr
 refine .xA (Q := fun x st' => x = .normal /\ Wk 0 st' ⟨mkS 81 0 [(2, .hp 0 0), (3, .hp 1 0), (4, .hp 2 0), (31, aB p)], [.own (ar.c g), .own (al.c c), .own zN4]⟩) ?_ ?_
 ·clear hr
  have hr := f
  clear f
  obtain ⟨o, j, hr⟩ := bd hr
  rcases bT (decide (o < 0)) with d | d
  ·replace hr := b8 d hr
   refine .t1 G (ok0 (cw n c.At o j)) (.mu 2 (.ca cf0 (.pk (v := aB true) (eB d) (.mu 7 ?_))))
   refine .done ⟨by kernel_rfl, ?_⟩
   obtain rfl := oi hr
   exact ⟨rfl, ((Wk.gc [2, 3, 4, 31] kT3 rfl trivial).to)⟩
  replace hr := bX d hr
  obtain ⟨q, s, z, t, hr⟩ := bd2 hr
  refine .tn G (ca1 (ok0 (cw n c.At o j)) (ca1 (ok0 (dr n 1 q s)) (ca3 (ok0 (mJ n c.At q z t))))) (.mu 2 (.ca cf0 (.pk (v := aB false) (eB d) (.mu 3 (.ca (cfF cf0) (.ca (cfF (cfF cf0)) (.mu 2 ?_)))))))
  refine .done ⟨by kernel_rfl, ?_⟩
  obtain rfl := oi hr
  exact ⟨rfl, ((Wk.gc [2, 3, 4, 31] kT3 rfl trivial).to)⟩
 rintro x st' i
 clear f
 obtain ⟨rfl, i⟩ := i
 refine .wk i ?_
 refine .cd hr ?_ ?_ <;> intro C hr
 ·refine .seq (.r4 G [4] [(5, aj 2)] (.ret ?_))
  obtain rfl := oi hr
  exact aF.ret (vs := [.agg zN4, aj 2]) (by kernel_rfl) (Sn.tup (SnL.cons (Sn.agg (Sp (SnL.cons Sn.dB (Sp (SnL.cons Sn.dB (Sp (SnL.cons Sn.dB (Sp (SnL.cons Sn.dB SnL.nil))))))))) (Sp SnL.nil)))
 refine .skip (.seq (.r4 G [2, 3, 4] [(6, .fn 111 [] [.hp 1 0])] (.seq (.r4 G [2, 3, 4, 6] [(7, aj g.Width)] (.seq (.wk ((Wk.fix 1 (cs := (al.c c)) (by kernel_rfl)).to (c := ⟨mkS 81 0 [(2, .hp 0 0), (3, .hp 1 0), (4, .hp 2 0), (6, .fn 111 [] [.hp 1 0]), (7, aj g.Width)], [.own (ar.c g), .fix (al.c c), .own zN4]⟩) (by kernel_rfl)) ?_))))))
 obtain ⟨e, hr⟩ := gd hr
 obtain ⟨a, k, b, m, hr⟩ := bd2 hr
 refine .tn G (ca1 (cK (args := [aj (EN (g.X0 + (EN ((c.A.tmod g.Width) * g.Step)))), aj (EN (g.X0 + (EN ((c.B.tmod g.Width) * g.Step)))), .hp 1 0]) (l := [1]) (Sp (Sp (SnL.cons (Sn.hp rfl (.inr rfl) (SnC.cons (Sn.pure rfl) (SnC.cons (Sn.pure rfl) (SnC.cons (Sn.pure rfl) (SnC.cons (Sn.pure rfl) (SnC.cons (Sn.pure rfl) (SnC.cons (Sn.pure rfl) SnC.nil))))))) SnL.nil))) (ni n (EN (g.X0 + (EN ((c.A.tmod g.Width) * g.Step)))) (EN (g.X0 + (EN ((c.B.tmod g.Width) * g.Step)))) c.A c.B c.At.Num.Negative c.At.Num.Groups c.At.Den.Negative c.At.Den.Groups a k)) (ca3 (cK (args := [aj (EN (g.Y0 + (EN ((EN (c.A.tdiv g.Width)) * g.Step)))), aj (EN (g.Y0 + (EN ((EN (c.B.tdiv g.Width)) * g.Step)))), .hp 1 0]) (l := [1]) (Sp (Sp (SnL.cons (Sn.hp rfl (.inr rfl) (SnC.cons (Sn.pure rfl) (SnC.cons (Sn.pure rfl) (SnC.cons (Sn.pure rfl) (SnC.cons (Sn.pure rfl) (SnC.cons (Sn.pure rfl) (SnC.cons (Sn.pure rfl) SnC.nil))))))) SnL.nil))) (ni n (EN (g.Y0 + (EN ((EN (c.A.tdiv g.Width)) * g.Step)))) (EN (g.Y0 + (EN ((EN (c.B.tdiv g.Width)) * g.Step)))) c.A c.B c.At.Num.Negative c.At.Num.Groups c.At.Den.Negative c.At.Den.Groups b m)))) (.mu 6 (.pk (v := aj (c.A.tmod g.Width)) (oa (x := c.A) (y := g.Width) (by kernel_rfl) (by kernel_rfl) e) (.mu 9 (.pk (v := aj (c.B.tmod g.Width)) (oa (x := c.B) (y := g.Width) (by kernel_rfl) (by kernel_rfl) e) (.mu 4 (.ca cf0 (.mu 6 (.pk (v := aj (EN (c.A.tdiv g.Width))) (pD (x := c.A) (y := g.Width) (by kernel_rfl) (by kernel_rfl) e) (.mu 9 (.pk (v := aj (EN (c.B.tdiv g.Width))) (pD (x := c.B) (y := g.Width) (by kernel_rfl) (by kernel_rfl) e) (.mu 4 (.ca (cfA (fun h => by rw [sv m k (rV n (show ([aj (EN (g.Y0 + (EN ((EN (c.A.tdiv g.Width)) * g.Step)))), aj (EN (g.Y0 + (EN ((EN (c.B.tdiv g.Width)) * g.Step)))), .pp (al.c c) 0] : List AV) = [aj (EN (g.X0 + (EN ((c.A.tmod g.Width) * g.Step)))), aj (EN (g.X0 + (EN ((c.B.tmod g.Width) * g.Step)))), .pp (al.c c) 0] from (congr (congrArg List.cons (List.cons.inj h).1) (congr (congrArg List.cons (List.cons.inj (List.cons.inj h).2).1) (congr (congrArg List.cons rfl) rfl)))))]) cf0) (.mu 3 ?_)))))))))))))
 refine .done ⟨by kernel_rfl, ?_⟩
 refine .nh [4, 5] [.own (ar.c g), .fix (al.c c), .own [aB a.Num.Negative, aC a.Num.Groups, aB a.Den.Negative, aC a.Den.Groups, aB b.Num.Negative, aC b.Num.Groups, aB b.Den.Negative, aC b.Den.Groups]] (.ret ?_)
 obtain rfl := oi hr
 exact aF.ret (vs := [.agg [aB a.Num.Negative, aC a.Num.Groups, aB a.Den.Negative, aC a.Den.Groups, aB b.Num.Negative, aC b.Num.Groups, aB b.Den.Negative, aC b.Den.Groups], aj 0]) (by kernel_rfl) (Sn.tup (Sp (Sp SnL.nil)))

theorem sM (n : Nat) (g : ar) (c : ae) (r : List an × Int) (hr : fB n g c = some r) : aM Tryz.prog 59 [.agg (ar.c g), .agg (ae.c c)] (.tup [slT an.c r.1, aj r.2]) := by
 unfold fB at hr
 refine aM.bd G Tryz.func59 [.tmp 4, .tmp 5] ?_
 unfold Tryz.f59
 simp only [gS]
 refine .seq (.r2 G 33 [(2, .hp 0 0), (3, .hp 1 0)] [.own (ar.c g), .own (ae.c c)] (.seq (.r4 G [2, 3] [(6, nS)] (.seq (.seq (.r4 G [2, 6] [(12, slT al.c c.Points), (13, aj (c.Points.length : Int)), (14, aj 0)] (.block ?_)))))))
 replace hr := bd hr; obtain ⟨k, i, hr⟩ := hr
 refine .aL (σ := fun u => match u with | (b, a) => ⟨mkS 33 0 [(2, .hp 0 0), (6, .hs 1 0 b.length 8), (12, slT al.c c.Points), (13, aj (c.Points.length : Int)), (14, aj a)], [.own (ar.c g), .own (b.flatMap an.c)]⟩) (Q := fun x st' => match (generalizing := false) k with | .inl f => x = .exit 0 /\ Wk 0 st' ⟨mkS 33 0 [(6, .hs 0 0 f.length 8)], [.own (f.flatMap an.c)]⟩ | .inr (r0) => x = .ret /\ aF Tryz.prog [.tmp 4, .tmp 5] (.tup [slT an.c r0.1, aj r0.2]) .ret st') i ((Wk.nil 6 8 (by kernel_rfl)).trans ((Wk.gc [2, 6, 12, 13, 14] [(0, true), (2, false)] rfl (pKt (pKc trivial))).to)) ?_ ?_
 ·clear hr
  rintro m ⟨b, a⟩ hr
  show CQ _ _ _ _ _ ⟨_, _⟩
  refine .seq (.r4 G [2, 6, 12, 13, 14] [(15, aB (decide (a < (c.Points.length : Int))))] (.seq ?_))
  refine .cd hr ?_ ?_ <;> intro s hr
  ·refine .skip (.seq (.block (.seq ?_)))
   obtain ⟨j, hr⟩ := gd hr
   refine .r0 G (.p0 (v := .pp (c.Points.flatMap al.c) (a.toNat * 6)) (tr (au j)) (.p0 (v := .agg (al.c (gt c.Points a))) (tr (y := bt.ofP (dz (decide (6 <= ((c.Points.flatMap al.c).drop (a.toNat * 6)).length)) (.agg (((c.Points.flatMap al.c).drop (a.toNat * 6)).take 6)))) (bB al.len (aD j) (by decide) (by omega : a.toNat * 6 = a.toNat * 6 + 0) (by kernel_rfl))) (.mu 2 (.done (.nh [2, 6, 8, 12, 13, 14] [.own (ar.c g), .own (b.flatMap an.c), .own (al.c (gt c.Points a))] (.seq ?_))))))
   obtain ⟨d, o, hr⟩ := bd hr
   refine .g1 G (ok0 (tO n g (gt c.Points a) d o)) (.mu 2 (.ca cf0 (.mu 6 (.done (.nh [2, 6, 9, 10, 12, 13, 14] [.own (ar.c g), .own (b.flatMap an.c), .own (al.c (gt c.Points a)), .own (an.c d.1)] (.seq (.seq (.r4 G [2, 6, 9, 10, 12, 13, 14] [(25, aB ((d.2 : Int) != 0))] ?_))))))))
   refine .cd hr ?_ ?_ <;> intro t hr
   ·refine .seq (.r3 G 33 [(4, nS), (5, aj d.2)] (.ret ?_))
    obtain rfl := oi hr
    exact ⟨rfl, aF.ret (vs := [nS, aj d.2]) (by kernel_rfl) (Sn.tup (SnL.cons Sn.dB (Sp SnL.nil)))⟩
   refine .skip ?_
   obtain ⟨p, q, hr⟩ := gd2 hr
   refine .r0 G (.mu 3 (.e0 (v := .hs 5 0 (b ++ [d.1]).length 8) (ws := [(1, .dead), (5, .own ((b ++ [d.1]).flatMap an.c))]) (tr (eJ (new := (an.c d.1)) (l := b) (xs := [d.1]) an.len rfl rfl (by kernel_rfl) p q)) (.mu 1 (.done (.pop (.ru G ?_))))))
   exact aA (b ++ [d.1], EN (a + 1)) hr ((Wk.gc [2, 6, 12, 13, 14] [(0, true), (5, false)] rfl (pKt (pKo an.c an.pure (b ++ [d.1]) trivial))).to)
  refine .leave rfl ?_
  obtain rfl := oi hr
  exact ⟨rfl, ((Wk.gc [6] [(1, false)] rfl (pKo an.c an.pure b trivial)).to)⟩
 rcases k with f | r0
 ·rintro x st' e
  clear i
  obtain ⟨rfl, e⟩ := e
  refine aV _ rfl (.wk e (.seq (.r3 G 33 [(4, .hs 0 0 f.length 8), (5, aj 0)] (.ret ?_))))
  obtain rfl := oi hr
  exact aF.ret (vs := [.hs 0 0 f.length 8, aj 0]) (by kernel_rfl) (Sn.tup (SnL.cons (Sn.hs rfl (.inl rfl) (SnC.pure (aZ an.pure _)) (fun h => cB h)) (Sp SnL.nil)))
 rintro x st' e
 clear i
 obtain ⟨rfl, e⟩ := e
 obtain rfl := oi hr
 exact gw _ e

theorem rO (n : Nat) (polygon : List an) (o : an) (r : Int × Bool) (hr : fM n polygon o = some r) : aM Tryz.prog 60 [slT an.c polygon, .agg (an.c o)] (.tup [aj r.1, aB r.2]) := by
 unfold fM at hr
 refine aM.bd G Tryz.func60 [.tmp 4, .tmp 5] ?_
 unfold Tryz.f60
 simp only [gS]
 refine .seq (.r5 G [0] [(3, .hp 0 0)] [.own (an.c o)] (.seq (.r4 G [0, 3] [(6, aj 0)] (.seq (.seq (.r4 G [0, 3, 6] [(17, slT an.c polygon), (18, aj (polygon.length : Int)), (19, aj 0)] (.block ?_)))))))
 replace hr := bd hr; obtain ⟨E, s, hr⟩ := hr
 refine .aL (σ := fun z0 => match z0 with | (j, a) => ⟨mkS 105 0 [(0, slT an.c polygon), (3, .hp 0 0), (6, aj j), (17, slT an.c polygon), (18, aj (polygon.length : Int)), (19, aj a)], [.own (an.c o)]⟩) (Q := fun x st' => match (generalizing := false) E with | .inl w => x = .exit 0 /\ Wk 0 st' ⟨mkS 105 0 [(6, aj w)], []⟩ | .inr (r0) => x = .ret /\ aF Tryz.prog [.tmp 4, .tmp 5] (.tup [aj r0.1, aB r0.2]) .ret st') s ((Wk.gc [0, 3, 6, 17, 18, 19] [(0, true)] rfl trivial).to) ?_ ?_
 ·clear hr
  rintro m ⟨j, a⟩ hr
  show CQ _ _ _ _ _ ⟨_, _⟩
  refine .seq (.r4 G [0, 3, 6, 17, 18, 19] [(20, aB (decide (a < (polygon.length : Int))))] (.seq ?_))
  refine .cd hr ?_ ?_ <;> intro mM hr
  ·refine .skip (.seq (.block (.seq ?_)))
   obtain ⟨F, hr⟩ := gd hr
   refine .r0 G (.mu 1 (.p0 (v := .pp (polygon.flatMap an.c) (a.toNat * 8)) (tr (au F)) (.p0 (v := .agg (an.c (gt polygon a))) (tr (y := bt.ofP (dz (decide (8 <= ((polygon.flatMap an.c).drop (a.toNat * 8)).length)) (.agg (((polygon.flatMap an.c).drop (a.toNat * 8)).take 8)))) (bB an.len (aD F) (by decide) (by omega : a.toNat * 8 = a.toNat * 8 + 0) (by kernel_rfl))) (.mu 3 (.done (.nh [0, 3, 6, 7, 8, 17, 18, 19] [.own (an.c o), .own (an.c (gt polygon a))] (.seq ?_)))))))
   obtain ⟨V, H, hr⟩ := gd2 hr
   refine .r0 G (.mu 5 (.p0 (v := aj ((EN (a + 1)).tmod (polygon.length : Int))) (oa (x := EN (a + 1)) (y := (polygon.length : Int)) (by kernel_rfl) (by kernel_rfl) V) (.p0 (v := .pp (polygon.flatMap an.c) (((EN (a + 1)).tmod (polygon.length : Int)).toNat * 8)) (tr (au H)) (.p0 (v := .agg (an.c (gt polygon ((EN (a + 1)).tmod (polygon.length : Int))))) (tr (y := bt.ofP (dz (decide (8 <= ((polygon.flatMap an.c).drop (((EN (a + 1)).tmod (polygon.length : Int)).toNat * 8)).length)) (.agg (((polygon.flatMap an.c).drop (((EN (a + 1)).tmod (polygon.length : Int)).toNat * 8)).take 8)))) (bB an.len (aD H) (by decide) (by omega : ((EN (a + 1)).tmod (polygon.length : Int)).toNat * 8 = ((EN (a + 1)).tmod (polygon.length : Int)).toNat * 8 + 0) (by kernel_rfl))) (.mu 2 (.done (.nh [0, 3, 6, 8, 9, 17, 18, 19] [.own (an.c o), .own (an.c (gt polygon a)), .own (an.c (gt polygon ((EN (a + 1)).tmod (polygon.length : Int))))] (.seq ?_))))))))
   obtain ⟨k, I, d, J, hr⟩ := bd2 hr
   refine .tn G (ca1 (ok0 (fb n (gt polygon a).X o.X k I)) (ca3 (ok0 (fb n (gt polygon a).Y o.Y d J)))) (.mu 4 (.ca cf0 (.mu 4 (.ca (cfA (fun h => by rw [sv J I (mC n h)]) cf0) (.mu 4 ?_)))))
   refine .done ⟨by kernel_rfl, ?_⟩
   refine .nh [0, 3, 6, 9, 10, 11, 17, 18, 19] [.own (an.c o), .own (an.c (gt polygon a)), .own (an.c (gt polygon ((EN (a + 1)).tmod (polygon.length : Int)))), .own (ak.c k), .own (ak.c d)] (.seq ?_)
   obtain ⟨t, L, f, M, hr⟩ := bd2 hr
   refine .tn G (ca1 (ok0 (fb n (gt polygon ((EN (a + 1)).tmod (polygon.length : Int))).X o.X t L)) (ca3 (ok0 (fb n (gt polygon ((EN (a + 1)).tmod (polygon.length : Int))).Y o.Y f M)))) (.mu 4 (.ca cf0 (.mu 4 (.ca (cfA (fun h => by rw [sv M L (mC n h)]) cf0) (.mu 4 ?_)))))
   refine .done ⟨by kernel_rfl, ?_⟩
   refine .nh [0, 3, 6, 10, 11, 12, 13, 17, 18, 19] [.own (an.c o), .own (an.c (gt polygon a)), .own (an.c (gt polygon ((EN (a + 1)).tmod (polygon.length : Int)))), .own (ak.c k), .own (ak.c d), .own (ak.c t), .own (ak.c f)] (.seq ?_)
   obtain ⟨W, N, Z, O, jX, kB, hr⟩ := bd3 hr
   obtain ⟨B, lH, hr⟩ := bd hr
   refine .tn G (ca1 (ok0 (eZ n k f W N)) (ca1 (ok0 (eZ n d t Z O)) (ca1 (ok0 (fb n W Z jX kB)) (ca3 (ok0 (cw n jX B lH)))))) (.mu 2 (.ca cf0 (.mu 2 (.ca (cfA (fun h => by rw [sv O N (mG n h)]) cf0) (.ca (cfF (cfF cf0)) (.ca (cfF (cfF (cfF cf0))) (.mu 1 ?_)))))))
   refine .done ⟨by kernel_rfl, ?_⟩
   refine .nh [0, 3, 6, 10, 11, 12, 13, 14, 17, 18, 19] [.own (an.c o), .own (an.c (gt polygon a)), .own (an.c (gt polygon ((EN (a + 1)).tmod (polygon.length : Int)))), .own (ak.c k), .own (ak.c d), .own (ak.c t), .own (ak.c f)] (.seq (.seq ?_))
   replace hr := bd hr; obtain ⟨l8, u, hr⟩ := hr
   refine .D2 (Q := fun x st' => match (generalizing := false) l8 with | .inl _ => x = .normal /\ Wk 0 st' ⟨mkS 105 0 [(0, slT an.c polygon), (3, .hp 0 0), (6, aj j), (11, .hp 1 0), (13, .hp 2 0), (14, aj B), (17, slT an.c polygon), (18, aj (polygon.length : Int)), (19, aj a)], [.own (an.c o), .own (ak.c d), .own (ak.c f)]⟩ | .inr (r0) => x = .ret /\ aF Tryz.prog [.tmp 4, .tmp 5] (.tup [aj r0.1, aB r0.2]) .ret st') ?_ ?_
   ·clear hr
    have hr := u
    clear u
    rcases bT ((B : Int) == 0) with l | l
    ·replace hr := b8 l hr
     obtain ⟨lK, R, mv, S, mw, nC, hr⟩ := bd3 hr
     obtain ⟨kH, nF, hr⟩ := bd hr
     refine .tn G (ca1 (ok0 (eZ n k t lK R)) (ca1 (ok0 (eZ n d f mv S)) (ca1 (ok0 (gO n lK mv mw nC)) (ca3 (ok0 (cw n mw kH nF)))))) (.mu 1 (.pk (v := aB true) (eB l) (.mu 3 (.ca cf0 (.mu 2 (.ca (cfA (fun h => by rw [sv S R (mG n h)]) cf0) (.ca (cfF (cfF cf0)) (.ca (cfF (cfF (cfF cf0))) (.mu 2 ?_)))))))))
     refine .done ⟨by kernel_rfl, ?_⟩
     refine .nh [0, 3, 6, 11, 13, 14, 17, 18, 19, 72] [.own (an.c o), .own (an.c (gt polygon a)), .own (an.c (gt polygon ((EN (a + 1)).tmod (polygon.length : Int)))), .own (ak.c k), .own (ak.c d), .own (ak.c t), .own (ak.c f)] ?_
     refine .cd hr ?_ ?_ <;> intro nG hr
     ·refine .seq (.ru G (.ret ?_))
      obtain rfl := oi hr
      exact ⟨rfl, aF.ret (vs := [aj 0, aB true]) (by kernel_rfl) (Sn.tup (Sp (Sp SnL.nil)))⟩
     refine .skip ?_
     obtain rfl := oi hr
     exact ⟨rfl, ((Wk.gc [0, 3, 6, 11, 13, 14, 17, 18, 19] [(0, true), (4, true), (6, true)] rfl trivial).to)⟩
    replace hr := bX l hr
    refine .ei G bL (.mu 1 (.pk (v := aB false) (eB l) (.mu 11 ?_)))
    refine .done ⟨by kernel_rfl, ?_⟩
    refine .nh [0, 3, 6, 11, 13, 14, 17, 18, 19, 72] [.own (an.c o), .own (an.c (gt polygon a)), .own (an.c (gt polygon ((EN (a + 1)).tmod (polygon.length : Int)))), .own (ak.c k), .own (ak.c d), .own (ak.c t), .own (ak.c f)] (.cF (by kernel_rfl) (.skip ?_))
    obtain rfl := oi hr
    exact ⟨rfl, ((Wk.gc [0, 3, 6, 11, 13, 14, 17, 18, 19] [(0, true), (4, true), (6, true)] rfl trivial).to)⟩
   rcases l8 with ⟨⟩ | r0
   ·rintro x st' e
    clear u
    obtain ⟨rfl, e⟩ := e
    refine .wk e (.seq ?_)
    obtain ⟨C, T, D, U, hr⟩ := bd2 hr
    refine .tn G (ca1 (ok0 (cw n d C T)) (ca3 (ok0 (cw n f D U)))) (.mu 1 (.ca cf0 (.mu 2 (.ca (cfA (fun h => by rw [sv U T (jT n h)]) cf0) (.mu 3 ?_)))))
    refine .done ⟨by kernel_rfl, ?_⟩
    refine .nh [0, 3, 6, 14, 15, 16, 17, 18, 19] [.own (an.c o), .own (ak.c d), .own (ak.c f)] (.block (.seq ?_))
    replace hr := bd hr; obtain ⟨pL, z, hr⟩ := hr
    refine .xA (Q := fun x st' => x = .normal /\ Wk 0 st' ⟨mkS 105 0 [(0, slT an.c polygon), (3, .hp 0 0), (6, aj j), (14, aj B), (15, aB (decide (C <= 0))), (16, aB (decide (D <= 0))), (17, slT an.c polygon), (18, aj (polygon.length : Int)), (19, aj a), (79, aB pL)], [.own (an.c o)]⟩) ?_ ?_
    ·clear hr
     have hr := z
     clear z
     rcases bT (decide (C <= 0)) with g | g
     ·replace hr := b8 g hr
      rcases bT (!(decide (D <= 0))) with p | p
      ·replace hr := b8 p hr
       refine .r0 G (.p0 (v := aB true) (eB g) (.mu 2 (.pure (v := aB true) (by kernel_rfl) (eB p) (.mu 6 (.done ?_)))))
       obtain rfl := oi hr
       exact ⟨rfl, ((Wk.gc [0, 3, 6, 14, 15, 16, 17, 18, 19, 79] [(0, true)] rfl trivial).to)⟩
      replace hr := bX p hr
      refine .r0 G (.p0 (v := aB true) (eB g) (.mu 2 (.pure (v := aB false) (by kernel_rfl) (eB p) (.mu 6 (.done ?_)))))
      obtain rfl := oi hr
      exact ⟨rfl, ((Wk.gc [0, 3, 6, 14, 15, 16, 17, 18, 19, 79] [(0, true)] rfl trivial).to)⟩
     replace hr := bX g hr
     refine .r0 G (.p0 (v := aB false) (eB g) (.mu 9 (.done ?_)))
     obtain rfl := oi hr
     exact ⟨rfl, ((Wk.gc [0, 3, 6, 14, 15, 16, 17, 18, 19, 79] [(0, true)] rfl trivial).to)⟩
    rintro x st' A
    clear z
    obtain ⟨rfl, A⟩ := A
    refine .wk A ?_
    refine .cd hr ?_ ?_ <;> intro nK hr
    ·refine .ru G (.pop (.pop (.ru G ?_)))
     exact aA (EN (j + 1), EN (a + 1)) hr ((Wk.gc [0, 3, 6, 17, 18, 19] [(0, true)] rfl trivial).to)
    refine .seq ?_
    rcases bT (!(decide (C <= 0))) with i | i
    ·replace hr := b8 i hr
     rcases bT (decide (D <= 0)) with q | q
     ·replace hr := b8 q hr
      refine .r0 G (.mu 1 (.p0 (v := aB true) (eB i) (.mu 1 (.pure (v := aB true) (by kernel_rfl) (eB q) (.mu 6 (.done (.nh [0, 3, 6, 17, 18, 19, 91] [.own (an.c o)] ?_)))))))
      refine .cd hr ?_ ?_ <;> intro mN hr
      ·refine .ru G (.pop (.pop (.ru G ?_)))
       exact aA (EN (j - 1), EN (a + 1)) hr ((Wk.gc [0, 3, 6, 17, 18, 19] [(0, true)] rfl trivial).to)
      refine .skip (.pop (.pop (.ru G ?_)))
      exact aA (j, EN (a + 1)) hr ((Wk.gc [0, 3, 6, 17, 18, 19] [(0, true)] rfl trivial).to)
     replace hr := bX q hr
     refine .r0 G (.mu 1 (.p0 (v := aB true) (eB i) (.mu 1 (.pure (v := aB false) (by kernel_rfl) (eB q) (.mu 6 (.done (.nh [0, 3, 6, 17, 18, 19, 91] [.own (an.c o)] (.cF (by kernel_rfl) (.skip (.pop (.pop (.ru G ?_))))))))))))
     exact aA (j, EN (a + 1)) hr ((Wk.gc [0, 3, 6, 17, 18, 19] [(0, true)] rfl trivial).to)
    replace hr := bX i hr
    refine .r0 G (.mu 1 (.p0 (v := aB false) (eB i) (.mu 8 (.done (.nh [0, 3, 6, 17, 18, 19, 91] [.own (an.c o)] (.cF (by kernel_rfl) (.skip (.pop (.pop (.ru G ?_))))))))))
    exact aA (j, EN (a + 1)) hr ((Wk.gc [0, 3, 6, 17, 18, 19] [(0, true)] rfl trivial).to)
   rintro x st' e
   clear u
   obtain ⟨rfl, e⟩ := e
   obtain rfl := oi hr
   exact gw _ ⟨rfl, e⟩
  refine .leave rfl ?_
  obtain rfl := oi hr
  exact ⟨rfl, ((Wk.gc [6] [] rfl pK0).to)⟩
 rcases E with w | r0
 ·rintro x st' b
  clear s
  obtain ⟨rfl, b⟩ := b
  refine aV _ rfl (.wk b (.seq (.ru G (.ret ?_))))
  obtain rfl := oi hr
  exact aF.ret (vs := [aj w, aB false]) (by kernel_rfl) (Sn.tup (Sp (Sp SnL.nil)))
 rintro x st' b
 clear s
 obtain ⟨rfl, b⟩ := b
 obtain rfl := oi hr
 exact gw _ b

theorem oE (n : Nat) (g : ar) (l : ae) (i : Int) (j : Int) (r : Int × Int) (hr : eL n g l i j = some r) : aM Tryz.prog 22 [.agg (ar.c g), .agg (ae.c l), aj i, aj j] (.tup [aj r.1, aj r.2]) := by
 unfold eL at hr
 refine aM.bd G Tryz.func22 [.tmp 8, .tmp 9] ?_
 unfold Tryz.f22
 simp only [gS]
 refine .seq (.r5 G [2, 3] [(4, .hp 0 0), (5, .hp 1 0)] [.own (ar.c g), .own (ae.c l)] (.seq (.seq ?_)))
 obtain ⟨y, z, hr⟩ := bd hr
 refine .g1 G (ok0 (oZ n g y z)) (.mu 1 (.ca cf0 (.mu 1 (.done (.nh [2, 3, 4, 5, 10] [.own (ar.c g), .own (ae.c l)] (.seq (.r4 G [2, 3, 4, 5, 10] [(18, aB ((y : Int) != 0))] ?_)))))))
 refine .cd hr ?_ ?_ <;> intro F hr
 ·refine .seq (.ru G (.ret ?_))
  obtain rfl := oi hr
  exact aF.ret (vs := [aj 0, aj y]) (by kernel_rfl) (Sn.tup (Sp (Sp SnL.nil)))
 refine .skip (.seq (.seq ?_))
 replace hr := bd hr; obtain ⟨A, e, hr⟩ := hr
 refine .xA (Q := fun x st' => x = .normal /\ Wk 0 st' ⟨mkS 79 0 [(2, aj i), (3, aj j), (4, .hp 0 0), (5, .hp 1 0), (37, aB A)], [.own (ar.c g), .own (ae.c l)]⟩) ?_ ?_
 ·clear hr
  have hr := e
  clear e
  rcases bT (decide (i < 0)) with b | b
  ·replace hr := b8 b hr
   refine .r0 G (.mu 1 (.p0 (v := aB true) (eB b) (.mu 16 (.done ?_))))
   obtain rfl := oi hr
   exact ⟨rfl, ((Wk.gc [2, 3, 4, 5, 37] [(0, true), (1, true)] rfl trivial).to)⟩
  replace hr := bX b hr
  rcases bT (decide (i >= g.Width)) with d | d
  ·replace hr := b8 d hr
   refine .r0 G (.mu 1 (.p0 (v := aB false) (eB b) (.mu 4 (.pure (v := aB true) (by kernel_rfl) (eB d) (.mu 11 (.done ?_))))))
   obtain rfl := oi hr
   exact ⟨rfl, ((Wk.gc [2, 3, 4, 5, 37] [(0, true), (1, true)] rfl trivial).to)⟩
  replace hr := bX d hr
  rcases bT (decide (j < 0)) with f | f
  ·replace hr := b8 f hr
   refine .r0 G (.mu 1 (.p0 (v := aB false) (eB b) (.mu 4 (.pure (v := aB false) (by kernel_rfl) (eB d) (.mu 3 (.pure (v := aB true) (by kernel_rfl) (eB f) (.mu 7 (.done ?_))))))))
   obtain rfl := oi hr
   exact ⟨rfl, ((Wk.gc [2, 3, 4, 5, 37] [(0, true), (1, true)] rfl trivial).to)⟩
  replace hr := bX f hr
  refine .r0 G (.mu 1 (.p0 (v := aB false) (eB b) (.mu 4 (.pure (v := aB false) (by kernel_rfl) (eB d) (.mu 3 (.pure (v := aB false) (by kernel_rfl) (eB f) (.mu 7 (.done ?_))))))))
  obtain rfl := oi hr
  exact ⟨rfl, ((Wk.gc [2, 3, 4, 5, 37] [(0, true), (1, true)] rfl trivial).to)⟩
 rintro x st' k
 clear e
 obtain ⟨rfl, k⟩ := k
 refine .wk k ?_
 refine .cd hr ?_ ?_ <;> intro B hr
 ·refine .seq (.ru G (.ret ?_))
  obtain rfl := oi hr
  exact aF.ret (vs := [aj 0, aj 2]) (by kernel_rfl) (Sn.tup (Sp (Sp SnL.nil)))
 refine .skip (.seq (.seq (.r4 G [2, 3, 4, 5] [(40, aB (!l.Closed))] ?_)))
 refine .cd hr ?_ ?_ <;> intro C hr
 ·refine .seq (.ru G (.ret ?_))
  obtain rfl := oi hr
  exact aF.ret (vs := [aj 0, aj 11]) (by kernel_rfl) (Sn.tup (Sp (Sp SnL.nil)))
 refine .skip (.seq ?_)
 obtain ⟨m, s, hr⟩ := bd hr
 refine .g1 G (ok0 (sM n g l m s)) (.mu 2 (.ca cf0 (.mu 5 (.done (.nh [2, 3, 4, 11, 12] [.own (ar.c g), .own (ae.c l)] (.seq (.seq (.r4 G [2, 3, 4, 11, 12] [(48, aB ((m.2 : Int) != 0))] ?_))))))))
 refine .cd hr ?_ ?_ <;> intro D hr
 ·refine .seq (.ru G (.ret ?_))
  obtain rfl := oi hr
  exact aF.ret (vs := [aj 0, aj m.2]) (by kernel_rfl) (Sn.tup (Sp (Sp SnL.nil)))
 refine .skip (.seq ?_)
 obtain ⟨t, o, u, p, q, w, hr⟩ := bd3 hr
 refine .tn G (ca1 (ok0 (dr n (EN (g.X0 + (EN (i * g.Step)))) t o)) (ca1 (ok0 (dr n (EN (g.Y0 + (EN (j * g.Step)))) u p)) (ca3 (ok0 (rO n m.1 (an.mk t u) q w))))) (.mu 8 (.ca cf0 (.mu 7 (.ca (cfA (fun h => by rw [sv p o (nO n h)]) cf0) (.mu 1 (.ca (cfF (cfF cf0)) (.mu 5 ?_)))))))
 refine .done ⟨by kernel_rfl, ?_⟩
 refine .nh [11, 13, 14] [.own (ar.c g), .own (ae.c l)] (.seq (.seq ?_))
 rcases bT q.2 with a | a
 ·replace hr := b8 a hr
  refine .r0 G (.p0 (v := aB true) (eB a) (.mu 5 (.done (.nh [13, 77] [.own (ar.c g), .own (ae.c l)] (.cT (by kernel_rfl) (.seq (.ru G (.ret ?_))))))))
  obtain rfl := oi hr
  exact aF.ret (vs := [aj 0, aj 13]) (by kernel_rfl) (Sn.tup (Sp (Sp SnL.nil)))
 replace hr := bX a hr
 refine .r0 G (.p0 (v := aB false) (eB a) (.mu 5 (.done (.nh [13, 77] [.own (ar.c g), .own (ae.c l)] ?_))))
 refine .cd hr ?_ ?_ <;> intro E hr
 ·refine .seq (.ru G (.ret ?_))
  obtain rfl := oi hr
  exact aF.ret (vs := [aj 0, aj 13]) (by kernel_rfl) (Sn.tup (Sp (Sp SnL.nil)))
 refine .skip (.seq (.ru G (.ret ?_)))
 obtain rfl := oi hr
 exact aF.ret (vs := [aj q.1, aj 0]) (by kernel_rfl) (Sn.tup (Sp (Sp SnL.nil)))
end Go.L
