
import Derived.Test.YtecdcgfclgmbpaaGreatSumLP1
import Derived.Test.YtecdcgfclgmbpaaGreatL0Sums
import Derived.Test.YtecdcgfclgmbpaaGreatChecked
import Derived.KernelRfl
set_option linter.all false
set_option maxRecDepth 100000
set_option maxHeartbeats 4000000
namespace Go.L
open Go Go.Eng Go.Proofs
theorem u4 (n : Nat) (num : ah) (den : ah) (r : ag × Int) (hr : lO n num den = some r) : aL Tryz.prog 157 [.agg (ah.c num), .agg (ah.c den)] (.tup [.agg (ag.c r.1), ae r.2]) := by
 unfold lO at hr
 refine aL.bd G Tryz.func157 [.cell 4 42, .tmp 5] ?_
 unfold Tryz.f157
 simp only [gS]
 refine .seq (.r2 G 17 [(2, .hp 0 0), (3, .hp 1 0), (4, .hp 2 0)] [.own (ah.c num), .own (ah.c den), .own zN2] (.seq ?_))
 obtain ⟨b, d, a, e, hr⟩ := bd2 hr
 refine .tn G (ca1 (ok0 (m8 n num b d)) (ca3 (ok0 (m8 n den a e)))) (.mu 1 (.ca cf0 (.mu 1 (.ca (cfA (fun h => by rw [sv e d (rP n h)]) cf0) (.mu 2 ?_)))))
 refine .done ⟨by kernel_rfl, ?_⟩
 refine .nh [2, 3, 4] [.own (ah.c b), .own (ah.c a), .own zN2] (.seq (.seq ?_))
 obtain ⟨j, f, hr⟩ := bd hr
 refine .g1 G (ok0 (fS n a j f)) (.mu 1 (.ca cf0 (.mu 1 (.done (.nh [2, 3, 4, 12] [.own (ah.c b), .own (ah.c a), .own zN2] ?_)))))
 refine .cd hr ?_ ?_ <;> intro k hr
 ·refine .seq (.r4 G [4] [(5, ae 14)] (.ret ?_))
  obtain rfl := oi hr
  exact aG.ret (vs := [.agg zN2, ae 14]) (by kernel_rfl) (Sn.tup (SnL.cons (Sn.agg (Sp (SnL.cons Sn.fZ (Sp (SnL.cons Sn.fZ SnL.nil))))) (Sp SnL.nil)))
 refine .skip (.seq ?_)
 obtain ⟨g, i, hr⟩ := bd hr
 refine .g1 G (ok0 (iD n b a g i)) (.mu 2 (.ca cf0 (.mu 2 (.done (.nh [4, 5] [.own (ah.c b), .own (ah.c a), .own (ag.c g)] (.ret ?_))))))
 obtain rfl := oi hr
 exact aG.ret (vs := [.agg (ag.c g), ae 0]) (by kernel_rfl) (Sn.tup (Sp (Sp SnL.nil)))

theorem eW (n : Nat) (f : Int) (d : Int) (r : ag × Int) (hr : dW n f d = some r) : aL Tryz.prog 118 [ae f, ae d] (.tup [.agg (ag.c r.1), ae r.2]) := by
 unfold dW at hr
 refine aL.bd G Tryz.func118 [.cell 4 42, .tmp 5] ?_
 unfold Tryz.f118
 simp only [gS]
 refine .seq (.r5 G [0, 1] [(4, .hp 0 0)] [.own zN2] (.seq ?_))
 obtain ⟨i, a, j, b, e, g, hr⟩ := bd3 hr
 refine .gn G (ca1 (ok0 (jA n f i a)) (ca1 (ok0 (jA n d j b)) (ca3 (ok0 (u4 n i j e g))))) (.mu 1 (.ca cf0 (.mu 1 (.ca (cfA (fun h => by rw [sv b a (rV n h)]) cf0) (.ca (cfF (cfF cf0)) (.mu 4 (.done (.nh [4, 5] [.own (ag.c e.1)] (.ret ?_)))))))))
 obtain rfl := oi hr
 exact aG.ret (vs := [.agg (ag.c e.1), ae e.2]) (by kernel_rfl) (Sn.tup (Sp (Sp SnL.nil)))

theorem rR (n : Nat) (g : al) (level : Int) (e : A2 Int) (r : ak) (hr : mf n g level e = some r) : aL Tryz.prog 94 [.agg (al.c g), ae level, .agg (aj.c e)] (.agg (ak.c r)) := by
 unfold mf at hr
 refine aL.bd G Tryz.func94 [.cell 6 44] ?_
 unfold Tryz.f94
 simp only [gS]
 refine .seq (.r5 G [1] [(3, .hp 0 0), (5, .hp 1 0), (6, .hp 2 0)] [.own (al.c g), .own (aj.c e), .own [ae 0, ae 0, aB false, nS, aB false, nS]] (.seq ?_))
 obtain ⟨b, d, hr⟩ := gd2 hr
 refine .eu G bJ (.mu 4 (.pk (v := .pp (g.Z.flatMap (iC .i64)) (e.e0.toNat * 1)) (tr (ar b)) (.pk (v := ae (gt g.Z e.e0)) (tr (aD (aE (aF .i64) (aA b) z1 (by omega : e.e0.toNat * 1 = e.e0.toNat * 1 + 0) (by kernel_rfl)))) (.mu 4 (.pk (v := .pp (g.Z.flatMap (iC .i64)) (e.e1.toNat * 1)) (tr (ar d)) (.pk (v := ae (gt g.Z e.e1)) (tr (aD (aE (aF .i64) (aA d) z1 (by omega : e.e1.toNat * 1 = e.e1.toNat * 1 + 0) (by kernel_rfl)))) (.mu 2 ?_)))))))
 refine .done ⟨by kernel_rfl, ?_⟩
 refine .nh [1, 5, 6, 7, 8] [.own (al.c g), .own (aj.c e), .own [ae 0, ae 0, aB false, nS, aB false, nS]] (.seq ?_)
 obtain ⟨a, f, hr⟩ := bd hr
 refine .g1 G (ok0 (eW n (Fc (level - (Fc (2 * (gt g.Z e.e0))))) (Fc (2 * (Fc ((gt g.Z e.e1) - (gt g.Z e.e0))))) a f)) (.mu 8 (.ca cf0 (.mu 6 (.done (.nh [5, 6, 9] [.own (al.c g), .own (aj.c e), .own [ae 0, ae 0, aB false, nS, aB false, nS], .own (ag.c a.1)] (.seq (.r5 G [6] [] [.own (al.c g), .own (aj.c e), .own [ae e.e0, ae e.e1, aB a.1.Num.Negative, au a.1.Num.Groups, aB a.1.Den.Negative, au a.1.Den.Groups], .own (ag.c a.1)] (.ret ?_))))))))
 obtain rfl := oi hr
 exact aG.r1 [.agg [ae e.e0, ae e.e1, aB a.1.Num.Negative, au a.1.Num.Groups, aB a.1.Den.Negative, au a.1.Den.Groups]]

theorem mA (n : Nat) (start : A2 Int) (closed : Bool) (p : List (A2 Int × Bool)) (D : Int) (C : Int) (u : Int) (t : Int) (o : Int) (k : List Int) (g : Int) (d : List (A2 Int × A2 Int)) (a : List ai) (r : List (A2 Int × Bool) × List ai) (hr : fM n start closed p D C u t o k g d a = some r) : dm 5 Tryz.prog 93 [.agg (aj.c start), aB closed, .hp 0 0, .hp 1 0, .hp 2 0, .hp 3 0, .hp 4 0] [.own [.mp 5], .own [ae D, ae C, ae u, ae t, ae o, bf k], .own [ae g], .own [.mp 6], .own [.hs 7 0 a.length 2], .map (p.map (mpK av.K bA)), .map (d.map (mpK av.K (gA aj.c))), .own (a.flatMap ai.c)] (.tup []) [.own [.mp 5], .own [ae D, ae C, ae u, ae t, ae o, bf k], .own [ae g], .own [.mp 6], .own [.hs 7 0 r.2.length 2], .map (r.1.map (mpK av.K bA)), .map (d.map (mpK av.K (gA aj.c))), .own (r.2.flatMap ai.c)] := by
 unfold fM at hr
 refine dm.kF G Tryz.func93 (c := (Tryz.f93.body).getD .skip) rfl (us := []) (s := mkS 46 0 [(0, .agg (aj.c start)), (1, aB closed), (2, .hp 0 0), (3, .hp 1 0), (4, .hp 2 0), (5, .hp 3 0), (6, .hp 4 0)]) (by kernel_rfl) (rs := []) rfl ?_
 unfold Tryz.f93
 simp only [gS]
 refine .seq (.r5 G [1, 2, 3, 4, 5, 6] [(7, .hp 8 0)] [.own [.mp 5], .own [ae D, ae C, ae u, ae t, ae o, bf k], .own [ae g], .own [.mp 6], .own [.hs 7 0 a.length 2], .map (p.map (mpK av.K bA)), .map (d.map (mpK av.K (gA aj.c))), .own (a.flatMap ai.c), .own (aj.c start)] (.scope (.seq (.r5 G [2, 3, 4, 5, 6, 7] [(9, .hp 9 0)] [.own [.mp 5], .own [ae D, ae C, ae u, ae t, ae o, bf k], .own [ae g], .own [.mp 6], .own [.hs 7 0 a.length 2], .map (p.map (mpK av.K bA)), .map (d.map (mpK av.K (gA aj.c))), .own (a.flatMap ai.c), .own (aj.c start), .own [aB closed, nS]] (.seq (.label (.seq (.seq (.r5 G [2, 3, 4, 5, 6, 9] [(10, .hp 10 0)] [.own [.mp 5], .own [ae D, ae C, ae u, ae t, ae o, bf k], .own [ae g], .own [.mp 6], .own [.hs 7 0 a.length 2], .map (p.map (mpK av.K bA)), .map (d.map (mpK av.K (gA aj.c))), .own (a.flatMap ai.c), .own (aj.c start), .own [aB closed, nS], .own (aj.c start)] (.block ?_))))))))))
 replace hr := bd hr; obtain ⟨J, I, hr⟩ := hr
 refine .aH (σ := fun T => match T with | (w, q, i, j) => ⟨mkS 46 0 [(2, .hp 0 0), (3, .hp 1 0), (4, .hp 2 0), (5, .hp 3 0), (6, .hp 4 0), (9, .hp 8 0), (10, .hp 10 0)], [.own [.mp 5], .own [ae D, ae C, ae u, ae t, ae o, bf k], .own [ae g], .own [.mp 6], .own [.hs 7 0 a.length 2], .map (w.map (mpK av.K bA)), .map (d.map (mpK av.K (gA aj.c))), .own (a.flatMap ai.c), .own [aB closed, .hs 9 0 q.length 6], .own (q.flatMap ak.c), .own [ae i, ae j]]⟩) (Q := fun x st' => match (generalizing := false) J with | (F, B) => x = .exit 0 /\ Wk 5 st' ⟨mkS 46 0 [(6, .hp 4 0), (9, .hp 8 0)], [.own [.mp 5], .own [ae D, ae C, ae u, ae t, ae o, bf k], .own [ae g], .own [.mp 6], .own [.hs 7 0 a.length 2], .map (F.map (mpK av.K bA)), .map (d.map (mpK av.K (gA aj.c))), .own (a.flatMap ai.c), .own [aB closed, .hs 9 0 B.length 6], .own (B.flatMap ak.c)]⟩) I ((Wk.Aq 9 1 6 (cs := [aB closed, nS]) (by kernel_rfl) (by kernel_rfl)).trans ((Wk.gc [2, 3, 4, 5, 6, 9, 10] [(0, true), (1, true), (2, true), (3, true), (4, true), (5, false), (6, false), (7, false), (9, true), (11, false), (10, true)] rfl (pKt (pKt (pKt (pKt (pKt (pKM av.K bA (fun _ => rfl) p (pKM av.K (gA aj.c) (fun _ => rfl) d (pKo ai.c ai.pure a (pKt (pKc trivial))))))))))).to)) ?_ ?_
 ·clear hr
  rintro m ⟨w, q, i, j⟩ hr
  show CQ _ _ _ _ _ ⟨_, _⟩
  refine .seq (.block (.seq (.r0 G (.mu 2 (.e0 (v := .unk) (ws := [(5, .map ((kq w (A2.mk i j) true).map (mpK av.K bA)))]) (tr (y := iP Tryz.prog [.own [.mp 5], .own [ae D, ae C, ae u, ae t, ae o, bf k], .own [ae g], .own [.mp 6], .own [.hs 7 0 a.length 2], .map (w.map (mpK av.K bA)), .map (d.map (mpK av.K (gA aj.c))), .own (a.flatMap ai.c), .own [aB closed, .hs 9 0 q.length 6], .own (q.flatMap ak.c), .own [ae i, ae j]] 125 (.mp 5) (.agg [ae i, ae j]) (aB true)) (A8 (kt := 101) (e := 4) (l := w) (f := bA) (v := true) (K := av.K) (x := A2.mk i j) av.key (by kernel_rfl) (by kernel_rfl) (by kernel_rfl) (by kernel_rfl))) (.done (.nh [2, 3, 4, 5, 6, 9, 10] [.own [.mp 5], .own [ae D, ae C, ae u, ae t, ae o, bf k], .own [ae g], .own [.mp 6], .own [.hs 7 0 a.length 2], .map ((kq w (A2.mk i j) true).map (mpK av.K bA)), .map (d.map (mpK av.K (gA aj.c))), .own (a.flatMap ai.c), .own [aB closed, .hs 9 0 q.length 6], .own (q.flatMap ak.c), .own [ae i, ae j]] (.seq ?_))))))))
  obtain ⟨A, L, hr⟩ := bd hr
  obtain ⟨M, N, hr⟩ := gd2 hr
  refine .t1 G (ok0 (rR n (al.mk D C u t o k) g (A2.mk i j) A L)) (.mu 5 (.ca cf0 (.mu 1 (.ek (v := .hs 12 0 (q ++ [A]).length 6) (ws := [(9, .dead), (12, .own ((q ++ [A]).flatMap ak.c))]) (tr (eM (new := (ak.c A)) (l := q) (xs := [A]) ak.len rfl rfl (by kernel_rfl) M N)) (.mu 2 ?_)))))
  refine .done ⟨by kernel_rfl, ?_⟩
  refine .nh [2, 3, 4, 5, 6, 9, 10] [.own [.mp 5], .own [ae D, ae C, ae u, ae t, ae o, bf k], .own [ae g], .own [.mp 6], .own [.hs 7 0 a.length 2], .map ((kq w (A2.mk i j) true).map (mpK av.K bA)), .map (d.map (mpK av.K (gA aj.c))), .own (a.flatMap ai.c), .own [aB closed, .hs 12 0 (q ++ [A]).length 6], .dead, .own [ae i, ae j], .own (ak.c A), .own ((q ++ [A]).flatMap ak.c)] (.seq (.r0 G (.mu 2 (.p0 (v := .tup [.agg (aj.c (getM (A2.mk 0 0 : A2 Int) d (A2.mk i j))), aB (qk d (A2.mk i j))]) (tr (y := bu.ofP (fy Tryz.prog [.own [.mp 5], .own [ae D, ae C, ae u, ae t, ae o, bf k], .own [ae g], .own [.mp 6], .own [.hs 7 0 a.length 2], .map ((kq w (A2.mk i j) true).map (mpK av.K bA)), .map (d.map (mpK av.K (gA aj.c))), .own (a.flatMap ai.c), .own [aB closed, .hs 12 0 (q ++ [A]).length 6], .dead, .own [ae i, ae j], .own (ak.c A), .own ((q ++ [A]).flatMap ak.c)] 124 (.mp 6) (.agg [ae i, ae j]) true)) (Dc (kt := 101) (e := 101) (l := d) (f := (gA aj.c)) (z := (A2.mk 0 0 : A2 Int)) (K := av.K) (x := A2.mk i j) av.key (by kernel_rfl) (by kernel_rfl) (by kernel_rfl) (by kernel_rfl) (by kernel_rfl))) (.mu 6 (.done (.nh [2, 3, 4, 5, 6, 9, 10, 11, 12] [.own [.mp 5], .own [ae D, ae C, ae u, ae t, ae o, bf k], .own [ae g], .own [.mp 6], .own [.hs 7 0 a.length 2], .map ((kq w (A2.mk i j) true).map (mpK av.K bA)), .map (d.map (mpK av.K (gA aj.c))), .own (a.flatMap ai.c), .own [aB closed, .hs 12 0 (q ++ [A]).length 6], .dead, .own [ae i, ae j], .own (ak.c A), .own ((q ++ [A]).flatMap ak.c), .own (aj.c (getM (A2.mk 0 0 : A2 Int) d (A2.mk i j)))] (.seq (.seq ?_)))))))))
  rcases bT (!(qk d (A2.mk i j))) with E | E
  ·replace hr := cy E hr
   refine .r0 G (.mu 1 (.p0 (v := aB true) (eB E) (.mu 5 (.done (.nh [2, 3, 4, 5, 6, 9, 10, 11, 39] [.own [.mp 5], .own [ae D, ae C, ae u, ae t, ae o, bf k], .own [ae g], .own [.mp 6], .own [.hs 7 0 a.length 2], .map ((kq w (A2.mk i j) true).map (mpK av.K bA)), .map (d.map (mpK av.K (gA aj.c))), .own (a.flatMap ai.c), .own [aB closed, .hs 12 0 (q ++ [A]).length 6], .dead, .own [ae i, ae j], .own (ak.c A), .own ((q ++ [A]).flatMap ak.c), .own (aj.c (getM (A2.mk 0 0 : A2 Int) d (A2.mk i j)))] (.cT (by kernel_rfl) (.leave rfl ?_)))))))
   obtain rfl := oi hr
   exact ⟨rfl, ((Wk.gc [6, 9] [(0, true), (1, true), (2, true), (3, true), (4, true), (5, false), (6, false), (7, false), (8, true), (12, false)] rfl (pKt (pKt (pKt (pKt (pKt (pKM av.K bA (fun _ => rfl) (kq w (A2.mk i j) true) (pKM av.K (gA aj.c) (fun _ => rfl) d (pKo ai.c ai.pure a (pKt (pKo ak.c ak.pure (q ++ [A]) trivial))))))))))).to)⟩
  replace hr := cz E hr
  refine .r0 G (.mu 1 (.p0 (v := aB false) (eB E) (.mu 3 (.pure (v := aB (getM false (kq w (A2.mk i j) true) (getM (A2.mk 0 0 : A2 Int) d (A2.mk i j)))) (by kernel_rfl) (tr (y := bu.ofP (fy Tryz.prog [.own [.mp 5], .own [ae D, ae C, ae u, ae t, ae o, bf k], .own [ae g], .own [.mp 6], .own [.hs 7 0 a.length 2], .map ((kq w (A2.mk i j) true).map (mpK av.K bA)), .map (d.map (mpK av.K (gA aj.c))), .own (a.flatMap ai.c), .own [aB closed, .hs 12 0 (q ++ [A]).length 6], .dead, .own [ae i, ae j], .own (ak.c A), .own ((q ++ [A]).flatMap ak.c), .own (aj.c (getM (A2.mk 0 0 : A2 Int) d (A2.mk i j)))] 125 (.mp 5) (.agg (aj.c (getM (A2.mk 0 0 : A2 Int) d (A2.mk i j)))) false)) (zL (kt := 101) (e := 4) (l := kq w (A2.mk i j) true) (f := bA) (z := false) (K := av.K) (x := (getM (A2.mk 0 0 : A2 Int) d (A2.mk i j))) av.key (by kernel_rfl) (by kernel_rfl) (by kernel_rfl) (by kernel_rfl) (by kernel_rfl))) (.mu 1 (.done (.nh [2, 3, 4, 5, 6, 9, 10, 11, 39] [.own [.mp 5], .own [ae D, ae C, ae u, ae t, ae o, bf k], .own [ae g], .own [.mp 6], .own [.hs 7 0 a.length 2], .map ((kq w (A2.mk i j) true).map (mpK av.K bA)), .map (d.map (mpK av.K (gA aj.c))), .own (a.flatMap ai.c), .own [aB closed, .hs 12 0 (q ++ [A]).length 6], .dead, .own [ae i, ae j], .own (ak.c A), .own ((q ++ [A]).flatMap ak.c), .own (aj.c (getM (A2.mk 0 0 : A2 Int) d (A2.mk i j)))] ?_)))))))
  refine .cd hr ?_ ?_ <;> intro S hr
  ·refine .leave rfl ?_
   obtain rfl := oi hr
   exact ⟨rfl, ((Wk.gc [6, 9] [(0, true), (1, true), (2, true), (3, true), (4, true), (5, false), (6, false), (7, false), (8, true), (12, false)] rfl (pKt (pKt (pKt (pKt (pKt (pKM av.K bA (fun _ => rfl) (kq w (A2.mk i j) true) (pKM av.K (gA aj.c) (fun _ => rfl) d (pKo ai.c ai.pure a (pKt (pKo ak.c ak.pure (q ++ [A]) trivial))))))))))).to)⟩
  refine .skip (.ru G (.pop (.seq (.r4 G [2, 3, 4, 5, 6, 9] [(41, .agg (aj.c (getM (A2.mk 0 0 : A2 Int) d (A2.mk i j))))] (.ru G ?_)))))
  exact az (kq w (A2.mk i j) true, q ++ [A], (getM (A2.mk 0 0 : A2 Int) d (A2.mk i j)).e0, (getM (A2.mk 0 0 : A2 Int) d (A2.mk i j)).e1) hr ((Wk.gc [2, 3, 4, 5, 6, 9, 10] [(0, true), (1, true), (2, true), (3, true), (4, true), (5, false), (6, false), (7, false), (8, true), (12, false), (14, true)] rfl (pKt (pKt (pKt (pKt (pKt (pKM av.K bA (fun _ => rfl) (kq w (A2.mk i j) true) (pKM av.K (gA aj.c) (fun _ => rfl) d (pKo ai.c ai.pure a (pKt (pKo ak.c ak.pure (q ++ [A]) trivial))))))))))).to)
 rcases J with ⟨F, B⟩
 rintro x st' H
 clear I
 obtain ⟨rfl, H⟩ := H
 refine aQ _ rfl (.wk H (.wk (((Wk.fix 9 (cs := (B.flatMap ak.c)) (by kernel_rfl)).trans (Wk.CS 8 1 (b := 9) (len := B.length) (es := 6) (cs := (B.flatMap ak.c)) (cs' := [aB closed, .hs 9 0 B.length 6]) (by kernel_rfl) (by kernel_rfl) (by kernel_rfl) (aW ak.pure _) (fun h => cG h))).to (c := ⟨mkS 46 0 [(6, .hp 4 0), (9, .hp 8 0)], [.own [.mp 5], .own [ae D, ae C, ae u, ae t, ae o, bf k], .own [ae g], .own [.mp 6], .own [.hs 7 0 a.length 2], .map (F.map (mpK av.K bA)), .map (d.map (mpK av.K (gA aj.c))), .own (a.flatMap ai.c), .own [aB closed, slT ak.c B], .fix (B.flatMap ak.c)]⟩) (by kernel_rfl)) ?_))
 obtain ⟨O, R, hr⟩ := gd2 hr
 refine .r0 G (.mu 3 (.e0 (v := .hs 11 0 (a ++ [ai.mk closed B]).length 2) (ws := [(7, .dead), (11, .own ((a ++ [ai.mk closed B]).flatMap ai.c))]) (tr (eM (new := [aB closed, slT ak.c B]) (l := a) (xs := [ai.mk closed B]) ai.len rfl rfl (by kernel_rfl) O R)) (.mu 1 (.done ?_))))
 obtain rfl := oi hr
 exact dk.normal [] ((Wk.gc [] [(0, true), (1, true), (2, true), (3, true), (4, true), (5, false), (6, false), (11, false)] rfl (pKt (pKt (pKt (pKt (pKt (pKM av.K bA (fun _ => rfl) F (pKM av.K (gA aj.c) (fun _ => rfl) d (pKo ai.c ai.pure (a ++ [ai.mk closed B]) trivial))))))))).to)

theorem tu {c : ai} {a : ai} (h : ([.agg [.at (.bool c.Closed), slT ak.c c.Points]] : List AV) = [.agg [.at (.bool a.Closed), slT ak.c a.Points]]) : c = a := by
 obtain ⟨_, _⟩ := c
 obtain ⟨_, _⟩ := a
 simp only [List.cons.injEq, AV.agg.injEq, AV.at.injEq, Value.int.injEq, Value.bool.injEq, AV.fn.injEq, AV.pp.injEq, true_and, and_true, (Ap ak.len (by decide) ak.inj)] at h
 simp_all
theorem pv (n : Nat) {c : ai} {a : ai} (h : ([.agg [.at (.bool c.Closed), slT ak.c c.Points]] : List AV) = [.agg [.at (.bool a.Closed), slT ak.c a.Points]]) : gl n c = gl n a := by
 obtain rfl := tu h
 rfl
theorem kg (n : Nat) (c : ai) (r : A2 Int) (hr : gl n c = some r) : aL Tryz.prog 55 [.agg (ai.c c)] (.agg (aj.c r)) := by
 unfold gl at hr
 refine aL.bd G Tryz.func55 [.cell 2 101] ?_
 unfold Tryz.f55
 simp only [gS]
 refine .seq (.r2 G 14 [(1, .hp 0 0), (2, .hp 1 0)] [.own (ai.c c), .own [ae 0, ae 0]] (.seq ?_))
 obtain ⟨a, hr⟩ := gd hr
 refine .eu G bJ (.mu 2 (.pk (v := .pp (c.Points.flatMap ak.c) ((0 : Int).toNat * 6)) (tr (ar a)) (.mu 1 (.pk (v := ae (gt c.Points 0).A) (tr (aD (aE ak.len (aA a) (by decide : 0 < 6) (by omega : (0 : Int).toNat * 6 + 0 = (0 : Int).toNat * 6 + 0) (by kernel_rfl)))) (.mu 2 (.pk (v := .pp (c.Points.flatMap ak.c) ((0 : Int).toNat * 6)) (tr (ar a)) (.mu 1 (.pk (v := ae (gt c.Points 0).B) (tr (aD (aE ak.len (aA a) (by decide : 1 < 6) (by omega : (0 : Int).toNat * 6 + 1 = (0 : Int).toNat * 6 + 1) (by kernel_rfl)))) (.mu 2 ?_)))))))))
 refine .done ⟨by kernel_rfl, ?_⟩
 refine .nh [2] [.own (ai.c c), .own [ae (gt c.Points 0).A, ae (gt c.Points 0).B]] (.ret ?_)
 obtain rfl := oi hr
 exact aG.r1 [.agg [ae (gt c.Points 0).A, ae (gt c.Points 0).B]]

theorem sg (n : Nat) (a : ai) (b : ai) (r : Int) (hr : mY n a b = some r) : aL Tryz.prog 95 [.agg (ai.c a), .agg (ai.c b)] (ae r) := by
 unfold mY at hr
 refine aL.bd G Tryz.func95 [.tmp 4] ?_
 unfold Tryz.f95
 simp only [gS]
 refine .seq (.r2 G 10 [(2, .hp 0 0), (3, .hp 1 0)] [.own (ai.c a), .own (ai.c b)] (.seq ?_))
 obtain ⟨g, d, i, e, j, f, hr⟩ := bd3 hr
 refine .tn G (ca1 (ok0 (kg n a g d)) (ca1 (ok0 (kg n b i e)) (ca3 (ok0 (jf n g i j f))))) (.mu 1 (.ca cf0 (.mu 1 (.ca (cfA (fun h => by rw [sv e d (pv n h)]) cf0) (.ca (cfF (cfF cf0)) (.mu 1 ?_))))))
 refine .done ⟨by kernel_rfl, ?_⟩
 refine .ret ?_
 obtain rfl := oi hr
 exact aG.r1 [ae j]

theorem dH (n : Nat) (data : List ai) (a : Int) (b : Int) (r : List ai) (hr : bk n data a b = some r) : dm 1 Tryz.prog 132 [.hs 0 0 data.length 2, ae a, ae b, .fn 95 [] []] [.own (data.flatMap ai.c)] (.tup []) [.own (r.flatMap ai.c)] := by
 unfold bk at hr
 refine dm.kF G Tryz.func132 (c := (Tryz.f132.body).getD .skip) rfl (us := []) (s := mkS 53 0 [(0, .hs 0 0 data.length 2), (1, ae a), (2, ae b), (3, .fn 95 [] [])]) (by kernel_rfl) (rs := []) rfl ?_
 unfold Tryz.f132
 simp only [gS]
 refine .seq (.r4 G [0, 1, 2, 3] [(8, ae (Fc (a + 1)))] (.block ?_))
 replace hr := bd hr; obtain ⟨p, q, hr⟩ := hr
 refine .aH (σ := fun w => match w with | (i, f) => ⟨mkS 53 0 [(0, .hs 0 0 i.length 2), (1, ae a), (2, ae b), (3, .fn 95 [] []), (8, ae f)], [.own (i.flatMap ai.c)]⟩) (Q := fun x st' => x = .exit 0 /\ Wk 1 st' ⟨mkS 53 0 [], [.own (p.flatMap ai.c)]⟩) q ((Wk.gc [0, 1, 2, 3, 8] [(0, false)] rfl (pKo ai.c ai.pure data trivial)).to) ?_ ?_
 ·clear hr
  rintro m ⟨i, f⟩ hr
  show CQ _ _ _ _ _ ⟨_, _⟩
  refine .seq (.seq (.r4 G [0, 1, 2, 3, 8] [(14, aB (decide (f < b)))] ?_))
  refine .cd hr ?_ ?_ <;> intro A hr
  ·refine .skip (.seq (.block (.seq (.r4 G [0, 1, 2, 3, 8] [(9, ae f)] (.block ?_)))))
   replace hr := bd hr; obtain ⟨k, t, hr⟩ := hr
   refine .aH (σ := fun w => match w with | (e, d) => ⟨mkS 53 0 [(0, .hs 0 0 e.length 2), (1, ae a), (2, ae b), (3, .fn 95 [] []), (8, ae f), (9, ae d)], [.own (e.flatMap ai.c)]⟩) (Q := fun x st' => x = .exit 2 /\ Wk 1 st' ⟨mkS 53 0 [(0, .hs 0 0 k.length 2), (1, ae a), (2, ae b), (3, .fn 95 [] []), (8, ae f)], [.own (k.flatMap ai.c)]⟩) t ((Wk.gc [0, 1, 2, 3, 8, 9] [(0, false)] rfl (pKo ai.c ai.pure i trivial)).to) ?_ ?_
   ·clear hr
    rintro m ⟨e, d⟩ hr
    show CQ _ _ _ _ _ ⟨_, _⟩
    refine .seq (.seq ?_)
    rcases bT (decide (d > a)) with j | j
    ·replace hr := cy j hr
     obtain ⟨g, h, hr⟩ := gd2 hr
     obtain ⟨z, u, hr⟩ := bd hr
     refine .t1 G (ok0 (sg n (gt e d) (gt e (Fc (d - 1))) z u)) (.mu 2 (.pk (v := aB true) (eB j) (.mu 4 (.pk (v := .hp 0 (0 + d.toNat * 2)) (tr (ar g)) (.pk (v := .agg (ai.c (gt e d))) (tr (y := bu.ofP (dR (decide (2 <= ((e.flatMap ai.c).drop (0 + d.toNat * 2)).length)) (.agg (((e.flatMap ai.c).drop (0 + d.toNat * 2)).take 2)))) (bO ai.len (aA g) (by decide) (by omega : 0 + d.toNat * 2 = d.toNat * 2 + 0) (by kernel_rfl))) (.mu 3 (.pk (v := .hp 0 (0 + (Fc (d - 1)).toNat * 2)) (tr (ar h)) (.pk (v := .agg (ai.c (gt e (Fc (d - 1))))) (tr (y := bu.ofP (dR (decide (2 <= ((e.flatMap ai.c).drop (0 + (Fc (d - 1)).toNat * 2)).length)) (.agg (((e.flatMap ai.c).drop (0 + (Fc (d - 1)).toNat * 2)).take 2)))) (bO ai.len (aA h) (by decide) (by omega : 0 + (Fc (d - 1)).toNat * 2 = (Fc (d - 1)).toNat * 2 + 0) (by kernel_rfl))) (.ca cf0 (.mu 2 ?_))))))))))
     refine .done ⟨by kernel_rfl, ?_⟩
     refine .nh [0, 1, 2, 3, 8, 9, 34] [.own (e.flatMap ai.c)] ?_
     refine .cd hr ?_ ?_ <;> intro B hr
     ·refine .skip (.seq (.block (.eu G bJ (.mu 8 (.pk (v := .hp 0 (0 + (Fc (d - 1)).toNat * 2)) (tr (ar h)) (.pk (v := .agg (ai.c (gt e (Fc (d - 1))))) (tr (y := bu.ofP (dR (decide (2 <= ((e.flatMap ai.c).drop (0 + (Fc (d - 1)).toNat * 2)).length)) (.agg (((e.flatMap ai.c).drop (0 + (Fc (d - 1)).toNat * 2)).take 2)))) (bO ai.len (aA h) (by decide) (by omega : 0 + (Fc (d - 1)).toNat * 2 = (Fc (d - 1)).toNat * 2 + 0) (by kernel_rfl))) (.mu 2 (.pk (v := .hp 0 (0 + d.toNat * 2)) (tr (ar g)) (.pk (v := .agg (ai.c (gt e d))) (tr (y := bu.ofP (dR (decide (2 <= ((e.flatMap ai.c).drop (0 + d.toNat * 2)).length)) (.agg (((e.flatMap ai.c).drop (0 + d.toNat * 2)).take 2)))) (bO ai.len (aA g) (by decide) (by omega : 0 + d.toNat * 2 = d.toNat * 2 + 0) (by kernel_rfl))) (.pk (v := .hp 0 (0 + d.toNat * 2)) (tr (ar g)) (.ek (v := .unk) (ws := [(0, .own ((e.set d.toNat (gt e (Fc (d - 1)))).flatMap ai.c))]) (tr (iF (iH (ct (n := 2) ai.len (aA g) (lbT rfl) (by omega : 0 + d.toNat * 2 = d.toNat * 2 + 0))) (congrArg Blk.own (cS (xs := (ai.c (gt e (Fc (d - 1))))) ai.len (aA g) (lbT rfl) (by omega : 0 + d.toNat * 2 = d.toNat * 2 + 0) (by kernel_rfl))))) (.pk (v := .hp 0 (0 + (Fc (d - 1)).toNat * 2)) (tr (ar h)) (.ek (v := .unk) (ws := [(0, .own (((e.set d.toNat (gt e (Fc (d - 1)))).set (Fc (d - 1)).toNat (gt e d)).flatMap ai.c))]) (tr (y := stO (decide ((0 + (Fc (d - 1)).toNat * 2) + 2 <= ((e.set d.toNat (gt e (Fc (d - 1)))).flatMap ai.c).length) && true) [(0, .own (setCells ((e.set d.toNat (gt e (Fc (d - 1)))).flatMap ai.c) (0 + (Fc (d - 1)).toNat * 2) (ai.c (gt e d))))]) (iF (iH (ct ai.len (aA (rr h)) (lbT rfl) (by omega : 0 + (Fc (d - 1)).toNat * 2 = (Fc (d - 1)).toNat * 2 + 0))) (congrArg Blk.own (cS ai.len (aA (rr h)) (lbT rfl) (by omega : 0 + (Fc (d - 1)).toNat * 2 = (Fc (d - 1)).toNat * 2 + 0) (by kernel_rfl))))) ?_)))))))))))))
      refine .done ⟨by kernel_rfl, ?_⟩
      refine .pop (.ru G ?_)
      exact az ((e.set d.toNat (gt e (Fc (d - 1)))).set (Fc (d - 1)).toNat (gt e d), Fc (d - 1)) hr ((Wk.iQ 0 (b := 0) (es := 2) (len := e.length) ((e.set d.toNat (gt e (Fc (d - 1)))).set (Fc (d - 1)).toNat (gt e d)).length (by kernel_rfl) (Eq.symm (List.length_set.trans (List.length_set.trans rfl)))).trans ((Wk.gc [0, 1, 2, 3, 8, 9] [(0, false)] rfl (pKo ai.c ai.pure ((e.set d.toNat (gt e (Fc (d - 1)))).set (Fc (d - 1)).toNat (gt e d)) trivial)).to))
     refine .leave rfl ?_
     obtain rfl := oi hr
     exact ⟨rfl, ((Wk.gc [0, 1, 2, 3, 8] [(0, false)] rfl (pKo ai.c ai.pure e trivial)).to)⟩
    replace hr := cz j hr
    refine .eu G bJ (.mu 2 (.pk (v := aB false) (eB j) (.mu 14 ?_)))
    refine .done ⟨by kernel_rfl, ?_⟩
    refine .nh [0, 1, 2, 3, 8, 9, 34] [.own (e.flatMap ai.c)] (.cF (by kernel_rfl) (.leave rfl ?_))
    obtain rfl := oi hr
    exact ⟨rfl, ((Wk.gc [0, 1, 2, 3, 8] [(0, false)] rfl (pKo ai.c ai.pure e trivial)).to)⟩
   rintro x st' l
   clear t
   obtain ⟨rfl, l⟩ := l
   refine aQ _ rfl (.pop (.wk l (.ru G ?_)))
   exact az (k, Fc (f + 1)) hr ((Wk.gc [0, 1, 2, 3, 8] [(0, false)] rfl (pKo ai.c ai.pure k trivial)).to)
  refine .leave rfl ?_
  obtain rfl := oi hr
  exact ⟨rfl, ((Wk.gc [] [(0, false)] rfl (pKo ai.c ai.pure i trivial)).to)⟩
 rintro x st' o
 clear q
 obtain ⟨rfl, o⟩ := o
 refine aQ _ rfl ?_
 obtain rfl := oi hr
 exact dk.wk o (dk.normal [] ((Wk.gc [] [(0, false)] rfl (pKo ai.c ai.pure p trivial)).to))

theorem eD (n : Nat) (data : List ai) (a : Int) (b : Int) (limit : Int) (r : List ai) (hr : bB n data a b limit = some r) : dm 1 Tryz.prog 97 [.hs 0 0 data.length 2, ae a, ae b, ae limit, .fn 95 [] []] [.own (data.flatMap ai.c)] (.tup []) [.own (r.flatMap ai.c)] := by
 unfold bB at hr
 refine dm.kF G Tryz.func97 (c := (Tryz.f97.body).getD .skip) rfl (us := []) (s := mkS 148 0 [(0, .hs 0 0 data.length 2), (1, ae a), (2, ae b), (3, ae limit), (4, .fn 95 [] [])]) (by kernel_rfl) (rs := []) rfl ?_
 unfold Tryz.f97
 simp only [gS]
 refine .seq (.r4 G [0, 1, 2, 3, 4] [(10, aB true)] (.seq (.r4 G [0, 1, 2, 3, 4, 10] [(11, aB true)] (.block ?_))))
 replace hr := bd hr; obtain ⟨r0, g, hr⟩ := hr
 refine .aH (σ := fun p => match p with | (d, e, h, i, j) => ⟨mkS 148 0 [(0, .hs 0 0 data.length 2), (1, ae d), (2, ae e), (3, ae h), (4, .fn 95 [] []), (10, aB i), (11, aB j)], [.own (data.flatMap ai.c)]⟩) (Q := fun x st' => x = .ret /\ dk 1 Tryz.prog [] [] [.own (r0.flatMap ai.c)] .ret st') g ((Wk.gc [0, 1, 2, 3, 4, 10, 11] [(0, false)] rfl (pKo ai.c ai.pure data trivial)).to) ?_ ?_
 ·clear hr
  rintro m ⟨d, e, h, i, j⟩ hr
  show CQ _ _ _ _ _ ⟨_, _⟩
  refine .block (.seq (.r4 G [0, 1, 2, 3, 4, 10, 11] [(12, ae (Fc (e - d)))] (.seq (.seq (.r4 G [0, 1, 2, 3, 4, 10, 11, 12] [(25, aB (decide ((Fc (e - d)) <= 12)))] ?_)))))
  obtain ⟨l, hr⟩ := gd hr
  refine .cY l (.seq ?_)
  obtain ⟨k, o, hr⟩ := bd hr
  refine .g1 G (bZ (args := [.hs 0 0 data.length 2, ae d, ae e, .fn 95 [] []]) 1 0 [(0, false)] [false] (dH n data d e k o) (by exact ⟨aW ai.pure _, trivial⟩) (by exact ⟨aW ai.pure _, trivial⟩) rfl rfl (by kernel_rfl) (by kernel_rfl)) (.mu 4 (.ca cf0 (.done (.nh [] [.own (k.flatMap ai.c)] (.ret ?_)))))
  obtain rfl := oi hr
  exact ⟨rfl, dk.ret [] ((Wk.gc [] [(0, false)] rfl (pKo ai.c ai.pure k trivial)).to)⟩
 rintro x st' f
 clear g
 obtain ⟨rfl, f⟩ := f
 obtain rfl := oi hr
 exact iT _ f

theorem dd (n : Nat) (a : List ai) (r : List ai) (hr : aS n a = some r) : dm 1 Tryz.prog 52 [.hs 0 0 a.length 2, .fn 95 [] []] [.own (a.flatMap ai.c)] (.tup []) [.own (r.flatMap ai.c)] := by
 unfold aS at hr
 refine dm.kF G Tryz.func52 (c := (Tryz.f52.body).getD .skip) rfl (us := []) (s := mkS 14 0 [(0, .hs 0 0 a.length 2), (1, .fn 95 [] [])]) (by kernel_rfl) (rs := []) rfl ?_
 unfold Tryz.f52
 simp only [gS]
 refine .seq (.r4 G [0, 1] [(4, ae (a.length : Int))] ?_)
 obtain ⟨b, d, f, e, hr⟩ := bd2 hr
 refine .gn G (ca1 (ok0 (ma n (wFu (a.length : Int)) b d)) (ca3 (bZ (args := [.hs 0 0 a.length 2, ae 0, ae (a.length : Int), ae b, .fn 95 [] []]) 1 0 [(0, false)] [false] (eD n a 0 (a.length : Int) b f e) (by exact ⟨aW ai.pure _, trivial⟩) (by exact ⟨aW ai.pure _, trivial⟩) rfl rfl (by kernel_rfl) (by kernel_rfl)))) (.mu 4 (.ca cf0 (.mu 1 (.ca (cfF cf0) (.done ?_)))))
 obtain rfl := oi hr
 exact dk.normal [] ((Wk.gc [] [(0, false)] rfl (pKo ai.c ai.pure f trivial)).to)

theorem oS (n : Nat) (g : al) (level : Int) (r : List ai) (hr : iw n g level = some r) : aL Tryz.prog 45 [.agg (al.c g), ae level] (slT ai.c r) := by
 unfold iw at hr
 refine aL.bd G Tryz.func45 [.tmp 4] ?_
 unfold Tryz.f45
 simp only [gS]
 refine .seq (.r2 G 68 [(2, .hp 0 0), (3, .hp 1 0)] [.own (al.c g), .own [ae level]] (.seq (.r5 G [2, 3] [(5, .hp 2 0)] [.own (al.c g), .own [ae level], .own [.fn 88 [] [.hp 0 0, .hp 1 0]]] (.seq (.r5 G [2, 3, 5] [(6, .hp 5 0), (7, .hp 6 0)] [.own (al.c g), .own [ae level], .own [.fn 88 [] [.hp 0 0, .hp 1 0]], .map (([] : List (A2 Int × A2 Int)).map (mpK av.K (gA aj.c))), .map (([] : List (A2 Int × Bool)).map (mpK av.K bA)), .own [.mp 3], .own [.mp 4]] (.seq ?_))))))
 obtain ⟨d, jS, hr⟩ := bd hr
 refine .g1 G (kR 2 (.own [.fn 88 [] [.hp 0 0, .hp 1 0]]) [] [(0, .own (al.c g)), (1, .own [ae level]), (5, .own [.mp 7]), (6, .own [.mp 8]), (7, .map (d.1.map (mpK av.K (gA aj.c)))), (8, .map (d.2.map (mpK av.K bA))), (3, .dead), (4, .dead)] (bZ (args := [.agg (al.c g), .fn 90 [] [.hp 2 0, .hp 5 0, .hp 6 0]]) 5 2 [(2, true), (0, true), (1, true), (5, true), (6, true), (3, false), (4, false)] [true, true, true, true, true, false, false] (jv n g g.X0 g.Y0 g.Step g.Width g.Height g.Z level ([] : List (A2 Int × A2 Int)) ([] : List (A2 Int × Bool)) d jS) (by exact ⟨gO (fun _ => rfl) _, ⟨gO (fun _ => rfl) _, trivial⟩⟩) (by exact ⟨gO (fun _ => rfl) _, ⟨gO (fun _ => rfl) _, trivial⟩⟩) rfl rfl (by kernel_rfl) (by kernel_rfl))) (.mu 2 (.ca cf0 (.done (.nh [2, 3, 6, 7] [.own (al.c g), .own [ae level], .own [.fn 88 [] [.hp 0 0, .hp 1 0]], .dead, .dead, .own [.mp 7], .own [.mp 8], .map (d.1.map (mpK av.K (gA aj.c))), .map (d.2.map (mpK av.K bA))] (.seq (.r4 G [2, 3, 6, 7] [(8, nS)] (.seq (.seq (.r0 G (.mu 1 (.e0 (v := .hp 9 0) (ws := [(9, .iter 7 d.1.length [])]) (tr (y := nj Tryz.prog [.own (al.c g), .own [ae level], .own [.fn 88 [] [.hp 0 0, .hp 1 0]], .dead, .dead, .own [.mp 7], .own [.mp 8], .map (d.1.map (mpK av.K (gA aj.c))), .map (d.2.map (mpK av.K bA))] 9 124 (.mp 7)) (Cz (kt := 101) (e := 101) (es := d.1) (mk := (mpK av.K (gA aj.c))) (by kernel_rfl) (by kernel_rfl))) (.done (.nh [2, 3, 6, 7, 8, 24] [.own (al.c g), .own [ae level], .own [.fn 88 [] [.hp 0 0, .hp 1 0]], .dead, .dead, .own [.mp 7], .own [.mp 8], .map (d.1.map (mpK av.K (gA aj.c))), .map (d.2.map (mpK av.K bA)), .iter 7 d.1.length []] (.block ?_))))))))))))))
 refine .DF (mk := (mpK av.K (gA aj.c))) hr (fun N sn => match N with | i => ⟨mkS 68 0 [(2, .hp 0 0), (3, .hp 1 0), (6, .hp 2 0), (7, .hp 4 0), (8, .hs 6 0 i.length 2), (24, .hp 7 0)], [.own (al.c g), .own [ae level], .own [.mp 3], .map (d.1.map (mpK av.K (gA aj.c))), .own [.mp 5], .map (d.2.map (mpK av.K bA)), .own (i.flatMap aj.c), .iter 3 d.1.length sn]⟩) 7 3 ((Wk.nil 8 2 (by kernel_rfl)).trans ((Wk.gc [2, 3, 6, 7, 8, 24] [(0, true), (1, true), (5, true), (7, false), (6, true), (8, false), (10, false), (9, true)] rfl (pKt (pKt (pKt (pKM av.K (gA aj.c) (fun _ => rfl) d.1 (pKt (pKM av.K bA (fun _ => rfl) d.2 (pKc trivial)))))))).to)) ?_ ?_
 ·clear hr
  rintro i sn M t z' G' O hr R
  refine .wk ((Wk.refl _).to (c := ⟨mkS 68 0 [(2, .hp 0 0), (3, .hp 1 0), (6, .hp 2 0), (7, .hp 4 0), (8, .hs 6 0 i.length 2), (24, .hp 7 0), (26, aB true)], [.own (al.c g), .own [ae level], .own [.mp 3], .map (d.1.map (mpK av.K (gA aj.c))), .own [.mp 5], .map (d.2.map (mpK av.K bA)), .own (i.flatMap aj.c), .iter 3 d.1.length (sn ++ [M])]⟩)) (.block (.seq (.r0 G (.p0 (v := .tup [.agg [ae t.1.e0, ae t.1.e1], .agg [ae t.2.e0, ae t.2.e1]]) (tr (y := iX [.own (al.c g), .own [ae level], .own [.mp 3], .map (d.1.map (mpK av.K (gA aj.c))), .own [.mp 5], .map (d.2.map (mpK av.K bA)), .own (i.flatMap aj.c), .iter 3 d.1.length (sn ++ [M])] (.hp 7 0)) (Eq.trans (Df (P := Tryz.prog) (m := 3) (sn := sn) (es := d.1) (mk := (mpK av.K (gA aj.c))) (e := t) (by kernel_rfl) (by kernel_rfl) O) (by kernel_rfl))) (.mu 3 (.done (.nh [2, 3, 6, 7, 8, 9, 24] [.own (al.c g), .own [ae level], .own [.mp 3], .map (d.1.map (mpK av.K (gA aj.c))), .own [.mp 5], .map (d.2.map (mpK av.K bA)), .own (i.flatMap aj.c), .iter 3 d.1.length (sn ++ [M]), .own [ae t.1.e0, ae t.1.e1]] ?_)))))))
  obtain ⟨S, T, hr⟩ := gd2 hr
  refine .r0 G (.mu 3 (.e0 (v := .hs 10 0 (i ++ [t.1]).length 2) (ws := [(6, .dead), (10, .own ((i ++ [t.1]).flatMap aj.c))]) (tr (eM (new := [ae t.1.e0, ae t.1.e1]) (l := i) (xs := [t.1]) aj.len rfl rfl (by kernel_rfl) S T)) (.mu 1 (.done (.pop ?_)))))
  obtain rfl := oi hr
  exact R _ ((Wk.gc [2, 3, 6, 7, 8, 24] [(0, true), (1, true), (2, true), (3, false), (4, true), (5, false), (10, false), (7, true)] rfl (pKt (pKt (pKt (pKM av.K (gA aj.c) (fun _ => rfl) d.1 (pKt (pKM av.K bA (fun _ => rfl) d.2 (pKo aj.c aj.pure (i ++ [t.1]) trivial)))))))).to)
 clear hr
 rintro i sn hr
 refine aQ _ rfl (.wk ((Wk.refl _).to (c := ⟨mkS 68 0 [(2, .hp 0 0), (3, .hp 1 0), (6, .hp 2 0), (7, .hp 4 0), (8, .hs 6 0 i.length 2), (24, .hp 7 0), (26, aB false)], [.own (al.c g), .own [ae level], .own [.mp 3], .map (d.1.map (mpK av.K (gA aj.c))), .own [.mp 5], .map (d.2.map (mpK av.K bA)), .own (i.flatMap aj.c), .iter 3 d.1.length sn]⟩)) (.seq ?_))
 obtain ⟨a, U, hr⟩ := bd hr
 obtain ⟨F, hr⟩ := gd hr
 refine .g1 G (bZ (args := [.hs 6 0 i.length 2, .fn 54 [] []]) 1 0 [(6, false)] [false] (c9 n i a U) (by exact ⟨aW aj.pure _, trivial⟩) (by exact ⟨aW aj.pure _, trivial⟩) rfl rfl (by kernel_rfl) (by kernel_rfl)) (.mu 1 (.ca cf0 (.done (.nh [2, 3, 6, 7, 8] [.own (al.c g), .own [ae level], .own [.mp 3], .map (d.1.map (mpK av.K (gA aj.c))), .own [.mp 5], .map (d.2.map (mpK av.K bA)), .own (a.flatMap aj.c), .iter 3 d.1.length sn] (.seq (.r5 G [2, 3, 6, 7, 8] [(10, .hp 9 0)] [.own (al.c g), .own [ae level], .own [.mp 3], .map (d.1.map (mpK av.K (gA aj.c))), .own [.mp 5], .map (d.2.map (mpK av.K bA)), .own (a.flatMap aj.c), .iter 3 d.1.length sn, .map (([] : List (A2 Int × Bool)).map (mpK av.K bA)), .own [.mp 8]] (.seq (.r5 G [2, 3, 6, 7, 8, 10] [(11, .hp 10 0)] [.own (al.c g), .own [ae level], .own [.mp 3], .map (d.1.map (mpK av.K (gA aj.c))), .own [.mp 5], .map (d.2.map (mpK av.K bA)), .own (a.flatMap aj.c), .iter 3 d.1.length sn, .map (([] : List (A2 Int × Bool)).map (mpK av.K bA)), .own [.mp 8], .own [nS]] (.seq (.r4 G [7, 8, 10, 11] [(12, .fn 93 [] [.hp 9 0, .hp 0 0, .hp 1 0, .hp 2 0, .hp 10 0])] (.seq (.seq (.r4 G [7, 8, 10, 11, 12] [(37, .hs 6 0 i.length 2), (38, ae (i.length : Int)), (39, ae 0)] (.block ?_))))))))))))))
 replace hr := bd hr; obtain ⟨V, H, hr⟩ := hr
 refine .aH (σ := fun N => match N with | (s, o, j) => ⟨mkS 68 0 [(7, .hp 0 0), (8, .hs 2 0 a.length 2), (10, .hp 3 0), (11, .hp 5 0), (12, .fn 93 [] [.hp 3 0, .hp 7 0, .hp 8 0, .hp 9 0, .hp 5 0]), (37, .hs 2 0 a.length 2), (38, ae (i.length : Int)), (39, ae j)], [.own [.mp 1], .map (d.2.map (mpK av.K bA)), .own (a.flatMap aj.c), .own [.mp 4], .map (s.map (mpK av.K bA)), .own [.hs 6 0 o.length 2], .own (o.flatMap ai.c), .own (al.c g), .own [ae level], .own [.mp 10], .map (d.1.map (mpK av.K (gA aj.c)))]⟩) (Q := fun x st' => match (generalizing := false) V with | (C, B) => x = .exit 2 /\ Wk 0 st' ⟨mkS 68 0 [(8, .hs 0 0 a.length 2), (10, .hp 1 0), (11, .hp 3 0), (12, .fn 93 [] [.hp 1 0, .hp 5 0, .hp 6 0, .hp 7 0, .hp 3 0])], [.own (a.flatMap aj.c), .own [.mp 2], .map (C.map (mpK av.K bA)), .own [.hs 4 0 B.length 2], .own (B.flatMap ai.c), .own (al.c g), .own [ae level], .own [.mp 8], .map (d.1.map (mpK av.K (gA aj.c)))]⟩) H ((Wk.iQ 8 (b := 6) (es := 2) (len := i.length) a.length (by kernel_rfl) (Eq.symm (dcT F))).trans ((Wk.Aq 10 0 2 (cs := [nS]) (by kernel_rfl) (by kernel_rfl)).trans ((Wk.iQ 37 (b := 6) (es := 2) (len := i.length) a.length (by kernel_rfl) (Eq.symm (dcT F))).trans ((Wk.gc [7, 8, 10, 11, 12, 37, 38, 39] [(4, true), (5, false), (6, false), (9, true), (8, false), (10, true), (11, false), (0, true), (1, true), (2, true), (3, false)] rfl (pKt (pKM av.K bA (fun _ => rfl) d.2 (pKo aj.c aj.pure a (pKt (pKM av.K bA (fun _ => rfl) ([] : List (A2 Int × Bool)) (pKt (pKc (pKt (pKt (pKt (pKM av.K (gA aj.c) (fun _ => rfl) d.1 trivial)))))))))))).to)))) ?_ ?_
 ·clear hr
  rintro m ⟨s, o, j⟩ hr
  show CQ _ _ _ _ _ ⟨_, _⟩
  refine .seq (.r4 G [7, 8, 10, 11, 12, 37, 38, 39] [(40, aB (decide (j < (i.length : Int))))] (.seq ?_))
  refine .cd hr ?_ ?_ <;> intro kb hr
  ·refine .skip (.seq (.block (.seq ?_)))
   obtain ⟨I, hr⟩ := gd hr
   refine .r0 G (.p0 (v := .hp 2 (0 + j.toNat * 2)) (tr (ar I)) (.p0 (v := .agg (aj.c (gt a j))) (tr (y := bu.ofP (dR (decide (2 <= ((a.flatMap aj.c).drop (0 + j.toNat * 2)).length)) (.agg (((a.flatMap aj.c).drop (0 + j.toNat * 2)).take 2)))) (bO aj.len (aA I) (by decide) (by omega : 0 + j.toNat * 2 = j.toNat * 2 + 0) (by kernel_rfl))) (.mu 2 (.done (.nh [7, 8, 10, 11, 12, 14, 37, 38, 39] [.own [.mp 1], .map (d.2.map (mpK av.K bA)), .own (a.flatMap aj.c), .own [.mp 4], .map (s.map (mpK av.K bA)), .own [.hs 6 0 o.length 2], .own (o.flatMap ai.c), .own (al.c g), .own [ae level], .own [.mp 10], .map (d.1.map (mpK av.K (gA aj.c))), .own (aj.c (gt a j))] (.seq (.r0 G (.mu 2 (.p0 (v := aB (getM false d.2 (gt a j))) (tr (y := bu.ofP (fy Tryz.prog [.own [.mp 1], .map (d.2.map (mpK av.K bA)), .own (a.flatMap aj.c), .own [.mp 4], .map (s.map (mpK av.K bA)), .own [.hs 6 0 o.length 2], .own (o.flatMap ai.c), .own (al.c g), .own [ae level], .own [.mp 10], .map (d.1.map (mpK av.K (gA aj.c))), .own (aj.c (gt a j))] 125 (.mp 1) (.agg (aj.c (gt a j))) false)) (zL (kt := 101) (e := 4) (l := d.2) (f := bA) (z := false) (K := av.K) (x := (gt a j)) av.key (by kernel_rfl) (by kernel_rfl) (by kernel_rfl) (by kernel_rfl) (by kernel_rfl))) (.mu 1 (.done (.nh [7, 8, 10, 11, 12, 14, 37, 38, 39, 46] [.own [.mp 1], .map (d.2.map (mpK av.K bA)), .own (a.flatMap aj.c), .own [.mp 4], .map (s.map (mpK av.K bA)), .own [.hs 6 0 o.length 2], .own (o.flatMap ai.c), .own (al.c g), .own [ae level], .own [.mp 10], .map (d.1.map (mpK av.K (gA aj.c))), .own (aj.c (gt a j))] ?_))))))))))))
   refine .cd hr ?_ ?_ <;> intro jW hr
   ·obtain ⟨u, W, hr⟩ := bd hr
    refine .g1 G (kR 8 (.own [ae level]) [(3, .own [.mp 12])] [(9, .own [.mp 13]), (5, .own [.hs 14 0 u.2.length 2]), (12, .map (u.1.map (mpK av.K bA))), (13, .map (d.1.map (mpK av.K (gA aj.c)))), (14, .own (u.2.flatMap ai.c)), (4, .dead), (10, .dead), (6, .dead)] (kR 7 (.own (al.c g)) [(3, .own [.mp 12])] [(8, .own [ae level]), (9, .own [.mp 13]), (5, .own [.hs 14 0 u.2.length 2]), (12, .map (u.1.map (mpK av.K bA))), (13, .map (d.1.map (mpK av.K (gA aj.c)))), (14, .own (u.2.flatMap ai.c)), (4, .dead), (10, .dead), (6, .dead)] (bZ (args := [.agg (aj.c (gt a j)), aB false, .hp 3 0, .hp 7 0, .hp 8 0, .hp 9 0, .hp 5 0]) 5 3 [(3, true), (7, true), (8, true), (9, true), (5, true), (4, false), (10, false), (6, false)] [true, true, true, true, true, false, false, false] (mA n (gt a j) false s g.X0 g.Y0 g.Step g.Width g.Height g.Z level d.1 o u W) (by exact ⟨gO (fun _ => rfl) _, ⟨gO (fun _ => rfl) _, ⟨aW ai.pure _, trivial⟩⟩⟩) (by exact ⟨gO (fun _ => rfl) _, ⟨gO (fun _ => rfl) _, ⟨aW ai.pure _, trivial⟩⟩⟩) rfl rfl (by kernel_rfl) (by kernel_rfl)))) (.mu 2 (.ca cf0 (.done (.pop (.ru G ?_)))))
    exact az (u.1, u.2, Fc (j + 1)) hr ((Wk.gc [7, 8, 10, 11, 12, 37, 38, 39] [(0, true), (1, false), (2, false), (3, true), (12, false), (5, true), (14, false), (7, true), (8, true), (9, true), (13, false)] rfl (pKt (pKM av.K bA (fun _ => rfl) d.2 (pKo aj.c aj.pure a (pKt (pKM av.K bA (fun _ => rfl) u.1 (pKt (pKo ai.c ai.pure u.2 (pKt (pKt (pKt (pKM av.K (gA aj.c) (fun _ => rfl) d.1 trivial)))))))))))).to)
   refine .skip (.pop (.ru G ?_))
   exact az (s, o, Fc (j + 1)) hr ((Wk.gc [7, 8, 10, 11, 12, 37, 38, 39] [(0, true), (1, false), (2, false), (3, true), (4, false), (5, true), (6, false), (7, true), (8, true), (9, true), (10, false)] rfl (pKt (pKM av.K bA (fun _ => rfl) d.2 (pKo aj.c aj.pure a (pKt (pKM av.K bA (fun _ => rfl) s (pKt (pKo ai.c ai.pure o (pKt (pKt (pKt (pKM av.K (gA aj.c) (fun _ => rfl) d.1 trivial)))))))))))).to)
  refine .leave rfl ?_
  obtain rfl := oi hr
  exact ⟨rfl, ((Wk.gc [8, 10, 11, 12] [(2, false), (3, true), (4, false), (5, true), (6, false), (7, true), (8, true), (9, true), (10, false)] rfl (pKo aj.c aj.pure a (pKt (pKM av.K bA (fun _ => rfl) s (pKt (pKo ai.c ai.pure o (pKt (pKt (pKt (pKM av.K (gA aj.c) (fun _ => rfl) d.1 trivial)))))))))).to)⟩
 rcases V with ⟨C, B⟩
 rintro x st' D
 clear H
 obtain ⟨rfl, D⟩ := D
 refine aQ _ rfl (.wk D (.seq (.seq (.r4 G [10, 11, 12] [(51, .hs 0 0 a.length 2), (52, ae (a.length : Int)), (53, ae 0)] (.block ?_)))))
 replace hr := bd hr; obtain ⟨w, J, hr⟩ := hr
 refine .aH (σ := fun N => match N with | (q, p, k) => ⟨mkS 68 0 [(10, .hp 0 0), (11, .hp 2 0), (12, .fn 93 [] [.hp 0 0, .hp 4 0, .hp 5 0, .hp 6 0, .hp 2 0]), (51, .hs 8 0 a.length 2), (52, ae (a.length : Int)), (53, ae k)], [.own [.mp 1], .map (q.map (mpK av.K bA)), .own [.hs 3 0 p.length 2], .own (p.flatMap ai.c), .own (al.c g), .own [ae level], .own [.mp 7], .map (d.1.map (mpK av.K (gA aj.c))), .own (a.flatMap aj.c)]⟩) (Q := fun x st' => x = .exit 4 /\ Wk 0 st' ⟨mkS 68 0 [(11, .hp 0 0)], [.own [.hs 1 0 w.length 2], .own (w.flatMap ai.c)]⟩) J ((Wk.gc [10, 11, 12, 51, 52, 53] [(1, true), (2, false), (3, true), (4, false), (5, true), (6, true), (7, true), (8, false), (0, false)] rfl (pKt (pKM av.K bA (fun _ => rfl) C (pKt (pKo ai.c ai.pure B (pKt (pKt (pKt (pKM av.K (gA aj.c) (fun _ => rfl) d.1 (pKo aj.c aj.pure a trivial)))))))))).to) ?_ ?_
 ·clear hr
  rintro m ⟨q, p, k⟩ hr
  show CQ _ _ _ _ _ ⟨_, _⟩
  refine .seq (.r4 G [10, 11, 12, 51, 52, 53] [(54, aB (decide (k < (a.length : Int))))] (.seq ?_))
  refine .cd hr ?_ ?_ <;> intro ki hr
  ·refine .skip (.seq (.block (.seq ?_)))
   obtain ⟨L, hr⟩ := gd hr
   refine .r0 G (.p0 (v := .hp 8 (0 + k.toNat * 2)) (tr (ar L)) (.p0 (v := .agg (aj.c (gt a k))) (tr (y := bu.ofP (dR (decide (2 <= ((a.flatMap aj.c).drop (0 + k.toNat * 2)).length)) (.agg (((a.flatMap aj.c).drop (0 + k.toNat * 2)).take 2)))) (bO aj.len (aA L) (by decide) (by omega : 0 + k.toNat * 2 = k.toNat * 2 + 0) (by kernel_rfl))) (.mu 2 (.done (.nh [10, 11, 12, 16, 51, 52, 53] [.own [.mp 1], .map (q.map (mpK av.K bA)), .own [.hs 3 0 p.length 2], .own (p.flatMap ai.c), .own (al.c g), .own [ae level], .own [.mp 7], .map (d.1.map (mpK av.K (gA aj.c))), .own (a.flatMap aj.c), .own (aj.c (gt a k))] (.seq (.r0 G (.mu 2 (.p0 (v := aB (getM false q (gt a k))) (tr (y := bu.ofP (fy Tryz.prog [.own [.mp 1], .map (q.map (mpK av.K bA)), .own [.hs 3 0 p.length 2], .own (p.flatMap ai.c), .own (al.c g), .own [ae level], .own [.mp 7], .map (d.1.map (mpK av.K (gA aj.c))), .own (a.flatMap aj.c), .own (aj.c (gt a k))] 125 (.mp 1) (.agg (aj.c (gt a k))) false)) (zL (kt := 101) (e := 4) (l := q) (f := bA) (z := false) (K := av.K) (x := (gt a k)) av.key (by kernel_rfl) (by kernel_rfl) (by kernel_rfl) (by kernel_rfl) (by kernel_rfl))) (.mu 1 (.done (.nh [10, 11, 12, 16, 51, 52, 53, 60] [.own [.mp 1], .map (q.map (mpK av.K bA)), .own [.hs 3 0 p.length 2], .own (p.flatMap ai.c), .own (al.c g), .own [ae level], .own [.mp 7], .map (d.1.map (mpK av.K (gA aj.c))), .own (a.flatMap aj.c), .own (aj.c (gt a k))] ?_))))))))))))
   refine .cd hr ?_ ?_ <;> intro kE hr
   ·obtain ⟨A, X, hr⟩ := bd hr
    refine .g1 G (kR 5 (.own [ae level]) [(0, .own [.mp 10])] [(6, .own [.mp 11]), (2, .own [.hs 12 0 A.2.length 2]), (10, .map (A.1.map (mpK av.K bA))), (11, .map (d.1.map (mpK av.K (gA aj.c)))), (12, .own (A.2.flatMap ai.c)), (1, .dead), (7, .dead), (3, .dead)] (kR 4 (.own (al.c g)) [(0, .own [.mp 10])] [(5, .own [ae level]), (6, .own [.mp 11]), (2, .own [.hs 12 0 A.2.length 2]), (10, .map (A.1.map (mpK av.K bA))), (11, .map (d.1.map (mpK av.K (gA aj.c)))), (12, .own (A.2.flatMap ai.c)), (1, .dead), (7, .dead), (3, .dead)] (bZ (args := [.agg (aj.c (gt a k)), aB true, .hp 0 0, .hp 4 0, .hp 5 0, .hp 6 0, .hp 2 0]) 5 3 [(0, true), (4, true), (5, true), (6, true), (2, true), (1, false), (7, false), (3, false)] [true, true, true, true, true, false, false, false] (mA n (gt a k) true q g.X0 g.Y0 g.Step g.Width g.Height g.Z level d.1 p A X) (by exact ⟨gO (fun _ => rfl) _, ⟨gO (fun _ => rfl) _, ⟨aW ai.pure _, trivial⟩⟩⟩) (by exact ⟨gO (fun _ => rfl) _, ⟨gO (fun _ => rfl) _, ⟨aW ai.pure _, trivial⟩⟩⟩) rfl rfl (by kernel_rfl) (by kernel_rfl)))) (.mu 2 (.ca cf0 (.done (.pop (.ru G ?_)))))
    exact az (A.1, A.2, Fc (k + 1)) hr ((Wk.gc [10, 11, 12, 51, 52, 53] [(0, true), (10, false), (2, true), (12, false), (4, true), (5, true), (6, true), (11, false), (8, false)] rfl (pKt (pKM av.K bA (fun _ => rfl) A.1 (pKt (pKo ai.c ai.pure A.2 (pKt (pKt (pKt (pKM av.K (gA aj.c) (fun _ => rfl) d.1 (pKo aj.c aj.pure a trivial)))))))))).to)
   refine .skip (.pop (.ru G ?_))
   exact az (q, p, Fc (k + 1)) hr ((Wk.gc [10, 11, 12, 51, 52, 53] [(0, true), (1, false), (2, true), (3, false), (4, true), (5, true), (6, true), (7, false), (8, false)] rfl (pKt (pKM av.K bA (fun _ => rfl) q (pKt (pKo ai.c ai.pure p (pKt (pKt (pKt (pKM av.K (gA aj.c) (fun _ => rfl) d.1 (pKo aj.c aj.pure a trivial)))))))))).to)
  refine .leave rfl ?_
  obtain rfl := oi hr
  exact ⟨rfl, ((Wk.gc [11] [(2, true), (3, false)] rfl (pKt (pKo ai.c ai.pure p trivial))).to)⟩
 rintro x st' E
 clear J
 obtain ⟨rfl, E⟩ := E
 refine aQ _ rfl (.wk E (.seq ?_))
 obtain ⟨Y, gU, hr⟩ := bd hr
 obtain ⟨iV, hr⟩ := gd hr
 refine .g1 G (bZ (args := [.hs 1 0 w.length 2, .fn 95 [] []]) 1 0 [(1, false)] [false] (dd n w Y gU) (by exact ⟨aW ai.pure _, trivial⟩) (by exact ⟨aW ai.pure _, trivial⟩) rfl rfl (by kernel_rfl) (by kernel_rfl)) (.mu 1 (.ca cf0 (.done (.nh [11] [.own [.hs 1 0 w.length 2], .own (Y.flatMap ai.c)] (.seq (.r3 G 68 [(4, .hs 1 0 w.length 2)] (.ret ?_)))))))
 obtain rfl := oi hr
 exact aG.ret (vs := [.hs 1 0 w.length 2]) (by kernel_rfl) (Sn.hse (dcT iV) rfl (.inl rfl) (SnC.pure (aW ai.pure _)) (fun h => cG h))

theorem uh (n : Nat) (g : al) (level : Int) (r : List ai × Int) (hr : kD n g level = some r) : aL Tryz.prog 14 [.agg (al.c g), ae level] (.tup [slT ai.c r.1, ae r.2]) := by
 unfold kD at hr
 refine aL.bd G Tryz.func14 [.tmp 4, .tmp 5] ?_
 unfold Tryz.f14
 simp only [gS]
 refine .seq (.r5 G [1] [(2, .hp 0 0)] [.own (al.c g)] (.seq (.seq ?_)))
 obtain ⟨a, b, hr⟩ := bd hr
 refine .g1 G (ok0 (gN n g level a b)) (.mu 2 (.ca cf0 (.mu 1 (.done (.nh [1, 2, 6] [.own (al.c g)] (.seq (.r4 G [1, 2, 6] [(11, aB ((a : Int) != 0))] ?_)))))))
 refine .cd hr ?_ ?_ <;> intro f hr
 ·refine .seq (.r3 G 16 [(4, nS), (5, ae a)] (.ret ?_))
  obtain rfl := oi hr
  exact aG.ret (vs := [nS, ae a]) (by kernel_rfl) (Sn.tup (SnL.cons Sn.fZ (Sp SnL.nil)))
 refine .skip (.seq ?_)
 obtain ⟨e, d, hr⟩ := bd hr
 refine .g1 G (ok0 (oS n g level e d)) (.mu 2 (.ca cf0 (.mu 2 (.done (.ret ?_)))))
 obtain rfl := oi hr
 exact aG.ret (vs := [slT ai.c e, ae 0]) (by kernel_rfl) (Sn.tup (Sp (Sp SnL.nil)))

theorem oh (n : Nat) {b : Int} {a : Int} (h : ([.at (.int .i64 b)] : List AV) = [.at (.int .i64 a)]) : bF n b = bF n a := by
 obtain rfl := dS h
 rfl
theorem cu (n : Nat) (f : Int) (r : ag) (hr : bF n f = some r) : aL Tryz.prog 61 [ae f] (.agg (ag.c r)) := by
 unfold bF at hr
 refine aL.bd G Tryz.func61 [.cell 2 42] ?_
 unfold Tryz.f61
 simp only [gS]
 refine .seq (.r5 G [0] [(2, .hp 0 0)] [.own zN2] (.seq ?_))
 obtain ⟨a, b, d, e, hr⟩ := bd2 hr
 refine .gn G (ca1 (ok0 (jA n f a b)) (ca3 (ok0 (jA n 1 d e)))) (.mu 1 (.ca cf0 (.ca (cfA (fun h => by rw [sv e b (rV n h)]) cf0) (.mu 2 (.done (.nh [2] [.own [aB a.Negative, au a.Groups, aB d.Negative, au d.Groups]] (.ret ?_)))))))
 obtain rfl := oi hr
 exact aG.r1 [.agg [aB a.Negative, au a.Groups, aB d.Negative, au d.Groups]]

theorem pe (n : Nat) (a : Int) (r : Bool) (hr : kz n a = some r) : aL Tryz.prog 198 [ae a] (aB r) := by
 unfold kz at hr
 refine aL.bd G Tryz.func198 [.tmp 2] ?_
 unfold Tryz.f198
 simp only [gS]
 refine .seq (.r4 G [0] [] (.seq (.ru G (.ret ?_))))
 obtain rfl := oi hr
 exact aG.r1 [aB ((a : Int) != a)]

theorem si (n : Nat) (a : Int) (y : Int) (r : Int) (hr : jl n a y = some r) : aL Tryz.prog 179 [ae a, ae y] (ae r) := by
 unfold jl at hr
 refine aL.bd G Tryz.func179 [.tmp 4] ?_
 unfold Tryz.f179
 simp only [gS]
 refine .seq (.r4 G [0, 1] [] (.seq ?_))
 obtain ⟨e, b, hr⟩ := bd hr
 refine .g1 G (ok0 (pe n a e b)) (.mu 1 (.ca cf0 (.mu 1 (.done (.nh [0, 1, 5] [] (.seq ?_))))))
 obtain ⟨c, d, hr⟩ := bd hr
 refine .g1 G (ok0 (pe n y c d)) (.mu 1 (.ca cf0 (.mu 1 (.done (.nh [0, 1, 5, 6] [] (.seq (.seq (.r4 G [0, 1, 6] [(11, aB e)] ?_))))))))
 refine .cd hr ?_ ?_ <;> intro f hr
 ·refine .seq (.seq (.r3 G 20 [(12, aB c)] ?_))
  refine .cd hr ?_ ?_ <;> intro g hr
  ·refine .seq (.ru G (.ret ?_))
   obtain rfl := oi hr
   exact aG.r1 [ae 0]
  refine .skip (.seq (.ru G (.ret ?_)))
  obtain rfl := oi hr
  exact aG.r1 [ae (-1)]
 refine .skip (.seq (.seq (.r4 G [0, 1] [(13, aB c)] ?_)))
 refine .cd hr ?_ ?_ <;> intro h hr
 ·refine .seq (.ru G (.ret ?_))
  obtain rfl := oi hr
  exact aG.r1 [ae 1]
 refine .skip (.seq (.seq (.r4 G [0, 1] [(16, aB (decide (a < y)))] ?_)))
 refine .cd hr ?_ ?_ <;> intro i hr
 ·refine .seq (.ru G (.ret ?_))
  obtain rfl := oi hr
  exact aG.r1 [ae (-1)]
 refine .skip (.seq (.seq (.r3 G 20 [(19, aB (decide (a > y)))] ?_)))
 refine .cd hr ?_ ?_ <;> intro j hr
 ·refine .seq (.ru G (.ret ?_))
  obtain rfl := oi hr
  exact aG.r1 [ae 1]
 refine .skip (.seq (.ru G (.ret ?_)))
 obtain rfl := oi hr
 exact aG.r1 [ae 0]

theorem nw (n : Nat) (b : ah) (y : ah) (r : Int) (hr : hO n b y = some r) : aL Tryz.prog 144 [.agg (ah.c b), .agg (ah.c y)] (ae r) := by
 unfold hO at hr
 refine aL.bd G Tryz.func144 [.tmp 4] ?_
 unfold Tryz.f144
 simp only [gS]
 refine .seq (.r2 G 28 [(2, .hp 0 0), (3, .hp 1 0)] [.own (ah.c b), .own (ah.c y)] (.seq (.seq ?_)))
 obtain ⟨k, e, l, f, hr⟩ := bd2 hr
 refine .tn G (ca1 (ok0 (fS n b k e)) (ca3 (ok0 (fS n y l f)))) (.mu 1 (.ca cf0 (.mu 1 (.ca (cfA (fun h => by rw [sv f e (uZ n h)]) cf0) (.mu 2 ?_)))))
 refine .done ⟨by kernel_rfl, ?_⟩
 refine .nh [2, 3, 5, 6] [.own (ah.c b), .own (ah.c y)] (.seq (.r4 G [2, 3, 5, 6] [(14, aB ((k : Int) != l))] ?_))
 refine .cd hr ?_ ?_ <;> intro s hr
 ·refine .seq ?_
  obtain ⟨o, m, hr⟩ := bd hr
  refine .g1 G (ok0 (si n k l o m)) (.mu 2 (.ca cf0 (.mu 1 (.done (.ret ?_)))))
  obtain rfl := oi hr
  exact aG.r1 [ae o]
 refine .skip (.seq ?_)
 obtain ⟨p, g, i, d, a, j, hr⟩ := bd3 hr
 refine .tn G (ca1 (ok0 (cx n b p g)) (ca1 (ok0 (cx n y i d)) (ca3 (ok0 (kO n p i a j))))) (.mu 1 (.ca cf0 (.mu 1 (.ca (cfA (fun h => by rw [sv d g (ie n h)]) cf0) (.ca (cfF (cfF cf0)) (.mu 1 ?_))))))
 refine .done ⟨by kernel_rfl, ?_⟩
 refine .nh [2, 7] [.own (ah.c b), .own (ah.c y)] (.seq (.seq (.r4 G [7] [(24, aB b.Negative)] ?_)))
 refine .cd hr ?_ ?_ <;> intro q hr
 ·refine .seq (.r0 G (.mu 1 (.p0 (v := ae (Fc (0 - a))) (tr (y := some (.pure (ae (IntKind.wrap .i64 (0 - a))))) ni) (.mu 1 (.done (.ret ?_))))))
  obtain rfl := oi hr
  exact aG.r1 [ae (Fc (0 - a))]
 refine .skip (.seq (.ru G (.ret ?_)))
 obtain rfl := oi hr
 exact aG.r1 [ae a]

theorem gD {b : ag} {a : ag} (h : ([.agg [.at (.bool b.Num.Negative), slT iCu b.Num.Groups, .at (.bool b.Den.Negative), slT iCu b.Den.Groups]] : List AV) = [.agg [.at (.bool a.Num.Negative), slT iCu a.Num.Groups, .at (.bool a.Den.Negative), slT iCu a.Den.Groups]]) : b = a := by
 obtain ⟨⟨_, _⟩, ⟨_, _⟩⟩ := b
 obtain ⟨⟨_, _⟩, ⟨_, _⟩⟩ := a
 simp only [List.cons.injEq, AV.agg.injEq, AV.at.injEq, Value.int.injEq, Value.bool.injEq, AV.fn.injEq, AV.pp.injEq, true_and, and_true, eZ] at h
 simp_all
theorem od (n : Nat) {b : ag} {a : ag} (h : ([.agg (ag.c b)] : List AV) = [.agg (ag.c a)]) : ee n b = ee n a := by
 obtain rfl := gD h
 rfl
theorem eX (n : Nat) (a : ag) (r : Bool) (hr : ee n a = some r) : aL Tryz.prog 101 [.agg (ag.c a)] (aB r) := by
 unfold ee at hr
 refine aL.bd G Tryz.func101 [.tmp 2] ?_
 unfold Tryz.f101
 simp only [gS]
 refine .seq (.r2 G 27 [(1, .hp 0 0)] [.own (ag.c a)] (.seq (.seq ?_)))
 obtain ⟨o, d, hr⟩ := bd hr
 rcases bT (!o) with b | b
 ·replace hr := cy b hr
  refine .g1 G (ok0 (fl n a.Num o d)) (.mu 2 (.ca cf0 (.p0 (v := aB true) (eB b) (.mu 12 (.done (.nh [1, 18] [.own (ag.c a)] (.cT (by kernel_rfl) (.seq (.ru G (.ret ?_))))))))))
  obtain rfl := oi hr
  exact aG.r1 [aB false]
 replace hr := cz b hr
 obtain ⟨p, f, hr⟩ := bd hr
 rcases bT (!p) with e | e
 ·replace hr := cy e hr
  refine .gn G (ca1 (ok0 (fl n a.Num o d)) (ca3 (ok0 (fl n a.Den p f)))) (.mu 2 (.ca cf0 (.p0 (v := aB false) (eB b) (.mu 3 (.ca (cfA (fun h => by rw [sv f d (oR n h)]) cf0) (.pure (v := aB true) (by kernel_rfl) (eB e) (.mu 7 (.done (.nh [1, 18] [.own (ag.c a)] (.cT (by kernel_rfl) (.seq (.ru G (.ret ?_)))))))))))))
  obtain rfl := oi hr
  exact aG.r1 [aB false]
 replace hr := cz e hr
 obtain ⟨s, q, hr⟩ := bd hr
 refine .gn G (ca1 (ok0 (fl n a.Num o d)) (ca1 (ok0 (fl n a.Den p f)) (ca3 (ok0 (fS n a.Den s q))))) (.mu 2 (.ca cf0 (.p0 (v := aB false) (eB b) (.mu 3 (.ca (cfA (fun h => by rw [sv f d (oR n h)]) cf0) (.pure (v := aB false) (by kernel_rfl) (eB e) (.mu 4 (.ca (cfF (cfF cf0)) (.mu 2 (.done (.nh [1, 18] [.own (ag.c a)] ?_)))))))))))
 refine .cd hr ?_ ?_ <;> intro t hr
 ·refine .seq (.ru G (.ret ?_))
  obtain rfl := oi hr
  exact aG.r1 [aB false]
 refine .skip (.seq ?_)
 obtain ⟨g, i, j, k, l, m, hr⟩ := bd3 hr
 refine .gn G (ca1 (ok0 (nJ n a.Num a.Den g i)) (ca1 (ok0 (jA n 1 j k)) (ca3 (ok0 (nw n g j l m))))) (.mu 4 (.ca cf0 (.ca (cfF cf0) (.ca (cfF (cfF cf0)) (.mu 2 (.done (.ret ?_)))))))
 obtain rfl := oi hr
 exact aG.r1 [aB ((l : Int) == 0)]

theorem sE (n : Nat) (f : ag) (r : ag) (hr : jk n f = some r) : aL Tryz.prog 159 [.agg (ag.c f)] (.agg (ag.c r)) := by
 unfold jk at hr
 refine aL.bd G Tryz.func159 [.cell 2 42] ?_
 unfold Tryz.f159
 simp only [gS]
 refine .seq (.r2 G 12 [(1, .hp 0 0), (2, .hp 1 0)] [.own (ag.c f), .own zN2] (.seq ?_))
 obtain ⟨j, a, g, b, k, d, hr⟩ := bd3 hr
 obtain ⟨i, e, hr⟩ := bd hr
 refine .tn G (ca1 (ok0 (gL n f.Num j a)) (ca1 (ok0 (gL n j g b)) (ca1 (ok0 (gL n f.Den k d)) (ca3 (ok0 (gL n k i e)))))) (.mu 2 (.ca cf0 (.ca (cfA (fun h => by rw [sv b a (gG n h)]) cf0) (.mu 2 (.ca (cfA (fun h => by rw [sv d a (gG n h)]) (cfA (fun h => by rw [sv d b (gG n h)]) cf0)) (.ca (cfA (fun h => by rw [sv e a (gG n h)]) (cfA (fun h => by rw [sv e b (gG n h)]) (cfA (fun h => by rw [sv e d (gG n h)]) cf0))) (.mu 2 ?_)))))))
 refine .done ⟨by kernel_rfl, ?_⟩
 refine .nh [2] [.own (ag.c f), .own [aB g.Negative, au g.Groups, aB i.Negative, au i.Groups]] (.ret ?_)
 obtain rfl := oi hr
 exact aG.r1 [.agg [aB g.Negative, au g.Groups, aB i.Negative, au i.Groups]]

theorem jL (n : Nat) {b : ag} {a : ag} (h : ([.agg (ag.c b)] : List AV) = [.agg (ag.c a)]) : cg n b = cg n a := by
 obtain rfl := gD h
 rfl
theorem cU (n : Nat) (a : ag) (r : ag) (hr : cg n a = some r) : aL Tryz.prog 121 [.agg (ag.c a)] (.agg (ag.c r)) := by
 unfold cg at hr
 refine aL.bd G Tryz.func121 [.cell 2 42] ?_
 unfold Tryz.f121
 simp only [gS]
 refine .seq (.r2 G 8 [(1, .hp 0 0), (2, .hp 1 0)] [.own (ag.c a), .own zN2] (.seq (.seq ?_)))
 obtain ⟨h, b, hr⟩ := bd hr
 refine .g1 G (ok0 (eX n a h b)) (.mu 1 (.ca cf0 (.done (.nh [1, 2, 4] [.own (ag.c a), .own zN2] ?_))))
 refine .cd hr ?_ ?_ <;> intro i hr
 ·refine .seq ?_
  obtain ⟨d, e, hr⟩ := bd hr
  refine .g1 G (ok0 (sE n a d e)) (.mu 1 (.ca cf0 (.mu 1 (.done (.nh [2] [.own (ag.c a), .own (ag.c d)] (.ret ?_))))))
  obtain rfl := oi hr
  exact aG.r1 [.agg (ag.c d)]
 refine .skip (.seq ?_)
 obtain ⟨f, g, hr⟩ := bd hr
 refine .g1 G (ok0 (cu n 0 f g)) (.ca cf0 (.mu 1 (.done (.nh [2] [.own (ag.c a), .own (ag.c f)] (.ret ?_)))))
 obtain rfl := oi hr
 exact aG.r1 [.agg (ag.c f)]

theorem fo (n : Nat) {b : ag} {a : ag} (h : ([.agg (ag.c b)] : List AV) = [.agg (ag.c a)]) : aZ n b = aZ n a := by
 obtain rfl := gD h
 rfl
theorem bc (n : Nat) (a : ag) (r : Int) (hr : aZ n a = some r) : aL Tryz.prog 107 [.agg (ag.c a)] (ae r) := by
 unfold aZ at hr
 refine aL.bd G Tryz.func107 [.tmp 2] ?_
 unfold Tryz.f107
 simp only [gS]
 refine .seq (.r2 G 7 [(1, .hp 0 0)] [.own (ag.c a)] (.seq ?_))
 obtain ⟨e, b, f, d, hr⟩ := bd2 hr
 refine .gn G (ca1 (ok0 (cU n a e b)) (ca3 (ok0 (fS n e.Num f d)))) (.mu 1 (.ca cf0 (.mu 1 (.ca (cfF cf0) (.mu 1 (.done (.ret ?_)))))))
 obtain rfl := oi hr
 exact aG.r1 [ae f]

theorem uX (n : Nat) (d : ag) (r : ag) (hr : lW n d = some r) : aL Tryz.prog 120 [.agg (ag.c d)] (.agg (ag.c r)) := by
 unfold lW at hr
 refine aL.bd G Tryz.func120 [.cell 2 42] ?_
 unfold Tryz.f120
 simp only [gS]
 refine .seq (.r2 G 11 [(1, .hp 0 0), (2, .hp 1 0)] [.own (ag.c d), .own zN2] (.seq ?_))
 obtain ⟨a, e, hr⟩ := bd hr
 refine .g1 G (ok0 (cU n d a e)) (.mu 1 (.ca cf0 (.mu 1 (.done (.nh [1, 2] [.own (ag.c a), .own zN2] (.seq ?_))))))
 obtain ⟨b, f, hr⟩ := bd hr
 refine .t1 G (ok0 (gL n a.Num b f)) (.mu 2 (.ca cf0 (.mu 4 ?_)))
 refine .done ⟨by kernel_rfl, ?_⟩
 refine .nh [2] [.own (ag.c a), .own [aB b.Negative, au b.Groups, aB a.Den.Negative, au a.Den.Groups]] (.ret ?_)
 obtain rfl := oi hr
 exact aG.r1 [.agg [aB b.Negative, au b.Groups, aB a.Den.Negative, au a.Den.Groups]]

theorem p9 {b : ah} {y : ah} {a : ah} {c : ah} (h : ([.agg [.at (.bool b.Negative), slT iCu b.Groups], .agg [.at (.bool y.Negative), slT iCu y.Groups]] : List AV) = [.agg [.at (.bool a.Negative), slT iCu a.Groups], .agg [.at (.bool c.Negative), slT iCu c.Groups]]) : b = a /\ y = c := by
 obtain ⟨_, _⟩ := b
 obtain ⟨_, _⟩ := a
 obtain ⟨_, _⟩ := y
 obtain ⟨_, _⟩ := c
 simp only [List.cons.injEq, AV.agg.injEq, AV.at.injEq, Value.int.injEq, Value.bool.injEq, AV.fn.injEq, AV.pp.injEq, true_and, and_true, eZ] at h
 simp_all
theorem iR (n : Nat) {b : ah} {y : ah} {a : ah} {d : ah} (h : ([.agg (ah.c b), .agg (ah.c y)] : List AV) = [.agg (ah.c a), .agg (ah.c d)]) : dD n b y = dD n a d := by
 obtain ⟨rfl, rfl⟩ := p9 h
 rfl
theorem eP (n : Nat) (a : ah) (y : ah) (r : ah) (hr : dD n a y = some r) : aL Tryz.prog 123 [.agg (ah.c a), .agg (ah.c y)] (.agg (ah.c r)) := by
 unfold dD at hr
 refine aL.bd G Tryz.func123 [.cell 4 40] ?_
 unfold Tryz.f123
 simp only [gS]
 refine .seq (.r2 G 16 [(2, .hp 0 0), (3, .hp 1 0), (4, .hp 2 0)] [.own (ah.c a), .own (ah.c y), .own [aB false, nS]] (.seq ?_))
 obtain ⟨i, b, j, d, k, e, hr⟩ := bd3 hr
 obtain ⟨f, g, hr⟩ := bd hr
 refine .tn G (ca1 (ok0 (cx n a i b)) (ca1 (ok0 (cx n y j d)) (ca1 (ok0 (tP n i j k e)) (ca3 (ok0 (b9 n (a.Negative != y.Negative) k f g)))))) (.mu 6 (.ca cf0 (.mu 1 (.ca (cfA (fun h => by rw [sv d b (ie n h)]) cf0) (.ca (cfF (cfF cf0)) (.ca (cfF (cfF (cfF cf0))) (.mu 1 ?_)))))))
 refine .done ⟨by kernel_rfl, ?_⟩
 refine .nh [4] [.own (ah.c a), .own (ah.c y), .own (ah.c f)] (.ret ?_)
 obtain rfl := oi hr
 exact aG.r1 [.agg (ah.c f)]

theorem vu (n : Nat) (negative : Bool) (a : List Int) (other : Bool) (b : List Int) (r : ah) (hr : mK n negative a other b = some r) : aL Tryz.prog 163 [aB negative, au a, aB other, au b] (.agg (ah.c r)) := by
 unfold mK at hr
 refine aL.bd G Tryz.func163 [.cell 8 40] ?_
 unfold Tryz.f163
 simp only [gS]
 refine .seq (.r5 G [0, 1, 2, 3] [(8, .hp 0 0)] [.own [aB false, nS]] (.seq (.block (.seq (.r4 G [0, 1, 2, 3, 8] [(9, aB (negative == other))] ?_)))))
 refine .cd hr ?_ ?_ <;> intro s hr
 ·refine .seq ?_
  obtain ⟨p, k, l, m, hr⟩ := bd2 hr
  refine .gn G (ca1 (ok0 (qf n a b p k)) (ca3 (ok0 (b9 n negative p l m)))) (.mu 3 (.ca cf0 (.ca (cfF cf0) (.mu 1 (.done (.nh [8] [.own (ah.c l)] (.ret ?_)))))))
  obtain rfl := oi hr
  exact aG.r1 [.agg (ah.c l)]
 refine .seq ?_
 obtain ⟨t, o, hr⟩ := bd hr
 refine .g1 G (ok0 (kO n a b t o)) (.mu 2 (.ca cf0 (.mu 2 (.done (.nh [0, 1, 2, 3, 8, 18] [.own [aB false, nS]] ?_)))))
 refine .cd hr ?_ ?_ <;> intro u hr
 ·refine .seq ?_
  obtain ⟨q, f, d, g, hr⟩ := bd2 hr
  refine .gn G (ca1 (ok0 (l9 n a b q f)) (ca3 (ok0 (b9 n negative q d g)))) (.mu 3 (.ca cf0 (.ca (cfF cf0) (.mu 1 (.done (.nh [8] [.own (ah.c d)] (.ret ?_)))))))
  obtain rfl := oi hr
  exact aG.r1 [.agg (ah.c d)]
 refine .skip (.pop (.seq ?_))
 obtain ⟨h, i, e, j, hr⟩ := bd2 hr
 refine .gn G (ca1 (ok0 (l9 n b a h i)) (ca3 (ok0 (b9 n other h e j)))) (.mu 3 (.ca cf0 (.ca (cfF cf0) (.mu 1 (.done (.nh [8] [.own (ah.c e)] (.ret ?_)))))))
 obtain rfl := oi hr
 exact aG.r1 [.agg (ah.c e)]

theorem vq (n : Nat) (a : ah) (y : ah) (r : ah) (hr : mC n a y = some r) : aL Tryz.prog 124 [.agg (ah.c a), .agg (ah.c y)] (.agg (ah.c r)) := by
 unfold mC at hr
 refine aL.bd G Tryz.func124 [.cell 4 40] ?_
 unfold Tryz.f124
 simp only [gS]
 refine .seq (.r2 G 14 [(2, .hp 0 0), (3, .hp 1 0), (4, .hp 2 0)] [.own (ah.c a), .own (ah.c y), .own [aB false, nS]] (.seq ?_))
 obtain ⟨g, b, i, d, e, f, hr⟩ := bd3 hr
 refine .tn G (ca1 (ok0 (cx n a g b)) (ca1 (ok0 (cx n y i d)) (ca3 (ok0 (vu n a.Negative g y.Negative i e f))))) (.mu 3 (.ca cf0 (.mu 3 (.ca (cfA (fun h => by rw [sv d b (ie n h)]) cf0) (.ca (cfF (cfF cf0)) (.mu 1 ?_))))))
 refine .done ⟨by kernel_rfl, ?_⟩
 refine .nh [4] [.own (ah.c a), .own (ah.c y), .own (ah.c e)] (.ret ?_)
 obtain rfl := oi hr
 exact aG.r1 [.agg (ah.c e)]

theorem kd {b : ag} {y : ag} {a : ag} {c : ag} (h : ([.agg [.at (.bool b.Num.Negative), slT iCu b.Num.Groups, .at (.bool b.Den.Negative), slT iCu b.Den.Groups], .agg [.at (.bool y.Num.Negative), slT iCu y.Num.Groups, .at (.bool y.Den.Negative), slT iCu y.Den.Groups]] : List AV) = [.agg [.at (.bool a.Num.Negative), slT iCu a.Num.Groups, .at (.bool a.Den.Negative), slT iCu a.Den.Groups], .agg [.at (.bool c.Num.Negative), slT iCu c.Num.Groups, .at (.bool c.Den.Negative), slT iCu c.Den.Groups]]) : b = a /\ y = c := by
 obtain ⟨⟨_, _⟩, ⟨_, _⟩⟩ := b
 obtain ⟨⟨_, _⟩, ⟨_, _⟩⟩ := a
 obtain ⟨⟨_, _⟩, ⟨_, _⟩⟩ := y
 obtain ⟨⟨_, _⟩, ⟨_, _⟩⟩ := c
 simp only [List.cons.injEq, AV.agg.injEq, AV.at.injEq, Value.int.injEq, Value.bool.injEq, AV.fn.injEq, AV.pp.injEq, true_and, and_true, eZ] at h
 simp_all
theorem u9 (n : Nat) {b : ag} {y : ag} {a : ag} {d : ag} (h : ([.agg (ag.c b), .agg (ag.c y)] : List AV) = [.agg (ag.c a), .agg (ag.c d)]) : b7 n b y = b7 n a d := by
 obtain ⟨rfl, rfl⟩ := kd h
 rfl
theorem de (n : Nat) (o : ag) (y : ag) (r : ag) (hr : b7 n o y = some r) : aL Tryz.prog 80 [.agg (ag.c o), .agg (ag.c y)] (.agg (ag.c r)) := by
 unfold b7 at hr
 refine aL.bd G Tryz.func80 [.cell 4 42] ?_
 unfold Tryz.f80
 simp only [gS]
 refine .seq (.r2 G 26 [(2, .hp 0 0), (3, .hp 1 0), (4, .hp 2 0)] [.own (ag.c o), .own (ag.c y), .own zN2] (.seq ?_))
 obtain ⟨f, i, g, j, hr⟩ := bd2 hr
 refine .tn G (ca1 (ok0 (cU n o f i)) (ca3 (ok0 (cU n y g j)))) (.mu 1 (.ca cf0 (.mu 1 (.ca (cfA (fun h => by rw [sv j i (jL n h)]) cf0) (.mu 2 ?_)))))
 refine .done ⟨by kernel_rfl, ?_⟩
 refine .nh [2, 3, 4] [.own (ag.c f), .own (ag.c g), .own zN2] (.seq ?_)
 obtain ⟨p, b, q, d, s, k, hr⟩ := bd3 hr
 obtain ⟨l, a, e, m, hr⟩ := bd2 hr
 refine .tn G (ca1 (ok0 (eP n f.Num g.Den p b)) (ca1 (ok0 (eP n g.Num f.Den q d)) (ca1 (ok0 (vq n p q s k)) (ca1 (ok0 (eP n f.Den g.Den l a)) (ca3 (ok0 (iD n s l e m))))))) (.mu 4 (.ca cf0 (.mu 4 (.ca (cfA (fun h => by rw [sv d b (iR n h)]) cf0) (.ca (cfF (cfF cf0)) (.mu 4 (.ca (cfA (fun h => by rw [sv a b (iR n h)]) (cfA (fun h => by rw [sv a d (iR n h)]) (cfF cf0))) (.ca (cfF (cfF (cfF (cfF cf0)))) (.mu 1 ?_)))))))))
 refine .done ⟨by kernel_rfl, ?_⟩
 refine .nh [4] [.own (ag.c f), .own (ag.c g), .own (ag.c e)] (.ret ?_)
 obtain rfl := oi hr
 exact aG.r1 [.agg (ag.c e)]

theorem mP (n : Nat) {b : ag} {y : ag} {a : ag} {d : ag} (h : ([.agg (ag.c b), .agg (ag.c y)] : List AV) = [.agg (ag.c a), .agg (ag.c d)]) : c6 n b y = c6 n a d := by
 obtain ⟨rfl, rfl⟩ := kd h
 rfl
theorem ew (n : Nat) (a : ag) (y : ag) (r : ag) (hr : c6 n a y = some r) : aL Tryz.prog 75 [.agg (ag.c a), .agg (ag.c y)] (.agg (ag.c r)) := by
 unfold c6 at hr
 refine aL.bd G Tryz.func75 [.cell 4 42] ?_
 unfold Tryz.f75
 simp only [gS]
 refine .seq (.r2 G 9 [(2, .hp 0 0), (3, .hp 1 0), (4, .hp 2 0)] [.own (ag.c a), .own (ag.c y), .own zN2] (.seq ?_))
 obtain ⟨f, b, d, e, hr⟩ := bd2 hr
 refine .tn G (ca1 (ok0 (uX n y f b)) (ca3 (ok0 (de n a f d e)))) (.mu 2 (.ca cf0 (.ca (cfF cf0) (.mu 1 ?_))))
 refine .done ⟨by kernel_rfl, ?_⟩
 refine .nh [4] [.own (ag.c a), .own (ag.c y), .own (ag.c d)] (.ret ?_)
 obtain rfl := oi hr
 exact aG.r1 [.agg (ag.c d)]

theorem nR (n : Nat) (p : ag) (b : ag) (a : ag) (tip : ag) (r : ag) (hr : e9 n p b a tip = some r) : aL Tryz.prog 74 [.agg (ag.c p), .agg (ag.c b), .agg (ag.c a), .agg (ag.c tip)] (.agg (ag.c r)) := by
 unfold e9 at hr
 refine aL.bd G Tryz.func74 [.cell 8 42] ?_
 unfold Tryz.f74
 simp only [gS]
 refine .seq (.r2 G 12 [(7, .hp 3 0), (8, .hp 4 0)] [.own (ag.c p), .own (ag.c b), .own (ag.c a), .own (ag.c tip), .own zN2] (.seq ?_))
 obtain ⟨g, d, e, f, hr⟩ := bd2 hr
 refine .tn G (ca1 (ok0 (cu n 1 g d)) (ca3 (ok0 (ew n g tip e f)))) (.ca cf0 (.mu 1 (.ca (cfF cf0) (.mu 1 ?_))))
 refine .done ⟨by kernel_rfl, ?_⟩
 refine .nh [8] [.own (ag.c p), .own (ag.c b), .own (ag.c a), .own (ag.c tip), .own (ag.c e)] (.ret ?_)
 obtain rfl := oi hr
 exact aG.r1 [.agg (ag.c e)]

theorem mX (n : Nat) {b : ag} {y : ag} {a : ag} {d : ag} (h : ([.agg (ag.c b), .agg (ag.c y)] : List AV) = [.agg (ag.c a), .agg (ag.c d)]) : cP n b y = cP n a d := by
 obtain ⟨rfl, rfl⟩ := kd h
 rfl
theorem dG (n : Nat) (j : ag) (y : ag) (r : ag) (hr : cP n j y = some r) : aL Tryz.prog 78 [.agg (ag.c j), .agg (ag.c y)] (.agg (ag.c r)) := by
 unfold cP at hr
 refine aL.bd G Tryz.func78 [.cell 4 42] ?_
 unfold Tryz.f78
 simp only [gS]
 refine .seq (.r2 G 20 [(2, .hp 0 0), (3, .hp 1 0), (4, .hp 2 0)] [.own (ag.c j), .own (ag.c y), .own zN2] (.seq ?_))
 obtain ⟨a, b, d, e, hr⟩ := bd2 hr
 refine .tn G (ca1 (ok0 (cU n j a b)) (ca3 (ok0 (cU n y d e)))) (.mu 1 (.ca cf0 (.mu 1 (.ca (cfA (fun h => by rw [sv e b (jL n h)]) cf0) (.mu 2 ?_)))))
 refine .done ⟨by kernel_rfl, ?_⟩
 refine .nh [2, 3, 4] [.own (ag.c a), .own (ag.c d), .own zN2] (.seq ?_)
 obtain ⟨l, f, m, g, k, i, hr⟩ := bd3 hr
 refine .tn G (ca1 (ok0 (eP n a.Num d.Num l f)) (ca1 (ok0 (eP n a.Den d.Den m g)) (ca3 (ok0 (iD n l m k i))))) (.mu 4 (.ca cf0 (.mu 4 (.ca (cfA (fun h => by rw [sv g f (iR n h)]) cf0) (.ca (cfF (cfF cf0)) (.mu 1 ?_))))))
 refine .done ⟨by kernel_rfl, ?_⟩
 refine .nh [4] [.own (ag.c a), .own (ag.c d), .own (ag.c k)] (.ret ?_)
 obtain rfl := oi hr
 exact aG.r1 [.agg (ag.c k)]

theorem nH (n : Nat) (l : ag) (y : ag) (r : ag × Int) (hr : gV n l y = some r) : aL Tryz.prog 119 [.agg (ag.c l), .agg (ag.c y)] (.tup [.agg (ag.c r.1), ae r.2]) := by
 unfold gV at hr
 refine aL.bd G Tryz.func119 [.cell 4 42, .tmp 5] ?_
 unfold Tryz.f119
 simp only [gS]
 refine .seq (.r2 G 26 [(2, .hp 0 0), (3, .hp 1 0), (4, .hp 2 0)] [.own (ag.c l), .own (ag.c y), .own zN2] (.seq ?_))
 obtain ⟨e, f, b, g, hr⟩ := bd2 hr
 refine .tn G (ca1 (ok0 (cU n l e f)) (ca3 (ok0 (cU n y b g)))) (.mu 1 (.ca cf0 (.mu 1 (.ca (cfA (fun h => by rw [sv g f (jL n h)]) cf0) (.mu 2 ?_)))))
 refine .done ⟨by kernel_rfl, ?_⟩
 refine .nh [2, 3, 4] [.own (ag.c e), .own (ag.c b), .own zN2] (.seq (.seq ?_))
 obtain ⟨p, m, hr⟩ := bd hr
 refine .g1 G (ok0 (fS n b.Num p m)) (.mu 2 (.ca cf0 (.mu 1 (.done (.nh [2, 3, 4, 13] [.own (ag.c e), .own (ag.c b), .own zN2] ?_)))))
 refine .cd hr ?_ ?_ <;> intro q hr
 ·refine .seq (.r4 G [4] [(5, ae 14)] (.ret ?_))
  obtain rfl := oi hr
  exact aG.ret (vs := [.agg zN2, ae 14]) (by kernel_rfl) (Sn.tup (SnL.cons (Sn.agg (Sp (SnL.cons Sn.fZ (Sp (SnL.cons Sn.fZ SnL.nil))))) (Sp SnL.nil)))
 refine .skip (.seq ?_)
 obtain ⟨o, i, j, a, d, k, hr⟩ := bd3 hr
 refine .tn G (ca1 (ok0 (eP n e.Num b.Den o i)) (ca1 (ok0 (eP n e.Den b.Num j a)) (ca3 (ok0 (iD n o j d k))))) (.mu 4 (.ca cf0 (.mu 4 (.ca (cfA (fun h => by rw [sv a i (iR n h)]) cf0) (.ca (cfF (cfF cf0)) (.mu 2 ?_))))))
 refine .done ⟨by kernel_rfl, ?_⟩
 refine .nh [4, 5] [.own (ag.c e), .own (ag.c b), .own (ag.c d)] (.ret ?_)
 obtain rfl := oi hr
 exact aG.ret (vs := [.agg (ag.c d), ae 0]) (by kernel_rfl) (Sn.tup (Sp (Sp SnL.nil)))

theorem pr (n : Nat) (a : ag) (b : ag) (c : ag) (r : ag) (hr : gk n a b c = some r) : aL Tryz.prog 73 [.agg (ag.c a), .agg (ag.c b), .agg (ag.c c)] (.agg (ag.c r)) := by
 unfold gk at hr
 refine aL.bd G Tryz.func73 [.cell 6 42] ?_
 unfold Tryz.f73
 simp only [gS]
 refine .seq (.r2 G 24 [(3, .hp 0 0), (4, .hp 1 0), (5, .hp 2 0), (6, .hp 3 0)] [.own (ag.c a), .own (ag.c b), .own (ag.c c), .own zN2] (.seq ?_))
 obtain ⟨k, d, l, e, m, f, hr⟩ := bd3 hr
 obtain ⟨o, g, i, j, hr⟩ := bd2 hr
 refine .tn G (ca1 (ok0 (dG n a a k d)) (ca1 (ok0 (ew n a b l e)) (ca1 (ok0 (ew n a c m f)) (ca1 (ok0 (dG n l m o g)) (ca3 (ok0 (nH n k o i j))))))) (.mu 2 (.ca cf0 (.mu 2 (.ca (cfF cf0) (.mu 2 (.ca (cfF (cfA (fun h => by rw [sv f e (mP n h)]) cf0)) (.ca (cfA (fun h => by rw [sv g d (mX n h)]) (cfF (cfF cf0))) (.ca (cfF (cfF (cfF (cfF cf0)))) (.mu 6 ?_)))))))))
 refine .done ⟨by kernel_rfl, ?_⟩
 refine .nh [6, 7] [.own (ag.c a), .own (ag.c b), .own (ag.c c), .own zN2, .own (ag.c i.1)] (.seq (.r5 G [6] [] [.own (ag.c a), .own (ag.c b), .own (ag.c c), .own (ag.c i.1), .own (ag.c i.1)] (.ret ?_)))
 obtain rfl := oi hr
 exact aG.r1 [.agg (ag.c i.1)]

theorem q0 (n : Nat) (t : A3 Int) (p : Int) (p' : Int) (u : Int) (j : Int) (i : Int) (f : List Int) (g : Int) (e : Bool) (d : List Int) (b : Bool) (a : List Int) (r : Bool × List Int × Bool × List Int) (hr : iu n t p p' u j i f g e d b a = some r) : dm 5 Tryz.prog 117 [.agg (an.c t), .hp 0 0, .hp 1 0, .hp 2 0, .hp 3 0, .hp 4 0] [.own [ae p, ae p', ae u, ae j, ae i, bf f], .own [ae g], .own [aB e, au d, aB b, au a], .own [.fn 74 [] []], .own [.fn 73 [] []]] (.tup []) [.own [ae p, ae p', ae u, ae j, ae i, bf f], .own [ae g], .own [aB r.1, au r.2.1, aB r.2.2.1, au r.2.2.2], .own [.fn 74 [] []], .own [.fn 73 [] []]] := by
 unfold iu at hr
 refine dm.kF G Tryz.func117 (c := (Tryz.f117.body).getD .skip) rfl (us := []) (s := mkS 104 0 [(0, .agg (an.c t)), (1, .hp 0 0), (2, .hp 1 0), (3, .hp 2 0), (4, .hp 3 0), (5, .hp 4 0)]) (by kernel_rfl) (rs := []) rfl ?_
 unfold Tryz.f117
 simp only [gS]
 refine .seq (.r5 G [1, 2, 3, 4, 5] [(6, .hp 5 0)] [.own [ae p, ae p', ae u, ae j, ae i, bf f], .own [ae g], .own [aB e, au d, aB b, au a], .own [.fn 74 [] []], .own [.fn 73 [] []], .own (an.c t)] (.seq (.r5 G [1, 2, 3, 4, 5, 6] [(7, .hp 6 0)] [.own [ae p, ae p', ae u, ae j, ae i, bf f], .own [ae g], .own [aB e, au d, aB b, au a], .own [.fn 74 [] []], .own [.fn 73 [] []], .own (an.c t), .own [aB false, nS, aB false, nS, aB false, nS, aB false, nS, aB false, nS, aB false, nS]] (.seq (.r4 G [1, 2, 3, 4, 5, 6, 7] [(8, ae 0)] (.seq (.seq (.r4 G [1, 2, 3, 4, 5, 7, 8] [(12, .agg (an.c t)), (13, ae 0)] (.block ?_)))))))))
 refine .B1 4 (UNR.one ?_)
 refine .seq (.r4 G [1, 2, 3, 4, 5, 7, 8, 12, 13] [(14, aB true)] (.seq (.cT (by kernel_rfl) (.skip (.seq ?_)))))
 replace hr := bd hr; obtain ⟨uW, kZ, hr⟩ := hr
 refine .vY (Q := fun x st' => match (generalizing := false) uW with | (k, l, o, q, l5) => x = .normal /\ Wk 5 st' ⟨mkS 104 0 [(1, .hp 0 0), (2, .hp 1 0), (3, .hp 2 0), (4, .hp 3 0), (5, .hp 4 0), (7, .hp 5 0), (8, ae l5), (12, .agg (an.c t)), (13, ae 0)], [.own [ae p, ae p', ae u, ae j, ae i, bf f], .own [ae g], .own [aB e, au d, aB b, au a], .own [.fn 74 [] []], .own [.fn 73 [] []], .own [aB k, au l, aB o, au q, aB false, nS, aB false, nS, aB false, nS, aB false, nS]]⟩) ?_ ?_
 ·clear hr
  have hr := kZ
  clear kZ
  refine .block (.seq (.r4 G [1, 2, 3, 4, 5, 7, 8, 12, 13] [(9, ae 0), (10, ae t.e0)] (.seq ?_)))
  obtain ⟨ta, hr⟩ := gd hr
  obtain ⟨S, yY, hr⟩ := bd hr
  refine .t1 G (ok0 (eW n (Fc ((Fc (2 * (gt f t.e0))) - g)) 2 S yY)) (.mu 4 (.pk (v := .pp (f.flatMap (iC .i64)) (t.e0.toNat * 1)) (tr (ar ta)) (.pk (v := ae (gt f t.e0)) (tr (aD (aE (aF .i64) (aA ta) z1 (by omega : t.e0.toNat * 1 = t.e0.toNat * 1 + 0) (by kernel_rfl)))) (.mu 3 (.ca cf0 (.mu 5 ?_))))))
  refine .done ⟨by kernel_rfl, ?_⟩
  refine .nh [1, 2, 3, 4, 5, 7, 8, 9, 12, 13] [.own [ae p, ae p', ae u, ae j, ae i, bf f], .own [ae g], .own [aB e, au d, aB b, au a], .own [.fn 74 [] []], .own [.fn 73 [] []], .own (an.c t), .own [aB S.1.Num.Negative, au S.1.Num.Groups, aB S.1.Den.Negative, au S.1.Den.Groups, aB false, nS, aB false, nS, aB false, nS, aB false, nS]] (.seq ?_)
  obtain ⟨Cl, zX, hr⟩ := bd hr
  refine .g1 G (ok0 (bc n S.1 Cl zX)) (.mu 3 (.ca cf0 (.mu 1 (.done (.nh [1, 2, 3, 4, 5, 7, 8, 12, 13, 35] [.own [ae p, ae p', ae u, ae j, ae i, bf f], .own [ae g], .own [aB e, au d, aB b, au a], .own [.fn 74 [] []], .own [.fn 73 [] []], .own (an.c t), .own [aB S.1.Num.Negative, au S.1.Num.Groups, aB S.1.Den.Negative, au S.1.Den.Groups, aB false, nS, aB false, nS, aB false, nS, aB false, nS]] ?_)))))
  refine .cd hr ?_ ?_ <;> intro Dv hr
  ·refine .ru G (.pop ?_)
   obtain rfl := oi hr
   exact ⟨rfl, ((Wk.gc [1, 2, 3, 4, 5, 7, 8, 12, 13] [(0, true), (1, true), (2, true), (3, true), (4, true), (6, true)] rfl trivial).to)⟩
  refine .skip (.pop ?_)
  obtain rfl := oi hr
  exact ⟨rfl, ((Wk.gc [1, 2, 3, 4, 5, 7, 8, 12, 13] [(0, true), (1, true), (2, true), (3, true), (4, true), (6, true)] rfl trivial).to)⟩
 rcases uW with ⟨k, l, o, q, l5⟩
 rintro x st' nE
 clear kZ
 obtain ⟨rfl, nE⟩ := nE
 refine .wk nE (.ru G (UNR.next (.n2 104 [(1, .hp 0 0), (2, .hp 1 0), (3, .hp 2 0), (4, .hp 3 0), (5, .hp 4 0), (7, .hp 5 0), (8, ae l5), (12, .agg (an.c t)), (13, ae 1)] [.own [ae p, ae p', ae u, ae j, ae i, bf f], .own [ae g], .own [aB e, au d, aB b, au a], .own [.fn 74 [] []], .own [.fn 73 [] []], .own [aB k, au l, aB o, au q, aB false, nS, aB false, nS, aB false, nS, aB false, nS]] (.seq (.r4 G [1, 2, 3, 4, 5, 7, 8, 12, 13] [(14, aB true)] (.seq (.cT (by kernel_rfl) (.skip (.seq ?_)))))))))
 replace hr := bd hr; obtain ⟨xj, nO, hr⟩ := hr
 refine .vY (Q := fun x st' => match (generalizing := false) xj with | (y, z, A, B, ov) => x = .normal /\ Wk 5 st' ⟨mkS 104 0 [(1, .hp 0 0), (2, .hp 1 0), (3, .hp 2 0), (4, .hp 3 0), (5, .hp 4 0), (7, .hp 5 0), (8, ae ov), (12, .agg (an.c t)), (13, ae 1)], [.own [ae p, ae p', ae u, ae j, ae i, bf f], .own [ae g], .own [aB e, au d, aB b, au a], .own [.fn 74 [] []], .own [.fn 73 [] []], .own [aB k, au l, aB o, au q, aB y, au z, aB A, au B, aB false, nS, aB false, nS]]⟩) ?_ ?_
 ·clear hr
  have hr := nO
  clear nO
  refine .block (.seq (.r4 G [1, 2, 3, 4, 5, 7, 8, 12, 13] [(9, ae 1), (10, ae t.e1)] (.seq ?_)))
  obtain ⟨vL, hr⟩ := gd hr
  obtain ⟨T, Aj, hr⟩ := bd hr
  refine .t1 G (ok0 (eW n (Fc ((Fc (2 * (gt f t.e1))) - g)) 2 T Aj)) (.mu 4 (.pk (v := .pp (f.flatMap (iC .i64)) (t.e1.toNat * 1)) (tr (ar vL)) (.pk (v := ae (gt f t.e1)) (tr (aD (aE (aF .i64) (aA vL) z1 (by omega : t.e1.toNat * 1 = t.e1.toNat * 1 + 0) (by kernel_rfl)))) (.mu 3 (.ca cf0 (.mu 5 ?_))))))
  refine .done ⟨by kernel_rfl, ?_⟩
  refine .nh [1, 2, 3, 4, 5, 7, 8, 9, 12, 13] [.own [ae p, ae p', ae u, ae j, ae i, bf f], .own [ae g], .own [aB e, au d, aB b, au a], .own [.fn 74 [] []], .own [.fn 73 [] []], .own [aB k, au l, aB o, au q, aB T.1.Num.Negative, au T.1.Num.Groups, aB T.1.Den.Negative, au T.1.Den.Groups, aB false, nS, aB false, nS]] (.seq ?_)
  obtain ⟨BN, Ct, hr⟩ := bd hr
  refine .g1 G (ok0 (bc n T.1 BN Ct)) (.mu 3 (.ca cf0 (.mu 1 (.done (.nh [1, 2, 3, 4, 5, 7, 8, 12, 13, 35] [.own [ae p, ae p', ae u, ae j, ae i, bf f], .own [ae g], .own [aB e, au d, aB b, au a], .own [.fn 74 [] []], .own [.fn 73 [] []], .own [aB k, au l, aB o, au q, aB T.1.Num.Negative, au T.1.Num.Groups, aB T.1.Den.Negative, au T.1.Den.Groups, aB false, nS, aB false, nS]] ?_)))))
  refine .cd hr ?_ ?_ <;> intro Ef hr
  ·refine .ru G (.pop ?_)
   obtain rfl := oi hr
   exact ⟨rfl, ((Wk.gc [1, 2, 3, 4, 5, 7, 8, 12, 13] kT6 rfl trivial).to)⟩
  refine .skip (.pop ?_)
  obtain rfl := oi hr
  exact ⟨rfl, ((Wk.gc [1, 2, 3, 4, 5, 7, 8, 12, 13] kT6 rfl trivial).to)⟩
 rcases xj with ⟨y, z, A, B, ov⟩
 rintro x st' p7
 clear nO
 obtain ⟨rfl, p7⟩ := p7
 refine .wk p7 (.ru G (UNR.next (.n2 104 [(1, .hp 0 0), (2, .hp 1 0), (3, .hp 2 0), (4, .hp 3 0), (5, .hp 4 0), (7, .hp 5 0), (8, ae ov), (12, .agg (an.c t)), (13, ae 2)] [.own [ae p, ae p', ae u, ae j, ae i, bf f], .own [ae g], .own [aB e, au d, aB b, au a], .own [.fn 74 [] []], .own [.fn 73 [] []], .own [aB k, au l, aB o, au q, aB y, au z, aB A, au B, aB false, nS, aB false, nS]] (.seq (.r4 G [1, 2, 3, 4, 5, 7, 8, 12, 13] [(14, aB true)] (.seq (.cT (by kernel_rfl) (.skip (.seq ?_)))))))))
 replace hr := bd hr; obtain ⟨wS, q8, hr⟩ := hr
 refine .vY (Q := fun x st' => match (generalizing := false) wS with | (lE, mM, iZ, jQ, w) => x = .normal /\ Wk 5 st' ⟨mkS 104 0 [(1, .hp 0 0), (2, .hp 1 0), (3, .hp 2 0), (4, .hp 3 0), (5, .hp 4 0), (7, .hp 5 0), (8, ae w), (12, .agg (an.c t)), (13, ae 2)], [.own [ae p, ae p', ae u, ae j, ae i, bf f], .own [ae g], .own [aB e, au d, aB b, au a], .own [.fn 74 [] []], .own [.fn 73 [] []], .own [aB k, au l, aB o, au q, aB y, au z, aB A, au B, aB lE, au mM, aB iZ, au jQ]]⟩) ?_ ?_
 ·clear hr
  have hr := q8
  clear q8
  refine .block (.seq (.r4 G [1, 2, 3, 4, 5, 7, 8, 12, 13] [(9, ae 2), (10, ae t.e2)] (.seq ?_)))
  obtain ⟨vR, hr⟩ := gd hr
  obtain ⟨U, B4, hr⟩ := bd hr
  refine .t1 G (ok0 (eW n (Fc ((Fc (2 * (gt f t.e2))) - g)) 2 U B4)) (.mu 4 (.pk (v := .pp (f.flatMap (iC .i64)) (t.e2.toNat * 1)) (tr (ar vR)) (.pk (v := ae (gt f t.e2)) (tr (aD (aE (aF .i64) (aA vR) z1 (by omega : t.e2.toNat * 1 = t.e2.toNat * 1 + 0) (by kernel_rfl)))) (.mu 3 (.ca cf0 (.mu 5 ?_))))))
  refine .done ⟨by kernel_rfl, ?_⟩
  refine .nh [1, 2, 3, 4, 5, 7, 8, 9, 12, 13] [.own [ae p, ae p', ae u, ae j, ae i, bf f], .own [ae g], .own [aB e, au d, aB b, au a], .own [.fn 74 [] []], .own [.fn 73 [] []], .own [aB k, au l, aB o, au q, aB y, au z, aB A, au B, aB U.1.Num.Negative, au U.1.Num.Groups, aB U.1.Den.Negative, au U.1.Den.Groups]] (.seq ?_)
  obtain ⟨A6, BO, hr⟩ := bd hr
  refine .g1 G (ok0 (bc n U.1 A6 BO)) (.mu 3 (.ca cf0 (.mu 1 (.done (.nh [1, 2, 3, 4, 5, 7, 8, 12, 13, 35] [.own [ae p, ae p', ae u, ae j, ae i, bf f], .own [ae g], .own [aB e, au d, aB b, au a], .own [.fn 74 [] []], .own [.fn 73 [] []], .own [aB k, au l, aB o, au q, aB y, au z, aB A, au B, aB U.1.Num.Negative, au U.1.Num.Groups, aB U.1.Den.Negative, au U.1.Den.Groups]] ?_)))))
  refine .cd hr ?_ ?_ <;> intro ED hr
  ·refine .ru G (.pop ?_)
   obtain rfl := oi hr
   exact ⟨rfl, ((Wk.gc [1, 2, 3, 4, 5, 7, 8, 12, 13] kT6 rfl trivial).to)⟩
  refine .skip (.pop ?_)
  obtain rfl := oi hr
  exact ⟨rfl, ((Wk.gc [1, 2, 3, 4, 5, 7, 8, 12, 13] kT6 rfl trivial).to)⟩
 rcases wS with ⟨lE, mM, iZ, jQ, w⟩
 rintro x st' qy
 clear q8
 obtain ⟨rfl, qy⟩ := qy
 refine .wk qy (.ru G (UNR.next (.n2 104 [(1, .hp 0 0), (2, .hp 1 0), (3, .hp 2 0), (4, .hp 3 0), (5, .hp 4 0), (7, .hp 5 0), (8, ae w), (12, .agg (an.c t)), (13, ae 3)] [.own [ae p, ae p', ae u, ae j, ae i, bf f], .own [ae g], .own [aB e, au d, aB b, au a], .own [.fn 74 [] []], .own [.fn 73 [] []], .own [aB k, au l, aB o, au q, aB y, au z, aB A, au B, aB lE, au mM, aB iZ, au jQ]] (.seq (.r4 G [1, 2, 3, 4, 5, 7, 8, 12, 13] [(14, aB false)] (.seq (.cF (by kernel_rfl) (.leave rfl (unF.exit rfl (.seq (.seq (.r4 G [3, 4, 5, 7, 8] [(39, ae w)] (.block (.seq (.r4 G [3, 4, 5, 7, 8, 39] [(40, aB ((w : Int) == 0))] ?_)))))))))))))))
 refine .cd hr ?_ ?_ <;> intro Eb hr
 ·refine .ret ?_
  obtain rfl := oi hr
  exact dk.ret [] ((Wk.gc [] kT5 rfl trivial).to)
 refine .seq (.r4 G [3, 4, 5, 7, 8] [(42, aB ((w : Int) == 3))] ?_)
 refine .cd hr ?_ ?_ <;> intro EF hr
 ·refine .seq ?_
  obtain ⟨wQ, Br, w7, Bo, w6, Cj, hr⟩ := bd3 hr
  refine .tn G (ca1 (ok0 (cu n 0 wQ Br)) (ca1 (ok0 (nR n (ag.mk (ah.mk k l) (ah.mk o q)) (ag.mk (ah.mk y z) (ah.mk A B)) (ag.mk (ah.mk lE mM) (ah.mk iZ jQ)) wQ w7 Bo)) (ca3 (ok0 (de n (ag.mk (ah.mk e d) (ah.mk b a)) w7 w6 Cj))))) (.mu 8 (.ca cf0 (.ca (cfF cf0) (.ca (cfF (cfF cf0)) (.mu 1 ?_)))))
  refine .done ⟨by kernel_rfl, ?_⟩
  refine .nh [] [.own [ae p, ae p', ae u, ae j, ae i, bf f], .own [ae g], .own (ag.c w6), .own [.fn 74 [] []], .own [.fn 73 [] []], .own [aB k, au l, aB o, au q, aB y, au z, aB A, au B, aB lE, au mM, aB iZ, au jQ]] (.ret ?_)
  obtain rfl := oi hr
  exact dk.ret [] ((Wk.gc [] kT5 rfl trivial).to)
 refine .skip (.pop (.seq (.block ?_)))
 replace hr := bd hr; obtain ⟨w9, vF, hr⟩ := hr
 refine .aH (σ := fun z0 => match z0 with | (C, D, E, F, H, I, J, L, M, N, O, R) => ⟨mkS 104 0 [(3, .hp 2 0), (4, .hp 3 0), (5, .hp 4 0), (7, .hp 5 0), (8, ae w)], [.own [ae p, ae p', ae u, ae j, ae i, bf f], .own [ae g], .own [aB e, au d, aB b, au a], .own [.fn 74 [] []], .own [.fn 73 [] []], .own [aB C, au D, aB E, au F, aB H, au I, aB J, au L, aB M, au N, aB O, au R]]⟩) (Q := fun x st' => match (generalizing := false) w9 with | (W, X, Y, Z, gU, iV, jS, kb, jW, ki, kE, lP) => x = .exit 3 /\ Wk 5 st' ⟨mkS 104 0 [(3, .hp 2 0), (4, .hp 3 0), (5, .hp 4 0), (7, .hp 5 0), (8, ae w)], [.own [ae p, ae p', ae u, ae j, ae i, bf f], .own [ae g], .own [aB e, au d, aB b, au a], .own [.fn 74 [] []], .own [.fn 73 [] []], .own [aB W, au X, aB Y, au Z, aB gU, au iV, aB jS, au kb, aB jW, au ki, aB kE, au lP]]⟩) vF ((Wk.gc [3, 4, 5, 7, 8] kT6 rfl trivial).to) ?_ ?_
 ·clear hr
  rintro m ⟨C, D, E, F, H, I, J, L, M, N, O, R⟩ hr
  show CQ _ _ _ _ _ ⟨_, _⟩
  refine .seq (.seq ?_)
  replace hr := bd hr; obtain ⟨wV, ko, hr⟩ := hr
  refine .DN (Q := fun x st' => match (generalizing := false) wV with | .inl _ => x = .exit 3 /\ Wk 5 st' ⟨mkS 104 0 [(3, .hp 2 0), (4, .hp 3 0), (5, .hp 4 0), (7, .hp 5 0), (8, ae w)], [.own [ae p, ae p', ae u, ae j, ae i, bf f], .own [ae g], .own [aB e, au d, aB b, au a], .own [.fn 74 [] []], .own [.fn 73 [] []], .own [aB C, au D, aB E, au F, aB H, au I, aB J, au L, aB M, au N, aB O, au R]]⟩ | .inr (_) => x = .normal /\ Wk 5 st' ⟨mkS 104 0 [(3, .hp 2 0), (4, .hp 3 0), (5, .hp 4 0), (7, .hp 5 0), (8, ae w)], [.own [ae p, ae p', ae u, ae j, ae i, bf f], .own [ae g], .own [aB e, au d, aB b, au a], .own [.fn 74 [] []], .own [.fn 73 [] []], .own [aB C, au D, aB E, au F, aB H, au I, aB J, au L, aB M, au N, aB O, au R]]⟩) ?_ ?_
  ·clear hr
   have hr := ko
   clear ko
   obtain ⟨uI, ky, hr⟩ := bd hr
   rcases bT ((decide (uI > 0)) != ((w : Int) == 1)) with jN | jN
   ·replace hr := cy jN hr
    refine .t1 G (ok0 (bc n (ag.mk (ah.mk C D) (ah.mk E F)) uI ky)) (.mu 2 (.ca cf0 (.mu 3 (.pk (v := aB true) (eB jN) (.mu 11 ?_)))))
    refine .done ⟨by kernel_rfl, ?_⟩
    refine .nh [3, 4, 5, 7, 8, 72] [.own [ae p, ae p', ae u, ae j, ae i, bf f], .own [ae g], .own [aB e, au d, aB b, au a], .own [.fn 74 [] []], .own [.fn 73 [] []], .own [aB C, au D, aB E, au F, aB H, au I, aB J, au L, aB M, au N, aB O, au R]] (.cT (by kernel_rfl) (.skip ?_))
    obtain rfl := oi hr
    exact ⟨rfl, ((Wk.gc [3, 4, 5, 7, 8] kT6 rfl trivial).to)⟩
   replace hr := cz jN hr
   obtain ⟨Co, qg, Ce, sU, hr⟩ := bd2 hr
   refine .tn G (ca1 (ok0 (bc n (ag.mk (ah.mk C D) (ah.mk E F)) uI ky)) (ca1 (ok0 (bc n (ag.mk (ah.mk H I) (ah.mk J L)) Co qg)) (ca3 (ok0 (bc n (ag.mk (ah.mk M N) (ah.mk O R)) Ce sU))))) (.mu 2 (.ca cf0 (.mu 3 (.pk (v := aB false) (eB jN) (.mu 3 (.ca (cfA (fun h => by rw [sv qg ky (fo n h)]) cf0) (.mu 3 (.ca (cfA (fun h => by rw [sv sU ky (fo n h)]) (cfA (fun h => by rw [sv sU qg (fo n h)]) cf0)) (.mu 3 ?_)))))))))
   refine .done ⟨by kernel_rfl, ?_⟩
   refine .nh [3, 4, 5, 7, 8, 72] [.own [ae p, ae p', ae u, ae j, ae i, bf f], .own [ae g], .own [aB e, au d, aB b, au a], .own [.fn 74 [] []], .own [.fn 73 [] []], .own [aB C, au D, aB E, au F, aB H, au I, aB J, au L, aB M, au N, aB O, au R]] ?_
   refine .cd hr ?_ ?_ <;> intro Ej hr
   ·refine .skip ?_
    obtain rfl := oi hr
    exact ⟨rfl, ((Wk.gc [3, 4, 5, 7, 8] kT6 rfl trivial).to)⟩
   refine .leave rfl ?_
   obtain rfl := oi hr
   exact ⟨rfl, ((Wk.gc [3, 4, 5, 7, 8] kT6 rfl trivial).to)⟩
  rcases wV with ⟨⟩ | ⟨⟩
  ·rintro x st' V
   clear ko
   obtain ⟨rfl, V⟩ := V
   refine vA _ rfl ?_
   obtain rfl := oi hr
   exact ⟨rfl, (V.trans ((Wk.gc [3, 4, 5, 7, 8] kT6 rfl trivial).to))⟩
  rintro x st' V
  clear ko
  obtain ⟨rfl, V⟩ := V
  refine .wk V (.block (.ru G (.pop ?_)))
  exact az (H, I, J, L, M, N, O, R, C, D, E, F) hr ((Wk.gc [3, 4, 5, 7, 8] kT6 rfl trivial).to)
 rcases w9 with ⟨W, X, Y, Z, gU, iV, jS, kb, jW, ki, kE, lP⟩
 rintro x st' tG
 clear vF
 obtain ⟨rfl, tG⟩ := tG
 refine aQ _ rfl (.wk tG (.seq ?_))
 obtain ⟨rT, BF, hr⟩ := bd hr
 refine .g1 G (ok0 (pr n (ag.mk (ah.mk W X) (ah.mk Y Z)) (ag.mk (ah.mk gU iV) (ah.mk jS kb)) (ag.mk (ah.mk jW ki) (ah.mk kE lP)) rT BF)) (.mu 7 (.ca cf0 (.mu 2 (.done (.nh [3, 4, 7, 8, 11] [.own [ae p, ae p', ae u, ae j, ae i, bf f], .own [ae g], .own [aB e, au d, aB b, au a], .own [.fn 74 [] []], .own [.fn 73 [] []], .own [aB W, au X, aB Y, au Z, aB gU, au iV, aB jS, au kb, aB jW, au ki, aB kE, au lP], .own (ag.c rT)] (.seq (.seq (.r4 G [3, 4, 7, 11] [(91, aB ((w : Int) == 2))] ?_))))))))
 refine .cd hr ?_ ?_ <;> intro Ey hr
 ·obtain ⟨th, Cr, hr⟩ := bd hr
  refine .g1 G (ok0 (nR n (ag.mk (ah.mk W X) (ah.mk Y Z)) (ag.mk (ah.mk gU iV) (ah.mk jS kb)) (ag.mk (ah.mk jW ki) (ah.mk kE lP)) rT th Cr)) (.mu 8 (.ca cf0 (.mu 1 (.done (.nh [3, 11] [.own [ae p, ae p', ae u, ae j, ae i, bf f], .own [ae g], .own [aB e, au d, aB b, au a], .own [.fn 74 [] []], .own [.fn 73 [] []], .own [aB W, au X, aB Y, au Z, aB gU, au iV, aB jS, au kb, aB jW, au ki, aB kE, au lP], .own (ag.c th)] ?_)))))
  obtain ⟨BD, BG, hr⟩ := bd hr
  refine .g1 G (ok0 (de n (ag.mk (ah.mk e d) (ah.mk b a)) th BD BG)) (.mu 2 (.ca cf0 (.mu 1 (.done ?_))))
  obtain rfl := oi hr
  exact dk.normal [] ((Wk.gc [] kT5 rfl trivial).to)
 refine .skip ?_
 obtain ⟨BI, BT, hr⟩ := bd hr
 refine .g1 G (ok0 (de n (ag.mk (ah.mk e d) (ah.mk b a)) rT BI BT)) (.mu 2 (.ca cf0 (.mu 1 (.done ?_))))
 obtain rfl := oi hr
 exact dk.normal [] ((Wk.gc [] kT5 rfl trivial).to)

theorem jt (n : Nat) (g : al) (c : Int) (L : Int) (t : Int) (i : Int) (f : Int) (e : List Int) (d : Int) (z : Bool) (w : List Int) (u : Bool) (q : List Int) (r : Bool × List Int × Bool × List Int) (hr : b6 n g c L t i f e d z w u q = some r) : dm 5 Tryz.prog 89 [.agg (al.c g), .fn 117 [] [.hp 0 0, .hp 1 0, .hp 2 0, .hp 3 0, .hp 4 0]] [.own [ae c, ae L, ae t, ae i, ae f, bf e], .own [ae d], .own [aB z, au w, aB u, au q], .own [.fn 74 [] []], .own [.fn 73 [] []]] (.tup []) [.own [ae c, ae L, ae t, ae i, ae f, bf e], .own [ae d], .own [aB r.1, au r.2.1, aB r.2.2.1, au r.2.2.2], .own [.fn 74 [] []], .own [.fn 73 [] []]] := by
 unfold b6 at hr
 refine dm.kF G Tryz.func89 (c := (Tryz.f89.body).getD .skip) rfl (us := []) (s := mkS 82 0 [(0, .agg (al.c g)), (1, .fn 117 [] [.hp 0 0, .hp 1 0, .hp 2 0, .hp 3 0, .hp 4 0])]) (by kernel_rfl) (rs := []) rfl ?_
 unfold Tryz.f89
 simp only [gS]
 refine .seq (.r5 G [1] [(2, .hp 5 0)] [.own [ae c, ae L, ae t, ae i, ae f, bf e], .own [ae d], .own [aB z, au w, aB u, au q], .own [.fn 74 [] []], .own [.fn 73 [] []], .own (al.c g)] (.seq (.r4 G [1, 2] [(4, ae g.Width)] (.seq (.r4 G [1, 2, 4] [(14, ae (Fc (g.Height - 1))), (15, ae 0)] (.block ?_))))))
 replace hr := bd hr; obtain ⟨ky, iV, hr⟩ := hr
 refine .aH (σ := fun z0 => match z0 with | (jS, kb, jW, ki, h) => ⟨mkS 82 0 [(1, .fn 117 [] [.hp 0 0, .hp 1 0, .hp 2 0, .hp 3 0, .hp 4 0]), (2, .hp 5 0), (4, ae g.Width), (14, ae (Fc (g.Height - 1))), (15, ae h)], [.own [ae c, ae L, ae t, ae i, ae f, bf e], .own [ae d], .own [aB jS, au kb, aB jW, au ki], .own [.fn 74 [] []], .own [.fn 73 [] []], .own (al.c g)]⟩) (Q := fun x st' => match (generalizing := false) ky with | (kE, lP, lE, mM) => x = .exit 0 /\ Wk 5 st' ⟨mkS 82 0 [], [.own [ae c, ae L, ae t, ae i, ae f, bf e], .own [ae d], .own [aB kE, au lP, aB lE, au mM], .own [.fn 74 [] []], .own [.fn 73 [] []]]⟩) iV ((Wk.gc [1, 2, 4, 14, 15] kT6 rfl trivial).to) ?_ ?_
 ·clear hr
  rintro m ⟨jS, kb, jW, ki, h⟩ hr
  show CQ _ _ _ _ _ ⟨_, _⟩
  refine .seq (.r4 G [1, 2, 4, 14, 15] [(16, aB (decide (h < (Fc (g.Height - 1)))))] (.seq ?_))
  refine .cd hr ?_ ?_ <;> intro p7 hr
  ·refine .skip (.seq (.block (.seq (.r4 G [1, 2, 4, 14, 15] [(5, ae h)] (.seq (.r4 G [1, 2, 4, 5, 14, 15] [(19, ae (Fc (g.Width - 1))), (20, ae 0)] (.block ?_)))))))
   replace hr := bd hr; obtain ⟨kZ, iZ, hr⟩ := hr
   refine .aH (σ := fun z0 => match z0 with | (C, D, E, F, j) => ⟨mkS 82 0 [(1, .fn 117 [] [.hp 0 0, .hp 1 0, .hp 2 0, .hp 3 0, .hp 4 0]), (2, .hp 5 0), (4, ae g.Width), (5, ae h), (14, ae (Fc (g.Height - 1))), (15, ae h), (19, ae (Fc (g.Width - 1))), (20, ae j)], [.own [ae c, ae L, ae t, ae i, ae f, bf e], .own [ae d], .own [aB C, au D, aB E, au F], .own [.fn 74 [] []], .own [.fn 73 [] []], .own (al.c g)]⟩) (Q := fun x st' => match (generalizing := false) kZ with | (N, O, R, S) => x = .exit 2 /\ Wk 5 st' ⟨mkS 82 0 [(1, .fn 117 [] [.hp 0 0, .hp 1 0, .hp 2 0, .hp 3 0, .hp 4 0]), (2, .hp 5 0), (4, ae g.Width), (14, ae (Fc (g.Height - 1))), (15, ae h)], [.own [ae c, ae L, ae t, ae i, ae f, bf e], .own [ae d], .own [aB N, au O, aB R, au S], .own [.fn 74 [] []], .own [.fn 73 [] []], .own (al.c g)]⟩) iZ ((Wk.gc [1, 2, 4, 5, 14, 15, 19, 20] kT6 rfl trivial).to) ?_ ?_
   ·clear hr
    rintro m ⟨C, D, E, F, j⟩ hr
    show CQ _ _ _ _ _ ⟨_, _⟩
    refine .seq (.r4 G [1, 2, 4, 5, 14, 15, 19, 20] [(21, aB (decide (j < (Fc (g.Width - 1)))))] (.seq ?_))
    refine .cd hr ?_ ?_ <;> intro q8 hr
    ·refine .skip (.seq (.block (.seq (.r4 G [1, 2, 4, 5, 14, 15, 19, 20] [(6, ae j)] (.seq (.r4 G [1, 2, 4, 5, 14, 15, 19, 20] [(7, ae (Fc ((Fc (h * g.Width)) + j)))] ?_))))))
     obtain ⟨H, nE, hr⟩ := bd hr
     refine .wk ((Wk.refl _).to (c := ⟨mkS 82 0 [(1, .fn 117 [] [.hp 0 0, .hp 1 0, .hp 2 0, .hp 3 0, .hp 4 0]), (2, .hp 5 0), (4, ae g.Width), (5, ae h), (7, ae H), (14, ae (Fc (g.Height - 1))), (15, ae h), (19, ae (Fc (g.Width - 1))), (20, ae j)], [.own [ae c, ae L, ae t, ae i, ae f, bf e], .own [ae d], .own [aB C, au D, aB E, au F], .own [.fn 74 [] []], .own [.fn 73 [] []], .own (al.c g)]⟩) (by rw [oi nE]; first | done | kernel_rfl)) <| .seq <| .r5 G [1, 2, 4, 5, 14, 15, 19, 20] [(45, .hs 6 0 2 3), (46, ae 2), (47, ae 0)] [.own [ae c, ae L, ae t, ae i, ae f, bf e], .own [ae d], .own [aB C, au D, aB E, au F], .own [.fn 74 [] []], .own [.fn 73 [] []], .own (al.c g), .own [ae H, ae (Fc (H + 1)), ae (Fc ((Fc (H + g.Width)) + 1)), ae H, ae (Fc ((Fc (H + g.Width)) + 1)), ae (Fc (H + g.Width))]] <| .block ?_
     obtain ⟨b, nO, hr⟩ := bd hr
     refine .wk ((Wk.refl _).to (c := ⟨mkS 82 0 [(1, .fn 117 [] [.hp 0 0, .hp 1 0, .hp 2 0, .hp 3 0, .hp 4 0]), (2, .hp 5 0), (4, ae g.Width), (5, ae h), (14, ae (Fc (g.Height - 1))), (15, ae h), (19, ae (Fc (g.Width - 1))), (20, ae j), (45, .hs 6 0 b.length 3), (46, ae 2), (47, ae 0)], [.own [ae c, ae L, ae t, ae i, ae f, bf e], .own [ae d], .own [aB C, au D, aB E, au F], .own [.fn 74 [] []], .own [.fn 73 [] []], .own (al.c g), .own (b.flatMap an.c)]⟩) (by rw [<- oi nO]; kernel_rfl)) ?_
     replace hr := bd hr; obtain ⟨l5, jQ, hr⟩ := hr
     refine .aH (σ := fun z0 => match z0 with | (k, l, o, p, a) => ⟨mkS 82 0 [(1, .fn 117 [] [.hp 0 0, .hp 1 0, .hp 2 0, .hp 3 0, .hp 4 0]), (2, .hp 5 0), (4, ae g.Width), (5, ae h), (14, ae (Fc (g.Height - 1))), (15, ae h), (19, ae (Fc (g.Width - 1))), (20, ae j), (45, .hs 6 0 b.length 3), (46, ae 2), (47, ae a)], [.own [ae c, ae L, ae t, ae i, ae f, bf e], .own [ae d], .own [aB k, au l, aB o, au p], .own [.fn 74 [] []], .own [.fn 73 [] []], .own (al.c g), .own (b.flatMap an.c)]⟩) (Q := fun x st' => match (generalizing := false) l5 with | (T, U, V, W) => x = .exit 4 /\ Wk 5 st' ⟨mkS 82 0 [(1, .fn 117 [] [.hp 0 0, .hp 1 0, .hp 2 0, .hp 3 0, .hp 4 0]), (2, .hp 5 0), (4, ae g.Width), (5, ae h), (14, ae (Fc (g.Height - 1))), (15, ae h), (19, ae (Fc (g.Width - 1))), (20, ae j)], [.own [ae c, ae L, ae t, ae i, ae f, bf e], .own [ae d], .own [aB T, au U, aB V, au W], .own [.fn 74 [] []], .own [.fn 73 [] []], .own (al.c g)]⟩) jQ ((Wk.gc [1, 2, 4, 5, 14, 15, 19, 20, 45, 46, 47] [(0, true), (1, true), (2, true), (3, true), (4, true), (5, true), (6, false)] rfl (pKt (pKt (pKt (pKt (pKt (pKt (pKo an.c an.pure b trivial)))))))).to) ?_ ?_
     ·clear hr
      rintro m ⟨k, l, o, p, a⟩ hr
      show CQ _ _ _ _ _ ⟨_, _⟩
      refine .seq (.r4 G [1, 2, 4, 5, 14, 15, 19, 20, 45, 46, 47] [(48, aB (decide (a < 2)))] (.seq ?_))
      refine .cd hr ?_ ?_ <;> intro qy hr
      ·refine .skip (.seq (.block (.seq ?_)))
       obtain ⟨jN, hr⟩ := gd hr
       refine .r0 G (.p0 (v := .hp 6 (0 + a.toNat * 3)) (tr (ar jN)) (.p0 (v := .agg (an.c (gt b a))) (tr (y := bu.ofP (dR (decide (3 <= ((b.flatMap an.c).drop (0 + a.toNat * 3)).length)) (.agg (((b.flatMap an.c).drop (0 + a.toNat * 3)).take 3)))) (bO an.len (aA jN) (by decide) (by omega : 0 + a.toNat * 3 = a.toNat * 3 + 0) (by kernel_rfl))) (.mu 2 (.done (.nh [1, 2, 4, 5, 9, 14, 15, 19, 20, 45, 46, 47] [.own [ae c, ae L, ae t, ae i, ae f, bf e], .own [ae d], .own [aB k, au l, aB o, au p], .own [.fn 74 [] []], .own [.fn 73 [] []], .own (al.c g), .own (b.flatMap an.c), .own (an.c (gt b a))] (.seq ?_))))))
       obtain ⟨A, hr⟩ := gd hr
       rcases bT (((gt g.Z (gt b a).e0) : Int) != (-2147483648)) with B | B
       ·replace hr := cy B hr
        obtain ⟨J, hr⟩ := gd hr
        rcases bT (((gt g.Z (gt b a).e1) : Int) != (-2147483648)) with I | I
        ·replace hr := cy I hr
         obtain ⟨ko, hr⟩ := gd hr
         refine .r0 G (.mu 4 (.p0 (v := .pp (g.Z.flatMap (iC .i64)) ((gt b a).e0.toNat * 1)) (tr (ar A)) (.p0 (v := ae (gt g.Z (gt b a).e0)) (tr (aD (aE (aF .i64) (aA A) z1 (by omega : (gt b a).e0.toNat * 1 = (gt b a).e0.toNat * 1 + 0) (by kernel_rfl)))) (.p0 (v := aB true) (eB B) (.mu 5 (.pure (v := .pp (g.Z.flatMap (iC .i64)) ((gt b a).e1.toNat * 1)) (by kernel_rfl) (tr (ar J)) (.pure (v := ae (gt g.Z (gt b a).e1)) (by kernel_rfl) (tr (aD (aE (aF .i64) (aA J) z1 (by omega : (gt b a).e1.toNat * 1 = (gt b a).e1.toNat * 1 + 0) (by kernel_rfl)))) (.pure (v := aB true) (by kernel_rfl) (eB I) (.mu 6 (.pure (v := .pp (g.Z.flatMap (iC .i64)) ((gt b a).e2.toNat * 1)) (by kernel_rfl) (tr (ar ko)) (.pure (v := ae (gt g.Z (gt b a).e2)) (by kernel_rfl) (tr (aD (aE (aF .i64) (aA ko) z1 (by omega : (gt b a).e2.toNat * 1 = (gt b a).e2.toNat * 1 + 0) (by kernel_rfl)))) (.mu 2 (.done (.nh [1, 2, 4, 5, 9, 14, 15, 19, 20, 45, 46, 47, 75] [.own [ae c, ae L, ae t, ae i, ae f, bf e], .own [ae d], .own [aB k, au l, aB o, au p], .own [.fn 74 [] []], .own [.fn 73 [] []], .own (al.c g), .own (b.flatMap an.c), .own (an.c (gt b a))] ?_))))))))))))))
         refine .cd hr ?_ ?_ <;> intro qg hr
         ·obtain ⟨M, ov, hr⟩ := bd hr
          refine .g1 G (bZ (args := [.agg (an.c (gt b a)), .hp 0 0, .hp 1 0, .hp 2 0, .hp 3 0, .hp 4 0]) 5 0 kT5 [true, true, true, true, true] (q0 n (gt b a) c L t i f e d k l o p M ov) trivial trivial rfl rfl (by kernel_rfl) (by kernel_rfl)) (.mu 2 (.ca cf0 (.done (.pop (.ru G ?_)))))
          exact az (M.1, M.2.1, M.2.2.1, M.2.2.2, Fc (a + 1)) hr ((Wk.gc [1, 2, 4, 5, 14, 15, 19, 20, 45, 46, 47] [(0, true), (1, true), (2, true), (3, true), (4, true), (5, true), (6, false)] rfl (pKt (pKt (pKt (pKt (pKt (pKt (pKo an.c an.pure b trivial)))))))).to)
         refine .skip (.pop (.ru G ?_))
         exact az (k, l, o, p, Fc (a + 1)) hr ((Wk.gc [1, 2, 4, 5, 14, 15, 19, 20, 45, 46, 47] [(0, true), (1, true), (2, true), (3, true), (4, true), (5, true), (6, false)] rfl (pKt (pKt (pKt (pKt (pKt (pKt (pKo an.c an.pure b trivial)))))))).to)
        replace hr := cz I hr
        refine .r0 G (.mu 4 (.p0 (v := .pp (g.Z.flatMap (iC .i64)) ((gt b a).e0.toNat * 1)) (tr (ar A)) (.p0 (v := ae (gt g.Z (gt b a).e0)) (tr (aD (aE (aF .i64) (aA A) z1 (by omega : (gt b a).e0.toNat * 1 = (gt b a).e0.toNat * 1 + 0) (by kernel_rfl)))) (.p0 (v := aB true) (eB B) (.mu 5 (.pure (v := .pp (g.Z.flatMap (iC .i64)) ((gt b a).e1.toNat * 1)) (by kernel_rfl) (tr (ar J)) (.pure (v := ae (gt g.Z (gt b a).e1)) (by kernel_rfl) (tr (aD (aE (aF .i64) (aA J) z1 (by omega : (gt b a).e1.toNat * 1 = (gt b a).e1.toNat * 1 + 0) (by kernel_rfl)))) (.pure (v := aB false) (by kernel_rfl) (eB I) (.mu 10 (.done (.nh [1, 2, 4, 5, 9, 14, 15, 19, 20, 45, 46, 47, 75] [.own [ae c, ae L, ae t, ae i, ae f, bf e], .own [ae d], .own [aB k, au l, aB o, au p], .own [.fn 74 [] []], .own [.fn 73 [] []], .own (al.c g), .own (b.flatMap an.c), .own (an.c (gt b a))] (.cF (by kernel_rfl) (.skip (.pop (.ru G ?_)))))))))))))))
        exact az (k, l, o, p, Fc (a + 1)) hr ((Wk.gc [1, 2, 4, 5, 14, 15, 19, 20, 45, 46, 47] [(0, true), (1, true), (2, true), (3, true), (4, true), (5, true), (6, false)] rfl (pKt (pKt (pKt (pKt (pKt (pKt (pKo an.c an.pure b trivial)))))))).to)
       replace hr := cz B hr
       refine .r0 G (.mu 4 (.p0 (v := .pp (g.Z.flatMap (iC .i64)) ((gt b a).e0.toNat * 1)) (tr (ar A)) (.p0 (v := ae (gt g.Z (gt b a).e0)) (tr (aD (aE (aF .i64) (aA A) z1 (by omega : (gt b a).e0.toNat * 1 = (gt b a).e0.toNat * 1 + 0) (by kernel_rfl)))) (.p0 (v := aB false) (eB B) (.mu 18 (.done (.nh [1, 2, 4, 5, 9, 14, 15, 19, 20, 45, 46, 47, 75] [.own [ae c, ae L, ae t, ae i, ae f, bf e], .own [ae d], .own [aB k, au l, aB o, au p], .own [.fn 74 [] []], .own [.fn 73 [] []], .own (al.c g), .own (b.flatMap an.c), .own (an.c (gt b a))] (.cF (by kernel_rfl) (.skip (.pop (.ru G ?_)))))))))))
       exact az (k, l, o, p, Fc (a + 1)) hr ((Wk.gc [1, 2, 4, 5, 14, 15, 19, 20, 45, 46, 47] [(0, true), (1, true), (2, true), (3, true), (4, true), (5, true), (6, false)] rfl (pKt (pKt (pKt (pKt (pKt (pKt (pKo an.c an.pure b trivial)))))))).to)
      refine .leave rfl ?_
      obtain rfl := oi hr
      exact ⟨rfl, ((Wk.gc [1, 2, 4, 5, 14, 15, 19, 20] kT6 rfl trivial).to)⟩
     rcases l5 with ⟨T, U, V, W⟩
     rintro x st' X
     clear jQ
     obtain ⟨rfl, X⟩ := X
     refine aQ _ rfl (.pop (.wk X (.ru G ?_)))
     exact az (T, U, V, W, Fc (j + 1)) hr ((Wk.gc [1, 2, 4, 5, 14, 15, 19, 20] kT6 rfl trivial).to)
    refine .leave rfl ?_
    obtain rfl := oi hr
    exact ⟨rfl, ((Wk.gc [1, 2, 4, 14, 15] kT6 rfl trivial).to)⟩
   rcases kZ with ⟨N, O, R, S⟩
   rintro x st' Y
   clear iZ
   obtain ⟨rfl, Y⟩ := Y
   refine aQ _ rfl (.pop (.wk Y (.ru G ?_)))
   exact az (N, O, R, S, Fc (h + 1)) hr ((Wk.gc [1, 2, 4, 14, 15] kT6 rfl trivial).to)
  refine .leave rfl ?_
  obtain rfl := oi hr
  exact ⟨rfl, ((Wk.gc [] kT5 rfl trivial).to)⟩
 rcases ky with ⟨kE, lP, lE, mM⟩
 rintro x st' gU
 clear iV
 obtain ⟨rfl, gU⟩ := gU
 refine aQ _ rfl ?_
 obtain rfl := oi hr
 exact dk.wk gU (dk.normal [] ((Wk.gc [] kT5 rfl trivial).to))

theorem gb (n : Nat) (g : al) (level : Int) (r : ag) (hr : bj n g level = some r) : aL Tryz.prog 72 [.agg (al.c g), ae level, .fn 73 [] [], .fn 74 [] []] (.agg (ag.c r)) := by
 unfold bj at hr
 refine aL.bd G Tryz.func72 [.cell 8 42] ?_
 unfold Tryz.f72
 simp only [gS]
 refine .seq (.r2 G 28 [(4, .hp 0 0), (5, .hp 1 0), (6, .hp 2 0), (7, .hp 3 0), (8, .hp 4 0)] [.own (al.c g), .own [ae level], .own [.fn 73 [] []], .own [.fn 74 [] []], .own zN2] (.seq ?_))
 obtain ⟨b, e, hr⟩ := bd hr
 refine .g1 G (ok0 (cu n 0 b e)) (.ca cf0 (.mu 2 (.done (.nh [4, 5, 6, 7, 8, 9] [.own (al.c g), .own [ae level], .own [.fn 73 [] []], .own [.fn 74 [] []], .own zN2, .own (ag.c b)] (.seq ?_)))))
 obtain ⟨a, f, hr⟩ := bd hr
 refine .g1 G (bZ (args := [.agg (al.c g), .fn 117 [] [.hp 0 0, .hp 1 0, .hp 5 0, .hp 3 0, .hp 2 0]]) 5 0 [(0, true), (1, true), (5, true), (3, true), (2, true)] [true, true, true, true, true] (jt n g g.X0 g.Y0 g.Step g.Width g.Height g.Z level b.Num.Negative b.Num.Groups b.Den.Negative b.Den.Groups a f) trivial trivial rfl rfl (by kernel_rfl) (by kernel_rfl)) (.mu 2 (.ca cf0 (.done (.nh [4, 8, 9] [.own (al.c g), .own [ae level], .own [.fn 73 [] []], .own [.fn 74 [] []], .own zN2, .own [aB a.1, au a.2.1, aB a.2.2.1, au a.2.2.2]] (.seq ?_)))))
 obtain ⟨d, h, hr⟩ := bd hr
 refine .g1 G (ok0 (eW n (Fc (g.Step * g.Step)) 2 d h)) (.mu 5 (.ca cf0 (.mu 6 (.done (.nh [8, 9, 10] [.own (al.c g), .own [ae level], .own [.fn 73 [] []], .own [.fn 74 [] []], .own zN2, .own [aB a.1, au a.2.1, aB a.2.2.1, au a.2.2.2], .own (ag.c d.1)] (.seq ?_))))))
 obtain ⟨i, j, hr⟩ := bd hr
 refine .g1 G (ok0 (dG n (ag.mk (ah.mk a.1 a.2.1) (ah.mk a.2.2.1 a.2.2.2)) d.1 i j)) (.mu 2 (.ca cf0 (.mu 1 (.done (.nh [8] [.own (al.c g), .own [ae level], .own [.fn 73 [] []], .own [.fn 74 [] []], .own (ag.c i), .own [aB a.1, au a.2.1, aB a.2.2.1, au a.2.2.2], .own (ag.c d.1)] (.ret ?_))))))
 obtain rfl := oi hr
 exact aG.r1 [.agg (ag.c i)]

theorem oP (n : Nat) (g : al) (level : Int) (r : ag × Int) (hr : gr n g level = some r) : aL Tryz.prog 33 [.agg (al.c g), ae level] (.tup [.agg (ag.c r.1), ae r.2]) := by
 unfold gr at hr
 refine aL.bd G Tryz.func33 [.cell 4 42, .tmp 5] ?_
 unfold Tryz.f33
 simp only [gS]
 refine .seq (.r5 G [1] [(2, .hp 0 0), (4, .hp 1 0)] [.own (al.c g), .own zN2] (.seq (.seq ?_)))
 obtain ⟨a, b, hr⟩ := bd hr
 refine .g1 G (ok0 (gN n g level a b)) (.mu 2 (.ca cf0 (.mu 1 (.done (.nh [1, 2, 4, 6] [.own (al.c g), .own zN2] (.seq (.r4 G [1, 2, 4, 6] [(11, aB ((a : Int) != 0))] ?_)))))))
 refine .cd hr ?_ ?_ <;> intro f hr
 ·refine .seq (.r4 G [4] [(5, ae a)] (.ret ?_))
  obtain rfl := oi hr
  exact aG.ret (vs := [.agg zN2, ae a]) (by kernel_rfl) (Sn.tup (SnL.cons (Sn.agg (Sp (SnL.cons Sn.fZ (Sp (SnL.cons Sn.fZ SnL.nil))))) (Sp SnL.nil)))
 refine .skip (.seq ?_)
 obtain ⟨d, e, hr⟩ := bd hr
 refine .g1 G (ok0 (gb n g level d e)) (.mu 2 (.ca cf0 (.mu 2 (.done (.nh [4, 5] [.own (al.c g), .own (ag.c d)] (.ret ?_))))))
 obtain rfl := oi hr
 exact aG.ret (vs := [.agg (ag.c d), ae 0]) (by kernel_rfl) (Sn.tup (Sp (Sp SnL.nil)))

theorem pt (n : Nat) (s : List Int) (v : Int) (r : Int) (hr : j3 n s v = some r) : aL Tryz.prog 185 [bf s, ae v] (ae r) := by
 unfold j3 at hr
 refine aL.bd G Tryz.func185 [.tmp 4] ?_
 unfold Tryz.f185
 simp only [gS]
 refine .seq (.r4 G [0, 1] [] (.seq (.seq (.r4 G [0, 1] [(7, ae (s.length : Int)), (8, ae 0)] (.block ?_)))))
 replace hr := bd hr; obtain ⟨e, c, hr⟩ := hr
 refine .aH (σ := fun f => match f with | b => ⟨mkS 19 0 [(0, bf s), (1, ae v), (7, ae (s.length : Int)), (8, ae b)], []⟩) (Q := fun x st' => match (generalizing := false) e with | .inl _ => x = .exit 0 /\ Wk 0 st' ⟨mkS 19 0 [], []⟩ | .inr (r0) => x = .ret /\ aG Tryz.prog [.tmp 4] (ae r0) .ret st') c ((Wk.gc [0, 1, 7, 8] [] rfl pK0).to) ?_ ?_
 ·clear hr
  rintro m b hr
  show CQ _ _ _ _ _ ⟨_, _⟩
  refine .seq (.r4 G [0, 1, 7, 8] [(9, aB (decide (b < (s.length : Int))))] (.seq ?_))
  refine .cd hr ?_ ?_ <;> intro g hr
  ·refine .skip (.seq (.block (.seq (.r4 G [0, 1, 7, 8] [(5, ae b)] (.seq ?_)))))
   obtain ⟨d, hr⟩ := gd hr
   refine .r0 G (.mu 3 (.p0 (v := .pp (s.flatMap (iC .i64)) (b.toNat * 1)) (tr (ar d)) (.p0 (v := ae (gt s b)) (tr (aD (aE (aF .i64) (aA d) z1 (by omega : b.toNat * 1 = b.toNat * 1 + 0) (by kernel_rfl)))) (.mu 1 (.done (.nh [0, 1, 5, 7, 8, 16] [] ?_))))))
   refine .cd hr ?_ ?_ <;> intro h hr
   ·refine .seq (.ru G (.ret ?_))
    obtain rfl := oi hr
    exact ⟨rfl, aG.ret (vs := [ae b]) (by kernel_rfl) (Sn.pure rfl)⟩
   refine .skip (.pop (.ru G ?_))
   exact az (Fc (b + 1)) hr ((Wk.gc [0, 1, 7, 8] [] rfl pK0).to)
  refine .leave rfl ?_
  obtain rfl := oi hr
  exact ⟨rfl, ((Wk.gc [] [] rfl pK0).to)⟩
 rcases e with ⟨⟩ | r0
 ·rintro x st' a
  clear c
  obtain ⟨rfl, a⟩ := a
  refine aQ _ rfl (.wk a (.seq (.ru G (.ret ?_))))
  obtain rfl := oi hr
  exact aG.r1 [ae (-1)]
 rintro x st' a
 clear c
 obtain ⟨rfl, a⟩ := a
 obtain rfl := oi hr
 exact iT _ a

theorem nd {s : List Int} {v : Int} {a : List Int} {b : Int} (h : ([slT (iC .i64) s, .at (.int .i64 v)] : List AV) = [slT (iC .i64) a, .at (.int .i64 b)]) : s = a /\ v = b := by
 simp only [List.cons.injEq, AV.agg.injEq, AV.at.injEq, Value.int.injEq, Value.bool.injEq, AV.fn.injEq, AV.pp.injEq, true_and, and_true, eZ] at h
 simp_all
theorem n4 (n : Nat) {s : List Int} {v : Int} {a : List Int} {b : Int} (h : ([slT (iC .i64) s, .at (.int .i64 v)] : List AV) = [slT (iC .i64) a, .at (.int .i64 b)]) : dy n s v = dy n a b := by
 obtain ⟨rfl, rfl⟩ := nd h
 rfl
theorem gI (n : Nat) (s : List Int) (v : Int) (r : Bool) (hr : dy n s v = some r) : aL Tryz.prog 150 [bf s, ae v] (aB r) := by
 unfold dy at hr
 refine aL.bd G Tryz.func150 [.tmp 4] ?_
 unfold Tryz.f150
 simp only [gS]
 refine .seq (.r4 G [0, 1] [] (.seq ?_))
 obtain ⟨b, a, hr⟩ := bd hr
 refine .g1 G (ok0 (pt n s v b a)) (.mu 2 (.ca cf0 (.mu 2 (.done (.ret ?_)))))
 obtain rfl := oi hr
 exact aG.r1 [aB (decide (b >= 0))]

theorem qu (n : Nat) (t : A3 Int) (p : Bool) (f : Int) (a : Int) (r : Bool) (hr : kL n t p f a = some r) : dm 3 Tryz.prog 149 [.agg (an.c t), .hp 0 0, .hp 1 0, .hp 2 0] [.own [aB p], .own [ae f], .own [ae a]] (.tup []) [.own [aB r], .own [ae f], .own [ae a]] := by
 unfold kL at hr
 refine dm.kF G Tryz.func149 (c := (Tryz.f149.body).getD .skip) rfl (us := []) (s := mkS 16 0 [(0, .agg (an.c t)), (1, .hp 0 0), (2, .hp 1 0), (3, .hp 2 0)]) (by kernel_rfl) (rs := []) rfl ?_
 unfold Tryz.f149
 simp only [gS]
 refine .seq (.r5 G [1, 2, 3] [(4, .hp 3 0)] [.own [aB p], .own [ae f], .own [ae a], .own (an.c t)] ?_)
 rcases bT p with b | b
 ·replace hr := cy b hr
  refine .eu G bJ (.pk (v := aB true) (eB b) (.mu 11 ?_))
  refine .done ⟨by kernel_rfl, ?_⟩
  obtain rfl := oi hr
  exact dk.normal [] ((Wk.gc [] kT3 rfl trivial).to)
 replace hr := cz b hr
 obtain ⟨j, d, hr⟩ := bd hr
 rcases bT j with e | e
 ·subst e
  replace hr := cy rfl hr
  obtain ⟨i, g, hr⟩ := bd hr
  refine .tn G (ca1 (gx (args := [.hs 3 0 3 1, ae f]) (l := [3]) rfl (SnL.cons (Sn.hs rfl (.inl rfl) (SnC.cons (Sn.pure rfl) (SnC.cons (Sn.pure rfl) (SnC.cons (Sn.pure rfl) SnC.nil))) (fun h => nomatch h)) (Sp SnL.nil)) (gI n [t.e0, t.e1, t.e2] f true d)) (ca3 (gx (args := [.hs 3 0 3 1, ae a]) (l := [3]) rfl (SnL.cons (Sn.hs rfl (.inl rfl) (SnC.cons (Sn.pure rfl) (SnC.cons (Sn.pure rfl) (SnC.cons (Sn.pure rfl) SnC.nil))) (fun h => nomatch h)) (Sp SnL.nil)) (gI n [t.e0, t.e1, t.e2] a i g)))) (.pk (v := aB false) (eB b) (.mu 3 (.ca cf0 (.mu 3 (.ca (cfA (fun h => by rw [sv g d (n4 n (show ([bf [t.e0, t.e1, t.e2], ae a] : List AV) = [bf [t.e0, t.e1, t.e2], ae f] from (congr (congrArg List.cons rfl) (congr (congrArg List.cons (List.cons.inj (List.cons.inj h).2).1) rfl))))]) cf0) (.mu 3 ?_))))))
  refine .done ⟨by kernel_rfl, ?_⟩
  obtain rfl := oi hr
  exact dk.normal [] ((Wk.gc [] kT3 rfl trivial).to)
 subst e
 replace hr := cz rfl hr
 refine .t1 G (gx (args := [.hs 3 0 3 1, ae f]) (l := [3]) rfl (SnL.cons (Sn.hs rfl (.inl rfl) (SnC.cons (Sn.pure rfl) (SnC.cons (Sn.pure rfl) (SnC.cons (Sn.pure rfl) SnC.nil))) (fun h => nomatch h)) (Sp SnL.nil)) (gI n [t.e0, t.e1, t.e2] f false d)) (.pk (v := aB false) (eB b) (.mu 3 (.ca cf0 (.mu 7 ?_))))
 refine .done ⟨by kernel_rfl, ?_⟩
 obtain rfl := oi hr
 exact dk.normal [] ((Wk.gc [] kT3 rfl trivial).to)

theorem jh (n : Nat) (g : al) (c : Bool) (q : Int) (h : Int) (r : Bool) (hr : dw n g c q h = some r) : dm 3 Tryz.prog 89 [.agg (al.c g), .fn 149 [] [.hp 0 0, .hp 1 0, .hp 2 0]] [.own [aB c], .own [ae q], .own [ae h]] (.tup []) [.own [aB r], .own [ae q], .own [ae h]] := by
 unfold dw at hr
 refine dm.kF G Tryz.func89 (c := (Tryz.f89.body).getD .skip) rfl (us := []) (s := mkS 82 0 [(0, .agg (al.c g)), (1, .fn 149 [] [.hp 0 0, .hp 1 0, .hp 2 0])]) (by kernel_rfl) (rs := []) rfl ?_
 unfold Tryz.f89
 simp only [gS]
 refine .seq (.r5 G [1] [(2, .hp 3 0)] [.own [aB c], .own [ae q], .own [ae h], .own (al.c g)] (.seq (.r4 G [1, 2] [(4, ae g.Width)] (.seq (.r4 G [1, 2, 4] [(14, ae (Fc (g.Height - 1))), (15, ae 0)] (.block ?_))))))
 replace hr := bd hr; obtain ⟨J, z, hr⟩ := hr
 refine .aH (σ := fun O => match O with | (A, d) => ⟨mkS 82 0 [(1, .fn 149 [] [.hp 0 0, .hp 1 0, .hp 2 0]), (2, .hp 3 0), (4, ae g.Width), (14, ae (Fc (g.Height - 1))), (15, ae d)], [.own [aB A], .own [ae q], .own [ae h], .own (al.c g)]⟩) (Q := fun x st' => x = .exit 0 /\ Wk 3 st' ⟨mkS 82 0 [], [.own [aB J], .own [ae q], .own [ae h]]⟩) z ((Wk.gc [1, 2, 4, 14, 15] kT4 rfl trivial).to) ?_ ?_
 ·clear hr
  rintro m ⟨A, d⟩ hr
  show CQ _ _ _ _ _ ⟨_, _⟩
  refine .seq (.r4 G [1, 2, 4, 14, 15] [(16, aB (decide (d < (Fc (g.Height - 1)))))] (.seq ?_))
  refine .cd hr ?_ ?_ <;> intro R hr
  ·refine .skip (.seq (.block (.seq (.r4 G [1, 2, 4, 14, 15] [(5, ae d)] (.seq (.r4 G [1, 2, 4, 5, 14, 15] [(19, ae (Fc (g.Width - 1))), (20, ae 0)] (.block ?_)))))))
   replace hr := bd hr; obtain ⟨B, C, hr⟩ := hr
   refine .aH (σ := fun O => match O with | (k, e) => ⟨mkS 82 0 [(1, .fn 149 [] [.hp 0 0, .hp 1 0, .hp 2 0]), (2, .hp 3 0), (4, ae g.Width), (5, ae d), (14, ae (Fc (g.Height - 1))), (15, ae d), (19, ae (Fc (g.Width - 1))), (20, ae e)], [.own [aB k], .own [ae q], .own [ae h], .own (al.c g)]⟩) (Q := fun x st' => x = .exit 2 /\ Wk 3 st' ⟨mkS 82 0 [(1, .fn 149 [] [.hp 0 0, .hp 1 0, .hp 2 0]), (2, .hp 3 0), (4, ae g.Width), (14, ae (Fc (g.Height - 1))), (15, ae d)], [.own [aB B], .own [ae q], .own [ae h], .own (al.c g)]⟩) C ((Wk.gc [1, 2, 4, 5, 14, 15, 19, 20] kT4 rfl trivial).to) ?_ ?_
   ·clear hr
    rintro m ⟨k, e⟩ hr
    show CQ _ _ _ _ _ ⟨_, _⟩
    refine .seq (.r4 G [1, 2, 4, 5, 14, 15, 19, 20] [(21, aB (decide (e < (Fc (g.Width - 1)))))] (.seq ?_))
    refine .cd hr ?_ ?_ <;> intro S hr
    ·refine .skip (.seq (.block (.seq (.r4 G [1, 2, 4, 5, 14, 15, 19, 20] [(6, ae e)] (.seq (.r4 G [1, 2, 4, 5, 14, 15, 19, 20] [(7, ae (Fc ((Fc (d * g.Width)) + e)))] ?_))))))
     obtain ⟨l, L, hr⟩ := bd hr
     refine .wk ((Wk.refl _).to (c := ⟨mkS 82 0 [(1, .fn 149 [] [.hp 0 0, .hp 1 0, .hp 2 0]), (2, .hp 3 0), (4, ae g.Width), (5, ae d), (7, ae l), (14, ae (Fc (g.Height - 1))), (15, ae d), (19, ae (Fc (g.Width - 1))), (20, ae e)], [.own [aB k], .own [ae q], .own [ae h], .own (al.c g)]⟩) (by rw [oi L]; first | done | kernel_rfl)) <| .seq <| .r5 G [1, 2, 4, 5, 14, 15, 19, 20] [(45, .hs 4 0 2 3), (46, ae 2), (47, ae 0)] [.own [aB k], .own [ae q], .own [ae h], .own (al.c g), .own [ae l, ae (Fc (l + 1)), ae (Fc ((Fc (l + g.Width)) + 1)), ae l, ae (Fc ((Fc (l + g.Width)) + 1)), ae (Fc (l + g.Width))]] <| .block ?_
     obtain ⟨b, M, hr⟩ := bd hr
     refine .wk ((Wk.refl _).to (c := ⟨mkS 82 0 [(1, .fn 149 [] [.hp 0 0, .hp 1 0, .hp 2 0]), (2, .hp 3 0), (4, ae g.Width), (5, ae d), (14, ae (Fc (g.Height - 1))), (15, ae d), (19, ae (Fc (g.Width - 1))), (20, ae e), (45, .hs 4 0 b.length 3), (46, ae 2), (47, ae 0)], [.own [aB k], .own [ae q], .own [ae h], .own (al.c g), .own (b.flatMap an.c)]⟩) (by rw [<- oi M]; kernel_rfl)) ?_
     replace hr := bd hr; obtain ⟨D, E, hr⟩ := hr
     refine .aH (σ := fun O => match O with | (f, a) => ⟨mkS 82 0 [(1, .fn 149 [] [.hp 0 0, .hp 1 0, .hp 2 0]), (2, .hp 3 0), (4, ae g.Width), (5, ae d), (14, ae (Fc (g.Height - 1))), (15, ae d), (19, ae (Fc (g.Width - 1))), (20, ae e), (45, .hs 4 0 b.length 3), (46, ae 2), (47, ae a)], [.own [aB f], .own [ae q], .own [ae h], .own (al.c g), .own (b.flatMap an.c)]⟩) (Q := fun x st' => x = .exit 4 /\ Wk 3 st' ⟨mkS 82 0 [(1, .fn 149 [] [.hp 0 0, .hp 1 0, .hp 2 0]), (2, .hp 3 0), (4, ae g.Width), (5, ae d), (14, ae (Fc (g.Height - 1))), (15, ae d), (19, ae (Fc (g.Width - 1))), (20, ae e)], [.own [aB D], .own [ae q], .own [ae h], .own (al.c g)]⟩) E ((Wk.gc [1, 2, 4, 5, 14, 15, 19, 20, 45, 46, 47] [(0, true), (1, true), (2, true), (3, true), (4, false)] rfl (pKt (pKt (pKt (pKt (pKo an.c an.pure b trivial)))))).to) ?_ ?_
     ·clear hr
      rintro m ⟨f, a⟩ hr
      show CQ _ _ _ _ _ ⟨_, _⟩
      refine .seq (.r4 G [1, 2, 4, 5, 14, 15, 19, 20, 45, 46, 47] [(48, aB (decide (a < 2)))] (.seq ?_))
      refine .cd hr ?_ ?_ <;> intro T hr
      ·refine .skip (.seq (.block (.seq ?_)))
       obtain ⟨F, hr⟩ := gd hr
       refine .r0 G (.p0 (v := .hp 4 (0 + a.toNat * 3)) (tr (ar F)) (.p0 (v := .agg (an.c (gt b a))) (tr (y := bu.ofP (dR (decide (3 <= ((b.flatMap an.c).drop (0 + a.toNat * 3)).length)) (.agg (((b.flatMap an.c).drop (0 + a.toNat * 3)).take 3)))) (bO an.len (aA F) (by decide) (by omega : 0 + a.toNat * 3 = a.toNat * 3 + 0) (by kernel_rfl))) (.mu 2 (.done (.nh [1, 2, 4, 5, 9, 14, 15, 19, 20, 45, 46, 47] [.own [aB f], .own [ae q], .own [ae h], .own (al.c g), .own (b.flatMap an.c), .own (an.c (gt b a))] (.seq ?_))))))
       obtain ⟨i, hr⟩ := gd hr
       rcases bT (((gt g.Z (gt b a).e0) : Int) != (-2147483648)) with j | j
       ·replace hr := cy j hr
        obtain ⟨p, hr⟩ := gd hr
        rcases bT (((gt g.Z (gt b a).e1) : Int) != (-2147483648)) with o | o
        ·replace hr := cy o hr
         obtain ⟨H, hr⟩ := gd hr
         refine .r0 G (.mu 4 (.p0 (v := .pp (g.Z.flatMap (iC .i64)) ((gt b a).e0.toNat * 1)) (tr (ar i)) (.p0 (v := ae (gt g.Z (gt b a).e0)) (tr (aD (aE (aF .i64) (aA i) z1 (by omega : (gt b a).e0.toNat * 1 = (gt b a).e0.toNat * 1 + 0) (by kernel_rfl)))) (.p0 (v := aB true) (eB j) (.mu 5 (.pure (v := .pp (g.Z.flatMap (iC .i64)) ((gt b a).e1.toNat * 1)) (by kernel_rfl) (tr (ar p)) (.pure (v := ae (gt g.Z (gt b a).e1)) (by kernel_rfl) (tr (aD (aE (aF .i64) (aA p) z1 (by omega : (gt b a).e1.toNat * 1 = (gt b a).e1.toNat * 1 + 0) (by kernel_rfl)))) (.pure (v := aB true) (by kernel_rfl) (eB o) (.mu 6 (.pure (v := .pp (g.Z.flatMap (iC .i64)) ((gt b a).e2.toNat * 1)) (by kernel_rfl) (tr (ar H)) (.pure (v := ae (gt g.Z (gt b a).e2)) (by kernel_rfl) (tr (aD (aE (aF .i64) (aA H) z1 (by omega : (gt b a).e2.toNat * 1 = (gt b a).e2.toNat * 1 + 0) (by kernel_rfl)))) (.mu 2 (.done (.nh [1, 2, 4, 5, 9, 14, 15, 19, 20, 45, 46, 47, 75] [.own [aB f], .own [ae q], .own [ae h], .own (al.c g), .own (b.flatMap an.c), .own (an.c (gt b a))] ?_))))))))))))))
         refine .cd hr ?_ ?_ <;> intro U hr
         ·obtain ⟨I, N, hr⟩ := bd hr
          refine .g1 G (bZ (args := [.agg (an.c (gt b a)), .hp 0 0, .hp 1 0, .hp 2 0]) 3 0 kT3 [true, true, true] (qu n (gt b a) f q h I N) trivial trivial rfl rfl (by kernel_rfl) (by kernel_rfl)) (.mu 2 (.ca cf0 (.done (.pop (.ru G ?_)))))
          exact az (I, Fc (a + 1)) hr ((Wk.gc [1, 2, 4, 5, 14, 15, 19, 20, 45, 46, 47] [(0, true), (1, true), (2, true), (3, true), (4, false)] rfl (pKt (pKt (pKt (pKt (pKo an.c an.pure b trivial)))))).to)
         refine .skip (.pop (.ru G ?_))
         exact az (f, Fc (a + 1)) hr ((Wk.gc [1, 2, 4, 5, 14, 15, 19, 20, 45, 46, 47] [(0, true), (1, true), (2, true), (3, true), (4, false)] rfl (pKt (pKt (pKt (pKt (pKo an.c an.pure b trivial)))))).to)
        replace hr := cz o hr
        refine .r0 G (.mu 4 (.p0 (v := .pp (g.Z.flatMap (iC .i64)) ((gt b a).e0.toNat * 1)) (tr (ar i)) (.p0 (v := ae (gt g.Z (gt b a).e0)) (tr (aD (aE (aF .i64) (aA i) z1 (by omega : (gt b a).e0.toNat * 1 = (gt b a).e0.toNat * 1 + 0) (by kernel_rfl)))) (.p0 (v := aB true) (eB j) (.mu 5 (.pure (v := .pp (g.Z.flatMap (iC .i64)) ((gt b a).e1.toNat * 1)) (by kernel_rfl) (tr (ar p)) (.pure (v := ae (gt g.Z (gt b a).e1)) (by kernel_rfl) (tr (aD (aE (aF .i64) (aA p) z1 (by omega : (gt b a).e1.toNat * 1 = (gt b a).e1.toNat * 1 + 0) (by kernel_rfl)))) (.pure (v := aB false) (by kernel_rfl) (eB o) (.mu 10 (.done (.nh [1, 2, 4, 5, 9, 14, 15, 19, 20, 45, 46, 47, 75] [.own [aB f], .own [ae q], .own [ae h], .own (al.c g), .own (b.flatMap an.c), .own (an.c (gt b a))] (.cF (by kernel_rfl) (.skip (.pop (.ru G ?_)))))))))))))))
        exact az (f, Fc (a + 1)) hr ((Wk.gc [1, 2, 4, 5, 14, 15, 19, 20, 45, 46, 47] [(0, true), (1, true), (2, true), (3, true), (4, false)] rfl (pKt (pKt (pKt (pKt (pKo an.c an.pure b trivial)))))).to)
       replace hr := cz j hr
       refine .r0 G (.mu 4 (.p0 (v := .pp (g.Z.flatMap (iC .i64)) ((gt b a).e0.toNat * 1)) (tr (ar i)) (.p0 (v := ae (gt g.Z (gt b a).e0)) (tr (aD (aE (aF .i64) (aA i) z1 (by omega : (gt b a).e0.toNat * 1 = (gt b a).e0.toNat * 1 + 0) (by kernel_rfl)))) (.p0 (v := aB false) (eB j) (.mu 18 (.done (.nh [1, 2, 4, 5, 9, 14, 15, 19, 20, 45, 46, 47, 75] [.own [aB f], .own [ae q], .own [ae h], .own (al.c g), .own (b.flatMap an.c), .own (an.c (gt b a))] (.cF (by kernel_rfl) (.skip (.pop (.ru G ?_)))))))))))
       exact az (f, Fc (a + 1)) hr ((Wk.gc [1, 2, 4, 5, 14, 15, 19, 20, 45, 46, 47] [(0, true), (1, true), (2, true), (3, true), (4, false)] rfl (pKt (pKt (pKt (pKt (pKo an.c an.pure b trivial)))))).to)
      refine .leave rfl ?_
      obtain rfl := oi hr
      exact ⟨rfl, ((Wk.gc [1, 2, 4, 5, 14, 15, 19, 20] kT4 rfl trivial).to)⟩
     rintro x st' t
     clear E
     obtain ⟨rfl, t⟩ := t
     refine aQ _ rfl (.pop (.wk t (.ru G ?_)))
     exact az (D, Fc (e + 1)) hr ((Wk.gc [1, 2, 4, 5, 14, 15, 19, 20] kT4 rfl trivial).to)
    refine .leave rfl ?_
    obtain rfl := oi hr
    exact ⟨rfl, ((Wk.gc [1, 2, 4, 14, 15] kT4 rfl trivial).to)⟩
   rintro x st' u
   clear C
   obtain ⟨rfl, u⟩ := u
   refine aQ _ rfl (.pop (.wk u (.ru G ?_)))
   exact az (B, Fc (d + 1)) hr ((Wk.gc [1, 2, 4, 14, 15] kT4 rfl trivial).to)
  refine .leave rfl ?_
  obtain rfl := oi hr
  exact ⟨rfl, ((Wk.gc [] kT3 rfl trivial).to)⟩
 rintro x st' w
 clear z
 obtain ⟨rfl, w⟩ := w
 refine aQ _ rfl ?_
 obtain rfl := oi hr
 exact dk.wk w (dk.normal [] ((Wk.gc [] kT3 rfl trivial).to))

theorem tv (n : Nat) (g : al) (a : Int) (b : Int) (r : Bool) (hr : nA n g a b = some r) : aL Tryz.prog 110 [.agg (al.c g), ae a, ae b] (aB r) := by
 unfold nA at hr
 refine aL.bd G Tryz.func110 [.tmp 6] ?_
 unfold Tryz.f110
 simp only [gS]
 refine .seq (.r2 G 26 [(3, .hp 0 0), (4, .hp 1 0), (5, .hp 2 0)] [.own (al.c g), .own [ae a], .own [ae b]] (.seq (.seq ?_)))
 rcases bT (decide (a < 0)) with d | d
 ·replace hr := cy d hr
  refine .r0 G (.mu 1 (.p0 (v := aB true) (eB d) (.mu 12 (.done (.nh [3, 4, 5, 21] [.own (al.c g), .own [ae a], .own [ae b]] (.cT (by kernel_rfl) (.seq (.ru G (.ret ?_)))))))))
  obtain rfl := oi hr
  exact aG.r1 [aB false]
 replace hr := cz d hr
 rcases bT (decide (a >= b)) with e | e
 ·replace hr := cy e hr
  refine .r0 G (.mu 1 (.p0 (v := aB false) (eB d) (.mu 3 (.pure (v := aB true) (by kernel_rfl) (eB e) (.mu 8 (.done (.nh [3, 4, 5, 21] [.own (al.c g), .own [ae a], .own [ae b]] (.cT (by kernel_rfl) (.seq (.ru G (.ret ?_)))))))))))
  obtain rfl := oi hr
  exact aG.r1 [aB false]
 replace hr := cz e hr
 refine .r0 G (.mu 1 (.p0 (v := aB false) (eB d) (.mu 3 (.pure (v := aB false) (by kernel_rfl) (eB e) (.mu 8 (.done (.nh [3, 4, 5, 21] [.own (al.c g), .own [ae a], .own [ae b]] ?_)))))))
 refine .cd hr ?_ ?_ <;> intro i hr
 ·refine .seq (.ru G (.ret ?_))
  obtain rfl := oi hr
  exact aG.r1 [aB false]
 refine .skip (.seq (.r5 G [3, 4, 5] [(7, .hp 3 0)] [.own (al.c g), .own [ae a], .own [ae b], .own [aB false]] (.seq ?_)))
 obtain ⟨f, h, hr⟩ := bd hr
 refine .g1 G (bZ (args := [.agg (al.c g), .fn 149 [] [.hp 3 0, .hp 1 0, .hp 2 0]]) 3 0 [(3, true), (1, true), (2, true)] [true, true, true] (jh n g false a b f h) trivial trivial rfl rfl (by kernel_rfl) (by kernel_rfl)) (.mu 2 (.ca cf0 (.done (.nh [7] [.own (al.c g), .own [ae a], .own [ae b], .own [aB f]] (.seq (.ru G (.ret ?_)))))))
 obtain rfl := oi hr
 exact aG.r1 [aB f]

theorem m7 (n : Nat) (g : ag) (y : ag) (r : Int) (hr : kj n g y = some r) : aL Tryz.prog 102 [.agg (ag.c g), .agg (ag.c y)] (ae r) := by
 unfold kj at hr
 refine aL.bd G Tryz.func102 [.tmp 4] ?_
 unfold Tryz.f102
 simp only [gS]
 refine .seq (.r2 G 20 [(2, .hp 0 0), (3, .hp 1 0)] [.own (ag.c g), .own (ag.c y)] (.seq ?_))
 obtain ⟨i, a, j, b, hr⟩ := bd2 hr
 refine .tn G (ca1 (ok0 (cU n g i a)) (ca3 (ok0 (cU n y j b)))) (.mu 1 (.ca cf0 (.mu 1 (.ca (cfA (fun h => by rw [sv b a (jL n h)]) cf0) (.mu 2 ?_)))))
 refine .done ⟨by kernel_rfl, ?_⟩
 refine .nh [2, 3] [.own (ag.c i), .own (ag.c j)] (.seq ?_)
 obtain ⟨k, d, l, e, m, f, hr⟩ := bd3 hr
 refine .tn G (ca1 (ok0 (eP n i.Num j.Den k d)) (ca1 (ok0 (eP n j.Num i.Den l e)) (ca3 (ok0 (nw n k l m f))))) (.mu 4 (.ca cf0 (.mu 4 (.ca (cfA (fun h => by rw [sv e d (iR n h)]) cf0) (.ca (cfF (cfF cf0)) (.mu 1 ?_))))))
 refine .done ⟨by kernel_rfl, ?_⟩
 refine .ret ?_
 obtain rfl := oi hr
 exact aG.r1 [ae m]

theorem rN {a : Int} {b : Int} {p : Int} {m : Int} {k : Bool} {i : List Int} {f : Bool} {d : List Int} {n : Int} {o : Int} {q : Int} {l : Int} {j : Bool} {g : List Int} {e : Bool} {c : List Int} (h : ([.at (.int .i64 a), .at (.int .i64 b), .pp [.at (.int .i64 p), .at (.int .i64 m), .at (.bool k), slT iCu i, .at (.bool f), slT iCu d] 0] : List AV) = [.at (.int .i64 n), .at (.int .i64 o), .pp [.at (.int .i64 q), .at (.int .i64 l), .at (.bool j), slT iCu g, .at (.bool e), slT iCu c] 0]) : a = n /\ b = o /\ p = q /\ m = l /\ k = j /\ i = g /\ f = e /\ d = c := by
 simp only [List.cons.injEq, AV.agg.injEq, AV.at.injEq, Value.int.injEq, Value.bool.injEq, AV.fn.injEq, AV.pp.injEq, true_and, and_true, eZ] at h
 simp_all
theorem sy (n : Nat) {a : Int} {b : Int} {p : Int} {m : Int} {k : Bool} {i : List Int} {f : Bool} {d : List Int} {o : Int} {q : Int} {r : Int} {l : Int} {j : Bool} {g : List Int} {e : Bool} {c : List Int} (h : ([.at (.int .i64 a), .at (.int .i64 b), .pp [.at (.int .i64 p), .at (.int .i64 m), .at (.bool k), slT iCu i, .at (.bool f), slT iCu d] 0] : List AV) = [.at (.int .i64 o), .at (.int .i64 q), .pp [.at (.int .i64 r), .at (.int .i64 l), .at (.bool j), slT iCu g, .at (.bool e), slT iCu c] 0]) : gY n a b p m k i f d = gY n o q r l j g e c := by
 obtain ⟨rfl, rfl, rfl, rfl, rfl, rfl, rfl, rfl⟩ := rN h
 rfl
theorem nW (n : Nat) (a : Int) (b : Int) (p : Int) (o : Int) (g : Bool) (f : List Int) (e : Bool) (d : List Int) (r : ag) (hr : gY n a b p o g f e d = some r) : aL Tryz.prog 111 [ae a, ae b, .pp [ae p, ae o, aB g, au f, aB e, au d] 0] (.agg (ag.c r)) := by
 unfold gY at hr
 refine aL.bd G Tryz.func111 [.cell 5 42] ?_
 unfold Tryz.f111
 simp only [gS]
 refine .seq (.r5 G [0, 1, 2] [(5, .hp 0 0)] [.own zN2] (.seq ?_))
 obtain ⟨q, i, s, j, t, k, hr⟩ := bd3 hr
 obtain ⟨l, m, hr⟩ := bd hr
 refine .tn G (ca1 (ok0 (cu n a q i)) (ca1 (ok0 (cu n (Fc (b - a)) s j)) (ca1 (ok0 (dG n (ag.mk (ah.mk g f) (ah.mk e d)) s t k)) (ca3 (ok0 (de n q t l m)))))) (.mu 1 (.ca cf0 (.mu 5 (.ca (cfA (fun h => by rw [sv j i (oh n h)]) cf0) (.ca (cfF (cfF cf0)) (.ca (cfF (cfF (cfF cf0))) (.mu 1 ?_)))))))
 refine .done ⟨by kernel_rfl, ?_⟩
 refine .nh [5] [.own (ag.c l)] (.ret ?_)
 obtain rfl := oi hr
 exact aG.r1 [.agg (ag.c l)]

theorem ur (n : Nat) (g : al) (c : ak) (r : aJ × Int) (hr : oD n g c = some r) : aL Tryz.prog 66 [.agg (al.c g), .agg (ak.c c)] (.tup [.agg (aJ.c r.1), ae r.2]) := by
 unfold oD at hr
 refine aL.bd G Tryz.func66 [.cell 4 59, .tmp 5] ?_
 unfold Tryz.f66
 simp only [gS]
 refine .seq (.r2 G 81 [(2, .hp 0 0), (3, .hp 1 0), (4, .hp 2 0)] [.own (al.c g), .own (ak.c c), .own zN4] (.seq (.seq ?_)))
 obtain ⟨D, u, hr⟩ := bd hr
 refine .g1 G (ok0 (tv n g c.A c.B D u)) (.mu 5 (.ca cf0 (.mu 1 (.done (.nh [2, 3, 4, 14] [.own (al.c g), .own (ak.c c), .own zN4] ?_)))))
 refine .cd hr ?_ ?_ <;> intro E hr
 ·refine .seq (.r4 G [4] [(5, ae 6)] (.ret ?_))
  obtain rfl := oi hr
  exact aG.ret (vs := [.agg zN4, ae 6]) (by kernel_rfl) (Sn.tup (SnL.cons (Sn.agg (Sp (SnL.cons Sn.fZ (Sp (SnL.cons Sn.fZ (Sp (SnL.cons Sn.fZ (Sp (SnL.cons Sn.fZ SnL.nil))))))))) (Sp SnL.nil)))
 refine .skip (.seq (.seq ?_))
 obtain ⟨F, w, hr⟩ := bd hr
 refine .g1 G (ok0 (eX n c.At F w)) (.mu 2 (.ca cf0 (.mu 1 (.done (.nh [2, 3, 4, 19] [.own (al.c g), .own (ak.c c), .own zN4] ?_)))))
 refine .cd hr ?_ ?_ <;> intro H hr
 ·refine .seq (.r4 G [4] [(5, ae 1)] (.ret ?_))
  obtain rfl := oi hr
  exact aG.ret (vs := [.agg zN4, ae 1]) (by kernel_rfl) (Sn.tup (SnL.cons (Sn.agg (Sp (SnL.cons Sn.fZ (Sp (SnL.cons Sn.fZ (Sp (SnL.cons Sn.fZ (Sp (SnL.cons Sn.fZ SnL.nil))))))))) (Sp SnL.nil)))
 refine .skip (.seq (.seq ?_))
 replace hr := bd hr; obtain ⟨p, f, hr⟩ := hr
 refine .vY (Q := fun x st' => x = .normal /\ Wk 0 st' ⟨mkS 81 0 [(2, .hp 0 0), (3, .hp 1 0), (4, .hp 2 0), (31, aB p)], [.own (al.c g), .own (ak.c c), .own zN4]⟩) ?_ ?_
 ·clear hr
  have hr := f
  clear f
  obtain ⟨o, j, hr⟩ := bd hr
  rcases bT (decide (o < 0)) with d | d
  ·replace hr := cy d hr
   refine .t1 G (ok0 (bc n c.At o j)) (.mu 2 (.ca cf0 (.pk (v := aB true) (eB d) (.mu 7 ?_))))
   refine .done ⟨by kernel_rfl, ?_⟩
   obtain rfl := oi hr
   exact ⟨rfl, ((Wk.gc [2, 3, 4, 31] kT3 rfl trivial).to)⟩
  replace hr := cz d hr
  obtain ⟨q, s, z, t, hr⟩ := bd2 hr
  refine .tn G (ca1 (ok0 (bc n c.At o j)) (ca1 (ok0 (cu n 1 q s)) (ca3 (ok0 (m7 n c.At q z t))))) (.mu 2 (.ca cf0 (.pk (v := aB false) (eB d) (.mu 3 (.ca (cfF cf0) (.ca (cfF (cfF cf0)) (.mu 2 ?_)))))))
  refine .done ⟨by kernel_rfl, ?_⟩
  obtain rfl := oi hr
  exact ⟨rfl, ((Wk.gc [2, 3, 4, 31] kT3 rfl trivial).to)⟩
 rintro x st' i
 clear f
 obtain ⟨rfl, i⟩ := i
 refine .wk i ?_
 refine .cd hr ?_ ?_ <;> intro C hr
 ·refine .seq (.r4 G [4] [(5, ae 2)] (.ret ?_))
  obtain rfl := oi hr
  exact aG.ret (vs := [.agg zN4, ae 2]) (by kernel_rfl) (Sn.tup (SnL.cons (Sn.agg (Sp (SnL.cons Sn.fZ (Sp (SnL.cons Sn.fZ (Sp (SnL.cons Sn.fZ (Sp (SnL.cons Sn.fZ SnL.nil))))))))) (Sp SnL.nil)))
 refine .skip (.seq (.r4 G [2, 3, 4] [(6, .fn 111 [] [.hp 1 0])] (.seq (.r4 G [2, 3, 4, 6] [(7, ae g.Width)] (.seq (.wk ((Wk.fix 1 (cs := (ak.c c)) (by kernel_rfl)).to (c := ⟨mkS 81 0 [(2, .hp 0 0), (3, .hp 1 0), (4, .hp 2 0), (6, .fn 111 [] [.hp 1 0]), (7, ae g.Width)], [.own (al.c g), .fix (ak.c c), .own zN4]⟩) (by kernel_rfl)) ?_))))))
 obtain ⟨e, hr⟩ := gd hr
 obtain ⟨a, k, b, m, hr⟩ := bd2 hr
 refine .tn G (ca1 (cK (args := [ae (Fc (g.X0 + (Fc ((c.A.tmod g.Width) * g.Step)))), ae (Fc (g.X0 + (Fc ((c.B.tmod g.Width) * g.Step)))), .hp 1 0]) (l := [1]) (Sp (Sp (SnL.cons (Sn.hp rfl (.inr rfl) (SnC.cons (Sn.pure rfl) (SnC.cons (Sn.pure rfl) (SnC.cons (Sn.pure rfl) (SnC.cons (Sn.pure rfl) (SnC.cons (Sn.pure rfl) (SnC.cons (Sn.pure rfl) SnC.nil))))))) SnL.nil))) (nW n (Fc (g.X0 + (Fc ((c.A.tmod g.Width) * g.Step)))) (Fc (g.X0 + (Fc ((c.B.tmod g.Width) * g.Step)))) c.A c.B c.At.Num.Negative c.At.Num.Groups c.At.Den.Negative c.At.Den.Groups a k)) (ca3 (cK (args := [ae (Fc (g.Y0 + (Fc ((Fc (c.A.tdiv g.Width)) * g.Step)))), ae (Fc (g.Y0 + (Fc ((Fc (c.B.tdiv g.Width)) * g.Step)))), .hp 1 0]) (l := [1]) (Sp (Sp (SnL.cons (Sn.hp rfl (.inr rfl) (SnC.cons (Sn.pure rfl) (SnC.cons (Sn.pure rfl) (SnC.cons (Sn.pure rfl) (SnC.cons (Sn.pure rfl) (SnC.cons (Sn.pure rfl) (SnC.cons (Sn.pure rfl) SnC.nil))))))) SnL.nil))) (nW n (Fc (g.Y0 + (Fc ((Fc (c.A.tdiv g.Width)) * g.Step)))) (Fc (g.Y0 + (Fc ((Fc (c.B.tdiv g.Width)) * g.Step)))) c.A c.B c.At.Num.Negative c.At.Num.Groups c.At.Den.Negative c.At.Den.Groups b m)))) (.mu 6 (.pk (v := ae (c.A.tmod g.Width)) (qE (x := c.A) (y := g.Width) (by kernel_rfl) (by kernel_rfl) e) (.mu 9 (.pk (v := ae (c.B.tmod g.Width)) (qE (x := c.B) (y := g.Width) (by kernel_rfl) (by kernel_rfl) e) (.mu 4 (.ca cf0 (.mu 6 (.pk (v := ae (Fc (c.A.tdiv g.Width))) (rh (x := c.A) (y := g.Width) (by kernel_rfl) (by kernel_rfl) e) (.mu 9 (.pk (v := ae (Fc (c.B.tdiv g.Width))) (rh (x := c.B) (y := g.Width) (by kernel_rfl) (by kernel_rfl) e) (.mu 4 (.ca (cfA (fun h => by rw [sv m k (sy n (show ([ae (Fc (g.Y0 + (Fc ((Fc (c.A.tdiv g.Width)) * g.Step)))), ae (Fc (g.Y0 + (Fc ((Fc (c.B.tdiv g.Width)) * g.Step)))), .pp (ak.c c) 0] : List AV) = [ae (Fc (g.X0 + (Fc ((c.A.tmod g.Width) * g.Step)))), ae (Fc (g.X0 + (Fc ((c.B.tmod g.Width) * g.Step)))), .pp (ak.c c) 0] from (congr (congrArg List.cons (List.cons.inj h).1) (congr (congrArg List.cons (List.cons.inj (List.cons.inj h).2).1) (congr (congrArg List.cons rfl) rfl)))))]) cf0) (.mu 3 ?_)))))))))))))
 refine .done ⟨by kernel_rfl, ?_⟩
 refine .nh [4, 5] [.own (al.c g), .fix (ak.c c), .own [aB a.Num.Negative, au a.Num.Groups, aB a.Den.Negative, au a.Den.Groups, aB b.Num.Negative, au b.Num.Groups, aB b.Den.Negative, au b.Den.Groups]] (.ret ?_)
 obtain rfl := oi hr
 exact aG.ret (vs := [.agg [aB a.Num.Negative, au a.Num.Groups, aB a.Den.Negative, au a.Den.Groups, aB b.Num.Negative, au b.Num.Groups, aB b.Den.Negative, au b.Den.Groups], ae 0]) (by kernel_rfl) (Sn.tup (Sp (Sp SnL.nil)))

theorem tl (n : Nat) (g : al) (c : ai) (r : List aJ × Int) (hr : nY n g c = some r) : aL Tryz.prog 59 [.agg (al.c g), .agg (ai.c c)] (.tup [slT aJ.c r.1, ae r.2]) := by
 unfold nY at hr
 refine aL.bd G Tryz.func59 [.tmp 4, .tmp 5] ?_
 unfold Tryz.f59
 simp only [gS]
 refine .seq (.r2 G 33 [(2, .hp 0 0), (3, .hp 1 0)] [.own (al.c g), .own (ai.c c)] (.seq (.r4 G [2, 3] [(6, nS)] (.seq (.seq (.r4 G [2, 6] [(12, slT ak.c c.Points), (13, ae (c.Points.length : Int)), (14, ae 0)] (.block ?_)))))))
 replace hr := bd hr; obtain ⟨k, i, hr⟩ := hr
 refine .aH (σ := fun u => match u with | (b, a) => ⟨mkS 33 0 [(2, .hp 0 0), (6, .hs 1 0 b.length 8), (12, slT ak.c c.Points), (13, ae (c.Points.length : Int)), (14, ae a)], [.own (al.c g), .own (b.flatMap aJ.c)]⟩) (Q := fun x st' => match (generalizing := false) k with | .inl f => x = .exit 0 /\ Wk 0 st' ⟨mkS 33 0 [(6, .hs 0 0 f.length 8)], [.own (f.flatMap aJ.c)]⟩ | .inr (r0) => x = .ret /\ aG Tryz.prog [.tmp 4, .tmp 5] (.tup [slT aJ.c r0.1, ae r0.2]) .ret st') i ((Wk.nil 6 8 (by kernel_rfl)).trans ((Wk.gc [2, 6, 12, 13, 14] [(0, true), (2, false)] rfl (pKt (pKc trivial))).to)) ?_ ?_
 ·clear hr
  rintro m ⟨b, a⟩ hr
  show CQ _ _ _ _ _ ⟨_, _⟩
  refine .seq (.r4 G [2, 6, 12, 13, 14] [(15, aB (decide (a < (c.Points.length : Int))))] (.seq ?_))
  refine .cd hr ?_ ?_ <;> intro s hr
  ·refine .skip (.seq (.block (.seq ?_)))
   obtain ⟨j, hr⟩ := gd hr
   refine .r0 G (.p0 (v := .pp (c.Points.flatMap ak.c) (a.toNat * 6)) (tr (ar j)) (.p0 (v := .agg (ak.c (gt c.Points a))) (tr (y := bu.ofP (dR (decide (6 <= ((c.Points.flatMap ak.c).drop (a.toNat * 6)).length)) (.agg (((c.Points.flatMap ak.c).drop (a.toNat * 6)).take 6)))) (bO ak.len (aA j) (by decide) (by omega : a.toNat * 6 = a.toNat * 6 + 0) (by kernel_rfl))) (.mu 2 (.done (.nh [2, 6, 8, 12, 13, 14] [.own (al.c g), .own (b.flatMap aJ.c), .own (ak.c (gt c.Points a))] (.seq ?_))))))
   obtain ⟨d, o, hr⟩ := bd hr
   refine .g1 G (ok0 (ur n g (gt c.Points a) d o)) (.mu 2 (.ca cf0 (.mu 6 (.done (.nh [2, 6, 9, 10, 12, 13, 14] [.own (al.c g), .own (b.flatMap aJ.c), .own (ak.c (gt c.Points a)), .own (aJ.c d.1)] (.seq (.seq (.r4 G [2, 6, 9, 10, 12, 13, 14] [(25, aB ((d.2 : Int) != 0))] ?_))))))))
   refine .cd hr ?_ ?_ <;> intro t hr
   ·refine .seq (.r3 G 33 [(4, nS), (5, ae d.2)] (.ret ?_))
    obtain rfl := oi hr
    exact ⟨rfl, aG.ret (vs := [nS, ae d.2]) (by kernel_rfl) (Sn.tup (SnL.cons Sn.fZ (Sp SnL.nil)))⟩
   refine .skip ?_
   obtain ⟨p, q, hr⟩ := gd2 hr
   refine .r0 G (.mu 3 (.e0 (v := .hs 5 0 (b ++ [d.1]).length 8) (ws := [(1, .dead), (5, .own ((b ++ [d.1]).flatMap aJ.c))]) (tr (eM (new := (aJ.c d.1)) (l := b) (xs := [d.1]) aJ.len rfl rfl (by kernel_rfl) p q)) (.mu 1 (.done (.pop (.ru G ?_))))))
   exact az (b ++ [d.1], Fc (a + 1)) hr ((Wk.gc [2, 6, 12, 13, 14] [(0, true), (5, false)] rfl (pKt (pKo aJ.c aJ.pure (b ++ [d.1]) trivial))).to)
  refine .leave rfl ?_
  obtain rfl := oi hr
  exact ⟨rfl, ((Wk.gc [6] [(1, false)] rfl (pKo aJ.c aJ.pure b trivial)).to)⟩
 rcases k with f | r0
 ·rintro x st' e
  clear i
  obtain ⟨rfl, e⟩ := e
  refine aQ _ rfl (.wk e (.seq (.r3 G 33 [(4, .hs 0 0 f.length 8), (5, ae 0)] (.ret ?_))))
  obtain rfl := oi hr
  exact aG.ret (vs := [.hs 0 0 f.length 8, ae 0]) (by kernel_rfl) (Sn.tup (SnL.cons (Sn.hs rfl (.inl rfl) (SnC.pure (aW aJ.pure _)) (fun h => cG h)) (Sp SnL.nil)))
 rintro x st' e
 clear i
 obtain ⟨rfl, e⟩ := e
 obtain rfl := oi hr
 exact iT _ e

theorem sq (n : Nat) (polygon : List aJ) (o : aJ) (r : Int × Bool) (hr : mV n polygon o = some r) : aL Tryz.prog 60 [slT aJ.c polygon, .agg (aJ.c o)] (.tup [ae r.1, aB r.2]) := by
 unfold mV at hr
 refine aL.bd G Tryz.func60 [.tmp 4, .tmp 5] ?_
 unfold Tryz.f60
 simp only [gS]
 refine .seq (.r5 G [0] [(3, .hp 0 0)] [.own (aJ.c o)] (.seq (.r4 G [0, 3] [(6, ae 0)] (.seq (.seq (.r4 G [0, 3, 6] [(17, slT aJ.c polygon), (18, ae (polygon.length : Int)), (19, ae 0)] (.block ?_)))))))
 replace hr := bd hr; obtain ⟨E, s, hr⟩ := hr
 refine .aH (σ := fun z0 => match z0 with | (j, a) => ⟨mkS 105 0 [(0, slT aJ.c polygon), (3, .hp 0 0), (6, ae j), (17, slT aJ.c polygon), (18, ae (polygon.length : Int)), (19, ae a)], [.own (aJ.c o)]⟩) (Q := fun x st' => match (generalizing := false) E with | .inl w => x = .exit 0 /\ Wk 0 st' ⟨mkS 105 0 [(6, ae w)], []⟩ | .inr (r0) => x = .ret /\ aG Tryz.prog [.tmp 4, .tmp 5] (.tup [ae r0.1, aB r0.2]) .ret st') s ((Wk.gc [0, 3, 6, 17, 18, 19] [(0, true)] rfl trivial).to) ?_ ?_
 ·clear hr
  rintro m ⟨j, a⟩ hr
  show CQ _ _ _ _ _ ⟨_, _⟩
  refine .seq (.r4 G [0, 3, 6, 17, 18, 19] [(20, aB (decide (a < (polygon.length : Int))))] (.seq ?_))
  refine .cd hr ?_ ?_ <;> intro jN hr
  ·refine .skip (.seq (.block (.seq ?_)))
   obtain ⟨F, hr⟩ := gd hr
   refine .r0 G (.mu 1 (.p0 (v := .pp (polygon.flatMap aJ.c) (a.toNat * 8)) (tr (ar F)) (.p0 (v := .agg (aJ.c (gt polygon a))) (tr (y := bu.ofP (dR (decide (8 <= ((polygon.flatMap aJ.c).drop (a.toNat * 8)).length)) (.agg (((polygon.flatMap aJ.c).drop (a.toNat * 8)).take 8)))) (bO aJ.len (aA F) (by decide) (by omega : a.toNat * 8 = a.toNat * 8 + 0) (by kernel_rfl))) (.mu 3 (.done (.nh [0, 3, 6, 7, 8, 17, 18, 19] [.own (aJ.c o), .own (aJ.c (gt polygon a))] (.seq ?_)))))))
   obtain ⟨V, H, hr⟩ := gd2 hr
   refine .r0 G (.mu 5 (.p0 (v := ae ((Fc (a + 1)).tmod (polygon.length : Int))) (qE (x := Fc (a + 1)) (y := (polygon.length : Int)) (by kernel_rfl) (by kernel_rfl) V) (.p0 (v := .pp (polygon.flatMap aJ.c) (((Fc (a + 1)).tmod (polygon.length : Int)).toNat * 8)) (tr (ar H)) (.p0 (v := .agg (aJ.c (gt polygon ((Fc (a + 1)).tmod (polygon.length : Int))))) (tr (y := bu.ofP (dR (decide (8 <= ((polygon.flatMap aJ.c).drop (((Fc (a + 1)).tmod (polygon.length : Int)).toNat * 8)).length)) (.agg (((polygon.flatMap aJ.c).drop (((Fc (a + 1)).tmod (polygon.length : Int)).toNat * 8)).take 8)))) (bO aJ.len (aA H) (by decide) (by omega : ((Fc (a + 1)).tmod (polygon.length : Int)).toNat * 8 = ((Fc (a + 1)).tmod (polygon.length : Int)).toNat * 8 + 0) (by kernel_rfl))) (.mu 2 (.done (.nh [0, 3, 6, 8, 9, 17, 18, 19] [.own (aJ.c o), .own (aJ.c (gt polygon a)), .own (aJ.c (gt polygon ((Fc (a + 1)).tmod (polygon.length : Int))))] (.seq ?_))))))))
   obtain ⟨k, I, d, J, hr⟩ := bd2 hr
   refine .tn G (ca1 (ok0 (ew n (gt polygon a).X o.X k I)) (ca3 (ok0 (ew n (gt polygon a).Y o.Y d J)))) (.mu 4 (.ca cf0 (.mu 4 (.ca (cfA (fun h => by rw [sv J I (mP n h)]) cf0) (.mu 4 ?_)))))
   refine .done ⟨by kernel_rfl, ?_⟩
   refine .nh [0, 3, 6, 9, 10, 11, 17, 18, 19] [.own (aJ.c o), .own (aJ.c (gt polygon a)), .own (aJ.c (gt polygon ((Fc (a + 1)).tmod (polygon.length : Int)))), .own (ag.c k), .own (ag.c d)] (.seq ?_)
   obtain ⟨t, L, f, M, hr⟩ := bd2 hr
   refine .tn G (ca1 (ok0 (ew n (gt polygon ((Fc (a + 1)).tmod (polygon.length : Int))).X o.X t L)) (ca3 (ok0 (ew n (gt polygon ((Fc (a + 1)).tmod (polygon.length : Int))).Y o.Y f M)))) (.mu 4 (.ca cf0 (.mu 4 (.ca (cfA (fun h => by rw [sv M L (mP n h)]) cf0) (.mu 4 ?_)))))
   refine .done ⟨by kernel_rfl, ?_⟩
   refine .nh [0, 3, 6, 10, 11, 12, 13, 17, 18, 19] [.own (aJ.c o), .own (aJ.c (gt polygon a)), .own (aJ.c (gt polygon ((Fc (a + 1)).tmod (polygon.length : Int)))), .own (ag.c k), .own (ag.c d), .own (ag.c t), .own (ag.c f)] (.seq ?_)
   obtain ⟨W, N, Z, O, gU, iV, hr⟩ := bd3 hr
   obtain ⟨B, jS, hr⟩ := bd hr
   refine .tn G (ca1 (ok0 (dG n k f W N)) (ca1 (ok0 (dG n d t Z O)) (ca1 (ok0 (ew n W Z gU iV)) (ca3 (ok0 (bc n gU B jS)))))) (.mu 2 (.ca cf0 (.mu 2 (.ca (cfA (fun h => by rw [sv O N (mX n h)]) cf0) (.ca (cfF (cfF cf0)) (.ca (cfF (cfF (cfF cf0))) (.mu 1 ?_)))))))
   refine .done ⟨by kernel_rfl, ?_⟩
   refine .nh [0, 3, 6, 10, 11, 12, 13, 14, 17, 18, 19] [.own (aJ.c o), .own (aJ.c (gt polygon a)), .own (aJ.c (gt polygon ((Fc (a + 1)).tmod (polygon.length : Int)))), .own (ag.c k), .own (ag.c d), .own (ag.c t), .own (ag.c f)] (.seq (.seq ?_))
   replace hr := bd hr; obtain ⟨kb, u, hr⟩ := hr
   refine .DN (Q := fun x st' => match (generalizing := false) kb with | .inl _ => x = .normal /\ Wk 0 st' ⟨mkS 105 0 [(0, slT aJ.c polygon), (3, .hp 0 0), (6, ae j), (11, .hp 1 0), (13, .hp 2 0), (14, ae B), (17, slT aJ.c polygon), (18, ae (polygon.length : Int)), (19, ae a)], [.own (aJ.c o), .own (ag.c d), .own (ag.c f)]⟩ | .inr (r0) => x = .ret /\ aG Tryz.prog [.tmp 4, .tmp 5] (.tup [ae r0.1, aB r0.2]) .ret st') ?_ ?_
   ·clear hr
    have hr := u
    clear u
    rcases bT ((B : Int) == 0) with l | l
    ·replace hr := cy l hr
     obtain ⟨jW, R, ki, S, kE, lP, hr⟩ := bd3 hr
     obtain ⟨iZ, lE, hr⟩ := bd hr
     refine .tn G (ca1 (ok0 (dG n k t jW R)) (ca1 (ok0 (dG n d f ki S)) (ca1 (ok0 (de n jW ki kE lP)) (ca3 (ok0 (bc n kE iZ lE)))))) (.mu 1 (.pk (v := aB true) (eB l) (.mu 3 (.ca cf0 (.mu 2 (.ca (cfA (fun h => by rw [sv S R (mX n h)]) cf0) (.ca (cfF (cfF cf0)) (.ca (cfF (cfF (cfF cf0))) (.mu 2 ?_)))))))))
     refine .done ⟨by kernel_rfl, ?_⟩
     refine .nh [0, 3, 6, 11, 13, 14, 17, 18, 19, 72] [.own (aJ.c o), .own (aJ.c (gt polygon a)), .own (aJ.c (gt polygon ((Fc (a + 1)).tmod (polygon.length : Int)))), .own (ag.c k), .own (ag.c d), .own (ag.c t), .own (ag.c f)] ?_
     refine .cd hr ?_ ?_ <;> intro ko hr
     ·refine .seq (.ru G (.ret ?_))
      obtain rfl := oi hr
      exact ⟨rfl, aG.ret (vs := [ae 0, aB true]) (by kernel_rfl) (Sn.tup (Sp (Sp SnL.nil)))⟩
     refine .skip ?_
     obtain rfl := oi hr
     exact ⟨rfl, ((Wk.gc [0, 3, 6, 11, 13, 14, 17, 18, 19] [(0, true), (4, true), (6, true)] rfl trivial).to)⟩
    replace hr := cz l hr
    refine .eu G bJ (.mu 1 (.pk (v := aB false) (eB l) (.mu 11 ?_)))
    refine .done ⟨by kernel_rfl, ?_⟩
    refine .nh [0, 3, 6, 11, 13, 14, 17, 18, 19, 72] [.own (aJ.c o), .own (aJ.c (gt polygon a)), .own (aJ.c (gt polygon ((Fc (a + 1)).tmod (polygon.length : Int)))), .own (ag.c k), .own (ag.c d), .own (ag.c t), .own (ag.c f)] (.cF (by kernel_rfl) (.skip ?_))
    obtain rfl := oi hr
    exact ⟨rfl, ((Wk.gc [0, 3, 6, 11, 13, 14, 17, 18, 19] [(0, true), (4, true), (6, true)] rfl trivial).to)⟩
   rcases kb with ⟨⟩ | r0
   ·rintro x st' e
    clear u
    obtain ⟨rfl, e⟩ := e
    refine .wk e (.seq ?_)
    obtain ⟨C, T, D, U, hr⟩ := bd2 hr
    refine .tn G (ca1 (ok0 (bc n d C T)) (ca3 (ok0 (bc n f D U)))) (.mu 1 (.ca cf0 (.mu 2 (.ca (cfA (fun h => by rw [sv U T (fo n h)]) cf0) (.mu 3 ?_)))))
    refine .done ⟨by kernel_rfl, ?_⟩
    refine .nh [0, 3, 6, 14, 15, 16, 17, 18, 19] [.own (aJ.c o), .own (ag.c d), .own (ag.c f)] (.block (.seq ?_))
    replace hr := bd hr; obtain ⟨mM, z, hr⟩ := hr
    refine .vY (Q := fun x st' => x = .normal /\ Wk 0 st' ⟨mkS 105 0 [(0, slT aJ.c polygon), (3, .hp 0 0), (6, ae j), (14, ae B), (15, aB (decide (C <= 0))), (16, aB (decide (D <= 0))), (17, slT aJ.c polygon), (18, ae (polygon.length : Int)), (19, ae a), (79, aB mM)], [.own (aJ.c o)]⟩) ?_ ?_
    ·clear hr
     have hr := z
     clear z
     rcases bT (decide (C <= 0)) with g | g
     ·replace hr := cy g hr
      rcases bT (!(decide (D <= 0))) with p | p
      ·replace hr := cy p hr
       refine .r0 G (.p0 (v := aB true) (eB g) (.mu 2 (.pure (v := aB true) (by kernel_rfl) (eB p) (.mu 6 (.done ?_)))))
       obtain rfl := oi hr
       exact ⟨rfl, ((Wk.gc [0, 3, 6, 14, 15, 16, 17, 18, 19, 79] [(0, true)] rfl trivial).to)⟩
      replace hr := cz p hr
      refine .r0 G (.p0 (v := aB true) (eB g) (.mu 2 (.pure (v := aB false) (by kernel_rfl) (eB p) (.mu 6 (.done ?_)))))
      obtain rfl := oi hr
      exact ⟨rfl, ((Wk.gc [0, 3, 6, 14, 15, 16, 17, 18, 19, 79] [(0, true)] rfl trivial).to)⟩
     replace hr := cz g hr
     refine .r0 G (.p0 (v := aB false) (eB g) (.mu 9 (.done ?_)))
     obtain rfl := oi hr
     exact ⟨rfl, ((Wk.gc [0, 3, 6, 14, 15, 16, 17, 18, 19, 79] [(0, true)] rfl trivial).to)⟩
    rintro x st' A
    clear z
    obtain ⟨rfl, A⟩ := A
    refine .wk A ?_
    refine .cd hr ?_ ?_ <;> intro ky hr
    ·refine .ru G (.pop (.pop (.ru G ?_)))
     exact az (Fc (j + 1), Fc (a + 1)) hr ((Wk.gc [0, 3, 6, 17, 18, 19] [(0, true)] rfl trivial).to)
    refine .seq ?_
    rcases bT (!(decide (C <= 0))) with i | i
    ·replace hr := cy i hr
     rcases bT (decide (D <= 0)) with q | q
     ·replace hr := cy q hr
      refine .r0 G (.mu 1 (.p0 (v := aB true) (eB i) (.mu 1 (.pure (v := aB true) (by kernel_rfl) (eB q) (.mu 6 (.done (.nh [0, 3, 6, 17, 18, 19, 91] [.own (aJ.c o)] ?_)))))))
      refine .cd hr ?_ ?_ <;> intro jQ hr
      ·refine .ru G (.pop (.pop (.ru G ?_)))
       exact az (Fc (j - 1), Fc (a + 1)) hr ((Wk.gc [0, 3, 6, 17, 18, 19] [(0, true)] rfl trivial).to)
      refine .skip (.pop (.pop (.ru G ?_)))
      exact az (j, Fc (a + 1)) hr ((Wk.gc [0, 3, 6, 17, 18, 19] [(0, true)] rfl trivial).to)
     replace hr := cz q hr
     refine .r0 G (.mu 1 (.p0 (v := aB true) (eB i) (.mu 1 (.pure (v := aB false) (by kernel_rfl) (eB q) (.mu 6 (.done (.nh [0, 3, 6, 17, 18, 19, 91] [.own (aJ.c o)] (.cF (by kernel_rfl) (.skip (.pop (.pop (.ru G ?_))))))))))))
     exact az (j, Fc (a + 1)) hr ((Wk.gc [0, 3, 6, 17, 18, 19] [(0, true)] rfl trivial).to)
    replace hr := cz i hr
    refine .r0 G (.mu 1 (.p0 (v := aB false) (eB i) (.mu 8 (.done (.nh [0, 3, 6, 17, 18, 19, 91] [.own (aJ.c o)] (.cF (by kernel_rfl) (.skip (.pop (.pop (.ru G ?_))))))))))
    exact az (j, Fc (a + 1)) hr ((Wk.gc [0, 3, 6, 17, 18, 19] [(0, true)] rfl trivial).to)
   rintro x st' e
   clear u
   obtain ⟨rfl, e⟩ := e
   obtain rfl := oi hr
   exact iT _ ⟨rfl, e⟩
  refine .leave rfl ?_
  obtain rfl := oi hr
  exact ⟨rfl, ((Wk.gc [6] [] rfl pK0).to)⟩
 rcases E with w | r0
 ·rintro x st' b
  clear s
  obtain ⟨rfl, b⟩ := b
  refine aQ _ rfl (.wk b (.seq (.ru G (.ret ?_))))
  obtain rfl := oi hr
  exact aG.ret (vs := [ae w, aB false]) (by kernel_rfl) (Sn.tup (Sp (Sp SnL.nil)))
 rintro x st' b
 clear s
 obtain ⟨rfl, b⟩ := b
 obtain rfl := oi hr
 exact iT _ b

theorem ui (n : Nat) (g : al) (l : ai) (i : Int) (j : Int) (r : Int × Int) (hr : oz n g l i j = some r) : aL Tryz.prog 22 [.agg (al.c g), .agg (ai.c l), ae i, ae j] (.tup [ae r.1, ae r.2]) := by
 unfold oz at hr
 refine aL.bd G Tryz.func22 [.tmp 8, .tmp 9] ?_
 unfold Tryz.f22
 simp only [gS]
 refine .seq (.r5 G [2, 3] [(4, .hp 0 0), (5, .hp 1 0)] [.own (al.c g), .own (ai.c l)] (.seq (.seq ?_)))
 obtain ⟨y, z, hr⟩ := bd hr
 refine .g1 G (ok0 (oQ n g y z)) (.mu 1 (.ca cf0 (.mu 1 (.done (.nh [2, 3, 4, 5, 10] [.own (al.c g), .own (ai.c l)] (.seq (.r4 G [2, 3, 4, 5, 10] [(18, aB ((y : Int) != 0))] ?_)))))))
 refine .cd hr ?_ ?_ <;> intro F hr
 ·refine .seq (.ru G (.ret ?_))
  obtain rfl := oi hr
  exact aG.ret (vs := [ae 0, ae y]) (by kernel_rfl) (Sn.tup (Sp (Sp SnL.nil)))
 refine .skip (.seq (.seq ?_))
 replace hr := bd hr; obtain ⟨A, e, hr⟩ := hr
 refine .vY (Q := fun x st' => x = .normal /\ Wk 0 st' ⟨mkS 79 0 [(2, ae i), (3, ae j), (4, .hp 0 0), (5, .hp 1 0), (37, aB A)], [.own (al.c g), .own (ai.c l)]⟩) ?_ ?_
 ·clear hr
  have hr := e
  clear e
  rcases bT (decide (i < 0)) with b | b
  ·replace hr := cy b hr
   refine .r0 G (.mu 1 (.p0 (v := aB true) (eB b) (.mu 16 (.done ?_))))
   obtain rfl := oi hr
   exact ⟨rfl, ((Wk.gc [2, 3, 4, 5, 37] [(0, true), (1, true)] rfl trivial).to)⟩
  replace hr := cz b hr
  rcases bT (decide (i >= g.Width)) with d | d
  ·replace hr := cy d hr
   refine .r0 G (.mu 1 (.p0 (v := aB false) (eB b) (.mu 4 (.pure (v := aB true) (by kernel_rfl) (eB d) (.mu 11 (.done ?_))))))
   obtain rfl := oi hr
   exact ⟨rfl, ((Wk.gc [2, 3, 4, 5, 37] [(0, true), (1, true)] rfl trivial).to)⟩
  replace hr := cz d hr
  rcases bT (decide (j < 0)) with f | f
  ·replace hr := cy f hr
   refine .r0 G (.mu 1 (.p0 (v := aB false) (eB b) (.mu 4 (.pure (v := aB false) (by kernel_rfl) (eB d) (.mu 3 (.pure (v := aB true) (by kernel_rfl) (eB f) (.mu 7 (.done ?_))))))))
   obtain rfl := oi hr
   exact ⟨rfl, ((Wk.gc [2, 3, 4, 5, 37] [(0, true), (1, true)] rfl trivial).to)⟩
  replace hr := cz f hr
  refine .r0 G (.mu 1 (.p0 (v := aB false) (eB b) (.mu 4 (.pure (v := aB false) (by kernel_rfl) (eB d) (.mu 3 (.pure (v := aB false) (by kernel_rfl) (eB f) (.mu 7 (.done ?_))))))))
  obtain rfl := oi hr
  exact ⟨rfl, ((Wk.gc [2, 3, 4, 5, 37] [(0, true), (1, true)] rfl trivial).to)⟩
 rintro x st' k
 clear e
 obtain ⟨rfl, k⟩ := k
 refine .wk k ?_
 refine .cd hr ?_ ?_ <;> intro B hr
 ·refine .seq (.ru G (.ret ?_))
  obtain rfl := oi hr
  exact aG.ret (vs := [ae 0, ae 2]) (by kernel_rfl) (Sn.tup (Sp (Sp SnL.nil)))
 refine .skip (.seq (.seq (.r4 G [2, 3, 4, 5] [(40, aB (!l.Closed))] ?_)))
 refine .cd hr ?_ ?_ <;> intro C hr
 ·refine .seq (.ru G (.ret ?_))
  obtain rfl := oi hr
  exact aG.ret (vs := [ae 0, ae 11]) (by kernel_rfl) (Sn.tup (Sp (Sp SnL.nil)))
 refine .skip (.seq ?_)
 obtain ⟨m, s, hr⟩ := bd hr
 refine .g1 G (ok0 (tl n g l m s)) (.mu 2 (.ca cf0 (.mu 5 (.done (.nh [2, 3, 4, 11, 12] [.own (al.c g), .own (ai.c l)] (.seq (.seq (.r4 G [2, 3, 4, 11, 12] [(48, aB ((m.2 : Int) != 0))] ?_))))))))
 refine .cd hr ?_ ?_ <;> intro D hr
 ·refine .seq (.ru G (.ret ?_))
  obtain rfl := oi hr
  exact aG.ret (vs := [ae 0, ae m.2]) (by kernel_rfl) (Sn.tup (Sp (Sp SnL.nil)))
 refine .skip (.seq ?_)
 obtain ⟨t, o, u, p, q, w, hr⟩ := bd3 hr
 refine .tn G (ca1 (ok0 (cu n (Fc (g.X0 + (Fc (i * g.Step)))) t o)) (ca1 (ok0 (cu n (Fc (g.Y0 + (Fc (j * g.Step)))) u p)) (ca3 (ok0 (sq n m.1 (aJ.mk t u) q w))))) (.mu 8 (.ca cf0 (.mu 7 (.ca (cfA (fun h => by rw [sv p o (oh n h)]) cf0) (.mu 1 (.ca (cfF (cfF cf0)) (.mu 5 ?_)))))))
 refine .done ⟨by kernel_rfl, ?_⟩
 refine .nh [11, 13, 14] [.own (al.c g), .own (ai.c l)] (.seq (.seq ?_))
 rcases bT q.2 with a | a
 ·replace hr := cy a hr
  refine .r0 G (.p0 (v := aB true) (eB a) (.mu 5 (.done (.nh [13, 77] [.own (al.c g), .own (ai.c l)] (.cT (by kernel_rfl) (.seq (.ru G (.ret ?_))))))))
  obtain rfl := oi hr
  exact aG.ret (vs := [ae 0, ae 13]) (by kernel_rfl) (Sn.tup (Sp (Sp SnL.nil)))
 replace hr := cz a hr
 refine .r0 G (.p0 (v := aB false) (eB a) (.mu 5 (.done (.nh [13, 77] [.own (al.c g), .own (ai.c l)] ?_))))
 refine .cd hr ?_ ?_ <;> intro E hr
 ·refine .seq (.ru G (.ret ?_))
  obtain rfl := oi hr
  exact aG.ret (vs := [ae 0, ae 13]) (by kernel_rfl) (Sn.tup (Sp (Sp SnL.nil)))
 refine .skip (.seq (.ru G (.ret ?_)))
 obtain rfl := oi hr
 exact aG.ret (vs := [ae q.1, ae 0]) (by kernel_rfl) (Sn.tup (Sp (Sp SnL.nil)))
end Go.L
