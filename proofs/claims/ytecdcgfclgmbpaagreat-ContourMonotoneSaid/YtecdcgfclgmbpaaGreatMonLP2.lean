
import Derived.Test.YtecdcgfclgmbpaaGreatMonLP1
import Derived.Test.YtecdcgfclgmbpaaGreatL0Mons
import Derived.Test.YtecdcgfclgmbpaaGreatChecked
import Derived.KernelRfl
set_option linter.all false
set_option maxRecDepth 100000
set_option maxHeartbeats 4000000
namespace Go.L
open Go Go.Eng Go.Proofs
theorem uV (n : Nat) (num : ah) (den : ah) (r : ai × Int) (hr : lO n num den = some r) : aL Tryz.prog 157 [.agg (ah.c num), .agg (ah.c den)] (.tup [.agg (ai.c r.1), ae r.2]) := by
 unfold lO at hr
 refine aL.bd G Tryz.func157 [.cell 4 42, .tmp 5] ?_
 unfold Tryz.f157
 simp only [gS]
 refine .seq (.r2 G 17 [(2, .hp 0 0), (3, .hp 1 0), (4, .hp 2 0)] [.own (ah.c num), .own (ah.c den), .own zN2] (.seq ?_))
 obtain ⟨b, d, a, e, hr⟩ := bd2 hr
 refine .tn G (ca1 (ok0 (nd n num b d)) (ca3 (ok0 (nd n den a e)))) (.mu 1 (.ca cf0 (.mu 1 (.ca (cfA (fun h => by rw [sv e d (rN n h)]) cf0) (.mu 2 ?_)))))
 refine .done ⟨by kernel_rfl, ?_⟩
 refine .nh [2, 3, 4] [.own (ah.c b), .own (ah.c a), .own zN2] (.seq (.seq ?_))
 obtain ⟨j, f, hr⟩ := bd hr
 refine .g1 G (ok0 (fM n a j f)) (.mu 1 (.ca cf0 (.mu 1 (.done (.nh [2, 3, 4, 12] [.own (ah.c b), .own (ah.c a), .own zN2] ?_)))))
 refine .cd hr ?_ ?_ <;> intro k hr
 ·refine .seq (.r4 G [4] [(5, ae 14)] (.ret ?_))
  obtain rfl := oi hr
  exact aK.ret (vs := [.agg zN2, ae 14]) (by kernel_rfl) (Sn.tup (SnL.cons (Sn.agg (Sp (SnL.cons Sn.fR (Sp (SnL.cons Sn.fR SnL.nil))))) (Sp SnL.nil)))
 refine .skip (.seq ?_)
 obtain ⟨g, i, hr⟩ := bd hr
 refine .g1 G (ok0 (iw n b a g i)) (.mu 2 (.ca cf0 (.mu 2 (.done (.nh [4, 5] [.own (ah.c b), .own (ah.c a), .own (ai.c g)] (.ret ?_))))))
 obtain rfl := oi hr
 exact aK.ret (vs := [.agg (ai.c g), ae 0]) (by kernel_rfl) (Sn.tup (Sp (Sp SnL.nil)))

theorem eJ (n : Nat) (f : Int) (d : Int) (r : ai × Int) (hr : dS n f d = some r) : aL Tryz.prog 118 [ae f, ae d] (.tup [.agg (ai.c r.1), ae r.2]) := by
 unfold dS at hr
 refine aL.bd G Tryz.func118 [.cell 4 42, .tmp 5] ?_
 unfold Tryz.f118
 simp only [gS]
 refine .seq (.r5 G [0, 1] [(4, .hp 0 0)] [.own zN2] (.seq ?_))
 obtain ⟨i, a, j, b, e, g, hr⟩ := bd3 hr
 refine .gn G (ca1 (ok0 (jy n f i a)) (ca1 (ok0 (jy n d j b)) (ca3 (ok0 (uV n i j e g))))) (.mu 1 (.ca cf0 (.mu 1 (.ca (cfA (fun h => by rw [sv b a (rP n h)]) cf0) (.ca (cfF (cfF cf0)) (.mu 4 (.done (.nh [4, 5] [.own (ai.c e.1)] (.ret ?_)))))))))
 obtain rfl := oi hr
 exact aK.ret (vs := [.agg (ai.c e.1), ae e.2]) (by kernel_rfl) (Sn.tup (Sp (Sp SnL.nil)))

theorem rM (n : Nat) (g : al) (level : Int) (e : A2 Int) (r : ak) (hr : mf n g level e = some r) : aL Tryz.prog 94 [.agg (al.c g), ae level, .agg (aj.c e)] (.agg (ak.c r)) := by
 unfold mf at hr
 refine aL.bd G Tryz.func94 [.cell 6 44] ?_
 unfold Tryz.f94
 simp only [gS]
 refine .seq (.r5 G [1] [(3, .hp 0 0), (5, .hp 1 0), (6, .hp 2 0)] [.own (al.c g), .own (aj.c e), .own [ae 0, ae 0, aB false, nS, aB false, nS]] (.seq ?_))
 obtain ⟨b, d, hr⟩ := gd2 hr
 refine .dZ G bI (.mu 4 (.pk (v := .pp (g.Z.flatMap (iC .i64)) (e.e0.toNat * 1)) (tr (au b)) (.pk (v := ae (gt g.Z e.e0)) (tr (aG (aH (aE .i64) (aC b) z1 (by omega : e.e0.toNat * 1 = e.e0.toNat * 1 + 0) (by kernel_rfl)))) (.mu 4 (.pk (v := .pp (g.Z.flatMap (iC .i64)) (e.e1.toNat * 1)) (tr (au d)) (.pk (v := ae (gt g.Z e.e1)) (tr (aG (aH (aE .i64) (aC d) z1 (by omega : e.e1.toNat * 1 = e.e1.toNat * 1 + 0) (by kernel_rfl)))) (.mu 2 ?_)))))))
 refine .done ⟨by kernel_rfl, ?_⟩
 refine .nh [1, 5, 6, 7, 8] [.own (al.c g), .own (aj.c e), .own [ae 0, ae 0, aB false, nS, aB false, nS]] (.seq ?_)
 obtain ⟨a, f, hr⟩ := bd hr
 refine .g1 G (ok0 (eJ n (Fj (level - (Fj (2 * (gt g.Z e.e0))))) (Fj (2 * (Fj ((gt g.Z e.e1) - (gt g.Z e.e0))))) a f)) (.mu 8 (.ca cf0 (.mu 6 (.done (.nh [5, 6, 9] [.own (al.c g), .own (aj.c e), .own [ae 0, ae 0, aB false, nS, aB false, nS], .own (ai.c a.1)] (.seq (.r5 G [6] [] [.own (al.c g), .own (aj.c e), .own [ae e.e0, ae e.e1, aB a.1.Num.Negative, an a.1.Num.Groups, aB a.1.Den.Negative, an a.1.Den.Groups], .own (ai.c a.1)] (.ret ?_))))))))
 obtain rfl := oi hr
 exact aK.r1 [.agg [ae e.e0, ae e.e1, aB a.1.Num.Negative, an a.1.Num.Groups, aB a.1.Den.Negative, an a.1.Den.Groups]]

theorem mH (n : Nat) (start : A2 Int) (closed : Bool) (p : List (A2 Int × Bool)) (D : Int) (C : Int) (u : Int) (t : Int) (o : Int) (k : List Int) (g : Int) (d : List (A2 Int × A2 Int)) (a : List ag) (r : List (A2 Int × Bool) × List ag) (hr : fF n start closed p D C u t o k g d a = some r) : dk 5 Tryz.prog 93 [.agg (aj.c start), aB closed, .hp 0 0, .hp 1 0, .hp 2 0, .hp 3 0, .hp 4 0] [.own [.mp 5], .own [ae D, ae C, ae u, ae t, ae o, bf k], .own [ae g], .own [.mp 6], .own [.hs 7 0 a.length 2], .map (p.map (mpK av.K bA)), .map (d.map (mpK av.K (gA aj.c))), .own (a.flatMap ag.c)] (.tup []) [.own [.mp 5], .own [ae D, ae C, ae u, ae t, ae o, bf k], .own [ae g], .own [.mp 6], .own [.hs 7 0 r.2.length 2], .map (r.1.map (mpK av.K bA)), .map (d.map (mpK av.K (gA aj.c))), .own (r.2.flatMap ag.c)] := by
 unfold fF at hr
 refine dk.kp G Tryz.func93 (c := (Tryz.f93.body).getD .skip) rfl (us := []) (s := mkS 46 0 [(0, .agg (aj.c start)), (1, aB closed), (2, .hp 0 0), (3, .hp 1 0), (4, .hp 2 0), (5, .hp 3 0), (6, .hp 4 0)]) (by kernel_rfl) (rs := []) rfl ?_
 unfold Tryz.f93
 simp only [gS]
 refine .seq (.r5 G [1, 2, 3, 4, 5, 6] [(7, .hp 8 0)] [.own [.mp 5], .own [ae D, ae C, ae u, ae t, ae o, bf k], .own [ae g], .own [.mp 6], .own [.hs 7 0 a.length 2], .map (p.map (mpK av.K bA)), .map (d.map (mpK av.K (gA aj.c))), .own (a.flatMap ag.c), .own (aj.c start)] (.scope (.seq (.r5 G [2, 3, 4, 5, 6, 7] [(9, .hp 9 0)] [.own [.mp 5], .own [ae D, ae C, ae u, ae t, ae o, bf k], .own [ae g], .own [.mp 6], .own [.hs 7 0 a.length 2], .map (p.map (mpK av.K bA)), .map (d.map (mpK av.K (gA aj.c))), .own (a.flatMap ag.c), .own (aj.c start), .own [aB closed, nS]] (.seq (.label (.seq (.seq (.r5 G [2, 3, 4, 5, 6, 9] [(10, .hp 10 0)] [.own [.mp 5], .own [ae D, ae C, ae u, ae t, ae o, bf k], .own [ae g], .own [.mp 6], .own [.hs 7 0 a.length 2], .map (p.map (mpK av.K bA)), .map (d.map (mpK av.K (gA aj.c))), .own (a.flatMap ag.c), .own (aj.c start), .own [aB closed, nS], .own (aj.c start)] (.block ?_))))))))))
 replace hr := bd hr; obtain ⟨J, I, hr⟩ := hr
 refine .aM (σ := fun T => match T with | (w, q, i, j) => ⟨mkS 46 0 [(2, .hp 0 0), (3, .hp 1 0), (4, .hp 2 0), (5, .hp 3 0), (6, .hp 4 0), (9, .hp 8 0), (10, .hp 10 0)], [.own [.mp 5], .own [ae D, ae C, ae u, ae t, ae o, bf k], .own [ae g], .own [.mp 6], .own [.hs 7 0 a.length 2], .map (w.map (mpK av.K bA)), .map (d.map (mpK av.K (gA aj.c))), .own (a.flatMap ag.c), .own [aB closed, .hs 9 0 q.length 6], .own (q.flatMap ak.c), .own [ae i, ae j]]⟩) (Q := fun x st' => match (generalizing := false) J with | (F, B) => x = .exit 0 /\ Wk 5 st' ⟨mkS 46 0 [(6, .hp 4 0), (9, .hp 8 0)], [.own [.mp 5], .own [ae D, ae C, ae u, ae t, ae o, bf k], .own [ae g], .own [.mp 6], .own [.hs 7 0 a.length 2], .map (F.map (mpK av.K bA)), .map (d.map (mpK av.K (gA aj.c))), .own (a.flatMap ag.c), .own [aB closed, .hs 9 0 B.length 6], .own (B.flatMap ak.c)]⟩) I ((Wk.Ap 9 1 6 (cs := [aB closed, nS]) (by kernel_rfl) (by kernel_rfl)).trans ((Wk.gc [2, 3, 4, 5, 6, 9, 10] [(0, true), (1, true), (2, true), (3, true), (4, true), (5, false), (6, false), (7, false), (9, true), (11, false), (10, true)] rfl (pKt (pKt (pKt (pKt (pKt (pKM av.K bA (fun _ => rfl) p (pKM av.K (gA aj.c) (fun _ => rfl) d (pKo ag.c ag.pure a (pKt (pKc trivial))))))))))).to)) ?_ ?_
 ·clear hr
  rintro m ⟨w, q, i, j⟩ hr
  show CQ _ _ _ _ _ ⟨_, _⟩
  refine .seq (.block (.seq (.r0 G (.mu 2 (.e0 (v := .unk) (ws := [(5, .map ((ky w (A2.mk i j) true).map (mpK av.K bA)))]) (tr (y := iM Tryz.prog [.own [.mp 5], .own [ae D, ae C, ae u, ae t, ae o, bf k], .own [ae g], .own [.mp 6], .own [.hs 7 0 a.length 2], .map (w.map (mpK av.K bA)), .map (d.map (mpK av.K (gA aj.c))), .own (a.flatMap ag.c), .own [aB closed, .hs 9 0 q.length 6], .own (q.flatMap ak.c), .own [ae i, ae j]] 125 (.mp 5) (.agg [ae i, ae j]) (aB true)) (AZ (kt := 101) (e := 4) (l := w) (f := bA) (v := true) (K := av.K) (x := A2.mk i j) av.key (by kernel_rfl) (by kernel_rfl) (by kernel_rfl) (by kernel_rfl))) (.done (.nh [2, 3, 4, 5, 6, 9, 10] [.own [.mp 5], .own [ae D, ae C, ae u, ae t, ae o, bf k], .own [ae g], .own [.mp 6], .own [.hs 7 0 a.length 2], .map ((ky w (A2.mk i j) true).map (mpK av.K bA)), .map (d.map (mpK av.K (gA aj.c))), .own (a.flatMap ag.c), .own [aB closed, .hs 9 0 q.length 6], .own (q.flatMap ak.c), .own [ae i, ae j]] (.seq ?_))))))))
  obtain ⟨A, L, hr⟩ := bd hr
  obtain ⟨M, N, hr⟩ := gd2 hr
  refine .t1 G (ok0 (rM n (al.mk D C u t o k) g (A2.mk i j) A L)) (.mu 5 (.ca cf0 (.mu 1 (.ek (v := .hs 12 0 (q ++ [A]).length 6) (ws := [(9, .dead), (12, .own ((q ++ [A]).flatMap ak.c))]) (tr (fb (new := (ak.c A)) (l := q) (xs := [A]) ak.len rfl rfl (by kernel_rfl) M N)) (.mu 2 ?_)))))
  refine .done ⟨by kernel_rfl, ?_⟩
  refine .nh [2, 3, 4, 5, 6, 9, 10] [.own [.mp 5], .own [ae D, ae C, ae u, ae t, ae o, bf k], .own [ae g], .own [.mp 6], .own [.hs 7 0 a.length 2], .map ((ky w (A2.mk i j) true).map (mpK av.K bA)), .map (d.map (mpK av.K (gA aj.c))), .own (a.flatMap ag.c), .own [aB closed, .hs 12 0 (q ++ [A]).length 6], .dead, .own [ae i, ae j], .own (ak.c A), .own ((q ++ [A]).flatMap ak.c)] (.seq (.r0 G (.mu 2 (.p0 (v := .tup [.agg (aj.c (getM (A2.mk 0 0 : A2 Int) d (A2.mk i j))), aB (ql d (A2.mk i j))]) (tr (y := bB.ofP (fu Tryz.prog [.own [.mp 5], .own [ae D, ae C, ae u, ae t, ae o, bf k], .own [ae g], .own [.mp 6], .own [.hs 7 0 a.length 2], .map ((ky w (A2.mk i j) true).map (mpK av.K bA)), .map (d.map (mpK av.K (gA aj.c))), .own (a.flatMap ag.c), .own [aB closed, .hs 12 0 (q ++ [A]).length 6], .dead, .own [ae i, ae j], .own (ak.c A), .own ((q ++ [A]).flatMap ak.c)] 124 (.mp 6) (.agg [ae i, ae j]) true)) (CF (kt := 101) (e := 101) (l := d) (f := (gA aj.c)) (z := (A2.mk 0 0 : A2 Int)) (K := av.K) (x := A2.mk i j) av.key (by kernel_rfl) (by kernel_rfl) (by kernel_rfl) (by kernel_rfl) (by kernel_rfl))) (.mu 6 (.done (.nh [2, 3, 4, 5, 6, 9, 10, 11, 12] [.own [.mp 5], .own [ae D, ae C, ae u, ae t, ae o, bf k], .own [ae g], .own [.mp 6], .own [.hs 7 0 a.length 2], .map ((ky w (A2.mk i j) true).map (mpK av.K bA)), .map (d.map (mpK av.K (gA aj.c))), .own (a.flatMap ag.c), .own [aB closed, .hs 12 0 (q ++ [A]).length 6], .dead, .own [ae i, ae j], .own (ak.c A), .own ((q ++ [A]).flatMap ak.c), .own (aj.c (getM (A2.mk 0 0 : A2 Int) d (A2.mk i j)))] (.seq (.seq ?_)))))))))
  rcases bT (!(ql d (A2.mk i j))) with E | E
  ·replace hr := cC E hr
   refine .r0 G (.mu 1 (.p0 (v := aB true) (eB E) (.mu 5 (.done (.nh [2, 3, 4, 5, 6, 9, 10, 11, 39] [.own [.mp 5], .own [ae D, ae C, ae u, ae t, ae o, bf k], .own [ae g], .own [.mp 6], .own [.hs 7 0 a.length 2], .map ((ky w (A2.mk i j) true).map (mpK av.K bA)), .map (d.map (mpK av.K (gA aj.c))), .own (a.flatMap ag.c), .own [aB closed, .hs 12 0 (q ++ [A]).length 6], .dead, .own [ae i, ae j], .own (ak.c A), .own ((q ++ [A]).flatMap ak.c), .own (aj.c (getM (A2.mk 0 0 : A2 Int) d (A2.mk i j)))] (.cT (by kernel_rfl) (.leave rfl ?_)))))))
   obtain rfl := oi hr
   exact ⟨rfl, ((Wk.gc [6, 9] [(0, true), (1, true), (2, true), (3, true), (4, true), (5, false), (6, false), (7, false), (8, true), (12, false)] rfl (pKt (pKt (pKt (pKt (pKt (pKM av.K bA (fun _ => rfl) (ky w (A2.mk i j) true) (pKM av.K (gA aj.c) (fun _ => rfl) d (pKo ag.c ag.pure a (pKt (pKo ak.c ak.pure (q ++ [A]) trivial))))))))))).to)⟩
  replace hr := cB E hr
  refine .r0 G (.mu 1 (.p0 (v := aB false) (eB E) (.mu 3 (.pure (v := aB (getM false (ky w (A2.mk i j) true) (getM (A2.mk 0 0 : A2 Int) d (A2.mk i j)))) (by kernel_rfl) (tr (y := bB.ofP (fu Tryz.prog [.own [.mp 5], .own [ae D, ae C, ae u, ae t, ae o, bf k], .own [ae g], .own [.mp 6], .own [.hs 7 0 a.length 2], .map ((ky w (A2.mk i j) true).map (mpK av.K bA)), .map (d.map (mpK av.K (gA aj.c))), .own (a.flatMap ag.c), .own [aB closed, .hs 12 0 (q ++ [A]).length 6], .dead, .own [ae i, ae j], .own (ak.c A), .own ((q ++ [A]).flatMap ak.c), .own (aj.c (getM (A2.mk 0 0 : A2 Int) d (A2.mk i j)))] 125 (.mp 5) (.agg (aj.c (getM (A2.mk 0 0 : A2 Int) d (A2.mk i j)))) false)) (zy (kt := 101) (e := 4) (l := ky w (A2.mk i j) true) (f := bA) (z := false) (K := av.K) (x := (getM (A2.mk 0 0 : A2 Int) d (A2.mk i j))) av.key (by kernel_rfl) (by kernel_rfl) (by kernel_rfl) (by kernel_rfl) (by kernel_rfl))) (.mu 1 (.done (.nh [2, 3, 4, 5, 6, 9, 10, 11, 39] [.own [.mp 5], .own [ae D, ae C, ae u, ae t, ae o, bf k], .own [ae g], .own [.mp 6], .own [.hs 7 0 a.length 2], .map ((ky w (A2.mk i j) true).map (mpK av.K bA)), .map (d.map (mpK av.K (gA aj.c))), .own (a.flatMap ag.c), .own [aB closed, .hs 12 0 (q ++ [A]).length 6], .dead, .own [ae i, ae j], .own (ak.c A), .own ((q ++ [A]).flatMap ak.c), .own (aj.c (getM (A2.mk 0 0 : A2 Int) d (A2.mk i j)))] ?_)))))))
  refine .cd hr ?_ ?_ <;> intro S hr
  ·refine .leave rfl ?_
   obtain rfl := oi hr
   exact ⟨rfl, ((Wk.gc [6, 9] [(0, true), (1, true), (2, true), (3, true), (4, true), (5, false), (6, false), (7, false), (8, true), (12, false)] rfl (pKt (pKt (pKt (pKt (pKt (pKM av.K bA (fun _ => rfl) (ky w (A2.mk i j) true) (pKM av.K (gA aj.c) (fun _ => rfl) d (pKo ag.c ag.pure a (pKt (pKo ak.c ak.pure (q ++ [A]) trivial))))))))))).to)⟩
  refine .skip (.ru G (.pop (.seq (.r4 G [2, 3, 4, 5, 6, 9] [(41, .agg (aj.c (getM (A2.mk 0 0 : A2 Int) d (A2.mk i j))))] (.ru G ?_)))))
  exact aA (ky w (A2.mk i j) true, q ++ [A], (getM (A2.mk 0 0 : A2 Int) d (A2.mk i j)).e0, (getM (A2.mk 0 0 : A2 Int) d (A2.mk i j)).e1) hr ((Wk.gc [2, 3, 4, 5, 6, 9, 10] [(0, true), (1, true), (2, true), (3, true), (4, true), (5, false), (6, false), (7, false), (8, true), (12, false), (14, true)] rfl (pKt (pKt (pKt (pKt (pKt (pKM av.K bA (fun _ => rfl) (ky w (A2.mk i j) true) (pKM av.K (gA aj.c) (fun _ => rfl) d (pKo ag.c ag.pure a (pKt (pKo ak.c ak.pure (q ++ [A]) trivial))))))))))).to)
 rcases J with ⟨F, B⟩
 rintro x st' H
 clear I
 obtain ⟨rfl, H⟩ := H
 refine aW _ rfl (.wk H (.wk (((Wk.fix 9 (cs := (B.flatMap ak.c)) (by kernel_rfl)).trans (Wk.Cx 8 1 (b := 9) (len := B.length) (es := 6) (cs := (B.flatMap ak.c)) (cs' := [aB closed, .hs 9 0 B.length 6]) (by kernel_rfl) (by kernel_rfl) (by kernel_rfl) (aY ak.pure _) (fun h => cJ h))).to (c := ⟨mkS 46 0 [(6, .hp 4 0), (9, .hp 8 0)], [.own [.mp 5], .own [ae D, ae C, ae u, ae t, ae o, bf k], .own [ae g], .own [.mp 6], .own [.hs 7 0 a.length 2], .map (F.map (mpK av.K bA)), .map (d.map (mpK av.K (gA aj.c))), .own (a.flatMap ag.c), .own [aB closed, slT ak.c B], .fix (B.flatMap ak.c)]⟩) (by kernel_rfl)) ?_))
 obtain ⟨O, R, hr⟩ := gd2 hr
 refine .r0 G (.mu 3 (.e0 (v := .hs 11 0 (a ++ [ag.mk closed B]).length 2) (ws := [(7, .dead), (11, .own ((a ++ [ag.mk closed B]).flatMap ag.c))]) (tr (fb (new := [aB closed, slT ak.c B]) (l := a) (xs := [ag.mk closed B]) ag.len rfl rfl (by kernel_rfl) O R)) (.mu 1 (.done ?_))))
 obtain rfl := oi hr
 exact dm.normal [] ((Wk.gc [] [(0, true), (1, true), (2, true), (3, true), (4, true), (5, false), (6, false), (11, false)] rfl (pKt (pKt (pKt (pKt (pKt (pKM av.K bA (fun _ => rfl) F (pKM av.K (gA aj.c) (fun _ => rfl) d (pKo ag.c ag.pure (a ++ [ag.mk closed B]) trivial))))))))).to)

theorem tx {c : ag} {a : ag} (h : ([.agg [.at (.bool c.Closed), slT ak.c c.Points]] : List AV) = [.agg [.at (.bool a.Closed), slT ak.c a.Points]]) : c = a := by
 obtain ⟨_, _⟩ := c
 obtain ⟨_, _⟩ := a
 simp only [List.cons.injEq, AV.agg.injEq, AV.at.injEq, Value.int.injEq, Value.bool.injEq, AV.fn.injEq, AV.pp.injEq, true_and, and_true, (zL ak.len (by decide) ak.inj)] at h
 simp_all
theorem oT (n : Nat) {c : ag} {a : ag} (h : ([.agg [.at (.bool c.Closed), slT ak.c c.Points]] : List AV) = [.agg [.at (.bool a.Closed), slT ak.c a.Points]]) : gg n c = gg n a := by
 obtain rfl := tx h
 rfl
theorem j8 (n : Nat) (c : ag) (r : A2 Int) (hr : gg n c = some r) : aL Tryz.prog 55 [.agg (ag.c c)] (.agg (aj.c r)) := by
 unfold gg at hr
 refine aL.bd G Tryz.func55 [.cell 2 101] ?_
 unfold Tryz.f55
 simp only [gS]
 refine .seq (.r2 G 14 [(1, .hp 0 0), (2, .hp 1 0)] [.own (ag.c c), .own [ae 0, ae 0]] (.seq ?_))
 obtain ⟨a, hr⟩ := gd hr
 refine .dZ G bI (.mu 2 (.pk (v := .pp (c.Points.flatMap ak.c) ((0 : Int).toNat * 6)) (tr (au a)) (.mu 1 (.pk (v := ae (gt c.Points 0).A) (tr (aG (aH ak.len (aC a) (by decide : 0 < 6) (by omega : (0 : Int).toNat * 6 + 0 = (0 : Int).toNat * 6 + 0) (by kernel_rfl)))) (.mu 2 (.pk (v := .pp (c.Points.flatMap ak.c) ((0 : Int).toNat * 6)) (tr (au a)) (.mu 1 (.pk (v := ae (gt c.Points 0).B) (tr (aG (aH ak.len (aC a) (by decide : 1 < 6) (by omega : (0 : Int).toNat * 6 + 1 = (0 : Int).toNat * 6 + 1) (by kernel_rfl)))) (.mu 2 ?_)))))))))
 refine .done ⟨by kernel_rfl, ?_⟩
 refine .nh [2] [.own (ag.c c), .own [ae (gt c.Points 0).A, ae (gt c.Points 0).B]] (.ret ?_)
 obtain rfl := oi hr
 exact aK.r1 [.agg [ae (gt c.Points 0).A, ae (gt c.Points 0).B]]

theorem sf (n : Nat) (a : ag) (b : ag) (r : Int) (hr : mX n a b = some r) : aL Tryz.prog 95 [.agg (ag.c a), .agg (ag.c b)] (ae r) := by
 unfold mX at hr
 refine aL.bd G Tryz.func95 [.tmp 4] ?_
 unfold Tryz.f95
 simp only [gS]
 refine .seq (.r2 G 10 [(2, .hp 0 0), (3, .hp 1 0)] [.own (ag.c a), .own (ag.c b)] (.seq ?_))
 obtain ⟨g, d, i, e, j, f, hr⟩ := bd3 hr
 refine .tn G (ca1 (ok0 (j8 n a g d)) (ca1 (ok0 (j8 n b i e)) (ca3 (ok0 (ja n g i j f))))) (.mu 1 (.ca cf0 (.mu 1 (.ca (cfA (fun h => by rw [sv e d (oT n h)]) cf0) (.ca (cfF (cfF cf0)) (.mu 1 ?_))))))
 refine .done ⟨by kernel_rfl, ?_⟩
 refine .ret ?_
 obtain rfl := oi hr
 exact aK.r1 [ae j]

theorem dJ (n : Nat) (data : List ag) (a : Int) (b : Int) (r : List ag) (hr : bl n data a b = some r) : dk 1 Tryz.prog 132 [.hs 0 0 data.length 2, ae a, ae b, .fn 95 [] []] [.own (data.flatMap ag.c)] (.tup []) [.own (r.flatMap ag.c)] := by
 unfold bl at hr
 refine dk.kp G Tryz.func132 (c := (Tryz.f132.body).getD .skip) rfl (us := []) (s := mkS 53 0 [(0, .hs 0 0 data.length 2), (1, ae a), (2, ae b), (3, .fn 95 [] [])]) (by kernel_rfl) (rs := []) rfl ?_
 unfold Tryz.f132
 simp only [gS]
 refine .seq (.r4 G [0, 1, 2, 3] [(8, ae (Fj (a + 1)))] (.block ?_))
 replace hr := bd hr; obtain ⟨p, q, hr⟩ := hr
 refine .aM (σ := fun w => match w with | (i, f) => ⟨mkS 53 0 [(0, .hs 0 0 i.length 2), (1, ae a), (2, ae b), (3, .fn 95 [] []), (8, ae f)], [.own (i.flatMap ag.c)]⟩) (Q := fun x st' => x = .exit 0 /\ Wk 1 st' ⟨mkS 53 0 [], [.own (p.flatMap ag.c)]⟩) q ((Wk.gc [0, 1, 2, 3, 8] [(0, false)] rfl (pKo ag.c ag.pure data trivial)).to) ?_ ?_
 ·clear hr
  rintro m ⟨i, f⟩ hr
  show CQ _ _ _ _ _ ⟨_, _⟩
  refine .seq (.seq (.r4 G [0, 1, 2, 3, 8] [(14, aB (decide (f < b)))] ?_))
  refine .cd hr ?_ ?_ <;> intro A hr
  ·refine .skip (.seq (.block (.seq (.r4 G [0, 1, 2, 3, 8] [(9, ae f)] (.block ?_)))))
   replace hr := bd hr; obtain ⟨k, t, hr⟩ := hr
   refine .aM (σ := fun w => match w with | (e, d) => ⟨mkS 53 0 [(0, .hs 0 0 e.length 2), (1, ae a), (2, ae b), (3, .fn 95 [] []), (8, ae f), (9, ae d)], [.own (e.flatMap ag.c)]⟩) (Q := fun x st' => x = .exit 2 /\ Wk 1 st' ⟨mkS 53 0 [(0, .hs 0 0 k.length 2), (1, ae a), (2, ae b), (3, .fn 95 [] []), (8, ae f)], [.own (k.flatMap ag.c)]⟩) t ((Wk.gc [0, 1, 2, 3, 8, 9] [(0, false)] rfl (pKo ag.c ag.pure i trivial)).to) ?_ ?_
   ·clear hr
    rintro m ⟨e, d⟩ hr
    show CQ _ _ _ _ _ ⟨_, _⟩
    refine .seq (.seq ?_)
    rcases bT (decide (d > a)) with j | j
    ·replace hr := cC j hr
     obtain ⟨g, h, hr⟩ := gd2 hr
     obtain ⟨z, u, hr⟩ := bd hr
     refine .t1 G (ok0 (sf n (gt e d) (gt e (Fj (d - 1))) z u)) (.mu 2 (.pk (v := aB true) (eB j) (.mu 4 (.pk (v := .hp 0 (0 + d.toNat * 2)) (tr (au g)) (.pk (v := .agg (ag.c (gt e d))) (tr (y := bB.ofP (ei (decide (2 <= ((e.flatMap ag.c).drop (0 + d.toNat * 2)).length)) (.agg (((e.flatMap ag.c).drop (0 + d.toNat * 2)).take 2)))) (b6 ag.len (aC g) (by decide) (by omega : 0 + d.toNat * 2 = d.toNat * 2 + 0) (by kernel_rfl))) (.mu 3 (.pk (v := .hp 0 (0 + (Fj (d - 1)).toNat * 2)) (tr (au h)) (.pk (v := .agg (ag.c (gt e (Fj (d - 1))))) (tr (y := bB.ofP (ei (decide (2 <= ((e.flatMap ag.c).drop (0 + (Fj (d - 1)).toNat * 2)).length)) (.agg (((e.flatMap ag.c).drop (0 + (Fj (d - 1)).toNat * 2)).take 2)))) (b6 ag.len (aC h) (by decide) (by omega : 0 + (Fj (d - 1)).toNat * 2 = (Fj (d - 1)).toNat * 2 + 0) (by kernel_rfl))) (.ca cf0 (.mu 2 ?_))))))))))
     refine .done ⟨by kernel_rfl, ?_⟩
     refine .nh [0, 1, 2, 3, 8, 9, 34] [.own (e.flatMap ag.c)] ?_
     refine .cd hr ?_ ?_ <;> intro B hr
     ·refine .skip (.seq (.block (.dZ G bI (.mu 8 (.pk (v := .hp 0 (0 + (Fj (d - 1)).toNat * 2)) (tr (au h)) (.pk (v := .agg (ag.c (gt e (Fj (d - 1))))) (tr (y := bB.ofP (ei (decide (2 <= ((e.flatMap ag.c).drop (0 + (Fj (d - 1)).toNat * 2)).length)) (.agg (((e.flatMap ag.c).drop (0 + (Fj (d - 1)).toNat * 2)).take 2)))) (b6 ag.len (aC h) (by decide) (by omega : 0 + (Fj (d - 1)).toNat * 2 = (Fj (d - 1)).toNat * 2 + 0) (by kernel_rfl))) (.mu 2 (.pk (v := .hp 0 (0 + d.toNat * 2)) (tr (au g)) (.pk (v := .agg (ag.c (gt e d))) (tr (y := bB.ofP (ei (decide (2 <= ((e.flatMap ag.c).drop (0 + d.toNat * 2)).length)) (.agg (((e.flatMap ag.c).drop (0 + d.toNat * 2)).take 2)))) (b6 ag.len (aC g) (by decide) (by omega : 0 + d.toNat * 2 = d.toNat * 2 + 0) (by kernel_rfl))) (.pk (v := .hp 0 (0 + d.toNat * 2)) (tr (au g)) (.ek (v := .unk) (ws := [(0, .own ((e.set d.toNat (gt e (Fj (d - 1)))).flatMap ag.c))]) (tr (iD (iJ (cr (n := 2) ag.len (aC g) (lbT rfl) (by omega : 0 + d.toNat * 2 = d.toNat * 2 + 0))) (congrArg Blk.own (cR (xs := (ag.c (gt e (Fj (d - 1))))) ag.len (aC g) (lbT rfl) (by omega : 0 + d.toNat * 2 = d.toNat * 2 + 0) (by kernel_rfl))))) (.pk (v := .hp 0 (0 + (Fj (d - 1)).toNat * 2)) (tr (au h)) (.ek (v := .unk) (ws := [(0, .own (((e.set d.toNat (gt e (Fj (d - 1)))).set (Fj (d - 1)).toNat (gt e d)).flatMap ag.c))]) (tr (y := stO (decide ((0 + (Fj (d - 1)).toNat * 2) + 2 <= ((e.set d.toNat (gt e (Fj (d - 1)))).flatMap ag.c).length) && true) [(0, .own (setCells ((e.set d.toNat (gt e (Fj (d - 1)))).flatMap ag.c) (0 + (Fj (d - 1)).toNat * 2) (ag.c (gt e d))))]) (iD (iJ (cr ag.len (aC (rz h)) (lbT rfl) (by omega : 0 + (Fj (d - 1)).toNat * 2 = (Fj (d - 1)).toNat * 2 + 0))) (congrArg Blk.own (cR ag.len (aC (rz h)) (lbT rfl) (by omega : 0 + (Fj (d - 1)).toNat * 2 = (Fj (d - 1)).toNat * 2 + 0) (by kernel_rfl))))) ?_)))))))))))))
      refine .done ⟨by kernel_rfl, ?_⟩
      refine .pop (.ru G ?_)
      exact aA ((e.set d.toNat (gt e (Fj (d - 1)))).set (Fj (d - 1)).toNat (gt e d), Fj (d - 1)) hr ((Wk.iH 0 (b := 0) (es := 2) (len := e.length) ((e.set d.toNat (gt e (Fj (d - 1)))).set (Fj (d - 1)).toNat (gt e d)).length (by kernel_rfl) (Eq.symm (List.length_set.trans (List.length_set.trans rfl)))).trans ((Wk.gc [0, 1, 2, 3, 8, 9] [(0, false)] rfl (pKo ag.c ag.pure ((e.set d.toNat (gt e (Fj (d - 1)))).set (Fj (d - 1)).toNat (gt e d)) trivial)).to))
     refine .leave rfl ?_
     obtain rfl := oi hr
     exact ⟨rfl, ((Wk.gc [0, 1, 2, 3, 8] [(0, false)] rfl (pKo ag.c ag.pure e trivial)).to)⟩
    replace hr := cB j hr
    refine .dZ G bI (.mu 2 (.pk (v := aB false) (eB j) (.mu 14 ?_)))
    refine .done ⟨by kernel_rfl, ?_⟩
    refine .nh [0, 1, 2, 3, 8, 9, 34] [.own (e.flatMap ag.c)] (.cF (by kernel_rfl) (.leave rfl ?_))
    obtain rfl := oi hr
    exact ⟨rfl, ((Wk.gc [0, 1, 2, 3, 8] [(0, false)] rfl (pKo ag.c ag.pure e trivial)).to)⟩
   rintro x st' l
   clear t
   obtain ⟨rfl, l⟩ := l
   refine aW _ rfl (.pop (.wk l (.ru G ?_)))
   exact aA (k, Fj (f + 1)) hr ((Wk.gc [0, 1, 2, 3, 8] [(0, false)] rfl (pKo ag.c ag.pure k trivial)).to)
  refine .leave rfl ?_
  obtain rfl := oi hr
  exact ⟨rfl, ((Wk.gc [] [(0, false)] rfl (pKo ag.c ag.pure i trivial)).to)⟩
 rintro x st' o
 clear q
 obtain ⟨rfl, o⟩ := o
 refine aW _ rfl ?_
 obtain rfl := oi hr
 exact dm.wk o (dm.normal [] ((Wk.gc [] [(0, false)] rfl (pKo ag.c ag.pure p trivial)).to))

theorem eh (n : Nat) (data : List ag) (a : Int) (b : Int) (limit : Int) (r : List ag) (hr : bu n data a b limit = some r) : dk 1 Tryz.prog 97 [.hs 0 0 data.length 2, ae a, ae b, ae limit, .fn 95 [] []] [.own (data.flatMap ag.c)] (.tup []) [.own (r.flatMap ag.c)] := by
 unfold bu at hr
 refine dk.kp G Tryz.func97 (c := (Tryz.f97.body).getD .skip) rfl (us := []) (s := mkS 148 0 [(0, .hs 0 0 data.length 2), (1, ae a), (2, ae b), (3, ae limit), (4, .fn 95 [] [])]) (by kernel_rfl) (rs := []) rfl ?_
 unfold Tryz.f97
 simp only [gS]
 refine .seq (.r4 G [0, 1, 2, 3, 4] [(10, aB true)] (.seq (.r4 G [0, 1, 2, 3, 4, 10] [(11, aB true)] (.block ?_))))
 replace hr := bd hr; obtain ⟨r0, g, hr⟩ := hr
 refine .aM (σ := fun p => match p with | (d, e, h, i, j) => ⟨mkS 148 0 [(0, .hs 0 0 data.length 2), (1, ae d), (2, ae e), (3, ae h), (4, .fn 95 [] []), (10, aB i), (11, aB j)], [.own (data.flatMap ag.c)]⟩) (Q := fun x st' => x = .ret /\ dm 1 Tryz.prog [] [] [.own (r0.flatMap ag.c)] .ret st') g ((Wk.gc [0, 1, 2, 3, 4, 10, 11] [(0, false)] rfl (pKo ag.c ag.pure data trivial)).to) ?_ ?_
 ·clear hr
  rintro m ⟨d, e, h, i, j⟩ hr
  show CQ _ _ _ _ _ ⟨_, _⟩
  refine .block (.seq (.r4 G [0, 1, 2, 3, 4, 10, 11] [(12, ae (Fj (e - d)))] (.seq (.seq (.r4 G [0, 1, 2, 3, 4, 10, 11, 12] [(25, aB (decide ((Fj (e - d)) <= 12)))] ?_)))))
  obtain ⟨l, hr⟩ := gd hr
  refine .cY l (.seq ?_)
  obtain ⟨k, o, hr⟩ := bd hr
  refine .g1 G (bX (args := [.hs 0 0 data.length 2, ae d, ae e, .fn 95 [] []]) 1 0 [(0, false)] [false] (dJ n data d e k o) (by exact ⟨aY ag.pure _, trivial⟩) (by exact ⟨aY ag.pure _, trivial⟩) rfl rfl (by kernel_rfl) (by kernel_rfl)) (.mu 4 (.ca cf0 (.done (.nh [] [.own (k.flatMap ag.c)] (.ret ?_)))))
  obtain rfl := oi hr
  exact ⟨rfl, dm.ret [] ((Wk.gc [] [(0, false)] rfl (pKo ag.c ag.pure k trivial)).to)⟩
 rintro x st' f
 clear g
 obtain ⟨rfl, f⟩ := f
 obtain rfl := oi hr
 exact iz _ f

theorem c9 (n : Nat) (a : List ag) (r : List ag) (hr : aT n a = some r) : dk 1 Tryz.prog 52 [.hs 0 0 a.length 2, .fn 95 [] []] [.own (a.flatMap ag.c)] (.tup []) [.own (r.flatMap ag.c)] := by
 unfold aT at hr
 refine dk.kp G Tryz.func52 (c := (Tryz.f52.body).getD .skip) rfl (us := []) (s := mkS 14 0 [(0, .hs 0 0 a.length 2), (1, .fn 95 [] [])]) (by kernel_rfl) (rs := []) rfl ?_
 unfold Tryz.f52
 simp only [gS]
 refine .seq (.r4 G [0, 1] [(4, ae (a.length : Int))] ?_)
 obtain ⟨b, d, f, e, hr⟩ := bd2 hr
 refine .gn G (ca1 (ok0 (mi n (wFu (a.length : Int)) b d)) (ca3 (bX (args := [.hs 0 0 a.length 2, ae 0, ae (a.length : Int), ae b, .fn 95 [] []]) 1 0 [(0, false)] [false] (eh n a 0 (a.length : Int) b f e) (by exact ⟨aY ag.pure _, trivial⟩) (by exact ⟨aY ag.pure _, trivial⟩) rfl rfl (by kernel_rfl) (by kernel_rfl)))) (.mu 4 (.ca cf0 (.mu 1 (.ca (cfF cf0) (.done ?_)))))
 obtain rfl := oi hr
 exact dm.normal [] ((Wk.gc [] [(0, false)] rfl (pKo ag.c ag.pure f trivial)).to)

theorem pc (n : Nat) (g : al) (level : Int) (r : List ag) (hr : im n g level = some r) : aL Tryz.prog 45 [.agg (al.c g), ae level] (slT ag.c r) := by
 unfold im at hr
 refine aL.bd G Tryz.func45 [.tmp 4] ?_
 unfold Tryz.f45
 simp only [gS]
 refine .seq (.r2 G 68 [(2, .hp 0 0), (3, .hp 1 0)] [.own (al.c g), .own [ae level]] (.seq (.r5 G [2, 3] [(5, .hp 2 0)] [.own (al.c g), .own [ae level], .own [.fn 88 [] [.hp 0 0, .hp 1 0]]] (.seq (.r5 G [2, 3, 5] [(6, .hp 5 0), (7, .hp 6 0)] [.own (al.c g), .own [ae level], .own [.fn 88 [] [.hp 0 0, .hp 1 0]], .map (([] : List (A2 Int × A2 Int)).map (mpK av.K (gA aj.c))), .map (([] : List (A2 Int × Bool)).map (mpK av.K bA)), .own [.mp 3], .own [.mp 4]] (.seq ?_))))))
 obtain ⟨d, ko, hr⟩ := bd hr
 refine .g1 G (lf 2 (.own [.fn 88 [] [.hp 0 0, .hp 1 0]]) [] [(0, .own (al.c g)), (1, .own [ae level]), (5, .own [.mp 7]), (6, .own [.mp 8]), (7, .map (d.1.map (mpK av.K (gA aj.c)))), (8, .map (d.2.map (mpK av.K bA))), (3, .dead), (4, .dead)] (bX (args := [.agg (al.c g), .fn 90 [] [.hp 2 0, .hp 5 0, .hp 6 0]]) 5 2 [(2, true), (0, true), (1, true), (5, true), (6, true), (3, false), (4, false)] [true, true, true, true, true, false, false] (jn n g g.X0 g.Y0 g.Step g.Width g.Height g.Z level ([] : List (A2 Int × A2 Int)) ([] : List (A2 Int × Bool)) d ko) (by exact ⟨gD (fun _ => rfl) _, ⟨gD (fun _ => rfl) _, trivial⟩⟩) (by exact ⟨gD (fun _ => rfl) _, ⟨gD (fun _ => rfl) _, trivial⟩⟩) rfl rfl (by kernel_rfl) (by kernel_rfl))) (.mu 2 (.ca cf0 (.done (.nh [2, 3, 6, 7] [.own (al.c g), .own [ae level], .own [.fn 88 [] [.hp 0 0, .hp 1 0]], .dead, .dead, .own [.mp 7], .own [.mp 8], .map (d.1.map (mpK av.K (gA aj.c))), .map (d.2.map (mpK av.K bA))] (.seq (.r4 G [2, 3, 6, 7] [(8, nS)] (.seq (.seq (.r0 G (.mu 1 (.e0 (v := .hp 9 0) (ws := [(9, .iter 7 d.1.length [])]) (tr (y := nj Tryz.prog [.own (al.c g), .own [ae level], .own [.fn 88 [] [.hp 0 0, .hp 1 0]], .dead, .dead, .own [.mp 7], .own [.mp 8], .map (d.1.map (mpK av.K (gA aj.c))), .map (d.2.map (mpK av.K bA))] 9 124 (.mp 7)) (Di (kt := 101) (e := 101) (es := d.1) (mk := (mpK av.K (gA aj.c))) (by kernel_rfl) (by kernel_rfl))) (.done (.nh [2, 3, 6, 7, 8, 24] [.own (al.c g), .own [ae level], .own [.fn 88 [] [.hp 0 0, .hp 1 0]], .dead, .dead, .own [.mp 7], .own [.mp 8], .map (d.1.map (mpK av.K (gA aj.c))), .map (d.2.map (mpK av.K bA)), .iter 7 d.1.length []] (.block ?_))))))))))))))
 refine .DO (mk := (mpK av.K (gA aj.c))) hr (fun N sn => match N with | i => ⟨mkS 68 0 [(2, .hp 0 0), (3, .hp 1 0), (6, .hp 2 0), (7, .hp 4 0), (8, .hs 6 0 i.length 2), (24, .hp 7 0)], [.own (al.c g), .own [ae level], .own [.mp 3], .map (d.1.map (mpK av.K (gA aj.c))), .own [.mp 5], .map (d.2.map (mpK av.K bA)), .own (i.flatMap aj.c), .iter 3 d.1.length sn]⟩) 7 3 ((Wk.nil 8 2 (by kernel_rfl)).trans ((Wk.gc [2, 3, 6, 7, 8, 24] [(0, true), (1, true), (5, true), (7, false), (6, true), (8, false), (10, false), (9, true)] rfl (pKt (pKt (pKt (pKM av.K (gA aj.c) (fun _ => rfl) d.1 (pKt (pKM av.K bA (fun _ => rfl) d.2 (pKc trivial)))))))).to)) ?_ ?_
 ·clear hr
  rintro i sn M t z' G' O hr R
  refine .wk ((Wk.refl _).to (c := ⟨mkS 68 0 [(2, .hp 0 0), (3, .hp 1 0), (6, .hp 2 0), (7, .hp 4 0), (8, .hs 6 0 i.length 2), (24, .hp 7 0), (26, aB true)], [.own (al.c g), .own [ae level], .own [.mp 3], .map (d.1.map (mpK av.K (gA aj.c))), .own [.mp 5], .map (d.2.map (mpK av.K bA)), .own (i.flatMap aj.c), .iter 3 d.1.length (sn ++ [M])]⟩)) (.block (.seq (.r0 G (.p0 (v := .tup [.agg [ae t.1.e0, ae t.1.e1], .agg [ae t.2.e0, ae t.2.e1]]) (tr (y := iS [.own (al.c g), .own [ae level], .own [.mp 3], .map (d.1.map (mpK av.K (gA aj.c))), .own [.mp 5], .map (d.2.map (mpK av.K bA)), .own (i.flatMap aj.c), .iter 3 d.1.length (sn ++ [M])] (.hp 7 0)) (Eq.trans (Cy (P := Tryz.prog) (m := 3) (sn := sn) (es := d.1) (mk := (mpK av.K (gA aj.c))) (e := t) (by kernel_rfl) (by kernel_rfl) O) (by kernel_rfl))) (.mu 3 (.done (.nh [2, 3, 6, 7, 8, 9, 24] [.own (al.c g), .own [ae level], .own [.mp 3], .map (d.1.map (mpK av.K (gA aj.c))), .own [.mp 5], .map (d.2.map (mpK av.K bA)), .own (i.flatMap aj.c), .iter 3 d.1.length (sn ++ [M]), .own [ae t.1.e0, ae t.1.e1]] ?_)))))))
  obtain ⟨S, T, hr⟩ := gd2 hr
  refine .r0 G (.mu 3 (.e0 (v := .hs 10 0 (i ++ [t.1]).length 2) (ws := [(6, .dead), (10, .own ((i ++ [t.1]).flatMap aj.c))]) (tr (fb (new := [ae t.1.e0, ae t.1.e1]) (l := i) (xs := [t.1]) aj.len rfl rfl (by kernel_rfl) S T)) (.mu 1 (.done (.pop ?_)))))
  obtain rfl := oi hr
  exact R _ ((Wk.gc [2, 3, 6, 7, 8, 24] [(0, true), (1, true), (2, true), (3, false), (4, true), (5, false), (10, false), (7, true)] rfl (pKt (pKt (pKt (pKM av.K (gA aj.c) (fun _ => rfl) d.1 (pKt (pKM av.K bA (fun _ => rfl) d.2 (pKo aj.c aj.pure (i ++ [t.1]) trivial)))))))).to)
 clear hr
 rintro i sn hr
 refine aW _ rfl (.wk ((Wk.refl _).to (c := ⟨mkS 68 0 [(2, .hp 0 0), (3, .hp 1 0), (6, .hp 2 0), (7, .hp 4 0), (8, .hs 6 0 i.length 2), (24, .hp 7 0), (26, aB false)], [.own (al.c g), .own [ae level], .own [.mp 3], .map (d.1.map (mpK av.K (gA aj.c))), .own [.mp 5], .map (d.2.map (mpK av.K bA)), .own (i.flatMap aj.c), .iter 3 d.1.length sn]⟩)) (.seq ?_))
 obtain ⟨a, U, hr⟩ := bd hr
 obtain ⟨F, hr⟩ := gd hr
 refine .g1 G (bX (args := [.hs 6 0 i.length 2, .fn 54 [] []]) 1 0 [(6, false)] [false] (c8 n i a U) (by exact ⟨aY aj.pure _, trivial⟩) (by exact ⟨aY aj.pure _, trivial⟩) rfl rfl (by kernel_rfl) (by kernel_rfl)) (.mu 1 (.ca cf0 (.done (.nh [2, 3, 6, 7, 8] [.own (al.c g), .own [ae level], .own [.mp 3], .map (d.1.map (mpK av.K (gA aj.c))), .own [.mp 5], .map (d.2.map (mpK av.K bA)), .own (a.flatMap aj.c), .iter 3 d.1.length sn] (.seq (.r5 G [2, 3, 6, 7, 8] [(10, .hp 9 0)] [.own (al.c g), .own [ae level], .own [.mp 3], .map (d.1.map (mpK av.K (gA aj.c))), .own [.mp 5], .map (d.2.map (mpK av.K bA)), .own (a.flatMap aj.c), .iter 3 d.1.length sn, .map (([] : List (A2 Int × Bool)).map (mpK av.K bA)), .own [.mp 8]] (.seq (.r5 G [2, 3, 6, 7, 8, 10] [(11, .hp 10 0)] [.own (al.c g), .own [ae level], .own [.mp 3], .map (d.1.map (mpK av.K (gA aj.c))), .own [.mp 5], .map (d.2.map (mpK av.K bA)), .own (a.flatMap aj.c), .iter 3 d.1.length sn, .map (([] : List (A2 Int × Bool)).map (mpK av.K bA)), .own [.mp 8], .own [nS]] (.seq (.r4 G [7, 8, 10, 11] [(12, .fn 93 [] [.hp 9 0, .hp 0 0, .hp 1 0, .hp 2 0, .hp 10 0])] (.seq (.seq (.r4 G [7, 8, 10, 11, 12] [(37, .hs 6 0 i.length 2), (38, ae (i.length : Int)), (39, ae 0)] (.block ?_))))))))))))))
 replace hr := bd hr; obtain ⟨V, H, hr⟩ := hr
 refine .aM (σ := fun N => match N with | (s, o, j) => ⟨mkS 68 0 [(7, .hp 0 0), (8, .hs 2 0 a.length 2), (10, .hp 3 0), (11, .hp 5 0), (12, .fn 93 [] [.hp 3 0, .hp 7 0, .hp 8 0, .hp 9 0, .hp 5 0]), (37, .hs 2 0 a.length 2), (38, ae (i.length : Int)), (39, ae j)], [.own [.mp 1], .map (d.2.map (mpK av.K bA)), .own (a.flatMap aj.c), .own [.mp 4], .map (s.map (mpK av.K bA)), .own [.hs 6 0 o.length 2], .own (o.flatMap ag.c), .own (al.c g), .own [ae level], .own [.mp 10], .map (d.1.map (mpK av.K (gA aj.c)))]⟩) (Q := fun x st' => match (generalizing := false) V with | (C, B) => x = .exit 2 /\ Wk 0 st' ⟨mkS 68 0 [(8, .hs 0 0 a.length 2), (10, .hp 1 0), (11, .hp 3 0), (12, .fn 93 [] [.hp 1 0, .hp 5 0, .hp 6 0, .hp 7 0, .hp 3 0])], [.own (a.flatMap aj.c), .own [.mp 2], .map (C.map (mpK av.K bA)), .own [.hs 4 0 B.length 2], .own (B.flatMap ag.c), .own (al.c g), .own [ae level], .own [.mp 8], .map (d.1.map (mpK av.K (gA aj.c)))]⟩) H ((Wk.iH 8 (b := 6) (es := 2) (len := i.length) a.length (by kernel_rfl) (Eq.symm (dcT F))).trans ((Wk.Ap 10 0 2 (cs := [nS]) (by kernel_rfl) (by kernel_rfl)).trans ((Wk.iH 37 (b := 6) (es := 2) (len := i.length) a.length (by kernel_rfl) (Eq.symm (dcT F))).trans ((Wk.gc [7, 8, 10, 11, 12, 37, 38, 39] [(4, true), (5, false), (6, false), (9, true), (8, false), (10, true), (11, false), (0, true), (1, true), (2, true), (3, false)] rfl (pKt (pKM av.K bA (fun _ => rfl) d.2 (pKo aj.c aj.pure a (pKt (pKM av.K bA (fun _ => rfl) ([] : List (A2 Int × Bool)) (pKt (pKc (pKt (pKt (pKt (pKM av.K (gA aj.c) (fun _ => rfl) d.1 trivial)))))))))))).to)))) ?_ ?_
 ·clear hr
  rintro m ⟨s, o, j⟩ hr
  show CQ _ _ _ _ _ ⟨_, _⟩
  refine .seq (.r4 G [7, 8, 10, 11, 12, 37, 38, 39] [(40, aB (decide (j < (i.length : Int))))] (.seq ?_))
  refine .cd hr ?_ ?_ <;> intro kj hr
  ·refine .skip (.seq (.block (.seq ?_)))
   obtain ⟨I, hr⟩ := gd hr
   refine .r0 G (.p0 (v := .hp 2 (0 + j.toNat * 2)) (tr (au I)) (.p0 (v := .agg (aj.c (gt a j))) (tr (y := bB.ofP (ei (decide (2 <= ((a.flatMap aj.c).drop (0 + j.toNat * 2)).length)) (.agg (((a.flatMap aj.c).drop (0 + j.toNat * 2)).take 2)))) (b6 aj.len (aC I) (by decide) (by omega : 0 + j.toNat * 2 = j.toNat * 2 + 0) (by kernel_rfl))) (.mu 2 (.done (.nh [7, 8, 10, 11, 12, 14, 37, 38, 39] [.own [.mp 1], .map (d.2.map (mpK av.K bA)), .own (a.flatMap aj.c), .own [.mp 4], .map (s.map (mpK av.K bA)), .own [.hs 6 0 o.length 2], .own (o.flatMap ag.c), .own (al.c g), .own [ae level], .own [.mp 10], .map (d.1.map (mpK av.K (gA aj.c))), .own (aj.c (gt a j))] (.seq (.r0 G (.mu 2 (.p0 (v := aB (getM false d.2 (gt a j))) (tr (y := bB.ofP (fu Tryz.prog [.own [.mp 1], .map (d.2.map (mpK av.K bA)), .own (a.flatMap aj.c), .own [.mp 4], .map (s.map (mpK av.K bA)), .own [.hs 6 0 o.length 2], .own (o.flatMap ag.c), .own (al.c g), .own [ae level], .own [.mp 10], .map (d.1.map (mpK av.K (gA aj.c))), .own (aj.c (gt a j))] 125 (.mp 1) (.agg (aj.c (gt a j))) false)) (zy (kt := 101) (e := 4) (l := d.2) (f := bA) (z := false) (K := av.K) (x := (gt a j)) av.key (by kernel_rfl) (by kernel_rfl) (by kernel_rfl) (by kernel_rfl) (by kernel_rfl))) (.mu 1 (.done (.nh [7, 8, 10, 11, 12, 14, 37, 38, 39, 46] [.own [.mp 1], .map (d.2.map (mpK av.K bA)), .own (a.flatMap aj.c), .own [.mp 4], .map (s.map (mpK av.K bA)), .own [.hs 6 0 o.length 2], .own (o.flatMap ag.c), .own (al.c g), .own [ae level], .own [.mp 10], .map (d.1.map (mpK av.K (gA aj.c))), .own (aj.c (gt a j))] ?_))))))))))))
   refine .cd hr ?_ ?_ <;> intro kz hr
   ·obtain ⟨u, W, hr⟩ := bd hr
    refine .g1 G (lf 8 (.own [ae level]) [(3, .own [.mp 12])] [(9, .own [.mp 13]), (5, .own [.hs 14 0 u.2.length 2]), (12, .map (u.1.map (mpK av.K bA))), (13, .map (d.1.map (mpK av.K (gA aj.c)))), (14, .own (u.2.flatMap ag.c)), (4, .dead), (10, .dead), (6, .dead)] (lf 7 (.own (al.c g)) [(3, .own [.mp 12])] [(8, .own [ae level]), (9, .own [.mp 13]), (5, .own [.hs 14 0 u.2.length 2]), (12, .map (u.1.map (mpK av.K bA))), (13, .map (d.1.map (mpK av.K (gA aj.c)))), (14, .own (u.2.flatMap ag.c)), (4, .dead), (10, .dead), (6, .dead)] (bX (args := [.agg (aj.c (gt a j)), aB false, .hp 3 0, .hp 7 0, .hp 8 0, .hp 9 0, .hp 5 0]) 5 3 [(3, true), (7, true), (8, true), (9, true), (5, true), (4, false), (10, false), (6, false)] [true, true, true, true, true, false, false, false] (mH n (gt a j) false s g.X0 g.Y0 g.Step g.Width g.Height g.Z level d.1 o u W) (by exact ⟨gD (fun _ => rfl) _, ⟨gD (fun _ => rfl) _, ⟨aY ag.pure _, trivial⟩⟩⟩) (by exact ⟨gD (fun _ => rfl) _, ⟨gD (fun _ => rfl) _, ⟨aY ag.pure _, trivial⟩⟩⟩) rfl rfl (by kernel_rfl) (by kernel_rfl)))) (.mu 2 (.ca cf0 (.done (.pop (.ru G ?_)))))
    exact aA (u.1, u.2, Fj (j + 1)) hr ((Wk.gc [7, 8, 10, 11, 12, 37, 38, 39] [(0, true), (1, false), (2, false), (3, true), (12, false), (5, true), (14, false), (7, true), (8, true), (9, true), (13, false)] rfl (pKt (pKM av.K bA (fun _ => rfl) d.2 (pKo aj.c aj.pure a (pKt (pKM av.K bA (fun _ => rfl) u.1 (pKt (pKo ag.c ag.pure u.2 (pKt (pKt (pKt (pKM av.K (gA aj.c) (fun _ => rfl) d.1 trivial)))))))))))).to)
   refine .skip (.pop (.ru G ?_))
   exact aA (s, o, Fj (j + 1)) hr ((Wk.gc [7, 8, 10, 11, 12, 37, 38, 39] [(0, true), (1, false), (2, false), (3, true), (4, false), (5, true), (6, false), (7, true), (8, true), (9, true), (10, false)] rfl (pKt (pKM av.K bA (fun _ => rfl) d.2 (pKo aj.c aj.pure a (pKt (pKM av.K bA (fun _ => rfl) s (pKt (pKo ag.c ag.pure o (pKt (pKt (pKt (pKM av.K (gA aj.c) (fun _ => rfl) d.1 trivial)))))))))))).to)
  refine .leave rfl ?_
  obtain rfl := oi hr
  exact ⟨rfl, ((Wk.gc [8, 10, 11, 12] [(2, false), (3, true), (4, false), (5, true), (6, false), (7, true), (8, true), (9, true), (10, false)] rfl (pKo aj.c aj.pure a (pKt (pKM av.K bA (fun _ => rfl) s (pKt (pKo ag.c ag.pure o (pKt (pKt (pKt (pKM av.K (gA aj.c) (fun _ => rfl) d.1 trivial)))))))))).to)⟩
 rcases V with ⟨C, B⟩
 rintro x st' D
 clear H
 obtain ⟨rfl, D⟩ := D
 refine aW _ rfl (.wk D (.seq (.seq (.r4 G [10, 11, 12] [(51, .hs 0 0 a.length 2), (52, ae (a.length : Int)), (53, ae 0)] (.block ?_)))))
 replace hr := bd hr; obtain ⟨w, J, hr⟩ := hr
 refine .aM (σ := fun N => match N with | (q, p, k) => ⟨mkS 68 0 [(10, .hp 0 0), (11, .hp 2 0), (12, .fn 93 [] [.hp 0 0, .hp 4 0, .hp 5 0, .hp 6 0, .hp 2 0]), (51, .hs 8 0 a.length 2), (52, ae (a.length : Int)), (53, ae k)], [.own [.mp 1], .map (q.map (mpK av.K bA)), .own [.hs 3 0 p.length 2], .own (p.flatMap ag.c), .own (al.c g), .own [ae level], .own [.mp 7], .map (d.1.map (mpK av.K (gA aj.c))), .own (a.flatMap aj.c)]⟩) (Q := fun x st' => x = .exit 4 /\ Wk 0 st' ⟨mkS 68 0 [(11, .hp 0 0)], [.own [.hs 1 0 w.length 2], .own (w.flatMap ag.c)]⟩) J ((Wk.gc [10, 11, 12, 51, 52, 53] [(1, true), (2, false), (3, true), (4, false), (5, true), (6, true), (7, true), (8, false), (0, false)] rfl (pKt (pKM av.K bA (fun _ => rfl) C (pKt (pKo ag.c ag.pure B (pKt (pKt (pKt (pKM av.K (gA aj.c) (fun _ => rfl) d.1 (pKo aj.c aj.pure a trivial)))))))))).to) ?_ ?_
 ·clear hr
  rintro m ⟨q, p, k⟩ hr
  show CQ _ _ _ _ _ ⟨_, _⟩
  refine .seq (.r4 G [10, 11, 12, 51, 52, 53] [(54, aB (decide (k < (a.length : Int))))] (.seq ?_))
  refine .cd hr ?_ ?_ <;> intro ki hr
  ·refine .skip (.seq (.block (.seq ?_)))
   obtain ⟨L, hr⟩ := gd hr
   refine .r0 G (.p0 (v := .hp 8 (0 + k.toNat * 2)) (tr (au L)) (.p0 (v := .agg (aj.c (gt a k))) (tr (y := bB.ofP (ei (decide (2 <= ((a.flatMap aj.c).drop (0 + k.toNat * 2)).length)) (.agg (((a.flatMap aj.c).drop (0 + k.toNat * 2)).take 2)))) (b6 aj.len (aC L) (by decide) (by omega : 0 + k.toNat * 2 = k.toNat * 2 + 0) (by kernel_rfl))) (.mu 2 (.done (.nh [10, 11, 12, 16, 51, 52, 53] [.own [.mp 1], .map (q.map (mpK av.K bA)), .own [.hs 3 0 p.length 2], .own (p.flatMap ag.c), .own (al.c g), .own [ae level], .own [.mp 7], .map (d.1.map (mpK av.K (gA aj.c))), .own (a.flatMap aj.c), .own (aj.c (gt a k))] (.seq (.r0 G (.mu 2 (.p0 (v := aB (getM false q (gt a k))) (tr (y := bB.ofP (fu Tryz.prog [.own [.mp 1], .map (q.map (mpK av.K bA)), .own [.hs 3 0 p.length 2], .own (p.flatMap ag.c), .own (al.c g), .own [ae level], .own [.mp 7], .map (d.1.map (mpK av.K (gA aj.c))), .own (a.flatMap aj.c), .own (aj.c (gt a k))] 125 (.mp 1) (.agg (aj.c (gt a k))) false)) (zy (kt := 101) (e := 4) (l := q) (f := bA) (z := false) (K := av.K) (x := (gt a k)) av.key (by kernel_rfl) (by kernel_rfl) (by kernel_rfl) (by kernel_rfl) (by kernel_rfl))) (.mu 1 (.done (.nh [10, 11, 12, 16, 51, 52, 53, 60] [.own [.mp 1], .map (q.map (mpK av.K bA)), .own [.hs 3 0 p.length 2], .own (p.flatMap ag.c), .own (al.c g), .own [ae level], .own [.mp 7], .map (d.1.map (mpK av.K (gA aj.c))), .own (a.flatMap aj.c), .own (aj.c (gt a k))] ?_))))))))))))
   refine .cd hr ?_ ?_ <;> intro kO hr
   ·obtain ⟨A, X, hr⟩ := bd hr
    refine .g1 G (lf 5 (.own [ae level]) [(0, .own [.mp 10])] [(6, .own [.mp 11]), (2, .own [.hs 12 0 A.2.length 2]), (10, .map (A.1.map (mpK av.K bA))), (11, .map (d.1.map (mpK av.K (gA aj.c)))), (12, .own (A.2.flatMap ag.c)), (1, .dead), (7, .dead), (3, .dead)] (lf 4 (.own (al.c g)) [(0, .own [.mp 10])] [(5, .own [ae level]), (6, .own [.mp 11]), (2, .own [.hs 12 0 A.2.length 2]), (10, .map (A.1.map (mpK av.K bA))), (11, .map (d.1.map (mpK av.K (gA aj.c)))), (12, .own (A.2.flatMap ag.c)), (1, .dead), (7, .dead), (3, .dead)] (bX (args := [.agg (aj.c (gt a k)), aB true, .hp 0 0, .hp 4 0, .hp 5 0, .hp 6 0, .hp 2 0]) 5 3 [(0, true), (4, true), (5, true), (6, true), (2, true), (1, false), (7, false), (3, false)] [true, true, true, true, true, false, false, false] (mH n (gt a k) true q g.X0 g.Y0 g.Step g.Width g.Height g.Z level d.1 p A X) (by exact ⟨gD (fun _ => rfl) _, ⟨gD (fun _ => rfl) _, ⟨aY ag.pure _, trivial⟩⟩⟩) (by exact ⟨gD (fun _ => rfl) _, ⟨gD (fun _ => rfl) _, ⟨aY ag.pure _, trivial⟩⟩⟩) rfl rfl (by kernel_rfl) (by kernel_rfl)))) (.mu 2 (.ca cf0 (.done (.pop (.ru G ?_)))))
    exact aA (A.1, A.2, Fj (k + 1)) hr ((Wk.gc [10, 11, 12, 51, 52, 53] [(0, true), (10, false), (2, true), (12, false), (4, true), (5, true), (6, true), (11, false), (8, false)] rfl (pKt (pKM av.K bA (fun _ => rfl) A.1 (pKt (pKo ag.c ag.pure A.2 (pKt (pKt (pKt (pKM av.K (gA aj.c) (fun _ => rfl) d.1 (pKo aj.c aj.pure a trivial)))))))))).to)
   refine .skip (.pop (.ru G ?_))
   exact aA (q, p, Fj (k + 1)) hr ((Wk.gc [10, 11, 12, 51, 52, 53] [(0, true), (1, false), (2, true), (3, false), (4, true), (5, true), (6, true), (7, false), (8, false)] rfl (pKt (pKM av.K bA (fun _ => rfl) q (pKt (pKo ag.c ag.pure p (pKt (pKt (pKt (pKM av.K (gA aj.c) (fun _ => rfl) d.1 (pKo aj.c aj.pure a trivial)))))))))).to)
  refine .leave rfl ?_
  obtain rfl := oi hr
  exact ⟨rfl, ((Wk.gc [11] [(2, true), (3, false)] rfl (pKt (pKo ag.c ag.pure p trivial))).to)⟩
 rintro x st' E
 clear J
 obtain ⟨rfl, E⟩ := E
 refine aW _ rfl (.wk E (.seq ?_))
 obtain ⟨Y, iP, hr⟩ := bd hr
 obtain ⟨j4, hr⟩ := gd hr
 refine .g1 G (bX (args := [.hs 1 0 w.length 2, .fn 95 [] []]) 1 0 [(1, false)] [false] (c9 n w Y iP) (by exact ⟨aY ag.pure _, trivial⟩) (by exact ⟨aY ag.pure _, trivial⟩) rfl rfl (by kernel_rfl) (by kernel_rfl)) (.mu 1 (.ca cf0 (.done (.nh [11] [.own [.hs 1 0 w.length 2], .own (Y.flatMap ag.c)] (.seq (.r3 G 68 [(4, .hs 1 0 w.length 2)] (.ret ?_)))))))
 obtain rfl := oi hr
 exact aK.ret (vs := [.hs 1 0 w.length 2]) (by kernel_rfl) (Sn.hse (dcT j4) rfl (.inl rfl) (SnC.pure (aY ag.pure _)) (fun h => cJ h))

theorem uu (n : Nat) (g : al) (level : Int) (r : List ag × Int) (hr : kr n g level = some r) : aL Tryz.prog 14 [.agg (al.c g), ae level] (.tup [slT ag.c r.1, ae r.2]) := by
 unfold kr at hr
 refine aL.bd G Tryz.func14 [.tmp 4, .tmp 5] ?_
 unfold Tryz.f14
 simp only [gS]
 refine .seq (.r5 G [1] [(2, .hp 0 0)] [.own (al.c g)] (.seq (.seq ?_)))
 obtain ⟨a, b, hr⟩ := bd hr
 refine .g1 G (ok0 (gC n g level a b)) (.mu 2 (.ca cf0 (.mu 1 (.done (.nh [1, 2, 6] [.own (al.c g)] (.seq (.r4 G [1, 2, 6] [(11, aB ((a : Int) != 0))] ?_)))))))
 refine .cd hr ?_ ?_ <;> intro f hr
 ·refine .seq (.r3 G 16 [(4, nS), (5, ae a)] (.ret ?_))
  obtain rfl := oi hr
  exact aK.ret (vs := [nS, ae a]) (by kernel_rfl) (Sn.tup (SnL.cons Sn.fR (Sp SnL.nil)))
 refine .skip (.seq ?_)
 obtain ⟨e, d, hr⟩ := bd hr
 refine .g1 G (ok0 (pc n g level e d)) (.mu 2 (.ca cf0 (.mu 2 (.done (.ret ?_)))))
 obtain rfl := oi hr
 exact aK.ret (vs := [slT ag.c e, ae 0]) (by kernel_rfl) (Sn.tup (Sp (Sp SnL.nil)))

theorem ow (n : Nat) {b : Int} {a : Int} (h : ([.at (.int .i64 b)] : List AV) = [.at (.int .i64 a)]) : bF n b = bF n a := by
 obtain rfl := eW h
 rfl
theorem ct (n : Nat) (f : Int) (r : ai) (hr : bF n f = some r) : aL Tryz.prog 61 [ae f] (.agg (ai.c r)) := by
 unfold bF at hr
 refine aL.bd G Tryz.func61 [.cell 2 42] ?_
 unfold Tryz.f61
 simp only [gS]
 refine .seq (.r5 G [0] [(2, .hp 0 0)] [.own zN2] (.seq ?_))
 obtain ⟨a, b, d, e, hr⟩ := bd2 hr
 refine .gn G (ca1 (ok0 (jy n f a b)) (ca3 (ok0 (jy n 1 d e)))) (.mu 1 (.ca cf0 (.ca (cfA (fun h => by rw [sv e b (rP n h)]) cf0) (.mu 2 (.done (.nh [2] [.own [aB a.Negative, an a.Groups, aB d.Negative, an d.Groups]] (.ret ?_)))))))
 obtain rfl := oi hr
 exact aK.r1 [.agg [aB a.Negative, an a.Groups, aB d.Negative, an d.Groups]]

theorem pr (n : Nat) (a : Int) (r : Bool) (hr : kG n a = some r) : aL Tryz.prog 198 [ae a] (aB r) := by
 unfold kG at hr
 refine aL.bd G Tryz.func198 [.tmp 2] ?_
 unfold Tryz.f198
 simp only [gS]
 refine .seq (.r4 G [0] [] (.seq (.ru G (.ret ?_))))
 obtain rfl := oi hr
 exact aK.r1 [aB ((a : Int) != a)]

theorem si (n : Nat) (a : Int) (y : Int) (r : Int) (hr : jm n a y = some r) : aL Tryz.prog 179 [ae a, ae y] (ae r) := by
 unfold jm at hr
 refine aL.bd G Tryz.func179 [.tmp 4] ?_
 unfold Tryz.f179
 simp only [gS]
 refine .seq (.r4 G [0, 1] [] (.seq ?_))
 obtain ⟨e, b, hr⟩ := bd hr
 refine .g1 G (ok0 (pr n a e b)) (.mu 1 (.ca cf0 (.mu 1 (.done (.nh [0, 1, 5] [] (.seq ?_))))))
 obtain ⟨c, d, hr⟩ := bd hr
 refine .g1 G (ok0 (pr n y c d)) (.mu 1 (.ca cf0 (.mu 1 (.done (.nh [0, 1, 5, 6] [] (.seq (.seq (.r4 G [0, 1, 6] [(11, aB e)] ?_))))))))
 refine .cd hr ?_ ?_ <;> intro f hr
 ·refine .seq (.seq (.r3 G 20 [(12, aB c)] ?_))
  refine .cd hr ?_ ?_ <;> intro g hr
  ·refine .seq (.ru G (.ret ?_))
   obtain rfl := oi hr
   exact aK.r1 [ae 0]
  refine .skip (.seq (.ru G (.ret ?_)))
  obtain rfl := oi hr
  exact aK.r1 [ae (-1)]
 refine .skip (.seq (.seq (.r4 G [0, 1] [(13, aB c)] ?_)))
 refine .cd hr ?_ ?_ <;> intro h hr
 ·refine .seq (.ru G (.ret ?_))
  obtain rfl := oi hr
  exact aK.r1 [ae 1]
 refine .skip (.seq (.seq (.r4 G [0, 1] [(16, aB (decide (a < y)))] ?_)))
 refine .cd hr ?_ ?_ <;> intro i hr
 ·refine .seq (.ru G (.ret ?_))
  obtain rfl := oi hr
  exact aK.r1 [ae (-1)]
 refine .skip (.seq (.seq (.r3 G 20 [(19, aB (decide (a > y)))] ?_)))
 refine .cd hr ?_ ?_ <;> intro j hr
 ·refine .seq (.ru G (.ret ?_))
  obtain rfl := oi hr
  exact aK.r1 [ae 1]
 refine .skip (.seq (.ru G (.ret ?_)))
 obtain rfl := oi hr
 exact aK.r1 [ae 0]

theorem nI (n : Nat) (a : ah) (y : ah) (r : Int) (hr : gL n a y = some r) : aL Tryz.prog 144 [.agg (ah.c a), .agg (ah.c y)] (ae r) := by
 unfold gL at hr
 refine aL.bd G Tryz.func144 [.tmp 4] ?_
 unfold Tryz.f144
 simp only [gS]
 refine .seq (.r2 G 28 [(2, .hp 0 0), (3, .hp 1 0)] [.own (ah.c a), .own (ah.c y)] (.seq (.seq ?_)))
 obtain ⟨j, d, k, e, hr⟩ := bd2 hr
 refine .tn G (ca1 (ok0 (fM n a j d)) (ca3 (ok0 (fM n y k e)))) (.mu 1 (.ca cf0 (.mu 1 (.ca (cfA (fun h => by rw [sv e d (uS n h)]) cf0) (.mu 2 ?_)))))
 refine .done ⟨by kernel_rfl, ?_⟩
 refine .nh [2, 3, 5, 6] [.own (ah.c a), .own (ah.c y)] (.seq (.r4 G [2, 3, 5, 6] [(14, aB ((j : Int) != k))] ?_))
 refine .cd hr ?_ ?_ <;> intro q hr
 ·refine .seq ?_
  obtain ⟨m, l, hr⟩ := bd hr
  refine .g1 G (ok0 (si n j k m l)) (.mu 2 (.ca cf0 (.mu 1 (.done (.ret ?_)))))
  obtain rfl := oi hr
  exact aK.r1 [ae m]
 refine .skip (.seq ?_)
 obtain ⟨o, f, g, b, v12, i, hr⟩ := bd3 hr
 refine .tn G (ca1 (ok0 (cu n a o f)) (ca1 (ok0 (cu n y g b)) (ca3 (ok0 (kQ n o g v12 i))))) (.mu 1 (.ca cf0 (.mu 1 (.ca (cfA (fun h => by rw [sv b f (gU n h)]) cf0) (.ca (cfF (cfF cf0)) (.mu 1 ?_))))))
 refine .done ⟨by kernel_rfl, ?_⟩
 refine .nh [2, 7] [.own (ah.c a), .own (ah.c y)] (.seq (.seq (.r4 G [7] [(24, aB a.Negative)] ?_)))
 refine .cd hr ?_ ?_ <;> intro p hr
 ·refine .seq (.r0 G (.mu 1 (.p0 (v := ae (Fj (0 - v12))) (tr (y := some (.pure (ae (IntKind.wrap .i64 (0 - v12))))) xw) (.mu 1 (.done (.ret ?_))))))
  obtain rfl := oi hr
  exact aK.r1 [ae (Fj (0 - v12))]
 refine .skip (.seq (.ru G (.ret ?_)))
 obtain rfl := oi hr
 exact aK.r1 [ae v12]

theorem jb {b : ai} {a : ai} (h : ([.agg [.at (.bool b.Num.Negative), slT iCu b.Num.Groups, .at (.bool b.Den.Negative), slT iCu b.Den.Groups]] : List AV) = [.agg [.at (.bool a.Num.Negative), slT iCu a.Num.Groups, .at (.bool a.Den.Negative), slT iCu a.Den.Groups]]) : b = a := by
 obtain ⟨⟨_, _⟩, ⟨_, _⟩⟩ := b
 obtain ⟨⟨_, _⟩, ⟨_, _⟩⟩ := a
 simp only [List.cons.injEq, AV.agg.injEq, AV.at.injEq, Value.int.injEq, Value.bool.injEq, AV.fn.injEq, AV.pp.injEq, true_and, and_true, eC] at h
 simp_all
theorem ou (n : Nat) {b : ai} {a : ai} (h : ([.agg (ai.c b)] : List AV) = [.agg (ai.c a)]) : dW n b = dW n a := by
 obtain rfl := jb h
 rfl
theorem eO (n : Nat) (a : ai) (r : Bool) (hr : dW n a = some r) : aL Tryz.prog 101 [.agg (ai.c a)] (aB r) := by
 unfold dW at hr
 refine aL.bd G Tryz.func101 [.tmp 2] ?_
 unfold Tryz.f101
 simp only [gS]
 refine .seq (.r2 G 27 [(1, .hp 0 0)] [.own (ai.c a)] (.seq (.seq ?_)))
 obtain ⟨m, d, hr⟩ := bd hr
 rcases bT (!m) with b | b
 ·replace hr := cC b hr
  refine .g1 G (ok0 (ff n a.Num m d)) (.mu 2 (.ca cf0 (.p0 (v := aB true) (eB b) (.mu 12 (.done (.nh [1, 18] [.own (ai.c a)] (.cT (by kernel_rfl) (.seq (.ru G (.ret ?_))))))))))
  obtain rfl := oi hr
  exact aK.r1 [aB false]
 replace hr := cB b hr
 obtain ⟨o, f, hr⟩ := bd hr
 rcases bT (!o) with e | e
 ·replace hr := cC e hr
  refine .gn G (ca1 (ok0 (ff n a.Num m d)) (ca3 (ok0 (ff n a.Den o f)))) (.mu 2 (.ca cf0 (.p0 (v := aB false) (eB b) (.mu 3 (.ca (cfA (fun h => by rw [sv f d (o7 n h)]) cf0) (.pure (v := aB true) (by kernel_rfl) (eB e) (.mu 7 (.done (.nh [1, 18] [.own (ai.c a)] (.cT (by kernel_rfl) (.seq (.ru G (.ret ?_)))))))))))))
  obtain rfl := oi hr
  exact aK.r1 [aB false]
 replace hr := cB e hr
 obtain ⟨q, p, hr⟩ := bd hr
 refine .gn G (ca1 (ok0 (ff n a.Num m d)) (ca1 (ok0 (ff n a.Den o f)) (ca3 (ok0 (fM n a.Den q p))))) (.mu 2 (.ca cf0 (.p0 (v := aB false) (eB b) (.mu 3 (.ca (cfA (fun h => by rw [sv f d (o7 n h)]) cf0) (.pure (v := aB false) (by kernel_rfl) (eB e) (.mu 4 (.ca (cfF (cfF cf0)) (.mu 2 (.done (.nh [1, 18] [.own (ai.c a)] ?_)))))))))))
 refine .cd hr ?_ ?_ <;> intro s hr
 ·refine .seq (.ru G (.ret ?_))
  obtain rfl := oi hr
  exact aK.r1 [aB false]
 refine .skip (.seq ?_)
 obtain ⟨g, i, v12, j, k, l, hr⟩ := bd3 hr
 refine .gn G (ca1 (ok0 (nN n a.Num a.Den g i)) (ca1 (ok0 (jy n 1 v12 j)) (ca3 (ok0 (nI n g v12 k l))))) (.mu 4 (.ca cf0 (.ca (cfF cf0) (.ca (cfF (cfF cf0)) (.mu 2 (.done (.ret ?_)))))))
 obtain rfl := oi hr
 exact aK.r1 [aB ((k : Int) == 0)]

theorem sd (n : Nat) (f : ai) (r : ai) (hr : jf n f = some r) : aL Tryz.prog 159 [.agg (ai.c f)] (.agg (ai.c r)) := by
 unfold jf at hr
 refine aL.bd G Tryz.func159 [.cell 2 42] ?_
 unfold Tryz.f159
 simp only [gS]
 refine .seq (.r2 G 12 [(1, .hp 0 0), (2, .hp 1 0)] [.own (ai.c f), .own zN2] (.seq ?_))
 obtain ⟨j, a, g, b, k, d, hr⟩ := bd3 hr
 obtain ⟨i, e, hr⟩ := bd hr
 refine .tn G (ca1 (ok0 (gl n f.Num j a)) (ca1 (ok0 (gl n j g b)) (ca1 (ok0 (gl n f.Den k d)) (ca3 (ok0 (gl n k i e)))))) (.mu 2 (.ca cf0 (.ca (cfA (fun h => by rw [sv b a (gv n h)]) cf0) (.mu 2 (.ca (cfA (fun h => by rw [sv d a (gv n h)]) (cfA (fun h => by rw [sv d b (gv n h)]) cf0)) (.ca (cfA (fun h => by rw [sv e a (gv n h)]) (cfA (fun h => by rw [sv e b (gv n h)]) (cfA (fun h => by rw [sv e d (gv n h)]) cf0))) (.mu 2 ?_)))))))
 refine .done ⟨by kernel_rfl, ?_⟩
 refine .nh [2] [.own (ai.c f), .own [aB g.Negative, an g.Groups, aB i.Negative, an i.Groups]] (.ret ?_)
 obtain rfl := oi hr
 exact aK.r1 [.agg [aB g.Negative, an g.Groups, aB i.Negative, an i.Groups]]

theorem jH (n : Nat) {b : ai} {a : ai} (h : ([.agg (ai.c b)] : List AV) = [.agg (ai.c a)]) : cg n b = cg n a := by
 obtain rfl := jb h
 rfl
theorem cV (n : Nat) (a : ai) (r : ai) (hr : cg n a = some r) : aL Tryz.prog 121 [.agg (ai.c a)] (.agg (ai.c r)) := by
 unfold cg at hr
 refine aL.bd G Tryz.func121 [.cell 2 42] ?_
 unfold Tryz.f121
 simp only [gS]
 refine .seq (.r2 G 8 [(1, .hp 0 0), (2, .hp 1 0)] [.own (ai.c a), .own zN2] (.seq (.seq ?_)))
 obtain ⟨h, b, hr⟩ := bd hr
 refine .g1 G (ok0 (eO n a h b)) (.mu 1 (.ca cf0 (.done (.nh [1, 2, 4] [.own (ai.c a), .own zN2] ?_))))
 refine .cd hr ?_ ?_ <;> intro i hr
 ·refine .seq ?_
  obtain ⟨d, e, hr⟩ := bd hr
  refine .g1 G (ok0 (sd n a d e)) (.mu 1 (.ca cf0 (.mu 1 (.done (.nh [2] [.own (ai.c a), .own (ai.c d)] (.ret ?_))))))
  obtain rfl := oi hr
  exact aK.r1 [.agg (ai.c d)]
 refine .skip (.seq ?_)
 obtain ⟨f, g, hr⟩ := bd hr
 refine .g1 G (ok0 (ct n 0 f g)) (.ca cf0 (.mu 1 (.done (.nh [2] [.own (ai.c a), .own (ai.c f)] (.ret ?_)))))
 obtain rfl := oi hr
 exact aK.r1 [.agg (ai.c f)]

theorem fk (n : Nat) {b : ai} {a : ai} (h : ([.agg (ai.c b)] : List AV) = [.agg (ai.c a)]) : a7 n b = a7 n a := by
 obtain rfl := jb h
 rfl
theorem bc (n : Nat) (a : ai) (r : Int) (hr : a7 n a = some r) : aL Tryz.prog 107 [.agg (ai.c a)] (ae r) := by
 unfold a7 at hr
 refine aL.bd G Tryz.func107 [.tmp 2] ?_
 unfold Tryz.f107
 simp only [gS]
 refine .seq (.r2 G 7 [(1, .hp 0 0)] [.own (ai.c a)] (.seq ?_))
 obtain ⟨e, b, f, d, hr⟩ := bd2 hr
 refine .gn G (ca1 (ok0 (cV n a e b)) (ca3 (ok0 (fM n e.Num f d)))) (.mu 1 (.ca cf0 (.mu 1 (.ca (cfF cf0) (.mu 1 (.done (.ret ?_)))))))
 obtain rfl := oi hr
 exact aK.r1 [ae f]

theorem uT (n : Nat) (d : ai) (r : ai) (hr : lK n d = some r) : aL Tryz.prog 120 [.agg (ai.c d)] (.agg (ai.c r)) := by
 unfold lK at hr
 refine aL.bd G Tryz.func120 [.cell 2 42] ?_
 unfold Tryz.f120
 simp only [gS]
 refine .seq (.r2 G 11 [(1, .hp 0 0), (2, .hp 1 0)] [.own (ai.c d), .own zN2] (.seq ?_))
 obtain ⟨a, e, hr⟩ := bd hr
 refine .g1 G (ok0 (cV n d a e)) (.mu 1 (.ca cf0 (.mu 1 (.done (.nh [1, 2] [.own (ai.c a), .own zN2] (.seq ?_))))))
 obtain ⟨b, f, hr⟩ := bd hr
 refine .t1 G (ok0 (gl n a.Num b f)) (.mu 2 (.ca cf0 (.mu 4 ?_)))
 refine .done ⟨by kernel_rfl, ?_⟩
 refine .nh [2] [.own (ai.c a), .own [aB b.Negative, an b.Groups, aB a.Den.Negative, an a.Den.Groups]] (.ret ?_)
 obtain rfl := oi hr
 exact aK.r1 [.agg [aB b.Negative, an b.Groups, aB a.Den.Negative, an a.Den.Groups]]

theorem qf {b : ah} {y : ah} {a : ah} {c : ah} (h : ([.agg [.at (.bool b.Negative), slT iCu b.Groups], .agg [.at (.bool y.Negative), slT iCu y.Groups]] : List AV) = [.agg [.at (.bool a.Negative), slT iCu a.Groups], .agg [.at (.bool c.Negative), slT iCu c.Groups]]) : b = a /\ y = c := by
 obtain ⟨_, _⟩ := b
 obtain ⟨_, _⟩ := a
 obtain ⟨_, _⟩ := y
 obtain ⟨_, _⟩ := c
 simp only [List.cons.injEq, AV.agg.injEq, AV.at.injEq, Value.int.injEq, Value.bool.injEq, AV.fn.injEq, AV.pp.injEq, true_and, and_true, eC] at h
 simp_all
theorem iF (n : Nat) {b : ah} {y : ah} {a : ah} {d : ah} (h : ([.agg (ah.c b), .agg (ah.c y)] : List AV) = [.agg (ah.c a), .agg (ah.c d)]) : dE n b y = dE n a d := by
 obtain ⟨rfl, rfl⟩ := qf h
 rfl
theorem eS (n : Nat) (a : ah) (y : ah) (r : ah) (hr : dE n a y = some r) : aL Tryz.prog 123 [.agg (ah.c a), .agg (ah.c y)] (.agg (ah.c r)) := by
 unfold dE at hr
 refine aL.bd G Tryz.func123 [.cell 4 40] ?_
 unfold Tryz.f123
 simp only [gS]
 refine .seq (.r2 G 16 [(2, .hp 0 0), (3, .hp 1 0), (4, .hp 2 0)] [.own (ah.c a), .own (ah.c y), .own [aB false, nS]] (.seq ?_))
 obtain ⟨i, b, j, d, k, e, hr⟩ := bd3 hr
 obtain ⟨f, g, hr⟩ := bd hr
 refine .tn G (ca1 (ok0 (cu n a i b)) (ca1 (ok0 (cu n y j d)) (ca1 (ok0 (ua n i j k e)) (ca3 (ok0 (b9 n (a.Negative != y.Negative) k f g)))))) (.mu 6 (.ca cf0 (.mu 1 (.ca (cfA (fun h => by rw [sv d b (gU n h)]) cf0) (.ca (cfF (cfF cf0)) (.ca (cfF (cfF (cfF cf0))) (.mu 1 ?_)))))))
 refine .done ⟨by kernel_rfl, ?_⟩
 refine .nh [4] [.own (ah.c a), .own (ah.c y), .own (ah.c f)] (.ret ?_)
 obtain rfl := oi hr
 exact aK.r1 [.agg (ah.c f)]

theorem vh (n : Nat) (negative : Bool) (a : List Int) (other : Bool) (b : List Int) (r : ah) (hr : mI n negative a other b = some r) : aL Tryz.prog 163 [aB negative, an a, aB other, an b] (.agg (ah.c r)) := by
 unfold mI at hr
 refine aL.bd G Tryz.func163 [.cell 8 40] ?_
 unfold Tryz.f163
 simp only [gS]
 refine .seq (.r5 G [0, 1, 2, 3] [(8, .hp 0 0)] [.own [aB false, nS]] (.seq (.block (.seq (.r4 G [0, 1, 2, 3, 8] [(9, aB (negative == other))] ?_)))))
 refine .cd hr ?_ ?_ <;> intro s hr
 ·refine .seq ?_
  obtain ⟨p, k, l, m, hr⟩ := bd2 hr
  refine .gn G (ca1 (ok0 (qa n a b p k)) (ca3 (ok0 (b9 n negative p l m)))) (.mu 3 (.ca cf0 (.ca (cfF cf0) (.mu 1 (.done (.nh [8] [.own (ah.c l)] (.ret ?_)))))))
  obtain rfl := oi hr
  exact aK.r1 [.agg (ah.c l)]
 refine .seq ?_
 obtain ⟨t, o, hr⟩ := bd hr
 refine .g1 G (ok0 (kQ n a b t o)) (.mu 2 (.ca cf0 (.mu 2 (.done (.nh [0, 1, 2, 3, 8, 18] [.own [aB false, nS]] ?_)))))
 refine .cd hr ?_ ?_ <;> intro u hr
 ·refine .seq ?_
  obtain ⟨q, f, d, g, hr⟩ := bd2 hr
  refine .gn G (ca1 (ok0 (mb n a b q f)) (ca3 (ok0 (b9 n negative q d g)))) (.mu 3 (.ca cf0 (.ca (cfF cf0) (.mu 1 (.done (.nh [8] [.own (ah.c d)] (.ret ?_)))))))
  obtain rfl := oi hr
  exact aK.r1 [.agg (ah.c d)]
 refine .skip (.pop (.seq ?_))
 obtain ⟨h, i, e, j, hr⟩ := bd2 hr
 refine .gn G (ca1 (ok0 (mb n b a h i)) (ca3 (ok0 (b9 n other h e j)))) (.mu 3 (.ca cf0 (.ca (cfF cf0) (.mu 1 (.done (.nh [8] [.own (ah.c e)] (.ret ?_)))))))
 obtain rfl := oi hr
 exact aK.r1 [.agg (ah.c e)]

theorem vI (n : Nat) (a : ah) (y : ah) (r : ah) (hr : mB n a y = some r) : aL Tryz.prog 124 [.agg (ah.c a), .agg (ah.c y)] (.agg (ah.c r)) := by
 unfold mB at hr
 refine aL.bd G Tryz.func124 [.cell 4 40] ?_
 unfold Tryz.f124
 simp only [gS]
 refine .seq (.r2 G 14 [(2, .hp 0 0), (3, .hp 1 0), (4, .hp 2 0)] [.own (ah.c a), .own (ah.c y), .own [aB false, nS]] (.seq ?_))
 obtain ⟨g, b, i, d, e, f, hr⟩ := bd3 hr
 refine .tn G (ca1 (ok0 (cu n a g b)) (ca1 (ok0 (cu n y i d)) (ca3 (ok0 (vh n a.Negative g y.Negative i e f))))) (.mu 3 (.ca cf0 (.mu 3 (.ca (cfA (fun h => by rw [sv d b (gU n h)]) cf0) (.ca (cfF (cfF cf0)) (.mu 1 ?_))))))
 refine .done ⟨by kernel_rfl, ?_⟩
 refine .nh [4] [.own (ah.c a), .own (ah.c y), .own (ah.c e)] (.ret ?_)
 obtain rfl := oi hr
 exact aK.r1 [.agg (ah.c e)]

theorem iG {b : ai} {y : ai} {a : ai} {c : ai} (h : ([.agg [.at (.bool b.Num.Negative), slT iCu b.Num.Groups, .at (.bool b.Den.Negative), slT iCu b.Den.Groups], .agg [.at (.bool y.Num.Negative), slT iCu y.Num.Groups, .at (.bool y.Den.Negative), slT iCu y.Den.Groups]] : List AV) = [.agg [.at (.bool a.Num.Negative), slT iCu a.Num.Groups, .at (.bool a.Den.Negative), slT iCu a.Den.Groups], .agg [.at (.bool c.Num.Negative), slT iCu c.Num.Groups, .at (.bool c.Den.Negative), slT iCu c.Den.Groups]]) : b = a /\ y = c := by
 obtain ⟨⟨_, _⟩, ⟨_, _⟩⟩ := b
 obtain ⟨⟨_, _⟩, ⟨_, _⟩⟩ := a
 obtain ⟨⟨_, _⟩, ⟨_, _⟩⟩ := y
 obtain ⟨⟨_, _⟩, ⟨_, _⟩⟩ := c
 simp only [List.cons.injEq, AV.agg.injEq, AV.at.injEq, Value.int.injEq, Value.bool.injEq, AV.fn.injEq, AV.pp.injEq, true_and, and_true, eC] at h
 simp_all
theorem uW (n : Nat) {b : ai} {y : ai} {a : ai} {d : ai} (h : ([.agg (ai.c b), .agg (ai.c y)] : List AV) = [.agg (ai.c a), .agg (ai.c d)]) : b7 n b y = b7 n a d := by
 obtain ⟨rfl, rfl⟩ := iG h
 rfl
theorem dc (n : Nat) (o : ai) (y : ai) (r : ai) (hr : b7 n o y = some r) : aL Tryz.prog 80 [.agg (ai.c o), .agg (ai.c y)] (.agg (ai.c r)) := by
 unfold b7 at hr
 refine aL.bd G Tryz.func80 [.cell 4 42] ?_
 unfold Tryz.f80
 simp only [gS]
 refine .seq (.r2 G 26 [(2, .hp 0 0), (3, .hp 1 0), (4, .hp 2 0)] [.own (ai.c o), .own (ai.c y), .own zN2] (.seq ?_))
 obtain ⟨f, i, g, j, hr⟩ := bd2 hr
 refine .tn G (ca1 (ok0 (cV n o f i)) (ca3 (ok0 (cV n y g j)))) (.mu 1 (.ca cf0 (.mu 1 (.ca (cfA (fun h => by rw [sv j i (jH n h)]) cf0) (.mu 2 ?_)))))
 refine .done ⟨by kernel_rfl, ?_⟩
 refine .nh [2, 3, 4] [.own (ai.c f), .own (ai.c g), .own zN2] (.seq ?_)
 obtain ⟨p, b, q, d, s, k, hr⟩ := bd3 hr
 obtain ⟨l, a, e, m, hr⟩ := bd2 hr
 refine .tn G (ca1 (ok0 (eS n f.Num g.Den p b)) (ca1 (ok0 (eS n g.Num f.Den q d)) (ca1 (ok0 (vI n p q s k)) (ca1 (ok0 (eS n f.Den g.Den l a)) (ca3 (ok0 (iw n s l e m))))))) (.mu 4 (.ca cf0 (.mu 4 (.ca (cfA (fun h => by rw [sv d b (iF n h)]) cf0) (.ca (cfF (cfF cf0)) (.mu 4 (.ca (cfA (fun h => by rw [sv a b (iF n h)]) (cfA (fun h => by rw [sv a d (iF n h)]) (cfF cf0))) (.ca (cfF (cfF (cfF (cfF cf0)))) (.mu 1 ?_)))))))))
 refine .done ⟨by kernel_rfl, ?_⟩
 refine .nh [4] [.own (ai.c f), .own (ai.c g), .own (ai.c e)] (.ret ?_)
 obtain rfl := oi hr
 exact aK.r1 [.agg (ai.c e)]

theorem mT (n : Nat) {b : ai} {y : ai} {a : ai} {d : ai} (h : ([.agg (ai.c b), .agg (ai.c y)] : List AV) = [.agg (ai.c a), .agg (ai.c d)]) : c6 n b y = c6 n a d := by
 obtain ⟨rfl, rfl⟩ := iG h
 rfl
theorem ee (n : Nat) (a : ai) (y : ai) (r : ai) (hr : c6 n a y = some r) : aL Tryz.prog 75 [.agg (ai.c a), .agg (ai.c y)] (.agg (ai.c r)) := by
 unfold c6 at hr
 refine aL.bd G Tryz.func75 [.cell 4 42] ?_
 unfold Tryz.f75
 simp only [gS]
 refine .seq (.r2 G 9 [(2, .hp 0 0), (3, .hp 1 0), (4, .hp 2 0)] [.own (ai.c a), .own (ai.c y), .own zN2] (.seq ?_))
 obtain ⟨f, b, d, e, hr⟩ := bd2 hr
 refine .tn G (ca1 (ok0 (uT n y f b)) (ca3 (ok0 (dc n a f d e)))) (.mu 2 (.ca cf0 (.ca (cfF cf0) (.mu 1 ?_))))
 refine .done ⟨by kernel_rfl, ?_⟩
 refine .nh [4] [.own (ai.c a), .own (ai.c y), .own (ai.c d)] (.ret ?_)
 obtain rfl := oi hr
 exact aK.r1 [.agg (ai.c d)]

theorem nR (n : Nat) (p : ai) (b : ai) (a : ai) (tip : ai) (r : ai) (hr : eZ n p b a tip = some r) : aL Tryz.prog 74 [.agg (ai.c p), .agg (ai.c b), .agg (ai.c a), .agg (ai.c tip)] (.agg (ai.c r)) := by
 unfold eZ at hr
 refine aL.bd G Tryz.func74 [.cell 8 42] ?_
 unfold Tryz.f74
 simp only [gS]
 refine .seq (.r2 G 12 [(7, .hp 3 0), (8, .hp 4 0)] [.own (ai.c p), .own (ai.c b), .own (ai.c a), .own (ai.c tip), .own zN2] (.seq ?_))
 obtain ⟨g, d, e, f, hr⟩ := bd2 hr
 refine .tn G (ca1 (ok0 (ct n 1 g d)) (ca3 (ok0 (ee n g tip e f)))) (.ca cf0 (.mu 1 (.ca (cfF cf0) (.mu 1 ?_))))
 refine .done ⟨by kernel_rfl, ?_⟩
 refine .nh [8] [.own (ai.c p), .own (ai.c b), .own (ai.c a), .own (ai.c tip), .own (ai.c e)] (.ret ?_)
 obtain rfl := oi hr
 exact aK.r1 [.agg (ai.c e)]

theorem m7 (n : Nat) {b : ai} {y : ai} {a : ai} {d : ai} (h : ([.agg (ai.c b), .agg (ai.c y)] : List AV) = [.agg (ai.c a), .agg (ai.c d)]) : cO n b y = cO n a d := by
 obtain ⟨rfl, rfl⟩ := iG h
 rfl
theorem dF (n : Nat) (j : ai) (y : ai) (r : ai) (hr : cO n j y = some r) : aL Tryz.prog 78 [.agg (ai.c j), .agg (ai.c y)] (.agg (ai.c r)) := by
 unfold cO at hr
 refine aL.bd G Tryz.func78 [.cell 4 42] ?_
 unfold Tryz.f78
 simp only [gS]
 refine .seq (.r2 G 20 [(2, .hp 0 0), (3, .hp 1 0), (4, .hp 2 0)] [.own (ai.c j), .own (ai.c y), .own zN2] (.seq ?_))
 obtain ⟨a, b, d, e, hr⟩ := bd2 hr
 refine .tn G (ca1 (ok0 (cV n j a b)) (ca3 (ok0 (cV n y d e)))) (.mu 1 (.ca cf0 (.mu 1 (.ca (cfA (fun h => by rw [sv e b (jH n h)]) cf0) (.mu 2 ?_)))))
 refine .done ⟨by kernel_rfl, ?_⟩
 refine .nh [2, 3, 4] [.own (ai.c a), .own (ai.c d), .own zN2] (.seq ?_)
 obtain ⟨l, f, m, g, k, i, hr⟩ := bd3 hr
 refine .tn G (ca1 (ok0 (eS n a.Num d.Num l f)) (ca1 (ok0 (eS n a.Den d.Den m g)) (ca3 (ok0 (iw n l m k i))))) (.mu 4 (.ca cf0 (.mu 4 (.ca (cfA (fun h => by rw [sv g f (iF n h)]) cf0) (.ca (cfF (cfF cf0)) (.mu 1 ?_))))))
 refine .done ⟨by kernel_rfl, ?_⟩
 refine .nh [4] [.own (ai.c a), .own (ai.c d), .own (ai.c k)] (.ret ?_)
 obtain rfl := oi hr
 exact aK.r1 [.agg (ai.c k)]

theorem nH (n : Nat) (k : ai) (y : ai) (r : ai × Int) (hr : gN n k y = some r) : aL Tryz.prog 119 [.agg (ai.c k), .agg (ai.c y)] (.tup [.agg (ai.c r.1), ae r.2]) := by
 unfold gN at hr
 refine aL.bd G Tryz.func119 [.cell 4 42, .tmp 5] ?_
 unfold Tryz.f119
 simp only [gS]
 refine .seq (.r2 G 26 [(2, .hp 0 0), (3, .hp 1 0), (4, .hp 2 0)] [.own (ai.c k), .own (ai.c y), .own zN2] (.seq ?_))
 obtain ⟨d, e, b, f, hr⟩ := bd2 hr
 refine .tn G (ca1 (ok0 (cV n k d e)) (ca3 (ok0 (cV n y b f)))) (.mu 1 (.ca cf0 (.mu 1 (.ca (cfA (fun h => by rw [sv f e (jH n h)]) cf0) (.mu 2 ?_)))))
 refine .done ⟨by kernel_rfl, ?_⟩
 refine .nh [2, 3, 4] [.own (ai.c d), .own (ai.c b), .own zN2] (.seq (.seq ?_))
 obtain ⟨o, l, hr⟩ := bd hr
 refine .g1 G (ok0 (fM n b.Num o l)) (.mu 2 (.ca cf0 (.mu 1 (.done (.nh [2, 3, 4, 13] [.own (ai.c d), .own (ai.c b), .own zN2] ?_)))))
 refine .cd hr ?_ ?_ <;> intro p hr
 ·refine .seq (.r4 G [4] [(5, ae 14)] (.ret ?_))
  obtain rfl := oi hr
  exact aK.ret (vs := [.agg zN2, ae 14]) (by kernel_rfl) (Sn.tup (SnL.cons (Sn.agg (Sp (SnL.cons Sn.fR (Sp (SnL.cons Sn.fR SnL.nil))))) (Sp SnL.nil)))
 refine .skip (.seq ?_)
 obtain ⟨m, g, i, a, v12, j, hr⟩ := bd3 hr
 refine .tn G (ca1 (ok0 (eS n d.Num b.Den m g)) (ca1 (ok0 (eS n d.Den b.Num i a)) (ca3 (ok0 (iw n m i v12 j))))) (.mu 4 (.ca cf0 (.mu 4 (.ca (cfA (fun h => by rw [sv a g (iF n h)]) cf0) (.ca (cfF (cfF cf0)) (.mu 2 ?_))))))
 refine .done ⟨by kernel_rfl, ?_⟩
 refine .nh [4, 5] [.own (ai.c d), .own (ai.c b), .own (ai.c v12)] (.ret ?_)
 obtain rfl := oi hr
 exact aK.ret (vs := [.agg (ai.c v12), ae 0]) (by kernel_rfl) (Sn.tup (Sp (Sp SnL.nil)))

theorem oW (n : Nat) (a : ai) (b : ai) (c : ai) (r : ai) (hr : gh n a b c = some r) : aL Tryz.prog 73 [.agg (ai.c a), .agg (ai.c b), .agg (ai.c c)] (.agg (ai.c r)) := by
 unfold gh at hr
 refine aL.bd G Tryz.func73 [.cell 6 42] ?_
 unfold Tryz.f73
 simp only [gS]
 refine .seq (.r2 G 24 [(3, .hp 0 0), (4, .hp 1 0), (5, .hp 2 0), (6, .hp 3 0)] [.own (ai.c a), .own (ai.c b), .own (ai.c c), .own zN2] (.seq ?_))
 obtain ⟨k, d, l, e, m, f, hr⟩ := bd3 hr
 obtain ⟨o, g, i, j, hr⟩ := bd2 hr
 refine .tn G (ca1 (ok0 (dF n a a k d)) (ca1 (ok0 (ee n a b l e)) (ca1 (ok0 (ee n a c m f)) (ca1 (ok0 (dF n l m o g)) (ca3 (ok0 (nH n k o i j))))))) (.mu 2 (.ca cf0 (.mu 2 (.ca (cfF cf0) (.mu 2 (.ca (cfF (cfA (fun h => by rw [sv f e (mT n h)]) cf0)) (.ca (cfA (fun h => by rw [sv g d (m7 n h)]) (cfF (cfF cf0))) (.ca (cfF (cfF (cfF (cfF cf0)))) (.mu 6 ?_)))))))))
 refine .done ⟨by kernel_rfl, ?_⟩
 refine .nh [6, 7] [.own (ai.c a), .own (ai.c b), .own (ai.c c), .own zN2, .own (ai.c i.1)] (.seq (.r5 G [6] [] [.own (ai.c a), .own (ai.c b), .own (ai.c c), .own (ai.c i.1), .own (ai.c i.1)] (.ret ?_)))
 obtain rfl := oi hr
 exact aK.r1 [.agg (ai.c i.1)]

theorem qK (n : Nat) (t : A3 Int) (p : Int) (p' : Int) (u : Int) (j : Int) (i : Int) (f : List Int) (g : Int) (e : Bool) (d : List Int) (b : Bool) (a : List Int) (r : Bool × List Int × Bool × List Int) (hr : ia n t p p' u j i f g e d b a = some r) : dk 5 Tryz.prog 117 [.agg (aw.c t), .hp 0 0, .hp 1 0, .hp 2 0, .hp 3 0, .hp 4 0] [.own [ae p, ae p', ae u, ae j, ae i, bf f], .own [ae g], .own [aB e, an d, aB b, an a], .own [.fn 74 [] []], .own [.fn 73 [] []]] (.tup []) [.own [ae p, ae p', ae u, ae j, ae i, bf f], .own [ae g], .own [aB r.1, an r.2.1, aB r.2.2.1, an r.2.2.2], .own [.fn 74 [] []], .own [.fn 73 [] []]] := by
 unfold ia at hr
 refine dk.kp G Tryz.func117 (c := (Tryz.f117.body).getD .skip) rfl (us := []) (s := mkS 104 0 [(0, .agg (aw.c t)), (1, .hp 0 0), (2, .hp 1 0), (3, .hp 2 0), (4, .hp 3 0), (5, .hp 4 0)]) (by kernel_rfl) (rs := []) rfl ?_
 unfold Tryz.f117
 simp only [gS]
 refine .seq (.r5 G [1, 2, 3, 4, 5] [(6, .hp 5 0)] [.own [ae p, ae p', ae u, ae j, ae i, bf f], .own [ae g], .own [aB e, an d, aB b, an a], .own [.fn 74 [] []], .own [.fn 73 [] []], .own (aw.c t)] (.seq (.r5 G [1, 2, 3, 4, 5, 6] [(7, .hp 6 0)] [.own [ae p, ae p', ae u, ae j, ae i, bf f], .own [ae g], .own [aB e, an d, aB b, an a], .own [.fn 74 [] []], .own [.fn 73 [] []], .own (aw.c t), .own [aB false, nS, aB false, nS, aB false, nS, aB false, nS, aB false, nS, aB false, nS]] (.seq (.r4 G [1, 2, 3, 4, 5, 6, 7] [(8, ae 0)] (.seq (.seq (.r4 G [1, 2, 3, 4, 5, 7, 8] [(12, .agg (aw.c t)), (13, ae 0)] (.block ?_)))))))))
 refine .Bf 4 (UNR.one ?_)
 refine .seq (.r4 G [1, 2, 3, 4, 5, 7, 8, 12, 13] [(14, aB true)] (.seq (.cT (by kernel_rfl) (.skip (.seq ?_)))))
 replace hr := bd hr; obtain ⟨vS, l6, hr⟩ := hr
 refine .vD (Q := fun x st' => match (generalizing := false) vS with | (k, l, o, q, mJ) => x = .normal /\ Wk 5 st' ⟨mkS 104 0 [(1, .hp 0 0), (2, .hp 1 0), (3, .hp 2 0), (4, .hp 3 0), (5, .hp 4 0), (7, .hp 5 0), (8, ae mJ), (12, .agg (aw.c t)), (13, ae 0)], [.own [ae p, ae p', ae u, ae j, ae i, bf f], .own [ae g], .own [aB e, an d, aB b, an a], .own [.fn 74 [] []], .own [.fn 73 [] []], .own [aB k, an l, aB o, an q, aB false, nS, aB false, nS, aB false, nS, aB false, nS]]⟩) ?_ ?_
 ·clear hr
  have hr := l6
  clear l6
  refine .block (.seq (.r4 G [1, 2, 3, 4, 5, 7, 8, 12, 13] [(9, ae 0), (10, ae t.e0)] (.seq ?_)))
  obtain ⟨vU, hr⟩ := gd hr
  obtain ⟨S, An, hr⟩ := bd hr
  refine .t1 G (ok0 (eJ n (Fj ((Fj (2 * (gt f t.e0))) - g)) 2 S An)) (.mu 4 (.pk (v := .pp (f.flatMap (iC .i64)) (t.e0.toNat * 1)) (tr (au vU)) (.pk (v := ae (gt f t.e0)) (tr (aG (aH (aE .i64) (aC vU) z1 (by omega : t.e0.toNat * 1 = t.e0.toNat * 1 + 0) (by kernel_rfl)))) (.mu 3 (.ca cf0 (.mu 5 ?_))))))
  refine .done ⟨by kernel_rfl, ?_⟩
  refine .nh [1, 2, 3, 4, 5, 7, 8, 9, 12, 13] [.own [ae p, ae p', ae u, ae j, ae i, bf f], .own [ae g], .own [aB e, an d, aB b, an a], .own [.fn 74 [] []], .own [.fn 73 [] []], .own (aw.c t), .own [aB S.1.Num.Negative, an S.1.Num.Groups, aB S.1.Den.Negative, an S.1.Den.Groups, aB false, nS, aB false, nS, aB false, nS, aB false, nS]] (.seq ?_)
  obtain ⟨Ca, Au, hr⟩ := bd hr
  refine .g1 G (ok0 (bc n S.1 Ca Au)) (.mu 3 (.ca cf0 (.mu 1 (.done (.nh [1, 2, 3, 4, 5, 7, 8, 12, 13, 35] [.own [ae p, ae p', ae u, ae j, ae i, bf f], .own [ae g], .own [aB e, an d, aB b, an a], .own [.fn 74 [] []], .own [.fn 73 [] []], .own (aw.c t), .own [aB S.1.Num.Negative, an S.1.Num.Groups, aB S.1.Den.Negative, an S.1.Den.Groups, aB false, nS, aB false, nS, aB false, nS, aB false, nS]] ?_)))))
  refine .cd hr ?_ ?_ <;> intro Ez hr
  ·refine .ru G (.pop ?_)
   obtain rfl := oi hr
   exact ⟨rfl, ((Wk.gc [1, 2, 3, 4, 5, 7, 8, 12, 13] [(0, true), (1, true), (2, true), (3, true), (4, true), (6, true)] rfl trivial).to)⟩
  refine .skip (.pop ?_)
  obtain rfl := oi hr
  exact ⟨rfl, ((Wk.gc [1, 2, 3, 4, 5, 7, 8, 12, 13] [(0, true), (1, true), (2, true), (3, true), (4, true), (6, true)] rfl trivial).to)⟩
 rcases vS with ⟨k, l, o, q, mJ⟩
 rintro x st' nz
 clear l6
 obtain ⟨rfl, nz⟩ := nz
 refine .wk nz (.ru G (UNR.next (.n2 104 [(1, .hp 0 0), (2, .hp 1 0), (3, .hp 2 0), (4, .hp 3 0), (5, .hp 4 0), (7, .hp 5 0), (8, ae mJ), (12, .agg (aw.c t)), (13, ae 1)] [.own [ae p, ae p', ae u, ae j, ae i, bf f], .own [ae g], .own [aB e, an d, aB b, an a], .own [.fn 74 [] []], .own [.fn 73 [] []], .own [aB k, an l, aB o, an q, aB false, nS, aB false, nS, aB false, nS, aB false, nS]] (.seq (.r4 G [1, 2, 3, 4, 5, 7, 8, 12, 13] [(14, aB true)] (.seq (.cT (by kernel_rfl) (.skip (.seq ?_)))))))))
 replace hr := bd hr; obtain ⟨xf, nG, hr⟩ := hr
 refine .vD (Q := fun x st' => match (generalizing := false) xf with | (y, z, A, B, n7) => x = .normal /\ Wk 5 st' ⟨mkS 104 0 [(1, .hp 0 0), (2, .hp 1 0), (3, .hp 2 0), (4, .hp 3 0), (5, .hp 4 0), (7, .hp 5 0), (8, ae n7), (12, .agg (aw.c t)), (13, ae 1)], [.own [ae p, ae p', ae u, ae j, ae i, bf f], .own [ae g], .own [aB e, an d, aB b, an a], .own [.fn 74 [] []], .own [.fn 73 [] []], .own [aB k, an l, aB o, an q, aB y, an z, aB A, an B, aB false, nS, aB false, nS]]⟩) ?_ ?_
 ·clear hr
  have hr := nG
  clear nG
  refine .block (.seq (.r4 G [1, 2, 3, 4, 5, 7, 8, 12, 13] [(9, ae 1), (10, ae t.e1)] (.seq ?_)))
  obtain ⟨vg, hr⟩ := gd hr
  obtain ⟨T, z9, hr⟩ := bd hr
  refine .t1 G (ok0 (eJ n (Fj ((Fj (2 * (gt f t.e1))) - g)) 2 T z9)) (.mu 4 (.pk (v := .pp (f.flatMap (iC .i64)) (t.e1.toNat * 1)) (tr (au vg)) (.pk (v := ae (gt f t.e1)) (tr (aG (aH (aE .i64) (aC vg) z1 (by omega : t.e1.toNat * 1 = t.e1.toNat * 1 + 0) (by kernel_rfl)))) (.mu 3 (.ca cf0 (.mu 5 ?_))))))
  refine .done ⟨by kernel_rfl, ?_⟩
  refine .nh [1, 2, 3, 4, 5, 7, 8, 9, 12, 13] [.own [ae p, ae p', ae u, ae j, ae i, bf f], .own [ae g], .own [aB e, an d, aB b, an a], .own [.fn 74 [] []], .own [.fn 73 [] []], .own [aB k, an l, aB o, an q, aB T.1.Num.Negative, an T.1.Num.Groups, aB T.1.Den.Negative, an T.1.Den.Groups, aB false, nS, aB false, nS]] (.seq ?_)
  obtain ⟨Co, By, hr⟩ := bd hr
  refine .g1 G (ok0 (bc n T.1 Co By)) (.mu 3 (.ca cf0 (.mu 1 (.done (.nh [1, 2, 3, 4, 5, 7, 8, 12, 13, 35] [.own [ae p, ae p', ae u, ae j, ae i, bf f], .own [ae g], .own [aB e, an d, aB b, an a], .own [.fn 74 [] []], .own [.fn 73 [] []], .own [aB k, an l, aB o, an q, aB T.1.Num.Negative, an T.1.Num.Groups, aB T.1.Den.Negative, an T.1.Den.Groups, aB false, nS, aB false, nS]] ?_)))))
  refine .cd hr ?_ ?_ <;> intro EF hr
  ·refine .ru G (.pop ?_)
   obtain rfl := oi hr
   exact ⟨rfl, ((Wk.gc [1, 2, 3, 4, 5, 7, 8, 12, 13] kT6 rfl trivial).to)⟩
  refine .skip (.pop ?_)
  obtain rfl := oi hr
  exact ⟨rfl, ((Wk.gc [1, 2, 3, 4, 5, 7, 8, 12, 13] kT6 rfl trivial).to)⟩
 rcases xf with ⟨y, z, A, B, n7⟩
 rintro x st' q9
 clear nG
 obtain ⟨rfl, q9⟩ := q9
 refine .wk q9 (.ru G (UNR.next (.n2 104 [(1, .hp 0 0), (2, .hp 1 0), (3, .hp 2 0), (4, .hp 3 0), (5, .hp 4 0), (7, .hp 5 0), (8, ae n7), (12, .agg (aw.c t)), (13, ae 2)] [.own [ae p, ae p', ae u, ae j, ae i, bf f], .own [ae g], .own [aB e, an d, aB b, an a], .own [.fn 74 [] []], .own [.fn 73 [] []], .own [aB k, an l, aB o, an q, aB y, an z, aB A, an B, aB false, nS, aB false, nS]] (.seq (.r4 G [1, 2, 3, 4, 5, 7, 8, 12, 13] [(14, aB true)] (.seq (.cT (by kernel_rfl) (.skip (.seq ?_)))))))))
 replace hr := bd hr; obtain ⟨xh, qq, hr⟩ := hr
 refine .vD (Q := fun x st' => match (generalizing := false) xh with | (ml, mc, jo, jJ, w) => x = .normal /\ Wk 5 st' ⟨mkS 104 0 [(1, .hp 0 0), (2, .hp 1 0), (3, .hp 2 0), (4, .hp 3 0), (5, .hp 4 0), (7, .hp 5 0), (8, ae w), (12, .agg (aw.c t)), (13, ae 2)], [.own [ae p, ae p', ae u, ae j, ae i, bf f], .own [ae g], .own [aB e, an d, aB b, an a], .own [.fn 74 [] []], .own [.fn 73 [] []], .own [aB k, an l, aB o, an q, aB y, an z, aB A, an B, aB ml, an mc, aB jo, an jJ]]⟩) ?_ ?_
 ·clear hr
  have hr := qq
  clear qq
  refine .block (.seq (.r4 G [1, 2, 3, 4, 5, 7, 8, 12, 13] [(9, ae 2), (10, ae t.e2)] (.seq ?_)))
  obtain ⟨wq, hr⟩ := gd hr
  obtain ⟨U, BX, hr⟩ := bd hr
  refine .t1 G (ok0 (eJ n (Fj ((Fj (2 * (gt f t.e2))) - g)) 2 U BX)) (.mu 4 (.pk (v := .pp (f.flatMap (iC .i64)) (t.e2.toNat * 1)) (tr (au wq)) (.pk (v := ae (gt f t.e2)) (tr (aG (aH (aE .i64) (aC wq) z1 (by omega : t.e2.toNat * 1 = t.e2.toNat * 1 + 0) (by kernel_rfl)))) (.mu 3 (.ca cf0 (.mu 5 ?_))))))
  refine .done ⟨by kernel_rfl, ?_⟩
  refine .nh [1, 2, 3, 4, 5, 7, 8, 9, 12, 13] [.own [ae p, ae p', ae u, ae j, ae i, bf f], .own [ae g], .own [aB e, an d, aB b, an a], .own [.fn 74 [] []], .own [.fn 73 [] []], .own [aB k, an l, aB o, an q, aB y, an z, aB A, an B, aB U.1.Num.Negative, an U.1.Num.Groups, aB U.1.Den.Negative, an U.1.Den.Groups]] (.seq ?_)
  obtain ⟨Cc, Ci, hr⟩ := bd hr
  refine .g1 G (ok0 (bc n U.1 Cc Ci)) (.mu 3 (.ca cf0 (.mu 1 (.done (.nh [1, 2, 3, 4, 5, 7, 8, 12, 13, 35] [.own [ae p, ae p', ae u, ae j, ae i, bf f], .own [ae g], .own [aB e, an d, aB b, an a], .own [.fn 74 [] []], .own [.fn 73 [] []], .own [aB k, an l, aB o, an q, aB y, an z, aB A, an B, aB U.1.Num.Negative, an U.1.Num.Groups, aB U.1.Den.Negative, an U.1.Den.Groups]] ?_)))))
  refine .cd hr ?_ ?_ <;> intro Eu hr
  ·refine .ru G (.pop ?_)
   obtain rfl := oi hr
   exact ⟨rfl, ((Wk.gc [1, 2, 3, 4, 5, 7, 8, 12, 13] kT6 rfl trivial).to)⟩
  refine .skip (.pop ?_)
  obtain rfl := oi hr
  exact ⟨rfl, ((Wk.gc [1, 2, 3, 4, 5, 7, 8, 12, 13] kT6 rfl trivial).to)⟩
 rcases xh with ⟨ml, mc, jo, jJ, w⟩
 rintro x st' qx
 clear qq
 obtain ⟨rfl, qx⟩ := qx
 refine .wk qx (.ru G (UNR.next (.n2 104 [(1, .hp 0 0), (2, .hp 1 0), (3, .hp 2 0), (4, .hp 3 0), (5, .hp 4 0), (7, .hp 5 0), (8, ae w), (12, .agg (aw.c t)), (13, ae 3)] [.own [ae p, ae p', ae u, ae j, ae i, bf f], .own [ae g], .own [aB e, an d, aB b, an a], .own [.fn 74 [] []], .own [.fn 73 [] []], .own [aB k, an l, aB o, an q, aB y, an z, aB A, an B, aB ml, an mc, aB jo, an jJ]] (.seq (.r4 G [1, 2, 3, 4, 5, 7, 8, 12, 13] [(14, aB false)] (.seq (.cF (by kernel_rfl) (.leave rfl (unF.exit rfl (.seq (.seq (.r4 G [3, 4, 5, 7, 8] [(39, ae w)] (.block (.seq (.r4 G [3, 4, 5, 7, 8, 39] [(40, aB ((w : Int) == 0))] ?_)))))))))))))))
 refine .cd hr ?_ ?_ <;> intro Ed hr
 ·refine .ret ?_
  obtain rfl := oi hr
  exact dm.ret [] ((Wk.gc [] kT5 rfl trivial).to)
 refine .seq (.r4 G [3, 4, 5, 7, 8] [(42, aB ((w : Int) == 3))] ?_)
 refine .cd hr ?_ ?_ <;> intro Ei hr
 ·refine .seq ?_
  obtain ⟨xd, BT, xl, BW, wN, B8, hr⟩ := bd3 hr
  refine .tn G (ca1 (ok0 (ct n 0 xd BT)) (ca1 (ok0 (nR n (ai.mk (ah.mk k l) (ah.mk o q)) (ai.mk (ah.mk y z) (ah.mk A B)) (ai.mk (ah.mk ml mc) (ah.mk jo jJ)) xd xl BW)) (ca3 (ok0 (dc n (ai.mk (ah.mk e d) (ah.mk b a)) xl wN B8))))) (.mu 8 (.ca cf0 (.ca (cfF cf0) (.ca (cfF (cfF cf0)) (.mu 1 ?_)))))
  refine .done ⟨by kernel_rfl, ?_⟩
  refine .nh [] [.own [ae p, ae p', ae u, ae j, ae i, bf f], .own [ae g], .own (ai.c wN), .own [.fn 74 [] []], .own [.fn 73 [] []], .own [aB k, an l, aB o, an q, aB y, an z, aB A, an B, aB ml, an mc, aB jo, an jJ]] (.ret ?_)
  obtain rfl := oi hr
  exact dm.ret [] ((Wk.gc [] kT5 rfl trivial).to)
 refine .skip (.pop (.seq (.block ?_)))
 replace hr := bd hr; obtain ⟨wZ, vC, hr⟩ := hr
 refine .aM (σ := fun z0 => match z0 with | (C, D, E, F, H, I, J, L, M, N, O, R) => ⟨mkS 104 0 [(3, .hp 2 0), (4, .hp 3 0), (5, .hp 4 0), (7, .hp 5 0), (8, ae w)], [.own [ae p, ae p', ae u, ae j, ae i, bf f], .own [ae g], .own [aB e, an d, aB b, an a], .own [.fn 74 [] []], .own [.fn 73 [] []], .own [aB C, an D, aB E, an F, aB H, an I, aB J, an L, aB M, an N, aB O, an R]]⟩) (Q := fun x st' => match (generalizing := false) wZ with | (W, X, Y, Z, iP, j4, ko, kj, kz, ki, kO, lj) => x = .exit 3 /\ Wk 5 st' ⟨mkS 104 0 [(3, .hp 2 0), (4, .hp 3 0), (5, .hp 4 0), (7, .hp 5 0), (8, ae w)], [.own [ae p, ae p', ae u, ae j, ae i, bf f], .own [ae g], .own [aB e, an d, aB b, an a], .own [.fn 74 [] []], .own [.fn 73 [] []], .own [aB W, an X, aB Y, an Z, aB iP, an j4, aB ko, an kj, aB kz, an ki, aB kO, an lj]]⟩) vC ((Wk.gc [3, 4, 5, 7, 8] kT6 rfl trivial).to) ?_ ?_
 ·clear hr
  rintro m ⟨C, D, E, F, H, I, J, L, M, N, O, R⟩ hr
  show CQ _ _ _ _ _ ⟨_, _⟩
  refine .seq (.seq ?_)
  replace hr := bd hr; obtain ⟨wW, kq, hr⟩ := hr
  refine .DX (Q := fun x st' => match (generalizing := false) wW with | .inl _ => x = .exit 3 /\ Wk 5 st' ⟨mkS 104 0 [(3, .hp 2 0), (4, .hp 3 0), (5, .hp 4 0), (7, .hp 5 0), (8, ae w)], [.own [ae p, ae p', ae u, ae j, ae i, bf f], .own [ae g], .own [aB e, an d, aB b, an a], .own [.fn 74 [] []], .own [.fn 73 [] []], .own [aB C, an D, aB E, an F, aB H, an I, aB J, an L, aB M, an N, aB O, an R]]⟩ | .inr (_) => x = .normal /\ Wk 5 st' ⟨mkS 104 0 [(3, .hp 2 0), (4, .hp 3 0), (5, .hp 4 0), (7, .hp 5 0), (8, ae w)], [.own [ae p, ae p', ae u, ae j, ae i, bf f], .own [ae g], .own [aB e, an d, aB b, an a], .own [.fn 74 [] []], .own [.fn 73 [] []], .own [aB C, an D, aB E, an F, aB H, an I, aB J, an L, aB M, an N, aB O, an R]]⟩) ?_ ?_
  ·clear hr
   have hr := kq
   clear kq
   obtain ⟨sW, kD, hr⟩ := bd hr
   rcases bT ((decide (sW > 0)) != ((w : Int) == 1)) with jL | jL
   ·replace hr := cC jL hr
    refine .t1 G (ok0 (bc n (ai.mk (ah.mk C D) (ah.mk E F)) sW kD)) (.mu 2 (.ca cf0 (.mu 3 (.pk (v := aB true) (eB jL) (.mu 11 ?_)))))
    refine .done ⟨by kernel_rfl, ?_⟩
    refine .nh [3, 4, 5, 7, 8, 72] [.own [ae p, ae p', ae u, ae j, ae i, bf f], .own [ae g], .own [aB e, an d, aB b, an a], .own [.fn 74 [] []], .own [.fn 73 [] []], .own [aB C, an D, aB E, an F, aB H, an I, aB J, an L, aB M, an N, aB O, an R]] (.cT (by kernel_rfl) (.skip ?_))
    obtain rfl := oi hr
    exact ⟨rfl, ((Wk.gc [3, 4, 5, 7, 8] kT6 rfl trivial).to)⟩
   replace hr := cB jL hr
   obtain ⟨BG, qg, Bz, sR, hr⟩ := bd2 hr
   refine .tn G (ca1 (ok0 (bc n (ai.mk (ah.mk C D) (ah.mk E F)) sW kD)) (ca1 (ok0 (bc n (ai.mk (ah.mk H I) (ah.mk J L)) BG qg)) (ca3 (ok0 (bc n (ai.mk (ah.mk M N) (ah.mk O R)) Bz sR))))) (.mu 2 (.ca cf0 (.mu 3 (.pk (v := aB false) (eB jL) (.mu 3 (.ca (cfA (fun h => by rw [sv qg kD (fk n h)]) cf0) (.mu 3 (.ca (cfA (fun h => by rw [sv sR kD (fk n h)]) (cfA (fun h => by rw [sv sR qg (fk n h)]) cf0)) (.mu 3 ?_)))))))))
   refine .done ⟨by kernel_rfl, ?_⟩
   refine .nh [3, 4, 5, 7, 8, 72] [.own [ae p, ae p', ae u, ae j, ae i, bf f], .own [ae g], .own [aB e, an d, aB b, an a], .own [.fn 74 [] []], .own [.fn 73 [] []], .own [aB C, an D, aB E, an F, aB H, an I, aB J, an L, aB M, an N, aB O, an R]] ?_
   refine .cd hr ?_ ?_ <;> intro EL hr
   ·refine .skip ?_
    obtain rfl := oi hr
    exact ⟨rfl, ((Wk.gc [3, 4, 5, 7, 8] kT6 rfl trivial).to)⟩
   refine .leave rfl ?_
   obtain rfl := oi hr
   exact ⟨rfl, ((Wk.gc [3, 4, 5, 7, 8] kT6 rfl trivial).to)⟩
  rcases wW with ⟨⟩ | ⟨⟩
  ·rintro x st' V
   clear kq
   obtain ⟨rfl, V⟩ := V
   refine vo _ rfl ?_
   obtain rfl := oi hr
   exact ⟨rfl, (V.trans ((Wk.gc [3, 4, 5, 7, 8] kT6 rfl trivial).to))⟩
  rintro x st' V
  clear kq
  obtain ⟨rfl, V⟩ := V
  refine .wk V (.block (.ru G (.pop ?_)))
  exact aA (H, I, J, L, M, N, O, R, C, D, E, F) hr ((Wk.gc [3, 4, 5, 7, 8] kT6 rfl trivial).to)
 rcases wZ with ⟨W, X, Y, Z, iP, j4, ko, kj, kz, ki, kO, lj⟩
 rintro x st' sT
 clear vC
 obtain ⟨rfl, sT⟩ := sT
 refine aW _ rfl (.wk sT (.seq ?_))
 obtain ⟨qD, Cp, hr⟩ := bd hr
 refine .g1 G (ok0 (oW n (ai.mk (ah.mk W X) (ah.mk Y Z)) (ai.mk (ah.mk iP j4) (ah.mk ko kj)) (ai.mk (ah.mk kz ki) (ah.mk kO lj)) qD Cp)) (.mu 7 (.ca cf0 (.mu 2 (.done (.nh [3, 4, 7, 8, 11] [.own [ae p, ae p', ae u, ae j, ae i, bf f], .own [ae g], .own [aB e, an d, aB b, an a], .own [.fn 74 [] []], .own [.fn 73 [] []], .own [aB W, an X, aB Y, an Z, aB iP, an j4, aB ko, an kj, aB kz, an ki, aB kO, an lj], .own (ai.c qD)] (.seq (.seq (.r4 G [3, 4, 7, 11] [(91, aB ((w : Int) == 2))] ?_))))))))
 refine .cd hr ?_ ?_ <;> intro Ew hr
 ·obtain ⟨tf, Bv, hr⟩ := bd hr
  refine .g1 G (ok0 (nR n (ai.mk (ah.mk W X) (ah.mk Y Z)) (ai.mk (ah.mk iP j4) (ah.mk ko kj)) (ai.mk (ah.mk kz ki) (ah.mk kO lj)) qD tf Bv)) (.mu 8 (.ca cf0 (.mu 1 (.done (.nh [3, 11] [.own [ae p, ae p', ae u, ae j, ae i, bf f], .own [ae g], .own [aB e, an d, aB b, an a], .own [.fn 74 [] []], .own [.fn 73 [] []], .own [aB W, an X, aB Y, an Z, aB iP, an j4, aB ko, an kj, aB kz, an ki, aB kO, an lj], .own (ai.c tf)] ?_)))))
  obtain ⟨BJ, B9, hr⟩ := bd hr
  refine .g1 G (ok0 (dc n (ai.mk (ah.mk e d) (ah.mk b a)) tf BJ B9)) (.mu 2 (.ca cf0 (.mu 1 (.done ?_))))
  obtain rfl := oi hr
  exact dm.normal [] ((Wk.gc [] kT5 rfl trivial).to)
 refine .skip ?_
 obtain ⟨Cm, BV, hr⟩ := bd hr
 refine .g1 G (ok0 (dc n (ai.mk (ah.mk e d) (ah.mk b a)) qD Cm BV)) (.mu 2 (.ca cf0 (.mu 1 (.done ?_))))
 obtain rfl := oi hr
 exact dm.normal [] ((Wk.gc [] kT5 rfl trivial).to)

theorem je (n : Nat) (g : al) (c : Int) (L : Int) (t : Int) (i : Int) (f : Int) (e : List Int) (d : Int) (z : Bool) (w : List Int) (u : Bool) (q : List Int) (r : Bool × List Int × Bool × List Int) (hr : bY n g c L t i f e d z w u q = some r) : dk 5 Tryz.prog 89 [.agg (al.c g), .fn 117 [] [.hp 0 0, .hp 1 0, .hp 2 0, .hp 3 0, .hp 4 0]] [.own [ae c, ae L, ae t, ae i, ae f, bf e], .own [ae d], .own [aB z, an w, aB u, an q], .own [.fn 74 [] []], .own [.fn 73 [] []]] (.tup []) [.own [ae c, ae L, ae t, ae i, ae f, bf e], .own [ae d], .own [aB r.1, an r.2.1, aB r.2.2.1, an r.2.2.2], .own [.fn 74 [] []], .own [.fn 73 [] []]] := by
 unfold bY at hr
 refine dk.kp G Tryz.func89 (c := (Tryz.f89.body).getD .skip) rfl (us := []) (s := mkS 82 0 [(0, .agg (al.c g)), (1, .fn 117 [] [.hp 0 0, .hp 1 0, .hp 2 0, .hp 3 0, .hp 4 0])]) (by kernel_rfl) (rs := []) rfl ?_
 unfold Tryz.f89
 simp only [gS]
 refine .seq (.r5 G [1] [(2, .hp 5 0)] [.own [ae c, ae L, ae t, ae i, ae f, bf e], .own [ae d], .own [aB z, an w, aB u, an q], .own [.fn 74 [] []], .own [.fn 73 [] []], .own (al.c g)] (.seq (.r4 G [1, 2] [(4, ae g.Width)] (.seq (.r4 G [1, 2, 4] [(14, ae (Fj (g.Height - 1))), (15, ae 0)] (.block ?_))))))
 replace hr := bd hr; obtain ⟨kD, j4, hr⟩ := hr
 refine .aM (σ := fun z0 => match z0 with | (ko, kj, kz, ki, h) => ⟨mkS 82 0 [(1, .fn 117 [] [.hp 0 0, .hp 1 0, .hp 2 0, .hp 3 0, .hp 4 0]), (2, .hp 5 0), (4, ae g.Width), (14, ae (Fj (g.Height - 1))), (15, ae h)], [.own [ae c, ae L, ae t, ae i, ae f, bf e], .own [ae d], .own [aB ko, an kj, aB kz, an ki], .own [.fn 74 [] []], .own [.fn 73 [] []], .own (al.c g)]⟩) (Q := fun x st' => match (generalizing := false) kD with | (kO, lj, ml, mc) => x = .exit 0 /\ Wk 5 st' ⟨mkS 82 0 [], [.own [ae c, ae L, ae t, ae i, ae f, bf e], .own [ae d], .own [aB kO, an lj, aB ml, an mc], .own [.fn 74 [] []], .own [.fn 73 [] []]]⟩) j4 ((Wk.gc [1, 2, 4, 14, 15] kT6 rfl trivial).to) ?_ ?_
 ·clear hr
  rintro m ⟨ko, kj, kz, ki, h⟩ hr
  show CQ _ _ _ _ _ ⟨_, _⟩
  refine .seq (.r4 G [1, 2, 4, 14, 15] [(16, aB (decide (h < (Fj (g.Height - 1)))))] (.seq ?_))
  refine .cd hr ?_ ?_ <;> intro q9 hr
  ·refine .skip (.seq (.block (.seq (.r4 G [1, 2, 4, 14, 15] [(5, ae h)] (.seq (.r4 G [1, 2, 4, 5, 14, 15] [(19, ae (Fj (g.Width - 1))), (20, ae 0)] (.block ?_)))))))
   replace hr := bd hr; obtain ⟨l6, jo, hr⟩ := hr
   refine .aM (σ := fun z0 => match z0 with | (C, D, E, F, j) => ⟨mkS 82 0 [(1, .fn 117 [] [.hp 0 0, .hp 1 0, .hp 2 0, .hp 3 0, .hp 4 0]), (2, .hp 5 0), (4, ae g.Width), (5, ae h), (14, ae (Fj (g.Height - 1))), (15, ae h), (19, ae (Fj (g.Width - 1))), (20, ae j)], [.own [ae c, ae L, ae t, ae i, ae f, bf e], .own [ae d], .own [aB C, an D, aB E, an F], .own [.fn 74 [] []], .own [.fn 73 [] []], .own (al.c g)]⟩) (Q := fun x st' => match (generalizing := false) l6 with | (N, O, R, S) => x = .exit 2 /\ Wk 5 st' ⟨mkS 82 0 [(1, .fn 117 [] [.hp 0 0, .hp 1 0, .hp 2 0, .hp 3 0, .hp 4 0]), (2, .hp 5 0), (4, ae g.Width), (14, ae (Fj (g.Height - 1))), (15, ae h)], [.own [ae c, ae L, ae t, ae i, ae f, bf e], .own [ae d], .own [aB N, an O, aB R, an S], .own [.fn 74 [] []], .own [.fn 73 [] []], .own (al.c g)]⟩) jo ((Wk.gc [1, 2, 4, 5, 14, 15, 19, 20] kT6 rfl trivial).to) ?_ ?_
   ·clear hr
    rintro m ⟨C, D, E, F, j⟩ hr
    show CQ _ _ _ _ _ ⟨_, _⟩
    refine .seq (.r4 G [1, 2, 4, 5, 14, 15, 19, 20] [(21, aB (decide (j < (Fj (g.Width - 1)))))] (.seq ?_))
    refine .cd hr ?_ ?_ <;> intro qq hr
    ·refine .skip (.seq (.block (.seq (.r4 G [1, 2, 4, 5, 14, 15, 19, 20] [(6, ae j)] (.seq (.r4 G [1, 2, 4, 5, 14, 15, 19, 20] [(7, ae (Fj ((Fj (h * g.Width)) + j)))] ?_))))))
     obtain ⟨H, nz, hr⟩ := bd hr
     refine .wk ((Wk.refl _).to (c := ⟨mkS 82 0 [(1, .fn 117 [] [.hp 0 0, .hp 1 0, .hp 2 0, .hp 3 0, .hp 4 0]), (2, .hp 5 0), (4, ae g.Width), (5, ae h), (7, ae H), (14, ae (Fj (g.Height - 1))), (15, ae h), (19, ae (Fj (g.Width - 1))), (20, ae j)], [.own [ae c, ae L, ae t, ae i, ae f, bf e], .own [ae d], .own [aB C, an D, aB E, an F], .own [.fn 74 [] []], .own [.fn 73 [] []], .own (al.c g)]⟩) (by rw [oi nz]; first | done | kernel_rfl)) <| .seq <| .r5 G [1, 2, 4, 5, 14, 15, 19, 20] [(45, .hs 6 0 2 3), (46, ae 2), (47, ae 0)] [.own [ae c, ae L, ae t, ae i, ae f, bf e], .own [ae d], .own [aB C, an D, aB E, an F], .own [.fn 74 [] []], .own [.fn 73 [] []], .own (al.c g), .own [ae H, ae (Fj (H + 1)), ae (Fj ((Fj (H + g.Width)) + 1)), ae H, ae (Fj ((Fj (H + g.Width)) + 1)), ae (Fj (H + g.Width))]] <| .block ?_
     obtain ⟨b, nG, hr⟩ := bd hr
     refine .wk ((Wk.refl _).to (c := ⟨mkS 82 0 [(1, .fn 117 [] [.hp 0 0, .hp 1 0, .hp 2 0, .hp 3 0, .hp 4 0]), (2, .hp 5 0), (4, ae g.Width), (5, ae h), (14, ae (Fj (g.Height - 1))), (15, ae h), (19, ae (Fj (g.Width - 1))), (20, ae j), (45, .hs 6 0 b.length 3), (46, ae 2), (47, ae 0)], [.own [ae c, ae L, ae t, ae i, ae f, bf e], .own [ae d], .own [aB C, an D, aB E, an F], .own [.fn 74 [] []], .own [.fn 73 [] []], .own (al.c g), .own (b.flatMap aw.c)]⟩) (by rw [<- oi nG]; kernel_rfl)) ?_
     replace hr := bd hr; obtain ⟨mJ, jJ, hr⟩ := hr
     refine .aM (σ := fun z0 => match z0 with | (k, l, o, p, a) => ⟨mkS 82 0 [(1, .fn 117 [] [.hp 0 0, .hp 1 0, .hp 2 0, .hp 3 0, .hp 4 0]), (2, .hp 5 0), (4, ae g.Width), (5, ae h), (14, ae (Fj (g.Height - 1))), (15, ae h), (19, ae (Fj (g.Width - 1))), (20, ae j), (45, .hs 6 0 b.length 3), (46, ae 2), (47, ae a)], [.own [ae c, ae L, ae t, ae i, ae f, bf e], .own [ae d], .own [aB k, an l, aB o, an p], .own [.fn 74 [] []], .own [.fn 73 [] []], .own (al.c g), .own (b.flatMap aw.c)]⟩) (Q := fun x st' => match (generalizing := false) mJ with | (T, U, V, W) => x = .exit 4 /\ Wk 5 st' ⟨mkS 82 0 [(1, .fn 117 [] [.hp 0 0, .hp 1 0, .hp 2 0, .hp 3 0, .hp 4 0]), (2, .hp 5 0), (4, ae g.Width), (5, ae h), (14, ae (Fj (g.Height - 1))), (15, ae h), (19, ae (Fj (g.Width - 1))), (20, ae j)], [.own [ae c, ae L, ae t, ae i, ae f, bf e], .own [ae d], .own [aB T, an U, aB V, an W], .own [.fn 74 [] []], .own [.fn 73 [] []], .own (al.c g)]⟩) jJ ((Wk.gc [1, 2, 4, 5, 14, 15, 19, 20, 45, 46, 47] [(0, true), (1, true), (2, true), (3, true), (4, true), (5, true), (6, false)] rfl (pKt (pKt (pKt (pKt (pKt (pKt (pKo aw.c aw.pure b trivial)))))))).to) ?_ ?_
     ·clear hr
      rintro m ⟨k, l, o, p, a⟩ hr
      show CQ _ _ _ _ _ ⟨_, _⟩
      refine .seq (.r4 G [1, 2, 4, 5, 14, 15, 19, 20, 45, 46, 47] [(48, aB (decide (a < 2)))] (.seq ?_))
      refine .cd hr ?_ ?_ <;> intro qx hr
      ·refine .skip (.seq (.block (.seq ?_)))
       obtain ⟨jL, hr⟩ := gd hr
       refine .r0 G (.p0 (v := .hp 6 (0 + a.toNat * 3)) (tr (au jL)) (.p0 (v := .agg (aw.c (gt b a))) (tr (y := bB.ofP (ei (decide (3 <= ((b.flatMap aw.c).drop (0 + a.toNat * 3)).length)) (.agg (((b.flatMap aw.c).drop (0 + a.toNat * 3)).take 3)))) (b6 aw.len (aC jL) (by decide) (by omega : 0 + a.toNat * 3 = a.toNat * 3 + 0) (by kernel_rfl))) (.mu 2 (.done (.nh [1, 2, 4, 5, 9, 14, 15, 19, 20, 45, 46, 47] [.own [ae c, ae L, ae t, ae i, ae f, bf e], .own [ae d], .own [aB k, an l, aB o, an p], .own [.fn 74 [] []], .own [.fn 73 [] []], .own (al.c g), .own (b.flatMap aw.c), .own (aw.c (gt b a))] (.seq ?_))))))
       obtain ⟨A, hr⟩ := gd hr
       rcases bT (((gt g.Z (gt b a).e0) : Int) != (-2147483648)) with B | B
       ·replace hr := cC B hr
        obtain ⟨J, hr⟩ := gd hr
        rcases bT (((gt g.Z (gt b a).e1) : Int) != (-2147483648)) with I | I
        ·replace hr := cC I hr
         obtain ⟨kq, hr⟩ := gd hr
         refine .r0 G (.mu 4 (.p0 (v := .pp (g.Z.flatMap (iC .i64)) ((gt b a).e0.toNat * 1)) (tr (au A)) (.p0 (v := ae (gt g.Z (gt b a).e0)) (tr (aG (aH (aE .i64) (aC A) z1 (by omega : (gt b a).e0.toNat * 1 = (gt b a).e0.toNat * 1 + 0) (by kernel_rfl)))) (.p0 (v := aB true) (eB B) (.mu 5 (.pure (v := .pp (g.Z.flatMap (iC .i64)) ((gt b a).e1.toNat * 1)) (by kernel_rfl) (tr (au J)) (.pure (v := ae (gt g.Z (gt b a).e1)) (by kernel_rfl) (tr (aG (aH (aE .i64) (aC J) z1 (by omega : (gt b a).e1.toNat * 1 = (gt b a).e1.toNat * 1 + 0) (by kernel_rfl)))) (.pure (v := aB true) (by kernel_rfl) (eB I) (.mu 6 (.pure (v := .pp (g.Z.flatMap (iC .i64)) ((gt b a).e2.toNat * 1)) (by kernel_rfl) (tr (au kq)) (.pure (v := ae (gt g.Z (gt b a).e2)) (by kernel_rfl) (tr (aG (aH (aE .i64) (aC kq) z1 (by omega : (gt b a).e2.toNat * 1 = (gt b a).e2.toNat * 1 + 0) (by kernel_rfl)))) (.mu 2 (.done (.nh [1, 2, 4, 5, 9, 14, 15, 19, 20, 45, 46, 47, 75] [.own [ae c, ae L, ae t, ae i, ae f, bf e], .own [ae d], .own [aB k, an l, aB o, an p], .own [.fn 74 [] []], .own [.fn 73 [] []], .own (al.c g), .own (b.flatMap aw.c), .own (aw.c (gt b a))] ?_))))))))))))))
         refine .cd hr ?_ ?_ <;> intro qg hr
         ·obtain ⟨M, n7, hr⟩ := bd hr
          refine .g1 G (bX (args := [.agg (aw.c (gt b a)), .hp 0 0, .hp 1 0, .hp 2 0, .hp 3 0, .hp 4 0]) 5 0 kT5 [true, true, true, true, true] (qK n (gt b a) c L t i f e d k l o p M n7) trivial trivial rfl rfl (by kernel_rfl) (by kernel_rfl)) (.mu 2 (.ca cf0 (.done (.pop (.ru G ?_)))))
          exact aA (M.1, M.2.1, M.2.2.1, M.2.2.2, Fj (a + 1)) hr ((Wk.gc [1, 2, 4, 5, 14, 15, 19, 20, 45, 46, 47] [(0, true), (1, true), (2, true), (3, true), (4, true), (5, true), (6, false)] rfl (pKt (pKt (pKt (pKt (pKt (pKt (pKo aw.c aw.pure b trivial)))))))).to)
         refine .skip (.pop (.ru G ?_))
         exact aA (k, l, o, p, Fj (a + 1)) hr ((Wk.gc [1, 2, 4, 5, 14, 15, 19, 20, 45, 46, 47] [(0, true), (1, true), (2, true), (3, true), (4, true), (5, true), (6, false)] rfl (pKt (pKt (pKt (pKt (pKt (pKt (pKo aw.c aw.pure b trivial)))))))).to)
        replace hr := cB I hr
        refine .r0 G (.mu 4 (.p0 (v := .pp (g.Z.flatMap (iC .i64)) ((gt b a).e0.toNat * 1)) (tr (au A)) (.p0 (v := ae (gt g.Z (gt b a).e0)) (tr (aG (aH (aE .i64) (aC A) z1 (by omega : (gt b a).e0.toNat * 1 = (gt b a).e0.toNat * 1 + 0) (by kernel_rfl)))) (.p0 (v := aB true) (eB B) (.mu 5 (.pure (v := .pp (g.Z.flatMap (iC .i64)) ((gt b a).e1.toNat * 1)) (by kernel_rfl) (tr (au J)) (.pure (v := ae (gt g.Z (gt b a).e1)) (by kernel_rfl) (tr (aG (aH (aE .i64) (aC J) z1 (by omega : (gt b a).e1.toNat * 1 = (gt b a).e1.toNat * 1 + 0) (by kernel_rfl)))) (.pure (v := aB false) (by kernel_rfl) (eB I) (.mu 10 (.done (.nh [1, 2, 4, 5, 9, 14, 15, 19, 20, 45, 46, 47, 75] [.own [ae c, ae L, ae t, ae i, ae f, bf e], .own [ae d], .own [aB k, an l, aB o, an p], .own [.fn 74 [] []], .own [.fn 73 [] []], .own (al.c g), .own (b.flatMap aw.c), .own (aw.c (gt b a))] (.cF (by kernel_rfl) (.skip (.pop (.ru G ?_)))))))))))))))
        exact aA (k, l, o, p, Fj (a + 1)) hr ((Wk.gc [1, 2, 4, 5, 14, 15, 19, 20, 45, 46, 47] [(0, true), (1, true), (2, true), (3, true), (4, true), (5, true), (6, false)] rfl (pKt (pKt (pKt (pKt (pKt (pKt (pKo aw.c aw.pure b trivial)))))))).to)
       replace hr := cB B hr
       refine .r0 G (.mu 4 (.p0 (v := .pp (g.Z.flatMap (iC .i64)) ((gt b a).e0.toNat * 1)) (tr (au A)) (.p0 (v := ae (gt g.Z (gt b a).e0)) (tr (aG (aH (aE .i64) (aC A) z1 (by omega : (gt b a).e0.toNat * 1 = (gt b a).e0.toNat * 1 + 0) (by kernel_rfl)))) (.p0 (v := aB false) (eB B) (.mu 18 (.done (.nh [1, 2, 4, 5, 9, 14, 15, 19, 20, 45, 46, 47, 75] [.own [ae c, ae L, ae t, ae i, ae f, bf e], .own [ae d], .own [aB k, an l, aB o, an p], .own [.fn 74 [] []], .own [.fn 73 [] []], .own (al.c g), .own (b.flatMap aw.c), .own (aw.c (gt b a))] (.cF (by kernel_rfl) (.skip (.pop (.ru G ?_)))))))))))
       exact aA (k, l, o, p, Fj (a + 1)) hr ((Wk.gc [1, 2, 4, 5, 14, 15, 19, 20, 45, 46, 47] [(0, true), (1, true), (2, true), (3, true), (4, true), (5, true), (6, false)] rfl (pKt (pKt (pKt (pKt (pKt (pKt (pKo aw.c aw.pure b trivial)))))))).to)
      refine .leave rfl ?_
      obtain rfl := oi hr
      exact ⟨rfl, ((Wk.gc [1, 2, 4, 5, 14, 15, 19, 20] kT6 rfl trivial).to)⟩
     rcases mJ with ⟨T, U, V, W⟩
     rintro x st' X
     clear jJ
     obtain ⟨rfl, X⟩ := X
     refine aW _ rfl (.pop (.wk X (.ru G ?_)))
     exact aA (T, U, V, W, Fj (j + 1)) hr ((Wk.gc [1, 2, 4, 5, 14, 15, 19, 20] kT6 rfl trivial).to)
    refine .leave rfl ?_
    obtain rfl := oi hr
    exact ⟨rfl, ((Wk.gc [1, 2, 4, 14, 15] kT6 rfl trivial).to)⟩
   rcases l6 with ⟨N, O, R, S⟩
   rintro x st' Y
   clear jo
   obtain ⟨rfl, Y⟩ := Y
   refine aW _ rfl (.pop (.wk Y (.ru G ?_)))
   exact aA (N, O, R, S, Fj (h + 1)) hr ((Wk.gc [1, 2, 4, 14, 15] kT6 rfl trivial).to)
  refine .leave rfl ?_
  obtain rfl := oi hr
  exact ⟨rfl, ((Wk.gc [] kT5 rfl trivial).to)⟩
 rcases kD with ⟨kO, lj, ml, mc⟩
 rintro x st' iP
 clear j4
 obtain ⟨rfl, iP⟩ := iP
 refine aW _ rfl ?_
 obtain rfl := oi hr
 exact dm.wk iP (dm.normal [] ((Wk.gc [] kT5 rfl trivial).to))

theorem fX (n : Nat) (g : al) (level : Int) (r : ai) (hr : bj n g level = some r) : aL Tryz.prog 72 [.agg (al.c g), ae level, .fn 73 [] [], .fn 74 [] []] (.agg (ai.c r)) := by
 unfold bj at hr
 refine aL.bd G Tryz.func72 [.cell 8 42] ?_
 unfold Tryz.f72
 simp only [gS]
 refine .seq (.r2 G 28 [(4, .hp 0 0), (5, .hp 1 0), (6, .hp 2 0), (7, .hp 3 0), (8, .hp 4 0)] [.own (al.c g), .own [ae level], .own [.fn 73 [] []], .own [.fn 74 [] []], .own zN2] (.seq ?_))
 obtain ⟨b, e, hr⟩ := bd hr
 refine .g1 G (ok0 (ct n 0 b e)) (.ca cf0 (.mu 2 (.done (.nh [4, 5, 6, 7, 8, 9] [.own (al.c g), .own [ae level], .own [.fn 73 [] []], .own [.fn 74 [] []], .own zN2, .own (ai.c b)] (.seq ?_)))))
 obtain ⟨a, f, hr⟩ := bd hr
 refine .g1 G (bX (args := [.agg (al.c g), .fn 117 [] [.hp 0 0, .hp 1 0, .hp 5 0, .hp 3 0, .hp 2 0]]) 5 0 [(0, true), (1, true), (5, true), (3, true), (2, true)] [true, true, true, true, true] (je n g g.X0 g.Y0 g.Step g.Width g.Height g.Z level b.Num.Negative b.Num.Groups b.Den.Negative b.Den.Groups a f) trivial trivial rfl rfl (by kernel_rfl) (by kernel_rfl)) (.mu 2 (.ca cf0 (.done (.nh [4, 8, 9] [.own (al.c g), .own [ae level], .own [.fn 73 [] []], .own [.fn 74 [] []], .own zN2, .own [aB a.1, an a.2.1, aB a.2.2.1, an a.2.2.2]] (.seq ?_)))))
 obtain ⟨d, h, hr⟩ := bd hr
 refine .g1 G (ok0 (eJ n (Fj (g.Step * g.Step)) 2 d h)) (.mu 5 (.ca cf0 (.mu 6 (.done (.nh [8, 9, 10] [.own (al.c g), .own [ae level], .own [.fn 73 [] []], .own [.fn 74 [] []], .own zN2, .own [aB a.1, an a.2.1, aB a.2.2.1, an a.2.2.2], .own (ai.c d.1)] (.seq ?_))))))
 obtain ⟨i, j, hr⟩ := bd hr
 refine .g1 G (ok0 (dF n (ai.mk (ah.mk a.1 a.2.1) (ah.mk a.2.2.1 a.2.2.2)) d.1 i j)) (.mu 2 (.ca cf0 (.mu 1 (.done (.nh [8] [.own (al.c g), .own [ae level], .own [.fn 73 [] []], .own [.fn 74 [] []], .own (ai.c i), .own [aB a.1, an a.2.1, aB a.2.2.1, an a.2.2.2], .own (ai.c d.1)] (.ret ?_))))))
 obtain rfl := oi hr
 exact aK.r1 [.agg (ai.c i)]

theorem mj (n : Nat) (g : al) (level : Int) (r : ai × Int) (hr : ft n g level = some r) : aL Tryz.prog 33 [.agg (al.c g), ae level] (.tup [.agg (ai.c r.1), ae r.2]) := by
 unfold ft at hr
 refine aL.bd G Tryz.func33 [.cell 4 42, .tmp 5] ?_
 unfold Tryz.f33
 simp only [gS]
 refine .seq (.r5 G [1] [(2, .hp 0 0), (4, .hp 1 0)] [.own (al.c g), .own zN2] (.seq (.seq ?_)))
 obtain ⟨a, b, hr⟩ := bd hr
 refine .g1 G (ok0 (gC n g level a b)) (.mu 2 (.ca cf0 (.mu 1 (.done (.nh [1, 2, 4, 6] [.own (al.c g), .own zN2] (.seq (.r4 G [1, 2, 4, 6] [(11, aB ((a : Int) != 0))] ?_)))))))
 refine .cd hr ?_ ?_ <;> intro f hr
 ·refine .seq (.r4 G [4] [(5, ae a)] (.ret ?_))
  obtain rfl := oi hr
  exact aK.ret (vs := [.agg zN2, ae a]) (by kernel_rfl) (Sn.tup (SnL.cons (Sn.agg (Sp (SnL.cons Sn.fR (Sp (SnL.cons Sn.fR SnL.nil))))) (Sp SnL.nil)))
 refine .skip (.seq ?_)
 obtain ⟨d, e, hr⟩ := bd hr
 refine .g1 G (ok0 (fX n g level d e)) (.mu 2 (.ca cf0 (.mu 2 (.done (.nh [4, 5] [.own (al.c g), .own (ai.c d)] (.ret ?_))))))
 obtain rfl := oi hr
 exact aK.ret (vs := [.agg (ai.c d), ae 0]) (by kernel_rfl) (Sn.tup (Sp (Sp SnL.nil)))

theorem pt (n : Nat) (s : List Int) (v : Int) (r : Int) (hr : jU n s v = some r) : aL Tryz.prog 185 [bf s, ae v] (ae r) := by
 unfold jU at hr
 refine aL.bd G Tryz.func185 [.tmp 4] ?_
 unfold Tryz.f185
 simp only [gS]
 refine .seq (.r4 G [0, 1] [] (.seq (.seq (.r4 G [0, 1] [(7, ae (s.length : Int)), (8, ae 0)] (.block ?_)))))
 replace hr := bd hr; obtain ⟨e, c, hr⟩ := hr
 refine .aM (σ := fun f => match f with | b => ⟨mkS 19 0 [(0, bf s), (1, ae v), (7, ae (s.length : Int)), (8, ae b)], []⟩) (Q := fun x st' => match (generalizing := false) e with | .inl _ => x = .exit 0 /\ Wk 0 st' ⟨mkS 19 0 [], []⟩ | .inr (r0) => x = .ret /\ aK Tryz.prog [.tmp 4] (ae r0) .ret st') c ((Wk.gc [0, 1, 7, 8] [] rfl pK0).to) ?_ ?_
 ·clear hr
  rintro m b hr
  show CQ _ _ _ _ _ ⟨_, _⟩
  refine .seq (.r4 G [0, 1, 7, 8] [(9, aB (decide (b < (s.length : Int))))] (.seq ?_))
  refine .cd hr ?_ ?_ <;> intro g hr
  ·refine .skip (.seq (.block (.seq (.r4 G [0, 1, 7, 8] [(5, ae b)] (.seq ?_)))))
   obtain ⟨d, hr⟩ := gd hr
   refine .r0 G (.mu 3 (.p0 (v := .pp (s.flatMap (iC .i64)) (b.toNat * 1)) (tr (au d)) (.p0 (v := ae (gt s b)) (tr (aG (aH (aE .i64) (aC d) z1 (by omega : b.toNat * 1 = b.toNat * 1 + 0) (by kernel_rfl)))) (.mu 1 (.done (.nh [0, 1, 5, 7, 8, 16] [] ?_))))))
   refine .cd hr ?_ ?_ <;> intro h hr
   ·refine .seq (.ru G (.ret ?_))
    obtain rfl := oi hr
    exact ⟨rfl, aK.ret (vs := [ae b]) (by kernel_rfl) (Sn.pure rfl)⟩
   refine .skip (.pop (.ru G ?_))
   exact aA (Fj (b + 1)) hr ((Wk.gc [0, 1, 7, 8] [] rfl pK0).to)
  refine .leave rfl ?_
  obtain rfl := oi hr
  exact ⟨rfl, ((Wk.gc [] [] rfl pK0).to)⟩
 rcases e with ⟨⟩ | r0
 ·rintro x st' a
  clear c
  obtain ⟨rfl, a⟩ := a
  refine aW _ rfl (.wk a (.seq (.ru G (.ret ?_))))
  obtain rfl := oi hr
  exact aK.r1 [ae (-1)]
 rintro x st' a
 clear c
 obtain ⟨rfl, a⟩ := a
 obtain rfl := oi hr
 exact iz _ a

theorem np {s : List Int} {v : Int} {a : List Int} {b : Int} (h : ([slT (iC .i64) s, .at (.int .i64 v)] : List AV) = [slT (iC .i64) a, .at (.int .i64 b)]) : s = a /\ v = b := by
 simp only [List.cons.injEq, AV.agg.injEq, AV.at.injEq, Value.int.injEq, Value.bool.injEq, AV.fn.injEq, AV.pp.injEq, true_and, and_true, eC] at h
 simp_all
theorem nM (n : Nat) {s : List Int} {v : Int} {a : List Int} {b : Int} (h : ([slT (iC .i64) s, .at (.int .i64 v)] : List AV) = [slT (iC .i64) a, .at (.int .i64 b)]) : dy n s v = dy n a b := by
 obtain ⟨rfl, rfl⟩ := np h
 rfl
theorem gz (n : Nat) (s : List Int) (v : Int) (r : Bool) (hr : dy n s v = some r) : aL Tryz.prog 150 [bf s, ae v] (aB r) := by
 unfold dy at hr
 refine aL.bd G Tryz.func150 [.tmp 4] ?_
 unfold Tryz.f150
 simp only [gS]
 refine .seq (.r4 G [0, 1] [] (.seq ?_))
 obtain ⟨b, a, hr⟩ := bd hr
 refine .g1 G (ok0 (pt n s v b a)) (.mu 2 (.ca cf0 (.mu 2 (.done (.ret ?_)))))
 obtain rfl := oi hr
 exact aK.r1 [aB (decide (b >= 0))]

theorem qn (n : Nat) (t : A3 Int) (p : Bool) (f : Int) (a : Int) (r : Bool) (hr : kU n t p f a = some r) : dk 3 Tryz.prog 149 [.agg (aw.c t), .hp 0 0, .hp 1 0, .hp 2 0] [.own [aB p], .own [ae f], .own [ae a]] (.tup []) [.own [aB r], .own [ae f], .own [ae a]] := by
 unfold kU at hr
 refine dk.kp G Tryz.func149 (c := (Tryz.f149.body).getD .skip) rfl (us := []) (s := mkS 16 0 [(0, .agg (aw.c t)), (1, .hp 0 0), (2, .hp 1 0), (3, .hp 2 0)]) (by kernel_rfl) (rs := []) rfl ?_
 unfold Tryz.f149
 simp only [gS]
 refine .seq (.r5 G [1, 2, 3] [(4, .hp 3 0)] [.own [aB p], .own [ae f], .own [ae a], .own (aw.c t)] ?_)
 rcases bT p with b | b
 ·replace hr := cC b hr
  refine .dZ G bI (.pk (v := aB true) (eB b) (.mu 11 ?_))
  refine .done ⟨by kernel_rfl, ?_⟩
  obtain rfl := oi hr
  exact dm.normal [] ((Wk.gc [] kT3 rfl trivial).to)
 replace hr := cB b hr
 obtain ⟨i, d, hr⟩ := bd hr
 rcases bT i with e | e
 ·subst e
  replace hr := cC rfl hr
  obtain ⟨v12, g, hr⟩ := bd hr
  refine .tn G (ca1 (gu (args := [.hs 3 0 3 1, ae f]) (l := [3]) rfl (SnL.cons (Sn.hs rfl (.inl rfl) (SnC.cons (Sn.pure rfl) (SnC.cons (Sn.pure rfl) (SnC.cons (Sn.pure rfl) SnC.nil))) (fun h => nomatch h)) (Sp SnL.nil)) (gz n [t.e0, t.e1, t.e2] f true d)) (ca3 (gu (args := [.hs 3 0 3 1, ae a]) (l := [3]) rfl (SnL.cons (Sn.hs rfl (.inl rfl) (SnC.cons (Sn.pure rfl) (SnC.cons (Sn.pure rfl) (SnC.cons (Sn.pure rfl) SnC.nil))) (fun h => nomatch h)) (Sp SnL.nil)) (gz n [t.e0, t.e1, t.e2] a v12 g)))) (.pk (v := aB false) (eB b) (.mu 3 (.ca cf0 (.mu 3 (.ca (cfA (fun h => by rw [sv g d (nM n (show ([bf [t.e0, t.e1, t.e2], ae a] : List AV) = [bf [t.e0, t.e1, t.e2], ae f] from (congr (congrArg List.cons rfl) (congr (congrArg List.cons (List.cons.inj (List.cons.inj h).2).1) rfl))))]) cf0) (.mu 3 ?_))))))
  refine .done ⟨by kernel_rfl, ?_⟩
  obtain rfl := oi hr
  exact dm.normal [] ((Wk.gc [] kT3 rfl trivial).to)
 subst e
 replace hr := cB rfl hr
 refine .t1 G (gu (args := [.hs 3 0 3 1, ae f]) (l := [3]) rfl (SnL.cons (Sn.hs rfl (.inl rfl) (SnC.cons (Sn.pure rfl) (SnC.cons (Sn.pure rfl) (SnC.cons (Sn.pure rfl) SnC.nil))) (fun h => nomatch h)) (Sp SnL.nil)) (gz n [t.e0, t.e1, t.e2] f false d)) (.pk (v := aB false) (eB b) (.mu 3 (.ca cf0 (.mu 7 ?_))))
 refine .done ⟨by kernel_rfl, ?_⟩
 obtain rfl := oi hr
 exact dm.normal [] ((Wk.gc [] kT3 rfl trivial).to)

theorem jd (n : Nat) (g : al) (c : Bool) (q : Int) (h : Int) (r : Bool) (hr : dw n g c q h = some r) : dk 3 Tryz.prog 89 [.agg (al.c g), .fn 149 [] [.hp 0 0, .hp 1 0, .hp 2 0]] [.own [aB c], .own [ae q], .own [ae h]] (.tup []) [.own [aB r], .own [ae q], .own [ae h]] := by
 unfold dw at hr
 refine dk.kp G Tryz.func89 (c := (Tryz.f89.body).getD .skip) rfl (us := []) (s := mkS 82 0 [(0, .agg (al.c g)), (1, .fn 149 [] [.hp 0 0, .hp 1 0, .hp 2 0])]) (by kernel_rfl) (rs := []) rfl ?_
 unfold Tryz.f89
 simp only [gS]
 refine .seq (.r5 G [1] [(2, .hp 3 0)] [.own [aB c], .own [ae q], .own [ae h], .own (al.c g)] (.seq (.r4 G [1, 2] [(4, ae g.Width)] (.seq (.r4 G [1, 2, 4] [(14, ae (Fj (g.Height - 1))), (15, ae 0)] (.block ?_))))))
 replace hr := bd hr; obtain ⟨J, z, hr⟩ := hr
 refine .aM (σ := fun O => match O with | (A, d) => ⟨mkS 82 0 [(1, .fn 149 [] [.hp 0 0, .hp 1 0, .hp 2 0]), (2, .hp 3 0), (4, ae g.Width), (14, ae (Fj (g.Height - 1))), (15, ae d)], [.own [aB A], .own [ae q], .own [ae h], .own (al.c g)]⟩) (Q := fun x st' => x = .exit 0 /\ Wk 3 st' ⟨mkS 82 0 [], [.own [aB J], .own [ae q], .own [ae h]]⟩) z ((Wk.gc [1, 2, 4, 14, 15] kT4 rfl trivial).to) ?_ ?_
 ·clear hr
  rintro m ⟨A, d⟩ hr
  show CQ _ _ _ _ _ ⟨_, _⟩
  refine .seq (.r4 G [1, 2, 4, 14, 15] [(16, aB (decide (d < (Fj (g.Height - 1)))))] (.seq ?_))
  refine .cd hr ?_ ?_ <;> intro R hr
  ·refine .skip (.seq (.block (.seq (.r4 G [1, 2, 4, 14, 15] [(5, ae d)] (.seq (.r4 G [1, 2, 4, 5, 14, 15] [(19, ae (Fj (g.Width - 1))), (20, ae 0)] (.block ?_)))))))
   replace hr := bd hr; obtain ⟨B, C, hr⟩ := hr
   refine .aM (σ := fun O => match O with | (k, e) => ⟨mkS 82 0 [(1, .fn 149 [] [.hp 0 0, .hp 1 0, .hp 2 0]), (2, .hp 3 0), (4, ae g.Width), (5, ae d), (14, ae (Fj (g.Height - 1))), (15, ae d), (19, ae (Fj (g.Width - 1))), (20, ae e)], [.own [aB k], .own [ae q], .own [ae h], .own (al.c g)]⟩) (Q := fun x st' => x = .exit 2 /\ Wk 3 st' ⟨mkS 82 0 [(1, .fn 149 [] [.hp 0 0, .hp 1 0, .hp 2 0]), (2, .hp 3 0), (4, ae g.Width), (14, ae (Fj (g.Height - 1))), (15, ae d)], [.own [aB B], .own [ae q], .own [ae h], .own (al.c g)]⟩) C ((Wk.gc [1, 2, 4, 5, 14, 15, 19, 20] kT4 rfl trivial).to) ?_ ?_
   ·clear hr
    rintro m ⟨k, e⟩ hr
    show CQ _ _ _ _ _ ⟨_, _⟩
    refine .seq (.r4 G [1, 2, 4, 5, 14, 15, 19, 20] [(21, aB (decide (e < (Fj (g.Width - 1)))))] (.seq ?_))
    refine .cd hr ?_ ?_ <;> intro S hr
    ·refine .skip (.seq (.block (.seq (.r4 G [1, 2, 4, 5, 14, 15, 19, 20] [(6, ae e)] (.seq (.r4 G [1, 2, 4, 5, 14, 15, 19, 20] [(7, ae (Fj ((Fj (d * g.Width)) + e)))] ?_))))))
     obtain ⟨l, L, hr⟩ := bd hr
     refine .wk ((Wk.refl _).to (c := ⟨mkS 82 0 [(1, .fn 149 [] [.hp 0 0, .hp 1 0, .hp 2 0]), (2, .hp 3 0), (4, ae g.Width), (5, ae d), (7, ae l), (14, ae (Fj (g.Height - 1))), (15, ae d), (19, ae (Fj (g.Width - 1))), (20, ae e)], [.own [aB k], .own [ae q], .own [ae h], .own (al.c g)]⟩) (by rw [oi L]; first | done | kernel_rfl)) <| .seq <| .r5 G [1, 2, 4, 5, 14, 15, 19, 20] [(45, .hs 4 0 2 3), (46, ae 2), (47, ae 0)] [.own [aB k], .own [ae q], .own [ae h], .own (al.c g), .own [ae l, ae (Fj (l + 1)), ae (Fj ((Fj (l + g.Width)) + 1)), ae l, ae (Fj ((Fj (l + g.Width)) + 1)), ae (Fj (l + g.Width))]] <| .block ?_
     obtain ⟨b, M, hr⟩ := bd hr
     refine .wk ((Wk.refl _).to (c := ⟨mkS 82 0 [(1, .fn 149 [] [.hp 0 0, .hp 1 0, .hp 2 0]), (2, .hp 3 0), (4, ae g.Width), (5, ae d), (14, ae (Fj (g.Height - 1))), (15, ae d), (19, ae (Fj (g.Width - 1))), (20, ae e), (45, .hs 4 0 b.length 3), (46, ae 2), (47, ae 0)], [.own [aB k], .own [ae q], .own [ae h], .own (al.c g), .own (b.flatMap aw.c)]⟩) (by rw [<- oi M]; kernel_rfl)) ?_
     replace hr := bd hr; obtain ⟨D, E, hr⟩ := hr
     refine .aM (σ := fun O => match O with | (f, a) => ⟨mkS 82 0 [(1, .fn 149 [] [.hp 0 0, .hp 1 0, .hp 2 0]), (2, .hp 3 0), (4, ae g.Width), (5, ae d), (14, ae (Fj (g.Height - 1))), (15, ae d), (19, ae (Fj (g.Width - 1))), (20, ae e), (45, .hs 4 0 b.length 3), (46, ae 2), (47, ae a)], [.own [aB f], .own [ae q], .own [ae h], .own (al.c g), .own (b.flatMap aw.c)]⟩) (Q := fun x st' => x = .exit 4 /\ Wk 3 st' ⟨mkS 82 0 [(1, .fn 149 [] [.hp 0 0, .hp 1 0, .hp 2 0]), (2, .hp 3 0), (4, ae g.Width), (5, ae d), (14, ae (Fj (g.Height - 1))), (15, ae d), (19, ae (Fj (g.Width - 1))), (20, ae e)], [.own [aB D], .own [ae q], .own [ae h], .own (al.c g)]⟩) E ((Wk.gc [1, 2, 4, 5, 14, 15, 19, 20, 45, 46, 47] [(0, true), (1, true), (2, true), (3, true), (4, false)] rfl (pKt (pKt (pKt (pKt (pKo aw.c aw.pure b trivial)))))).to) ?_ ?_
     ·clear hr
      rintro m ⟨f, a⟩ hr
      show CQ _ _ _ _ _ ⟨_, _⟩
      refine .seq (.r4 G [1, 2, 4, 5, 14, 15, 19, 20, 45, 46, 47] [(48, aB (decide (a < 2)))] (.seq ?_))
      refine .cd hr ?_ ?_ <;> intro T hr
      ·refine .skip (.seq (.block (.seq ?_)))
       obtain ⟨F, hr⟩ := gd hr
       refine .r0 G (.p0 (v := .hp 4 (0 + a.toNat * 3)) (tr (au F)) (.p0 (v := .agg (aw.c (gt b a))) (tr (y := bB.ofP (ei (decide (3 <= ((b.flatMap aw.c).drop (0 + a.toNat * 3)).length)) (.agg (((b.flatMap aw.c).drop (0 + a.toNat * 3)).take 3)))) (b6 aw.len (aC F) (by decide) (by omega : 0 + a.toNat * 3 = a.toNat * 3 + 0) (by kernel_rfl))) (.mu 2 (.done (.nh [1, 2, 4, 5, 9, 14, 15, 19, 20, 45, 46, 47] [.own [aB f], .own [ae q], .own [ae h], .own (al.c g), .own (b.flatMap aw.c), .own (aw.c (gt b a))] (.seq ?_))))))
       obtain ⟨i, hr⟩ := gd hr
       rcases bT (((gt g.Z (gt b a).e0) : Int) != (-2147483648)) with j | j
       ·replace hr := cC j hr
        obtain ⟨p, hr⟩ := gd hr
        rcases bT (((gt g.Z (gt b a).e1) : Int) != (-2147483648)) with o | o
        ·replace hr := cC o hr
         obtain ⟨H, hr⟩ := gd hr
         refine .r0 G (.mu 4 (.p0 (v := .pp (g.Z.flatMap (iC .i64)) ((gt b a).e0.toNat * 1)) (tr (au i)) (.p0 (v := ae (gt g.Z (gt b a).e0)) (tr (aG (aH (aE .i64) (aC i) z1 (by omega : (gt b a).e0.toNat * 1 = (gt b a).e0.toNat * 1 + 0) (by kernel_rfl)))) (.p0 (v := aB true) (eB j) (.mu 5 (.pure (v := .pp (g.Z.flatMap (iC .i64)) ((gt b a).e1.toNat * 1)) (by kernel_rfl) (tr (au p)) (.pure (v := ae (gt g.Z (gt b a).e1)) (by kernel_rfl) (tr (aG (aH (aE .i64) (aC p) z1 (by omega : (gt b a).e1.toNat * 1 = (gt b a).e1.toNat * 1 + 0) (by kernel_rfl)))) (.pure (v := aB true) (by kernel_rfl) (eB o) (.mu 6 (.pure (v := .pp (g.Z.flatMap (iC .i64)) ((gt b a).e2.toNat * 1)) (by kernel_rfl) (tr (au H)) (.pure (v := ae (gt g.Z (gt b a).e2)) (by kernel_rfl) (tr (aG (aH (aE .i64) (aC H) z1 (by omega : (gt b a).e2.toNat * 1 = (gt b a).e2.toNat * 1 + 0) (by kernel_rfl)))) (.mu 2 (.done (.nh [1, 2, 4, 5, 9, 14, 15, 19, 20, 45, 46, 47, 75] [.own [aB f], .own [ae q], .own [ae h], .own (al.c g), .own (b.flatMap aw.c), .own (aw.c (gt b a))] ?_))))))))))))))
         refine .cd hr ?_ ?_ <;> intro U hr
         ·obtain ⟨I, N, hr⟩ := bd hr
          refine .g1 G (bX (args := [.agg (aw.c (gt b a)), .hp 0 0, .hp 1 0, .hp 2 0]) 3 0 kT3 [true, true, true] (qn n (gt b a) f q h I N) trivial trivial rfl rfl (by kernel_rfl) (by kernel_rfl)) (.mu 2 (.ca cf0 (.done (.pop (.ru G ?_)))))
          exact aA (I, Fj (a + 1)) hr ((Wk.gc [1, 2, 4, 5, 14, 15, 19, 20, 45, 46, 47] [(0, true), (1, true), (2, true), (3, true), (4, false)] rfl (pKt (pKt (pKt (pKt (pKo aw.c aw.pure b trivial)))))).to)
         refine .skip (.pop (.ru G ?_))
         exact aA (f, Fj (a + 1)) hr ((Wk.gc [1, 2, 4, 5, 14, 15, 19, 20, 45, 46, 47] [(0, true), (1, true), (2, true), (3, true), (4, false)] rfl (pKt (pKt (pKt (pKt (pKo aw.c aw.pure b trivial)))))).to)
        replace hr := cB o hr
        refine .r0 G (.mu 4 (.p0 (v := .pp (g.Z.flatMap (iC .i64)) ((gt b a).e0.toNat * 1)) (tr (au i)) (.p0 (v := ae (gt g.Z (gt b a).e0)) (tr (aG (aH (aE .i64) (aC i) z1 (by omega : (gt b a).e0.toNat * 1 = (gt b a).e0.toNat * 1 + 0) (by kernel_rfl)))) (.p0 (v := aB true) (eB j) (.mu 5 (.pure (v := .pp (g.Z.flatMap (iC .i64)) ((gt b a).e1.toNat * 1)) (by kernel_rfl) (tr (au p)) (.pure (v := ae (gt g.Z (gt b a).e1)) (by kernel_rfl) (tr (aG (aH (aE .i64) (aC p) z1 (by omega : (gt b a).e1.toNat * 1 = (gt b a).e1.toNat * 1 + 0) (by kernel_rfl)))) (.pure (v := aB false) (by kernel_rfl) (eB o) (.mu 10 (.done (.nh [1, 2, 4, 5, 9, 14, 15, 19, 20, 45, 46, 47, 75] [.own [aB f], .own [ae q], .own [ae h], .own (al.c g), .own (b.flatMap aw.c), .own (aw.c (gt b a))] (.cF (by kernel_rfl) (.skip (.pop (.ru G ?_)))))))))))))))
        exact aA (f, Fj (a + 1)) hr ((Wk.gc [1, 2, 4, 5, 14, 15, 19, 20, 45, 46, 47] [(0, true), (1, true), (2, true), (3, true), (4, false)] rfl (pKt (pKt (pKt (pKt (pKo aw.c aw.pure b trivial)))))).to)
       replace hr := cB j hr
       refine .r0 G (.mu 4 (.p0 (v := .pp (g.Z.flatMap (iC .i64)) ((gt b a).e0.toNat * 1)) (tr (au i)) (.p0 (v := ae (gt g.Z (gt b a).e0)) (tr (aG (aH (aE .i64) (aC i) z1 (by omega : (gt b a).e0.toNat * 1 = (gt b a).e0.toNat * 1 + 0) (by kernel_rfl)))) (.p0 (v := aB false) (eB j) (.mu 18 (.done (.nh [1, 2, 4, 5, 9, 14, 15, 19, 20, 45, 46, 47, 75] [.own [aB f], .own [ae q], .own [ae h], .own (al.c g), .own (b.flatMap aw.c), .own (aw.c (gt b a))] (.cF (by kernel_rfl) (.skip (.pop (.ru G ?_)))))))))))
       exact aA (f, Fj (a + 1)) hr ((Wk.gc [1, 2, 4, 5, 14, 15, 19, 20, 45, 46, 47] [(0, true), (1, true), (2, true), (3, true), (4, false)] rfl (pKt (pKt (pKt (pKt (pKo aw.c aw.pure b trivial)))))).to)
      refine .leave rfl ?_
      obtain rfl := oi hr
      exact ⟨rfl, ((Wk.gc [1, 2, 4, 5, 14, 15, 19, 20] kT4 rfl trivial).to)⟩
     rintro x st' t
     clear E
     obtain ⟨rfl, t⟩ := t
     refine aW _ rfl (.pop (.wk t (.ru G ?_)))
     exact aA (D, Fj (e + 1)) hr ((Wk.gc [1, 2, 4, 5, 14, 15, 19, 20] kT4 rfl trivial).to)
    refine .leave rfl ?_
    obtain rfl := oi hr
    exact ⟨rfl, ((Wk.gc [1, 2, 4, 14, 15] kT4 rfl trivial).to)⟩
   rintro x st' u
   clear C
   obtain ⟨rfl, u⟩ := u
   refine aW _ rfl (.pop (.wk u (.ru G ?_)))
   exact aA (B, Fj (d + 1)) hr ((Wk.gc [1, 2, 4, 14, 15] kT4 rfl trivial).to)
  refine .leave rfl ?_
  obtain rfl := oi hr
  exact ⟨rfl, ((Wk.gc [] kT3 rfl trivial).to)⟩
 rintro x st' w
 clear z
 obtain ⟨rfl, w⟩ := w
 refine aW _ rfl ?_
 obtain rfl := oi hr
 exact dm.wk w (dm.normal [] ((Wk.gc [] kT3 rfl trivial).to))

theorem sN (n : Nat) (g : al) (a : Int) (b : Int) (r : Bool) (hr : nQ n g a b = some r) : aL Tryz.prog 110 [.agg (al.c g), ae a, ae b] (aB r) := by
 unfold nQ at hr
 refine aL.bd G Tryz.func110 [.tmp 6] ?_
 unfold Tryz.f110
 simp only [gS]
 refine .seq (.r2 G 26 [(3, .hp 0 0), (4, .hp 1 0), (5, .hp 2 0)] [.own (al.c g), .own [ae a], .own [ae b]] (.seq (.seq ?_)))
 rcases bT (decide (a < 0)) with d | d
 ·replace hr := cC d hr
  refine .r0 G (.mu 1 (.p0 (v := aB true) (eB d) (.mu 12 (.done (.nh [3, 4, 5, 21] [.own (al.c g), .own [ae a], .own [ae b]] (.cT (by kernel_rfl) (.seq (.ru G (.ret ?_)))))))))
  obtain rfl := oi hr
  exact aK.r1 [aB false]
 replace hr := cB d hr
 rcases bT (decide (a >= b)) with e | e
 ·replace hr := cC e hr
  refine .r0 G (.mu 1 (.p0 (v := aB false) (eB d) (.mu 3 (.pure (v := aB true) (by kernel_rfl) (eB e) (.mu 8 (.done (.nh [3, 4, 5, 21] [.own (al.c g), .own [ae a], .own [ae b]] (.cT (by kernel_rfl) (.seq (.ru G (.ret ?_)))))))))))
  obtain rfl := oi hr
  exact aK.r1 [aB false]
 replace hr := cB e hr
 refine .r0 G (.mu 1 (.p0 (v := aB false) (eB d) (.mu 3 (.pure (v := aB false) (by kernel_rfl) (eB e) (.mu 8 (.done (.nh [3, 4, 5, 21] [.own (al.c g), .own [ae a], .own [ae b]] ?_)))))))
 refine .cd hr ?_ ?_ <;> intro i hr
 ·refine .seq (.ru G (.ret ?_))
  obtain rfl := oi hr
  exact aK.r1 [aB false]
 refine .skip (.seq (.r5 G [3, 4, 5] [(7, .hp 3 0)] [.own (al.c g), .own [ae a], .own [ae b], .own [aB false]] (.seq ?_)))
 obtain ⟨f, h, hr⟩ := bd hr
 refine .g1 G (bX (args := [.agg (al.c g), .fn 149 [] [.hp 3 0, .hp 1 0, .hp 2 0]]) 3 0 [(3, true), (1, true), (2, true)] [true, true, true] (jd n g false a b f h) trivial trivial rfl rfl (by kernel_rfl) (by kernel_rfl)) (.mu 2 (.ca cf0 (.done (.nh [7] [.own (al.c g), .own [ae a], .own [ae b], .own [aB f]] (.seq (.ru G (.ret ?_)))))))
 obtain rfl := oi hr
 exact aK.r1 [aB f]

theorem ni (n : Nat) (g : ai) (y : ai) (r : Int) (hr : j7 n g y = some r) : aL Tryz.prog 102 [.agg (ai.c g), .agg (ai.c y)] (ae r) := by
 unfold j7 at hr
 refine aL.bd G Tryz.func102 [.tmp 4] ?_
 unfold Tryz.f102
 simp only [gS]
 refine .seq (.r2 G 20 [(2, .hp 0 0), (3, .hp 1 0)] [.own (ai.c g), .own (ai.c y)] (.seq ?_))
 obtain ⟨i, a, j, b, hr⟩ := bd2 hr
 refine .tn G (ca1 (ok0 (cV n g i a)) (ca3 (ok0 (cV n y j b)))) (.mu 1 (.ca cf0 (.mu 1 (.ca (cfA (fun h => by rw [sv b a (jH n h)]) cf0) (.mu 2 ?_)))))
 refine .done ⟨by kernel_rfl, ?_⟩
 refine .nh [2, 3] [.own (ai.c i), .own (ai.c j)] (.seq ?_)
 obtain ⟨k, d, l, e, m, f, hr⟩ := bd3 hr
 refine .tn G (ca1 (ok0 (eS n i.Num j.Den k d)) (ca1 (ok0 (eS n j.Num i.Den l e)) (ca3 (ok0 (nI n k l m f))))) (.mu 4 (.ca cf0 (.mu 4 (.ca (cfA (fun h => by rw [sv e d (iF n h)]) cf0) (.ca (cfF (cfF cf0)) (.mu 1 ?_))))))
 refine .done ⟨by kernel_rfl, ?_⟩
 refine .ret ?_
 obtain rfl := oi hr
 exact aK.r1 [ae m]

theorem rK {a : Int} {b : Int} {p : Int} {m : Int} {k : Bool} {i : List Int} {f : Bool} {d : List Int} {n : Int} {o : Int} {q : Int} {l : Int} {j : Bool} {g : List Int} {e : Bool} {c : List Int} (h : ([.at (.int .i64 a), .at (.int .i64 b), .pp [.at (.int .i64 p), .at (.int .i64 m), .at (.bool k), slT iCu i, .at (.bool f), slT iCu d] 0] : List AV) = [.at (.int .i64 n), .at (.int .i64 o), .pp [.at (.int .i64 q), .at (.int .i64 l), .at (.bool j), slT iCu g, .at (.bool e), slT iCu c] 0]) : a = n /\ b = o /\ p = q /\ m = l /\ k = j /\ i = g /\ f = e /\ d = c := by
 simp only [List.cons.injEq, AV.agg.injEq, AV.at.injEq, Value.int.injEq, Value.bool.injEq, AV.fn.injEq, AV.pp.injEq, true_and, and_true, eC] at h
 simp_all
theorem sq (n : Nat) {a : Int} {b : Int} {p : Int} {m : Int} {k : Bool} {i : List Int} {f : Bool} {d : List Int} {o : Int} {q : Int} {r : Int} {l : Int} {j : Bool} {g : List Int} {e : Bool} {c : List Int} (h : ([.at (.int .i64 a), .at (.int .i64 b), .pp [.at (.int .i64 p), .at (.int .i64 m), .at (.bool k), slT iCu i, .at (.bool f), slT iCu d] 0] : List AV) = [.at (.int .i64 o), .at (.int .i64 q), .pp [.at (.int .i64 r), .at (.int .i64 l), .at (.bool j), slT iCu g, .at (.bool e), slT iCu c] 0]) : gP n a b p m k i f d = gP n o q r l j g e c := by
 obtain ⟨rfl, rfl, rfl, rfl, rfl, rfl, rfl, rfl⟩ := rK h
 rfl
theorem nK (n : Nat) (a : Int) (b : Int) (p : Int) (o : Int) (g : Bool) (f : List Int) (e : Bool) (d : List Int) (r : ai) (hr : gP n a b p o g f e d = some r) : aL Tryz.prog 111 [ae a, ae b, .pp [ae p, ae o, aB g, an f, aB e, an d] 0] (.agg (ai.c r)) := by
 unfold gP at hr
 refine aL.bd G Tryz.func111 [.cell 5 42] ?_
 unfold Tryz.f111
 simp only [gS]
 refine .seq (.r5 G [0, 1, 2] [(5, .hp 0 0)] [.own zN2] (.seq ?_))
 obtain ⟨q, i, s, j, t, k, hr⟩ := bd3 hr
 obtain ⟨l, m, hr⟩ := bd hr
 refine .tn G (ca1 (ok0 (ct n a q i)) (ca1 (ok0 (ct n (Fj (b - a)) s j)) (ca1 (ok0 (dF n (ai.mk (ah.mk g f) (ah.mk e d)) s t k)) (ca3 (ok0 (dc n q t l m)))))) (.mu 1 (.ca cf0 (.mu 5 (.ca (cfA (fun h => by rw [sv j i (ow n h)]) cf0) (.ca (cfF (cfF cf0)) (.ca (cfF (cfF (cfF cf0))) (.mu 1 ?_)))))))
 refine .done ⟨by kernel_rfl, ?_⟩
 refine .nh [5] [.own (ai.c l)] (.ret ?_)
 obtain rfl := oi hr
 exact aK.r1 [.agg (ai.c l)]

theorem ub (n : Nat) (g : al) (c : ak) (r : aI × Int) (hr : oR n g c = some r) : aL Tryz.prog 66 [.agg (al.c g), .agg (ak.c c)] (.tup [.agg (aI.c r.1), ae r.2]) := by
 unfold oR at hr
 refine aL.bd G Tryz.func66 [.cell 4 59, .tmp 5] ?_
 unfold Tryz.f66
 simp only [gS]
 refine .seq (.r2 G 81 [(2, .hp 0 0), (3, .hp 1 0), (4, .hp 2 0)] [.own (al.c g), .own (ak.c c), .own zN4] (.seq (.seq ?_)))
 obtain ⟨C, t, hr⟩ := bd hr
 refine .g1 G (ok0 (sN n g c.A c.B C t)) (.mu 5 (.ca cf0 (.mu 1 (.done (.nh [2, 3, 4, 14] [.own (al.c g), .own (ak.c c), .own zN4] ?_)))))
 refine .cd hr ?_ ?_ <;> intro D hr
 ·refine .seq (.r4 G [4] [(5, ae 6)] (.ret ?_))
  obtain rfl := oi hr
  exact aK.ret (vs := [.agg zN4, ae 6]) (by kernel_rfl) (Sn.tup (SnL.cons (Sn.agg (Sp (SnL.cons Sn.fR (Sp (SnL.cons Sn.fR (Sp (SnL.cons Sn.fR (Sp (SnL.cons Sn.fR SnL.nil))))))))) (Sp SnL.nil)))
 refine .skip (.seq (.seq ?_))
 obtain ⟨E, u, hr⟩ := bd hr
 refine .g1 G (ok0 (eO n c.At E u)) (.mu 2 (.ca cf0 (.mu 1 (.done (.nh [2, 3, 4, 19] [.own (al.c g), .own (ak.c c), .own zN4] ?_)))))
 refine .cd hr ?_ ?_ <;> intro F hr
 ·refine .seq (.r4 G [4] [(5, ae 1)] (.ret ?_))
  obtain rfl := oi hr
  exact aK.ret (vs := [.agg zN4, ae 1]) (by kernel_rfl) (Sn.tup (SnL.cons (Sn.agg (Sp (SnL.cons Sn.fR (Sp (SnL.cons Sn.fR (Sp (SnL.cons Sn.fR (Sp (SnL.cons Sn.fR SnL.nil))))))))) (Sp SnL.nil)))
 refine .skip (.seq (.seq ?_))
 replace hr := bd hr; obtain ⟨o, f, hr⟩ := hr
 refine .vD (Q := fun x st' => x = .normal /\ Wk 0 st' ⟨mkS 81 0 [(2, .hp 0 0), (3, .hp 1 0), (4, .hp 2 0), (31, aB o)], [.own (al.c g), .own (ak.c c), .own zN4]⟩) ?_ ?_
 ·clear hr
  have hr := f
  clear f
  obtain ⟨v12, j, hr⟩ := bd hr
  rcases bT (decide (v12 < 0)) with d | d
  ·replace hr := cC d hr
   refine .t1 G (ok0 (bc n c.At v12 j)) (.mu 2 (.ca cf0 (.pk (v := aB true) (eB d) (.mu 7 ?_))))
   refine .done ⟨by kernel_rfl, ?_⟩
   obtain rfl := oi hr
   exact ⟨rfl, ((Wk.gc [2, 3, 4, 31] kT3 rfl trivial).to)⟩
  replace hr := cB d hr
  obtain ⟨p, q, w, s, hr⟩ := bd2 hr
  refine .tn G (ca1 (ok0 (bc n c.At v12 j)) (ca1 (ok0 (ct n 1 p q)) (ca3 (ok0 (ni n c.At p w s))))) (.mu 2 (.ca cf0 (.pk (v := aB false) (eB d) (.mu 3 (.ca (cfF cf0) (.ca (cfF (cfF cf0)) (.mu 2 ?_)))))))
  refine .done ⟨by kernel_rfl, ?_⟩
  obtain rfl := oi hr
  exact ⟨rfl, ((Wk.gc [2, 3, 4, 31] kT3 rfl trivial).to)⟩
 rintro x st' i
 clear f
 obtain ⟨rfl, i⟩ := i
 refine .wk i ?_
 refine .cd hr ?_ ?_ <;> intro z hr
 ·refine .seq (.r4 G [4] [(5, ae 2)] (.ret ?_))
  obtain rfl := oi hr
  exact aK.ret (vs := [.agg zN4, ae 2]) (by kernel_rfl) (Sn.tup (SnL.cons (Sn.agg (Sp (SnL.cons Sn.fR (Sp (SnL.cons Sn.fR (Sp (SnL.cons Sn.fR (Sp (SnL.cons Sn.fR SnL.nil))))))))) (Sp SnL.nil)))
 refine .skip (.seq (.r4 G [2, 3, 4] [(6, .fn 111 [] [.hp 1 0])] (.seq (.r4 G [2, 3, 4, 6] [(7, ae g.Width)] (.seq (.wk ((Wk.fix 1 (cs := (ak.c c)) (by kernel_rfl)).to (c := ⟨mkS 81 0 [(2, .hp 0 0), (3, .hp 1 0), (4, .hp 2 0), (6, .fn 111 [] [.hp 1 0]), (7, ae g.Width)], [.own (al.c g), .fix (ak.c c), .own zN4]⟩) (by kernel_rfl)) ?_))))))
 obtain ⟨e, hr⟩ := gd hr
 obtain ⟨a, k, b, m, hr⟩ := bd2 hr
 refine .tn G (ca1 (cE (args := [ae (Fj (g.X0 + (Fj ((c.A.tmod g.Width) * g.Step)))), ae (Fj (g.X0 + (Fj ((c.B.tmod g.Width) * g.Step)))), .hp 1 0]) (l := [1]) (Sp (Sp (SnL.cons (Sn.hp rfl (.inr rfl) (SnC.cons (Sn.pure rfl) (SnC.cons (Sn.pure rfl) (SnC.cons (Sn.pure rfl) (SnC.cons (Sn.pure rfl) (SnC.cons (Sn.pure rfl) (SnC.cons (Sn.pure rfl) SnC.nil))))))) SnL.nil))) (nK n (Fj (g.X0 + (Fj ((c.A.tmod g.Width) * g.Step)))) (Fj (g.X0 + (Fj ((c.B.tmod g.Width) * g.Step)))) c.A c.B c.At.Num.Negative c.At.Num.Groups c.At.Den.Negative c.At.Den.Groups a k)) (ca3 (cE (args := [ae (Fj (g.Y0 + (Fj ((Fj (c.A.tdiv g.Width)) * g.Step)))), ae (Fj (g.Y0 + (Fj ((Fj (c.B.tdiv g.Width)) * g.Step)))), .hp 1 0]) (l := [1]) (Sp (Sp (SnL.cons (Sn.hp rfl (.inr rfl) (SnC.cons (Sn.pure rfl) (SnC.cons (Sn.pure rfl) (SnC.cons (Sn.pure rfl) (SnC.cons (Sn.pure rfl) (SnC.cons (Sn.pure rfl) (SnC.cons (Sn.pure rfl) SnC.nil))))))) SnL.nil))) (nK n (Fj (g.Y0 + (Fj ((Fj (c.A.tdiv g.Width)) * g.Step)))) (Fj (g.Y0 + (Fj ((Fj (c.B.tdiv g.Width)) * g.Step)))) c.A c.B c.At.Num.Negative c.At.Num.Groups c.At.Den.Negative c.At.Den.Groups b m)))) (.mu 6 (.pk (v := ae (c.A.tmod g.Width)) (qV (x := c.A) (y := g.Width) (by kernel_rfl) (by kernel_rfl) e) (.mu 9 (.pk (v := ae (c.B.tmod g.Width)) (qV (x := c.B) (y := g.Width) (by kernel_rfl) (by kernel_rfl) e) (.mu 4 (.ca cf0 (.mu 6 (.pk (v := ae (Fj (c.A.tdiv g.Width))) (qY (x := c.A) (y := g.Width) (by kernel_rfl) (by kernel_rfl) e) (.mu 9 (.pk (v := ae (Fj (c.B.tdiv g.Width))) (qY (x := c.B) (y := g.Width) (by kernel_rfl) (by kernel_rfl) e) (.mu 4 (.ca (cfA (fun h => by rw [sv m k (sq n (show ([ae (Fj (g.Y0 + (Fj ((Fj (c.A.tdiv g.Width)) * g.Step)))), ae (Fj (g.Y0 + (Fj ((Fj (c.B.tdiv g.Width)) * g.Step)))), .pp (ak.c c) 0] : List AV) = [ae (Fj (g.X0 + (Fj ((c.A.tmod g.Width) * g.Step)))), ae (Fj (g.X0 + (Fj ((c.B.tmod g.Width) * g.Step)))), .pp (ak.c c) 0] from (congr (congrArg List.cons (List.cons.inj h).1) (congr (congrArg List.cons (List.cons.inj (List.cons.inj h).2).1) (congr (congrArg List.cons rfl) rfl)))))]) cf0) (.mu 3 ?_)))))))))))))
 refine .done ⟨by kernel_rfl, ?_⟩
 refine .nh [4, 5] [.own (al.c g), .fix (ak.c c), .own [aB a.Num.Negative, an a.Num.Groups, aB a.Den.Negative, an a.Den.Groups, aB b.Num.Negative, an b.Num.Groups, aB b.Den.Negative, an b.Den.Groups]] (.ret ?_)
 obtain rfl := oi hr
 exact aK.ret (vs := [.agg [aB a.Num.Negative, an a.Num.Groups, aB a.Den.Negative, an a.Den.Groups, aB b.Num.Negative, an b.Num.Groups, aB b.Den.Negative, an b.Den.Groups], ae 0]) (by kernel_rfl) (Sn.tup (Sp (Sp SnL.nil)))

theorem tC (n : Nat) (g : al) (c : ag) (r : List aI × Int) (hr : nF n g c = some r) : aL Tryz.prog 59 [.agg (al.c g), .agg (ag.c c)] (.tup [slT aI.c r.1, ae r.2]) := by
 unfold nF at hr
 refine aL.bd G Tryz.func59 [.tmp 4, .tmp 5] ?_
 unfold Tryz.f59
 simp only [gS]
 refine .seq (.r2 G 33 [(2, .hp 0 0), (3, .hp 1 0)] [.own (al.c g), .own (ag.c c)] (.seq (.r4 G [2, 3] [(6, nS)] (.seq (.seq (.r4 G [2, 6] [(12, slT ak.c c.Points), (13, ae (c.Points.length : Int)), (14, ae 0)] (.block ?_)))))))
 replace hr := bd hr; obtain ⟨k, i, hr⟩ := hr
 refine .aM (σ := fun u => match u with | (b, a) => ⟨mkS 33 0 [(2, .hp 0 0), (6, .hs 1 0 b.length 8), (12, slT ak.c c.Points), (13, ae (c.Points.length : Int)), (14, ae a)], [.own (al.c g), .own (b.flatMap aI.c)]⟩) (Q := fun x st' => match (generalizing := false) k with | .inl f => x = .exit 0 /\ Wk 0 st' ⟨mkS 33 0 [(6, .hs 0 0 f.length 8)], [.own (f.flatMap aI.c)]⟩ | .inr (r0) => x = .ret /\ aK Tryz.prog [.tmp 4, .tmp 5] (.tup [slT aI.c r0.1, ae r0.2]) .ret st') i ((Wk.nil 6 8 (by kernel_rfl)).trans ((Wk.gc [2, 6, 12, 13, 14] [(0, true), (2, false)] rfl (pKt (pKc trivial))).to)) ?_ ?_
 ·clear hr
  rintro m ⟨b, a⟩ hr
  show CQ _ _ _ _ _ ⟨_, _⟩
  refine .seq (.r4 G [2, 6, 12, 13, 14] [(15, aB (decide (a < (c.Points.length : Int))))] (.seq ?_))
  refine .cd hr ?_ ?_ <;> intro s hr
  ·refine .skip (.seq (.block (.seq ?_)))
   obtain ⟨j, hr⟩ := gd hr
   refine .r0 G (.p0 (v := .pp (c.Points.flatMap ak.c) (a.toNat * 6)) (tr (au j)) (.p0 (v := .agg (ak.c (gt c.Points a))) (tr (y := bB.ofP (ei (decide (6 <= ((c.Points.flatMap ak.c).drop (a.toNat * 6)).length)) (.agg (((c.Points.flatMap ak.c).drop (a.toNat * 6)).take 6)))) (b6 ak.len (aC j) (by decide) (by omega : a.toNat * 6 = a.toNat * 6 + 0) (by kernel_rfl))) (.mu 2 (.done (.nh [2, 6, 8, 12, 13, 14] [.own (al.c g), .own (b.flatMap aI.c), .own (ak.c (gt c.Points a))] (.seq ?_))))))
   obtain ⟨d, o, hr⟩ := bd hr
   refine .g1 G (ok0 (ub n g (gt c.Points a) d o)) (.mu 2 (.ca cf0 (.mu 6 (.done (.nh [2, 6, 9, 10, 12, 13, 14] [.own (al.c g), .own (b.flatMap aI.c), .own (ak.c (gt c.Points a)), .own (aI.c d.1)] (.seq (.seq (.r4 G [2, 6, 9, 10, 12, 13, 14] [(25, aB ((d.2 : Int) != 0))] ?_))))))))
   refine .cd hr ?_ ?_ <;> intro t hr
   ·refine .seq (.r3 G 33 [(4, nS), (5, ae d.2)] (.ret ?_))
    obtain rfl := oi hr
    exact ⟨rfl, aK.ret (vs := [nS, ae d.2]) (by kernel_rfl) (Sn.tup (SnL.cons Sn.fR (Sp SnL.nil)))⟩
   refine .skip ?_
   obtain ⟨p, q, hr⟩ := gd2 hr
   refine .r0 G (.mu 3 (.e0 (v := .hs 5 0 (b ++ [d.1]).length 8) (ws := [(1, .dead), (5, .own ((b ++ [d.1]).flatMap aI.c))]) (tr (fb (new := (aI.c d.1)) (l := b) (xs := [d.1]) aI.len rfl rfl (by kernel_rfl) p q)) (.mu 1 (.done (.pop (.ru G ?_))))))
   exact aA (b ++ [d.1], Fj (a + 1)) hr ((Wk.gc [2, 6, 12, 13, 14] [(0, true), (5, false)] rfl (pKt (pKo aI.c aI.pure (b ++ [d.1]) trivial))).to)
  refine .leave rfl ?_
  obtain rfl := oi hr
  exact ⟨rfl, ((Wk.gc [6] [(1, false)] rfl (pKo aI.c aI.pure b trivial)).to)⟩
 rcases k with f | r0
 ·rintro x st' e
  clear i
  obtain ⟨rfl, e⟩ := e
  refine aW _ rfl (.wk e (.seq (.r3 G 33 [(4, .hs 0 0 f.length 8), (5, ae 0)] (.ret ?_))))
  obtain rfl := oi hr
  exact aK.ret (vs := [.hs 0 0 f.length 8, ae 0]) (by kernel_rfl) (Sn.tup (SnL.cons (Sn.hs rfl (.inl rfl) (SnC.pure (aY aI.pure _)) (fun h => cJ h)) (Sp SnL.nil)))
 rintro x st' e
 clear i
 obtain ⟨rfl, e⟩ := e
 obtain rfl := oi hr
 exact iz _ e

theorem r9 (n : Nat) (polygon : List aI) (o : aI) (r : Int × Bool) (hr : mU n polygon o = some r) : aL Tryz.prog 60 [slT aI.c polygon, .agg (aI.c o)] (.tup [ae r.1, aB r.2]) := by
 unfold mU at hr
 refine aL.bd G Tryz.func60 [.tmp 4, .tmp 5] ?_
 unfold Tryz.f60
 simp only [gS]
 refine .seq (.r5 G [0] [(3, .hp 0 0)] [.own (aI.c o)] (.seq (.r4 G [0, 3] [(6, ae 0)] (.seq (.seq (.r4 G [0, 3, 6] [(17, slT aI.c polygon), (18, ae (polygon.length : Int)), (19, ae 0)] (.block ?_)))))))
 replace hr := bd hr; obtain ⟨E, s, hr⟩ := hr
 refine .aM (σ := fun z0 => match z0 with | (j, a) => ⟨mkS 105 0 [(0, slT aI.c polygon), (3, .hp 0 0), (6, ae j), (17, slT aI.c polygon), (18, ae (polygon.length : Int)), (19, ae a)], [.own (aI.c o)]⟩) (Q := fun x st' => match (generalizing := false) E with | .inl w => x = .exit 0 /\ Wk 0 st' ⟨mkS 105 0 [(6, ae w)], []⟩ | .inr (r0) => x = .ret /\ aK Tryz.prog [.tmp 4, .tmp 5] (.tup [ae r0.1, aB r0.2]) .ret st') s ((Wk.gc [0, 3, 6, 17, 18, 19] [(0, true)] rfl trivial).to) ?_ ?_
 ·clear hr
  rintro m ⟨j, a⟩ hr
  show CQ _ _ _ _ _ ⟨_, _⟩
  refine .seq (.r4 G [0, 3, 6, 17, 18, 19] [(20, aB (decide (a < (polygon.length : Int))))] (.seq ?_))
  refine .cd hr ?_ ?_ <;> intro jL hr
  ·refine .skip (.seq (.block (.seq ?_)))
   obtain ⟨F, hr⟩ := gd hr
   refine .r0 G (.mu 1 (.p0 (v := .pp (polygon.flatMap aI.c) (a.toNat * 8)) (tr (au F)) (.p0 (v := .agg (aI.c (gt polygon a))) (tr (y := bB.ofP (ei (decide (8 <= ((polygon.flatMap aI.c).drop (a.toNat * 8)).length)) (.agg (((polygon.flatMap aI.c).drop (a.toNat * 8)).take 8)))) (b6 aI.len (aC F) (by decide) (by omega : a.toNat * 8 = a.toNat * 8 + 0) (by kernel_rfl))) (.mu 3 (.done (.nh [0, 3, 6, 7, 8, 17, 18, 19] [.own (aI.c o), .own (aI.c (gt polygon a))] (.seq ?_)))))))
   obtain ⟨V, H, hr⟩ := gd2 hr
   refine .r0 G (.mu 5 (.p0 (v := ae ((Fj (a + 1)).tmod (polygon.length : Int))) (qV (x := Fj (a + 1)) (y := (polygon.length : Int)) (by kernel_rfl) (by kernel_rfl) V) (.p0 (v := .pp (polygon.flatMap aI.c) (((Fj (a + 1)).tmod (polygon.length : Int)).toNat * 8)) (tr (au H)) (.p0 (v := .agg (aI.c (gt polygon ((Fj (a + 1)).tmod (polygon.length : Int))))) (tr (y := bB.ofP (ei (decide (8 <= ((polygon.flatMap aI.c).drop (((Fj (a + 1)).tmod (polygon.length : Int)).toNat * 8)).length)) (.agg (((polygon.flatMap aI.c).drop (((Fj (a + 1)).tmod (polygon.length : Int)).toNat * 8)).take 8)))) (b6 aI.len (aC H) (by decide) (by omega : ((Fj (a + 1)).tmod (polygon.length : Int)).toNat * 8 = ((Fj (a + 1)).tmod (polygon.length : Int)).toNat * 8 + 0) (by kernel_rfl))) (.mu 2 (.done (.nh [0, 3, 6, 8, 9, 17, 18, 19] [.own (aI.c o), .own (aI.c (gt polygon a)), .own (aI.c (gt polygon ((Fj (a + 1)).tmod (polygon.length : Int))))] (.seq ?_))))))))
   obtain ⟨k, I, d, J, hr⟩ := bd2 hr
   refine .tn G (ca1 (ok0 (ee n (gt polygon a).X o.X k I)) (ca3 (ok0 (ee n (gt polygon a).Y o.Y d J)))) (.mu 4 (.ca cf0 (.mu 4 (.ca (cfA (fun h => by rw [sv J I (mT n h)]) cf0) (.mu 4 ?_)))))
   refine .done ⟨by kernel_rfl, ?_⟩
   refine .nh [0, 3, 6, 9, 10, 11, 17, 18, 19] [.own (aI.c o), .own (aI.c (gt polygon a)), .own (aI.c (gt polygon ((Fj (a + 1)).tmod (polygon.length : Int)))), .own (ai.c k), .own (ai.c d)] (.seq ?_)
   obtain ⟨t, L, f, M, hr⟩ := bd2 hr
   refine .tn G (ca1 (ok0 (ee n (gt polygon ((Fj (a + 1)).tmod (polygon.length : Int))).X o.X t L)) (ca3 (ok0 (ee n (gt polygon ((Fj (a + 1)).tmod (polygon.length : Int))).Y o.Y f M)))) (.mu 4 (.ca cf0 (.mu 4 (.ca (cfA (fun h => by rw [sv M L (mT n h)]) cf0) (.mu 4 ?_)))))
   refine .done ⟨by kernel_rfl, ?_⟩
   refine .nh [0, 3, 6, 10, 11, 12, 13, 17, 18, 19] [.own (aI.c o), .own (aI.c (gt polygon a)), .own (aI.c (gt polygon ((Fj (a + 1)).tmod (polygon.length : Int)))), .own (ai.c k), .own (ai.c d), .own (ai.c t), .own (ai.c f)] (.seq ?_)
   obtain ⟨W, N, Z, O, iP, j4, hr⟩ := bd3 hr
   obtain ⟨B, ko, hr⟩ := bd hr
   refine .tn G (ca1 (ok0 (dF n k f W N)) (ca1 (ok0 (dF n d t Z O)) (ca1 (ok0 (ee n W Z iP j4)) (ca3 (ok0 (bc n iP B ko)))))) (.mu 2 (.ca cf0 (.mu 2 (.ca (cfA (fun h => by rw [sv O N (m7 n h)]) cf0) (.ca (cfF (cfF cf0)) (.ca (cfF (cfF (cfF cf0))) (.mu 1 ?_)))))))
   refine .done ⟨by kernel_rfl, ?_⟩
   refine .nh [0, 3, 6, 10, 11, 12, 13, 14, 17, 18, 19] [.own (aI.c o), .own (aI.c (gt polygon a)), .own (aI.c (gt polygon ((Fj (a + 1)).tmod (polygon.length : Int)))), .own (ai.c k), .own (ai.c d), .own (ai.c t), .own (ai.c f)] (.seq (.seq ?_))
   replace hr := bd hr; obtain ⟨kj, u, hr⟩ := hr
   refine .DX (Q := fun x st' => match (generalizing := false) kj with | .inl _ => x = .normal /\ Wk 0 st' ⟨mkS 105 0 [(0, slT aI.c polygon), (3, .hp 0 0), (6, ae j), (11, .hp 1 0), (13, .hp 2 0), (14, ae B), (17, slT aI.c polygon), (18, ae (polygon.length : Int)), (19, ae a)], [.own (aI.c o), .own (ai.c d), .own (ai.c f)]⟩ | .inr (r0) => x = .ret /\ aK Tryz.prog [.tmp 4, .tmp 5] (.tup [ae r0.1, aB r0.2]) .ret st') ?_ ?_
   ·clear hr
    have hr := u
    clear u
    rcases bT ((B : Int) == 0) with l | l
    ·replace hr := cC l hr
     obtain ⟨kz, R, ki, S, kO, lj, hr⟩ := bd3 hr
     obtain ⟨jo, ml, hr⟩ := bd hr
     refine .tn G (ca1 (ok0 (dF n k t kz R)) (ca1 (ok0 (dF n d f ki S)) (ca1 (ok0 (dc n kz ki kO lj)) (ca3 (ok0 (bc n kO jo ml)))))) (.mu 1 (.pk (v := aB true) (eB l) (.mu 3 (.ca cf0 (.mu 2 (.ca (cfA (fun h => by rw [sv S R (m7 n h)]) cf0) (.ca (cfF (cfF cf0)) (.ca (cfF (cfF (cfF cf0))) (.mu 2 ?_)))))))))
     refine .done ⟨by kernel_rfl, ?_⟩
     refine .nh [0, 3, 6, 11, 13, 14, 17, 18, 19, 72] [.own (aI.c o), .own (aI.c (gt polygon a)), .own (aI.c (gt polygon ((Fj (a + 1)).tmod (polygon.length : Int)))), .own (ai.c k), .own (ai.c d), .own (ai.c t), .own (ai.c f)] ?_
     refine .cd hr ?_ ?_ <;> intro kq hr
     ·refine .seq (.ru G (.ret ?_))
      obtain rfl := oi hr
      exact ⟨rfl, aK.ret (vs := [ae 0, aB true]) (by kernel_rfl) (Sn.tup (Sp (Sp SnL.nil)))⟩
     refine .skip ?_
     obtain rfl := oi hr
     exact ⟨rfl, ((Wk.gc [0, 3, 6, 11, 13, 14, 17, 18, 19] [(0, true), (4, true), (6, true)] rfl trivial).to)⟩
    replace hr := cB l hr
    refine .dZ G bI (.mu 1 (.pk (v := aB false) (eB l) (.mu 11 ?_)))
    refine .done ⟨by kernel_rfl, ?_⟩
    refine .nh [0, 3, 6, 11, 13, 14, 17, 18, 19, 72] [.own (aI.c o), .own (aI.c (gt polygon a)), .own (aI.c (gt polygon ((Fj (a + 1)).tmod (polygon.length : Int)))), .own (ai.c k), .own (ai.c d), .own (ai.c t), .own (ai.c f)] (.cF (by kernel_rfl) (.skip ?_))
    obtain rfl := oi hr
    exact ⟨rfl, ((Wk.gc [0, 3, 6, 11, 13, 14, 17, 18, 19] [(0, true), (4, true), (6, true)] rfl trivial).to)⟩
   rcases kj with ⟨⟩ | r0
   ·rintro x st' e
    clear u
    obtain ⟨rfl, e⟩ := e
    refine .wk e (.seq ?_)
    obtain ⟨C, T, D, U, hr⟩ := bd2 hr
    refine .tn G (ca1 (ok0 (bc n d C T)) (ca3 (ok0 (bc n f D U)))) (.mu 1 (.ca cf0 (.mu 2 (.ca (cfA (fun h => by rw [sv U T (fk n h)]) cf0) (.mu 3 ?_)))))
    refine .done ⟨by kernel_rfl, ?_⟩
    refine .nh [0, 3, 6, 14, 15, 16, 17, 18, 19] [.own (aI.c o), .own (ai.c d), .own (ai.c f)] (.block (.seq ?_))
    replace hr := bd hr; obtain ⟨mc, z, hr⟩ := hr
    refine .vD (Q := fun x st' => x = .normal /\ Wk 0 st' ⟨mkS 105 0 [(0, slT aI.c polygon), (3, .hp 0 0), (6, ae j), (14, ae B), (15, aB (decide (C <= 0))), (16, aB (decide (D <= 0))), (17, slT aI.c polygon), (18, ae (polygon.length : Int)), (19, ae a), (79, aB mc)], [.own (aI.c o)]⟩) ?_ ?_
    ·clear hr
     have hr := z
     clear z
     rcases bT (decide (C <= 0)) with g | g
     ·replace hr := cC g hr
      rcases bT (!(decide (D <= 0))) with p | p
      ·replace hr := cC p hr
       refine .r0 G (.p0 (v := aB true) (eB g) (.mu 2 (.pure (v := aB true) (by kernel_rfl) (eB p) (.mu 6 (.done ?_)))))
       obtain rfl := oi hr
       exact ⟨rfl, ((Wk.gc [0, 3, 6, 14, 15, 16, 17, 18, 19, 79] [(0, true)] rfl trivial).to)⟩
      replace hr := cB p hr
      refine .r0 G (.p0 (v := aB true) (eB g) (.mu 2 (.pure (v := aB false) (by kernel_rfl) (eB p) (.mu 6 (.done ?_)))))
      obtain rfl := oi hr
      exact ⟨rfl, ((Wk.gc [0, 3, 6, 14, 15, 16, 17, 18, 19, 79] [(0, true)] rfl trivial).to)⟩
     replace hr := cB g hr
     refine .r0 G (.p0 (v := aB false) (eB g) (.mu 9 (.done ?_)))
     obtain rfl := oi hr
     exact ⟨rfl, ((Wk.gc [0, 3, 6, 14, 15, 16, 17, 18, 19, 79] [(0, true)] rfl trivial).to)⟩
    rintro x st' A
    clear z
    obtain ⟨rfl, A⟩ := A
    refine .wk A ?_
    refine .cd hr ?_ ?_ <;> intro kD hr
    ·refine .ru G (.pop (.pop (.ru G ?_)))
     exact aA (Fj (j + 1), Fj (a + 1)) hr ((Wk.gc [0, 3, 6, 17, 18, 19] [(0, true)] rfl trivial).to)
    refine .seq ?_
    rcases bT (!(decide (C <= 0))) with i | i
    ·replace hr := cC i hr
     rcases bT (decide (D <= 0)) with q | q
     ·replace hr := cC q hr
      refine .r0 G (.mu 1 (.p0 (v := aB true) (eB i) (.mu 1 (.pure (v := aB true) (by kernel_rfl) (eB q) (.mu 6 (.done (.nh [0, 3, 6, 17, 18, 19, 91] [.own (aI.c o)] ?_)))))))
      refine .cd hr ?_ ?_ <;> intro jJ hr
      ·refine .ru G (.pop (.pop (.ru G ?_)))
       exact aA (Fj (j - 1), Fj (a + 1)) hr ((Wk.gc [0, 3, 6, 17, 18, 19] [(0, true)] rfl trivial).to)
      refine .skip (.pop (.pop (.ru G ?_)))
      exact aA (j, Fj (a + 1)) hr ((Wk.gc [0, 3, 6, 17, 18, 19] [(0, true)] rfl trivial).to)
     replace hr := cB q hr
     refine .r0 G (.mu 1 (.p0 (v := aB true) (eB i) (.mu 1 (.pure (v := aB false) (by kernel_rfl) (eB q) (.mu 6 (.done (.nh [0, 3, 6, 17, 18, 19, 91] [.own (aI.c o)] (.cF (by kernel_rfl) (.skip (.pop (.pop (.ru G ?_))))))))))))
     exact aA (j, Fj (a + 1)) hr ((Wk.gc [0, 3, 6, 17, 18, 19] [(0, true)] rfl trivial).to)
    replace hr := cB i hr
    refine .r0 G (.mu 1 (.p0 (v := aB false) (eB i) (.mu 8 (.done (.nh [0, 3, 6, 17, 18, 19, 91] [.own (aI.c o)] (.cF (by kernel_rfl) (.skip (.pop (.pop (.ru G ?_))))))))))
    exact aA (j, Fj (a + 1)) hr ((Wk.gc [0, 3, 6, 17, 18, 19] [(0, true)] rfl trivial).to)
   rintro x st' e
   clear u
   obtain ⟨rfl, e⟩ := e
   obtain rfl := oi hr
   exact iz _ ⟨rfl, e⟩
  refine .leave rfl ?_
  obtain rfl := oi hr
  exact ⟨rfl, ((Wk.gc [6] [] rfl pK0).to)⟩
 rcases E with w | r0
 ·rintro x st' b
  clear s
  obtain ⟨rfl, b⟩ := b
  refine aW _ rfl (.wk b (.seq (.ru G (.ret ?_))))
  obtain rfl := oi hr
  exact aK.ret (vs := [ae w, aB false]) (by kernel_rfl) (Sn.tup (Sp (Sp SnL.nil)))
 rintro x st' b
 clear s
 obtain ⟨rfl, b⟩ := b
 obtain rfl := oi hr
 exact iz _ b

theorem uh (n : Nat) (g : al) (l : ag) (i : Int) (j : Int) (r : Int × Int) (hr : oN n g l i j = some r) : aL Tryz.prog 22 [.agg (al.c g), .agg (ag.c l), ae i, ae j] (.tup [ae r.1, ae r.2]) := by
 unfold oN at hr
 refine aL.bd G Tryz.func22 [.tmp 8, .tmp 9] ?_
 unfold Tryz.f22
 simp only [gS]
 refine .seq (.r5 G [2, 3] [(4, .hp 0 0), (5, .hp 1 0)] [.own (al.c g), .own (ag.c l)] (.seq (.seq ?_)))
 obtain ⟨y, z, hr⟩ := bd hr
 refine .g1 G (ok0 (ph n g y z)) (.mu 1 (.ca cf0 (.mu 1 (.done (.nh [2, 3, 4, 5, 10] [.own (al.c g), .own (ag.c l)] (.seq (.r4 G [2, 3, 4, 5, 10] [(18, aB ((y : Int) != 0))] ?_)))))))
 refine .cd hr ?_ ?_ <;> intro F hr
 ·refine .seq (.ru G (.ret ?_))
  obtain rfl := oi hr
  exact aK.ret (vs := [ae 0, ae y]) (by kernel_rfl) (Sn.tup (Sp (Sp SnL.nil)))
 refine .skip (.seq (.seq ?_))
 replace hr := bd hr; obtain ⟨A, e, hr⟩ := hr
 refine .vD (Q := fun x st' => x = .normal /\ Wk 0 st' ⟨mkS 79 0 [(2, ae i), (3, ae j), (4, .hp 0 0), (5, .hp 1 0), (37, aB A)], [.own (al.c g), .own (ag.c l)]⟩) ?_ ?_
 ·clear hr
  have hr := e
  clear e
  rcases bT (decide (i < 0)) with b | b
  ·replace hr := cC b hr
   refine .r0 G (.mu 1 (.p0 (v := aB true) (eB b) (.mu 16 (.done ?_))))
   obtain rfl := oi hr
   exact ⟨rfl, ((Wk.gc [2, 3, 4, 5, 37] [(0, true), (1, true)] rfl trivial).to)⟩
  replace hr := cB b hr
  rcases bT (decide (i >= g.Width)) with d | d
  ·replace hr := cC d hr
   refine .r0 G (.mu 1 (.p0 (v := aB false) (eB b) (.mu 4 (.pure (v := aB true) (by kernel_rfl) (eB d) (.mu 11 (.done ?_))))))
   obtain rfl := oi hr
   exact ⟨rfl, ((Wk.gc [2, 3, 4, 5, 37] [(0, true), (1, true)] rfl trivial).to)⟩
  replace hr := cB d hr
  rcases bT (decide (j < 0)) with f | f
  ·replace hr := cC f hr
   refine .r0 G (.mu 1 (.p0 (v := aB false) (eB b) (.mu 4 (.pure (v := aB false) (by kernel_rfl) (eB d) (.mu 3 (.pure (v := aB true) (by kernel_rfl) (eB f) (.mu 7 (.done ?_))))))))
   obtain rfl := oi hr
   exact ⟨rfl, ((Wk.gc [2, 3, 4, 5, 37] [(0, true), (1, true)] rfl trivial).to)⟩
  replace hr := cB f hr
  refine .r0 G (.mu 1 (.p0 (v := aB false) (eB b) (.mu 4 (.pure (v := aB false) (by kernel_rfl) (eB d) (.mu 3 (.pure (v := aB false) (by kernel_rfl) (eB f) (.mu 7 (.done ?_))))))))
  obtain rfl := oi hr
  exact ⟨rfl, ((Wk.gc [2, 3, 4, 5, 37] [(0, true), (1, true)] rfl trivial).to)⟩
 rintro x st' k
 clear e
 obtain ⟨rfl, k⟩ := k
 refine .wk k ?_
 refine .cd hr ?_ ?_ <;> intro B hr
 ·refine .seq (.ru G (.ret ?_))
  obtain rfl := oi hr
  exact aK.ret (vs := [ae 0, ae 2]) (by kernel_rfl) (Sn.tup (Sp (Sp SnL.nil)))
 refine .skip (.seq (.seq (.r4 G [2, 3, 4, 5] [(40, aB (!l.Closed))] ?_)))
 refine .cd hr ?_ ?_ <;> intro C hr
 ·refine .seq (.ru G (.ret ?_))
  obtain rfl := oi hr
  exact aK.ret (vs := [ae 0, ae 11]) (by kernel_rfl) (Sn.tup (Sp (Sp SnL.nil)))
 refine .skip (.seq ?_)
 obtain ⟨m, s, hr⟩ := bd hr
 refine .g1 G (ok0 (tC n g l m s)) (.mu 2 (.ca cf0 (.mu 5 (.done (.nh [2, 3, 4, 11, 12] [.own (al.c g), .own (ag.c l)] (.seq (.seq (.r4 G [2, 3, 4, 11, 12] [(48, aB ((m.2 : Int) != 0))] ?_))))))))
 refine .cd hr ?_ ?_ <;> intro D hr
 ·refine .seq (.ru G (.ret ?_))
  obtain rfl := oi hr
  exact aK.ret (vs := [ae 0, ae m.2]) (by kernel_rfl) (Sn.tup (Sp (Sp SnL.nil)))
 refine .skip (.seq ?_)
 obtain ⟨t, o, u, p, q, w, hr⟩ := bd3 hr
 refine .tn G (ca1 (ok0 (ct n (Fj (g.X0 + (Fj (i * g.Step)))) t o)) (ca1 (ok0 (ct n (Fj (g.Y0 + (Fj (j * g.Step)))) u p)) (ca3 (ok0 (r9 n m.1 (aI.mk t u) q w))))) (.mu 8 (.ca cf0 (.mu 7 (.ca (cfA (fun h => by rw [sv p o (ow n h)]) cf0) (.mu 1 (.ca (cfF (cfF cf0)) (.mu 5 ?_)))))))
 refine .done ⟨by kernel_rfl, ?_⟩
 refine .nh [11, 13, 14] [.own (al.c g), .own (ag.c l)] (.seq (.seq ?_))
 rcases bT q.2 with a | a
 ·replace hr := cC a hr
  refine .r0 G (.p0 (v := aB true) (eB a) (.mu 5 (.done (.nh [13, 77] [.own (al.c g), .own (ag.c l)] (.cT (by kernel_rfl) (.seq (.ru G (.ret ?_))))))))
  obtain rfl := oi hr
  exact aK.ret (vs := [ae 0, ae 13]) (by kernel_rfl) (Sn.tup (Sp (Sp SnL.nil)))
 replace hr := cB a hr
 refine .r0 G (.p0 (v := aB false) (eB a) (.mu 5 (.done (.nh [13, 77] [.own (al.c g), .own (ag.c l)] ?_))))
 refine .cd hr ?_ ?_ <;> intro E hr
 ·refine .seq (.ru G (.ret ?_))
  obtain rfl := oi hr
  exact aK.ret (vs := [ae 0, ae 13]) (by kernel_rfl) (Sn.tup (Sp (Sp SnL.nil)))
 refine .skip (.seq (.ru G (.ret ?_)))
 obtain rfl := oi hr
 exact aK.ret (vs := [ae q.1, ae 0]) (by kernel_rfl) (Sn.tup (Sp (Sp SnL.nil)))
end Go.L
