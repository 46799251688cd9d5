
import Derived.Test.YtecdcgfclgmbpaaGreatTurLP3
import Derived.Test.YtecdcgfclgmbpaaGreatL0Turs
import Derived.Test.YtecdcgfclgmbpaaGreatChecked
import Derived.KernelRfl
set_option linter.all false
set_option maxRecDepth 100000
set_option maxHeartbeats 4000000
namespace Go.L
open Go Go.Eng Go.Proofs
theorem pd (n : Nat) (g : ar) (c : al) (r : an × Int) (hr : cm n g c = some r) : aM Tryz.prog 30 [.agg (ar.c g), .agg (al.c c)] (.tup [.agg (an.c r.1), aj r.2]) := by
 unfold cm at hr
 refine aM.bd G Tryz.func30 [.cell 4 59, .tmp 5] ?_
 unfold Tryz.f30
 simp only [gS]
 refine .seq (.r2 G 97 [(2, .hp 0 0), (3, .hp 1 0), (4, .hp 2 0)] [.own (ar.c g), .own (al.c c), .own zN4] (.seq (.r4 G [2, 3, 4] [(6, aB false)] (.seq (.seq ?_)))))
 obtain ⟨d, mv, hr⟩ := bd hr
 refine .g1 G (ok0 (nk n g d mv)) (.mu 1 (.ca cf0 (.mu 2 (.done (.nh [2, 3, 4, 6, 13, 14, 15] [.own (ar.c g), .own (al.c c), .own zN4] (.block ?_))))))
 replace hr := bd hr; obtain ⟨t, u, hr⟩ := hr
 refine .aL (σ := fun z0 => match z0 with | (T, a) => ⟨mkS 97 0 [(2, .hp 0 0), (3, .hp 1 0), (4, .hp 2 0), (6, aB T), (13, slT av.c d), (14, aj (d.length : Int)), (15, aj a)], [.own (ar.c g), .own (al.c c), .own zN4]⟩) (Q := fun x st' => x = .exit 0 /\ Wk 0 st' ⟨mkS 97 0 [(2, .hp 0 0), (3, .hp 1 0), (4, .hp 2 0), (6, aB t)], [.own (ar.c g), .own (al.c c), .own zN4]⟩) u ((Wk.gc [2, 3, 4, 6, 13, 14, 15] kT3 rfl trivial).to) ?_ ?_
 ·clear hr
  rintro m ⟨T, a⟩ hr
  show CQ _ _ _ _ _ ⟨_, _⟩
  refine .seq (.r4 G [2, 3, 4, 6, 13, 14, 15] [(16, aB (decide (a < (d.length : Int))))] (.seq ?_))
  refine .cd hr ?_ ?_ <;> intro pL hr
  ·refine .skip (.seq (.block (.seq ?_)))
   obtain ⟨w, hr⟩ := gd hr
   refine .r0 G (.p0 (v := .pp (d.flatMap av.c) (a.toNat * 3)) (tr (au w)) (.p0 (v := .agg (av.c (gt d a))) (tr (y := bt.ofP (dz (decide (3 <= ((d.flatMap av.c).drop (a.toNat * 3)).length)) (.agg (((d.flatMap av.c).drop (a.toNat * 3)).take 3)))) (bB av.len (aD w) (by decide) (by omega : a.toNat * 3 = a.toNat * 3 + 0) (by kernel_rfl))) (.mu 2 (.done (.nh [2, 3, 4, 6, 8, 13, 14, 15] [.own (ar.c g), .own (al.c c), .own zN4, .own (av.c (gt d a))] (.seq (.r4 G [2, 3, 4, 6, 8, 13, 14, 15] [(19, aj 0)] (.block ?_))))))))
   replace hr := bd hr; obtain ⟨z, C, hr⟩ := hr
   refine .aL (σ := fun z0 => match z0 with | (o, b) => ⟨mkS 97 0 [(2, .hp 0 0), (3, .hp 1 0), (4, .hp 2 0), (6, aB o), (8, .hp 3 0), (13, slT av.c d), (14, aj (d.length : Int)), (15, aj a), (19, aj b)], [.own (ar.c g), .own (al.c c), .own zN4, .own (av.c (gt d a))]⟩) (Q := fun x st' => x = .exit 2 /\ Wk 0 st' ⟨mkS 97 0 [(2, .hp 0 0), (3, .hp 1 0), (4, .hp 2 0), (6, aB z), (13, slT av.c d), (14, aj (d.length : Int)), (15, aj a)], [.own (ar.c g), .own (al.c c), .own zN4]⟩) C ((Wk.gc [2, 3, 4, 6, 8, 13, 14, 15, 19] kT4 rfl trivial).to) ?_ ?_
   ·clear hr
    rintro m ⟨o, b⟩ hr
    show CQ _ _ _ _ _ ⟨_, _⟩
    refine .seq (.r4 G [2, 3, 4, 6, 8, 13, 14, 15, 19] [(20, aB (decide (b < 3)))] (.seq ?_))
    refine .cd hr ?_ ?_ <;> intro kH hr
    ·refine .skip (.seq (.block (.seq (.r4 G [2, 3, 4, 6, 8, 13, 14, 15, 19] [(9, aj b)] (.seq ?_)))))
     rcases bT (decide (c.A < c.B)) with i | i
     ·replace hr := b8 i hr
      obtain ⟨D, E, hr⟩ := gd2 hr
      obtain ⟨mw, U, hr⟩ := bd hr
      refine .t1 G (ok0 (p9 n (A3.get (gt d a) b) (A3.get (gt d a) ((EN (b + 1)).tmod 3)) mw U)) (.mu 4 (.pk (v := aB true) (eB i) (.mu 2 (.pk (v := .hp 3 (0 + b.toNat * 1)) (tr (au D)) (.pk (v := aj (A3.get (gt d a) b)) (tr (y := bt.ofP ((av.c (gt d a))[0 + b.toNat * 1]?)) (aH (so (k := .i64) (kk := 0) (xs := [(gt d a).e0, (gt d a).e1, (gt d a).e2]) D rfl (by kernel_rfl)))) (.mu 3 (.pk (v := .hp 3 (0 + ((EN (b + 1)).tmod 3).toNat * 1)) (tr (au E)) (.pk (v := aj (A3.get (gt d a) ((EN (b + 1)).tmod 3))) (tr (y := bt.ofP ((av.c (gt d a))[0 + ((EN (b + 1)).tmod 3).toNat * 1]?)) (aH (so (k := .i64) (kk := 0) (xs := [(gt d a).e0, (gt d a).e1, (gt d a).e2]) E rfl (by kernel_rfl)))) (.ca cf0 (.mu 7 ?_))))))))))
      refine .done ⟨by kernel_rfl, ?_⟩
      refine .nh [2, 3, 4, 6, 8, 13, 14, 15, 19, 43] [.own (ar.c g), .own (al.c c), .own zN4, .own (av.c (gt d a))] ?_
      refine .cd hr ?_ ?_ <;> intro mN hr
      ·refine .ru G (.pop (.ru G ?_))
       exact aA (true, EN (b + 1)) hr ((Wk.gc [2, 3, 4, 6, 8, 13, 14, 15, 19] kT4 rfl trivial).to)
      refine .skip (.pop (.ru G ?_))
      exact aA (o, EN (b + 1)) hr ((Wk.gc [2, 3, 4, 6, 8, 13, 14, 15, 19] kT4 rfl trivial).to)
     replace hr := bX i hr
     refine .ei G bL (.mu 4 (.pk (v := aB false) (eB i) (.mu 17 ?_)))
     refine .done ⟨by kernel_rfl, ?_⟩
     refine .nh [2, 3, 4, 6, 8, 13, 14, 15, 19, 43] [.own (ar.c g), .own (al.c c), .own zN4, .own (av.c (gt d a))] (.cF (by kernel_rfl) (.skip (.pop (.ru G ?_))))
     exact aA (o, EN (b + 1)) hr ((Wk.gc [2, 3, 4, 6, 8, 13, 14, 15, 19] kT4 rfl trivial).to)
    refine .leave rfl ?_
    obtain rfl := oi hr
    exact ⟨rfl, ((Wk.gc [2, 3, 4, 6, 13, 14, 15] kT3 rfl trivial).to)⟩
   rintro x st' p
   clear C
   obtain ⟨rfl, p⟩ := p
   refine aV _ rfl (.pop (.wk p (.ru G ?_)))
   exact aA (z, EN (a + 1)) hr ((Wk.gc [2, 3, 4, 6, 13, 14, 15] kT3 rfl trivial).to)
  refine .leave rfl ?_
  obtain rfl := oi hr
  exact ⟨rfl, ((Wk.gc [2, 3, 4, 6] kT3 rfl trivial).to)⟩
 rintro x st' q
 clear u
 obtain ⟨rfl, q⟩ := q
 refine aV _ rfl (.wk q (.seq (.seq (.r4 G [2, 3, 4] [(47, aB (!t))] ?_))))
 refine .cd hr ?_ ?_ <;> intro mM hr
 ·refine .seq (.r4 G [4] [(5, aj 6)] (.ret ?_))
  obtain rfl := oi hr
  exact aF.ret (vs := [.agg zN4, aj 6]) (by kernel_rfl) (Sn.tup (SnL.cons (Sn.agg (Sp (SnL.cons Sn.dB (Sp (SnL.cons Sn.dB (Sp (SnL.cons Sn.dB (Sp (SnL.cons Sn.dB SnL.nil))))))))) (Sp SnL.nil)))
 refine .skip (.seq (.seq ?_))
 obtain ⟨nC, V, hr⟩ := bd hr
 refine .g1 G (ok0 (c7 n c.At nC V)) (.mu 2 (.ca cf0 (.mu 1 (.done (.nh [2, 3, 4, 52] [.own (ar.c g), .own (al.c c), .own zN4] ?_)))))
 refine .cd hr ?_ ?_ <;> intro nG hr
 ·refine .seq (.r4 G [4] [(5, aj 1)] (.ret ?_))
  obtain rfl := oi hr
  exact aF.ret (vs := [.agg zN4, aj 1]) (by kernel_rfl) (Sn.tup (SnL.cons (Sn.agg (Sp (SnL.cons Sn.dB (Sp (SnL.cons Sn.dB (Sp (SnL.cons Sn.dB (Sp (SnL.cons Sn.dB SnL.nil))))))))) (Sp SnL.nil)))
 refine .skip (.seq (.seq ?_))
 obtain ⟨S, F, hr⟩ := bd hr
 rcases bT (decide (S < 0)) with j | j
 ·replace hr := b8 j hr
  refine .t1 G (ok0 (jo n c.At S F)) (.mu 2 (.ca cf0 (.pk (v := aB true) (eB j) (.mu 7 ?_))))
  refine .done ⟨by kernel_rfl, ?_⟩
  refine .nh [2, 3, 4, 64] [.own (ar.c g), .own (al.c c), .own zN4] (.cT (by kernel_rfl) (.seq (.r4 G [4] [(5, aj 2)] (.ret ?_))))
  obtain rfl := oi hr
  exact aF.ret (vs := [.agg zN4, aj 2]) (by kernel_rfl) (Sn.tup (SnL.cons (Sn.agg (Sp (SnL.cons Sn.dB (Sp (SnL.cons Sn.dB (Sp (SnL.cons Sn.dB (Sp (SnL.cons Sn.dB SnL.nil))))))))) (Sp SnL.nil)))
 replace hr := bX j hr
 obtain ⟨W, Z, nF, jX, hr⟩ := bd2 hr
 refine .tn G (ca1 (ok0 (jo n c.At S F)) (ca1 (ok0 (fU n 1 W Z)) (ca3 (ok0 (b6 n c.At W nF jX))))) (.mu 2 (.ca cf0 (.pk (v := aB false) (eB j) (.mu 3 (.ca (cfF cf0) (.ca (cfF (cfF cf0)) (.mu 2 ?_)))))))
 refine .done ⟨by kernel_rfl, ?_⟩
 refine .nh [2, 3, 4, 64] [.own (ar.c g), .own (al.c c), .own zN4] ?_
 refine .cd hr ?_ ?_ <;> intro nK hr
 ·refine .seq (.r4 G [4] [(5, aj 2)] (.ret ?_))
  obtain rfl := oi hr
  exact aF.ret (vs := [.agg zN4, aj 2]) (by kernel_rfl) (Sn.tup (SnL.cons (Sn.agg (Sp (SnL.cons Sn.dB (Sp (SnL.cons Sn.dB (Sp (SnL.cons Sn.dB (Sp (SnL.cons Sn.dB SnL.nil))))))))) (Sp SnL.nil)))
 refine .skip (.seq ?_)
 obtain ⟨l, H, s, I, hr⟩ := bd2 hr
 refine .tn G (ca1 (ok0 (fV n g c.A l H)) (ca3 (ok0 (fV n g c.B s I)))) (.mu 3 (.ca cf0 (.mu 3 (.ca (cfA (fun h => by rw [sv I H (pK n h)]) cf0) (.mu 4 ?_)))))
 refine .done ⟨by kernel_rfl, ?_⟩
 refine .nh [3, 4, 10, 11] [.own (ar.c g), .own (al.c c), .own zN4, .own (an.c l), .own (an.c s)] (.seq ?_)
 obtain ⟨kB, J, lH, L, e, M, hr⟩ := bd3 hr
 obtain ⟨l8, N, lK, O, f, R, hr⟩ := bd3 hr
 refine .tn G (ca1 (ok0 (dE n s.X l.X kB J)) (ca1 (ok0 (ia n c.At kB lH L)) (ca1 (ok0 (jz n l.X lH e M)) (ca1 (ok0 (dE n s.Y l.Y l8 N)) (ca1 (ok0 (ia n c.At l8 lK O)) (ca3 (ok0 (jz n l.Y lK f R)))))))) (.mu 8 (.ca cf0 (.ca (cfF cf0) (.ca (cfF (cfF cf0)) (.mu 8 (.ca (cfA (fun h => by rw [sv N J (jC n h)]) (cfF (cfF cf0))) (.ca (cfF (cfA (fun h => by rw [sv O L (qH n h)]) (cfF (cfF cf0)))) (.ca (cfF (cfF (cfA (fun h => by rw [sv R M (qn n h)]) (cfF (cfF cf0))))) (.mu 3 ?_)))))))))
 refine .done ⟨by kernel_rfl, ?_⟩
 refine .nh [4, 5] [.own (ar.c g), .own (al.c c), .own [aB e.Num.Negative, aC e.Num.Groups, aB e.Den.Negative, aC e.Den.Groups, aB f.Num.Negative, aC f.Num.Groups, aB f.Den.Negative, aC f.Den.Groups], .own (an.c l), .own (an.c s)] (.ret ?_)
 obtain rfl := oi hr
 exact aF.ret (vs := [.agg [aB e.Num.Negative, aC e.Num.Groups, aB e.Den.Negative, aC e.Den.Groups, aB f.Num.Negative, aC f.Num.Groups, aB f.Den.Negative, aC f.Den.Groups], aj 0]) (by kernel_rfl) (Sn.tup (Sp (Sp SnL.nil)))

theorem oU (n : Nat) (g : ar) (c : ae) (r : List an × Int) (hr : dI n g c = some r) : aM Tryz.prog 24 [.agg (ar.c g), .agg (ae.c c)] (.tup [slT an.c r.1, aj r.2]) := by
 unfold dI at hr
 refine aM.bd G Tryz.func24 [.tmp 4, .tmp 5] ?_
 unfold Tryz.f24
 simp only [gS]
 refine .seq (.r2 G 34 [(2, .hp 0 0), (3, .hp 1 0)] [.own (ar.c g), .own (ae.c c)] (.seq (.r5 G [2, 3] [(6, .hs 2 0 0 8)] [.own (ar.c g), .own (ae.c c), .own []] (.seq (.seq (.r4 G [2, 6] [(13, slT al.c c.Points), (14, aj (c.Points.length : Int)), (15, aj 0)] (.block ?_)))))))
 replace hr := bd hr; obtain ⟨k, i, hr⟩ := hr
 refine .aL (σ := fun u => match u with | (b, a) => ⟨mkS 34 0 [(2, .hp 0 0), (6, .hs 1 0 b.length 8), (13, slT al.c c.Points), (14, aj (c.Points.length : Int)), (15, aj a)], [.own (ar.c g), .own (b.flatMap an.c)]⟩) (Q := fun x st' => match (generalizing := false) k with | .inl f => x = .exit 0 /\ Wk 0 st' ⟨mkS 34 0 [(6, .hs 0 0 f.length 8)], [.own (f.flatMap an.c)]⟩ | .inr (r0) => x = .ret /\ aF Tryz.prog [.tmp 4, .tmp 5] (.tup [slT an.c r0.1, aj r0.2]) .ret st') i ((Wk.gc [2, 6, 13, 14, 15] [(0, true), (2, false)] rfl (pKt (pKc trivial))).to) ?_ ?_
 ·clear hr
  rintro m ⟨b, a⟩ hr
  show CQ _ _ _ _ _ ⟨_, _⟩
  refine .seq (.r4 G [2, 6, 13, 14, 15] [(16, aB (decide (a < (c.Points.length : Int))))] (.seq ?_))
  refine .cd hr ?_ ?_ <;> intro s hr
  ·refine .skip (.seq (.block (.seq ?_)))
   obtain ⟨j, hr⟩ := gd hr
   refine .r0 G (.p0 (v := .pp (c.Points.flatMap al.c) (a.toNat * 6)) (tr (au j)) (.p0 (v := .agg (al.c (gt c.Points a))) (tr (y := bt.ofP (dz (decide (6 <= ((c.Points.flatMap al.c).drop (a.toNat * 6)).length)) (.agg (((c.Points.flatMap al.c).drop (a.toNat * 6)).take 6)))) (bB al.len (aD j) (by decide) (by omega : a.toNat * 6 = a.toNat * 6 + 0) (by kernel_rfl))) (.mu 2 (.done (.nh [2, 6, 8, 13, 14, 15] [.own (ar.c g), .own (b.flatMap an.c), .own (al.c (gt c.Points a))] (.seq ?_))))))
   obtain ⟨d, o, hr⟩ := bd hr
   refine .g1 G (ok0 (pd n g (gt c.Points a) d o)) (.mu 2 (.ca cf0 (.mu 6 (.done (.nh [2, 6, 9, 10, 13, 14, 15] [.own (ar.c g), .own (b.flatMap an.c), .own (al.c (gt c.Points a)), .own (an.c d.1)] (.seq (.seq (.r4 G [2, 6, 9, 10, 13, 14, 15] [(26, aB ((d.2 : Int) != 0))] ?_))))))))
   refine .cd hr ?_ ?_ <;> intro t hr
   ·refine .seq (.r3 G 34 [(4, nS), (5, aj d.2)] (.ret ?_))
    obtain rfl := oi hr
    exact ⟨rfl, aF.ret (vs := [nS, aj d.2]) (by kernel_rfl) (Sn.tup (SnL.cons Sn.dB (Sp SnL.nil)))⟩
   refine .skip ?_
   obtain ⟨p, q, hr⟩ := gd2 hr
   refine .r0 G (.mu 3 (.e0 (v := .hs 5 0 (b ++ [d.1]).length 8) (ws := [(1, .dead), (5, .own ((b ++ [d.1]).flatMap an.c))]) (tr (eJ (new := (an.c d.1)) (l := b) (xs := [d.1]) an.len rfl rfl (by kernel_rfl) p q)) (.mu 1 (.done (.pop (.ru G ?_))))))
   exact aA (b ++ [d.1], EN (a + 1)) hr ((Wk.gc [2, 6, 13, 14, 15] [(0, true), (5, false)] rfl (pKt (pKo an.c an.pure (b ++ [d.1]) trivial))).to)
  refine .leave rfl ?_
  obtain rfl := oi hr
  exact ⟨rfl, ((Wk.gc [6] [(1, false)] rfl (pKo an.c an.pure b trivial)).to)⟩
 rcases k with f | r0
 ·rintro x st' e
  clear i
  obtain ⟨rfl, e⟩ := e
  refine aV _ rfl (.wk e (.seq (.r3 G 34 [(4, .hs 0 0 f.length 8), (5, aj 0)] (.ret ?_))))
  obtain rfl := oi hr
  exact aF.ret (vs := [.hs 0 0 f.length 8, aj 0]) (by kernel_rfl) (Sn.tup (SnL.cons (Sn.hs rfl (.inl rfl) (SnC.pure (aZ an.pure _)) (fun h => cB h)) (Sp SnL.nil)))
 rintro x st' e
 clear i
 obtain ⟨rfl, e⟩ := e
 obtain rfl := oi hr
 exact gw _ e

theorem pY (n : Nat) (a : an) (b : an) (c : an) (r : Int) (hr : gx n a b c = some r) : aM Tryz.prog 63 [.agg (an.c a), .agg (an.c b), .agg (an.c c)] (aj r) := by
 unfold gx at hr
 refine aM.bd G Tryz.func63 [.tmp 6] ?_
 unfold Tryz.f63
 simp only [gS]
 refine .seq (.r2 G 34 [(3, .hp 0 0), (4, .hp 1 0), (5, .hp 2 0)] [.own (an.c a), .own (an.c b), .own (an.c c)] (.seq ?_))
 obtain ⟨p, f, q, g, m, o, hr⟩ := bd3 hr
 refine .tn G (ca1 (ok0 (dE n b.X a.X p f)) (ca1 (ok0 (dE n c.Y a.Y q g)) (ca3 (ok0 (ia n p q m o))))) (.mu 4 (.ca cf0 (.mu 4 (.ca (cfA (fun h => by rw [sv g f (jC n h)]) cf0) (.ca (cfF (cfF cf0)) (.mu 2 ?_))))))
 refine .done ⟨by kernel_rfl, ?_⟩
 refine .nh [3, 4, 5, 7] [.own (an.c a), .own (an.c b), .own (an.c c), .own (ak.c m)] (.seq ?_)
 obtain ⟨s, i, t, d, e, j, hr⟩ := bd3 hr
 refine .tn G (ca1 (ok0 (dE n b.Y a.Y s i)) (ca1 (ok0 (dE n c.X a.X t d)) (ca3 (ok0 (ia n s t e j))))) (.mu 4 (.ca cf0 (.mu 4 (.ca (cfA (fun h => by rw [sv d i (jC n h)]) cf0) (.ca (cfF (cfF cf0)) (.mu 2 ?_))))))
 refine .done ⟨by kernel_rfl, ?_⟩
 refine .nh [7, 8] [.own (an.c a), .own (an.c b), .own (an.c c), .own (ak.c m), .own (ak.c e)] (.seq ?_)
 obtain ⟨k, l, hr⟩ := bd hr
 refine .g1 G (ok0 (b6 n m e k l)) (.mu 2 (.ca cf0 (.mu 1 (.done (.ret ?_)))))
 obtain rfl := oi hr
 exact aF.r1 [aj k]

theorem nE {a : ak} {b : ak} {p : ak} {c : ak} {d : ak} {e : ak} (h : ([.agg [.at (.bool a.Num.Negative), slT iCu a.Num.Groups, .at (.bool a.Den.Negative), slT iCu a.Den.Groups], .agg [.at (.bool b.Num.Negative), slT iCu b.Num.Groups, .at (.bool b.Den.Negative), slT iCu b.Den.Groups], .agg [.at (.bool p.Num.Negative), slT iCu p.Num.Groups, .at (.bool p.Den.Negative), slT iCu p.Den.Groups]] : List AV) = [.agg [.at (.bool c.Num.Negative), slT iCu c.Num.Groups, .at (.bool c.Den.Negative), slT iCu c.Den.Groups], .agg [.at (.bool d.Num.Negative), slT iCu d.Num.Groups, .at (.bool d.Den.Negative), slT iCu d.Den.Groups], .agg [.at (.bool e.Num.Negative), slT iCu e.Num.Groups, .at (.bool e.Den.Negative), slT iCu e.Den.Groups]]) : a = c /\ b = d /\ p = e := by
 obtain ⟨⟨_, _⟩, ⟨_, _⟩⟩ := a
 obtain ⟨⟨_, _⟩, ⟨_, _⟩⟩ := c
 obtain ⟨⟨_, _⟩, ⟨_, _⟩⟩ := b
 obtain ⟨⟨_, _⟩, ⟨_, _⟩⟩ := d
 obtain ⟨⟨_, _⟩, ⟨_, _⟩⟩ := p
 obtain ⟨⟨_, _⟩, ⟨_, _⟩⟩ := e
 simp only [List.cons.injEq, AV.agg.injEq, AV.at.injEq, Value.int.injEq, Value.bool.injEq, AV.fn.injEq, AV.pp.injEq, true_and, and_true, dY] at h
 simp_all
theorem om (n : Nat) {a : ak} {b : ak} {p : ak} {d : ak} {e : ak} {f : ak} (h : ([.agg (ak.c a), .agg (ak.c b), .agg (ak.c p)] : List AV) = [.agg (ak.c d), .agg (ak.c e), .agg (ak.c f)]) : cQ n a b p = cQ n d e f := by
 obtain ⟨rfl, rfl, rfl⟩ := nE h
 rfl
theorem ij (n : Nat) (a : ak) (b : ak) (p : ak) (r : Bool) (hr : cQ n a b p = some r) : aM Tryz.prog 109 [.agg (ak.c a), .agg (ak.c b), .agg (ak.c p)] (aB r) := by
 unfold cQ at hr
 refine aM.bd G Tryz.func109 [.tmp 6] ?_
 unfold Tryz.f109
 simp only [gS]
 refine .seq (.r2 G 15 [(3, .hp 0 0), (4, .hp 1 0), (5, .hp 2 0)] [.own (ak.c a), .own (ak.c b), .own (ak.c p)] (.seq ?_))
 obtain ⟨f, d, g, e, hr⟩ := bd2 hr
 refine .tn G (ca1 (ok0 (b6 n a p f d)) (ca3 (ok0 (b6 n p b g e)))) (.mu 2 (.ca cf0 (.mu 2 (.ca (cfA (fun h => by rw [sv e d (ik n h)]) cf0) (.mu 3 ?_)))))
 refine .done ⟨by kernel_rfl, ?_⟩
 refine .ret ?_
 obtain rfl := oi hr
 exact aF.r1 [aB (decide ((EN (f * g)) >= 0))]

theorem oR (n : Nat) (a : an) (b : an) (p : an) (r : Bool) (hr : fz n a b p = some r) : aM Tryz.prog 64 [.agg (an.c a), .agg (an.c b), .agg (an.c p)] (aB r) := by
 unfold fz at hr
 refine aM.bd G Tryz.func64 [.tmp 6] ?_
 unfold Tryz.f64
 simp only [gS]
 refine .seq (.r2 G 23 [(3, .hp 0 0), (4, .hp 1 0), (5, .hp 2 0)] [.own (an.c a), .own (an.c b), .own (an.c p)] (.seq ?_))
 obtain ⟨i, d, hr⟩ := bd hr
 rcases bT i with e | e
 ·subst e
  replace hr := b8 rfl hr
  obtain ⟨g, f, hr⟩ := bd hr
  refine .gn G (ca1 (ok0 (ij n a.X b.X p.X true d)) (ca3 (ok0 (ij n a.Y b.Y p.Y g f)))) (.mu 6 (.ca cf0 (.mu 7 (.ca (cfA (fun h => by rw [sv f d (om n h)]) cf0) (.mu 2 (.done (.ret ?_)))))))
  obtain rfl := oi hr
  exact aF.r1 [aB g]
 subst e
 replace hr := bX rfl hr
 refine .g1 G (ok0 (ij n a.X b.X p.X false d)) (.mu 6 (.ca cf0 (.mu 10 (.done (.ret ?_)))))
 obtain rfl := oi hr
 exact aF.r1 [aB false]

theorem j4 (n : Nat) (l : List an) (p : an) (r : Int × Bool) (hr : cR n l p = some r) : aM Tryz.prog 25 [slT an.c l, .agg (an.c p)] (.tup [aj r.1, aB r.2]) := by
 unfold cR at hr
 refine aM.bd G Tryz.func25 [.tmp 4, .tmp 5] ?_
 unfold Tryz.f25
 simp only [gS]
 refine .seq (.r5 G [0] [(3, .hp 0 0)] [.own (an.c p)] (.seq (.r4 G [0, 3] [(6, aj 0)] (.seq (.seq (.r4 G [0, 3, 6] [(13, slT an.c l), (14, aj (l.length : Int)), (15, aj 0)] (.block ?_)))))))
 replace hr := bd hr; obtain ⟨E, q, hr⟩ := hr
 refine .aL (σ := fun W => match W with | (e, a) => ⟨mkS 79 0 [(0, slT an.c l), (3, .hp 0 0), (6, aj e), (13, slT an.c l), (14, aj (l.length : Int)), (15, aj a)], [.own (an.c p)]⟩) (Q := fun x st' => match (generalizing := false) E with | .inl s => x = .exit 0 /\ Wk 0 st' ⟨mkS 79 0 [(0, slT an.c l), (6, aj s)], []⟩ | .inr (r0) => x = .ret /\ aF Tryz.prog [.tmp 4, .tmp 5] (.tup [aj r0.1, aB r0.2]) .ret st') q ((Wk.gc [0, 3, 6, 13, 14, 15] [(0, true)] rfl trivial).to) ?_ ?_
 ·clear hr
  rintro m ⟨e, a⟩ hr
  show CQ _ _ _ _ _ ⟨_, _⟩
  refine .seq (.r4 G [0, 3, 6, 13, 14, 15] [(16, aB (decide (a < (l.length : Int))))] (.seq ?_))
  refine .cd hr ?_ ?_ <;> intro O hr
  ·refine .skip (.seq (.block (.seq ?_)))
   obtain ⟨t, hr⟩ := gd hr
   refine .r0 G (.mu 1 (.p0 (v := .pp (l.flatMap an.c) (a.toNat * 8)) (tr (au t)) (.p0 (v := .agg (an.c (gt l a))) (tr (y := bt.ofP (dz (decide (8 <= ((l.flatMap an.c).drop (a.toNat * 8)).length)) (.agg (((l.flatMap an.c).drop (a.toNat * 8)).take 8)))) (bB an.len (aD t) (by decide) (by omega : a.toNat * 8 = a.toNat * 8 + 0) (by kernel_rfl))) (.mu 3 (.done (.nh [0, 3, 6, 7, 8, 13, 14, 15] [.own (an.c p), .own (an.c (gt l a))] (.seq ?_)))))))
   obtain ⟨F, u, hr⟩ := gd2 hr
   refine .r0 G (.mu 5 (.p0 (v := aj ((EN (a + 1)).tmod (l.length : Int))) (oa (x := EN (a + 1)) (y := (l.length : Int)) (by kernel_rfl) (by kernel_rfl) F) (.p0 (v := .pp (l.flatMap an.c) (((EN (a + 1)).tmod (l.length : Int)).toNat * 8)) (tr (au u)) (.p0 (v := .agg (an.c (gt l ((EN (a + 1)).tmod (l.length : Int))))) (tr (y := bt.ofP (dz (decide (8 <= ((l.flatMap an.c).drop (((EN (a + 1)).tmod (l.length : Int)).toNat * 8)).length)) (.agg (((l.flatMap an.c).drop (((EN (a + 1)).tmod (l.length : Int)).toNat * 8)).take 8)))) (bB an.len (aD u) (by decide) (by omega : ((EN (a + 1)).tmod (l.length : Int)).toNat * 8 = ((EN (a + 1)).tmod (l.length : Int)).toNat * 8 + 0) (by kernel_rfl))) (.mu 2 (.done (.nh [0, 3, 6, 8, 9, 13, 14, 15] [.own (an.c p), .own (an.c (gt l a)), .own (an.c (gt l ((EN (a + 1)).tmod (l.length : Int))))] (.seq ?_))))))))
   obtain ⟨H, I, hr⟩ := bd hr
   refine .g1 G (ok0 (pY n (gt l a) (gt l ((EN (a + 1)).tmod (l.length : Int))) p H I)) (.mu 3 (.ca cf0 (.mu 1 (.done (.nh [0, 3, 6, 8, 9, 10, 13, 14, 15] [.own (an.c p), .own (an.c (gt l a)), .own (an.c (gt l ((EN (a + 1)).tmod (l.length : Int))))] (.seq (.seq ?_)))))))
   rcases bT ((H : Int) == 0) with g | g
   ·replace hr := b8 g hr
    obtain ⟨N, J, hr⟩ := bd hr
    refine .g1 G (ok0 (oR n (gt l a) (gt l ((EN (a + 1)).tmod (l.length : Int))) p N J)) (.mu 1 (.p0 (v := aB true) (eB g) (.mu 4 (.ca cf0 (.mu 1 (.done (.nh [0, 3, 6, 8, 9, 10, 13, 14, 15, 39] [.own (an.c p), .own (an.c (gt l a)), .own (an.c (gt l ((EN (a + 1)).tmod (l.length : Int))))] ?_)))))))
    refine .cd hr ?_ ?_ <;> intro R hr
    ·refine .seq (.ru G (.ret ?_))
     obtain rfl := oi hr
     exact ⟨rfl, aF.ret (vs := [aj 0, aB false]) (by kernel_rfl) (Sn.tup (Sp (Sp SnL.nil)))⟩
    refine .skip (.seq ?_)
    obtain ⟨L, w, C, z, hr⟩ := bd2 hr
    refine .tn G (ca1 (ok0 (b6 n (gt l a).Y p.Y L w)) (ca3 (ok0 (b6 n (gt l ((EN (a + 1)).tmod (l.length : Int))).Y p.Y C z)))) (.mu 4 (.ca cf0 (.mu 5 (.ca (cfA (fun h => by rw [sv z w (ik n h)]) cf0) (.mu 3 ?_)))))
    refine .done ⟨by kernel_rfl, ?_⟩
    refine .nh [0, 3, 6, 10, 11, 12, 13, 14, 15] [.own (an.c p), .own (an.c (gt l a)), .own (an.c (gt l ((EN (a + 1)).tmod (l.length : Int))))] (.seq (.seq ?_))
    rcases bT (decide (L <= 0)) with b | b
    ·replace hr := b8 b hr
     rcases bT (!(decide (C <= 0))) with i | i
     ·replace hr := b8 i hr
      refine .r0 G (.p0 (v := aB true) (eB b) (.mu 2 (.pure (v := aB true) (by kernel_rfl) (eB i) (.mu 5 (.done (.nh [0, 3, 6, 10, 11, 12, 13, 14, 15, 60] [.own (an.c p), .own (an.c (gt l a)), .own (an.c (gt l ((EN (a + 1)).tmod (l.length : Int))))] ?_))))))
      refine .cd hr ?_ ?_ <;> intro S hr
      ·refine .r4 G [0, 3, 10, 11, 12, 13, 14, 15] [(6, aj (EN (e + 1)))] (.seq (.r0 G (.p0 (v := aB true) (eB b) (.mu 8 (.done (.nh [0, 3, 6, 13, 14, 15, 71] [.own (an.c p), .own (an.c (gt l a)), .own (an.c (gt l ((EN (a + 1)).tmod (l.length : Int))))] (.cF (by kernel_rfl) (.skip (.pop (.ru G ?_))))))))))
       exact aA (EN (e + 1), EN (a + 1)) hr ((Wk.gc [0, 3, 6, 13, 14, 15] [(0, true)] rfl trivial).to)
      refine .skip (.seq (.r0 G (.p0 (v := aB true) (eB b) (.mu 8 (.done (.nh [0, 3, 6, 13, 14, 15, 71] [.own (an.c p), .own (an.c (gt l a)), .own (an.c (gt l ((EN (a + 1)).tmod (l.length : Int))))] (.cF (by kernel_rfl) (.skip (.pop (.ru G ?_))))))))))
      exact aA (e, EN (a + 1)) hr ((Wk.gc [0, 3, 6, 13, 14, 15] [(0, true)] rfl trivial).to)
     replace hr := bX i hr
     refine .r0 G (.p0 (v := aB true) (eB b) (.mu 2 (.pure (v := aB false) (by kernel_rfl) (eB i) (.mu 5 (.done (.nh [0, 3, 6, 10, 11, 12, 13, 14, 15, 60] [.own (an.c p), .own (an.c (gt l a)), .own (an.c (gt l ((EN (a + 1)).tmod (l.length : Int))))] (.cF (by kernel_rfl) (.skip (.seq (.r0 G (.p0 (v := aB true) (eB b) (.mu 8 (.done (.nh [0, 3, 6, 13, 14, 15, 71] [.own (an.c p), .own (an.c (gt l a)), .own (an.c (gt l ((EN (a + 1)).tmod (l.length : Int))))] (.cF (by kernel_rfl) (.skip (.pop (.ru G ?_))))))))))))))))))
     exact aA (e, EN (a + 1)) hr ((Wk.gc [0, 3, 6, 13, 14, 15] [(0, true)] rfl trivial).to)
    replace hr := bX b hr
    refine .r0 G (.p0 (v := aB false) (eB b) (.mu 8 (.done (.nh [0, 3, 6, 10, 11, 12, 13, 14, 15, 60] [.own (an.c p), .own (an.c (gt l a)), .own (an.c (gt l ((EN (a + 1)).tmod (l.length : Int))))] (.cF (by kernel_rfl) (.skip (.seq ?_)))))))
    rcases bT (decide (C <= 0)) with j | j
    ·replace hr := b8 j hr
     refine .r0 G (.p0 (v := aB false) (eB b) (.mu 2 (.pure (v := aB true) (by kernel_rfl) (eB j) (.mu 5 (.done (.nh [0, 3, 6, 13, 14, 15, 71] [.own (an.c p), .own (an.c (gt l a)), .own (an.c (gt l ((EN (a + 1)).tmod (l.length : Int))))] ?_))))))
     refine .cd hr ?_ ?_ <;> intro T hr
     ·refine .ru G (.pop (.ru G ?_))
      exact aA (EN (e - 1), EN (a + 1)) hr ((Wk.gc [0, 3, 6, 13, 14, 15] [(0, true)] rfl trivial).to)
     refine .skip (.pop (.ru G ?_))
     exact aA (e, EN (a + 1)) hr ((Wk.gc [0, 3, 6, 13, 14, 15] [(0, true)] rfl trivial).to)
    replace hr := bX j hr
    refine .r0 G (.p0 (v := aB false) (eB b) (.mu 2 (.pure (v := aB false) (by kernel_rfl) (eB j) (.mu 5 (.done (.nh [0, 3, 6, 13, 14, 15, 71] [.own (an.c p), .own (an.c (gt l a)), .own (an.c (gt l ((EN (a + 1)).tmod (l.length : Int))))] (.cF (by kernel_rfl) (.skip (.pop (.ru G ?_))))))))))
    exact aA (e, EN (a + 1)) hr ((Wk.gc [0, 3, 6, 13, 14, 15] [(0, true)] rfl trivial).to)
   replace hr := bX g hr
   refine .r0 G (.mu 1 (.p0 (v := aB false) (eB g) (.mu 6 (.done (.nh [0, 3, 6, 8, 9, 10, 13, 14, 15, 39] [.own (an.c p), .own (an.c (gt l a)), .own (an.c (gt l ((EN (a + 1)).tmod (l.length : Int))))] (.cF (by kernel_rfl) (.skip (.seq ?_))))))))
   obtain ⟨M, A, D, B, hr⟩ := bd2 hr
   refine .tn G (ca1 (ok0 (b6 n (gt l a).Y p.Y M A)) (ca3 (ok0 (b6 n (gt l ((EN (a + 1)).tmod (l.length : Int))).Y p.Y D B)))) (.mu 4 (.ca cf0 (.mu 5 (.ca (cfA (fun h => by rw [sv B A (ik n h)]) cf0) (.mu 3 ?_)))))
   refine .done ⟨by kernel_rfl, ?_⟩
   refine .nh [0, 3, 6, 10, 11, 12, 13, 14, 15] [.own (an.c p), .own (an.c (gt l a)), .own (an.c (gt l ((EN (a + 1)).tmod (l.length : Int))))] (.seq (.seq ?_))
   rcases bT (decide (M <= 0)) with d | d
   ·replace hr := b8 d hr
    rcases bT (!(decide (D <= 0))) with k | k
    ·replace hr := b8 k hr
     refine .r0 G (.p0 (v := aB true) (eB d) (.mu 2 (.pure (v := aB true) (by kernel_rfl) (eB k) (.mu 5 (.done (.nh [0, 3, 6, 10, 11, 12, 13, 14, 15, 60] [.own (an.c p), .own (an.c (gt l a)), .own (an.c (gt l ((EN (a + 1)).tmod (l.length : Int))))] ?_))))))
     refine .cd hr ?_ ?_ <;> intro U hr
     ·refine .r4 G [0, 3, 10, 11, 12, 13, 14, 15] [(6, aj (EN (e + 1)))] (.seq (.r0 G (.p0 (v := aB true) (eB d) (.mu 8 (.done (.nh [0, 3, 6, 13, 14, 15, 71] [.own (an.c p), .own (an.c (gt l a)), .own (an.c (gt l ((EN (a + 1)).tmod (l.length : Int))))] (.cF (by kernel_rfl) (.skip (.pop (.ru G ?_))))))))))
      exact aA (EN (e + 1), EN (a + 1)) hr ((Wk.gc [0, 3, 6, 13, 14, 15] [(0, true)] rfl trivial).to)
     refine .skip (.seq (.r0 G (.p0 (v := aB true) (eB d) (.mu 8 (.done (.nh [0, 3, 6, 13, 14, 15, 71] [.own (an.c p), .own (an.c (gt l a)), .own (an.c (gt l ((EN (a + 1)).tmod (l.length : Int))))] (.cF (by kernel_rfl) (.skip (.pop (.ru G ?_))))))))))
     exact aA (e, EN (a + 1)) hr ((Wk.gc [0, 3, 6, 13, 14, 15] [(0, true)] rfl trivial).to)
    replace hr := bX k hr
    refine .r0 G (.p0 (v := aB true) (eB d) (.mu 2 (.pure (v := aB false) (by kernel_rfl) (eB k) (.mu 5 (.done (.nh [0, 3, 6, 10, 11, 12, 13, 14, 15, 60] [.own (an.c p), .own (an.c (gt l a)), .own (an.c (gt l ((EN (a + 1)).tmod (l.length : Int))))] (.cF (by kernel_rfl) (.skip (.seq (.r0 G (.p0 (v := aB true) (eB d) (.mu 8 (.done (.nh [0, 3, 6, 13, 14, 15, 71] [.own (an.c p), .own (an.c (gt l a)), .own (an.c (gt l ((EN (a + 1)).tmod (l.length : Int))))] (.cF (by kernel_rfl) (.skip (.pop (.ru G ?_))))))))))))))))))
    exact aA (e, EN (a + 1)) hr ((Wk.gc [0, 3, 6, 13, 14, 15] [(0, true)] rfl trivial).to)
   replace hr := bX d hr
   refine .r0 G (.p0 (v := aB false) (eB d) (.mu 8 (.done (.nh [0, 3, 6, 10, 11, 12, 13, 14, 15, 60] [.own (an.c p), .own (an.c (gt l a)), .own (an.c (gt l ((EN (a + 1)).tmod (l.length : Int))))] (.cF (by kernel_rfl) (.skip (.seq ?_)))))))
   rcases bT (decide (D <= 0)) with o | o
   ·replace hr := b8 o hr
    refine .r0 G (.p0 (v := aB false) (eB d) (.mu 2 (.pure (v := aB true) (by kernel_rfl) (eB o) (.mu 5 (.done (.nh [0, 3, 6, 13, 14, 15, 71] [.own (an.c p), .own (an.c (gt l a)), .own (an.c (gt l ((EN (a + 1)).tmod (l.length : Int))))] ?_))))))
    refine .cd hr ?_ ?_ <;> intro V hr
    ·refine .ru G (.pop (.ru G ?_))
     exact aA (EN (e - 1), EN (a + 1)) hr ((Wk.gc [0, 3, 6, 13, 14, 15] [(0, true)] rfl trivial).to)
    refine .skip (.pop (.ru G ?_))
    exact aA (e, EN (a + 1)) hr ((Wk.gc [0, 3, 6, 13, 14, 15] [(0, true)] rfl trivial).to)
   replace hr := bX o hr
   refine .r0 G (.p0 (v := aB false) (eB d) (.mu 2 (.pure (v := aB false) (by kernel_rfl) (eB o) (.mu 5 (.done (.nh [0, 3, 6, 13, 14, 15, 71] [.own (an.c p), .own (an.c (gt l a)), .own (an.c (gt l ((EN (a + 1)).tmod (l.length : Int))))] (.cF (by kernel_rfl) (.skip (.pop (.ru G ?_))))))))))
   exact aA (e, EN (a + 1)) hr ((Wk.gc [0, 3, 6, 13, 14, 15] [(0, true)] rfl trivial).to)
  refine .leave rfl ?_
  obtain rfl := oi hr
  exact ⟨rfl, ((Wk.gc [0, 6] [] rfl pK0).to)⟩
 rcases E with s | r0
 ·rintro x st' f
  clear q
  obtain ⟨rfl, f⟩ := f
  refine aV _ rfl (.wk f (.seq (.ru G (.ret ?_))))
  obtain rfl := oi hr
  exact aF.ret (vs := [aj s, aB (decide ((l.length : Int) > 0))]) (by kernel_rfl) (Sn.tup (Sp (Sp SnL.nil)))
 rintro x st' f
 clear q
 obtain ⟨rfl, f⟩ := f
 obtain rfl := oi hr
 exact gw _ f

theorem mh (n : Nat) (g : ar) (l : ae) (at' : A2 Int) (r : Bool) (hr : dF n g l at' = some r) : aM Tryz.prog 5 [.agg (ar.c g), .agg (ae.c l), .agg (ah.c at')] (aB r) := by
 unfold dF at hr
 refine aM.bd G Tryz.func5 [.tmp 6] ?_
 unfold Tryz.f5
 simp only [gS]
 refine .seq (.r5 G [] [(3, .hp 0 0), (4, .hp 1 0), (5, .hp 2 0)] [.own (ar.c g), .own (ae.c l), .own (ah.c at')] (.seq (.seq ?_)))
 obtain ⟨v1, Z, hr⟩ := bd hr
 refine .g1 G (ok0 (pN n v1 Z)) (.ca cf0 (.mu 1 (.done (.nh [3, 4, 5, 16] [.own (ar.c g), .own (ae.c l), .own (ah.c at')] ?_))))
 refine .cd hr ?_ ?_ <;> intro pL hr
 ·refine .seq (.ru G (.ret ?_))
  obtain rfl := oi hr
  exact aF.r1 [aB false]
 refine .skip (.seq (.seq ?_))
 obtain ⟨v4, M, hr⟩ := bd hr
 rcases bT (!v4) with B | B
 ·replace hr := b8 B hr
  refine .g1 G (ok0 (l7 n g 40 v4 M)) (.mu 1 (.ca cf0 (.p0 (v := aB true) (eB B) (.mu 6 (.done (.nh [3, 4, 5, 25] [.own (ar.c g), .own (ae.c l), .own (ah.c at')] (.cT (by kernel_rfl) (.seq (.ru G (.ret ?_))))))))))
  obtain rfl := oi hr
  exact aF.r1 [aB true]
 replace hr := bX B hr
 refine .g1 G (ok0 (l7 n g 40 v4 M)) (.mu 1 (.ca cf0 (.p0 (v := aB false) (eB B) (.mu 6 (.done (.nh [3, 4, 5, 25] [.own (ar.c g), .own (ae.c l), .own (ah.c at')] ?_))))))
 refine .cd hr ?_ ?_ <;> intro kH hr
 ·refine .seq (.ru G (.ret ?_))
  obtain rfl := oi hr
  exact aF.r1 [aB true]
 refine .skip (.seq (.seq (.r4 G [3, 4, 5] [(27, slT al.c l.Points), (28, aj (l.Points.length : Int)), (29, aj 0)] (.block ?_))))
 replace hr := bd hr; obtain ⟨N, C, hr⟩ := hr
 refine .aL (σ := fun z0 => match z0 with | d => ⟨mkS 131 0 [(3, .hp 0 0), (4, .hp 1 0), (5, .hp 2 0), (27, slT al.c l.Points), (28, aj (l.Points.length : Int)), (29, aj d)], [.own (ar.c g), .own (ae.c l), .own (ah.c at')]⟩) (Q := fun x st' => match (generalizing := false) N with | .inl _ => x = .exit 0 /\ Wk 0 st' ⟨mkS 131 0 [(3, .hp 0 0), (4, .hp 1 0), (5, .hp 2 0)], [.own (ar.c g), .own (ae.c l), .own (ah.c at')]⟩ | .inr (r0) => x = .ret /\ aF Tryz.prog [.tmp 6] (aB r0) .ret st') C ((Wk.gc [3, 4, 5, 27, 28, 29] kT3 rfl trivial).to) ?_ ?_
 ·clear hr
  rintro m d hr
  show CQ _ _ _ _ _ ⟨_, _⟩
  refine .seq (.r4 G [3, 4, 5, 27, 28, 29] [(30, aB (decide (d < (l.Points.length : Int))))] (.seq ?_))
  refine .cd hr ?_ ?_ <;> intro kB hr
  ·refine .skip (.seq (.block (.seq ?_)))
   obtain ⟨F, hr⟩ := gd hr
   refine .r0 G (.p0 (v := .pp (l.Points.flatMap al.c) (d.toNat * 6)) (tr (au F)) (.p0 (v := .agg (al.c (gt l.Points d))) (tr (y := bt.ofP (dz (decide (6 <= ((l.Points.flatMap al.c).drop (d.toNat * 6)).length)) (.agg (((l.Points.flatMap al.c).drop (d.toNat * 6)).take 6)))) (bB al.len (aD F) (by decide) (by omega : d.toNat * 6 = d.toNat * 6 + 0) (by kernel_rfl))) (.mu 2 (.done (.nh [3, 4, 5, 8, 27, 28, 29] [.own (ar.c g), .own (ae.c l), .own (ah.c at'), .own (al.c (gt l.Points d))] (.seq ?_))))))
   obtain ⟨jX, O, hr⟩ := bd hr
   refine .g1 G (ok0 (oL n (gt l.Points d).At jX O)) (.mu 2 (.ca cf0 (.mu 1 (.done (.nh [3, 4, 5, 27, 28, 29, 36] [.own (ar.c g), .own (ae.c l), .own (ah.c at'), .own (al.c (gt l.Points d))] ?_)))))
   refine .cd hr ?_ ?_ <;> intro lH hr
   ·refine .seq (.ru G (.ret ?_))
    obtain rfl := oi hr
    exact ⟨rfl, aF.ret (vs := [aB true]) (by kernel_rfl) (Sn.pure rfl)⟩
   refine .skip (.pop (.ru G ?_))
   exact aA (EN (d + 1)) hr ((Wk.gc [3, 4, 5, 27, 28, 29] kT3 rfl trivial).to)
  refine .leave rfl ?_
  obtain rfl := oi hr
  exact ⟨rfl, ((Wk.gc [3, 4, 5] kT3 rfl trivial).to)⟩
 rcases N with ⟨⟩ | r0
 ·rintro x st' e
  clear C
  obtain ⟨rfl, e⟩ := e
  refine aV _ rfl (.wk e (.seq ?_))
  obtain ⟨a, R, hr⟩ := bd hr
  refine .g1 G (ok0 (oE n g l at'.e0 at'.e1 a R)) (.mu 6 (.ca cf0 (.mu 5 (.done (.nh [3, 4, 5, 9, 10] [.own (ar.c g), .own (ae.c l), .own (ah.c at')] (.seq ?_))))))
  obtain ⟨D, S, hr⟩ := bd hr
  refine .g1 G (ok0 (pc n g D S)) (.mu 1 (.ca cf0 (.mu 1 (.done (.nh [3, 4, 5, 9, 10, 11] [.own (ar.c g), .own (ae.c l), .own (ah.c at')] (.seq (.seq ?_)))))))
  rcases bT ((D : Int) == 0) with b | b
  ·replace hr := b8 b hr
   rcases bT (decide (at'.e0 < 0)) with f | f
   ·replace hr := b8 f hr
    refine .r0 G (.mu 1 (.p0 (v := aB true) (eB b) (.mu 3 (.pure (v := aB true) (by kernel_rfl) (eB f) (.mu 20 (.done (.nh [3, 4, 5, 9, 10, 11, 75] [.own (ar.c g), .own (ae.c l), .own (ah.c at')] (.cT (by kernel_rfl) (.r4 G [3, 4, 5, 9, 10] [(11, aj 2)] (.seq (.seq (.r4 G [3, 4, 5, 9, 10, 11] [(82, aB false)] (.cF (by kernel_rfl) (.skip (.seq (.r5 G [3, 4, 5, 9, 10, 11] [(12, .hs 3 0 0 8)] [.own (ar.c g), .own (ae.c l), .own (ah.c at'), .own []] (.seq (.seq (.r4 G [3, 4, 5, 9, 10, 11, 12] [(85, aB false)] (.cF (by kernel_rfl) (.skip (.seq (.seq (.r4 G [3, 5, 9, 10, 11, 12] [(93, aB true)] (.cT (by kernel_rfl) (.seq ?_))))))))))))))))))))))))))
    rcases bT ((a.2 : Int) == 2) with i | i
    ·replace hr := b8 i hr
     refine .r0 G (.mu 2 (.p0 (v := aB true) (eB i) (.mu 5 (.done (.ret ?_)))))
     obtain rfl := oi hr
     exact aF.r1 [aB ((a.1 : Int) == 0)]
    replace hr := bX i hr
    refine .r0 G (.mu 2 (.p0 (v := aB false) (eB i) (.mu 5 (.done (.ret ?_)))))
    obtain rfl := oi hr
    exact aF.r1 [aB false]
   replace hr := bX f hr
   rcases bT (decide (at'.e0 >= g.Width)) with h | h
   ·replace hr := b8 h hr
    refine .r0 G (.mu 1 (.p0 (v := aB true) (eB b) (.mu 3 (.pure (v := aB false) (by kernel_rfl) (eB f) (.mu 5 (.pure (v := aB true) (by kernel_rfl) (eB h) (.mu 14 (.done (.nh [3, 4, 5, 9, 10, 11, 75] [.own (ar.c g), .own (ae.c l), .own (ah.c at')] (.cT (by kernel_rfl) (.r4 G [3, 4, 5, 9, 10] [(11, aj 2)] (.seq (.seq (.r4 G [3, 4, 5, 9, 10, 11] [(82, aB false)] (.cF (by kernel_rfl) (.skip (.seq (.r5 G [3, 4, 5, 9, 10, 11] [(12, .hs 3 0 0 8)] [.own (ar.c g), .own (ae.c l), .own (ah.c at'), .own []] (.seq (.seq (.r4 G [3, 4, 5, 9, 10, 11, 12] [(85, aB false)] (.cF (by kernel_rfl) (.skip (.seq (.seq (.r4 G [3, 5, 9, 10, 11, 12] [(93, aB true)] (.cT (by kernel_rfl) (.seq ?_))))))))))))))))))))))))))))
    rcases bT ((a.2 : Int) == 2) with j | j
    ·replace hr := b8 j hr
     refine .r0 G (.mu 2 (.p0 (v := aB true) (eB j) (.mu 5 (.done (.ret ?_)))))
     obtain rfl := oi hr
     exact aF.r1 [aB ((a.1 : Int) == 0)]
    replace hr := bX j hr
    refine .r0 G (.mu 2 (.p0 (v := aB false) (eB j) (.mu 5 (.done (.ret ?_)))))
    obtain rfl := oi hr
    exact aF.r1 [aB false]
   replace hr := bX h hr
   rcases bT (decide (at'.e1 < 0)) with k | k
   ·replace hr := b8 k hr
    refine .r0 G (.mu 1 (.p0 (v := aB true) (eB b) (.mu 3 (.pure (v := aB false) (by kernel_rfl) (eB f) (.mu 5 (.pure (v := aB false) (by kernel_rfl) (eB h) (.mu 4 (.pure (v := aB true) (by kernel_rfl) (eB k) (.mu 9 (.done (.nh [3, 4, 5, 9, 10, 11, 75] [.own (ar.c g), .own (ae.c l), .own (ah.c at')] (.cT (by kernel_rfl) (.r4 G [3, 4, 5, 9, 10] [(11, aj 2)] (.seq (.seq (.r4 G [3, 4, 5, 9, 10, 11] [(82, aB false)] (.cF (by kernel_rfl) (.skip (.seq (.r5 G [3, 4, 5, 9, 10, 11] [(12, .hs 3 0 0 8)] [.own (ar.c g), .own (ae.c l), .own (ah.c at'), .own []] (.seq (.seq (.r4 G [3, 4, 5, 9, 10, 11, 12] [(85, aB false)] (.cF (by kernel_rfl) (.skip (.seq (.seq (.r4 G [3, 5, 9, 10, 11, 12] [(93, aB true)] (.cT (by kernel_rfl) (.seq ?_))))))))))))))))))))))))))))))
    rcases bT ((a.2 : Int) == 2) with o | o
    ·replace hr := b8 o hr
     refine .r0 G (.mu 2 (.p0 (v := aB true) (eB o) (.mu 5 (.done (.ret ?_)))))
     obtain rfl := oi hr
     exact aF.r1 [aB ((a.1 : Int) == 0)]
    replace hr := bX o hr
    refine .r0 G (.mu 2 (.p0 (v := aB false) (eB o) (.mu 5 (.done (.ret ?_)))))
    obtain rfl := oi hr
    exact aF.r1 [aB false]
   replace hr := bX k hr
   refine .r0 G (.mu 1 (.p0 (v := aB true) (eB b) (.mu 3 (.pure (v := aB false) (by kernel_rfl) (eB f) (.mu 5 (.pure (v := aB false) (by kernel_rfl) (eB h) (.mu 4 (.pure (v := aB false) (by kernel_rfl) (eB k) (.mu 9 (.done (.nh [3, 4, 5, 9, 10, 11, 75] [.own (ar.c g), .own (ae.c l), .own (ah.c at')] ?_)))))))))))
   refine .cd hr ?_ ?_ <;> intro l8 hr
   ·refine .r4 G [3, 4, 5, 9, 10] [(11, aj 2)] (.seq (.seq (.r4 G [3, 4, 5, 9, 10, 11] [(82, aB false)] (.cF (by kernel_rfl) (.skip (.seq (.r5 G [3, 4, 5, 9, 10, 11] [(12, .hs 3 0 0 8)] [.own (ar.c g), .own (ae.c l), .own (ah.c at'), .own []] (.seq (.seq (.r4 G [3, 4, 5, 9, 10, 11, 12] [(85, aB false)] (.cF (by kernel_rfl) (.skip (.seq (.seq (.r4 G [3, 5, 9, 10, 11, 12] [(93, aB true)] (.cT (by kernel_rfl) (.seq ?_)))))))))))))))))
    rcases bT ((a.2 : Int) == 2) with p | p
    ·replace hr := b8 p hr
     refine .r0 G (.mu 2 (.p0 (v := aB true) (eB p) (.mu 5 (.done (.ret ?_)))))
     obtain rfl := oi hr
     exact aF.r1 [aB ((a.1 : Int) == 0)]
    replace hr := bX p hr
    refine .r0 G (.mu 2 (.p0 (v := aB false) (eB p) (.mu 5 (.done (.ret ?_)))))
    obtain rfl := oi hr
    exact aF.r1 [aB false]
   refine .skip (.seq (.seq (.r0 G (.mu 1 (.p0 (v := aB true) (eB b) (.mu 5 (.done (.nh [3, 4, 5, 9, 10, 11, 82] [.own (ar.c g), .own (ae.c l), .own (ah.c at')] ?_))))))))
   refine .cd hr ?_ ?_ <;> intro lK hr
   ·refine .r4 G [3, 4, 5, 9, 10] [(11, aj 11)] (.seq (.r5 G [3, 4, 5, 9, 10, 11] [(12, .hs 3 0 0 8)] [.own (ar.c g), .own (ae.c l), .own (ah.c at'), .own []] (.seq (.seq (.r4 G [3, 4, 5, 9, 10, 11, 12] [(85, aB false)] (.cF (by kernel_rfl) (.skip (.seq (.seq (.r4 G [3, 5, 9, 10, 11, 12] [(93, aB true)] (.cT (by kernel_rfl) (.seq ?_))))))))))))
    rcases bT ((a.2 : Int) == 11) with q | q
    ·replace hr := b8 q hr
     refine .r0 G (.mu 2 (.p0 (v := aB true) (eB q) (.mu 5 (.done (.ret ?_)))))
     obtain rfl := oi hr
     exact aF.r1 [aB ((a.1 : Int) == 0)]
    replace hr := bX q hr
    refine .r0 G (.mu 2 (.p0 (v := aB false) (eB q) (.mu 5 (.done (.ret ?_)))))
    obtain rfl := oi hr
    exact aF.r1 [aB false]
   refine .skip (.seq (.r5 G [3, 4, 5, 9, 10, 11] [(12, .hs 3 0 0 8)] [.own (ar.c g), .own (ae.c l), .own (ah.c at'), .own []] (.seq (.seq (.r0 G (.mu 1 (.p0 (v := aB true) (eB b) (.done (.nh [3, 4, 5, 9, 10, 11, 12, 85] [.own (ar.c g), .own (ae.c l), .own (ah.c at'), .own []] (.cT (by kernel_rfl) ?_))))))))))
   obtain ⟨E, T, hr⟩ := bd hr
   refine .g1 G (ok0 (oU n g l E T)) (.mu 2 (.ca cf0 (.mu 5 (.done (.nh [3, 5, 9, 10, 11, 12] [.own (ar.c g), .own (ae.c l), .own (ah.c at'), .own []] (.seq (.seq (.r4 G [3, 5, 9, 10, 11, 12] [(93, aB ((E.2 : Int) != 0))] ?_))))))))
   refine .cd hr ?_ ?_ <;> intro mv hr
   ·refine .seq ?_
    rcases bT ((a.2 : Int) == E.2) with s | s
    ·replace hr := b8 s hr
     refine .r0 G (.mu 2 (.p0 (v := aB true) (eB s) (.mu 5 (.done (.ret ?_)))))
     obtain rfl := oi hr
     exact aF.r1 [aB ((a.1 : Int) == 0)]
    replace hr := bX s hr
    refine .r0 G (.mu 2 (.p0 (v := aB false) (eB s) (.mu 5 (.done (.ret ?_)))))
    obtain rfl := oi hr
    exact aF.r1 [aB false]
   refine .skip (.seq ?_)
   obtain ⟨U, V, H, W, hr⟩ := bd2 hr
   refine .gn G (ca1 (ok0 (fV n g (EN ((EN (at'.e1 * g.Width)) + at'.e0)) U V)) (ca3 (ok0 (j4 n E.1 U H W)))) (.mu 10 (.ca cf0 (.ca (cfF cf0) (.mu 5 (.done (.nh [9, 10, 13, 14] [.own (ar.c g), .own (ae.c l), .own (ah.c at'), .own []] (.seq (.seq (.r4 G [9, 10, 13] [(117, aB (!H.2))] ?_)))))))))
   refine .cd hr ?_ ?_ <;> intro mw hr
   ·refine .seq ?_
    rcases bT ((a.2 : Int) == 13) with t | t
    ·replace hr := b8 t hr
     refine .r0 G (.mu 1 (.p0 (v := aB true) (eB t) (.mu 5 (.done (.ret ?_)))))
     obtain rfl := oi hr
     exact aF.r1 [aB ((a.1 : Int) == 0)]
    replace hr := bX t hr
    refine .r0 G (.mu 1 (.p0 (v := aB false) (eB t) (.mu 5 (.done (.ret ?_)))))
    obtain rfl := oi hr
    exact aF.r1 [aB false]
   refine .skip (.seq ?_)
   rcases bT ((a.2 : Int) == 0) with u | u
   ·replace hr := b8 u hr
    refine .r0 G (.mu 1 (.p0 (v := aB true) (eB u) (.mu 6 (.done (.ret ?_)))))
    obtain rfl := oi hr
    exact aF.r1 [aB ((a.1 : Int) == H.1)]
   replace hr := bX u hr
   refine .r0 G (.mu 1 (.p0 (v := aB false) (eB u) (.mu 6 (.done (.ret ?_)))))
   obtain rfl := oi hr
   exact aF.r1 [aB false]
  replace hr := bX b hr
  refine .r0 G (.mu 1 (.p0 (v := aB false) (eB b) (.mu 24 (.done (.nh [3, 4, 5, 9, 10, 11, 75] [.own (ar.c g), .own (ae.c l), .own (ah.c at')] (.cF (by kernel_rfl) (.skip (.seq (.seq (.r0 G (.mu 1 (.p0 (v := aB false) (eB b) (.mu 5 (.done (.nh [3, 4, 5, 9, 10, 11, 82] [.own (ar.c g), .own (ae.c l), .own (ah.c at')] (.cF (by kernel_rfl) (.skip (.seq (.r5 G [3, 4, 5, 9, 10, 11] [(12, .hs 3 0 0 8)] [.own (ar.c g), .own (ae.c l), .own (ah.c at'), .own []] (.seq (.seq (.r0 G (.mu 1 (.p0 (v := aB false) (eB b) (.done (.nh [3, 4, 5, 9, 10, 11, 12, 85] [.own (ar.c g), .own (ae.c l), .own (ah.c at'), .own []] (.cF (by kernel_rfl) (.skip (.seq (.seq (.r4 G [3, 5, 9, 10, 11, 12] [(93, aB ((D : Int) != 0))] ?_)))))))))))))))))))))))))))))))
  refine .cd hr ?_ ?_ <;> intro nC hr
  ·refine .seq ?_
   rcases bT ((a.2 : Int) == D) with w | w
   ·replace hr := b8 w hr
    refine .r0 G (.mu 2 (.p0 (v := aB true) (eB w) (.mu 5 (.done (.ret ?_)))))
    obtain rfl := oi hr
    exact aF.r1 [aB ((a.1 : Int) == 0)]
   replace hr := bX w hr
   refine .r0 G (.mu 2 (.p0 (v := aB false) (eB w) (.mu 5 (.done (.ret ?_)))))
   obtain rfl := oi hr
   exact aF.r1 [aB false]
  refine .skip (.seq ?_)
  obtain ⟨I, X, J, Y, hr⟩ := bd2 hr
  refine .gn G (ca1 (ok0 (fV n g (EN ((EN (at'.e1 * g.Width)) + at'.e0)) I X)) (ca3 (fP (args := [.hs 3 0 0 8, .agg (an.c I)]) (l := [3]) rfl (SnL.cons (Sn.hs rfl (.inl rfl) SnC.nil (fun _ => rfl)) (Sp SnL.nil)) (j4 n [] I J Y)))) (.mu 10 (.ca cf0 (.ca (cfF cf0) (.mu 5 (.done (.nh [9, 10, 13, 14] [.own (ar.c g), .own (ae.c l), .own (ah.c at'), .own []] (.seq (.seq (.r4 G [9, 10, 13] [(117, aB (!J.2))] ?_)))))))))
  refine .cd hr ?_ ?_ <;> intro nF hr
  ·refine .seq ?_
   rcases bT ((a.2 : Int) == 13) with z | z
   ·replace hr := b8 z hr
    refine .r0 G (.mu 1 (.p0 (v := aB true) (eB z) (.mu 5 (.done (.ret ?_)))))
    obtain rfl := oi hr
    exact aF.r1 [aB ((a.1 : Int) == 0)]
   replace hr := bX z hr
   refine .r0 G (.mu 1 (.p0 (v := aB false) (eB z) (.mu 5 (.done (.ret ?_)))))
   obtain rfl := oi hr
   exact aF.r1 [aB false]
  refine .skip (.seq ?_)
  rcases bT ((a.2 : Int) == 0) with A | A
  ·replace hr := b8 A hr
   refine .r0 G (.mu 1 (.p0 (v := aB true) (eB A) (.mu 6 (.done (.ret ?_)))))
   obtain rfl := oi hr
   exact aF.r1 [aB ((a.1 : Int) == J.1)]
  replace hr := bX A hr
  refine .r0 G (.mu 1 (.p0 (v := aB false) (eB A) (.mu 6 (.done (.ret ?_)))))
  obtain rfl := oi hr
  exact aF.r1 [aB false]
 rintro x st' e
 clear C
 obtain ⟨rfl, e⟩ := e
 obtain rfl := oi hr
 exact gw _ e
end Go.L
