
import Derived.Test.YtecdcgfclgmbpaaGreatApaLP2
import Derived.Test.YtecdcgfclgmbpaaGreatL0Apas
import Derived.Test.YtecdcgfclgmbpaaGreatScEApas
import Derived.Test.YtecdcgfclgmbpaaGreatApaL51p
import Derived.Test.YtecdcgfclgmbpaaGreatSortCApas
import Derived.Test.YtecdcgfclgmbpaaGreatSortKApas
import Derived.Test.YtecdcgfclgmbpaaGreatChecked
import Derived.KernelRfl
set_option linter.all false
set_option maxRecDepth 100000
set_option maxHeartbeats 4000000
namespace Go.L
open Go Go.Eng Go.Proofs
theorem mQ (n : Nat) (g : al) (r : List (A3 Int)) (hr : dT n g = some r) : aN Tryz.prog 67 [.agg (al.c g)] (slT aD.c r) := by
 unfold dT at hr
 refine aN.bd G Tryz.func67 [.tmp 2] ?_
 unfold Tryz.f67
 simp only [gS]
 refine .seq (.r2 G 87 [(1, .hp 0 0)] [.own (al.c g)] (.seq (.r5 G [1] [(3, .hs 1 0 0 3)] [.own (al.c g), .own []] (.seq (.seq (.r4 G [1, 3] [(12, aj (IE (g.Height - 1))), (13, aj 0)] (.block ?_)))))))
 replace hr := bd hr; obtain ⟨A, B, hr⟩ := hr
 refine .aP (σ := fun N => match N with | (C, e) => ⟨mkS 87 0 [(1, .hp 0 0), (3, .hs 1 0 C.length 3), (12, aj (IE (g.Height - 1))), (13, aj e)], [.own (al.c g), .own (C.flatMap aD.c)]⟩) (Q := fun x st' => x = .exit 0 /\ Wk 0 st' ⟨mkS 87 0 [(3, .hs 0 0 A.length 3)], [.own (A.flatMap aD.c)]⟩) B ((Wk.gc [1, 3, 12, 13] [(0, true), (1, false)] rfl (pKt (pKc trivial))).to) ?_ ?_
 ·clear hr
  rintro m ⟨C, e⟩ hr
  refine CQ.sh ?_
  refine .seq (.r4 G [1, 3, 12, 13] [(14, aB (decide (e < (IE (g.Height - 1)))))] (.seq ?_))
  refine .cd hr ?_ ?_ <;> intro T hr
  ·refine .skip (.seq (.block (.seq (.r4 G [1, 3, 12, 13] [(4, aj e)] (.seq (.r4 G [1, 3, 4, 12, 13] [(18, aj (IE (g.Width - 1))), (19, aj 0)] (.block ?_)))))))
   replace hr := bd hr; obtain ⟨q, D, hr⟩ := hr
   refine .aP (σ := fun N => match N with | (f, i) => ⟨mkS 87 0 [(1, .hp 0 0), (3, .hs 1 0 f.length 3), (4, aj e), (12, aj (IE (g.Height - 1))), (13, aj e), (18, aj (IE (g.Width - 1))), (19, aj i)], [.own (al.c g), .own (f.flatMap aD.c)]⟩) (Q := fun x st' => x = .exit 2 /\ Wk 0 st' ⟨mkS 87 0 [(1, .hp 0 0), (3, .hs 1 0 q.length 3), (12, aj (IE (g.Height - 1))), (13, aj e)], [.own (al.c g), .own (q.flatMap aD.c)]⟩) D ((Wk.gc [1, 3, 4, 12, 13, 18, 19] [(0, true), (1, false)] rfl (pKt (pKo aD.c aD.pure C trivial))).to) ?_ ?_
   ·clear hr
    rintro m ⟨f, i⟩ hr
    refine CQ.sh ?_
    refine .seq (.r4 G [1, 3, 4, 12, 13, 18, 19] [(20, aB (decide (i < (IE (g.Width - 1)))))] (.seq ?_))
    refine .cd hr ?_ ?_ <;> intro O hr
    ·refine .skip (.seq (.block (.seq (.r4 G [1, 3, 4, 12, 13, 18, 19] [(5, aj i)] (.seq (.r4 G [1, 3, 4, 12, 13, 18, 19] [(6, aj (IE ((IE (e * g.Width)) + i)))] ?_))))))
     obtain ⟨o, I, hr⟩ := bd hr
     refine .wk ((Wk.refl _).to (c := ⟨mkS 87 0 [(1, .hp 0 0), (3, .hs 1 0 f.length 3), (4, aj e), (6, aj o), (12, aj (IE (g.Height - 1))), (13, aj e), (18, aj (IE (g.Width - 1))), (19, aj i)], [.own (al.c g), .own (f.flatMap aD.c)]⟩) (by rw [oi I]; first | done | kernel_rfl)) <| .seq <| .r5 G [1, 3, 4, 12, 13, 18, 19] [(48, .hs 2 0 2 3), (49, aj 2), (50, aj 0)] [.own (al.c g), .own (f.flatMap aD.c), .own [aj o, aj (IE (o + 1)), aj (IE ((IE (o + g.Width)) + 1)), aj o, aj (IE ((IE (o + g.Width)) + 1)), aj (IE (o + g.Width))]] <| .block ?_
     obtain ⟨b, J, hr⟩ := bd hr
     refine .wk ((Wk.refl _).to (c := ⟨mkS 87 0 [(1, .hp 0 0), (3, .hs 1 0 f.length 3), (4, aj e), (12, aj (IE (g.Height - 1))), (13, aj e), (18, aj (IE (g.Width - 1))), (19, aj i), (48, .hs 2 0 b.length 3), (49, aj 2), (50, aj 0)], [.own (al.c g), .own (f.flatMap aD.c), .own (b.flatMap aD.c)]⟩) (by rw [<- oi J]; kernel_rfl)) ?_
     replace hr := bd hr; obtain ⟨s, E, hr⟩ := hr
     refine .aP (σ := fun N => match N with | (d, a) => ⟨mkS 87 0 [(1, .hp 0 0), (3, .hs 1 0 d.length 3), (4, aj e), (12, aj (IE (g.Height - 1))), (13, aj e), (18, aj (IE (g.Width - 1))), (19, aj i), (48, .hs 2 0 b.length 3), (49, aj 2), (50, aj a)], [.own (al.c g), .own (d.flatMap aD.c), .own (b.flatMap aD.c)]⟩) (Q := fun x st' => x = .exit 4 /\ Wk 0 st' ⟨mkS 87 0 [(1, .hp 0 0), (3, .hs 1 0 s.length 3), (4, aj e), (12, aj (IE (g.Height - 1))), (13, aj e), (18, aj (IE (g.Width - 1))), (19, aj i)], [.own (al.c g), .own (s.flatMap aD.c)]⟩) E ((Wk.gc [1, 3, 4, 12, 13, 18, 19, 48, 49, 50] [(0, true), (1, false), (2, false)] rfl (pKt (pKo aD.c aD.pure f (pKo aD.c aD.pure b trivial)))).to) ?_ ?_
     ·clear hr
      rintro m ⟨d, a⟩ hr
      refine CQ.sh ?_
      refine .seq (.r4 G [1, 3, 4, 12, 13, 18, 19, 48, 49, 50] [(51, aB (decide (a < 2)))] (.seq ?_))
      refine .cd hr ?_ ?_ <;> intro R hr
      ·refine .skip (.seq (.block (.seq ?_)))
       obtain ⟨F, hr⟩ := gd hr
       refine .r0 G (.p0 (v := .hp 2 (0 + a.toNat * 3)) (tr (aw F)) (.p0 (v := .agg (aD.c (gt b a))) (tr (y := bs.ofP (eA (decide (3 <= ((b.flatMap aD.c).drop (0 + a.toNat * 3)).length)) (.agg (((b.flatMap aD.c).drop (0 + a.toNat * 3)).take 3)))) (ch aD.len (aI F) (by decide) (by omega : 0 + a.toNat * 3 = a.toNat * 3 + 0) kRf)) (.mu 2 (.done (.nh [1, 3, 4, 8, 12, 13, 18, 19, 48, 49, 50] [.own (al.c g), .own (d.flatMap aD.c), .own (b.flatMap aD.c), .own (aD.c (gt b a))] (.seq ?_))))))
       obtain ⟨j, hr⟩ := gd hr
       rcases bT (((gt g.Z (gt b a).e0) : Int) != (-2147483648)) with k | k
       ·replace hr := cI k hr
        obtain ⟨t, hr⟩ := gd hr
        rcases bT (((gt g.Z (gt b a).e1) : Int) != (-2147483648)) with p | p
        ·replace hr := cI p hr
         obtain ⟨H, hr⟩ := gd hr
         refine .r0 G (.mu 4 (.p0 (v := .pp (g.Z.flatMap (iC .i64)) ((gt b a).e0.toNat * 1)) (tr (aw j)) (.p0 (v := aj (gt g.Z (gt b a).e0)) (tr (aR (aS (aK .i64) (aI j) z1 (by omega : (gt b a).e0.toNat * 1 = (gt b a).e0.toNat * 1 + 0) kRf))) (.p0 (v := aB true) (eB k) (.mu 5 (.pure (v := .pp (g.Z.flatMap (iC .i64)) ((gt b a).e1.toNat * 1)) kRf (tr (aw t)) (.pure (v := aj (gt g.Z (gt b a).e1)) kRf (tr (aR (aS (aK .i64) (aI t) z1 (by omega : (gt b a).e1.toNat * 1 = (gt b a).e1.toNat * 1 + 0) kRf))) (.pure (v := aB true) kRf (eB p) (.mu 6 (.pure (v := .pp (g.Z.flatMap (iC .i64)) ((gt b a).e2.toNat * 1)) kRf (tr (aw H)) (.pure (v := aj (gt g.Z (gt b a).e2)) kRf (tr (aR (aS (aK .i64) (aI H) z1 (by omega : (gt b a).e2.toNat * 1 = (gt b a).e2.toNat * 1 + 0) kRf))) (.mu 2 (.done (.nh [1, 3, 4, 8, 12, 13, 18, 19, 48, 49, 50, 78] [.own (al.c g), .own (d.flatMap aD.c), .own (b.flatMap aD.c), .own (aD.c (gt b a))] ?_))))))))))))))
         refine .cd hr ?_ ?_ <;> intro S hr
         ·obtain ⟨L, M, hr⟩ := gd2 hr
          refine .r0 G (.mu 3 (.e0 (v := .hs 5 0 (d ++ [(gt b a)]).length 3) (ws := [(1, .dead), (5, .own ((d ++ [(gt b a)]).flatMap aD.c))]) (tr (dN (new := (aD.c (gt b a))) (l := d) (xs := [(gt b a)]) aD.len rfl rfl kRf L M)) (.mu 1 (.done (.pop (.ru G ?_))))))
          exact aE (d ++ [(gt b a)], IE (a + 1)) hr ((Wk.gc [1, 3, 4, 12, 13, 18, 19, 48, 49, 50] [(0, true), (5, false), (2, false)] rfl (pKt (pKo aD.c aD.pure (d ++ [(gt b a)]) (pKo aD.c aD.pure b trivial)))).to)
         refine .skip (.pop (.ru G ?_))
         exact aE (d, IE (a + 1)) hr ((Wk.gc [1, 3, 4, 12, 13, 18, 19, 48, 49, 50] [(0, true), (1, false), (2, false)] rfl (pKt (pKo aD.c aD.pure d (pKo aD.c aD.pure b trivial)))).to)
        replace hr := cJ p hr
        refine .r0 G (.mu 4 (.p0 (v := .pp (g.Z.flatMap (iC .i64)) ((gt b a).e0.toNat * 1)) (tr (aw j)) (.p0 (v := aj (gt g.Z (gt b a).e0)) (tr (aR (aS (aK .i64) (aI j) z1 (by omega : (gt b a).e0.toNat * 1 = (gt b a).e0.toNat * 1 + 0) kRf))) (.p0 (v := aB true) (eB k) (.mu 5 (.pure (v := .pp (g.Z.flatMap (iC .i64)) ((gt b a).e1.toNat * 1)) kRf (tr (aw t)) (.pure (v := aj (gt g.Z (gt b a).e1)) kRf (tr (aR (aS (aK .i64) (aI t) z1 (by omega : (gt b a).e1.toNat * 1 = (gt b a).e1.toNat * 1 + 0) kRf))) (.pure (v := aB false) kRf (eB p) (.mu 10 (.done (.nh [1, 3, 4, 8, 12, 13, 18, 19, 48, 49, 50, 78] [.own (al.c g), .own (d.flatMap aD.c), .own (b.flatMap aD.c), .own (aD.c (gt b a))] (.cF kRf (.skip (.pop (.ru G ?_)))))))))))))))
        exact aE (d, IE (a + 1)) hr ((Wk.gc [1, 3, 4, 12, 13, 18, 19, 48, 49, 50] [(0, true), (1, false), (2, false)] rfl (pKt (pKo aD.c aD.pure d (pKo aD.c aD.pure b trivial)))).to)
       replace hr := cJ k hr
       refine .r0 G (.mu 4 (.p0 (v := .pp (g.Z.flatMap (iC .i64)) ((gt b a).e0.toNat * 1)) (tr (aw j)) (.p0 (v := aj (gt g.Z (gt b a).e0)) (tr (aR (aS (aK .i64) (aI j) z1 (by omega : (gt b a).e0.toNat * 1 = (gt b a).e0.toNat * 1 + 0) kRf))) (.p0 (v := aB false) (eB k) (.mu 18 (.done (.nh [1, 3, 4, 8, 12, 13, 18, 19, 48, 49, 50, 78] [.own (al.c g), .own (d.flatMap aD.c), .own (b.flatMap aD.c), .own (aD.c (gt b a))] (.cF kRf (.skip (.pop (.ru G ?_)))))))))))
       exact aE (d, IE (a + 1)) hr ((Wk.gc [1, 3, 4, 12, 13, 18, 19, 48, 49, 50] [(0, true), (1, false), (2, false)] rfl (pKt (pKo aD.c aD.pure d (pKo aD.c aD.pure b trivial)))).to)
      refine .leave rfl ?_
      obtain rfl := oi hr
      exact ⟨rfl, ((Wk.gc [1, 3, 4, 12, 13, 18, 19] [(0, true), (1, false)] rfl (pKt (pKo aD.c aD.pure d trivial))).to)⟩
     rintro x st' u
     clear E
     obtain ⟨rfl, u⟩ := u
     refine bb _ rfl (.pop (.wk u (.ru G ?_)))
     exact aE (s, IE (i + 1)) hr ((Wk.gc [1, 3, 4, 12, 13, 18, 19] [(0, true), (1, false)] rfl (pKt (pKo aD.c aD.pure s trivial))).to)
    refine .leave rfl ?_
    obtain rfl := oi hr
    exact ⟨rfl, ((Wk.gc [1, 3, 12, 13] [(0, true), (1, false)] rfl (pKt (pKo aD.c aD.pure f trivial))).to)⟩
   rintro x st' w
   clear D
   obtain ⟨rfl, w⟩ := w
   refine bb _ rfl (.pop (.wk w (.ru G ?_)))
   exact aE (q, IE (e + 1)) hr ((Wk.gc [1, 3, 12, 13] [(0, true), (1, false)] rfl (pKt (pKo aD.c aD.pure q trivial))).to)
  refine .leave rfl ?_
  obtain rfl := oi hr
  exact ⟨rfl, ((Wk.gc [3] [(1, false)] rfl (pKo aD.c aD.pure C trivial)).to)⟩
 rintro x st' z
 clear B
 obtain ⟨rfl, z⟩ := z
 refine bb _ rfl (.wk z (.seq (.r3 G 87 [(2, .hs 0 0 A.length 3)] (.ret ?_))))
 obtain rfl := oi hr
 exact aL.ret (vs := [.hs 0 0 A.length 3]) kRf (Sn.hs rfl (.inl rfl) (SnC.pure (bm aD.pure _)) (fun h => cB h))

theorem pY (n : Nat) (a : Int) (b : Int) (r : A2 Int) (hr : fH n a b = some r) : aN Tryz.prog 68 [aj a, aj b] (.agg (ag.c r)) := by
 unfold fH at hr
 refine aN.bd G Tryz.func68 [.cell 4 49] ?_
 unfold Tryz.f68
 simp only [gS]
 refine .seq (.r5 G [0, 1] [(4, .hp 0 0)] [.own [aj 0, aj 0]] (.seq (.r5 G [4] [] [.own [aj (mn a b), aj (mx a b)]] (.ret ?_))))
 obtain rfl := oi hr
 exact aL.r1 [.agg [aj (mn a b), aj (mx a b)]]

theorem py (n : Nat) {g : al} {k : Int} {a : al} {b : Int} (h : ([.agg [.at (.int .i64 g.X0), .at (.int .i64 g.Y0), .at (.int .i64 g.Step), .at (.int .i64 g.Width), .at (.int .i64 g.Height), slT (iC .i64) g.Z], .at (.int .i64 k)] : List AV) = [.agg [.at (.int .i64 a.X0), .at (.int .i64 a.Y0), .at (.int .i64 a.Step), .at (.int .i64 a.Width), .at (.int .i64 a.Height), slT (iC .i64) a.Z], .at (.int .i64 b)]) : bJ n g k = bJ n a b := by
 obtain ⟨rfl, rfl⟩ := jl h
 rfl
theorem kj (n : Nat) (g : al) (k : Int) (r : ar) (hr : bJ n g k = some r) : aN Tryz.prog 26 [.agg (al.c g), aj k] (.agg (ar.c r)) := by
 unfold bJ at hr
 refine aN.bd G Tryz.func26 [.cell 4 59] ?_
 unfold Tryz.f26
 simp only [gS]
 refine .seq (.r5 G [1] [(2, .hp 0 0), (4, .hp 1 0)] [.own (al.c g), .own zN4] (.seq ?_))
 obtain ⟨d, hr⟩ := gd hr
 obtain ⟨a, e, b, f, hr⟩ := bd2 hr
 refine .tn G (ca1 (ok0 (ft n (IE (g.X0 + (IE ((k.tmod g.Width) * g.Step)))) a e)) (ca3 (ok0 (ft n (IE (g.Y0 + (IE ((IE (k.tdiv g.Width)) * g.Step)))) b f)))) (.mu 5 (.pk (v := aj (k.tmod g.Width)) (qw (x := k) (y := g.Width) kRf kRf d) (.mu 4 (.ca cf0 (.mu 5 (.pk (v := aj (IE (k.tdiv g.Width))) (rN (x := k) (y := g.Width) kRf kRf d) (.mu 4 (.ca (cfA (fun h => by rw [sv f e (oW n h)]) cf0) (.mu 2 ?_)))))))))
 refine .done (kRa ?_)
 refine .nh [4] [.own (al.c g), .own [aB a.Num.Negative, aO a.Num.Groups, aB a.Den.Negative, aO a.Den.Groups, aB b.Num.Negative, aO b.Num.Groups, aB b.Den.Negative, aO b.Den.Groups]] (.ret ?_)
 obtain rfl := oi hr
 exact aL.r1 [.agg [aB a.Num.Negative, aO a.Num.Groups, aB a.Den.Negative, aO a.Den.Groups, aB b.Num.Negative, aO b.Num.Groups, aB b.Den.Negative, aO b.Den.Groups]]

theorem qe (n : Nat) {b : ai} {y : ai} {a : ai} {d : ai} (h : ([.agg (ai.c b), .agg (ai.c y)] : List AV) = [.agg (ai.c a), .agg (ai.c d)]) : bn n b y = bn n a d := by
 obtain ⟨rfl, rfl⟩ := fN h
 rfl
theorem gh (n : Nat) (a : ai) (y : ai) (r : ai) (hr : bn n a y = some r) : aN Tryz.prog 39 [.agg (ai.c a), .agg (ai.c y)] (.agg (ai.c r)) := by
 unfold bn at hr
 refine aN.bd G Tryz.func39 [.cell 4 42] ?_
 unfold Tryz.f39
 simp only [gS]
 refine .seq (.r2 G 22 [(2, .hp 0 0), (3, .hp 1 0), (4, .hp 2 0)] [.own (ai.c a), .own (ai.c y), .own zN2] (.seq ?_))
 obtain ⟨b, i, hr⟩ := bd hr
 refine .g1 G (ok0 (dr n a b i)) (.mu 1 (.ca cf0 (.mu 2 (.done (.nh [3, 4, 5] [.own (ai.c a), .own (ai.c y), .own zN2, .own (ai.c b)] (.seq ?_))))))
 obtain ⟨d, j, hr⟩ := bd hr
 refine .g1 G (ok0 (dr n y d j)) (.mu 1 (.ca cf0 (.mu 2 (.done (.nh [4, 5, 6] [.own (ai.c a), .own (ai.c y), .own zN2, .own (ai.c b), .own (ai.c d)] (.seq ?_))))))
 obtain ⟨l, e, m, f, k, g, hr⟩ := bd3 hr
 refine .tn G (ca1 (ok0 (cK n b.Num d.Num l e)) (ca1 (ok0 (cK n b.Den d.Den m f)) (ca3 (ok0 (gD n l m k g))))) (.mu 4 (.ca cf0 (.mu 4 (.ca (cfA (fun h => by rw [sv f e (gp n h)]) cf0) (.ca (cfF (cfF cf0)) (.mu 1 ?_))))))
 refine .done (kRa ?_)
 refine .nh [4] [.own (ai.c a), .own (ai.c y), .own (ai.c k), .own (ai.c b), .own (ai.c d)] (.ret ?_)
 obtain rfl := oi hr
 exact aL.r1 [.agg (ai.c k)]

theorem pA (n : Nat) (g : al) (c : an) (r : ar × Int) (hr : bt n g c = some r) : aN Tryz.prog 30 [.agg (al.c g), .agg (an.c c)] (.tup [.agg (ar.c r.1), aj r.2]) := by
 unfold bt at hr
 refine aN.bd G Tryz.func30 [.cell 4 59, .tmp 5] ?_
 unfold Tryz.f30
 simp only [gS]
 refine .seq (.r2 G 97 [(2, .hp 0 0), (3, .hp 1 0), (4, .hp 2 0)] [.own (al.c g), .own (an.c c), .own zN4] (.seq (.r4 G [2, 3, 4] [(6, aB false)] (.seq (.seq ?_)))))
 obtain ⟨d, qz, hr⟩ := bd hr
 refine .g1 G (ok0 (mQ n g d qz)) (.mu 1 (.ca cf0 (.mu 2 (.done (.nh [2, 3, 4, 6, 13, 14, 15] [.own (al.c g), .own (an.c c), .own zN4] (.block ?_))))))
 replace hr := bd hr; obtain ⟨t, u, hr⟩ := hr
 refine .aP (σ := fun z0 => match z0 with | (T, a) => ⟨mkS 97 0 [(2, .hp 0 0), (3, .hp 1 0), (4, .hp 2 0), (6, aB T), (13, slT aD.c d), (14, aj (d.length : Int)), (15, aj a)], [.own (al.c g), .own (an.c c), .own zN4]⟩) (Q := fun x st' => x = .exit 0 /\ Wk 0 st' ⟨mkS 97 0 [(2, .hp 0 0), (3, .hp 1 0), (4, .hp 2 0), (6, aB t)], [.own (al.c g), .own (an.c c), .own zN4]⟩) u ((Wk.gc [2, 3, 4, 6, 13, 14, 15] kT3 rfl trivial).to) ?_ ?_
 ·clear hr
  rintro m ⟨T, a⟩ hr
  refine CQ.sh ?_
  refine .seq (.r4 G [2, 3, 4, 6, 13, 14, 15] [(16, aB (decide (a < (d.length : Int))))] (.seq ?_))
  refine .cd hr ?_ ?_ <;> intro tV hr
  ·refine .skip (.seq (.block (.seq ?_)))
   obtain ⟨w, hr⟩ := gd hr
   refine .r0 G (.p0 (v := .pp (d.flatMap aD.c) (a.toNat * 3)) (tr (aw w)) (.p0 (v := .agg (aD.c (gt d a))) (tr (y := bs.ofP (eA (decide (3 <= ((d.flatMap aD.c).drop (a.toNat * 3)).length)) (.agg (((d.flatMap aD.c).drop (a.toNat * 3)).take 3)))) (ch aD.len (aI w) (by decide) (by omega : a.toNat * 3 = a.toNat * 3 + 0) kRf)) (.mu 2 (.done (.nh [2, 3, 4, 6, 8, 13, 14, 15] [.own (al.c g), .own (an.c c), .own zN4, .own (aD.c (gt d a))] (.seq (.r4 G [2, 3, 4, 6, 8, 13, 14, 15] [(19, aj 0)] (.block ?_))))))))
   replace hr := bd hr; obtain ⟨z, C, hr⟩ := hr
   refine .aP (σ := fun z0 => match z0 with | (o, b) => ⟨mkS 97 0 [(2, .hp 0 0), (3, .hp 1 0), (4, .hp 2 0), (6, aB o), (8, .hp 3 0), (13, slT aD.c d), (14, aj (d.length : Int)), (15, aj a), (19, aj b)], [.own (al.c g), .own (an.c c), .own zN4, .own (aD.c (gt d a))]⟩) (Q := fun x st' => x = .exit 2 /\ Wk 0 st' ⟨mkS 97 0 [(2, .hp 0 0), (3, .hp 1 0), (4, .hp 2 0), (6, aB z), (13, slT aD.c d), (14, aj (d.length : Int)), (15, aj a)], [.own (al.c g), .own (an.c c), .own zN4]⟩) C ((Wk.gc [2, 3, 4, 6, 8, 13, 14, 15, 19] kT4 rfl trivial).to) ?_ ?_
   ·clear hr
    rintro m ⟨o, b⟩ hr
    refine CQ.sh ?_
    refine .seq (.r4 G [2, 3, 4, 6, 8, 13, 14, 15, 19] [(20, aB (decide (b < 3)))] (.seq ?_))
    refine .cd hr ?_ ?_ <;> intro ot hr
    ·refine .skip (.seq (.block (.seq (.r4 G [2, 3, 4, 6, 8, 13, 14, 15, 19] [(9, aj b)] (.seq ?_)))))
     rcases bT (decide (c.A < c.B)) with i | i
     ·replace hr := cI i hr
      obtain ⟨D, E, hr⟩ := gd2 hr
      obtain ⟨p7, U, hr⟩ := bd hr
      refine .t1 G (ok0 (pY n (A3.get (gt d a) b) (A3.get (gt d a) ((IE (b + 1)).tmod 3)) p7 U)) (.mu 4 (.pk (v := aB true) (eB i) (.mu 2 (.pk (v := .hp 3 (0 + b.toNat * 1)) (tr (aw D)) (.pk (v := aj (A3.get (gt d a) b)) (tr (y := bs.ofP ((aD.c (gt d a))[0 + b.toNat * 1]?)) (aR (s8 (k := .i64) (kk := 0) (xs := [(gt d a).e0, (gt d a).e1, (gt d a).e2]) D rfl kRf))) (.mu 3 (.pk (v := .hp 3 (0 + ((IE (b + 1)).tmod 3).toNat * 1)) (tr (aw E)) (.pk (v := aj (A3.get (gt d a) ((IE (b + 1)).tmod 3))) (tr (y := bs.ofP ((aD.c (gt d a))[0 + ((IE (b + 1)).tmod 3).toNat * 1]?)) (aR (s8 (k := .i64) (kk := 0) (xs := [(gt d a).e0, (gt d a).e1, (gt d a).e2]) E rfl kRf))) (.ca cf0 (.mu 7 ?_))))))))))
      refine .done (kRa ?_)
      refine .nh [2, 3, 4, 6, 8, 13, 14, 15, 19, 43] [.own (al.c g), .own (an.c c), .own zN4, .own (aD.c (gt d a))] ?_
      refine .cd hr ?_ ?_ <;> intro pQ hr
      ·refine .ru G (.pop (.ru G ?_))
       exact aE (true, IE (b + 1)) hr ((Wk.gc [2, 3, 4, 6, 8, 13, 14, 15, 19] kT4 rfl trivial).to)
      refine .skip (.pop (.ru G ?_))
      exact aE (o, IE (b + 1)) hr ((Wk.gc [2, 3, 4, 6, 8, 13, 14, 15, 19] kT4 rfl trivial).to)
     replace hr := cJ i hr
     refine .dM G bz (.mu 4 (.pk (v := aB false) (eB i) (.mu 17 ?_)))
     refine .done (kRa ?_)
     refine .nh [2, 3, 4, 6, 8, 13, 14, 15, 19, 43] [.own (al.c g), .own (an.c c), .own zN4, .own (aD.c (gt d a))] (.cF kRf (.skip (.pop (.ru G ?_))))
     exact aE (o, IE (b + 1)) hr ((Wk.gc [2, 3, 4, 6, 8, 13, 14, 15, 19] kT4 rfl trivial).to)
    refine .leave rfl ?_
    obtain rfl := oi hr
    exact ⟨rfl, ((Wk.gc [2, 3, 4, 6, 13, 14, 15] kT3 rfl trivial).to)⟩
   rintro x st' p
   clear C
   obtain ⟨rfl, p⟩ := p
   refine bb _ rfl (.pop (.wk p (.ru G ?_)))
   exact aE (z, IE (a + 1)) hr ((Wk.gc [2, 3, 4, 6, 13, 14, 15] kT3 rfl trivial).to)
  refine .leave rfl ?_
  obtain rfl := oi hr
  exact ⟨rfl, ((Wk.gc [2, 3, 4, 6] kT3 rfl trivial).to)⟩
 rintro x st' q
 clear u
 obtain ⟨rfl, q⟩ := q
 refine bb _ rfl (.wk q (.seq (.seq (.r4 G [2, 3, 4] [(47, aB (!t))] ?_))))
 refine .cd hr ?_ ?_ <;> intro pJ hr
 ·refine .seq (.r4 G [4] [(5, aj 6)] (.ret ?_))
  obtain rfl := oi hr
  exact aL.ret (vs := [.agg zN4, aj 6]) kRf (Sn.tup (SnL.cons (Sn.agg (Sp (SnL.cons Sn.fp (Sp (SnL.cons Sn.fp (Sp (SnL.cons Sn.fp (Sp (SnL.cons Sn.fp SnL.nil))))))))) (Sp SnL.nil)))
 refine .skip (.seq (.seq ?_))
 obtain ⟨sa, V, hr⟩ := bd hr
 refine .g1 G (ok0 (cP n c.At sa V)) (.mu 2 (.ca cf0 (.mu 1 (.done (.nh [2, 3, 4, 52] [.own (al.c g), .own (an.c c), .own zN4] ?_)))))
 refine .cd hr ?_ ?_ <;> intro qD hr
 ·refine .seq (.r4 G [4] [(5, aj 1)] (.ret ?_))
  obtain rfl := oi hr
  exact aL.ret (vs := [.agg zN4, aj 1]) kRf (Sn.tup (SnL.cons (Sn.agg (Sp (SnL.cons Sn.fp (Sp (SnL.cons Sn.fp (Sp (SnL.cons Sn.fp (Sp (SnL.cons Sn.fp SnL.nil))))))))) (Sp SnL.nil)))
 refine .skip (.seq (.seq ?_))
 obtain ⟨S, F, hr⟩ := bd hr
 rcases bT (decide (S < 0)) with j | j
 ·replace hr := cI j hr
  refine .t1 G (ok0 (iJ n c.At S F)) (.mu 2 (.ca cf0 (.pk (v := aB true) (eB j) (.mu 7 ?_))))
  refine .done (kRa ?_)
  refine .nh [2, 3, 4, 64] [.own (al.c g), .own (an.c c), .own zN4] (.cT kRf (.seq (.r4 G [4] [(5, aj 2)] (.ret ?_))))
  obtain rfl := oi hr
  exact aL.ret (vs := [.agg zN4, aj 2]) kRf (Sn.tup (SnL.cons (Sn.agg (Sp (SnL.cons Sn.fp (Sp (SnL.cons Sn.fp (Sp (SnL.cons Sn.fp (Sp (SnL.cons Sn.fp SnL.nil))))))))) (Sp SnL.nil)))
 replace hr := cJ j hr
 obtain ⟨W, Z, rf, lY, hr⟩ := bd2 hr
 refine .tn G (ca1 (ok0 (iJ n c.At S F)) (ca1 (ok0 (ft n 1 W Z)) (ca3 (ok0 (dJ n c.At W rf lY))))) (.mu 2 (.ca cf0 (.pk (v := aB false) (eB j) (.mu 3 (.ca (cfF cf0) (.ca (cfF (cfF cf0)) (.mu 2 ?_)))))))
 refine .done (kRa ?_)
 refine .nh [2, 3, 4, 64] [.own (al.c g), .own (an.c c), .own zN4] ?_
 refine .cd hr ?_ ?_ <;> intro rr hr
 ·refine .seq (.r4 G [4] [(5, aj 2)] (.ret ?_))
  obtain rfl := oi hr
  exact aL.ret (vs := [.agg zN4, aj 2]) kRf (Sn.tup (SnL.cons (Sn.agg (Sp (SnL.cons Sn.fp (Sp (SnL.cons Sn.fp (Sp (SnL.cons Sn.fp (Sp (SnL.cons Sn.fp SnL.nil))))))))) (Sp SnL.nil)))
 refine .skip (.seq ?_)
 obtain ⟨l, H, s, I, hr⟩ := bd2 hr
 refine .tn G (ca1 (ok0 (kj n g c.A l H)) (ca3 (ok0 (kj n g c.B s I)))) (.mu 3 (.ca cf0 (.mu 3 (.ca (cfA (fun h => by rw [sv I H (py n h)]) cf0) (.mu 4 ?_)))))
 refine .done (kRa ?_)
 refine .nh [3, 4, 10, 11] [.own (al.c g), .own (an.c c), .own zN4, .own (ar.c l), .own (ar.c s)] (.seq ?_)
 obtain ⟨kV, J, mA, L, e, M, hr⟩ := bd3 hr
 obtain ⟨nI, N, pn, O, f, R, hr⟩ := bd3 hr
 refine .tn G (ca1 (ok0 (dh n s.X l.X kV J)) (ca1 (ok0 (gh n c.At kV mA L)) (ca1 (ok0 (iY n l.X mA e M)) (ca1 (ok0 (dh n s.Y l.Y nI N)) (ca1 (ok0 (gh n c.At nI pn O)) (ca3 (ok0 (iY n l.Y pn f R)))))))) (.mu 8 (.ca cf0 (.ca (cfF cf0) (.ca (cfF (cfF cf0)) (.mu 8 (.ca (cfA (fun h => by rw [sv N J (iS n h)]) (cfF (cfF cf0))) (.ca (cfF (cfA (fun h => by rw [sv O L (qe n h)]) (cfF (cfF cf0)))) (.ca (cfF (cfF (cfA (fun h => by rw [sv R M (ql n h)]) (cfF (cfF cf0))))) (.mu 3 ?_)))))))))
 refine .done (kRa ?_)
 refine .nh [4, 5] [.own (al.c g), .own (an.c c), .own [aB e.Num.Negative, aO e.Num.Groups, aB e.Den.Negative, aO e.Den.Groups, aB f.Num.Negative, aO f.Num.Groups, aB f.Den.Negative, aO f.Den.Groups], .own (ar.c l), .own (ar.c s)] (.ret ?_)
 obtain rfl := oi hr
 exact aL.ret (vs := [.agg [aB e.Num.Negative, aO e.Num.Groups, aB e.Den.Negative, aO e.Den.Groups, aB f.Num.Negative, aO f.Num.Groups, aB f.Den.Negative, aO f.Den.Groups], aj 0]) kRf (Sn.tup (Sp (Sp SnL.nil)))

theorem jS (n : Nat) (g : al) (c : ak) (r : List ar × Int) (hr : cL n g c = some r) : aN Tryz.prog 24 [.agg (al.c g), .agg (ak.c c)] (.tup [slT ar.c r.1, aj r.2]) := by
 unfold cL at hr
 refine aN.bd G Tryz.func24 [.tmp 4, .tmp 5] ?_
 unfold Tryz.f24
 simp only [gS]
 refine .seq (.r2 G 34 [(2, .hp 0 0), (3, .hp 1 0)] [.own (al.c g), .own (ak.c c)] (.seq (.r5 G [2, 3] [(6, .hs 2 0 0 8)] [.own (al.c g), .own (ak.c c), .own []] (.seq (.seq (.r4 G [2, 6] [(13, slT an.c c.Points), (14, aj (c.Points.length : Int)), (15, aj 0)] (.block ?_)))))))
 replace hr := bd hr; obtain ⟨k, i, hr⟩ := hr
 refine .aP (σ := fun u => match u with | (b, a) => ⟨mkS 34 0 [(2, .hp 0 0), (6, .hs 1 0 b.length 8), (13, slT an.c c.Points), (14, aj (c.Points.length : Int)), (15, aj a)], [.own (al.c g), .own (b.flatMap ar.c)]⟩) (Q := fun x st' => match (generalizing := false) k with | .inl f => x = .exit 0 /\ Wk 0 st' ⟨mkS 34 0 [(6, .hs 0 0 f.length 8)], [.own (f.flatMap ar.c)]⟩ | .inr (r0) => x = .ret /\ aL Tryz.prog [.tmp 4, .tmp 5] (.tup [slT ar.c r0.1, aj r0.2]) .ret st') i ((Wk.gc [2, 6, 13, 14, 15] [(0, true), (2, false)] rfl (pKt (pKc trivial))).to) ?_ ?_
 ·clear hr
  rintro m ⟨b, a⟩ hr
  refine CQ.sh ?_
  refine .seq (.r4 G [2, 6, 13, 14, 15] [(16, aB (decide (a < (c.Points.length : Int))))] (.seq ?_))
  refine .cd hr ?_ ?_ <;> intro s hr
  ·refine .skip (.seq (.block (.seq ?_)))
   obtain ⟨j, hr⟩ := gd hr
   refine .r0 G (.p0 (v := .pp (c.Points.flatMap an.c) (a.toNat * 6)) (tr (aw j)) (.p0 (v := .agg (an.c (gt c.Points a))) (tr (y := bs.ofP (eA (decide (6 <= ((c.Points.flatMap an.c).drop (a.toNat * 6)).length)) (.agg (((c.Points.flatMap an.c).drop (a.toNat * 6)).take 6)))) (ch an.len (aI j) (by decide) (by omega : a.toNat * 6 = a.toNat * 6 + 0) kRf)) (.mu 2 (.done (.nh [2, 6, 8, 13, 14, 15] [.own (al.c g), .own (b.flatMap ar.c), .own (an.c (gt c.Points a))] (.seq ?_))))))
   obtain ⟨d, o, hr⟩ := bd hr
   refine .g1 G (ok0 (pA n g (gt c.Points a) d o)) (.mu 2 (.ca cf0 (.mu 6 (.done (.nh [2, 6, 9, 10, 13, 14, 15] [.own (al.c g), .own (b.flatMap ar.c), .own (an.c (gt c.Points a)), .own (ar.c d.1)] (.seq (.seq (.r4 G [2, 6, 9, 10, 13, 14, 15] [(26, aB ((d.2 : Int) != 0))] ?_))))))))
   refine .cd hr ?_ ?_ <;> intro t hr
   ·refine .seq (.r3 G 34 [(4, nS), (5, aj d.2)] (.ret ?_))
    obtain rfl := oi hr
    exact ⟨rfl, aL.ret (vs := [nS, aj d.2]) kRf (Sn.tup (SnL.cons Sn.fp (Sp SnL.nil)))⟩
   refine .skip ?_
   obtain ⟨p, q, hr⟩ := gd2 hr
   refine .r0 G (.mu 3 (.e0 (v := .hs 5 0 (b ++ [d.1]).length 8) (ws := [(1, .dead), (5, .own ((b ++ [d.1]).flatMap ar.c))]) (tr (dN (new := (ar.c d.1)) (l := b) (xs := [d.1]) ar.len rfl rfl kRf p q)) (.mu 1 (.done (.pop (.ru G ?_))))))
   exact aE (b ++ [d.1], IE (a + 1)) hr ((Wk.gc [2, 6, 13, 14, 15] [(0, true), (5, false)] rfl (pKt (pKo ar.c ar.pure (b ++ [d.1]) trivial))).to)
  refine .leave rfl ?_
  obtain rfl := oi hr
  exact ⟨rfl, ((Wk.gc [6] [(1, false)] rfl (pKo ar.c ar.pure b trivial)).to)⟩
 rcases k with f | r0
 ·rintro x st' e
  clear i
  obtain ⟨rfl, e⟩ := e
  refine bb _ rfl (.wk e (.seq (.r3 G 34 [(4, .hs 0 0 f.length 8), (5, aj 0)] (.ret ?_))))
  obtain rfl := oi hr
  exact aL.ret (vs := [.hs 0 0 f.length 8, aj 0]) kRf (Sn.tup (SnL.cons (Sn.hs rfl (.inl rfl) (SnC.pure (bm ar.pure _)) (fun h => cB h)) (Sp SnL.nil)))
 rintro x st' e
 clear i
 obtain ⟨rfl, e⟩ := e
 obtain rfl := oi hr
 exact jm _ e

theorem jU {a : ar} {b : ar} {c : ar} {d : ar} {e : ar} {f : ar} (h : ([.agg [.at (.bool a.X.Num.Negative), slT iCu a.X.Num.Groups, .at (.bool a.X.Den.Negative), slT iCu a.X.Den.Groups, .at (.bool a.Y.Num.Negative), slT iCu a.Y.Num.Groups, .at (.bool a.Y.Den.Negative), slT iCu a.Y.Den.Groups], .agg [.at (.bool b.X.Num.Negative), slT iCu b.X.Num.Groups, .at (.bool b.X.Den.Negative), slT iCu b.X.Den.Groups, .at (.bool b.Y.Num.Negative), slT iCu b.Y.Num.Groups, .at (.bool b.Y.Den.Negative), slT iCu b.Y.Den.Groups], .agg [.at (.bool c.X.Num.Negative), slT iCu c.X.Num.Groups, .at (.bool c.X.Den.Negative), slT iCu c.X.Den.Groups, .at (.bool c.Y.Num.Negative), slT iCu c.Y.Num.Groups, .at (.bool c.Y.Den.Negative), slT iCu c.Y.Den.Groups]] : List AV) = [.agg [.at (.bool d.X.Num.Negative), slT iCu d.X.Num.Groups, .at (.bool d.X.Den.Negative), slT iCu d.X.Den.Groups, .at (.bool d.Y.Num.Negative), slT iCu d.Y.Num.Groups, .at (.bool d.Y.Den.Negative), slT iCu d.Y.Den.Groups], .agg [.at (.bool e.X.Num.Negative), slT iCu e.X.Num.Groups, .at (.bool e.X.Den.Negative), slT iCu e.X.Den.Groups, .at (.bool e.Y.Num.Negative), slT iCu e.Y.Num.Groups, .at (.bool e.Y.Den.Negative), slT iCu e.Y.Den.Groups], .agg [.at (.bool f.X.Num.Negative), slT iCu f.X.Num.Groups, .at (.bool f.X.Den.Negative), slT iCu f.X.Den.Groups, .at (.bool f.Y.Num.Negative), slT iCu f.Y.Num.Groups, .at (.bool f.Y.Den.Negative), slT iCu f.Y.Den.Groups]]) : a = d /\ b = e /\ c = f := by
 obtain ⟨⟨⟨_, _⟩, ⟨_, _⟩⟩, ⟨⟨_, _⟩, ⟨_, _⟩⟩⟩ := a
 obtain ⟨⟨⟨_, _⟩, ⟨_, _⟩⟩, ⟨⟨_, _⟩, ⟨_, _⟩⟩⟩ := d
 obtain ⟨⟨⟨_, _⟩, ⟨_, _⟩⟩, ⟨⟨_, _⟩, ⟨_, _⟩⟩⟩ := b
 obtain ⟨⟨⟨_, _⟩, ⟨_, _⟩⟩, ⟨⟨_, _⟩, ⟨_, _⟩⟩⟩ := e
 obtain ⟨⟨⟨_, _⟩, ⟨_, _⟩⟩, ⟨⟨_, _⟩, ⟨_, _⟩⟩⟩ := c
 obtain ⟨⟨⟨_, _⟩, ⟨_, _⟩⟩, ⟨⟨_, _⟩, ⟨_, _⟩⟩⟩ := f
 simp only [List.cons.injEq, AV.agg.injEq, AV.at.injEq, Value.int.injEq, Value.bool.injEq, AV.fn.injEq, AV.pp.injEq, true_and, and_true, dR] at h
 simp_all
theorem dF (n : Nat) {a : ar} {b : ar} {c : ar} {d : ar} {e : ar} {f : ar} (h : ([.agg (ar.c a), .agg (ar.c b), .agg (ar.c c)] : List AV) = [.agg (ar.c d), .agg (ar.c e), .agg (ar.c f)]) : bZ n a b c = bZ n d e f := by
 obtain ⟨rfl, rfl, rfl⟩ := jU h
 rfl
theorem fQ (n : Nat) (a : ar) (b : ar) (c : ar) (r : Int) (hr : bZ n a b c = some r) : aN Tryz.prog 63 [.agg (ar.c a), .agg (ar.c b), .agg (ar.c c)] (aj r) := by
 unfold bZ at hr
 refine aN.bd G Tryz.func63 [.tmp 6] ?_
 unfold Tryz.f63
 simp only [gS]
 refine .seq (.r2 G 34 [(3, .hp 0 0), (4, .hp 1 0), (5, .hp 2 0)] [.own (ar.c a), .own (ar.c b), .own (ar.c c)] (.seq ?_))
 obtain ⟨p, f, q, g, m, o, hr⟩ := bd3 hr
 refine .tn G (ca1 (ok0 (dh n b.X a.X p f)) (ca1 (ok0 (dh n c.Y a.Y q g)) (ca3 (ok0 (gh n p q m o))))) (.mu 4 (.ca cf0 (.mu 4 (.ca (cfA (fun h => by rw [sv g f (iS n h)]) cf0) (.ca (cfF (cfF cf0)) (.mu 2 ?_))))))
 refine .done (kRa ?_)
 refine .nh [3, 4, 5, 7] [.own (ar.c a), .own (ar.c b), .own (ar.c c), .own (ai.c m)] (.seq ?_)
 obtain ⟨s, i, t, d, e, j, hr⟩ := bd3 hr
 refine .tn G (ca1 (ok0 (dh n b.Y a.Y s i)) (ca1 (ok0 (dh n c.X a.X t d)) (ca3 (ok0 (gh n s t e j))))) (.mu 4 (.ca cf0 (.mu 4 (.ca (cfA (fun h => by rw [sv d i (iS n h)]) cf0) (.ca (cfF (cfF cf0)) (.mu 2 ?_))))))
 refine .done (kRa ?_)
 refine .nh [7, 8] [.own (ar.c a), .own (ar.c b), .own (ar.c c), .own (ai.c m), .own (ai.c e)] (.seq ?_)
 obtain ⟨k, l, hr⟩ := bd hr
 refine .g1 G (ok0 (dJ n m e k l)) (.mu 2 (.ca cf0 (.mu 1 (.done (.ret ?_)))))
 obtain rfl := oi hr
 exact aL.r1 [aj k]

theorem nm {a : ai} {b : ai} {p : ai} {c : ai} {d : ai} {e : ai} (h : ([.agg [.at (.bool a.Num.Negative), slT iCu a.Num.Groups, .at (.bool a.Den.Negative), slT iCu a.Den.Groups], .agg [.at (.bool b.Num.Negative), slT iCu b.Num.Groups, .at (.bool b.Den.Negative), slT iCu b.Den.Groups], .agg [.at (.bool p.Num.Negative), slT iCu p.Num.Groups, .at (.bool p.Den.Negative), slT iCu p.Den.Groups]] : List AV) = [.agg [.at (.bool c.Num.Negative), slT iCu c.Num.Groups, .at (.bool c.Den.Negative), slT iCu c.Den.Groups], .agg [.at (.bool d.Num.Negative), slT iCu d.Num.Groups, .at (.bool d.Den.Negative), slT iCu d.Den.Groups], .agg [.at (.bool e.Num.Negative), slT iCu e.Num.Groups, .at (.bool e.Den.Negative), slT iCu e.Den.Groups]]) : a = c /\ b = d /\ p = e := by
 obtain ⟨⟨_, _⟩, ⟨_, _⟩⟩ := a
 obtain ⟨⟨_, _⟩, ⟨_, _⟩⟩ := c
 obtain ⟨⟨_, _⟩, ⟨_, _⟩⟩ := b
 obtain ⟨⟨_, _⟩, ⟨_, _⟩⟩ := d
 obtain ⟨⟨_, _⟩, ⟨_, _⟩⟩ := p
 obtain ⟨⟨_, _⟩, ⟨_, _⟩⟩ := e
 simp only [List.cons.injEq, AV.agg.injEq, AV.at.injEq, Value.int.injEq, Value.bool.injEq, AV.fn.injEq, AV.pp.injEq, true_and, and_true, dR] at h
 simp_all
theorem nL (n : Nat) {a : ai} {b : ai} {p : ai} {d : ai} {e : ai} {f : ai} (h : ([.agg (ai.c a), .agg (ai.c b), .agg (ai.c p)] : List AV) = [.agg (ai.c d), .agg (ai.c e), .agg (ai.c f)]) : cw n a b p = cw n d e f := by
 obtain ⟨rfl, rfl, rfl⟩ := nm h
 rfl
theorem gx (n : Nat) (a : ai) (b : ai) (p : ai) (r : Bool) (hr : cw n a b p = some r) : aN Tryz.prog 109 [.agg (ai.c a), .agg (ai.c b), .agg (ai.c p)] (aB r) := by
 unfold cw at hr
 refine aN.bd G Tryz.func109 [.tmp 6] ?_
 unfold Tryz.f109
 simp only [gS]
 refine .seq (.r2 G 15 [(3, .hp 0 0), (4, .hp 1 0), (5, .hp 2 0)] [.own (ai.c a), .own (ai.c b), .own (ai.c p)] (.seq ?_))
 obtain ⟨f, d, g, e, hr⟩ := bd2 hr
 refine .tn G (ca1 (ok0 (dJ n a p f d)) (ca3 (ok0 (dJ n p b g e)))) (.mu 2 (.ca cf0 (.mu 2 (.ca (cfA (fun h => by rw [sv e d (nQ n h)]) cf0) (.mu 3 ?_)))))
 refine .done (kRa ?_)
 refine .ret ?_
 obtain rfl := oi hr
 exact aL.r1 [aB (decide ((IE (f * g)) >= 0))]

theorem aF (n : Nat) {a : ar} {b : ar} {p : ar} {d : ar} {e : ar} {f : ar} (h : ([.agg (ar.c a), .agg (ar.c b), .agg (ar.c p)] : List AV) = [.agg (ar.c d), .agg (ar.c e), .agg (ar.c f)]) : aQ n a b p = aQ n d e f := by
 obtain ⟨rfl, rfl, rfl⟩ := jU h
 rfl
theorem av (n : Nat) (a : ar) (b : ar) (p : ar) (r : Bool) (hr : aQ n a b p = some r) : aN Tryz.prog 64 [.agg (ar.c a), .agg (ar.c b), .agg (ar.c p)] (aB r) := by
 unfold aQ at hr
 refine aN.bd G Tryz.func64 [.tmp 6] ?_
 unfold Tryz.f64
 simp only [gS]
 refine .seq (.r2 G 23 [(3, .hp 0 0), (4, .hp 1 0), (5, .hp 2 0)] [.own (ar.c a), .own (ar.c b), .own (ar.c p)] (.seq ?_))
 obtain ⟨i, d, hr⟩ := bd hr
 rcases bT i with e | e
 ·subst e
  replace hr := cI rfl hr
  obtain ⟨g, f, hr⟩ := bd hr
  refine .gn G (ca1 (ok0 (gx n a.X b.X p.X true d)) (ca3 (ok0 (gx n a.Y b.Y p.Y g f)))) (.mu 6 (.ca cf0 (.mu 7 (.ca (cfA (fun h => by rw [sv f d (nL n h)]) cf0) (.mu 2 (.done (.ret ?_)))))))
  obtain rfl := oi hr
  exact aL.r1 [aB g]
 subst e
 replace hr := cJ rfl hr
 refine .g1 G (ok0 (gx n a.X b.X p.X false d)) (.mu 6 (.ca cf0 (.mu 10 (.done (.ret ?_)))))
 obtain rfl := oi hr
 exact aL.r1 [aB false]

theorem kD (n : Nat) (a : ar) (b : ar) (c : ar) (d : ar) (r : Bool) (hr : dO n a b c d = some r) : aN Tryz.prog 28 [.agg (ar.c a), .agg (ar.c b), .agg (ar.c c), .agg (ar.c d)] (aB r) := by
 unfold dO at hr
 refine aN.bd G Tryz.func28 [.tmp 8] ?_
 unfold Tryz.f28
 simp only [gS]
 refine .seq (.r2 G 77 [(4, .hp 0 0), (5, .hp 1 0), (6, .hp 2 0), (7, .hp 3 0)] [.own (ar.c a), .own (ar.c b), .own (ar.c c), .own (ar.c d)] (.seq ?_))
 obtain ⟨v1, Y, v3, Z, v5, lY, hr⟩ := bd3 hr
 obtain ⟨X, kV, hr⟩ := bd hr
 refine .tn G (ca1 (ok0 (fQ n a b c v1 Y)) (ca1 (ok0 (fQ n a b d v3 Z)) (ca1 (ok0 (fQ n c d a v5 lY)) (ca3 (ok0 (fQ n c d b X kV)))))) (.mu 3 (.ca cf0 (.mu 3 (.ca (cfA (fun h => by rw [sv Z Y (dF n h)]) cf0) (.mu 3 (.ca (cfA (fun h => by rw [sv lY Y (dF n h)]) (cfA (fun h => by rw [sv lY Z (dF n h)]) cf0)) (.mu 3 (.ca (cfA (fun h => by rw [sv kV Y (dF n h)]) (cfA (fun h => by rw [sv kV Z (dF n h)]) (cfA (fun h => by rw [sv kV lY (dF n h)]) cf0))) (.mu 4 ?_)))))))))
 refine .done (kRa ?_)
 refine .nh [4, 5, 6, 7, 9, 10, 11, 12] [.own (ar.c a), .own (ar.c b), .own (ar.c c), .own (ar.c d)] (.seq (.seq ?_))
 replace hr := bd hr; obtain ⟨qz, F, hr⟩ := hr
 refine .Ia (Q := fun x st' => match (generalizing := false) qz with | .inl _ => x = .normal /\ Wk 0 st' ⟨mkS 77 0 [(4, .hp 0 0), (5, .hp 1 0), (6, .hp 2 0), (7, .hp 3 0), (9, aj v1), (10, aj v3), (11, aj v5), (12, aj X)], [.own (ar.c a), .own (ar.c b), .own (ar.c c), .own (ar.c d)]⟩ | .inr (r0) => x = .ret /\ aL Tryz.prog [.tmp 8] (aB r0) .ret st') ?_ ?_
 ·clear hr
  have hr := F
  clear F
  rcases bT (decide ((IE (v1 * v3)) < 0)) with J | J
  ·replace hr := cI J hr
   refine .r0 G (.mu 3 (.p0 (v := aB true) (eB J) (.mu 6 (.done (.nh [4, 5, 6, 7, 9, 10, 11, 12, 38] [.own (ar.c a), .own (ar.c b), .own (ar.c c), .own (ar.c d)] ?_)))))
   refine .cd hr ?_ ?_ <;> intro zC hr
   ·refine .seq (.ru G (.ret ?_))
    obtain rfl := oi hr
    exact ⟨rfl, aL.ret (vs := [aB true]) kRf (Sn.pure rfl)⟩
   refine .skip ?_
   obtain rfl := oi hr
   exact ⟨rfl, ((Wk.gc [4, 5, 6, 7, 9, 10, 11, 12] kT4 rfl trivial).to)⟩
  replace hr := cJ J hr
  refine .r0 G (.mu 3 (.p0 (v := aB false) (eB J) (.mu 6 (.done (.nh [4, 5, 6, 7, 9, 10, 11, 12, 38] [.own (ar.c a), .own (ar.c b), .own (ar.c c), .own (ar.c d)] (.cF kRf (.skip ?_)))))))
  obtain rfl := oi hr
  exact ⟨rfl, ((Wk.gc [4, 5, 6, 7, 9, 10, 11, 12] kT4 rfl trivial).to)⟩
 rcases qz with ⟨⟩ | r0
 ·rintro x st' s
  clear F
  obtain ⟨rfl, s⟩ := s
  refine .wk s (.seq ?_)
  rcases bT ((v1 : Int) == 0) with f | f
  ·replace hr := cI f hr
   obtain ⟨s9, e, hr⟩ := bd hr
   rcases bT s9 with L | L
   ·subst L
    replace hr := cI rfl hr
    refine .g1 G (ok0 (av n a b c true e)) (.mu 1 (.p0 (v := aB true) (eB f) (.mu 4 (.ca cf0 (.mu 32 (.done (.ret ?_)))))))
    obtain rfl := oi hr
    exact aL.r1 [aB true]
   subst L
   replace hr := cJ rfl hr
   rcases bT ((v3 : Int) == 0) with i | i
   ·replace hr := cI i hr
    obtain ⟨tf, g, hr⟩ := bd hr
    rcases bT tf with M | M
    ·subst M
     replace hr := cI rfl hr
     refine .gn G (ca1 (ok0 (av n a b c false e)) (ca3 (ok0 (av n a b d true g)))) (.mu 1 (.p0 (v := aB true) (eB f) (.mu 4 (.ca cf0 (.mu 3 (.pure (v := aB true) kRf (eB i) (.mu 4 (.ca (cfA (fun h => by rw [sv g e (aF n h)]) cf0) (.mu 23 (.done (.ret ?_)))))))))))
     obtain rfl := oi hr
     exact aL.r1 [aB true]
    subst M
    replace hr := cJ rfl hr
    rcases bT ((v5 : Int) == 0) with m | m
    ·replace hr := cI m hr
     obtain ⟨uD, l, hr⟩ := bd hr
     rcases bT uD with N | N
     ·subst N
      replace hr := cI rfl hr
      refine .gn G (ca1 (ok0 (av n a b c false e)) (ca1 (ok0 (av n a b d false g)) (ca3 (ok0 (av n c d a true l))))) (.mu 1 (.p0 (v := aB true) (eB f) (.mu 4 (.ca cf0 (.mu 3 (.pure (v := aB true) kRf (eB i) (.mu 4 (.ca (cfA (fun h => by rw [sv g e (aF n h)]) cf0) (.mu 4 (.pure (v := aB true) kRf (eB m) (.mu 4 (.ca (cfA (fun h => by rw [sv l e (aF n h)]) (cfA (fun h => by rw [sv l g (aF n h)]) cf0)) (.mu 13 (.done (.ret ?_)))))))))))))))
      obtain rfl := oi hr
      exact aL.r1 [aB true]
     subst N
     replace hr := cJ rfl hr
     rcases bT ((X : Int) == 0) with w | w
     ·replace hr := cI w hr
      obtain ⟨p7, H, hr⟩ := bd hr
      refine .gn G (ca1 (ok0 (av n a b c false e)) (ca1 (ok0 (av n a b d false g)) (ca1 (ok0 (av n c d a false l)) (ca3 (ok0 (av n c d b p7 H)))))) (.mu 1 (.p0 (v := aB true) (eB f) (.mu 4 (.ca cf0 (.mu 3 (.pure (v := aB true) kRf (eB i) (.mu 4 (.ca (cfA (fun h => by rw [sv g e (aF n h)]) cf0) (.mu 4 (.pure (v := aB true) kRf (eB m) (.mu 4 (.ca (cfA (fun h => by rw [sv l e (aF n h)]) (cfA (fun h => by rw [sv l g (aF n h)]) cf0)) (.mu 4 (.pure (v := aB true) kRf (eB w) (.mu 4 (.ca (cfA (fun h => by rw [sv H e (aF n h)]) (cfA (fun h => by rw [sv H g (aF n h)]) (cfA (fun h => by rw [sv H l (aF n h)]) cf0))) (.mu 3 (.done (.ret ?_)))))))))))))))))))
      obtain rfl := oi hr
      exact aL.r1 [aB p7]
     replace hr := cJ w hr
     refine .gn G (ca1 (ok0 (av n a b c false e)) (ca1 (ok0 (av n a b d false g)) (ca3 (ok0 (av n c d a false l))))) (.mu 1 (.p0 (v := aB true) (eB f) (.mu 4 (.ca cf0 (.mu 3 (.pure (v := aB true) kRf (eB i) (.mu 4 (.ca (cfA (fun h => by rw [sv g e (aF n h)]) cf0) (.mu 4 (.pure (v := aB true) kRf (eB m) (.mu 4 (.ca (cfA (fun h => by rw [sv l e (aF n h)]) (cfA (fun h => by rw [sv l g (aF n h)]) cf0)) (.mu 4 (.pure (v := aB false) kRf (eB w) (.mu 8 (.done (.ret ?_)))))))))))))))))
     obtain rfl := oi hr
     exact aL.r1 [aB false]
    replace hr := cJ m hr
    rcases bT ((X : Int) == 0) with y | y
    ·replace hr := cI y hr
     obtain ⟨sa, O, hr⟩ := bd hr
     refine .gn G (ca1 (ok0 (av n a b c false e)) (ca1 (ok0 (av n a b d false g)) (ca3 (ok0 (av n c d b sa O))))) (.mu 1 (.p0 (v := aB true) (eB f) (.mu 4 (.ca cf0 (.mu 3 (.pure (v := aB true) kRf (eB i) (.mu 4 (.ca (cfA (fun h => by rw [sv g e (aF n h)]) cf0) (.mu 4 (.pure (v := aB false) kRf (eB m) (.mu 9 (.pure (v := aB true) kRf (eB y) (.mu 4 (.ca (cfA (fun h => by rw [sv O e (aF n h)]) (cfA (fun h => by rw [sv O g (aF n h)]) cf0)) (.mu 3 (.done (.ret ?_)))))))))))))))))
     obtain rfl := oi hr
     exact aL.r1 [aB sa]
    replace hr := cJ y hr
    refine .gn G (ca1 (ok0 (av n a b c false e)) (ca3 (ok0 (av n a b d false g)))) (.mu 1 (.p0 (v := aB true) (eB f) (.mu 4 (.ca cf0 (.mu 3 (.pure (v := aB true) kRf (eB i) (.mu 4 (.ca (cfA (fun h => by rw [sv g e (aF n h)]) cf0) (.mu 4 (.pure (v := aB false) kRf (eB m) (.mu 9 (.pure (v := aB false) kRf (eB y) (.mu 8 (.done (.ret ?_)))))))))))))))
    obtain rfl := oi hr
    exact aL.r1 [aB false]
   replace hr := cJ i hr
   rcases bT ((v5 : Int) == 0) with o | o
   ·replace hr := cI o hr
    obtain ⟨uG, t, hr⟩ := bd hr
    rcases bT uG with R | R
    ·subst R
     replace hr := cI rfl hr
     refine .gn G (ca1 (ok0 (av n a b c false e)) (ca3 (ok0 (av n c d a true t)))) (.mu 1 (.p0 (v := aB true) (eB f) (.mu 4 (.ca cf0 (.mu 3 (.pure (v := aB false) kRf (eB i) (.mu 9 (.pure (v := aB true) kRf (eB o) (.mu 4 (.ca (cfA (fun h => by rw [sv t e (aF n h)]) cf0) (.mu 13 (.done (.ret ?_)))))))))))))
     obtain rfl := oi hr
     exact aL.r1 [aB true]
    subst R
    replace hr := cJ rfl hr
    rcases bT ((X : Int) == 0) with z | z
    ·replace hr := cI z hr
     obtain ⟨rf, S, hr⟩ := bd hr
     refine .gn G (ca1 (ok0 (av n a b c false e)) (ca1 (ok0 (av n c d a false t)) (ca3 (ok0 (av n c d b rf S))))) (.mu 1 (.p0 (v := aB true) (eB f) (.mu 4 (.ca cf0 (.mu 3 (.pure (v := aB false) kRf (eB i) (.mu 9 (.pure (v := aB true) kRf (eB o) (.mu 4 (.ca (cfA (fun h => by rw [sv t e (aF n h)]) cf0) (.mu 4 (.pure (v := aB true) kRf (eB z) (.mu 4 (.ca (cfA (fun h => by rw [sv S e (aF n h)]) (cfA (fun h => by rw [sv S t (aF n h)]) cf0)) (.mu 3 (.done (.ret ?_)))))))))))))))))
     obtain rfl := oi hr
     exact aL.r1 [aB rf]
    replace hr := cJ z hr
    refine .gn G (ca1 (ok0 (av n a b c false e)) (ca3 (ok0 (av n c d a false t)))) (.mu 1 (.p0 (v := aB true) (eB f) (.mu 4 (.ca cf0 (.mu 3 (.pure (v := aB false) kRf (eB i) (.mu 9 (.pure (v := aB true) kRf (eB o) (.mu 4 (.ca (cfA (fun h => by rw [sv t e (aF n h)]) cf0) (.mu 4 (.pure (v := aB false) kRf (eB z) (.mu 8 (.done (.ret ?_)))))))))))))))
    obtain rfl := oi hr
    exact aL.r1 [aB false]
   replace hr := cJ o hr
   rcases bT ((X : Int) == 0) with A | A
   ·replace hr := cI A hr
    obtain ⟨tV, mA, hr⟩ := bd hr
    refine .gn G (ca1 (ok0 (av n a b c false e)) (ca3 (ok0 (av n c d b tV mA)))) (.mu 1 (.p0 (v := aB true) (eB f) (.mu 4 (.ca cf0 (.mu 3 (.pure (v := aB false) kRf (eB i) (.mu 9 (.pure (v := aB false) kRf (eB o) (.mu 9 (.pure (v := aB true) kRf (eB A) (.mu 4 (.ca (cfA (fun h => by rw [sv mA e (aF n h)]) cf0) (.mu 3 (.done (.ret ?_)))))))))))))))
    obtain rfl := oi hr
    exact aL.r1 [aB tV]
   replace hr := cJ A hr
   refine .g1 G (ok0 (av n a b c false e)) (.mu 1 (.p0 (v := aB true) (eB f) (.mu 4 (.ca cf0 (.mu 3 (.pure (v := aB false) kRf (eB i) (.mu 9 (.pure (v := aB false) kRf (eB o) (.mu 9 (.pure (v := aB false) kRf (eB A) (.mu 8 (.done (.ret ?_)))))))))))))
   obtain rfl := oi hr
   exact aL.r1 [aB false]
  replace hr := cJ f hr
  rcases bT ((v3 : Int) == 0) with j | j
  ·replace hr := cI j hr
   obtain ⟨wj, k, hr⟩ := bd hr
   rcases bT wj with T | T
   ·subst T
    replace hr := cI rfl hr
    refine .g1 G (ok0 (av n a b d true k)) (.mu 1 (.p0 (v := aB false) (eB f) (.mu 8 (.pure (v := aB true) kRf (eB j) (.mu 4 (.ca cf0 (.mu 23 (.done (.ret ?_)))))))))
    obtain rfl := oi hr
    exact aL.r1 [aB true]
   subst T
   replace hr := cJ rfl hr
   rcases bT ((v5 : Int) == 0) with p | p
   ·replace hr := cI p hr
    obtain ⟨vZ, u, hr⟩ := bd hr
    rcases bT vZ with U | U
    ·subst U
     replace hr := cI rfl hr
     refine .gn G (ca1 (ok0 (av n a b d false k)) (ca3 (ok0 (av n c d a true u)))) (.mu 1 (.p0 (v := aB false) (eB f) (.mu 8 (.pure (v := aB true) kRf (eB j) (.mu 4 (.ca cf0 (.mu 4 (.pure (v := aB true) kRf (eB p) (.mu 4 (.ca (cfA (fun h => by rw [sv u k (aF n h)]) cf0) (.mu 13 (.done (.ret ?_)))))))))))))
     obtain rfl := oi hr
     exact aL.r1 [aB true]
    subst U
    replace hr := cJ rfl hr
    rcases bT ((X : Int) == 0) with B | B
    ·replace hr := cI B hr
     obtain ⟨ot, V, hr⟩ := bd hr
     refine .gn G (ca1 (ok0 (av n a b d false k)) (ca1 (ok0 (av n c d a false u)) (ca3 (ok0 (av n c d b ot V))))) (.mu 1 (.p0 (v := aB false) (eB f) (.mu 8 (.pure (v := aB true) kRf (eB j) (.mu 4 (.ca cf0 (.mu 4 (.pure (v := aB true) kRf (eB p) (.mu 4 (.ca (cfA (fun h => by rw [sv u k (aF n h)]) cf0) (.mu 4 (.pure (v := aB true) kRf (eB B) (.mu 4 (.ca (cfA (fun h => by rw [sv V k (aF n h)]) (cfA (fun h => by rw [sv V u (aF n h)]) cf0)) (.mu 3 (.done (.ret ?_)))))))))))))))))
     obtain rfl := oi hr
     exact aL.r1 [aB ot]
    replace hr := cJ B hr
    refine .gn G (ca1 (ok0 (av n a b d false k)) (ca3 (ok0 (av n c d a false u)))) (.mu 1 (.p0 (v := aB false) (eB f) (.mu 8 (.pure (v := aB true) kRf (eB j) (.mu 4 (.ca cf0 (.mu 4 (.pure (v := aB true) kRf (eB p) (.mu 4 (.ca (cfA (fun h => by rw [sv u k (aF n h)]) cf0) (.mu 4 (.pure (v := aB false) kRf (eB B) (.mu 8 (.done (.ret ?_)))))))))))))))
    obtain rfl := oi hr
    exact aL.r1 [aB false]
   replace hr := cJ p hr
   rcases bT ((X : Int) == 0) with C | C
   ·replace hr := cI C hr
    obtain ⟨pQ, nI, hr⟩ := bd hr
    refine .gn G (ca1 (ok0 (av n a b d false k)) (ca3 (ok0 (av n c d b pQ nI)))) (.mu 1 (.p0 (v := aB false) (eB f) (.mu 8 (.pure (v := aB true) kRf (eB j) (.mu 4 (.ca cf0 (.mu 4 (.pure (v := aB false) kRf (eB p) (.mu 9 (.pure (v := aB true) kRf (eB C) (.mu 4 (.ca (cfA (fun h => by rw [sv nI k (aF n h)]) cf0) (.mu 3 (.done (.ret ?_)))))))))))))))
    obtain rfl := oi hr
    exact aL.r1 [aB pQ]
   replace hr := cJ C hr
   refine .g1 G (ok0 (av n a b d false k)) (.mu 1 (.p0 (v := aB false) (eB f) (.mu 8 (.pure (v := aB true) kRf (eB j) (.mu 4 (.ca cf0 (.mu 4 (.pure (v := aB false) kRf (eB p) (.mu 9 (.pure (v := aB false) kRf (eB C) (.mu 8 (.done (.ret ?_)))))))))))))
   obtain rfl := oi hr
   exact aL.r1 [aB false]
  replace hr := cJ j hr
  rcases bT ((v5 : Int) == 0) with q | q
  ·replace hr := cI q hr
   obtain ⟨xd, I, hr⟩ := bd hr
   rcases bT xd with W | W
   ·subst W
    replace hr := cI rfl hr
    refine .g1 G (ok0 (av n c d a true I)) (.mu 1 (.p0 (v := aB false) (eB f) (.mu 8 (.pure (v := aB false) kRf (eB j) (.mu 9 (.pure (v := aB true) kRf (eB q) (.mu 4 (.ca cf0 (.mu 13 (.done (.ret ?_)))))))))))
    obtain rfl := oi hr
    exact aL.r1 [aB true]
   subst W
   replace hr := cJ rfl hr
   rcases bT ((X : Int) == 0) with D | D
   ·replace hr := cI D hr
    obtain ⟨pJ, pn, hr⟩ := bd hr
    refine .gn G (ca1 (ok0 (av n c d a false I)) (ca3 (ok0 (av n c d b pJ pn)))) (.mu 1 (.p0 (v := aB false) (eB f) (.mu 8 (.pure (v := aB false) kRf (eB j) (.mu 9 (.pure (v := aB true) kRf (eB q) (.mu 4 (.ca cf0 (.mu 4 (.pure (v := aB true) kRf (eB D) (.mu 4 (.ca (cfA (fun h => by rw [sv pn I (aF n h)]) cf0) (.mu 3 (.done (.ret ?_)))))))))))))))
    obtain rfl := oi hr
    exact aL.r1 [aB pJ]
   replace hr := cJ D hr
   refine .g1 G (ok0 (av n c d a false I)) (.mu 1 (.p0 (v := aB false) (eB f) (.mu 8 (.pure (v := aB false) kRf (eB j) (.mu 9 (.pure (v := aB true) kRf (eB q) (.mu 4 (.ca cf0 (.mu 4 (.pure (v := aB false) kRf (eB D) (.mu 8 (.done (.ret ?_)))))))))))))
   obtain rfl := oi hr
   exact aL.r1 [aB false]
  replace hr := cJ q hr
  rcases bT ((X : Int) == 0) with E | E
  ·replace hr := cI E hr
   obtain ⟨qD, rr, hr⟩ := bd hr
   refine .g1 G (ok0 (av n c d b qD rr)) (.mu 1 (.p0 (v := aB false) (eB f) (.mu 8 (.pure (v := aB false) kRf (eB j) (.mu 9 (.pure (v := aB false) kRf (eB q) (.mu 9 (.pure (v := aB true) kRf (eB E) (.mu 4 (.ca cf0 (.mu 3 (.done (.ret ?_)))))))))))))
   obtain rfl := oi hr
   exact aL.r1 [aB qD]
  replace hr := cJ E hr
  refine .r0 G (.mu 1 (.p0 (v := aB false) (eB f) (.mu 8 (.pure (v := aB false) kRf (eB j) (.mu 9 (.pure (v := aB false) kRf (eB q) (.mu 9 (.pure (v := aB false) kRf (eB E) (.mu 8 (.done (.ret ?_)))))))))))
  obtain rfl := oi hr
  exact aL.r1 [aB false]
 rintro x st' s
 clear F
 obtain ⟨rfl, s⟩ := s
 obtain rfl := oi hr
 exact jm _ s

theorem lM (n : Nat) (g : al) (levels : A2 Int) (r : Bool) (hr : df n g levels = some r) : aN Tryz.prog 7 [.agg (al.c g), .agg (ag.c levels)] (aB r) := by
 unfold df at hr
 refine aN.bd G Tryz.func7 [.tmp 4] ?_
 unfold Tryz.f7
 simp only [gS]
 refine .seq (.r5 G [] [(2, .hp 0 0), (3, .hp 1 0)] [.own (al.c g), .own (ag.c levels)] (.seq (.seq ?_)))
 obtain ⟨v1, Ho, hr⟩ := bd hr
 refine .g1 G (ok0 (pt n v1 Ho)) (.ca cf0 (.mu 1 (.done (.nh [2, 3, 23] [.own (al.c g), .own (ag.c levels)] ?_))))
 refine .cd hr ?_ ?_ <;> intro IB hr
 ·refine .seq (.ru G (.ret ?_))
  obtain rfl := oi hr
  exact aL.r1 [aB false]
 refine .skip (.seq (.seq ?_))
 obtain ⟨v4, yU, hr⟩ := bd hr
 rcases bT (!v4) with mA | mA
 ·replace hr := cI mA hr
  refine .g1 G (ok0 (jc n g 16 v4 yU)) (.mu 1 (.ca cf0 (.p0 (v := aB true) (eB mA) (.mu 14 (.done (.nh [2, 3, 40] [.own (al.c g), .own (ag.c levels)] (.cT kRf (.seq (.ru G (.ret ?_))))))))))
  obtain rfl := oi hr
  exact aL.r1 [aB true]
 replace hr := cJ mA hr
 obtain ⟨v7, Ac, hr⟩ := bd hr
 rcases bT ((v7 : Int) != 0) with nI | nI
 ·replace hr := cI nI hr
  refine .gn G (ca1 (ok0 (jc n g 16 v4 yU)) (ca3 (ok0 (gv n g levels.e0 v7 Ac)))) (.mu 1 (.ca cf0 (.p0 (v := aB false) (eB mA) (.mu 4 (.ca (cfF cf0) (.pure (v := aB true) kRf (eB nI) (.mu 8 (.done (.nh [2, 3, 40] [.own (al.c g), .own (ag.c levels)] (.cT kRf (.seq (.ru G (.ret ?_)))))))))))))
  obtain rfl := oi hr
  exact aL.r1 [aB true]
 replace hr := cJ nI hr
 obtain ⟨Hs, B7, hr⟩ := bd hr
 refine .gn G (ca1 (ok0 (jc n g 16 v4 yU)) (ca1 (ok0 (gv n g levels.e0 v7 Ac)) (ca3 (ok0 (gv n g levels.e1 Hs B7))))) (.mu 1 (.ca cf0 (.p0 (v := aB false) (eB mA) (.mu 4 (.ca (cfF cf0) (.pure (v := aB false) kRf (eB nI) (.mu 5 (.ca (cfF (cfA (fun h => by rw [sv B7 Ac (nU n h)]) cf0)) (.mu 2 (.done (.nh [2, 3, 40] [.own (al.c g), .own (ag.c levels)] ?_)))))))))))
 refine .cd hr ?_ ?_ <;> intro Il hr
 ·refine .seq (.ru G (.ret ?_))
  obtain rfl := oi hr
  exact aL.r1 [aB true]
 refine .skip (.seq (.r5 G [2, 3] [(5, .hp 2 0)] [.own (al.c g), .own (ag.c levels), .own [nS, nS]] (.seq (.seq (.r4 G [2, 3, 5] [(42, .agg (ag.c levels)), (43, aj 0)] (.block ?_))))))
 refine .F3 3 (UNR.one ?_)
 refine .seq (.r4 G [2, 3, 5, 42, 43] [(44, aB true)] (.seq (.cT kRf (.skip (.seq (.block (.seq (.r4 G [2, 3, 5, 42, 43] [(6, aj 0), (7, aj levels.e0)] (.seq ?_)))))))))
 obtain ⟨p, Hq, hr⟩ := bd hr
 refine .g1 G (ok0 (ou n g levels.e0 p Hq)) (.mu 2 (.ca cf0 (.mu 5 (.done (.nh [2, 3, 5, 6, 8, 9, 42, 43] [.own (al.c g), .own (ag.c levels), .own [nS, nS]] (.seq (.seq (.r4 G [2, 3, 5, 6, 8, 42, 43] [(54, aB ((p.2 : Int) != 0))] ?_))))))))
 refine .cd hr ?_ ?_ <;> intro Ik hr
 ·refine .seq (.ru G (.ret (unF.ret ?_)))
  obtain rfl := oi hr
  exact aL.r1 [aB false]
 refine .skip (.seq (.r4 G [2, 3, 5, 6, 42, 43] [(55, slT ak.c p.1), (56, aj (p.1.length : Int)), (57, aj 0)] (.block ?_)))
 replace hr := bd hr; obtain ⟨Cj, T, hr⟩ := hr
 refine .aP (σ := fun z0 => match z0 with | (J, f) => ⟨mkS 180 0 [(2, .hp 0 0), (3, .hp 1 0), (5, .hp 2 0), (6, aj 0), (42, .agg (ag.c levels)), (43, aj 0), (55, slT ak.c p.1), (56, aj (p.1.length : Int)), (57, aj f)], [.own (al.c g), .own (ag.c levels), .own [.hs 3 0 J.length 20, nS], .own (J.flatMap ae.c)]⟩) (Q := fun x st' => match (generalizing := false) Cj with | .inl d => x = .exit 2 /\ Wk 0 st' ⟨mkS 180 0 [(2, .hp 0 0), (3, .hp 1 0), (5, .hp 2 0), (42, .agg (ag.c levels)), (43, aj 0)], [.own (al.c g), .own (ag.c levels), .own [.hs 3 0 d.length 20, nS], .own (d.flatMap ae.c)]⟩ | .inr (r0) => x = .ret /\ aL Tryz.prog [.tmp 4] (aB r0) .ret st') T ((Wk.uV 2 0 20 (cs := [nS, nS]) kRf kRf).trans ((Wk.gc [2, 3, 5, 6, 42, 43, 55, 56, 57] [(0, true), (1, true), (2, true), (3, false)] rfl (pKt (pKt (pKt (pKc trivial))))).to)) ?_ ?_
 ·clear hr
  rintro m ⟨J, f⟩ hr
  refine CQ.sh ?_
  refine .seq (.r4 G [2, 3, 5, 6, 42, 43, 55, 56, 57] [(58, aB (decide (f < (p.1.length : Int))))] (.seq ?_))
  refine .cd hr ?_ ?_ <;> intro Iy hr
  ·refine .skip (.seq (.block (.seq ?_)))
   obtain ⟨B9, hr⟩ := gd hr
   refine .r0 G (.p0 (v := .pp (p.1.flatMap ak.c) (f.toNat * 2)) (tr (aw B9)) (.p0 (v := .agg (ak.c (gt p.1 f))) (tr (y := bs.ofP (eA (decide (2 <= ((p.1.flatMap ak.c).drop (f.toNat * 2)).length)) (.agg (((p.1.flatMap ak.c).drop (f.toNat * 2)).take 2)))) (ch ak.len (aI B9) (by decide) (by omega : f.toNat * 2 = f.toNat * 2 + 0) kRf)) (.mu 2 (.done (.nh [2, 3, 5, 6, 11, 42, 43, 55, 56, 57] [.own (al.c g), .own (ag.c levels), .own [.hs 3 0 J.length 20, nS], .own (J.flatMap ae.c), .own (ak.c (gt p.1 f))] (.seq ?_))))))
   obtain ⟨q, G1, hr⟩ := bd hr
   refine .g1 G (ok0 (jS n g (gt p.1 f) q G1)) (.mu 2 (.ca cf0 (.mu 5 (.done (.nh [2, 3, 5, 6, 11, 12, 13, 42, 43, 55, 56, 57] [.own (al.c g), .own (ag.c levels), .own [.hs 3 0 J.length 20, nS], .own (J.flatMap ae.c), .own (ak.c (gt p.1 f))] (.seq (.seq (.r4 G [2, 3, 5, 6, 11, 12, 42, 43, 55, 56, 57] [(68, aB ((q.2 : Int) != 0))] ?_))))))))
   refine .cd hr ?_ ?_ <;> intro Ii hr
   ·refine .seq (.ru G (.ret ?_))
    obtain rfl := oi hr
    exact ⟨rfl, aL.ret (vs := [aB false]) kRf (Sn.pure rfl)⟩
   refine .skip (.seq (.r4 G [2, 3, 5, 6, 11, 12, 42, 43, 55, 56, 57] [(70, aj (q.1.length : Int)), (71, aj 0)] (.block ?_)))
   replace hr := bd hr; obtain ⟨kV, pn, hr⟩ := hr
   refine .aP (σ := fun z0 => match z0 with | (z, i) => ⟨mkS 180 0 [(2, .hp 0 0), (3, .hp 1 0), (5, .hp 2 0), (6, aj 0), (11, .hp 4 0), (12, slT ar.c q.1), (42, .agg (ag.c levels)), (43, aj 0), (55, slT ak.c p.1), (56, aj (p.1.length : Int)), (57, aj f), (70, aj (q.1.length : Int)), (71, aj i)], [.own (al.c g), .own (ag.c levels), .own [.hs 3 0 z.length 20, nS], .own (z.flatMap ae.c), .own (ak.c (gt p.1 f))]⟩) (Q := fun x st' => x = .exit 4 /\ Wk 0 st' ⟨mkS 180 0 [(2, .hp 0 0), (3, .hp 1 0), (5, .hp 2 0), (6, aj 0), (42, .agg (ag.c levels)), (43, aj 0), (55, slT ak.c p.1), (56, aj (p.1.length : Int)), (57, aj f)], [.own (al.c g), .own (ag.c levels), .own [.hs 3 0 kV.length 20, nS], .own (kV.flatMap ae.c)]⟩) pn ((Wk.gc [2, 3, 5, 6, 11, 12, 42, 43, 55, 56, 57, 70, 71] [(0, true), (1, true), (2, true), (3, false), (4, true)] rfl (pKt (pKt (pKt (pKo ae.c ae.pure J trivial))))).to) ?_ ?_
   ·clear hr
    rintro m ⟨z, i⟩ hr
    refine CQ.sh ?_
    refine .seq (.r4 G [2, 3, 5, 6, 11, 12, 42, 43, 55, 56, 57, 70, 71] [(72, aB (decide (i < (q.1.length : Int))))] (.seq ?_))
    refine .cd hr ?_ ?_ <;> intro IC hr
    ·refine .skip (.seq (.block (.seq (.r4 G [2, 3, 5, 6, 11, 12, 42, 43, 55, 56, 57, 70, 71] [(14, aj i)] (.seq ?_)))))
     obtain ⟨G2, hr⟩ := gd hr
     refine .r0 G (.mu 4 (.p0 (v := aj ((IE (i + 1)).tmod (q.1.length : Int))) (qw (x := IE (i + 1)) (y := (q.1.length : Int)) kRf kRf G2) (.mu 1 (.done (.nh [2, 3, 5, 6, 11, 12, 14, 15, 42, 43, 55, 56, 57, 70, 71] [.own (al.c g), .own (ag.c levels), .own [.hs 3 0 z.length 20, nS], .own (z.flatMap ae.c), .own (ak.c (gt p.1 f))] ?_)))))
     obtain ⟨s, Hi, hr⟩ := bd hr
     refine .wk ((Wk.refl _).to (c := ⟨mkS 180 0 [(2, .hp 0 0), (3, .hp 1 0), (5, .hp 2 0), (6, aj 0), (11, .hp 4 0), (12, slT ar.c q.1), (14, aj i), (15, aj s), (42, .agg (ag.c levels)), (43, aj 0), (55, slT ak.c p.1), (56, aj (p.1.length : Int)), (57, aj f), (70, aj (q.1.length : Int)), (71, aj i)], [.own (al.c g), .own (ag.c levels), .own [.hs 3 0 z.length 20, nS], .own (z.flatMap ae.c), .own (ak.c (gt p.1 f))]⟩) (by rw [oi Hi]; first | done | kernel_rfl)) <| .seq ?_
     rcases bT (decide (s > 0)) with S | S
     ·replace hr := cI S hr
      refine .r0 G (.mu 1 (.p0 (v := aB true) (eB S) (.mu 4 (.done (.nh [2, 3, 5, 6, 11, 12, 14, 15, 42, 43, 55, 56, 57, 70, 71, 84] [.own (al.c g), .own (ag.c levels), .own [.hs 3 0 z.length 20, nS], .own (z.flatMap ae.c), .own (ak.c (gt p.1 f))] (.cT kRf (.seq ?_)))))))
      obtain ⟨qz, p7, hr⟩ := gd2 hr
      refine .dM G bz (.mu 3 (.pk (v := .pp ((gt p.1 f).Points.flatMap an.c) (i.toNat * 6)) (tr (aw qz)) (.pk (v := .agg (an.c (gt (gt p.1 f).Points i))) (tr (y := bs.ofP (eA (decide (6 <= (((gt p.1 f).Points.flatMap an.c).drop (i.toNat * 6)).length)) (.agg ((((gt p.1 f).Points.flatMap an.c).drop (i.toNat * 6)).take 6)))) (ch an.len (aI qz) (by decide) (by omega : i.toNat * 6 = i.toNat * 6 + 0) kRf)) (.mu 3 (.pk (v := .pp ((gt p.1 f).Points.flatMap an.c) (s.toNat * 6)) (tr (aw p7)) (.pk (v := .agg (an.c (gt (gt p.1 f).Points s))) (tr (y := bs.ofP (eA (decide (6 <= (((gt p.1 f).Points.flatMap an.c).drop (s.toNat * 6)).length)) (.agg ((((gt p.1 f).Points.flatMap an.c).drop (s.toNat * 6)).take 6)))) (ch an.len (aI p7) (by decide) (by omega : s.toNat * 6 = s.toNat * 6 + 0) kRf)) (.mu 4 ?_)))))))
      refine .done (kRa ?_)
      refine .nh [2, 3, 5, 6, 11, 12, 14, 15, 16, 17, 42, 43, 55, 56, 57, 70, 71] [.own (al.c g), .own (ag.c levels), .own [.hs 3 0 z.length 20, nS], .own (z.flatMap ae.c), .own (ak.c (gt p.1 f)), .own (an.c (gt (gt p.1 f).Points i)), .own (an.c (gt (gt p.1 f).Points s))] ?_
      obtain ⟨sa, rf, Dm, hr⟩ := gd3 hr
      obtain ⟨FV, hr⟩ := gd hr
      refine .dM G bz (.mu 6 (.pk (v := .pp (q.1.flatMap ar.c) (i.toNat * 8)) (tr (aw sa)) (.pk (v := .agg (ar.c (gt q.1 i))) (tr (y := bs.ofP (eA (decide (8 <= ((q.1.flatMap ar.c).drop (i.toNat * 8)).length)) (.agg (((q.1.flatMap ar.c).drop (i.toNat * 8)).take 8)))) (ch ar.len (aI sa) (by decide) (by omega : i.toNat * 8 = i.toNat * 8 + 0) kRf)) (.mu 2 (.pk (v := .pp (q.1.flatMap ar.c) (s.toNat * 8)) (tr (aw rf)) (.pk (v := .agg (ar.c (gt q.1 s))) (tr (y := bs.ofP (eA (decide (8 <= ((q.1.flatMap ar.c).drop (s.toNat * 8)).length)) (.agg (((q.1.flatMap ar.c).drop (s.toNat * 8)).take 8)))) (ch ar.len (aI rf) (by decide) (by omega : s.toNat * 8 = s.toNat * 8 + 0) kRf)) (.mu 13 (.ek (v := .hs 8 0 (z ++ [ae.mk (gt q.1 i) (gt q.1 s) (A2.mk (A2.mk (gt (gt p.1 f).Points i).A (gt (gt p.1 f).Points i).B) (A2.mk (gt (gt p.1 f).Points s).A (gt (gt p.1 f).Points s).B))]).length 20) (ws := [(3, .dead), (8, .own ((z ++ [ae.mk (gt q.1 i) (gt q.1 s) (A2.mk (A2.mk (gt (gt p.1 f).Points i).A (gt (gt p.1 f).Points i).B) (A2.mk (gt (gt p.1 f).Points s).A (gt (gt p.1 f).Points s).B))]).flatMap ae.c))]) (tr (dN (new := [aB (gt q.1 i).X.Num.Negative, aO (gt q.1 i).X.Num.Groups, aB (gt q.1 i).X.Den.Negative, aO (gt q.1 i).X.Den.Groups, aB (gt q.1 i).Y.Num.Negative, aO (gt q.1 i).Y.Num.Groups, aB (gt q.1 i).Y.Den.Negative, aO (gt q.1 i).Y.Den.Groups, aB (gt q.1 s).X.Num.Negative, aO (gt q.1 s).X.Num.Groups, aB (gt q.1 s).X.Den.Negative, aO (gt q.1 s).X.Den.Groups, aB (gt q.1 s).Y.Num.Negative, aO (gt q.1 s).Y.Num.Groups, aB (gt q.1 s).Y.Den.Negative, aO (gt q.1 s).Y.Den.Groups, aj (gt (gt p.1 f).Points i).A, aj (gt (gt p.1 f).Points i).B, aj (gt (gt p.1 f).Points s).A, aj (gt (gt p.1 f).Points s).B]) (l := z) (xs := [ae.mk (gt q.1 i) (gt q.1 s) (A2.mk (A2.mk (gt (gt p.1 f).Points i).A (gt (gt p.1 f).Points i).B) (A2.mk (gt (gt p.1 f).Points s).A (gt (gt p.1 f).Points s).B))]) ae.len rfl rfl kRf Dm FV)) (.mu 2 ?_)))))))))
      refine .done (kRa ?_)
      refine .pop (.ru G ?_)
      exact aE (z ++ [ae.mk (gt q.1 i) (gt q.1 s) (A2.mk (A2.mk (gt (gt p.1 f).Points i).A (gt (gt p.1 f).Points i).B) (A2.mk (gt (gt p.1 f).Points s).A (gt (gt p.1 f).Points s).B))], IE (i + 1)) hr ((Wk.gc [2, 3, 5, 6, 11, 12, 42, 43, 55, 56, 57, 70, 71] [(0, true), (1, true), (2, true), (8, false), (4, true)] rfl (pKt (pKt (pKt (pKo ae.c ae.pure (z ++ [ae.mk (gt q.1 i) (gt q.1 s) (A2.mk (A2.mk (gt (gt p.1 f).Points i).A (gt (gt p.1 f).Points i).B) (A2.mk (gt (gt p.1 f).Points s).A (gt (gt p.1 f).Points s).B))]) trivial))))).to)
     replace hr := cJ S hr
     refine .r0 G (.mu 1 (.p0 (v := aB false) (eB S) (.mu 4 (.done (.nh [2, 3, 5, 6, 11, 12, 14, 15, 42, 43, 55, 56, 57, 70, 71, 84] [.own (al.c g), .own (ag.c levels), .own [.hs 3 0 z.length 20, nS], .own (z.flatMap ae.c), .own (ak.c (gt p.1 f))] ?_)))))
     refine .cd hr ?_ ?_ <;> intro It hr
     ·refine .seq ?_
      obtain ⟨tV, ot, hr⟩ := gd2 hr
      refine .dM G bz (.mu 3 (.pk (v := .pp ((gt p.1 f).Points.flatMap an.c) (i.toNat * 6)) (tr (aw tV)) (.pk (v := .agg (an.c (gt (gt p.1 f).Points i))) (tr (y := bs.ofP (eA (decide (6 <= (((gt p.1 f).Points.flatMap an.c).drop (i.toNat * 6)).length)) (.agg ((((gt p.1 f).Points.flatMap an.c).drop (i.toNat * 6)).take 6)))) (ch an.len (aI tV) (by decide) (by omega : i.toNat * 6 = i.toNat * 6 + 0) kRf)) (.mu 3 (.pk (v := .pp ((gt p.1 f).Points.flatMap an.c) (s.toNat * 6)) (tr (aw ot)) (.pk (v := .agg (an.c (gt (gt p.1 f).Points s))) (tr (y := bs.ofP (eA (decide (6 <= (((gt p.1 f).Points.flatMap an.c).drop (s.toNat * 6)).length)) (.agg ((((gt p.1 f).Points.flatMap an.c).drop (s.toNat * 6)).take 6)))) (ch an.len (aI ot) (by decide) (by omega : s.toNat * 6 = s.toNat * 6 + 0) kRf)) (.mu 4 ?_)))))))
      refine .done (kRa ?_)
      refine .nh [2, 3, 5, 6, 11, 12, 14, 15, 16, 17, 42, 43, 55, 56, 57, 70, 71] [.own (al.c g), .own (ag.c levels), .own [.hs 3 0 z.length 20, nS], .own (z.flatMap ae.c), .own (ak.c (gt p.1 f)), .own (an.c (gt (gt p.1 f).Points i)), .own (an.c (gt (gt p.1 f).Points s))] ?_
      obtain ⟨pQ, pJ, FJ, hr⟩ := gd3 hr
      obtain ⟨FU, hr⟩ := gd hr
      refine .dM G bz (.mu 6 (.pk (v := .pp (q.1.flatMap ar.c) (i.toNat * 8)) (tr (aw pQ)) (.pk (v := .agg (ar.c (gt q.1 i))) (tr (y := bs.ofP (eA (decide (8 <= ((q.1.flatMap ar.c).drop (i.toNat * 8)).length)) (.agg (((q.1.flatMap ar.c).drop (i.toNat * 8)).take 8)))) (ch ar.len (aI pQ) (by decide) (by omega : i.toNat * 8 = i.toNat * 8 + 0) kRf)) (.mu 2 (.pk (v := .pp (q.1.flatMap ar.c) (s.toNat * 8)) (tr (aw pJ)) (.pk (v := .agg (ar.c (gt q.1 s))) (tr (y := bs.ofP (eA (decide (8 <= ((q.1.flatMap ar.c).drop (s.toNat * 8)).length)) (.agg (((q.1.flatMap ar.c).drop (s.toNat * 8)).take 8)))) (ch ar.len (aI pJ) (by decide) (by omega : s.toNat * 8 = s.toNat * 8 + 0) kRf)) (.mu 13 (.ek (v := .hs 8 0 (z ++ [ae.mk (gt q.1 i) (gt q.1 s) (A2.mk (A2.mk (gt (gt p.1 f).Points i).A (gt (gt p.1 f).Points i).B) (A2.mk (gt (gt p.1 f).Points s).A (gt (gt p.1 f).Points s).B))]).length 20) (ws := [(3, .dead), (8, .own ((z ++ [ae.mk (gt q.1 i) (gt q.1 s) (A2.mk (A2.mk (gt (gt p.1 f).Points i).A (gt (gt p.1 f).Points i).B) (A2.mk (gt (gt p.1 f).Points s).A (gt (gt p.1 f).Points s).B))]).flatMap ae.c))]) (tr (dN (new := [aB (gt q.1 i).X.Num.Negative, aO (gt q.1 i).X.Num.Groups, aB (gt q.1 i).X.Den.Negative, aO (gt q.1 i).X.Den.Groups, aB (gt q.1 i).Y.Num.Negative, aO (gt q.1 i).Y.Num.Groups, aB (gt q.1 i).Y.Den.Negative, aO (gt q.1 i).Y.Den.Groups, aB (gt q.1 s).X.Num.Negative, aO (gt q.1 s).X.Num.Groups, aB (gt q.1 s).X.Den.Negative, aO (gt q.1 s).X.Den.Groups, aB (gt q.1 s).Y.Num.Negative, aO (gt q.1 s).Y.Num.Groups, aB (gt q.1 s).Y.Den.Negative, aO (gt q.1 s).Y.Den.Groups, aj (gt (gt p.1 f).Points i).A, aj (gt (gt p.1 f).Points i).B, aj (gt (gt p.1 f).Points s).A, aj (gt (gt p.1 f).Points s).B]) (l := z) (xs := [ae.mk (gt q.1 i) (gt q.1 s) (A2.mk (A2.mk (gt (gt p.1 f).Points i).A (gt (gt p.1 f).Points i).B) (A2.mk (gt (gt p.1 f).Points s).A (gt (gt p.1 f).Points s).B))]) ae.len rfl rfl kRf FJ FU)) (.mu 2 ?_)))))))))
      refine .done (kRa ?_)
      refine .pop (.ru G ?_)
      exact aE (z ++ [ae.mk (gt q.1 i) (gt q.1 s) (A2.mk (A2.mk (gt (gt p.1 f).Points i).A (gt (gt p.1 f).Points i).B) (A2.mk (gt (gt p.1 f).Points s).A (gt (gt p.1 f).Points s).B))], IE (i + 1)) hr ((Wk.gc [2, 3, 5, 6, 11, 12, 42, 43, 55, 56, 57, 70, 71] [(0, true), (1, true), (2, true), (8, false), (4, true)] rfl (pKt (pKt (pKt (pKo ae.c ae.pure (z ++ [ae.mk (gt q.1 i) (gt q.1 s) (A2.mk (A2.mk (gt (gt p.1 f).Points i).A (gt (gt p.1 f).Points i).B) (A2.mk (gt (gt p.1 f).Points s).A (gt (gt p.1 f).Points s).B))]) trivial))))).to)
     refine .skip (.pop (.ru G ?_))
     exact aE (z, IE (i + 1)) hr ((Wk.gc [2, 3, 5, 6, 11, 12, 42, 43, 55, 56, 57, 70, 71] [(0, true), (1, true), (2, true), (3, false), (4, true)] rfl (pKt (pKt (pKt (pKo ae.c ae.pure z trivial))))).to)
    refine .leave rfl ?_
    obtain rfl := oi hr
    exact ⟨rfl, ((Wk.gc [2, 3, 5, 6, 42, 43, 55, 56, 57] [(0, true), (1, true), (2, true), (3, false)] rfl (pKt (pKt (pKt (pKo ae.c ae.pure z trivial))))).to)⟩
   rintro x st' U
   clear pn
   obtain ⟨rfl, U⟩ := U
   refine bb _ rfl (.pop (.wk U (.ru G ?_)))
   exact aE (kV, IE (f + 1)) hr ((Wk.gc [2, 3, 5, 6, 42, 43, 55, 56, 57] [(0, true), (1, true), (2, true), (3, false)] rfl (pKt (pKt (pKt (pKo ae.c ae.pure kV trivial))))).to)
  refine .leave rfl ?_
  obtain rfl := oi hr
  exact ⟨rfl, ((Wk.gc [2, 3, 5, 42, 43] [(0, true), (1, true), (2, true), (3, false)] rfl (pKt (pKt (pKt (pKo ae.c ae.pure J trivial))))).to)⟩
 rcases Cj with d | r0
 ·rintro x st' D
  clear T
  obtain ⟨rfl, D⟩ := D
  refine bb _ rfl (.pop (.wk D (.ru G (UNR.next (.n2 180 [(2, .hp 0 0), (3, .hp 1 0), (5, .hp 2 0), (42, .agg (ag.c levels)), (43, aj 1)] [.own (al.c g), .own (ag.c levels), .own [.hs 3 0 d.length 20, nS], .own (d.flatMap ae.c)] (.seq (.r4 G [2, 3, 5, 42, 43] [(44, aB true)] (.seq (.cT kRf (.skip (.seq (.block (.seq (.r4 G [2, 3, 5, 42, 43] [(6, aj 1), (7, aj levels.e1)] (.seq ?_)))))))))))))))
  obtain ⟨e, FG, hr⟩ := bd hr
  refine .g1 G (ok0 (ou n g levels.e1 e FG)) (.mu 2 (.ca cf0 (.mu 5 (.done (.nh [2, 3, 5, 6, 8, 9, 42, 43] [.own (al.c g), .own (ag.c levels), .own [.hs 3 0 d.length 20, nS], .own (d.flatMap ae.c)] (.seq (.seq (.r4 G [2, 3, 5, 6, 8, 42, 43] [(54, aB ((e.2 : Int) != 0))] ?_))))))))
  refine .cd hr ?_ ?_ <;> intro Im hr
  ·refine .seq (.ru G (.ret (unF.ret ?_)))
   obtain rfl := oi hr
   exact aL.r1 [aB false]
  refine .skip (.seq (.r4 G [2, 3, 5, 6, 42, 43] [(55, slT ak.c e.1), (56, aj (e.1.length : Int)), (57, aj 0)] (.block ?_)))
  replace hr := bd hr; obtain ⟨Co, V, hr⟩ := hr
  refine .aP (σ := fun z0 => match z0 with | (C, a) => ⟨mkS 180 0 [(2, .hp 0 0), (3, .hp 1 0), (5, .hp 2 0), (6, aj 1), (42, .agg (ag.c levels)), (43, aj 1), (55, slT ak.c e.1), (56, aj (e.1.length : Int)), (57, aj a)], [.own (al.c g), .own (ag.c levels), .own [.hs 3 0 d.length 20, .hs 4 0 C.length 20], .own (d.flatMap ae.c), .own (C.flatMap ae.c)]⟩) (Q := fun x st' => match (generalizing := false) Co with | .inl o => x = .exit 2 /\ Wk 0 st' ⟨mkS 180 0 [(2, .hp 0 0), (3, .hp 1 0), (5, .hp 2 0), (42, .agg (ag.c levels)), (43, aj 1)], [.own (al.c g), .own (ag.c levels), .own [.hs 3 0 d.length 20, .hs 4 0 o.length 20], .own (d.flatMap ae.c), .own (o.flatMap ae.c)]⟩ | .inr (r0) => x = .ret /\ aL Tryz.prog [.tmp 4] (aB r0) .ret st') V ((Wk.uV 2 1 20 (cs := [.hs 3 0 d.length 20, nS]) kRf kRf).trans ((Wk.gc [2, 3, 5, 6, 42, 43, 55, 56, 57] [(0, true), (1, true), (2, true), (3, false), (4, false)] rfl (pKt (pKt (pKt (pKo ae.c ae.pure d (pKc trivial)))))).to)) ?_ ?_
  ·clear hr
   rintro m ⟨C, a⟩ hr
   refine CQ.sh ?_
   refine .seq (.r4 G [2, 3, 5, 6, 42, 43, 55, 56, 57] [(58, aB (decide (a < (e.1.length : Int))))] (.seq ?_))
   refine .cd hr ?_ ?_ <;> intro Iq hr
   ·refine .skip (.seq (.block (.seq ?_)))
    obtain ⟨qD, hr⟩ := gd hr
    refine .r0 G (.p0 (v := .pp (e.1.flatMap ak.c) (a.toNat * 2)) (tr (aw qD)) (.p0 (v := .agg (ak.c (gt e.1 a))) (tr (y := bs.ofP (eA (decide (2 <= ((e.1.flatMap ak.c).drop (a.toNat * 2)).length)) (.agg (((e.1.flatMap ak.c).drop (a.toNat * 2)).take 2)))) (ch ak.len (aI qD) (by decide) (by omega : a.toNat * 2 = a.toNat * 2 + 0) kRf)) (.mu 2 (.done (.nh [2, 3, 5, 6, 11, 42, 43, 55, 56, 57] [.own (al.c g), .own (ag.c levels), .own [.hs 3 0 d.length 20, .hs 4 0 C.length 20], .own (d.flatMap ae.c), .own (C.flatMap ae.c), .own (ak.c (gt e.1 a))] (.seq ?_))))))
    obtain ⟨j, FL, hr⟩ := bd hr
    refine .g1 G (ok0 (jS n g (gt e.1 a) j FL)) (.mu 2 (.ca cf0 (.mu 5 (.done (.nh [2, 3, 5, 6, 11, 12, 13, 42, 43, 55, 56, 57] [.own (al.c g), .own (ag.c levels), .own [.hs 3 0 d.length 20, .hs 4 0 C.length 20], .own (d.flatMap ae.c), .own (C.flatMap ae.c), .own (ak.c (gt e.1 a))] (.seq (.seq (.r4 G [2, 3, 5, 6, 11, 12, 42, 43, 55, 56, 57] [(68, aB ((j.2 : Int) != 0))] ?_))))))))
    refine .cd hr ?_ ?_ <;> intro IA hr
    ·refine .seq (.ru G (.ret ?_))
     obtain rfl := oi hr
     exact ⟨rfl, aL.ret (vs := [aB false]) kRf (Sn.pure rfl)⟩
    refine .skip (.seq (.r4 G [2, 3, 5, 6, 11, 12, 42, 43, 55, 56, 57] [(70, aj (j.1.length : Int)), (71, aj 0)] (.block ?_)))
    replace hr := bd hr; obtain ⟨R, rr, hr⟩ := hr
    refine .aP (σ := fun z0 => match z0 with | (u, b) => ⟨mkS 180 0 [(2, .hp 0 0), (3, .hp 1 0), (5, .hp 2 0), (6, aj 1), (11, .hp 5 0), (12, slT ar.c j.1), (42, .agg (ag.c levels)), (43, aj 1), (55, slT ak.c e.1), (56, aj (e.1.length : Int)), (57, aj a), (70, aj (j.1.length : Int)), (71, aj b)], [.own (al.c g), .own (ag.c levels), .own [.hs 3 0 d.length 20, .hs 4 0 u.length 20], .own (d.flatMap ae.c), .own (u.flatMap ae.c), .own (ak.c (gt e.1 a))]⟩) (Q := fun x st' => x = .exit 4 /\ Wk 0 st' ⟨mkS 180 0 [(2, .hp 0 0), (3, .hp 1 0), (5, .hp 2 0), (6, aj 1), (42, .agg (ag.c levels)), (43, aj 1), (55, slT ak.c e.1), (56, aj (e.1.length : Int)), (57, aj a)], [.own (al.c g), .own (ag.c levels), .own [.hs 3 0 d.length 20, .hs 4 0 R.length 20], .own (d.flatMap ae.c), .own (R.flatMap ae.c)]⟩) rr ((Wk.gc [2, 3, 5, 6, 11, 12, 42, 43, 55, 56, 57, 70, 71] [(0, true), (1, true), (2, true), (3, false), (4, false), (5, true)] rfl (pKt (pKt (pKt (pKo ae.c ae.pure d (pKo ae.c ae.pure C trivial)))))).to) ?_ ?_
    ·clear hr
     rintro m ⟨u, b⟩ hr
     refine CQ.sh ?_
     refine .seq (.r4 G [2, 3, 5, 6, 11, 12, 42, 43, 55, 56, 57, 70, 71] [(72, aB (decide (b < (j.1.length : Int))))] (.seq ?_))
     refine .cd hr ?_ ?_ <;> intro Ip hr
     ·refine .skip (.seq (.block (.seq (.r4 G [2, 3, 5, 6, 11, 12, 42, 43, 55, 56, 57, 70, 71] [(14, aj b)] (.seq ?_)))))
      obtain ⟨Fy, hr⟩ := gd hr
      refine .r0 G (.mu 4 (.p0 (v := aj ((IE (b + 1)).tmod (j.1.length : Int))) (qw (x := IE (b + 1)) (y := (j.1.length : Int)) kRf kRf Fy) (.mu 1 (.done (.nh [2, 3, 5, 6, 11, 12, 14, 15, 42, 43, 55, 56, 57, 70, 71] [.own (al.c g), .own (ag.c levels), .own [.hs 3 0 d.length 20, .hs 4 0 u.length 20], .own (d.flatMap ae.c), .own (u.flatMap ae.c), .own (ak.c (gt e.1 a))] ?_)))))
      obtain ⟨k, FY, hr⟩ := bd hr
      refine .wk ((Wk.refl _).to (c := ⟨mkS 180 0 [(2, .hp 0 0), (3, .hp 1 0), (5, .hp 2 0), (6, aj 1), (11, .hp 5 0), (12, slT ar.c j.1), (14, aj b), (15, aj k), (42, .agg (ag.c levels)), (43, aj 1), (55, slT ak.c e.1), (56, aj (e.1.length : Int)), (57, aj a), (70, aj (j.1.length : Int)), (71, aj b)], [.own (al.c g), .own (ag.c levels), .own [.hs 3 0 d.length 20, .hs 4 0 u.length 20], .own (d.flatMap ae.c), .own (u.flatMap ae.c), .own (ak.c (gt e.1 a))]⟩) (by rw [oi FY]; first | done | kernel_rfl)) <| .seq ?_
      rcases bT (decide (k > 0)) with N | N
      ·replace hr := cI N hr
       refine .r0 G (.mu 1 (.p0 (v := aB true) (eB N) (.mu 4 (.done (.nh [2, 3, 5, 6, 11, 12, 14, 15, 42, 43, 55, 56, 57, 70, 71, 84] [.own (al.c g), .own (ag.c levels), .own [.hs 3 0 d.length 20, .hs 4 0 u.length 20], .own (d.flatMap ae.c), .own (u.flatMap ae.c), .own (ak.c (gt e.1 a))] (.cT kRf (.seq ?_)))))))
       obtain ⟨s9, tf, hr⟩ := gd2 hr
       refine .dM G bz (.mu 3 (.pk (v := .pp ((gt e.1 a).Points.flatMap an.c) (b.toNat * 6)) (tr (aw s9)) (.pk (v := .agg (an.c (gt (gt e.1 a).Points b))) (tr (y := bs.ofP (eA (decide (6 <= (((gt e.1 a).Points.flatMap an.c).drop (b.toNat * 6)).length)) (.agg ((((gt e.1 a).Points.flatMap an.c).drop (b.toNat * 6)).take 6)))) (ch an.len (aI s9) (by decide) (by omega : b.toNat * 6 = b.toNat * 6 + 0) kRf)) (.mu 3 (.pk (v := .pp ((gt e.1 a).Points.flatMap an.c) (k.toNat * 6)) (tr (aw tf)) (.pk (v := .agg (an.c (gt (gt e.1 a).Points k))) (tr (y := bs.ofP (eA (decide (6 <= (((gt e.1 a).Points.flatMap an.c).drop (k.toNat * 6)).length)) (.agg ((((gt e.1 a).Points.flatMap an.c).drop (k.toNat * 6)).take 6)))) (ch an.len (aI tf) (by decide) (by omega : k.toNat * 6 = k.toNat * 6 + 0) kRf)) (.mu 4 ?_)))))))
       refine .done (kRa ?_)
       refine .nh [2, 3, 5, 6, 11, 12, 14, 15, 16, 17, 42, 43, 55, 56, 57, 70, 71] [.own (al.c g), .own (ag.c levels), .own [.hs 3 0 d.length 20, .hs 4 0 u.length 20], .own (d.flatMap ae.c), .own (u.flatMap ae.c), .own (ak.c (gt e.1 a)), .own (an.c (gt (gt e.1 a).Points b)), .own (an.c (gt (gt e.1 a).Points k))] ?_
       obtain ⟨uD, uG, FC, hr⟩ := gd3 hr
       obtain ⟨FO, hr⟩ := gd hr
       refine .dM G bz (.mu 6 (.pk (v := .pp (j.1.flatMap ar.c) (b.toNat * 8)) (tr (aw uD)) (.pk (v := .agg (ar.c (gt j.1 b))) (tr (y := bs.ofP (eA (decide (8 <= ((j.1.flatMap ar.c).drop (b.toNat * 8)).length)) (.agg (((j.1.flatMap ar.c).drop (b.toNat * 8)).take 8)))) (ch ar.len (aI uD) (by decide) (by omega : b.toNat * 8 = b.toNat * 8 + 0) kRf)) (.mu 2 (.pk (v := .pp (j.1.flatMap ar.c) (k.toNat * 8)) (tr (aw uG)) (.pk (v := .agg (ar.c (gt j.1 k))) (tr (y := bs.ofP (eA (decide (8 <= ((j.1.flatMap ar.c).drop (k.toNat * 8)).length)) (.agg (((j.1.flatMap ar.c).drop (k.toNat * 8)).take 8)))) (ch ar.len (aI uG) (by decide) (by omega : k.toNat * 8 = k.toNat * 8 + 0) kRf)) (.mu 13 (.ek (v := .hs 9 0 (u ++ [ae.mk (gt j.1 b) (gt j.1 k) (A2.mk (A2.mk (gt (gt e.1 a).Points b).A (gt (gt e.1 a).Points b).B) (A2.mk (gt (gt e.1 a).Points k).A (gt (gt e.1 a).Points k).B))]).length 20) (ws := [(4, .dead), (9, .own ((u ++ [ae.mk (gt j.1 b) (gt j.1 k) (A2.mk (A2.mk (gt (gt e.1 a).Points b).A (gt (gt e.1 a).Points b).B) (A2.mk (gt (gt e.1 a).Points k).A (gt (gt e.1 a).Points k).B))]).flatMap ae.c))]) (tr (dN (new := [aB (gt j.1 b).X.Num.Negative, aO (gt j.1 b).X.Num.Groups, aB (gt j.1 b).X.Den.Negative, aO (gt j.1 b).X.Den.Groups, aB (gt j.1 b).Y.Num.Negative, aO (gt j.1 b).Y.Num.Groups, aB (gt j.1 b).Y.Den.Negative, aO (gt j.1 b).Y.Den.Groups, aB (gt j.1 k).X.Num.Negative, aO (gt j.1 k).X.Num.Groups, aB (gt j.1 k).X.Den.Negative, aO (gt j.1 k).X.Den.Groups, aB (gt j.1 k).Y.Num.Negative, aO (gt j.1 k).Y.Num.Groups, aB (gt j.1 k).Y.Den.Negative, aO (gt j.1 k).Y.Den.Groups, aj (gt (gt e.1 a).Points b).A, aj (gt (gt e.1 a).Points b).B, aj (gt (gt e.1 a).Points k).A, aj (gt (gt e.1 a).Points k).B]) (l := u) (xs := [ae.mk (gt j.1 b) (gt j.1 k) (A2.mk (A2.mk (gt (gt e.1 a).Points b).A (gt (gt e.1 a).Points b).B) (A2.mk (gt (gt e.1 a).Points k).A (gt (gt e.1 a).Points k).B))]) ae.len rfl rfl kRf FC FO)) (.mu 2 ?_)))))))))
       refine .done (kRa ?_)
       refine .pop (.ru G ?_)
       exact aE (u ++ [ae.mk (gt j.1 b) (gt j.1 k) (A2.mk (A2.mk (gt (gt e.1 a).Points b).A (gt (gt e.1 a).Points b).B) (A2.mk (gt (gt e.1 a).Points k).A (gt (gt e.1 a).Points k).B))], IE (b + 1)) hr ((Wk.gc [2, 3, 5, 6, 11, 12, 42, 43, 55, 56, 57, 70, 71] [(0, true), (1, true), (2, true), (3, false), (9, false), (5, true)] rfl (pKt (pKt (pKt (pKo ae.c ae.pure d (pKo ae.c ae.pure (u ++ [ae.mk (gt j.1 b) (gt j.1 k) (A2.mk (A2.mk (gt (gt e.1 a).Points b).A (gt (gt e.1 a).Points b).B) (A2.mk (gt (gt e.1 a).Points k).A (gt (gt e.1 a).Points k).B))]) trivial)))))).to)
      replace hr := cJ N hr
      refine .r0 G (.mu 1 (.p0 (v := aB false) (eB N) (.mu 4 (.done (.nh [2, 3, 5, 6, 11, 12, 14, 15, 42, 43, 55, 56, 57, 70, 71, 84] [.own (al.c g), .own (ag.c levels), .own [.hs 3 0 d.length 20, .hs 4 0 u.length 20], .own (d.flatMap ae.c), .own (u.flatMap ae.c), .own (ak.c (gt e.1 a))] ?_)))))
      refine .cd hr ?_ ?_ <;> intro Iv hr
      ·refine .seq ?_
       obtain ⟨wj, vZ, hr⟩ := gd2 hr
       refine .dM G bz (.mu 3 (.pk (v := .pp ((gt e.1 a).Points.flatMap an.c) (b.toNat * 6)) (tr (aw wj)) (.pk (v := .agg (an.c (gt (gt e.1 a).Points b))) (tr (y := bs.ofP (eA (decide (6 <= (((gt e.1 a).Points.flatMap an.c).drop (b.toNat * 6)).length)) (.agg ((((gt e.1 a).Points.flatMap an.c).drop (b.toNat * 6)).take 6)))) (ch an.len (aI wj) (by decide) (by omega : b.toNat * 6 = b.toNat * 6 + 0) kRf)) (.mu 3 (.pk (v := .pp ((gt e.1 a).Points.flatMap an.c) (k.toNat * 6)) (tr (aw vZ)) (.pk (v := .agg (an.c (gt (gt e.1 a).Points k))) (tr (y := bs.ofP (eA (decide (6 <= (((gt e.1 a).Points.flatMap an.c).drop (k.toNat * 6)).length)) (.agg ((((gt e.1 a).Points.flatMap an.c).drop (k.toNat * 6)).take 6)))) (ch an.len (aI vZ) (by decide) (by omega : k.toNat * 6 = k.toNat * 6 + 0) kRf)) (.mu 4 ?_)))))))
       refine .done (kRa ?_)
       refine .nh [2, 3, 5, 6, 11, 12, 14, 15, 16, 17, 42, 43, 55, 56, 57, 70, 71] [.own (al.c g), .own (ag.c levels), .own [.hs 3 0 d.length 20, .hs 4 0 u.length 20], .own (d.flatMap ae.c), .own (u.flatMap ae.c), .own (ak.c (gt e.1 a)), .own (an.c (gt (gt e.1 a).Points b)), .own (an.c (gt (gt e.1 a).Points k))] ?_
       obtain ⟨xd, zC, FM, hr⟩ := gd3 hr
       obtain ⟨Hj, hr⟩ := gd hr
       refine .dM G bz (.mu 6 (.pk (v := .pp (j.1.flatMap ar.c) (b.toNat * 8)) (tr (aw xd)) (.pk (v := .agg (ar.c (gt j.1 b))) (tr (y := bs.ofP (eA (decide (8 <= ((j.1.flatMap ar.c).drop (b.toNat * 8)).length)) (.agg (((j.1.flatMap ar.c).drop (b.toNat * 8)).take 8)))) (ch ar.len (aI xd) (by decide) (by omega : b.toNat * 8 = b.toNat * 8 + 0) kRf)) (.mu 2 (.pk (v := .pp (j.1.flatMap ar.c) (k.toNat * 8)) (tr (aw zC)) (.pk (v := .agg (ar.c (gt j.1 k))) (tr (y := bs.ofP (eA (decide (8 <= ((j.1.flatMap ar.c).drop (k.toNat * 8)).length)) (.agg (((j.1.flatMap ar.c).drop (k.toNat * 8)).take 8)))) (ch ar.len (aI zC) (by decide) (by omega : k.toNat * 8 = k.toNat * 8 + 0) kRf)) (.mu 13 (.ek (v := .hs 9 0 (u ++ [ae.mk (gt j.1 b) (gt j.1 k) (A2.mk (A2.mk (gt (gt e.1 a).Points b).A (gt (gt e.1 a).Points b).B) (A2.mk (gt (gt e.1 a).Points k).A (gt (gt e.1 a).Points k).B))]).length 20) (ws := [(4, .dead), (9, .own ((u ++ [ae.mk (gt j.1 b) (gt j.1 k) (A2.mk (A2.mk (gt (gt e.1 a).Points b).A (gt (gt e.1 a).Points b).B) (A2.mk (gt (gt e.1 a).Points k).A (gt (gt e.1 a).Points k).B))]).flatMap ae.c))]) (tr (dN (new := [aB (gt j.1 b).X.Num.Negative, aO (gt j.1 b).X.Num.Groups, aB (gt j.1 b).X.Den.Negative, aO (gt j.1 b).X.Den.Groups, aB (gt j.1 b).Y.Num.Negative, aO (gt j.1 b).Y.Num.Groups, aB (gt j.1 b).Y.Den.Negative, aO (gt j.1 b).Y.Den.Groups, aB (gt j.1 k).X.Num.Negative, aO (gt j.1 k).X.Num.Groups, aB (gt j.1 k).X.Den.Negative, aO (gt j.1 k).X.Den.Groups, aB (gt j.1 k).Y.Num.Negative, aO (gt j.1 k).Y.Num.Groups, aB (gt j.1 k).Y.Den.Negative, aO (gt j.1 k).Y.Den.Groups, aj (gt (gt e.1 a).Points b).A, aj (gt (gt e.1 a).Points b).B, aj (gt (gt e.1 a).Points k).A, aj (gt (gt e.1 a).Points k).B]) (l := u) (xs := [ae.mk (gt j.1 b) (gt j.1 k) (A2.mk (A2.mk (gt (gt e.1 a).Points b).A (gt (gt e.1 a).Points b).B) (A2.mk (gt (gt e.1 a).Points k).A (gt (gt e.1 a).Points k).B))]) ae.len rfl rfl kRf FM Hj)) (.mu 2 ?_)))))))))
       refine .done (kRa ?_)
       refine .pop (.ru G ?_)
       exact aE (u ++ [ae.mk (gt j.1 b) (gt j.1 k) (A2.mk (A2.mk (gt (gt e.1 a).Points b).A (gt (gt e.1 a).Points b).B) (A2.mk (gt (gt e.1 a).Points k).A (gt (gt e.1 a).Points k).B))], IE (b + 1)) hr ((Wk.gc [2, 3, 5, 6, 11, 12, 42, 43, 55, 56, 57, 70, 71] [(0, true), (1, true), (2, true), (3, false), (9, false), (5, true)] rfl (pKt (pKt (pKt (pKo ae.c ae.pure d (pKo ae.c ae.pure (u ++ [ae.mk (gt j.1 b) (gt j.1 k) (A2.mk (A2.mk (gt (gt e.1 a).Points b).A (gt (gt e.1 a).Points b).B) (A2.mk (gt (gt e.1 a).Points k).A (gt (gt e.1 a).Points k).B))]) trivial)))))).to)
      refine .skip (.pop (.ru G ?_))
      exact aE (u, IE (b + 1)) hr ((Wk.gc [2, 3, 5, 6, 11, 12, 42, 43, 55, 56, 57, 70, 71] [(0, true), (1, true), (2, true), (3, false), (4, false), (5, true)] rfl (pKt (pKt (pKt (pKo ae.c ae.pure d (pKo ae.c ae.pure u trivial)))))).to)
     refine .leave rfl ?_
     obtain rfl := oi hr
     exact ⟨rfl, ((Wk.gc [2, 3, 5, 6, 42, 43, 55, 56, 57] [(0, true), (1, true), (2, true), (3, false), (4, false)] rfl (pKt (pKt (pKt (pKo ae.c ae.pure d (pKo ae.c ae.pure u trivial)))))).to)⟩
    rintro x st' W
    clear rr
    obtain ⟨rfl, W⟩ := W
    refine bb _ rfl (.pop (.wk W (.ru G ?_)))
    exact aE (R, IE (a + 1)) hr ((Wk.gc [2, 3, 5, 6, 42, 43, 55, 56, 57] [(0, true), (1, true), (2, true), (3, false), (4, false)] rfl (pKt (pKt (pKt (pKo ae.c ae.pure d (pKo ae.c ae.pure R trivial)))))).to)
   refine .leave rfl ?_
   obtain rfl := oi hr
   exact ⟨rfl, ((Wk.gc [2, 3, 5, 42, 43] [(0, true), (1, true), (2, true), (3, false), (4, false)] rfl (pKt (pKt (pKt (pKo ae.c ae.pure d (pKo ae.c ae.pure C trivial)))))).to)⟩
  rcases Co with o | r0
  ·rintro x st' E
   clear V
   obtain ⟨rfl, E⟩ := E
   refine bb _ rfl (.pop (.wk E (.ru G (UNR.next (.n2 180 [(2, .hp 0 0), (3, .hp 1 0), (5, .hp 2 0), (42, .agg (ag.c levels)), (43, aj 2)] [.own (al.c g), .own (ag.c levels), .own [.hs 3 0 d.length 20, .hs 4 0 o.length 20], .own (d.flatMap ae.c), .own (o.flatMap ae.c)] (.seq (.r4 G [2, 3, 5, 42, 43] [(44, aB false)] (.seq (.cF kRf (.leave rfl (unF.exit rfl (.seq (.seq (.r4 G [3, 5] [(126, .hs 3 0 d.length 20), (127, aj (d.length : Int)), (128, aj 0)] (.block ?_)))))))))))))))
   replace hr := bd hr; obtain ⟨Cg, Z, hr⟩ := hr
   refine .aP (σ := fun z0 => match z0 with | t => ⟨mkS 180 0 [(3, .hp 0 0), (5, .hp 1 0), (126, .hs 2 0 d.length 20), (127, aj (d.length : Int)), (128, aj t)], [.own (ag.c levels), .own [.hs 2 0 d.length 20, .hs 3 0 o.length 20], .own (d.flatMap ae.c), .own (o.flatMap ae.c)]⟩) (Q := fun x st' => match (generalizing := false) Cg with | .inl _ => x = .exit 6 /\ Wk 0 st' ⟨mkS 180 0 [], []⟩ | .inr (r0) => x = .ret /\ aL Tryz.prog [.tmp 4] (aB r0) .ret st') Z ((Wk.gc [3, 5, 126, 127, 128] [(1, true), (2, true), (3, false), (4, false)] rfl (pKt (pKt (pKo ae.c ae.pure d (pKo ae.c ae.pure o trivial))))).to) ?_ ?_
   ·clear hr
    rintro m t hr
    refine CQ.sh ?_
    refine .seq (.r4 G [3, 5, 126, 127, 128] [(129, aB (decide (t < (d.length : Int))))] (.seq ?_))
    refine .cd hr ?_ ?_ <;> intro Iz hr
    ·refine .skip (.seq (.block (.seq ?_)))
     obtain ⟨yY, hr⟩ := gd hr
     refine .r0 G (.mu 1 (.p0 (v := .hp 2 (0 + t.toNat * 20)) (tr (aw yY)) (.p0 (v := .agg (ae.c (gt d t))) (tr (y := bs.ofP (eA (decide (20 <= ((d.flatMap ae.c).drop (0 + t.toNat * 20)).length)) (.agg (((d.flatMap ae.c).drop (0 + t.toNat * 20)).take 20)))) (ch ae.len (aI yY) (by decide) (by omega : 0 + t.toNat * 20 = t.toNat * 20 + 0) kRf)) (.mu 3 (.done (.nh [3, 5, 18, 19, 126, 127, 128] [.own (ag.c levels), .own [.hs 2 0 d.length 20, .hs 3 0 o.length 20], .own (d.flatMap ae.c), .own (o.flatMap ae.c), .own (ae.c (gt d t))] (.seq (.r4 G [3, 5, 18, 19, 126, 127, 128] [(134, .hs 3 0 o.length 20), (135, aj (o.length : Int)), (136, aj 0)] (.block ?_)))))))))
     replace hr := bd hr; obtain ⟨Ca, lY, hr⟩ := hr
     refine .aP (σ := fun z0 => match z0 with | w => ⟨mkS 180 0 [(3, .hp 0 0), (5, .hp 1 0), (18, aj t), (19, .hp 4 0), (126, .hs 2 0 d.length 20), (127, aj (d.length : Int)), (128, aj t), (134, .hs 3 0 o.length 20), (135, aj (o.length : Int)), (136, aj w)], [.own (ag.c levels), .own [.hs 2 0 d.length 20, .hs 3 0 o.length 20], .own (d.flatMap ae.c), .own (o.flatMap ae.c), .own (ae.c (gt d t))]⟩) (Q := fun x st' => match (generalizing := false) Ca with | .inl _ => x = .exit 8 /\ Wk 0 st' ⟨mkS 180 0 [(3, .hp 0 0), (5, .hp 1 0), (126, .hs 2 0 d.length 20), (127, aj (d.length : Int)), (128, aj t)], [.own (ag.c levels), .own [.hs 2 0 d.length 20, .hs 3 0 o.length 20], .own (d.flatMap ae.c), .own (o.flatMap ae.c)]⟩ | .inr (r0) => x = .ret /\ aL Tryz.prog [.tmp 4] (aB r0) .ret st') lY ((Wk.gc [3, 5, 18, 19, 126, 127, 128, 134, 135, 136] [(0, true), (1, true), (2, false), (3, false), (4, true)] rfl (pKt (pKt (pKo ae.c ae.pure d (pKo ae.c ae.pure o trivial))))).to) ?_ ?_
     ·clear hr
      rintro m w hr
      refine CQ.sh ?_
      refine .seq (.r4 G [3, 5, 18, 19, 126, 127, 128, 134, 135, 136] [(137, aB (decide (w < (o.length : Int))))] (.seq ?_))
      refine .cd hr ?_ ?_ <;> intro Iw hr
      ·refine .skip (.seq (.block (.seq ?_)))
       obtain ⟨BF, hr⟩ := gd hr
       refine .r0 G (.mu 1 (.p0 (v := .hp 3 (0 + w.toNat * 20)) (tr (aw BF)) (.p0 (v := .agg (ae.c (gt o w))) (tr (y := bs.ofP (eA (decide (20 <= ((o.flatMap ae.c).drop (0 + w.toNat * 20)).length)) (.agg (((o.flatMap ae.c).drop (0 + w.toNat * 20)).take 20)))) (ch ae.len (aI BF) (by decide) (by omega : 0 + w.toNat * 20 = w.toNat * 20 + 0) kRf)) (.mu 3 (.done (.nh [3, 5, 18, 19, 20, 21, 126, 127, 128, 134, 135, 136] [.own (ag.c levels), .own [.hs 2 0 d.length 20, .hs 3 0 o.length 20], .own (d.flatMap ae.c), .own (o.flatMap ae.c), .own (ae.c (gt d t)), .own (ae.c (gt o w))] (.seq (.seq ?_))))))))
       rcases bT ((levels.e0 : Int) == levels.e1) with F | F
       ·replace hr := cI F hr
        rcases bT (decide (t >= w)) with M | M
        ·replace hr := cI M hr
         refine .r0 G (.mu 4 (.p0 (v := aB true) (eB F) (.mu 3 (.pure (v := aB true) kRf (eB M) (.mu 19 (.done (.nh [3, 5, 18, 19, 21, 126, 127, 128, 134, 135, 136, 168] [.own (ag.c levels), .own [.hs 2 0 d.length 20, .hs 3 0 o.length 20], .own (d.flatMap ae.c), .own (o.flatMap ae.c), .own (ae.c (gt d t)), .own (ae.c (gt o w))] (.cT kRf (.exit rfl (.ru G ?_))))))))))
         exact aE (IE (w + 1)) hr ((Wk.gc [3, 5, 18, 19, 126, 127, 128, 134, 135, 136] [(0, true), (1, true), (2, false), (3, false), (4, true)] rfl (pKt (pKt (pKo ae.c ae.pure d (pKo ae.c ae.pure o trivial))))).to)
        replace hr := cJ M hr
        rcases bT ((((gt d t).f_ends.e0.e0 : Int) == (gt o w).f_ends.e1.e0) && ((((gt d t).f_ends.e0.e1 : Int) == (gt o w).f_ends.e1.e1) && true)) with O | O
        ·replace hr := cI O hr
         refine .r0 G (.mu 4 (.p0 (v := aB true) (eB F) (.mu 3 (.pure (v := aB false) kRf (eB M) (.mu 7 (.pure (v := aB true) kRf (eB O) (.mu 11 (.done (.nh [3, 5, 18, 19, 21, 126, 127, 128, 134, 135, 136, 168] [.own (ag.c levels), .own [.hs 2 0 d.length 20, .hs 3 0 o.length 20], .own (d.flatMap ae.c), .own (o.flatMap ae.c), .own (ae.c (gt d t)), .own (ae.c (gt o w))] (.cT kRf (.exit rfl (.ru G ?_))))))))))))
         exact aE (IE (w + 1)) hr ((Wk.gc [3, 5, 18, 19, 126, 127, 128, 134, 135, 136] [(0, true), (1, true), (2, false), (3, false), (4, true)] rfl (pKt (pKt (pKo ae.c ae.pure d (pKo ae.c ae.pure o trivial))))).to)
        replace hr := cJ O hr
        refine .r0 G (.mu 4 (.p0 (v := aB true) (eB F) (.mu 3 (.pure (v := aB false) kRf (eB M) (.mu 7 (.pure (v := aB false) kRf (eB O) (.mu 11 (.done (.nh [3, 5, 18, 19, 21, 126, 127, 128, 134, 135, 136, 168] [.own (ag.c levels), .own [.hs 2 0 d.length 20, .hs 3 0 o.length 20], .own (d.flatMap ae.c), .own (o.flatMap ae.c), .own (ae.c (gt d t)), .own (ae.c (gt o w))] ?_)))))))))
        refine .cd hr ?_ ?_ <;> intro Is hr
        ·refine .exit rfl (.ru G ?_)
         exact aE (IE (w + 1)) hr ((Wk.gc [3, 5, 18, 19, 126, 127, 128, 134, 135, 136] [(0, true), (1, true), (2, false), (3, false), (4, true)] rfl (pKt (pKt (pKo ae.c ae.pure d (pKo ae.c ae.pure o trivial))))).to)
        refine .skip (.seq ?_)
        obtain ⟨HP, HF, hr⟩ := bd hr
        refine .g1 G (ok0 (kD n (gt d t).f_from (gt d t).f_to (gt o w).f_from (gt o w).f_to HP HF)) (.mu 8 (.ca cf0 (.done (.nh [3, 5, 18, 19, 126, 127, 128, 134, 135, 136, 177] [.own (ag.c levels), .own [.hs 2 0 d.length 20, .hs 3 0 o.length 20], .own (d.flatMap ae.c), .own (o.flatMap ae.c), .own (ae.c (gt d t)), .own (ae.c (gt o w))] ?_))))
        refine .cd hr ?_ ?_ <;> intro Ir hr
        ·refine .seq (.ru G (.ret ?_))
         obtain rfl := oi hr
         exact ⟨rfl, aL.ret (vs := [aB false]) kRf (Sn.pure rfl)⟩
        refine .skip (.pop (.ru G ?_))
        exact aE (IE (w + 1)) hr ((Wk.gc [3, 5, 18, 19, 126, 127, 128, 134, 135, 136] [(0, true), (1, true), (2, false), (3, false), (4, true)] rfl (pKt (pKt (pKo ae.c ae.pure d (pKo ae.c ae.pure o trivial))))).to)
       replace hr := cJ F hr
       refine .r0 G (.mu 4 (.p0 (v := aB false) (eB F) (.mu 23 (.done (.nh [3, 5, 18, 19, 21, 126, 127, 128, 134, 135, 136, 168] [.own (ag.c levels), .own [.hs 2 0 d.length 20, .hs 3 0 o.length 20], .own (d.flatMap ae.c), .own (o.flatMap ae.c), .own (ae.c (gt d t)), .own (ae.c (gt o w))] (.cF kRf (.skip (.seq ?_))))))))
       obtain ⟨Hz, HB, hr⟩ := bd hr
       refine .g1 G (ok0 (kD n (gt d t).f_from (gt d t).f_to (gt o w).f_from (gt o w).f_to Hz HB)) (.mu 8 (.ca cf0 (.done (.nh [3, 5, 18, 19, 126, 127, 128, 134, 135, 136, 177] [.own (ag.c levels), .own [.hs 2 0 d.length 20, .hs 3 0 o.length 20], .own (d.flatMap ae.c), .own (o.flatMap ae.c), .own (ae.c (gt d t)), .own (ae.c (gt o w))] ?_))))
       refine .cd hr ?_ ?_ <;> intro Ix hr
       ·refine .seq (.ru G (.ret ?_))
        obtain rfl := oi hr
        exact ⟨rfl, aL.ret (vs := [aB false]) kRf (Sn.pure rfl)⟩
       refine .skip (.pop (.ru G ?_))
       exact aE (IE (w + 1)) hr ((Wk.gc [3, 5, 18, 19, 126, 127, 128, 134, 135, 136] [(0, true), (1, true), (2, false), (3, false), (4, true)] rfl (pKt (pKt (pKo ae.c ae.pure d (pKo ae.c ae.pure o trivial))))).to)
      refine .leave rfl ?_
      obtain rfl := oi hr
      exact ⟨rfl, ((Wk.gc [3, 5, 126, 127, 128] [(0, true), (1, true), (2, false), (3, false)] rfl (pKt (pKt (pKo ae.c ae.pure d (pKo ae.c ae.pure o trivial))))).to)⟩
     rcases Ca with ⟨⟩ | r0
     ·rintro x st' H
      clear lY
      obtain ⟨rfl, H⟩ := H
      refine bb _ rfl (.pop (.wk H (.ru G ?_)))
      exact aE (IE (t + 1)) hr ((Wk.gc [3, 5, 126, 127, 128] [(0, true), (1, true), (2, false), (3, false)] rfl (pKt (pKt (pKo ae.c ae.pure d (pKo ae.c ae.pure o trivial))))).to)
     rintro x st' H
     clear lY
     obtain ⟨rfl, H⟩ := H
     obtain rfl := oi hr
     exact jm _ ⟨rfl, H⟩
    refine .leave rfl ?_
    obtain rfl := oi hr
    exact ⟨rfl, ((Wk.gc [] [] rfl pK0).to)⟩
   rcases Cg with ⟨⟩ | r0
   ·rintro x st' I
    clear Z
    obtain ⟨rfl, I⟩ := I
    refine bb _ rfl (.wk I (.seq (.ru G (.ret ?_))))
    obtain rfl := oi hr
    exact aL.r1 [aB true]
   rintro x st' I
   clear Z
   obtain ⟨rfl, I⟩ := I
   obtain rfl := oi hr
   exact jm _ I
  rintro x st' E
  clear V
  obtain ⟨rfl, E⟩ := E
  obtain rfl := oi hr
  exact jm _ (unF.ret E)
 rintro x st' D
 clear T
 obtain ⟨rfl, D⟩ := D
 obtain rfl := oi hr
 exact jm _ (unF.ret D)
end Go.L
