
import Derived.Test.YtlpfiiejhikalaaGreatTrkLP2
import Derived.Test.YtlpfiiejhikalaaGreatL0Trks
import Derived.Test.YtlpfiiejhikalaaGreatSeqTrks
import Derived.Test.YtlpfiiejhikalaaGreatSortMTrks
import Derived.Test.YtlpfiiejhikalaaGreatSortTTrks
import Derived.Test.YtlpfiiejhikalaaGreatChecked
import Derived.KernelRfl
set_option linter.all false
set_option maxRecDepth 100000
set_option maxHeartbeats 4000000
namespace Go.L
open Go Go.Eng Go.Proofs
theorem iR (n : Nat) (width : Int) (height : Int) (most : Int) (c : Int) (A : Int) (k : Int) (f : List Int) (b : Int) (a : Int) (r : ak) (hr : c9 n width height most c A k f b a = some r) : bo Tryz.prog 28 [ag width, ag height, ag most, .fn 29 [] [.pp [ag c, ag A, ag k, gj f] 0, .pp [ag b] 0, .pp [ag a] 0]] (.agg (ak.c r)) := by
 unfold c9 at hr
 refine bo.bd G Tryz.func28 [.cell 8 24] ?_
 unfold Tryz.f28
 simp only [gS]
 refine .seq (.r5 G [0, 1, 2, 3] [(8, .hp 0 0)] [.own [ag 0, ag 0, ag 0, nS]] (.seq ?_))
 obtain ⟨E, F, H, hr⟩ := gd3 hr
 refine .r0 G (.mu 6 (.e0 (v := .hs 1 0 0 1) (ws := [(1, .own ((List.replicate (Ew (width * height)).toNat (0 : Int)).flatMap (iC .i64)))]) (tr (y := jW (decide ((0 : Int) <= 0) && decide (0 <= (Ew (width * height))) && decide ((8 : Int) * (Ew (width * height)) <= 281474976710656) && decide ((Ew (width * height)) <= 9223372036854775807) && true && true && true) (some (.eff (.hs 1 0 0 1) [(1, .own (cN [ag 0] (Ew (width * height)).toNat))]))) (ye (d := (iC .i64)) (z := (0 : Int)) rfl E F H)) (.mu 3 (.done (.nh [0, 1, 3, 8, 9] [.own [ag 0, ag 0, ag 0, nS], .own ((List.replicate (Ew (width * height)).toNat (0 : Int)).flatMap (iC .i64)), .own [ag width, ag height, ag most, .hs 1 0 0 1]] (.wk ((Wk.DB (c := (iC .i64)) (es := 1) (cs := [ag width, ag height, ag most, .hs 1 0 0 1]) 2 3 1 (ay _) (List.replicate (Ew (width * height)).toNat (0 : Int)) 0 (Nat.zero_le _) (by decide) kRf kRf kRf).to (c := ⟨mkS 40 0 [(0, ag width), (1, ag height), (3, .fn 29 [] [.pp [ag c, ag A, ag k, gj f] 0, .pp [ag b] 0, .pp [ag a] 0]), (8, .hp 0 0), (9, .hp 2 0)], [.own [ag 0, ag 0, ag 0, nS], .own (((List.replicate (Ew (width * height)).toNat (0 : Int)).take 0).flatMap (iC .i64)), .own [ag width, ag height, ag most, .hs 1 0 ((List.replicate (Ew (width * height)).toNat (0 : Int)).take 0).length 1]]⟩) kRf) (.seq (.seq (.r4 G [0, 3, 8, 9] [(20, ag height), (21, ag 0)] (.block ?_))))))))))
 replace hr := bd hr; obtain ⟨g, u, hr⟩ := hr
 refine .aP (σ := fun I => match I with | (q, j) => ⟨mkS 40 0 [(0, ag width), (3, .fn 29 [] [.pp [ag c, ag A, ag k, gj f] 0, .pp [ag b] 0, .pp [ag a] 0]), (8, .hp 0 0), (9, .hp 1 0), (20, ag height), (21, ag j)], [.own [ag 0, ag 0, ag 0, nS], .own [ag width, ag height, ag most, .hs 2 0 q.length 1], .own (q.flatMap (iC .i64))]⟩) (Q := fun x st' => x = .exit 0 /\ Wk 0 st' ⟨mkS 40 0 [(8, .hp 0 0), (9, .hp 1 0)], [.own [ag 0, ag 0, ag 0, nS], .own [ag width, ag height, ag most, .hs 2 0 g.length 1], .own (g.flatMap (iC .i64))]⟩) u ((Wk.gc [0, 3, 8, 9, 20, 21] [(0, true), (2, true), (1, false)] rfl (pKt (pKt (pKo (iC .i64) (an _) ((List.replicate (Ew (width * height)).toNat (0 : Int)).take 0) trivial)))).to) ?_ ?_
 ·clear hr
  rintro m ⟨q, j⟩ hr
  refine CQ.sh ?_
  refine .seq (.r4 G [0, 3, 8, 9, 20, 21] [(22, aB (decide (j < height)))] (.seq ?_))
  refine .cd hr ?_ ?_ <;> intro J hr
  ·refine .skip (.seq (.block (.seq (.r4 G [0, 3, 8, 9, 20, 21] [(10, ag j)] (.seq (.r4 G [0, 3, 8, 9, 10, 20, 21] [(24, ag width), (25, ag 0)] (.block ?_)))))))
   replace hr := bd hr; obtain ⟨p, w, hr⟩ := hr
   refine .aP (σ := fun I => match I with | (e, i) => ⟨mkS 40 0 [(0, ag width), (3, .fn 29 [] [.pp [ag c, ag A, ag k, gj f] 0, .pp [ag b] 0, .pp [ag a] 0]), (8, .hp 0 0), (9, .hp 1 0), (10, ag j), (20, ag height), (21, ag j), (24, ag width), (25, ag i)], [.own [ag 0, ag 0, ag 0, nS], .own [ag width, ag height, ag most, .hs 2 0 e.length 1], .own (e.flatMap (iC .i64))]⟩) (Q := fun x st' => x = .exit 2 /\ Wk 0 st' ⟨mkS 40 0 [(0, ag width), (3, .fn 29 [] [.pp [ag c, ag A, ag k, gj f] 0, .pp [ag b] 0, .pp [ag a] 0]), (8, .hp 0 0), (9, .hp 1 0), (20, ag height), (21, ag j)], [.own [ag 0, ag 0, ag 0, nS], .own [ag width, ag height, ag most, .hs 2 0 p.length 1], .own (p.flatMap (iC .i64))]⟩) w ((Wk.gc [0, 3, 8, 9, 10, 20, 21, 24, 25] [(0, true), (1, true), (2, false)] rfl (pKt (pKt (pKo (iC .i64) (an _) q trivial)))).to) ?_ ?_
   ·clear hr
    rintro m ⟨e, i⟩ hr
    refine CQ.sh ?_
    refine .seq (.r4 G [0, 3, 8, 9, 10, 20, 21, 24, 25] [(26, aB (decide (i < width)))] (.seq ?_))
    refine .cd hr ?_ ?_ <;> intro L hr
    ·refine .skip (.seq (.block (.seq (.r4 G [0, 3, 8, 9, 10, 20, 21, 24, 25] [(11, ag i)] ?_))))
     obtain ⟨o, B, hr⟩ := bd hr
     obtain ⟨C, D, hr⟩ := gd2 hr
     refine .t1 G (ok0 (pD n i j c A k f b a o B)) (.mu 5 (.ca cf0 (.mu 1 (.ek (v := .hs 4 0 (e ++ [o]).length 1) (ws := [(2, .dead), (4, .own ((e ++ [o]).flatMap (iC .i64)))]) (tr (dm (new := [ag o]) (l := e) (xs := [o]) (ay .i64) rfl rfl kRf C D)) (.mu 2 ?_)))))
     refine .done (kRa ?_)
     refine .pop (.ru G ?_)
     exact aF (e ++ [o], Ew (i + 1)) hr ((Wk.gc [0, 3, 8, 9, 10, 20, 21, 24, 25] [(0, true), (1, true), (4, false)] rfl (pKt (pKt (pKo (iC .i64) (an _) (e ++ [o]) trivial)))).to)
    refine .leave rfl ?_
    obtain rfl := oi hr
    exact ⟨rfl, ((Wk.gc [0, 3, 8, 9, 20, 21] [(0, true), (1, true), (2, false)] rfl (pKt (pKt (pKo (iC .i64) (an _) e trivial)))).to)⟩
   rintro x st' s
   clear w
   obtain ⟨rfl, s⟩ := s
   refine a8 _ rfl (.pop (.wk s (.ru G ?_)))
   exact aF (p, Ew (j + 1)) hr ((Wk.gc [0, 3, 8, 9, 20, 21] [(0, true), (1, true), (2, false)] rfl (pKt (pKt (pKo (iC .i64) (an _) p trivial)))).to)
  refine .leave rfl ?_
  obtain rfl := oi hr
  exact ⟨rfl, ((Wk.gc [8, 9] [(0, true), (1, true), (2, false)] rfl (pKt (pKt (pKo (iC .i64) (an _) q trivial)))).to)⟩
 rintro x st' t
 clear u
 obtain ⟨rfl, t⟩ := t
 refine a8 _ rfl (.wk t (.seq (.r5 G [8] [] [.own [ag width, ag height, ag most, .hs 2 0 g.length 1], .own [ag width, ag height, ag most, .hs 2 0 g.length 1], .own (g.flatMap (iC .i64))] (.ret ?_))))
 obtain rfl := oi hr
 exact aS.ret (vs := [.agg [ag width, ag height, ag most, .hs 2 0 g.length 1]]) kRf (Sn.agg (Sp (Sp (Sp (SnL.cons (Sn.hs rfl (.inl rfl) (SnC.pure (aA (an _) _)) (fun h => cZ h)) SnL.nil)))))

theorem jT (n : Nat) (a : ak) (b : Int) (y : Int) (width : Int) (height : Int) (r : ak × Int) (hr : gk n a b y width height = some r) : bo Tryz.prog 9 [.agg (ak.c a), ag b, ag y, ag width, ag height] (.tup [.agg (ak.c r.1), ag r.2]) := by
 unfold gk at hr
 refine bo.bd G Tryz.func9 [.cell 10 24, .tmp 11] ?_
 unfold Tryz.f9
 simp only [gS]
 refine .seq (.r5 G [3, 4] [(5, .hp 0 0), (6, .hp 1 0), (7, .hp 2 0), (10, .hp 3 0)] [.own (ak.c a), .own [ag b], .own [ag y], .own [ag 0, ag 0, ag 0, nS]] (.seq (.seq ?_)))
 obtain ⟨m, o, hr⟩ := bd hr
 refine .g1 G (ok0 (lV n a m o)) (.mu 1 (.ca cf0 (.mu 1 (.done (.nh [3, 4, 5, 6, 7, 10, 12] [.own (ak.c a), .own [ag b], .own [ag y], .own [ag 0, ag 0, ag 0, nS]] (.seq (.r4 G [3, 4, 5, 6, 7, 10, 12] [(16, aB ((m : Int) != 0))] ?_)))))))
 refine .cd hr ?_ ?_ <;> intro q hr
 ·refine .seq (.r4 G [10] [(11, ag m)] (.ret ?_))
  obtain rfl := oi hr
  exact aS.ret (vs := [.agg [ag 0, ag 0, ag 0, nS], ag m]) kRf (Sn.tup (SnL.cons (Sn.agg (Sp (Sp (Sp (SnL.cons Sn.iS SnL.nil))))) (Sp SnL.nil)))
 refine .skip (.seq (.seq ?_))
 obtain ⟨j, g, hr⟩ := bd hr
 rcases bT (!j) with d | d
 ·replace hr := cB d hr
  refine .g1 G (ok0 (gU n a b y j g)) (.mu 3 (.ca cf0 (.p0 (v := aB true) (eB d) (.mu 24 (.done (.nh [3, 4, 5, 6, 7, 10, 47] [.own (ak.c a), .own [ag b], .own [ag y], .own [ag 0, ag 0, ag 0, nS]] (.cT kRf (.seq (.r4 G [10] [(11, ag 2)] (.ret ?_))))))))))
  obtain rfl := oi hr
  exact aS.ret (vs := [.agg [ag 0, ag 0, ag 0, nS], ag 2]) kRf (Sn.tup (SnL.cons (Sn.agg (Sp (Sp (Sp (SnL.cons Sn.iS SnL.nil))))) (Sp SnL.nil)))
 replace hr := cC d hr
 rcases bT (decide (width < 1)) with e | e
 ·replace hr := cB e hr
  refine .g1 G (ok0 (gU n a b y j g)) (.mu 3 (.ca cf0 (.p0 (v := aB false) (eB d) (.mu 2 (.pure (v := aB true) kRf (eB e) (.mu 21 (.done (.nh [3, 4, 5, 6, 7, 10, 47] [.own (ak.c a), .own [ag b], .own [ag y], .own [ag 0, ag 0, ag 0, nS]] (.cT kRf (.seq (.r4 G [10] [(11, ag 2)] (.ret ?_))))))))))))
  obtain rfl := oi hr
  exact aS.ret (vs := [.agg [ag 0, ag 0, ag 0, nS], ag 2]) kRf (Sn.tup (SnL.cons (Sn.agg (Sp (Sp (Sp (SnL.cons Sn.iS SnL.nil))))) (Sp SnL.nil)))
 replace hr := cC e hr
 rcases bT (decide (height < 1)) with f | f
 ·replace hr := cB f hr
  refine .g1 G (ok0 (gU n a b y j g)) (.mu 3 (.ca cf0 (.p0 (v := aB false) (eB d) (.mu 2 (.pure (v := aB false) kRf (eB e) (.mu 3 (.pure (v := aB true) kRf (eB f) (.mu 17 (.done (.nh [3, 4, 5, 6, 7, 10, 47] [.own (ak.c a), .own [ag b], .own [ag y], .own [ag 0, ag 0, ag 0, nS]] (.cT kRf (.seq (.r4 G [10] [(11, ag 2)] (.ret ?_))))))))))))))
  obtain rfl := oi hr
  exact aS.ret (vs := [.agg [ag 0, ag 0, ag 0, nS], ag 2]) kRf (Sn.tup (SnL.cons (Sn.agg (Sp (Sp (Sp (SnL.cons Sn.iS SnL.nil))))) (Sp SnL.nil)))
 replace hr := cC f hr
 rcases bT (decide (width > (Ew (a.Width - b)))) with h | h
 ·replace hr := cB h hr
  refine .g1 G (ok0 (gU n a b y j g)) (.mu 3 (.ca cf0 (.p0 (v := aB false) (eB d) (.mu 2 (.pure (v := aB false) kRf (eB e) (.mu 3 (.pure (v := aB false) kRf (eB f) (.mu 7 (.pure (v := aB true) kRf (eB h) (.mu 9 (.done (.nh [3, 4, 5, 6, 7, 10, 47] [.own (ak.c a), .own [ag b], .own [ag y], .own [ag 0, ag 0, ag 0, nS]] (.cT kRf (.seq (.r4 G [10] [(11, ag 2)] (.ret ?_))))))))))))))))
  obtain rfl := oi hr
  exact aS.ret (vs := [.agg [ag 0, ag 0, ag 0, nS], ag 2]) kRf (Sn.tup (SnL.cons (Sn.agg (Sp (Sp (Sp (SnL.cons Sn.iS SnL.nil))))) (Sp SnL.nil)))
 replace hr := cC h hr
 refine .g1 G (ok0 (gU n a b y j g)) (.mu 3 (.ca cf0 (.p0 (v := aB false) (eB d) (.mu 2 (.pure (v := aB false) kRf (eB e) (.mu 3 (.pure (v := aB false) kRf (eB f) (.mu 7 (.pure (v := aB false) kRf (eB h) (.mu 9 (.done (.nh [3, 4, 5, 6, 7, 10, 47] [.own (ak.c a), .own [ag b], .own [ag y], .own [ag 0, ag 0, ag 0, nS]] ?_))))))))))))
 refine .cd hr ?_ ?_ <;> intro p hr
 ·refine .seq (.r4 G [10] [(11, ag 2)] (.ret ?_))
  obtain rfl := oi hr
  exact aS.ret (vs := [.agg [ag 0, ag 0, ag 0, nS], ag 2]) kRf (Sn.tup (SnL.cons (Sn.agg (Sp (Sp (Sp (SnL.cons Sn.iS SnL.nil))))) (Sp SnL.nil)))
 refine .skip (.seq ?_)
 obtain ⟨i, k, hr⟩ := bd hr
 refine .g1 G (gw (args := [ag width, ag height, ag a.Max, .fn 29 [] [.hp 0 0, .hp 1 0, .hp 2 0]]) (l := [0, 1, 2]) (Sp (Sp (Sp (SnL.cons (Sn.fn SnL.nil (SnL.cons (Sn.hp rfl (.inl rfl) (SnC.cons (Sn.pure rfl) (SnC.cons (Sn.pure rfl) (SnC.cons (Sn.pure rfl) (SnC.cons (Sn.pure rfl) SnC.nil))))) (SnL.cons (Sn.hp rfl (.inl rfl) (SnC.cons (Sn.pure rfl) SnC.nil)) (SnL.cons (Sn.hp rfl (.inl rfl) (SnC.cons (Sn.pure rfl) SnC.nil)) SnL.nil)))) SnL.nil)))) (iR n width height a.Max a.Width a.Height a.Max a.Pixels b y i k)) (.mu 5 (.ca cf0 (.mu 2 (.done (.nh [10, 11] [.fix (ak.c a), .fix [ag b], .fix [ag y], .own (ak.c i)] (.ret ?_))))))
 obtain rfl := oi hr
 exact aS.ret (vs := [.agg (ak.c i), ag 0]) kRf (Sn.tup (Sp (Sp SnL.nil)))

theorem oX (n : Nat) (ties : List ai) (r : List ai × Int) (hr : fS n ties = some r) : bo Tryz.prog 12 [slT ai.c ties] (.tup [slT ai.c r.1, ag r.2]) := by
 unfold fS at hr
 refine bo.bd G Tryz.func12 [.tmp 2, .tmp 3] ?_
 unfold Tryz.f12
 simp only [gS]
 refine .seq (.r4 G [0] [] (.seq (.seq ?_)))
 obtain ⟨u, w, hr⟩ := bd hr
 refine .g1 G (ok0 (mE n ties u w)) (.mu 1 (.ca cf0 (.mu 1 (.done (.nh [0, 4] [] (.seq (.r4 G [0, 4] [(12, aB ((u : Int) != 0))] ?_)))))))
 refine .cd hr ?_ ?_ <;> intro E hr
 ·refine .seq (.r3 G 40 [(2, nS), (3, ag u)] (.ret ?_))
  obtain rfl := oi hr
  exact aS.ret (vs := [nS, ag u]) kRf (Sn.tup (SnL.cons Sn.iS (Sp SnL.nil)))
 refine .skip (.seq ?_)
 obtain ⟨a, z, hr⟩ := bd hr
 refine .g1 G (aT (args := [slT ai.c ties]) 0 5 [] [true, false, false, false, false] (j4 n ties a z) trivial (by exact ⟨dP (fun _ => rfl) _, ⟨aA aa.pure _, ⟨aA (an _) _, ⟨aA (an _) _, trivial⟩⟩⟩⟩) rfl rfl kRf kRf) (.mu 1 (.ca cf0 (.mu 1 (.done (.nh [5] [.own [slT ai.c a.1, .mp 1, .hs 2 0 a.2.2.1.length 2, .hs 3 0 a.2.2.2.1.length 1, .hs 4 0 a.2.2.2.2.length 1], .map (a.2.1.map (mpK au.K (iA .i64))), .own (a.2.2.1.flatMap aa.c), .own (a.2.2.2.1.flatMap (iC .i64)), .own (a.2.2.2.2.flatMap (iC .u64))] (.seq (.r4 G [5] [(6, nS)] (.seq (.seq (.r4 G [5, 6] [(19, slT ai.c a.1), (20, ag (a.1.length : Int)), (21, ag 0)] (.block ?_)))))))))))
 replace hr := bd hr; obtain ⟨f, k, hr⟩ := hr
 refine .aP (σ := fun F => match F with | (g, d, b) => ⟨mkS 40 0 [(5, .hp 0 0), (6, .hs 5 0 d.length 5), (19, slT ai.c a.1), (20, ag (a.1.length : Int)), (21, ag b)], [.own [slT ai.c a.1, .mp 1, .hs 2 0 a.2.2.1.length 2, .hs 3 0 g.length 1, .hs 4 0 a.2.2.2.2.length 1], .map (a.2.1.map (mpK au.K (iA .i64))), .own (a.2.2.1.flatMap aa.c), .own (g.flatMap (iC .i64)), .own (a.2.2.2.2.flatMap (iC .u64)), .own (d.flatMap ai.c)]⟩) (Q := fun x st' => x = .exit 0 /\ Wk 0 st' ⟨mkS 40 0 [(6, .hs 0 0 f.length 5)], [.own (f.flatMap ai.c)]⟩) k ((Wk.nil 6 5 kRf).trans ((Wk.gc [5, 6, 19, 20, 21] [(0, true), (1, false), (2, false), (3, false), (4, false), (5, false)] rfl (pKt (pKM au.K (iA .i64) (fun _ => rfl) a.2.1 (pKo aa.c aa.pure a.2.2.1 (pKo (iC .i64) (an _) a.2.2.2.1 (pKo (iC .u64) (an _) a.2.2.2.2 (pKc trivial))))))).to)) ?_ ?_
 ·clear hr
  rintro m ⟨g, d, b⟩ hr
  refine CQ.sh ?_
  refine .seq (.r4 G [5, 6, 19, 20, 21] [(22, aB (decide (b < (a.1.length : Int))))] (.seq ?_))
  refine .cd hr ?_ ?_ <;> intro C hr
  ·refine .skip (.seq (.block (.seq ?_)))
   obtain ⟨o, hr⟩ := gd hr
   refine .r0 G (.p0 (v := .pp (a.1.flatMap ai.c) (b.toNat * 5)) (tr (aq o)) (.p0 (v := .agg (ai.c (gt a.1 b))) (tr (y := bc.ofP (eE (decide (5 <= ((a.1.flatMap ai.c).drop (b.toNat * 5)).length)) (.agg (((a.1.flatMap ai.c).drop (b.toNat * 5)).take 5)))) (cz ai.len (ax o) (by decide) (by omega : b.toNat * 5 = b.toNat * 5 + 0) kRf)) (.mu 2 (.done (.nh [5, 6, 8, 19, 20, 21] [.own [slT ai.c a.1, .mp 1, .hs 2 0 a.2.2.1.length 2, .hs 3 0 g.length 1, .hs 4 0 a.2.2.2.2.length 1], .map (a.2.1.map (mpK au.K (iA .i64))), .own (a.2.2.1.flatMap aa.c), .own (g.flatMap (iC .i64)), .own (a.2.2.2.2.flatMap (iC .u64)), .own (d.flatMap ai.c), .own (ai.c (gt a.1 b))] (.seq ?_))))))
   obtain ⟨j, p, e, q, hr⟩ := bd2 hr
   refine .tn G (ca1 (aT (args := [.hp 0 0, .agg (aa.c (gt a.1 b).A)]) 1 4 [(0, true), (1, false), (2, false), (3, false), (4, false)] [true, false, false, false, false] (cQ n a.1 a.2.1 a.2.2.1 g a.2.2.2.2 (gt a.1 b).A j p) (by exact ⟨dP (fun _ => rfl) _, ⟨aA aa.pure _, ⟨aA (an _) _, ⟨aA (an _) _, trivial⟩⟩⟩⟩) (by exact ⟨dP (fun _ => rfl) _, ⟨aA aa.pure _, ⟨aA (an _) _, ⟨aA (an _) _, trivial⟩⟩⟩⟩) rfl rfl kRf kRf) (ca4 [.own [slT ai.c a.1, .mp 7, .hs 8 0 a.2.2.1.length 2, .hs 9 0 j.1.length 1, .hs 10 0 a.2.2.2.2.length 1], .dead, .dead, .dead, .dead, .own (d.flatMap ai.c), .own (ai.c (gt a.1 b)), .map (a.2.1.map (mpK au.K (iA .i64))), .own (a.2.2.1.flatMap aa.c), .own (j.1.flatMap (iC .i64)), .own (a.2.2.2.2.flatMap (iC .u64))] (aT (args := [.hp 0 0, .agg (aa.c (gt a.1 b).B)]) 1 4 [(0, true), (7, false), (8, false), (9, false), (10, false)] [true, false, false, false, false] (cQ n a.1 a.2.1 a.2.2.1 j.1 a.2.2.2.2 (gt a.1 b).B e q) (by exact ⟨dP (fun _ => rfl) _, ⟨aA aa.pure _, ⟨aA (an _) _, ⟨aA (an _) _, trivial⟩⟩⟩⟩) (by exact ⟨dP (fun _ => rfl) _, ⟨aA aa.pure _, ⟨aA (an _) _, ⟨aA (an _) _, trivial⟩⟩⟩⟩) rfl rfl kRf kRf))) (.mu 3 (.ca cf0 (.mu 3 (.ca (cfH 1 0 3 cf0) (.mu 1 ?_)))))
   refine .done (kRa ?_)
   refine .nh [5, 6, 8, 19, 20, 21, 33] [.own [slT ai.c a.1, .mp 11, .hs 12 0 a.2.2.1.length 2, .hs 13 0 e.1.length 1, .hs 14 0 a.2.2.2.2.length 1], .dead, .dead, .dead, .dead, .own (d.flatMap ai.c), .own (ai.c (gt a.1 b)), .dead, .dead, .dead, .dead, .map (a.2.1.map (mpK au.K (iA .i64))), .own (a.2.2.1.flatMap aa.c), .own (e.1.flatMap (iC .i64)), .own (a.2.2.2.2.flatMap (iC .u64))] ?_
   refine .cd hr ?_ ?_ <;> intro D hr
   ·obtain ⟨s, t, hr⟩ := gd2 hr
    refine .r0 G (.mu 3 (.e0 (v := .hs 16 0 (d ++ [(gt a.1 b)]).length 5) (ws := [(5, .dead), (16, .own ((d ++ [(gt a.1 b)]).flatMap ai.c))]) (tr (dm (new := (ai.c (gt a.1 b))) (l := d) (xs := [(gt a.1 b)]) ai.len rfl rfl kRf s t)) (.mu 1 (.done (.pop (.ru G ?_))))))
    exact aF (e.1, d ++ [(gt a.1 b)], Ew (b + 1)) hr ((Wk.gc [5, 6, 19, 20, 21] [(0, true), (11, false), (12, false), (13, false), (14, false), (16, false)] rfl (pKt (pKM au.K (iA .i64) (fun _ => rfl) a.2.1 (pKo aa.c aa.pure a.2.2.1 (pKo (iC .i64) (an _) e.1 (pKo (iC .u64) (an _) a.2.2.2.2 (pKo ai.c ai.pure (d ++ [(gt a.1 b)]) trivial))))))).to)
   refine .skip (.pop (.ru G ?_))
   exact aF (e.1, d, Ew (b + 1)) hr ((Wk.gc [5, 6, 19, 20, 21] [(0, true), (11, false), (12, false), (13, false), (14, false), (5, false)] rfl (pKt (pKM au.K (iA .i64) (fun _ => rfl) a.2.1 (pKo aa.c aa.pure a.2.2.1 (pKo (iC .i64) (an _) e.1 (pKo (iC .u64) (an _) a.2.2.2.2 (pKo ai.c ai.pure d trivial))))))).to)
  refine .leave rfl ?_
  obtain rfl := oi hr
  exact ⟨rfl, ((Wk.gc [6] [(5, false)] rfl (pKo ai.c ai.pure d trivial)).to)⟩
 rintro x st' i
 clear k
 obtain ⟨rfl, i⟩ := i
 refine a8 _ rfl (.wk i (.seq (.r3 G 40 [(2, .hs 0 0 f.length 5), (3, ag 0)] (.ret ?_))))
 obtain rfl := oi hr
 exact aS.ret (vs := [.hs 0 0 f.length 5, ag 0]) kRf (Sn.tup (SnL.cons (Sn.hs rfl (.inl rfl) (SnC.pure (aA ai.pure _)) (fun h => cZ h)) (Sp SnL.nil)))

theorem j7 (n : Nat) (t : List aa) (p : List aa) (r : Bool) (hr : dU n t p = some r) : bo Tryz.prog 14 [slT aa.c t, .pp [slT aa.c p] 0] (aB r) := by
 unfold dU at hr
 refine bo.bd G Tryz.func14 [.tmp 3] ?_
 unfold Tryz.f14
 simp only [gS]
 refine .seq (.r4 G [0, 1] [] (.seq ?_))
 obtain ⟨b, a, hr⟩ := bd hr
 refine .g1 G (ok0 (bU n t p b a)) (.mu 2 (.ca cf0 (.mu 1 (.done (.ret ?_)))))
 obtain rfl := oi hr
 exact aS.r1 [aB b]

theorem cD (n : Nat) (s : List (List aa)) (c : List aa) (r : Int) (hr : aU n s c = some r) : bo Tryz.prog 37 [slT (slC aa.c) s, .fn 14 [] [.pp [slT aa.c c] 0]] (ag r) := by
 unfold aU at hr
 refine bo.bd G Tryz.func37 [.tmp 4] ?_
 unfold Tryz.f37
 simp only [gS]
 refine .seq (.r4 G [0, 1] [] (.seq (.seq (.r4 G [0, 1] [(7, ag (s.length : Int)), (8, ag 0)] (.block ?_)))))
 replace hr := bd hr; obtain ⟨e, d, hr⟩ := hr
 refine .aP (σ := fun j => match j with | a => ⟨mkS 19 0 [(0, slT (slC aa.c) s), (1, .fn 14 [] [.pp [slT aa.c c] 0]), (7, ag (s.length : Int)), (8, ag a)], []⟩) (Q := fun x st' => match (generalizing := false) e with | .inl _ => x = .exit 0 /\ Wk 0 st' ⟨mkS 19 0 [], []⟩ | .inr (r0) => x = .ret /\ aS Tryz.prog [.tmp 4] (ag r0) .ret st') d ((Wk.gc [0, 1, 7, 8] [] rfl pK0).to) ?_ ?_
 ·clear hr
  rintro m a hr
  refine CQ.sh ?_
  refine .seq (.r4 G [0, 1, 7, 8] [(9, aB (decide (a < (s.length : Int))))] (.seq ?_))
  refine .cd hr ?_ ?_ <;> intro k hr
  ·refine .skip (.seq (.block (.seq (.r4 G [0, 1, 7, 8] [(5, ag a)] (.seq ?_)))))
   obtain ⟨f, hr⟩ := gd hr
   obtain ⟨h, g, hr⟩ := bd hr
   refine .g1 G (ok0 (j7 n (gt s a) c h g)) (.mu 3 (.p0 (v := .pp (s.flatMap (slC aa.c)) (a.toNat * 1)) (tr (aq f)) (.p0 (v := slT aa.c (gt s a)) (tr (aD (aC (fr aa.c) (ax f) z1 (by omega : a.toNat * 1 = a.toNat * 1 + 0) kRf))) (.ca cf0 (.done (.nh [0, 1, 5, 7, 8, 16] [] ?_))))))
   refine .cd hr ?_ ?_ <;> intro i hr
   ·refine .seq (.ru G (.ret ?_))
    obtain rfl := oi hr
    exact ⟨rfl, aS.ret (vs := [ag a]) kRf (Sn.pure rfl)⟩
   refine .skip (.pop (.ru G ?_))
   exact aF (Ew (a + 1)) hr ((Wk.gc [0, 1, 7, 8] [] rfl pK0).to)
  refine .leave rfl ?_
  obtain rfl := oi hr
  exact ⟨rfl, ((Wk.gc [] [] rfl pK0).to)⟩
 rcases e with ⟨⟩ | r0
 ·rintro x st' b
  clear d
  obtain ⟨rfl, b⟩ := b
  refine a8 _ rfl (.wk b (.seq (.ru G (.ret ?_))))
  obtain rfl := oi hr
  exact aS.r1 [ag (-1)]
 rintro x st' b
 clear d
 obtain ⟨rfl, b⟩ := b
 obtain rfl := oi hr
 exact fp _ b

theorem cy (n : Nat) (s : List (List aa)) (c : List aa) (r : Bool) (hr : aL n s c = some r) : bo Tryz.prog 13 [slT (slC aa.c) s, .fn 14 [] [.pp [slT aa.c c] 0]] (aB r) := by
 unfold aL at hr
 refine bo.bd G Tryz.func13 [.tmp 4] ?_
 unfold Tryz.f13
 simp only [gS]
 refine .seq (.r4 G [0, 1] [] (.seq ?_))
 obtain ⟨b, a, hr⟩ := bd hr
 refine .g1 G (dd (args := [slT (slC aa.c) s, .fn 14 [] [.pp [slT aa.c c] 0]]) (l := []) rfl (Sp (SnL.cons (Sn.fn SnL.nil (Sp SnL.nil)) SnL.nil)) (cD n s c b a)) (.mu 2 (.ca cf0 (.mu 2 (.done (.ret ?_)))))
 obtain rfl := oi hr
 exact aS.r1 [aB (decide (b >= 0))]

theorem kL (n : Nat) (o : ak) (p : List aj) (windows : A3 (A4 Int)) (r : Bool) (hr : c6 n o p windows = some r) : bo Tryz.prog 3 [.agg (ak.c o), slT aj.c p, .agg [aU8 windows.e0.e0, aU8 windows.e0.e1, aU8 windows.e0.e2, aU8 windows.e0.e3, aU8 windows.e1.e0, aU8 windows.e1.e1, aU8 windows.e1.e2, aU8 windows.e1.e3, aU8 windows.e2.e0, aU8 windows.e2.e1, aU8 windows.e2.e2, aU8 windows.e2.e3]] (aB r) := by
 unfold c6 at hr
 refine bo.bd G Tryz.func3 [.tmp 6] ?_
 unfold Tryz.f3
 simp only [gS]
 refine .seq (.r2 G 284 [(1, slT aj.c p), (3, .hp 0 0), (5, .hp 1 0)] [.own (ak.c o), .own [aU8 windows.e0.e0, aU8 windows.e0.e1, aU8 windows.e0.e2, aU8 windows.e0.e3, aU8 windows.e1.e0, aU8 windows.e1.e1, aU8 windows.e1.e2, aU8 windows.e1.e3, aU8 windows.e2.e0, aU8 windows.e2.e1, aU8 windows.e2.e2, aU8 windows.e2.e3]] (.seq (.seq ?_)))
 obtain ⟨v1, By, hr⟩ := bd hr
 refine .g1 G (ok0 (lA n v1 By)) (.ca cf0 (.mu 1 (.done (.n2 284 [(1, slT aj.c p), (3, .hp 0 0), (5, .hp 1 0), (44, aB (!v1))] [.own (ak.c o), .own [aU8 windows.e0.e0, aU8 windows.e0.e1, aU8 windows.e0.e2, aU8 windows.e0.e3, aU8 windows.e1.e0, aU8 windows.e1.e1, aU8 windows.e1.e2, aU8 windows.e1.e3, aU8 windows.e2.e0, aU8 windows.e2.e1, aU8 windows.e2.e2, aU8 windows.e2.e3]] ?_))))
 refine .cd hr ?_ ?_ <;> intro DU hr
 ·refine .seq (.ru G (.ret ?_))
  obtain rfl := oi hr
  exact aS.r1 [aB false]
 refine .skip (.seq (.seq ?_))
 obtain ⟨v4, yK, hr⟩ := bd hr
 rcases bT ((v4 : Int) != 0) with qM | qM
 ·replace hr := cB qM hr
  refine .g1 G (ok0 (fJ n o v4 yK)) (.mu 1 (.ca cf0 (.p0 (v := aB true) (eB qM) (.mu 13 (.done (.n2 284 [(1, slT aj.c p), (3, .hp 0 0), (5, .hp 1 0), (60, aB true)] [.own (ak.c o), .own [aU8 windows.e0.e0, aU8 windows.e0.e1, aU8 windows.e0.e2, aU8 windows.e0.e3, aU8 windows.e1.e0, aU8 windows.e1.e1, aU8 windows.e1.e2, aU8 windows.e1.e3, aU8 windows.e2.e0, aU8 windows.e2.e1, aU8 windows.e2.e2, aU8 windows.e2.e3]] (.cT kRf (.seq (.ru G (.ret ?_))))))))))
  obtain rfl := oi hr
  exact aS.r1 [aB true]
 replace hr := cC qM hr
 rcases bT (decide ((mx o.Width o.Height) > 9)) with sb | sb
 ·replace hr := cB sb hr
  refine .g1 G (ok0 (fJ n o v4 yK)) (.mu 1 (.ca cf0 (.p0 (v := aB false) (eB qM) (.mu 6 (.pure (v := aB true) kRf (eB sb) (.mu 6 (.done (.n2 284 [(1, slT aj.c p), (3, .hp 0 0), (5, .hp 1 0), (60, aB true)] [.own (ak.c o), .own [aU8 windows.e0.e0, aU8 windows.e0.e1, aU8 windows.e0.e2, aU8 windows.e0.e3, aU8 windows.e1.e0, aU8 windows.e1.e1, aU8 windows.e1.e2, aU8 windows.e1.e3, aU8 windows.e2.e0, aU8 windows.e2.e1, aU8 windows.e2.e2, aU8 windows.e2.e3]] (.cT kRf (.seq (.ru G (.ret ?_))))))))))))
  obtain rfl := oi hr
  exact aS.r1 [aB true]
 replace hr := cC sb hr
 obtain ⟨v8, BT, hr⟩ := bd hr
 refine .gn G (ca1 (ok0 (fJ n o v4 yK)) (ca3 (ok0 (jA n p v8 BT)))) (.mu 1 (.ca cf0 (.p0 (v := aB false) (eB qM) (.mu 6 (.pure (v := aB false) kRf (eB sb) (.mu 3 (.ca (cfF cf0) (.mu 2 (.done (.n2 284 [(1, slT aj.c p), (3, .hp 0 0), (5, .hp 1 0), (60, aB ((v8 : Int) != 0))] [.own (ak.c o), .own [aU8 windows.e0.e0, aU8 windows.e0.e1, aU8 windows.e0.e2, aU8 windows.e0.e3, aU8 windows.e1.e0, aU8 windows.e1.e1, aU8 windows.e1.e2, aU8 windows.e1.e3, aU8 windows.e2.e0, aU8 windows.e2.e1, aU8 windows.e2.e2, aU8 windows.e2.e3]] ?_))))))))))
 refine .cd hr ?_ ?_ <;> intro DE hr
 ·refine .seq (.ru G (.ret ?_))
  obtain rfl := oi hr
  exact aS.r1 [aB true]
 refine .skip (.seq ?_)
 obtain ⟨ry, Dh, hr⟩ := bd hr
 refine .g1 G (ok0 (eZ n o p ry Dh)) (.mu 2 (.ca cf0 (.mu 7 (.done (.n2 284 [(1, slT aj.c p), (3, .hp 0 0), (5, .hp 1 0), (8, slT (iC .u64) ry.2.1), (9, ag ry.2.2)] [.own (ak.c o), .own [aU8 windows.e0.e0, aU8 windows.e0.e1, aU8 windows.e0.e2, aU8 windows.e0.e3, aU8 windows.e1.e0, aU8 windows.e1.e1, aU8 windows.e1.e2, aU8 windows.e1.e3, aU8 windows.e2.e0, aU8 windows.e2.e1, aU8 windows.e2.e2, aU8 windows.e2.e3]] (.seq (.seq (.r3 G 284 [(1, slT aj.c p), (3, .hp 0 0), (5, .hp 1 0), (8, slT (iC .u64) ry.2.1), (69, aB ((ry.2.2 : Int) != 0))] ?_))))))))
 refine .cd hr ?_ ?_ <;> intro Eo hr
 ·refine .seq (.ru G (.ret ?_))
  obtain rfl := oi hr
  exact aS.r1 [aB false]
 refine .skip (.seq (.seq ?_))
 obtain ⟨AZ, Dl, hr⟩ := bd hr
 refine .g1 G (ok0 (kH n ry.2.1 AZ Dl)) (.mu 1 (.ca cf0 (.mu 1 (.done (.n2 284 [(1, slT aj.c p), (3, .hp 0 0), (5, .hp 1 0), (72, aB (!AZ))] [.own (ak.c o), .own [aU8 windows.e0.e0, aU8 windows.e0.e1, aU8 windows.e0.e2, aU8 windows.e0.e3, aU8 windows.e1.e0, aU8 windows.e1.e1, aU8 windows.e1.e2, aU8 windows.e1.e3, aU8 windows.e2.e0, aU8 windows.e2.e1, aU8 windows.e2.e2, aU8 windows.e2.e3]] ?_)))))
 refine .cd hr ?_ ?_ <;> intro DQ hr
 ·refine .seq (.ru G (.ret ?_))
  obtain rfl := oi hr
  exact aS.r1 [aB true]
 refine .skip (.seq (.r2 G 284 [(1, slT aj.c p), (3, .hp 0 0), (5, .hp 1 0), (10, .hp 2 0)] [.own (ak.c o), .own [aU8 windows.e0.e0, aU8 windows.e0.e1, aU8 windows.e0.e2, aU8 windows.e0.e3, aU8 windows.e1.e0, aU8 windows.e1.e1, aU8 windows.e1.e2, aU8 windows.e1.e3, aU8 windows.e2.e0, aU8 windows.e2.e1, aU8 windows.e2.e2, aU8 windows.e2.e3], .own [nS, nS, nS]] (.seq (.r2 G 284 [(1, slT aj.c p), (3, .hp 0 0), (5, .hp 1 0), (10, .hp 2 0), (11, .hp 3 0)] [.own (ak.c o), .own [aU8 windows.e0.e0, aU8 windows.e0.e1, aU8 windows.e0.e2, aU8 windows.e0.e3, aU8 windows.e1.e0, aU8 windows.e1.e1, aU8 windows.e1.e2, aU8 windows.e1.e3, aU8 windows.e2.e0, aU8 windows.e2.e1, aU8 windows.e2.e2, aU8 windows.e2.e3], .own [nS, nS, nS], .own [nS, nS, nS]] (.seq (.seq (.r3 G 284 [(1, slT aj.c p), (3, .hp 0 0), (10, .hp 2 0), (11, .hp 3 0), (73, .agg [aU8 windows.e0.e0, aU8 windows.e0.e1, aU8 windows.e0.e2, aU8 windows.e0.e3, aU8 windows.e1.e0, aU8 windows.e1.e1, aU8 windows.e1.e2, aU8 windows.e1.e3, aU8 windows.e2.e0, aU8 windows.e2.e1, aU8 windows.e2.e2, aU8 windows.e2.e3]), (74, ag 0)] (.block ?_))))))))
 refine .o7 4 (UNR.one ?_)
 refine .seq (.r3 G 284 [(1, slT aj.c p), (3, .hp 0 0), (10, .hp 2 0), (11, .hp 3 0), (73, .agg [aU8 windows.e0.e0, aU8 windows.e0.e1, aU8 windows.e0.e2, aU8 windows.e0.e3, aU8 windows.e1.e0, aU8 windows.e1.e1, aU8 windows.e1.e2, aU8 windows.e1.e3, aU8 windows.e2.e0, aU8 windows.e2.e1, aU8 windows.e2.e2, aU8 windows.e2.e3]), (74, ag 0), (75, aB true)] (.seq (.cT kRf (.skip (.seq (.block (.seq (.r2 G 284 [(1, slT aj.c p), (3, .hp 0 0), (10, .hp 2 0), (11, .hp 3 0), (12, ag 0), (13, .hp 4 0), (73, .agg [aU8 windows.e0.e0, aU8 windows.e0.e1, aU8 windows.e0.e2, aU8 windows.e0.e3, aU8 windows.e1.e0, aU8 windows.e1.e1, aU8 windows.e1.e2, aU8 windows.e1.e3, aU8 windows.e2.e0, aU8 windows.e2.e1, aU8 windows.e2.e2, aU8 windows.e2.e3]), (74, ag 0)] [.own (ak.c o), .own [aU8 windows.e0.e0, aU8 windows.e0.e1, aU8 windows.e0.e2, aU8 windows.e0.e3, aU8 windows.e1.e0, aU8 windows.e1.e1, aU8 windows.e1.e2, aU8 windows.e1.e3, aU8 windows.e2.e0, aU8 windows.e2.e1, aU8 windows.e2.e2, aU8 windows.e2.e3], .own [nS, nS, nS], .own [nS, nS, nS], .own [aU8 windows.e0.e0, aU8 windows.e0.e1, aU8 windows.e0.e2, aU8 windows.e0.e3]] (.seq ?_)))))))))
 obtain ⟨wE, xa, hr⟩ := gd2 hr
 refine .ba G aK (.mu 5 (.pk (v := ag ((Ew windows.e0.e0).tmod o.Width)) (jy (x := Ew windows.e0.e0) (y := o.Width) kRf kRf wE) (.mu 5 (.pk (v := ag ((Ew windows.e0.e1).tmod o.Height)) (jy (x := Ew windows.e0.e1) (y := o.Height) kRf kRf xa) (.mu 2 ?_)))))
 refine .done (kRa ?_)
 refine .n2 284 [(1, slT aj.c p), (3, .hp 0 0), (10, .hp 2 0), (11, .hp 3 0), (12, ag 0), (13, .hp 4 0), (14, ag ((Ew windows.e0.e0).tmod o.Width)), (15, ag ((Ew windows.e0.e1).tmod o.Height)), (73, .agg [aU8 windows.e0.e0, aU8 windows.e0.e1, aU8 windows.e0.e2, aU8 windows.e0.e3, aU8 windows.e1.e0, aU8 windows.e1.e1, aU8 windows.e1.e2, aU8 windows.e1.e3, aU8 windows.e2.e0, aU8 windows.e2.e1, aU8 windows.e2.e2, aU8 windows.e2.e3]), (74, ag 0)] [.own (ak.c o), .own [aU8 windows.e0.e0, aU8 windows.e0.e1, aU8 windows.e0.e2, aU8 windows.e0.e3, aU8 windows.e1.e0, aU8 windows.e1.e1, aU8 windows.e1.e2, aU8 windows.e1.e3, aU8 windows.e2.e0, aU8 windows.e2.e1, aU8 windows.e2.e2, aU8 windows.e2.e3], .own [nS, nS, nS], .own [nS, nS, nS], .own [aU8 windows.e0.e0, aU8 windows.e0.e1, aU8 windows.e0.e2, aU8 windows.e0.e3]] (.seq ?_)
 obtain ⟨Dj, CD, hr⟩ := gd2 hr
 obtain ⟨nY, Df, hr⟩ := bd hr
 refine .t1 G (ok0 (jT n o ((Ew windows.e0.e0).tmod o.Width) ((Ew windows.e0.e1).tmod o.Height) (Ew (1 + ((Ew windows.e0.e2).tmod (Ew (o.Width - ((Ew windows.e0.e0).tmod o.Width)))))) (Ew (1 + ((Ew windows.e0.e3).tmod (Ew (o.Height - ((Ew windows.e0.e1).tmod o.Height)))))) nY Df)) (.mu 10 (.pk (v := ag ((Ew windows.e0.e2).tmod (Ew (o.Width - ((Ew windows.e0.e0).tmod o.Width))))) (jy (x := Ew windows.e0.e2) (y := Ew (o.Width - ((Ew windows.e0.e0).tmod o.Width))) kRf kRf Dj) (.mu 8 (.pk (v := ag ((Ew windows.e0.e3).tmod (Ew (o.Height - ((Ew windows.e0.e1).tmod o.Height))))) (jy (x := Ew windows.e0.e3) (y := Ew (o.Height - ((Ew windows.e0.e1).tmod o.Height))) kRf kRf CD) (.mu 1 (.ca cf0 (.mu 6 ?_)))))))
 refine .done (kRa ?_)
 refine .n2 284 [(1, slT aj.c p), (3, .hp 0 0), (10, .hp 2 0), (11, .hp 3 0), (12, ag 0), (14, ag ((Ew windows.e0.e0).tmod o.Width)), (15, ag ((Ew windows.e0.e1).tmod o.Height)), (16, .hp 5 0), (17, ag nY.2), (73, .agg [aU8 windows.e0.e0, aU8 windows.e0.e1, aU8 windows.e0.e2, aU8 windows.e0.e3, aU8 windows.e1.e0, aU8 windows.e1.e1, aU8 windows.e1.e2, aU8 windows.e1.e3, aU8 windows.e2.e0, aU8 windows.e2.e1, aU8 windows.e2.e2, aU8 windows.e2.e3]), (74, ag 0)] [.own (ak.c o), .own [aU8 windows.e0.e0, aU8 windows.e0.e1, aU8 windows.e0.e2, aU8 windows.e0.e3, aU8 windows.e1.e0, aU8 windows.e1.e1, aU8 windows.e1.e2, aU8 windows.e1.e3, aU8 windows.e2.e0, aU8 windows.e2.e1, aU8 windows.e2.e2, aU8 windows.e2.e3], .own [nS, nS, nS], .own [nS, nS, nS], .own [aU8 windows.e0.e0, aU8 windows.e0.e1, aU8 windows.e0.e2, aU8 windows.e0.e3], .own (ak.c nY.1)] (.seq ?_)
 obtain ⟨q, Dc, hr⟩ := bd hr
 refine .g1 G (ok0 (eZ n nY.1 p q Dc)) (.mu 2 (.ca cf0 (.mu 7 (.done (.n2 284 [(1, slT aj.c p), (3, .hp 0 0), (10, .hp 2 0), (11, .hp 3 0), (12, ag 0), (14, ag ((Ew windows.e0.e0).tmod o.Width)), (15, ag ((Ew windows.e0.e1).tmod o.Height)), (17, ag nY.2), (18, slT ah.c q.1), (19, slT (iC .u64) q.2.1), (20, ag q.2.2), (73, .agg [aU8 windows.e0.e0, aU8 windows.e0.e1, aU8 windows.e0.e2, aU8 windows.e0.e3, aU8 windows.e1.e0, aU8 windows.e1.e1, aU8 windows.e1.e2, aU8 windows.e1.e3, aU8 windows.e2.e0, aU8 windows.e2.e1, aU8 windows.e2.e2, aU8 windows.e2.e3]), (74, ag 0)] [.own (ak.c o), .own [aU8 windows.e0.e0, aU8 windows.e0.e1, aU8 windows.e0.e2, aU8 windows.e0.e3, aU8 windows.e1.e0, aU8 windows.e1.e1, aU8 windows.e1.e2, aU8 windows.e1.e3, aU8 windows.e2.e0, aU8 windows.e2.e1, aU8 windows.e2.e2, aU8 windows.e2.e3], .own [nS, nS, nS], .own [nS, nS, nS], .own [aU8 windows.e0.e0, aU8 windows.e0.e1, aU8 windows.e0.e2, aU8 windows.e0.e3], .own (ak.c nY.1)] (.seq (.seq ?_)))))))
 rcases bT ((nY.2 : Int) != 0) with ny | ny
 ·replace hr := cB ny hr
  refine .r0 G (.mu 1 (.p0 (v := aB true) (eB ny) (.mu 11 (.done (.n2 284 [(1, slT aj.c p), (3, .hp 0 0), (10, .hp 2 0), (11, .hp 3 0), (12, ag 0), (14, ag ((Ew windows.e0.e0).tmod o.Width)), (15, ag ((Ew windows.e0.e1).tmod o.Height)), (18, slT ah.c q.1), (19, slT (iC .u64) q.2.1), (73, .agg [aU8 windows.e0.e0, aU8 windows.e0.e1, aU8 windows.e0.e2, aU8 windows.e0.e3, aU8 windows.e1.e0, aU8 windows.e1.e1, aU8 windows.e1.e2, aU8 windows.e1.e3, aU8 windows.e2.e0, aU8 windows.e2.e1, aU8 windows.e2.e2, aU8 windows.e2.e3]), (74, ag 0), (134, aB true)] [.own (ak.c o), .own [aU8 windows.e0.e0, aU8 windows.e0.e1, aU8 windows.e0.e2, aU8 windows.e0.e3, aU8 windows.e1.e0, aU8 windows.e1.e1, aU8 windows.e1.e2, aU8 windows.e1.e3, aU8 windows.e2.e0, aU8 windows.e2.e1, aU8 windows.e2.e2, aU8 windows.e2.e3], .own [nS, nS, nS], .own [nS, nS, nS], .own [aU8 windows.e0.e0, aU8 windows.e0.e1, aU8 windows.e0.e2, aU8 windows.e0.e3], .own (ak.c nY.1)] (.cT kRf (.seq (.ru G (.ret (unF.ret ?_))))))))))
  obtain rfl := oi hr
  exact aS.r1 [aB false]
 replace hr := cC ny hr
 rcases bT ((q.2.2 : Int) != 0) with oG | oG
 ·replace hr := cB oG hr
  refine .r0 G (.mu 1 (.p0 (v := aB false) (eB ny) (.mu 2 (.pure (v := aB true) kRf (eB oG) (.mu 8 (.done (.n2 284 [(1, slT aj.c p), (3, .hp 0 0), (10, .hp 2 0), (11, .hp 3 0), (12, ag 0), (14, ag ((Ew windows.e0.e0).tmod o.Width)), (15, ag ((Ew windows.e0.e1).tmod o.Height)), (18, slT ah.c q.1), (19, slT (iC .u64) q.2.1), (73, .agg [aU8 windows.e0.e0, aU8 windows.e0.e1, aU8 windows.e0.e2, aU8 windows.e0.e3, aU8 windows.e1.e0, aU8 windows.e1.e1, aU8 windows.e1.e2, aU8 windows.e1.e3, aU8 windows.e2.e0, aU8 windows.e2.e1, aU8 windows.e2.e2, aU8 windows.e2.e3]), (74, ag 0), (134, aB true)] [.own (ak.c o), .own [aU8 windows.e0.e0, aU8 windows.e0.e1, aU8 windows.e0.e2, aU8 windows.e0.e3, aU8 windows.e1.e0, aU8 windows.e1.e1, aU8 windows.e1.e2, aU8 windows.e1.e3, aU8 windows.e2.e0, aU8 windows.e2.e1, aU8 windows.e2.e2, aU8 windows.e2.e3], .own [nS, nS, nS], .own [nS, nS, nS], .own [aU8 windows.e0.e0, aU8 windows.e0.e1, aU8 windows.e0.e2, aU8 windows.e0.e3], .own (ak.c nY.1)] (.cT kRf (.seq (.ru G (.ret (unF.ret ?_))))))))))))
  obtain rfl := oi hr
  exact aS.r1 [aB false]
 replace hr := cC oG hr
 refine .r0 G (.mu 1 (.p0 (v := aB false) (eB ny) (.mu 2 (.pure (v := aB false) kRf (eB oG) (.mu 8 (.done (.n2 284 [(1, slT aj.c p), (3, .hp 0 0), (10, .hp 2 0), (11, .hp 3 0), (12, ag 0), (14, ag ((Ew windows.e0.e0).tmod o.Width)), (15, ag ((Ew windows.e0.e1).tmod o.Height)), (18, slT ah.c q.1), (19, slT (iC .u64) q.2.1), (73, .agg [aU8 windows.e0.e0, aU8 windows.e0.e1, aU8 windows.e0.e2, aU8 windows.e0.e3, aU8 windows.e1.e0, aU8 windows.e1.e1, aU8 windows.e1.e2, aU8 windows.e1.e3, aU8 windows.e2.e0, aU8 windows.e2.e1, aU8 windows.e2.e2, aU8 windows.e2.e3]), (74, ag 0), (134, aB (((q.1.length : Int) : Int) != (q.2.1.length : Int)))] [.own (ak.c o), .own [aU8 windows.e0.e0, aU8 windows.e0.e1, aU8 windows.e0.e2, aU8 windows.e0.e3, aU8 windows.e1.e0, aU8 windows.e1.e1, aU8 windows.e1.e2, aU8 windows.e1.e3, aU8 windows.e2.e0, aU8 windows.e2.e1, aU8 windows.e2.e2, aU8 windows.e2.e3], .own [nS, nS, nS], .own [nS, nS, nS], .own [aU8 windows.e0.e0, aU8 windows.e0.e1, aU8 windows.e0.e2, aU8 windows.e0.e3], .own (ak.c nY.1)] ?_)))))))
 refine .cd hr ?_ ?_ <;> intro DI hr
 ·refine .seq (.ru G (.ret (unF.ret ?_)))
  obtain rfl := oi hr
  exact aS.r1 [aB false]
 refine .skip (.seq (.seq (.r3 G 284 [(1, slT aj.c p), (3, .hp 0 0), (10, .hp 2 0), (11, .hp 3 0), (12, ag 0), (14, ag ((Ew windows.e0.e0).tmod o.Width)), (15, ag ((Ew windows.e0.e1).tmod o.Height)), (18, slT ah.c q.1), (19, slT (iC .u64) q.2.1), (73, .agg [aU8 windows.e0.e0, aU8 windows.e0.e1, aU8 windows.e0.e2, aU8 windows.e0.e3, aU8 windows.e1.e0, aU8 windows.e1.e1, aU8 windows.e1.e2, aU8 windows.e1.e3, aU8 windows.e2.e0, aU8 windows.e2.e1, aU8 windows.e2.e2, aU8 windows.e2.e3]), (74, ag 0), (137, aB (decide ((q.2.1.length : Int) > 64)))] ?_)))
 refine .cd hr ?_ ?_ <;> intro Em hr
 ·refine .seq (.ru G (.ret (unF.ret ?_)))
  obtain rfl := oi hr
  exact aS.r1 [aB true]
 refine .skip (.seq (.seq (.r3 G 284 [(1, slT aj.c p), (3, .hp 0 0), (10, .hp 2 0), (11, .hp 3 0), (12, ag 0), (14, ag ((Ew windows.e0.e0).tmod o.Width)), (15, ag ((Ew windows.e0.e1).tmod o.Height)), (19, slT (iC .u64) q.2.1), (73, .agg [aU8 windows.e0.e0, aU8 windows.e0.e1, aU8 windows.e0.e2, aU8 windows.e0.e3, aU8 windows.e1.e0, aU8 windows.e1.e1, aU8 windows.e1.e2, aU8 windows.e1.e3, aU8 windows.e2.e0, aU8 windows.e2.e1, aU8 windows.e2.e2, aU8 windows.e2.e3]), (74, ag 0), (138, slT ah.c q.1), (139, ag (q.1.length : Int)), (140, ag 0)] (.block ?_))))
 replace hr := bd hr; obtain ⟨a, A1, hr⟩ := hr
 refine .aP (σ := fun z0 => match z0 with | (l9, N) => ⟨mkS 284 0 [(1, slT aj.c p), (3, .hp 0 0), (10, .hp 1 0), (11, .hp 3 0), (12, ag 0), (14, ag ((Ew windows.e0.e0).tmod o.Width)), (15, ag ((Ew windows.e0.e1).tmod o.Height)), (19, slT (iC .u64) q.2.1), (73, .agg [aU8 windows.e0.e0, aU8 windows.e0.e1, aU8 windows.e0.e2, aU8 windows.e0.e3, aU8 windows.e1.e0, aU8 windows.e1.e1, aU8 windows.e1.e2, aU8 windows.e1.e3, aU8 windows.e2.e0, aU8 windows.e2.e1, aU8 windows.e2.e2, aU8 windows.e2.e3]), (74, ag 0), (138, slT ah.c q.1), (139, ag (q.1.length : Int)), (140, ag N)], [.own (ak.c o), .own [.hs 2 0 l9.length 2, nS, nS], .own (l9.flatMap ah.c), .own [nS, nS, nS]]⟩) (Q := fun x st' => x = .exit 2 /\ Wk 0 st' ⟨mkS 284 0 [(1, slT aj.c p), (3, .hp 0 0), (10, .hp 1 0), (11, .hp 3 0), (12, ag 0), (19, slT (iC .u64) q.2.1), (73, .agg [aU8 windows.e0.e0, aU8 windows.e0.e1, aU8 windows.e0.e2, aU8 windows.e0.e3, aU8 windows.e1.e0, aU8 windows.e1.e1, aU8 windows.e1.e2, aU8 windows.e1.e3, aU8 windows.e2.e0, aU8 windows.e2.e1, aU8 windows.e2.e2, aU8 windows.e2.e3]), (74, ag 0)], [.own (ak.c o), .own [.hs 2 0 a.length 2, nS, nS], .own (a.flatMap ah.c), .own [nS, nS, nS]]⟩) A1 ((Wk.mK 2 0 2 (cs := [nS, nS, nS]) kRf kRf).trans ((Wk.gc [1, 3, 10, 11, 12, 14, 15, 19, 73, 74, 138, 139, 140] [(0, true), (2, true), (6, false), (3, true)] rfl (pKt (pKt (pKc trivial)))).to)) ?_ ?_
 ·clear hr
  rintro m ⟨l9, N⟩ hr
  refine CQ.sh ?_
  refine .seq (.r3 G 284 [(1, slT aj.c p), (3, .hp 0 0), (10, .hp 1 0), (11, .hp 3 0), (12, ag 0), (14, ag ((Ew windows.e0.e0).tmod o.Width)), (15, ag ((Ew windows.e0.e1).tmod o.Height)), (19, slT (iC .u64) q.2.1), (73, .agg [aU8 windows.e0.e0, aU8 windows.e0.e1, aU8 windows.e0.e2, aU8 windows.e0.e3, aU8 windows.e1.e0, aU8 windows.e1.e1, aU8 windows.e1.e2, aU8 windows.e1.e3, aU8 windows.e2.e0, aU8 windows.e2.e1, aU8 windows.e2.e2, aU8 windows.e2.e3]), (74, ag 0), (138, slT ah.c q.1), (139, ag (q.1.length : Int)), (140, ag N), (141, aB (decide (N < (q.1.length : Int))))] (.seq ?_))
  refine .cd hr ?_ ?_ <;> intro D5 hr
  ·refine .skip (.seq (.block (.seq ?_)))
   obtain ⟨A8, hr⟩ := gd hr
   refine .r0 G (.p0 (v := .pp (q.1.flatMap ah.c) (N.toNat * 2)) (tr (aq A8)) (.p0 (v := .agg (ah.c (gt q.1 N))) (tr (y := bc.ofP (eE (decide (2 <= ((q.1.flatMap ah.c).drop (N.toNat * 2)).length)) (.agg (((q.1.flatMap ah.c).drop (N.toNat * 2)).take 2)))) (cz ah.len (ax A8) (by decide) (by omega : N.toNat * 2 = N.toNat * 2 + 0) kRf)) (.mu 2 (.done (.n2 284 [(1, slT aj.c p), (3, .hp 0 0), (10, .hp 1 0), (11, .hp 3 0), (12, ag 0), (14, ag ((Ew windows.e0.e0).tmod o.Width)), (15, ag ((Ew windows.e0.e1).tmod o.Height)), (19, slT (iC .u64) q.2.1), (22, .hp 4 0), (73, .agg [aU8 windows.e0.e0, aU8 windows.e0.e1, aU8 windows.e0.e2, aU8 windows.e0.e3, aU8 windows.e1.e0, aU8 windows.e1.e1, aU8 windows.e1.e2, aU8 windows.e1.e3, aU8 windows.e2.e0, aU8 windows.e2.e1, aU8 windows.e2.e2, aU8 windows.e2.e3]), (74, ag 0), (138, slT ah.c q.1), (139, ag (q.1.length : Int)), (140, ag N)] [.own (ak.c o), .own [.hs 2 0 l9.length 2, nS, nS], .own (l9.flatMap ah.c), .own [nS, nS, nS], .own (ah.c (gt q.1 N))] ?_)))))
   obtain ⟨C0, Da, hr⟩ := gd2 hr
   refine .ba G aK (.mu 14 (.ek (v := .hs 6 0 (l9 ++ [ah.mk (Ew ((gt q.1 N).X + ((Ew windows.e0.e0).tmod o.Width))) (Ew ((gt q.1 N).Y + ((Ew windows.e0.e1).tmod o.Height)))]).length 2) (ws := [(2, .dead), (6, .own ((l9 ++ [ah.mk (Ew ((gt q.1 N).X + ((Ew windows.e0.e0).tmod o.Width))) (Ew ((gt q.1 N).Y + ((Ew windows.e0.e1).tmod o.Height)))]).flatMap ah.c))]) (tr (dm (new := [ag (Ew ((gt q.1 N).X + ((Ew windows.e0.e0).tmod o.Width))), ag (Ew ((gt q.1 N).Y + ((Ew windows.e0.e1).tmod o.Height)))]) (l := l9) (xs := [ah.mk (Ew ((gt q.1 N).X + ((Ew windows.e0.e0).tmod o.Width))) (Ew ((gt q.1 N).Y + ((Ew windows.e0.e1).tmod o.Height)))]) ah.len rfl rfl kRf C0 Da)) (.mu 2 ?_)))
   refine .done (kRa ?_)
   refine .pop (.ru G ?_)
   exact aF (l9 ++ [ah.mk (Ew ((gt q.1 N).X + ((Ew windows.e0.e0).tmod o.Width))) (Ew ((gt q.1 N).Y + ((Ew windows.e0.e1).tmod o.Height)))], Ew (N + 1)) hr ((Wk.gc [1, 3, 10, 11, 12, 14, 15, 19, 73, 74, 138, 139, 140] [(0, true), (1, true), (6, false), (3, true)] rfl (pKt (pKt (pKo ah.c ah.pure (l9 ++ [ah.mk (Ew ((gt q.1 N).X + ((Ew windows.e0.e0).tmod o.Width))) (Ew ((gt q.1 N).Y + ((Ew windows.e0.e1).tmod o.Height)))]) trivial)))).to)
  refine .leave rfl ?_
  obtain rfl := oi hr
  exact ⟨rfl, ((Wk.gc [1, 3, 10, 11, 12, 19, 73, 74] [(0, true), (1, true), (2, false), (3, true)] rfl (pKt (pKt (pKo ah.c ah.pure l9 trivial)))).to)⟩
 rintro x st' xc
 clear A1
 obtain ⟨rfl, xc⟩ := xc
 refine a8 _ rfl (.wk xc (.ru G (.pop (.ru G (UNR.next (.n2 284 [(1, slT aj.c p), (3, .hp 0 0), (10, .hp 1 0), (11, .hp 3 0), (73, .agg [aU8 windows.e0.e0, aU8 windows.e0.e1, aU8 windows.e0.e2, aU8 windows.e0.e3, aU8 windows.e1.e0, aU8 windows.e1.e1, aU8 windows.e1.e2, aU8 windows.e1.e3, aU8 windows.e2.e0, aU8 windows.e2.e1, aU8 windows.e2.e2, aU8 windows.e2.e3]), (74, ag 1)] [.own (ak.c o), .own [.hs 2 0 a.length 2, nS, nS], .own (a.flatMap ah.c), .own [slT (iC .u64) q.2.1, nS, nS]] (.seq (.r3 G 284 [(1, slT aj.c p), (3, .hp 0 0), (10, .hp 1 0), (11, .hp 3 0), (73, .agg [aU8 windows.e0.e0, aU8 windows.e0.e1, aU8 windows.e0.e2, aU8 windows.e0.e3, aU8 windows.e1.e0, aU8 windows.e1.e1, aU8 windows.e1.e2, aU8 windows.e1.e3, aU8 windows.e2.e0, aU8 windows.e2.e1, aU8 windows.e2.e2, aU8 windows.e2.e3]), (74, ag 1), (75, aB true)] (.seq (.cT kRf (.skip (.seq (.block (.seq (.r2 G 284 [(1, slT aj.c p), (3, .hp 0 0), (10, .hp 1 0), (11, .hp 3 0), (12, ag 1), (13, .hp 4 0), (73, .agg [aU8 windows.e0.e0, aU8 windows.e0.e1, aU8 windows.e0.e2, aU8 windows.e0.e3, aU8 windows.e1.e0, aU8 windows.e1.e1, aU8 windows.e1.e2, aU8 windows.e1.e3, aU8 windows.e2.e0, aU8 windows.e2.e1, aU8 windows.e2.e2, aU8 windows.e2.e3]), (74, ag 1)] [.own (ak.c o), .own [.hs 2 0 a.length 2, nS, nS], .own (a.flatMap ah.c), .own [slT (iC .u64) q.2.1, nS, nS], .own [aU8 windows.e1.e0, aU8 windows.e1.e1, aU8 windows.e1.e2, aU8 windows.e1.e3]] (.seq (.ba G aK (.mu 5 (.pk (v := ag ((Ew windows.e1.e0).tmod o.Width)) (jy (x := Ew windows.e1.e0) (y := o.Width) kRf kRf wE) (.mu 5 (.pk (v := ag ((Ew windows.e1.e1).tmod o.Height)) (jy (x := Ew windows.e1.e1) (y := o.Height) kRf kRf xa) (.mu 2 ?_))))))))))))))))))))))
 refine .done (kRa ?_)
 refine .n2 284 [(1, slT aj.c p), (3, .hp 0 0), (10, .hp 1 0), (11, .hp 3 0), (12, ag 1), (13, .hp 4 0), (14, ag ((Ew windows.e1.e0).tmod o.Width)), (15, ag ((Ew windows.e1.e1).tmod o.Height)), (73, .agg [aU8 windows.e0.e0, aU8 windows.e0.e1, aU8 windows.e0.e2, aU8 windows.e0.e3, aU8 windows.e1.e0, aU8 windows.e1.e1, aU8 windows.e1.e2, aU8 windows.e1.e3, aU8 windows.e2.e0, aU8 windows.e2.e1, aU8 windows.e2.e2, aU8 windows.e2.e3]), (74, ag 1)] [.own (ak.c o), .own [.hs 2 0 a.length 2, nS, nS], .own (a.flatMap ah.c), .own [slT (iC .u64) q.2.1, nS, nS], .own [aU8 windows.e1.e0, aU8 windows.e1.e1, aU8 windows.e1.e2, aU8 windows.e1.e3]] (.seq ?_)
 obtain ⟨Cl, Dm, hr⟩ := gd2 hr
 obtain ⟨kh, Ds, hr⟩ := bd hr
 refine .t1 G (ok0 (jT n o ((Ew windows.e1.e0).tmod o.Width) ((Ew windows.e1.e1).tmod o.Height) (Ew (1 + ((Ew windows.e1.e2).tmod (Ew (o.Width - ((Ew windows.e1.e0).tmod o.Width)))))) (Ew (1 + ((Ew windows.e1.e3).tmod (Ew (o.Height - ((Ew windows.e1.e1).tmod o.Height)))))) kh Ds)) (.mu 10 (.pk (v := ag ((Ew windows.e1.e2).tmod (Ew (o.Width - ((Ew windows.e1.e0).tmod o.Width))))) (jy (x := Ew windows.e1.e2) (y := Ew (o.Width - ((Ew windows.e1.e0).tmod o.Width))) kRf kRf Cl) (.mu 8 (.pk (v := ag ((Ew windows.e1.e3).tmod (Ew (o.Height - ((Ew windows.e1.e1).tmod o.Height))))) (jy (x := Ew windows.e1.e3) (y := Ew (o.Height - ((Ew windows.e1.e1).tmod o.Height))) kRf kRf Dm) (.mu 1 (.ca cf0 (.mu 6 ?_)))))))
 refine .done (kRa ?_)
 refine .n2 284 [(1, slT aj.c p), (3, .hp 0 0), (10, .hp 1 0), (11, .hp 3 0), (12, ag 1), (14, ag ((Ew windows.e1.e0).tmod o.Width)), (15, ag ((Ew windows.e1.e1).tmod o.Height)), (16, .hp 5 0), (17, ag kh.2), (73, .agg [aU8 windows.e0.e0, aU8 windows.e0.e1, aU8 windows.e0.e2, aU8 windows.e0.e3, aU8 windows.e1.e0, aU8 windows.e1.e1, aU8 windows.e1.e2, aU8 windows.e1.e3, aU8 windows.e2.e0, aU8 windows.e2.e1, aU8 windows.e2.e2, aU8 windows.e2.e3]), (74, ag 1)] [.own (ak.c o), .own [.hs 2 0 a.length 2, nS, nS], .own (a.flatMap ah.c), .own [slT (iC .u64) q.2.1, nS, nS], .own [aU8 windows.e1.e0, aU8 windows.e1.e1, aU8 windows.e1.e2, aU8 windows.e1.e3], .own (ak.c kh.1)] (.seq ?_)
 obtain ⟨w, Cf, hr⟩ := bd hr
 refine .g1 G (ok0 (eZ n kh.1 p w Cf)) (.mu 2 (.ca cf0 (.mu 7 (.done (.n2 284 [(1, slT aj.c p), (3, .hp 0 0), (10, .hp 1 0), (11, .hp 3 0), (12, ag 1), (14, ag ((Ew windows.e1.e0).tmod o.Width)), (15, ag ((Ew windows.e1.e1).tmod o.Height)), (17, ag kh.2), (18, slT ah.c w.1), (19, slT (iC .u64) w.2.1), (20, ag w.2.2), (73, .agg [aU8 windows.e0.e0, aU8 windows.e0.e1, aU8 windows.e0.e2, aU8 windows.e0.e3, aU8 windows.e1.e0, aU8 windows.e1.e1, aU8 windows.e1.e2, aU8 windows.e1.e3, aU8 windows.e2.e0, aU8 windows.e2.e1, aU8 windows.e2.e2, aU8 windows.e2.e3]), (74, ag 1)] [.own (ak.c o), .own [.hs 2 0 a.length 2, nS, nS], .own (a.flatMap ah.c), .own [slT (iC .u64) q.2.1, nS, nS], .own [aU8 windows.e1.e0, aU8 windows.e1.e1, aU8 windows.e1.e2, aU8 windows.e1.e3], .own (ak.c kh.1)] (.seq (.seq ?_)))))))
 rcases bT ((kh.2 : Int) != 0) with ns | ns
 ·replace hr := cB ns hr
  refine .r0 G (.mu 1 (.p0 (v := aB true) (eB ns) (.mu 11 (.done (.n2 284 [(1, slT aj.c p), (3, .hp 0 0), (10, .hp 1 0), (11, .hp 3 0), (12, ag 1), (14, ag ((Ew windows.e1.e0).tmod o.Width)), (15, ag ((Ew windows.e1.e1).tmod o.Height)), (18, slT ah.c w.1), (19, slT (iC .u64) w.2.1), (73, .agg [aU8 windows.e0.e0, aU8 windows.e0.e1, aU8 windows.e0.e2, aU8 windows.e0.e3, aU8 windows.e1.e0, aU8 windows.e1.e1, aU8 windows.e1.e2, aU8 windows.e1.e3, aU8 windows.e2.e0, aU8 windows.e2.e1, aU8 windows.e2.e2, aU8 windows.e2.e3]), (74, ag 1), (134, aB true)] [.own (ak.c o), .own [.hs 2 0 a.length 2, nS, nS], .own (a.flatMap ah.c), .own [slT (iC .u64) q.2.1, nS, nS], .own [aU8 windows.e1.e0, aU8 windows.e1.e1, aU8 windows.e1.e2, aU8 windows.e1.e3], .own (ak.c kh.1)] (.cT kRf (.seq (.ru G (.ret (unF.ret ?_))))))))))
  obtain rfl := oi hr
  exact aS.r1 [aB false]
 replace hr := cC ns hr
 rcases bT ((w.2.2 : Int) != 0) with p9 | p9
 ·replace hr := cB p9 hr
  refine .r0 G (.mu 1 (.p0 (v := aB false) (eB ns) (.mu 2 (.pure (v := aB true) kRf (eB p9) (.mu 8 (.done (.n2 284 [(1, slT aj.c p), (3, .hp 0 0), (10, .hp 1 0), (11, .hp 3 0), (12, ag 1), (14, ag ((Ew windows.e1.e0).tmod o.Width)), (15, ag ((Ew windows.e1.e1).tmod o.Height)), (18, slT ah.c w.1), (19, slT (iC .u64) w.2.1), (73, .agg [aU8 windows.e0.e0, aU8 windows.e0.e1, aU8 windows.e0.e2, aU8 windows.e0.e3, aU8 windows.e1.e0, aU8 windows.e1.e1, aU8 windows.e1.e2, aU8 windows.e1.e3, aU8 windows.e2.e0, aU8 windows.e2.e1, aU8 windows.e2.e2, aU8 windows.e2.e3]), (74, ag 1), (134, aB true)] [.own (ak.c o), .own [.hs 2 0 a.length 2, nS, nS], .own (a.flatMap ah.c), .own [slT (iC .u64) q.2.1, nS, nS], .own [aU8 windows.e1.e0, aU8 windows.e1.e1, aU8 windows.e1.e2, aU8 windows.e1.e3], .own (ak.c kh.1)] (.cT kRf (.seq (.ru G (.ret (unF.ret ?_))))))))))))
  obtain rfl := oi hr
  exact aS.r1 [aB false]
 replace hr := cC p9 hr
 refine .r0 G (.mu 1 (.p0 (v := aB false) (eB ns) (.mu 2 (.pure (v := aB false) kRf (eB p9) (.mu 8 (.done (.n2 284 [(1, slT aj.c p), (3, .hp 0 0), (10, .hp 1 0), (11, .hp 3 0), (12, ag 1), (14, ag ((Ew windows.e1.e0).tmod o.Width)), (15, ag ((Ew windows.e1.e1).tmod o.Height)), (18, slT ah.c w.1), (19, slT (iC .u64) w.2.1), (73, .agg [aU8 windows.e0.e0, aU8 windows.e0.e1, aU8 windows.e0.e2, aU8 windows.e0.e3, aU8 windows.e1.e0, aU8 windows.e1.e1, aU8 windows.e1.e2, aU8 windows.e1.e3, aU8 windows.e2.e0, aU8 windows.e2.e1, aU8 windows.e2.e2, aU8 windows.e2.e3]), (74, ag 1), (134, aB (((w.1.length : Int) : Int) != (w.2.1.length : Int)))] [.own (ak.c o), .own [.hs 2 0 a.length 2, nS, nS], .own (a.flatMap ah.c), .own [slT (iC .u64) q.2.1, nS, nS], .own [aU8 windows.e1.e0, aU8 windows.e1.e1, aU8 windows.e1.e2, aU8 windows.e1.e3], .own (ak.c kh.1)] ?_)))))))
 refine .cd hr ?_ ?_ <;> intro DT hr
 ·refine .seq (.ru G (.ret (unF.ret ?_)))
  obtain rfl := oi hr
  exact aS.r1 [aB false]
 refine .skip (.seq (.seq (.r3 G 284 [(1, slT aj.c p), (3, .hp 0 0), (10, .hp 1 0), (11, .hp 3 0), (12, ag 1), (14, ag ((Ew windows.e1.e0).tmod o.Width)), (15, ag ((Ew windows.e1.e1).tmod o.Height)), (18, slT ah.c w.1), (19, slT (iC .u64) w.2.1), (73, .agg [aU8 windows.e0.e0, aU8 windows.e0.e1, aU8 windows.e0.e2, aU8 windows.e0.e3, aU8 windows.e1.e0, aU8 windows.e1.e1, aU8 windows.e1.e2, aU8 windows.e1.e3, aU8 windows.e2.e0, aU8 windows.e2.e1, aU8 windows.e2.e2, aU8 windows.e2.e3]), (74, ag 1), (137, aB (decide ((w.2.1.length : Int) > 64)))] ?_)))
 refine .cd hr ?_ ?_ <;> intro El hr
 ·refine .seq (.ru G (.ret (unF.ret ?_)))
  obtain rfl := oi hr
  exact aS.r1 [aB true]
 refine .skip (.seq (.seq (.r3 G 284 [(1, slT aj.c p), (3, .hp 0 0), (10, .hp 1 0), (11, .hp 3 0), (12, ag 1), (14, ag ((Ew windows.e1.e0).tmod o.Width)), (15, ag ((Ew windows.e1.e1).tmod o.Height)), (19, slT (iC .u64) w.2.1), (73, .agg [aU8 windows.e0.e0, aU8 windows.e0.e1, aU8 windows.e0.e2, aU8 windows.e0.e3, aU8 windows.e1.e0, aU8 windows.e1.e1, aU8 windows.e1.e2, aU8 windows.e1.e3, aU8 windows.e2.e0, aU8 windows.e2.e1, aU8 windows.e2.e2, aU8 windows.e2.e3]), (74, ag 1), (138, slT ah.c w.1), (139, ag (w.1.length : Int)), (140, ag 0)] (.block ?_))))
 replace hr := bd hr; obtain ⟨b, AN, hr⟩ := hr
 refine .aP (σ := fun z0 => match z0 with | (l4, O) => ⟨mkS 284 0 [(1, slT aj.c p), (3, .hp 0 0), (10, .hp 1 0), (11, .hp 4 0), (12, ag 1), (14, ag ((Ew windows.e1.e0).tmod o.Width)), (15, ag ((Ew windows.e1.e1).tmod o.Height)), (19, slT (iC .u64) w.2.1), (73, .agg [aU8 windows.e0.e0, aU8 windows.e0.e1, aU8 windows.e0.e2, aU8 windows.e0.e3, aU8 windows.e1.e0, aU8 windows.e1.e1, aU8 windows.e1.e2, aU8 windows.e1.e3, aU8 windows.e2.e0, aU8 windows.e2.e1, aU8 windows.e2.e2, aU8 windows.e2.e3]), (74, ag 1), (138, slT ah.c w.1), (139, ag (w.1.length : Int)), (140, ag O)], [.own (ak.c o), .own [.hs 2 0 a.length 2, .hs 3 0 l4.length 2, nS], .own (a.flatMap ah.c), .own (l4.flatMap ah.c), .own [slT (iC .u64) q.2.1, nS, nS]]⟩) (Q := fun x st' => x = .exit 2 /\ Wk 0 st' ⟨mkS 284 0 [(1, slT aj.c p), (3, .hp 0 0), (10, .hp 1 0), (11, .hp 4 0), (12, ag 1), (19, slT (iC .u64) w.2.1), (73, .agg [aU8 windows.e0.e0, aU8 windows.e0.e1, aU8 windows.e0.e2, aU8 windows.e0.e3, aU8 windows.e1.e0, aU8 windows.e1.e1, aU8 windows.e1.e2, aU8 windows.e1.e3, aU8 windows.e2.e0, aU8 windows.e2.e1, aU8 windows.e2.e2, aU8 windows.e2.e3]), (74, ag 1)], [.own (ak.c o), .own [.hs 2 0 a.length 2, .hs 3 0 b.length 2, nS], .own (a.flatMap ah.c), .own (b.flatMap ah.c), .own [slT (iC .u64) q.2.1, nS, nS]]⟩) AN ((Wk.mK 1 1 2 (cs := [.hs 2 0 a.length 2, nS, nS]) kRf kRf).trans ((Wk.gc [1, 3, 10, 11, 12, 14, 15, 19, 73, 74, 138, 139, 140] [(0, true), (1, true), (2, false), (6, false), (3, true)] rfl (pKt (pKt (pKo ah.c ah.pure a (pKc trivial))))).to)) ?_ ?_
 ·clear hr
  rintro m ⟨l4, O⟩ hr
  refine CQ.sh ?_
  refine .seq (.r3 G 284 [(1, slT aj.c p), (3, .hp 0 0), (10, .hp 1 0), (11, .hp 4 0), (12, ag 1), (14, ag ((Ew windows.e1.e0).tmod o.Width)), (15, ag ((Ew windows.e1.e1).tmod o.Height)), (19, slT (iC .u64) w.2.1), (73, .agg [aU8 windows.e0.e0, aU8 windows.e0.e1, aU8 windows.e0.e2, aU8 windows.e0.e3, aU8 windows.e1.e0, aU8 windows.e1.e1, aU8 windows.e1.e2, aU8 windows.e1.e3, aU8 windows.e2.e0, aU8 windows.e2.e1, aU8 windows.e2.e2, aU8 windows.e2.e3]), (74, ag 1), (138, slT ah.c w.1), (139, ag (w.1.length : Int)), (140, ag O), (141, aB (decide (O < (w.1.length : Int))))] (.seq ?_))
  refine .cd hr ?_ ?_ <;> intro DP hr
  ·refine .skip (.seq (.block (.seq ?_)))
   obtain ⟨AH, hr⟩ := gd hr
   refine .r0 G (.p0 (v := .pp (w.1.flatMap ah.c) (O.toNat * 2)) (tr (aq AH)) (.p0 (v := .agg (ah.c (gt w.1 O))) (tr (y := bc.ofP (eE (decide (2 <= ((w.1.flatMap ah.c).drop (O.toNat * 2)).length)) (.agg (((w.1.flatMap ah.c).drop (O.toNat * 2)).take 2)))) (cz ah.len (ax AH) (by decide) (by omega : O.toNat * 2 = O.toNat * 2 + 0) kRf)) (.mu 2 (.done (.n2 284 [(1, slT aj.c p), (3, .hp 0 0), (10, .hp 1 0), (11, .hp 4 0), (12, ag 1), (14, ag ((Ew windows.e1.e0).tmod o.Width)), (15, ag ((Ew windows.e1.e1).tmod o.Height)), (19, slT (iC .u64) w.2.1), (22, .hp 5 0), (73, .agg [aU8 windows.e0.e0, aU8 windows.e0.e1, aU8 windows.e0.e2, aU8 windows.e0.e3, aU8 windows.e1.e0, aU8 windows.e1.e1, aU8 windows.e1.e2, aU8 windows.e1.e3, aU8 windows.e2.e0, aU8 windows.e2.e1, aU8 windows.e2.e2, aU8 windows.e2.e3]), (74, ag 1), (138, slT ah.c w.1), (139, ag (w.1.length : Int)), (140, ag O)] [.own (ak.c o), .own [.hs 2 0 a.length 2, .hs 3 0 l4.length 2, nS], .own (a.flatMap ah.c), .own (l4.flatMap ah.c), .own [slT (iC .u64) q.2.1, nS, nS], .own (ah.c (gt w.1 O))] ?_)))))
   obtain ⟨CR, Cw, hr⟩ := gd2 hr
   refine .ba G aK (.mu 14 (.ek (v := .hs 7 0 (l4 ++ [ah.mk (Ew ((gt w.1 O).X + ((Ew windows.e1.e0).tmod o.Width))) (Ew ((gt w.1 O).Y + ((Ew windows.e1.e1).tmod o.Height)))]).length 2) (ws := [(3, .dead), (7, .own ((l4 ++ [ah.mk (Ew ((gt w.1 O).X + ((Ew windows.e1.e0).tmod o.Width))) (Ew ((gt w.1 O).Y + ((Ew windows.e1.e1).tmod o.Height)))]).flatMap ah.c))]) (tr (dm (new := [ag (Ew ((gt w.1 O).X + ((Ew windows.e1.e0).tmod o.Width))), ag (Ew ((gt w.1 O).Y + ((Ew windows.e1.e1).tmod o.Height)))]) (l := l4) (xs := [ah.mk (Ew ((gt w.1 O).X + ((Ew windows.e1.e0).tmod o.Width))) (Ew ((gt w.1 O).Y + ((Ew windows.e1.e1).tmod o.Height)))]) ah.len rfl rfl kRf CR Cw)) (.mu 2 ?_)))
   refine .done (kRa ?_)
   refine .pop (.ru G ?_)
   exact aF (l4 ++ [ah.mk (Ew ((gt w.1 O).X + ((Ew windows.e1.e0).tmod o.Width))) (Ew ((gt w.1 O).Y + ((Ew windows.e1.e1).tmod o.Height)))], Ew (O + 1)) hr ((Wk.gc [1, 3, 10, 11, 12, 14, 15, 19, 73, 74, 138, 139, 140] [(0, true), (1, true), (2, false), (7, false), (4, true)] rfl (pKt (pKt (pKo ah.c ah.pure a (pKo ah.c ah.pure (l4 ++ [ah.mk (Ew ((gt w.1 O).X + ((Ew windows.e1.e0).tmod o.Width))) (Ew ((gt w.1 O).Y + ((Ew windows.e1.e1).tmod o.Height)))]) trivial))))).to)
  refine .leave rfl ?_
  obtain rfl := oi hr
  exact ⟨rfl, ((Wk.gc [1, 3, 10, 11, 12, 19, 73, 74] [(0, true), (1, true), (2, false), (3, false), (4, true)] rfl (pKt (pKt (pKo ah.c ah.pure a (pKo ah.c ah.pure l4 trivial))))).to)⟩
 rintro x st' w6
 clear AN
 obtain ⟨rfl, w6⟩ := w6
 refine a8 _ rfl (.wk w6 (.ru G (.pop (.ru G (UNR.next (.n2 284 [(1, slT aj.c p), (3, .hp 0 0), (10, .hp 1 0), (11, .hp 4 0), (73, .agg [aU8 windows.e0.e0, aU8 windows.e0.e1, aU8 windows.e0.e2, aU8 windows.e0.e3, aU8 windows.e1.e0, aU8 windows.e1.e1, aU8 windows.e1.e2, aU8 windows.e1.e3, aU8 windows.e2.e0, aU8 windows.e2.e1, aU8 windows.e2.e2, aU8 windows.e2.e3]), (74, ag 2)] [.own (ak.c o), .own [.hs 2 0 a.length 2, .hs 3 0 b.length 2, nS], .own (a.flatMap ah.c), .own (b.flatMap ah.c), .own [slT (iC .u64) q.2.1, slT (iC .u64) w.2.1, nS]] (.seq (.r3 G 284 [(1, slT aj.c p), (3, .hp 0 0), (10, .hp 1 0), (11, .hp 4 0), (73, .agg [aU8 windows.e0.e0, aU8 windows.e0.e1, aU8 windows.e0.e2, aU8 windows.e0.e3, aU8 windows.e1.e0, aU8 windows.e1.e1, aU8 windows.e1.e2, aU8 windows.e1.e3, aU8 windows.e2.e0, aU8 windows.e2.e1, aU8 windows.e2.e2, aU8 windows.e2.e3]), (74, ag 2), (75, aB true)] (.seq (.cT kRf (.skip (.seq (.block (.seq (.r2 G 284 [(1, slT aj.c p), (3, .hp 0 0), (10, .hp 1 0), (11, .hp 4 0), (12, ag 2), (13, .hp 5 0), (73, .agg [aU8 windows.e0.e0, aU8 windows.e0.e1, aU8 windows.e0.e2, aU8 windows.e0.e3, aU8 windows.e1.e0, aU8 windows.e1.e1, aU8 windows.e1.e2, aU8 windows.e1.e3, aU8 windows.e2.e0, aU8 windows.e2.e1, aU8 windows.e2.e2, aU8 windows.e2.e3]), (74, ag 2)] [.own (ak.c o), .own [.hs 2 0 a.length 2, .hs 3 0 b.length 2, nS], .own (a.flatMap ah.c), .own (b.flatMap ah.c), .own [slT (iC .u64) q.2.1, slT (iC .u64) w.2.1, nS], .own [aU8 windows.e2.e0, aU8 windows.e2.e1, aU8 windows.e2.e2, aU8 windows.e2.e3]] (.seq (.ba G aK (.mu 5 (.pk (v := ag ((Ew windows.e2.e0).tmod o.Width)) (jy (x := Ew windows.e2.e0) (y := o.Width) kRf kRf wE) (.mu 5 (.pk (v := ag ((Ew windows.e2.e1).tmod o.Height)) (jy (x := Ew windows.e2.e1) (y := o.Height) kRf kRf xa) (.mu 2 ?_))))))))))))))))))))))
 refine .done (kRa ?_)
 refine .n2 284 [(1, slT aj.c p), (3, .hp 0 0), (10, .hp 1 0), (11, .hp 4 0), (12, ag 2), (13, .hp 5 0), (14, ag ((Ew windows.e2.e0).tmod o.Width)), (15, ag ((Ew windows.e2.e1).tmod o.Height)), (73, .agg [aU8 windows.e0.e0, aU8 windows.e0.e1, aU8 windows.e0.e2, aU8 windows.e0.e3, aU8 windows.e1.e0, aU8 windows.e1.e1, aU8 windows.e1.e2, aU8 windows.e1.e3, aU8 windows.e2.e0, aU8 windows.e2.e1, aU8 windows.e2.e2, aU8 windows.e2.e3]), (74, ag 2)] [.own (ak.c o), .own [.hs 2 0 a.length 2, .hs 3 0 b.length 2, nS], .own (a.flatMap ah.c), .own (b.flatMap ah.c), .own [slT (iC .u64) q.2.1, slT (iC .u64) w.2.1, nS], .own [aU8 windows.e2.e0, aU8 windows.e2.e1, aU8 windows.e2.e2, aU8 windows.e2.e3]] (.seq ?_)
 obtain ⟨CO, Cz, hr⟩ := gd2 hr
 obtain ⟨jU, Cs, hr⟩ := bd hr
 refine .t1 G (ok0 (jT n o ((Ew windows.e2.e0).tmod o.Width) ((Ew windows.e2.e1).tmod o.Height) (Ew (1 + ((Ew windows.e2.e2).tmod (Ew (o.Width - ((Ew windows.e2.e0).tmod o.Width)))))) (Ew (1 + ((Ew windows.e2.e3).tmod (Ew (o.Height - ((Ew windows.e2.e1).tmod o.Height)))))) jU Cs)) (.mu 10 (.pk (v := ag ((Ew windows.e2.e2).tmod (Ew (o.Width - ((Ew windows.e2.e0).tmod o.Width))))) (jy (x := Ew windows.e2.e2) (y := Ew (o.Width - ((Ew windows.e2.e0).tmod o.Width))) kRf kRf CO) (.mu 8 (.pk (v := ag ((Ew windows.e2.e3).tmod (Ew (o.Height - ((Ew windows.e2.e1).tmod o.Height))))) (jy (x := Ew windows.e2.e3) (y := Ew (o.Height - ((Ew windows.e2.e1).tmod o.Height))) kRf kRf Cz) (.mu 1 (.ca cf0 (.mu 6 ?_)))))))
 refine .done (kRa ?_)
 refine .n2 284 [(1, slT aj.c p), (3, .hp 0 0), (10, .hp 1 0), (11, .hp 4 0), (12, ag 2), (14, ag ((Ew windows.e2.e0).tmod o.Width)), (15, ag ((Ew windows.e2.e1).tmod o.Height)), (16, .hp 6 0), (17, ag jU.2), (73, .agg [aU8 windows.e0.e0, aU8 windows.e0.e1, aU8 windows.e0.e2, aU8 windows.e0.e3, aU8 windows.e1.e0, aU8 windows.e1.e1, aU8 windows.e1.e2, aU8 windows.e1.e3, aU8 windows.e2.e0, aU8 windows.e2.e1, aU8 windows.e2.e2, aU8 windows.e2.e3]), (74, ag 2)] [.own (ak.c o), .own [.hs 2 0 a.length 2, .hs 3 0 b.length 2, nS], .own (a.flatMap ah.c), .own (b.flatMap ah.c), .own [slT (iC .u64) q.2.1, slT (iC .u64) w.2.1, nS], .own [aU8 windows.e2.e0, aU8 windows.e2.e1, aU8 windows.e2.e2, aU8 windows.e2.e3], .own (ak.c jU.1)] (.seq ?_)
 obtain ⟨C, Ch, hr⟩ := bd hr
 refine .g1 G (ok0 (eZ n jU.1 p C Ch)) (.mu 2 (.ca cf0 (.mu 7 (.done (.n2 284 [(1, slT aj.c p), (3, .hp 0 0), (10, .hp 1 0), (11, .hp 4 0), (12, ag 2), (14, ag ((Ew windows.e2.e0).tmod o.Width)), (15, ag ((Ew windows.e2.e1).tmod o.Height)), (17, ag jU.2), (18, slT ah.c C.1), (19, slT (iC .u64) C.2.1), (20, ag C.2.2), (73, .agg [aU8 windows.e0.e0, aU8 windows.e0.e1, aU8 windows.e0.e2, aU8 windows.e0.e3, aU8 windows.e1.e0, aU8 windows.e1.e1, aU8 windows.e1.e2, aU8 windows.e1.e3, aU8 windows.e2.e0, aU8 windows.e2.e1, aU8 windows.e2.e2, aU8 windows.e2.e3]), (74, ag 2)] [.own (ak.c o), .own [.hs 2 0 a.length 2, .hs 3 0 b.length 2, nS], .own (a.flatMap ah.c), .own (b.flatMap ah.c), .own [slT (iC .u64) q.2.1, slT (iC .u64) w.2.1, nS], .own [aU8 windows.e2.e0, aU8 windows.e2.e1, aU8 windows.e2.e2, aU8 windows.e2.e3], .own (ak.c jU.1)] (.seq (.seq ?_)))))))
 rcases bT ((jU.2 : Int) != 0) with nD | nD
 ·replace hr := cB nD hr
  refine .r0 G (.mu 1 (.p0 (v := aB true) (eB nD) (.mu 11 (.done (.n2 284 [(1, slT aj.c p), (3, .hp 0 0), (10, .hp 1 0), (11, .hp 4 0), (12, ag 2), (14, ag ((Ew windows.e2.e0).tmod o.Width)), (15, ag ((Ew windows.e2.e1).tmod o.Height)), (18, slT ah.c C.1), (19, slT (iC .u64) C.2.1), (73, .agg [aU8 windows.e0.e0, aU8 windows.e0.e1, aU8 windows.e0.e2, aU8 windows.e0.e3, aU8 windows.e1.e0, aU8 windows.e1.e1, aU8 windows.e1.e2, aU8 windows.e1.e3, aU8 windows.e2.e0, aU8 windows.e2.e1, aU8 windows.e2.e2, aU8 windows.e2.e3]), (74, ag 2), (134, aB true)] [.own (ak.c o), .own [.hs 2 0 a.length 2, .hs 3 0 b.length 2, nS], .own (a.flatMap ah.c), .own (b.flatMap ah.c), .own [slT (iC .u64) q.2.1, slT (iC .u64) w.2.1, nS], .own [aU8 windows.e2.e0, aU8 windows.e2.e1, aU8 windows.e2.e2, aU8 windows.e2.e3], .own (ak.c jU.1)] (.cT kRf (.seq (.ru G (.ret (unF.ret ?_))))))))))
  obtain rfl := oi hr
  exact aS.r1 [aB false]
 replace hr := cC nD hr
 rcases bT ((C.2.2 : Int) != 0) with pR | pR
 ·replace hr := cB pR hr
  refine .r0 G (.mu 1 (.p0 (v := aB false) (eB nD) (.mu 2 (.pure (v := aB true) kRf (eB pR) (.mu 8 (.done (.n2 284 [(1, slT aj.c p), (3, .hp 0 0), (10, .hp 1 0), (11, .hp 4 0), (12, ag 2), (14, ag ((Ew windows.e2.e0).tmod o.Width)), (15, ag ((Ew windows.e2.e1).tmod o.Height)), (18, slT ah.c C.1), (19, slT (iC .u64) C.2.1), (73, .agg [aU8 windows.e0.e0, aU8 windows.e0.e1, aU8 windows.e0.e2, aU8 windows.e0.e3, aU8 windows.e1.e0, aU8 windows.e1.e1, aU8 windows.e1.e2, aU8 windows.e1.e3, aU8 windows.e2.e0, aU8 windows.e2.e1, aU8 windows.e2.e2, aU8 windows.e2.e3]), (74, ag 2), (134, aB true)] [.own (ak.c o), .own [.hs 2 0 a.length 2, .hs 3 0 b.length 2, nS], .own (a.flatMap ah.c), .own (b.flatMap ah.c), .own [slT (iC .u64) q.2.1, slT (iC .u64) w.2.1, nS], .own [aU8 windows.e2.e0, aU8 windows.e2.e1, aU8 windows.e2.e2, aU8 windows.e2.e3], .own (ak.c jU.1)] (.cT kRf (.seq (.ru G (.ret (unF.ret ?_))))))))))))
  obtain rfl := oi hr
  exact aS.r1 [aB false]
 replace hr := cC pR hr
 refine .r0 G (.mu 1 (.p0 (v := aB false) (eB nD) (.mu 2 (.pure (v := aB false) kRf (eB pR) (.mu 8 (.done (.n2 284 [(1, slT aj.c p), (3, .hp 0 0), (10, .hp 1 0), (11, .hp 4 0), (12, ag 2), (14, ag ((Ew windows.e2.e0).tmod o.Width)), (15, ag ((Ew windows.e2.e1).tmod o.Height)), (18, slT ah.c C.1), (19, slT (iC .u64) C.2.1), (73, .agg [aU8 windows.e0.e0, aU8 windows.e0.e1, aU8 windows.e0.e2, aU8 windows.e0.e3, aU8 windows.e1.e0, aU8 windows.e1.e1, aU8 windows.e1.e2, aU8 windows.e1.e3, aU8 windows.e2.e0, aU8 windows.e2.e1, aU8 windows.e2.e2, aU8 windows.e2.e3]), (74, ag 2), (134, aB (((C.1.length : Int) : Int) != (C.2.1.length : Int)))] [.own (ak.c o), .own [.hs 2 0 a.length 2, .hs 3 0 b.length 2, nS], .own (a.flatMap ah.c), .own (b.flatMap ah.c), .own [slT (iC .u64) q.2.1, slT (iC .u64) w.2.1, nS], .own [aU8 windows.e2.e0, aU8 windows.e2.e1, aU8 windows.e2.e2, aU8 windows.e2.e3], .own (ak.c jU.1)] ?_)))))))
 refine .cd hr ?_ ?_ <;> intro DW hr
 ·refine .seq (.ru G (.ret (unF.ret ?_)))
  obtain rfl := oi hr
  exact aS.r1 [aB false]
 refine .skip (.seq (.seq (.r3 G 284 [(1, slT aj.c p), (3, .hp 0 0), (10, .hp 1 0), (11, .hp 4 0), (12, ag 2), (14, ag ((Ew windows.e2.e0).tmod o.Width)), (15, ag ((Ew windows.e2.e1).tmod o.Height)), (18, slT ah.c C.1), (19, slT (iC .u64) C.2.1), (73, .agg [aU8 windows.e0.e0, aU8 windows.e0.e1, aU8 windows.e0.e2, aU8 windows.e0.e3, aU8 windows.e1.e0, aU8 windows.e1.e1, aU8 windows.e1.e2, aU8 windows.e1.e3, aU8 windows.e2.e0, aU8 windows.e2.e1, aU8 windows.e2.e2, aU8 windows.e2.e3]), (74, ag 2), (137, aB (decide ((C.2.1.length : Int) > 64)))] ?_)))
 refine .cd hr ?_ ?_ <;> intro D4 hr
 ·refine .seq (.ru G (.ret (unF.ret ?_)))
  obtain rfl := oi hr
  exact aS.r1 [aB true]
 refine .skip (.seq (.seq (.r3 G 284 [(1, slT aj.c p), (3, .hp 0 0), (10, .hp 1 0), (11, .hp 4 0), (12, ag 2), (14, ag ((Ew windows.e2.e0).tmod o.Width)), (15, ag ((Ew windows.e2.e1).tmod o.Height)), (19, slT (iC .u64) C.2.1), (73, .agg [aU8 windows.e0.e0, aU8 windows.e0.e1, aU8 windows.e0.e2, aU8 windows.e0.e3, aU8 windows.e1.e0, aU8 windows.e1.e1, aU8 windows.e1.e2, aU8 windows.e1.e3, aU8 windows.e2.e0, aU8 windows.e2.e1, aU8 windows.e2.e2, aU8 windows.e2.e3]), (74, ag 2), (138, slT ah.c C.1), (139, ag (C.1.length : Int)), (140, ag 0)] (.block ?_))))
 replace hr := bd hr; obtain ⟨f, AG, hr⟩ := hr
 refine .aP (σ := fun z0 => match z0 with | (l6, R) => ⟨mkS 284 0 [(1, slT aj.c p), (3, .hp 0 0), (10, .hp 1 0), (11, .hp 5 0), (12, ag 2), (14, ag ((Ew windows.e2.e0).tmod o.Width)), (15, ag ((Ew windows.e2.e1).tmod o.Height)), (19, slT (iC .u64) C.2.1), (73, .agg [aU8 windows.e0.e0, aU8 windows.e0.e1, aU8 windows.e0.e2, aU8 windows.e0.e3, aU8 windows.e1.e0, aU8 windows.e1.e1, aU8 windows.e1.e2, aU8 windows.e1.e3, aU8 windows.e2.e0, aU8 windows.e2.e1, aU8 windows.e2.e2, aU8 windows.e2.e3]), (74, ag 2), (138, slT ah.c C.1), (139, ag (C.1.length : Int)), (140, ag R)], [.own (ak.c o), .own [.hs 2 0 a.length 2, .hs 3 0 b.length 2, .hs 4 0 l6.length 2], .own (a.flatMap ah.c), .own (b.flatMap ah.c), .own (l6.flatMap ah.c), .own [slT (iC .u64) q.2.1, slT (iC .u64) w.2.1, nS]]⟩) (Q := fun x st' => x = .exit 2 /\ Wk 0 st' ⟨mkS 284 0 [(1, slT aj.c p), (3, .hp 0 0), (10, .hp 1 0), (11, .hp 5 0), (12, ag 2), (19, slT (iC .u64) C.2.1), (73, .agg [aU8 windows.e0.e0, aU8 windows.e0.e1, aU8 windows.e0.e2, aU8 windows.e0.e3, aU8 windows.e1.e0, aU8 windows.e1.e1, aU8 windows.e1.e2, aU8 windows.e1.e3, aU8 windows.e2.e0, aU8 windows.e2.e1, aU8 windows.e2.e2, aU8 windows.e2.e3]), (74, ag 2)], [.own (ak.c o), .own [.hs 2 0 a.length 2, .hs 3 0 b.length 2, .hs 4 0 f.length 2], .own (a.flatMap ah.c), .own (b.flatMap ah.c), .own (f.flatMap ah.c), .own [slT (iC .u64) q.2.1, slT (iC .u64) w.2.1, nS]]⟩) AG ((Wk.mK 1 2 2 (cs := [.hs 2 0 a.length 2, .hs 3 0 b.length 2, nS]) kRf kRf).trans ((Wk.gc [1, 3, 10, 11, 12, 14, 15, 19, 73, 74, 138, 139, 140] [(0, true), (1, true), (2, false), (3, false), (7, false), (4, true)] rfl (pKt (pKt (pKo ah.c ah.pure a (pKo ah.c ah.pure b (pKc trivial)))))).to)) ?_ ?_
 ·clear hr
  rintro m ⟨l6, R⟩ hr
  refine CQ.sh ?_
  refine .seq (.r3 G 284 [(1, slT aj.c p), (3, .hp 0 0), (10, .hp 1 0), (11, .hp 5 0), (12, ag 2), (14, ag ((Ew windows.e2.e0).tmod o.Width)), (15, ag ((Ew windows.e2.e1).tmod o.Height)), (19, slT (iC .u64) C.2.1), (73, .agg [aU8 windows.e0.e0, aU8 windows.e0.e1, aU8 windows.e0.e2, aU8 windows.e0.e3, aU8 windows.e1.e0, aU8 windows.e1.e1, aU8 windows.e1.e2, aU8 windows.e1.e3, aU8 windows.e2.e0, aU8 windows.e2.e1, aU8 windows.e2.e2, aU8 windows.e2.e3]), (74, ag 2), (138, slT ah.c C.1), (139, ag (C.1.length : Int)), (140, ag R), (141, aB (decide (R < (C.1.length : Int))))] (.seq ?_))
  refine .cd hr ?_ ?_ <;> intro Ea hr
  ·refine .skip (.seq (.block (.seq ?_)))
   obtain ⟨AM, hr⟩ := gd hr
   refine .r0 G (.p0 (v := .pp (C.1.flatMap ah.c) (R.toNat * 2)) (tr (aq AM)) (.p0 (v := .agg (ah.c (gt C.1 R))) (tr (y := bc.ofP (eE (decide (2 <= ((C.1.flatMap ah.c).drop (R.toNat * 2)).length)) (.agg (((C.1.flatMap ah.c).drop (R.toNat * 2)).take 2)))) (cz ah.len (ax AM) (by decide) (by omega : R.toNat * 2 = R.toNat * 2 + 0) kRf)) (.mu 2 (.done (.n2 284 [(1, slT aj.c p), (3, .hp 0 0), (10, .hp 1 0), (11, .hp 5 0), (12, ag 2), (14, ag ((Ew windows.e2.e0).tmod o.Width)), (15, ag ((Ew windows.e2.e1).tmod o.Height)), (19, slT (iC .u64) C.2.1), (22, .hp 6 0), (73, .agg [aU8 windows.e0.e0, aU8 windows.e0.e1, aU8 windows.e0.e2, aU8 windows.e0.e3, aU8 windows.e1.e0, aU8 windows.e1.e1, aU8 windows.e1.e2, aU8 windows.e1.e3, aU8 windows.e2.e0, aU8 windows.e2.e1, aU8 windows.e2.e2, aU8 windows.e2.e3]), (74, ag 2), (138, slT ah.c C.1), (139, ag (C.1.length : Int)), (140, ag R)] [.own (ak.c o), .own [.hs 2 0 a.length 2, .hs 3 0 b.length 2, .hs 4 0 l6.length 2], .own (a.flatMap ah.c), .own (b.flatMap ah.c), .own (l6.flatMap ah.c), .own [slT (iC .u64) q.2.1, slT (iC .u64) w.2.1, nS], .own (ah.c (gt C.1 R))] ?_)))))
   obtain ⟨CT, Bh, hr⟩ := gd2 hr
   refine .ba G aK (.mu 14 (.ek (v := .hs 8 0 (l6 ++ [ah.mk (Ew ((gt C.1 R).X + ((Ew windows.e2.e0).tmod o.Width))) (Ew ((gt C.1 R).Y + ((Ew windows.e2.e1).tmod o.Height)))]).length 2) (ws := [(4, .dead), (8, .own ((l6 ++ [ah.mk (Ew ((gt C.1 R).X + ((Ew windows.e2.e0).tmod o.Width))) (Ew ((gt C.1 R).Y + ((Ew windows.e2.e1).tmod o.Height)))]).flatMap ah.c))]) (tr (dm (new := [ag (Ew ((gt C.1 R).X + ((Ew windows.e2.e0).tmod o.Width))), ag (Ew ((gt C.1 R).Y + ((Ew windows.e2.e1).tmod o.Height)))]) (l := l6) (xs := [ah.mk (Ew ((gt C.1 R).X + ((Ew windows.e2.e0).tmod o.Width))) (Ew ((gt C.1 R).Y + ((Ew windows.e2.e1).tmod o.Height)))]) ah.len rfl rfl kRf CT Bh)) (.mu 2 ?_)))
   refine .done (kRa ?_)
   refine .pop (.ru G ?_)
   exact aF (l6 ++ [ah.mk (Ew ((gt C.1 R).X + ((Ew windows.e2.e0).tmod o.Width))) (Ew ((gt C.1 R).Y + ((Ew windows.e2.e1).tmod o.Height)))], Ew (R + 1)) hr ((Wk.gc [1, 3, 10, 11, 12, 14, 15, 19, 73, 74, 138, 139, 140] [(0, true), (1, true), (2, false), (3, false), (8, false), (5, true)] rfl (pKt (pKt (pKo ah.c ah.pure a (pKo ah.c ah.pure b (pKo ah.c ah.pure (l6 ++ [ah.mk (Ew ((gt C.1 R).X + ((Ew windows.e2.e0).tmod o.Width))) (Ew ((gt C.1 R).Y + ((Ew windows.e2.e1).tmod o.Height)))]) trivial)))))).to)
  refine .leave rfl ?_
  obtain rfl := oi hr
  exact ⟨rfl, ((Wk.gc [1, 3, 10, 11, 12, 19, 73, 74] [(0, true), (1, true), (2, false), (3, false), (4, false), (5, true)] rfl (pKt (pKt (pKo ah.c ah.pure a (pKo ah.c ah.pure b (pKo ah.c ah.pure l6 trivial)))))).to)⟩
 rintro x st' yE
 clear AG
 obtain ⟨rfl, yE⟩ := yE
 refine a8 _ rfl (.wk yE (.ru G (.pop (.ru G (UNR.next (.n2 284 [(1, slT aj.c p), (3, .hp 0 0), (10, .hp 1 0), (11, .hp 5 0), (73, .agg [aU8 windows.e0.e0, aU8 windows.e0.e1, aU8 windows.e0.e2, aU8 windows.e0.e3, aU8 windows.e1.e0, aU8 windows.e1.e1, aU8 windows.e1.e2, aU8 windows.e1.e3, aU8 windows.e2.e0, aU8 windows.e2.e1, aU8 windows.e2.e2, aU8 windows.e2.e3]), (74, ag 3)] [.own (ak.c o), .own [.hs 2 0 a.length 2, .hs 3 0 b.length 2, .hs 4 0 f.length 2], .own (a.flatMap ah.c), .own (b.flatMap ah.c), .own (f.flatMap ah.c), .own [slT (iC .u64) q.2.1, slT (iC .u64) w.2.1, slT (iC .u64) C.2.1]] (.seq (.r3 G 284 [(1, slT aj.c p), (3, .hp 0 0), (10, .hp 1 0), (11, .hp 5 0), (73, .agg [aU8 windows.e0.e0, aU8 windows.e0.e1, aU8 windows.e0.e2, aU8 windows.e0.e3, aU8 windows.e1.e0, aU8 windows.e1.e1, aU8 windows.e1.e2, aU8 windows.e1.e3, aU8 windows.e2.e0, aU8 windows.e2.e1, aU8 windows.e2.e2, aU8 windows.e2.e3]), (74, ag 3), (75, aB false)] (.seq (.cF kRf (.leave rfl (unF.exit rfl (.seq (.r3 G 284 [(10, .hp 1 0), (11, .hp 5 0), (23, nS)] (.seq (.seq (.r3 G 284 [(10, .hp 1 0), (11, .hp 5 0), (23, nS), (165, ag 0)] (.block ?_))))))))))))))))))
 refine .o7 4 (UNR.one ?_)
 refine .seq (.r3 G 284 [(10, .hp 1 0), (11, .hp 5 0), (23, nS), (165, ag 0), (166, aB true)] (.seq (.cT kRf (.skip (.seq (.block (.seq (.r3 G 284 [(10, .hp 1 0), (11, .hp 5 0), (23, nS), (24, ag 0), (165, ag 0)] (.seq (.r3 G 284 [(10, .hp 1 0), (11, .hp 5 0), (23, nS), (24, ag 0), (25, ag 1), (165, ag 0)] (.block ?_)))))))))))
 refine .o7 3 (UNR.one ?_)
 refine .seq (.seq (.r3 G 284 [(10, .hp 1 0), (11, .hp 5 0), (23, nS), (24, ag 0), (25, ag 1), (165, ag 0), (171, aB true)] (.cT kRf (.skip (.seq (.block (.seq ?_)))))))
 obtain ⟨S, Br, hr⟩ := bd hr
 refine .t1 G (ok0 (fi n q.2.1 w.2.1 1 1 S Br)) (.mu 6 (.ca cf0 (.mu 5 ?_)))
 refine .done (kRa ?_)
 refine .n2 284 [(10, .hp 1 0), (11, .hp 5 0), (23, nS), (24, ag 0), (25, ag 1), (26, slT aI.c S.1), (27, ag S.2), (165, ag 0)] [.own (ak.c o), .own [.hs 2 0 a.length 2, .hs 3 0 b.length 2, .hs 4 0 f.length 2], .own (a.flatMap ah.c), .own (b.flatMap ah.c), .own (f.flatMap ah.c), .own [slT (iC .u64) q.2.1, slT (iC .u64) w.2.1, slT (iC .u64) C.2.1]] (.seq (.seq (.r3 G 284 [(10, .hp 1 0), (11, .hp 5 0), (23, nS), (24, ag 0), (25, ag 1), (26, slT aI.c S.1), (165, ag 0), (185, aB ((S.2 : Int) != 0))] ?_)))
 refine .cd hr ?_ ?_ <;> intro DA hr
 ·refine .seq (.ru G (.ret (unF.ret (unF.ret ?_))))
  obtain rfl := oi hr
  exact aS.r1 [aB false]
 refine .skip (.seq (.r3 G 284 [(10, .hp 1 0), (11, .hp 5 0), (23, nS), (24, ag 0), (25, ag 1), (165, ag 0), (186, slT aI.c S.1), (187, ag (S.1.length : Int)), (188, ag 0)] (.block ?_)))
 replace hr := bd hr; obtain ⟨l7, AB, hr⟩ := hr
 refine .aP (σ := fun z0 => match z0 with | (jF, M) => ⟨mkS 284 0 [(10, .hp 0 0), (11, .hp 4 0), (23, .hs 5 0 jF.length 5), (24, ag 0), (25, ag 1), (165, ag 0), (186, slT aI.c S.1), (187, ag (S.1.length : Int)), (188, ag M)], [.own [.hs 1 0 a.length 2, .hs 2 0 b.length 2, .hs 3 0 f.length 2], .own (a.flatMap ah.c), .own (b.flatMap ah.c), .own (f.flatMap ah.c), .own [slT (iC .u64) q.2.1, slT (iC .u64) w.2.1, slT (iC .u64) C.2.1], .own (jF.flatMap ai.c)]⟩) (Q := fun x st' => x = .exit 8 /\ Wk 0 st' ⟨mkS 284 0 [(10, .hp 0 0), (11, .hp 4 0), (23, .hs 5 0 l7.length 5), (24, ag 0), (25, ag 1), (165, ag 0)], [.own [.hs 1 0 a.length 2, .hs 2 0 b.length 2, .hs 3 0 f.length 2], .own (a.flatMap ah.c), .own (b.flatMap ah.c), .own (f.flatMap ah.c), .own [slT (iC .u64) q.2.1, slT (iC .u64) w.2.1, slT (iC .u64) C.2.1], .own (l7.flatMap ai.c)]⟩) AB ((Wk.nil 23 5 kRf).trans ((Wk.gc [10, 11, 23, 24, 25, 165, 186, 187, 188] [(1, true), (2, false), (3, false), (4, false), (5, true), (6, false)] rfl (pKt (pKo ah.c ah.pure a (pKo ah.c ah.pure b (pKo ah.c ah.pure f (pKt (pKc trivial))))))).to)) ?_ ?_
 ·clear hr
  rintro m ⟨jF, M⟩ hr
  refine CQ.sh ?_
  refine .seq (.r3 G 284 [(10, .hp 0 0), (11, .hp 4 0), (23, .hs 5 0 jF.length 5), (24, ag 0), (25, ag 1), (165, ag 0), (186, slT aI.c S.1), (187, ag (S.1.length : Int)), (188, ag M), (189, aB (decide (M < (S.1.length : Int))))] (.seq ?_))
  refine .cd hr ?_ ?_ <;> intro En hr
  ·refine .skip (.seq (.block (.seq ?_)))
   obtain ⟨A6, hr⟩ := gd hr
   refine .r0 G (.p0 (v := .pp (S.1.flatMap aI.c) (M.toNat * 3)) (tr (aq A6)) (.p0 (v := .agg (aI.c (gt S.1 M))) (tr (y := bc.ofP (eE (decide (3 <= ((S.1.flatMap aI.c).drop (M.toNat * 3)).length)) (.agg (((S.1.flatMap aI.c).drop (M.toNat * 3)).take 3)))) (cz aI.len (ax A6) (by decide) (by omega : M.toNat * 3 = M.toNat * 3 + 0) kRf)) (.mu 2 (.done (.n2 284 [(10, .hp 0 0), (11, .hp 4 0), (23, .hs 5 0 jF.length 5), (24, ag 0), (25, ag 1), (29, .hp 6 0), (165, ag 0), (186, slT aI.c S.1), (187, ag (S.1.length : Int)), (188, ag M)] [.own [.hs 1 0 a.length 2, .hs 2 0 b.length 2, .hs 3 0 f.length 2], .own (a.flatMap ah.c), .own (b.flatMap ah.c), .own (f.flatMap ah.c), .own [slT (iC .u64) q.2.1, slT (iC .u64) w.2.1, slT (iC .u64) C.2.1], .own (jF.flatMap ai.c), .own (aI.c (gt S.1 M))] (.seq (.r3 G 284 [(10, .hp 0 0), (11, .hp 4 0), (23, .hs 5 0 jF.length 5), (24, ag 0), (25, ag 1), (29, .hp 6 0), (165, ag 0), (186, slT aI.c S.1), (187, ag (S.1.length : Int)), (188, ag M), (194, aB (((gt S.1 M).Distance : Int) == 0))] ?_)))))))
   refine .cd hr ?_ ?_ <;> intro D8 hr
   ·obtain ⟨Ce, Cp, hr⟩ := gd2 hr
    refine .r0 G (.mu 11 (.e0 (v := .hs 8 0 (jF ++ [ai.mk (aa.mk 0 (gt S.1 M).First) (aa.mk 1 (gt S.1 M).Second) 0]).length 5) (ws := [(5, .dead), (8, .own ((jF ++ [ai.mk (aa.mk 0 (gt S.1 M).First) (aa.mk 1 (gt S.1 M).Second) 0]).flatMap ai.c))]) (tr (dm (new := [ag 0, ag (gt S.1 M).First, ag 1, ag (gt S.1 M).Second, ag 0]) (l := jF) (xs := [ai.mk (aa.mk 0 (gt S.1 M).First) (aa.mk 1 (gt S.1 M).Second) 0]) ai.len rfl rfl kRf Ce Cp)) (.mu 1 (.done (.pop (.ru G ?_))))))
    exact aF (jF ++ [ai.mk (aa.mk 0 (gt S.1 M).First) (aa.mk 1 (gt S.1 M).Second) 0], Ew (M + 1)) hr ((Wk.gc [10, 11, 23, 24, 25, 165, 186, 187, 188] [(0, true), (1, false), (2, false), (3, false), (4, true), (8, false)] rfl (pKt (pKo ah.c ah.pure a (pKo ah.c ah.pure b (pKo ah.c ah.pure f (pKt (pKo ai.c ai.pure (jF ++ [ai.mk (aa.mk 0 (gt S.1 M).First) (aa.mk 1 (gt S.1 M).Second) 0]) trivial))))))).to)
   refine .skip (.pop (.ru G ?_))
   exact aF (jF, Ew (M + 1)) hr ((Wk.gc [10, 11, 23, 24, 25, 165, 186, 187, 188] [(0, true), (1, false), (2, false), (3, false), (4, true), (5, false)] rfl (pKt (pKo ah.c ah.pure a (pKo ah.c ah.pure b (pKo ah.c ah.pure f (pKt (pKo ai.c ai.pure jF trivial))))))).to)
  refine .leave rfl ?_
  obtain rfl := oi hr
  exact ⟨rfl, ((Wk.gc [10, 11, 23, 24, 25, 165] [(0, true), (1, false), (2, false), (3, false), (4, true), (5, false)] rfl (pKt (pKo ah.c ah.pure a (pKo ah.c ah.pure b (pKo ah.c ah.pure f (pKt (pKo ai.c ai.pure jF trivial))))))).to)⟩
 rintro x st' sc
 clear AB
 obtain ⟨rfl, sc⟩ := sc
 refine a8 _ rfl (.pop (.wk sc (.ru G (UNR.next (.n2 284 [(10, .hp 0 0), (11, .hp 4 0), (23, .hs 5 0 l7.length 5), (24, ag 0), (25, ag 2), (165, ag 0)] [.own [.hs 1 0 a.length 2, .hs 2 0 b.length 2, .hs 3 0 f.length 2], .own (a.flatMap ah.c), .own (b.flatMap ah.c), .own (f.flatMap ah.c), .own [slT (iC .u64) q.2.1, slT (iC .u64) w.2.1, slT (iC .u64) C.2.1], .own (l7.flatMap ai.c)] (.seq (.seq (.r3 G 284 [(10, .hp 0 0), (11, .hp 4 0), (23, .hs 5 0 l7.length 5), (24, ag 0), (25, ag 2), (165, ag 0), (171, aB true)] (.cT kRf (.skip (.seq (.block (.seq ?_)))))))))))))
 obtain ⟨F, Ct, hr⟩ := bd hr
 refine .t1 G (ok0 (fi n q.2.1 C.2.1 1 1 F Ct)) (.mu 6 (.ca cf0 (.mu 5 ?_)))
 refine .done (kRa ?_)
 refine .n2 284 [(10, .hp 0 0), (11, .hp 4 0), (23, .hs 5 0 l7.length 5), (24, ag 0), (25, ag 2), (26, slT aI.c F.1), (27, ag F.2), (165, ag 0)] [.own [.hs 1 0 a.length 2, .hs 2 0 b.length 2, .hs 3 0 f.length 2], .own (a.flatMap ah.c), .own (b.flatMap ah.c), .own (f.flatMap ah.c), .own [slT (iC .u64) q.2.1, slT (iC .u64) w.2.1, slT (iC .u64) C.2.1], .own (l7.flatMap ai.c)] (.seq (.seq (.r3 G 284 [(10, .hp 0 0), (11, .hp 4 0), (23, .hs 5 0 l7.length 5), (24, ag 0), (25, ag 2), (26, slT aI.c F.1), (165, ag 0), (185, aB ((F.2 : Int) != 0))] ?_)))
 refine .cd hr ?_ ?_ <;> intro DJ hr
 ·refine .seq (.ru G (.ret (unF.ret (unF.ret ?_))))
  obtain rfl := oi hr
  exact aS.r1 [aB false]
 refine .skip (.seq (.r3 G 284 [(10, .hp 0 0), (11, .hp 4 0), (23, .hs 5 0 l7.length 5), (24, ag 0), (25, ag 2), (165, ag 0), (186, slT aI.c F.1), (187, ag (F.1.length : Int)), (188, ag 0)] (.block ?_)))
 replace hr := bd hr; obtain ⟨T, Ba, hr⟩ := hr
 refine .aP (σ := fun z0 => match z0 with | (U, D) => ⟨mkS 284 0 [(10, .hp 0 0), (11, .hp 4 0), (23, .hs 5 0 U.length 5), (24, ag 0), (25, ag 2), (165, ag 0), (186, slT aI.c F.1), (187, ag (F.1.length : Int)), (188, ag D)], [.own [.hs 1 0 a.length 2, .hs 2 0 b.length 2, .hs 3 0 f.length 2], .own (a.flatMap ah.c), .own (b.flatMap ah.c), .own (f.flatMap ah.c), .own [slT (iC .u64) q.2.1, slT (iC .u64) w.2.1, slT (iC .u64) C.2.1], .own (U.flatMap ai.c)]⟩) (Q := fun x st' => x = .exit 8 /\ Wk 0 st' ⟨mkS 284 0 [(10, .hp 0 0), (11, .hp 4 0), (23, .hs 5 0 T.length 5), (24, ag 0), (25, ag 2), (165, ag 0)], [.own [.hs 1 0 a.length 2, .hs 2 0 b.length 2, .hs 3 0 f.length 2], .own (a.flatMap ah.c), .own (b.flatMap ah.c), .own (f.flatMap ah.c), .own [slT (iC .u64) q.2.1, slT (iC .u64) w.2.1, slT (iC .u64) C.2.1], .own (T.flatMap ai.c)]⟩) Ba ((Wk.gc [10, 11, 23, 24, 25, 165, 186, 187, 188] [(0, true), (1, false), (2, false), (3, false), (4, true), (5, false)] rfl (pKt (pKo ah.c ah.pure a (pKo ah.c ah.pure b (pKo ah.c ah.pure f (pKt (pKo ai.c ai.pure l7 trivial))))))).to) ?_ ?_
 ·clear hr
  rintro m ⟨U, D⟩ hr
  refine CQ.sh ?_
  refine .seq (.r3 G 284 [(10, .hp 0 0), (11, .hp 4 0), (23, .hs 5 0 U.length 5), (24, ag 0), (25, ag 2), (165, ag 0), (186, slT aI.c F.1), (187, ag (F.1.length : Int)), (188, ag D), (189, aB (decide (D < (F.1.length : Int))))] (.seq ?_))
  refine .cd hr ?_ ?_ <;> intro D0 hr
  ·refine .skip (.seq (.block (.seq ?_)))
   obtain ⟨Ay, hr⟩ := gd hr
   refine .r0 G (.p0 (v := .pp (F.1.flatMap aI.c) (D.toNat * 3)) (tr (aq Ay)) (.p0 (v := .agg (aI.c (gt F.1 D))) (tr (y := bc.ofP (eE (decide (3 <= ((F.1.flatMap aI.c).drop (D.toNat * 3)).length)) (.agg (((F.1.flatMap aI.c).drop (D.toNat * 3)).take 3)))) (cz aI.len (ax Ay) (by decide) (by omega : D.toNat * 3 = D.toNat * 3 + 0) kRf)) (.mu 2 (.done (.n2 284 [(10, .hp 0 0), (11, .hp 4 0), (23, .hs 5 0 U.length 5), (24, ag 0), (25, ag 2), (29, .hp 6 0), (165, ag 0), (186, slT aI.c F.1), (187, ag (F.1.length : Int)), (188, ag D)] [.own [.hs 1 0 a.length 2, .hs 2 0 b.length 2, .hs 3 0 f.length 2], .own (a.flatMap ah.c), .own (b.flatMap ah.c), .own (f.flatMap ah.c), .own [slT (iC .u64) q.2.1, slT (iC .u64) w.2.1, slT (iC .u64) C.2.1], .own (U.flatMap ai.c), .own (aI.c (gt F.1 D))] (.seq (.r3 G 284 [(10, .hp 0 0), (11, .hp 4 0), (23, .hs 5 0 U.length 5), (24, ag 0), (25, ag 2), (29, .hp 6 0), (165, ag 0), (186, slT aI.c F.1), (187, ag (F.1.length : Int)), (188, ag D), (194, aB (((gt F.1 D).Distance : Int) == 0))] ?_)))))))
   refine .cd hr ?_ ?_ <;> intro DX hr
   ·obtain ⟨C7, CM, hr⟩ := gd2 hr
    refine .r0 G (.mu 11 (.e0 (v := .hs 8 0 (U ++ [ai.mk (aa.mk 0 (gt F.1 D).First) (aa.mk 2 (gt F.1 D).Second) 0]).length 5) (ws := [(5, .dead), (8, .own ((U ++ [ai.mk (aa.mk 0 (gt F.1 D).First) (aa.mk 2 (gt F.1 D).Second) 0]).flatMap ai.c))]) (tr (dm (new := [ag 0, ag (gt F.1 D).First, ag 2, ag (gt F.1 D).Second, ag 0]) (l := U) (xs := [ai.mk (aa.mk 0 (gt F.1 D).First) (aa.mk 2 (gt F.1 D).Second) 0]) ai.len rfl rfl kRf C7 CM)) (.mu 1 (.done (.pop (.ru G ?_))))))
    exact aF (U ++ [ai.mk (aa.mk 0 (gt F.1 D).First) (aa.mk 2 (gt F.1 D).Second) 0], Ew (D + 1)) hr ((Wk.gc [10, 11, 23, 24, 25, 165, 186, 187, 188] [(0, true), (1, false), (2, false), (3, false), (4, true), (8, false)] rfl (pKt (pKo ah.c ah.pure a (pKo ah.c ah.pure b (pKo ah.c ah.pure f (pKt (pKo ai.c ai.pure (U ++ [ai.mk (aa.mk 0 (gt F.1 D).First) (aa.mk 2 (gt F.1 D).Second) 0]) trivial))))))).to)
   refine .skip (.pop (.ru G ?_))
   exact aF (U, Ew (D + 1)) hr ((Wk.gc [10, 11, 23, 24, 25, 165, 186, 187, 188] [(0, true), (1, false), (2, false), (3, false), (4, true), (5, false)] rfl (pKt (pKo ah.c ah.pure a (pKo ah.c ah.pure b (pKo ah.c ah.pure f (pKt (pKo ai.c ai.pure U trivial))))))).to)
  refine .leave rfl ?_
  obtain rfl := oi hr
  exact ⟨rfl, ((Wk.gc [10, 11, 23, 24, 25, 165] [(0, true), (1, false), (2, false), (3, false), (4, true), (5, false)] rfl (pKt (pKo ah.c ah.pure a (pKo ah.c ah.pure b (pKo ah.c ah.pure f (pKt (pKo ai.c ai.pure U trivial))))))).to)⟩
 rintro x st' sA
 clear Ba
 obtain ⟨rfl, sA⟩ := sA
 refine a8 _ rfl (.pop (.wk sA (.ru G (UNR.next (.n2 284 [(10, .hp 0 0), (11, .hp 4 0), (23, .hs 5 0 T.length 5), (24, ag 0), (25, ag 3), (165, ag 0)] [.own [.hs 1 0 a.length 2, .hs 2 0 b.length 2, .hs 3 0 f.length 2], .own (a.flatMap ah.c), .own (b.flatMap ah.c), .own (f.flatMap ah.c), .own [slT (iC .u64) q.2.1, slT (iC .u64) w.2.1, slT (iC .u64) C.2.1], .own (T.flatMap ai.c)] (.seq (.seq (.r3 G 284 [(10, .hp 0 0), (11, .hp 4 0), (23, .hs 5 0 T.length 5), (24, ag 0), (25, ag 3), (165, ag 0), (171, aB false)] (.cF kRf (.leave rfl (unF.exit rfl (.pop (.ru G (UNR.next (.n2 284 [(10, .hp 0 0), (11, .hp 4 0), (23, .hs 5 0 T.length 5), (165, ag 1)] [.own [.hs 1 0 a.length 2, .hs 2 0 b.length 2, .hs 3 0 f.length 2], .own (a.flatMap ah.c), .own (b.flatMap ah.c), .own (f.flatMap ah.c), .own [slT (iC .u64) q.2.1, slT (iC .u64) w.2.1, slT (iC .u64) C.2.1], .own (T.flatMap ai.c)] (.seq (.r3 G 284 [(10, .hp 0 0), (11, .hp 4 0), (23, .hs 5 0 T.length 5), (165, ag 1), (166, aB true)] (.seq (.cT kRf (.skip (.seq (.block (.seq (.r3 G 284 [(10, .hp 0 0), (11, .hp 4 0), (23, .hs 5 0 T.length 5), (24, ag 1), (165, ag 1)] (.seq (.r3 G 284 [(10, .hp 0 0), (11, .hp 4 0), (23, .hs 5 0 T.length 5), (24, ag 1), (25, ag 2), (165, ag 1)] (.block ?_)))))))))))))))))))))))))))
 refine .o7 2 (UNR.one ?_)
 refine .seq (.seq (.r3 G 284 [(10, .hp 0 0), (11, .hp 4 0), (23, .hs 5 0 T.length 5), (24, ag 1), (25, ag 2), (165, ag 1), (171, aB true)] (.cT kRf (.skip (.seq (.block (.seq ?_)))))))
 obtain ⟨H, Ci, hr⟩ := bd hr
 refine .t1 G (ok0 (fi n w.2.1 C.2.1 1 1 H Ci)) (.mu 6 (.ca cf0 (.mu 5 ?_)))
 refine .done (kRa ?_)
 refine .n2 284 [(10, .hp 0 0), (11, .hp 4 0), (23, .hs 5 0 T.length 5), (24, ag 1), (25, ag 2), (26, slT aI.c H.1), (27, ag H.2), (165, ag 1)] [.own [.hs 1 0 a.length 2, .hs 2 0 b.length 2, .hs 3 0 f.length 2], .own (a.flatMap ah.c), .own (b.flatMap ah.c), .own (f.flatMap ah.c), .own [slT (iC .u64) q.2.1, slT (iC .u64) w.2.1, slT (iC .u64) C.2.1], .own (T.flatMap ai.c)] (.seq (.seq (.r3 G 284 [(10, .hp 0 0), (11, .hp 4 0), (23, .hs 5 0 T.length 5), (24, ag 1), (25, ag 2), (26, slT aI.c H.1), (165, ag 1), (185, aB ((H.2 : Int) != 0))] ?_)))
 refine .cd hr ?_ ?_ <;> intro D7 hr
 ·refine .seq (.ru G (.ret (unF.ret (unF.ret ?_))))
  obtain rfl := oi hr
  exact aS.r1 [aB false]
 refine .skip (.seq (.r3 G 284 [(10, .hp 0 0), (11, .hp 4 0), (23, .hs 5 0 T.length 5), (24, ag 1), (25, ag 2), (165, ag 1), (186, slT aI.c H.1), (187, ag (H.1.length : Int)), (188, ag 0)] (.block ?_)))
 replace hr := bd hr; obtain ⟨I, AA, hr⟩ := hr
 refine .aP (σ := fun z0 => match z0 with | (W, E) => ⟨mkS 284 0 [(10, .hp 0 0), (11, .hp 4 0), (23, .hs 5 0 W.length 5), (24, ag 1), (25, ag 2), (165, ag 1), (186, slT aI.c H.1), (187, ag (H.1.length : Int)), (188, ag E)], [.own [.hs 1 0 a.length 2, .hs 2 0 b.length 2, .hs 3 0 f.length 2], .own (a.flatMap ah.c), .own (b.flatMap ah.c), .own (f.flatMap ah.c), .own [slT (iC .u64) q.2.1, slT (iC .u64) w.2.1, slT (iC .u64) C.2.1], .own (W.flatMap ai.c)]⟩) (Q := fun x st' => x = .exit 8 /\ Wk 0 st' ⟨mkS 284 0 [(10, .hp 0 0), (11, .hp 4 0), (23, .hs 5 0 I.length 5), (24, ag 1), (25, ag 2), (165, ag 1)], [.own [.hs 1 0 a.length 2, .hs 2 0 b.length 2, .hs 3 0 f.length 2], .own (a.flatMap ah.c), .own (b.flatMap ah.c), .own (f.flatMap ah.c), .own [slT (iC .u64) q.2.1, slT (iC .u64) w.2.1, slT (iC .u64) C.2.1], .own (I.flatMap ai.c)]⟩) AA ((Wk.gc [10, 11, 23, 24, 25, 165, 186, 187, 188] [(0, true), (1, false), (2, false), (3, false), (4, true), (5, false)] rfl (pKt (pKo ah.c ah.pure a (pKo ah.c ah.pure b (pKo ah.c ah.pure f (pKt (pKo ai.c ai.pure T trivial))))))).to) ?_ ?_
 ·clear hr
  rintro m ⟨W, E⟩ hr
  refine CQ.sh ?_
  refine .seq (.r3 G 284 [(10, .hp 0 0), (11, .hp 4 0), (23, .hs 5 0 W.length 5), (24, ag 1), (25, ag 2), (165, ag 1), (186, slT aI.c H.1), (187, ag (H.1.length : Int)), (188, ag E), (189, aB (decide (E < (H.1.length : Int))))] (.seq ?_))
  refine .cd hr ?_ ?_ <;> intro DS hr
  ·refine .skip (.seq (.block (.seq ?_)))
   obtain ⟨A5, hr⟩ := gd hr
   refine .r0 G (.p0 (v := .pp (H.1.flatMap aI.c) (E.toNat * 3)) (tr (aq A5)) (.p0 (v := .agg (aI.c (gt H.1 E))) (tr (y := bc.ofP (eE (decide (3 <= ((H.1.flatMap aI.c).drop (E.toNat * 3)).length)) (.agg (((H.1.flatMap aI.c).drop (E.toNat * 3)).take 3)))) (cz aI.len (ax A5) (by decide) (by omega : E.toNat * 3 = E.toNat * 3 + 0) kRf)) (.mu 2 (.done (.n2 284 [(10, .hp 0 0), (11, .hp 4 0), (23, .hs 5 0 W.length 5), (24, ag 1), (25, ag 2), (29, .hp 6 0), (165, ag 1), (186, slT aI.c H.1), (187, ag (H.1.length : Int)), (188, ag E)] [.own [.hs 1 0 a.length 2, .hs 2 0 b.length 2, .hs 3 0 f.length 2], .own (a.flatMap ah.c), .own (b.flatMap ah.c), .own (f.flatMap ah.c), .own [slT (iC .u64) q.2.1, slT (iC .u64) w.2.1, slT (iC .u64) C.2.1], .own (W.flatMap ai.c), .own (aI.c (gt H.1 E))] (.seq (.r3 G 284 [(10, .hp 0 0), (11, .hp 4 0), (23, .hs 5 0 W.length 5), (24, ag 1), (25, ag 2), (29, .hp 6 0), (165, ag 1), (186, slT aI.c H.1), (187, ag (H.1.length : Int)), (188, ag E), (194, aB (((gt H.1 E).Distance : Int) == 0))] ?_)))))))
   refine .cd hr ?_ ?_ <;> intro DD hr
   ·obtain ⟨C3, Cq, hr⟩ := gd2 hr
    refine .r0 G (.mu 11 (.e0 (v := .hs 8 0 (W ++ [ai.mk (aa.mk 1 (gt H.1 E).First) (aa.mk 2 (gt H.1 E).Second) 0]).length 5) (ws := [(5, .dead), (8, .own ((W ++ [ai.mk (aa.mk 1 (gt H.1 E).First) (aa.mk 2 (gt H.1 E).Second) 0]).flatMap ai.c))]) (tr (dm (new := [ag 1, ag (gt H.1 E).First, ag 2, ag (gt H.1 E).Second, ag 0]) (l := W) (xs := [ai.mk (aa.mk 1 (gt H.1 E).First) (aa.mk 2 (gt H.1 E).Second) 0]) ai.len rfl rfl kRf C3 Cq)) (.mu 1 (.done (.pop (.ru G ?_))))))
    exact aF (W ++ [ai.mk (aa.mk 1 (gt H.1 E).First) (aa.mk 2 (gt H.1 E).Second) 0], Ew (E + 1)) hr ((Wk.gc [10, 11, 23, 24, 25, 165, 186, 187, 188] [(0, true), (1, false), (2, false), (3, false), (4, true), (8, false)] rfl (pKt (pKo ah.c ah.pure a (pKo ah.c ah.pure b (pKo ah.c ah.pure f (pKt (pKo ai.c ai.pure (W ++ [ai.mk (aa.mk 1 (gt H.1 E).First) (aa.mk 2 (gt H.1 E).Second) 0]) trivial))))))).to)
   refine .skip (.pop (.ru G ?_))
   exact aF (W, Ew (E + 1)) hr ((Wk.gc [10, 11, 23, 24, 25, 165, 186, 187, 188] [(0, true), (1, false), (2, false), (3, false), (4, true), (5, false)] rfl (pKt (pKo ah.c ah.pure a (pKo ah.c ah.pure b (pKo ah.c ah.pure f (pKt (pKo ai.c ai.pure W trivial))))))).to)
  refine .leave rfl ?_
  obtain rfl := oi hr
  exact ⟨rfl, ((Wk.gc [10, 11, 23, 24, 25, 165] [(0, true), (1, false), (2, false), (3, false), (4, true), (5, false)] rfl (pKt (pKo ah.c ah.pure a (pKo ah.c ah.pure b (pKo ah.c ah.pure f (pKt (pKo ai.c ai.pure W trivial))))))).to)⟩
 rintro x st' sR
 clear AA
 obtain ⟨rfl, sR⟩ := sR
 refine a8 _ rfl (.pop (.wk sR (.ru G (UNR.next (.n2 284 [(10, .hp 0 0), (11, .hp 4 0), (23, .hs 5 0 I.length 5), (24, ag 1), (25, ag 3), (165, ag 1)] [.own [.hs 1 0 a.length 2, .hs 2 0 b.length 2, .hs 3 0 f.length 2], .own (a.flatMap ah.c), .own (b.flatMap ah.c), .own (f.flatMap ah.c), .own [slT (iC .u64) q.2.1, slT (iC .u64) w.2.1, slT (iC .u64) C.2.1], .own (I.flatMap ai.c)] (.seq (.seq (.r3 G 284 [(10, .hp 0 0), (11, .hp 4 0), (23, .hs 5 0 I.length 5), (24, ag 1), (25, ag 3), (165, ag 1), (171, aB false)] (.cF kRf (.leave rfl (unF.exit rfl (.pop (.ru G (UNR.next (.n2 284 [(10, .hp 0 0), (11, .hp 4 0), (23, .hs 5 0 I.length 5), (165, ag 2)] [.own [.hs 1 0 a.length 2, .hs 2 0 b.length 2, .hs 3 0 f.length 2], .own (a.flatMap ah.c), .own (b.flatMap ah.c), .own (f.flatMap ah.c), .own [slT (iC .u64) q.2.1, slT (iC .u64) w.2.1, slT (iC .u64) C.2.1], .own (I.flatMap ai.c)] (.seq (.r3 G 284 [(10, .hp 0 0), (11, .hp 4 0), (23, .hs 5 0 I.length 5), (165, ag 2), (166, aB true)] (.seq (.cT kRf (.skip (.seq (.block (.seq (.r3 G 284 [(10, .hp 0 0), (11, .hp 4 0), (23, .hs 5 0 I.length 5), (24, ag 2), (165, ag 2)] (.seq (.r3 G 284 [(10, .hp 0 0), (11, .hp 4 0), (23, .hs 5 0 I.length 5), (24, ag 2), (25, ag 3), (165, ag 2)] (.block ?_)))))))))))))))))))))))))))
 refine .o7 1 (UNR.one ?_)
 refine .seq (.seq (.r3 G 284 [(10, .hp 0 0), (11, .hp 4 0), (23, .hs 5 0 I.length 5), (24, ag 2), (25, ag 3), (165, ag 2), (171, aB false)] (.cF kRf (.leave rfl (unF.exit rfl (.pop (.ru G (UNR.next (.n2 284 [(10, .hp 0 0), (11, .hp 4 0), (23, .hs 5 0 I.length 5), (165, ag 3)] [.own [.hs 1 0 a.length 2, .hs 2 0 b.length 2, .hs 3 0 f.length 2], .own (a.flatMap ah.c), .own (b.flatMap ah.c), .own (f.flatMap ah.c), .own [slT (iC .u64) q.2.1, slT (iC .u64) w.2.1, slT (iC .u64) C.2.1], .own (I.flatMap ai.c)] (.seq (.r3 G 284 [(10, .hp 0 0), (11, .hp 4 0), (23, .hs 5 0 I.length 5), (165, ag 3), (166, aB false)] (.seq (.cF kRf (.leave rfl (unF.exit rfl (.seq ?_))))))))))))))))
 obtain ⟨z, Di, hr⟩ := bd hr
 refine .g1 G (gw (args := [.hs 5 0 I.length 5]) (l := [5]) (SnL.cons (Sn.hs rfl (.inl rfl) (SnC.pure (aA ai.pure _)) (fun h => cZ h)) SnL.nil) (mc n I z Di)) (.mu 1 (.ca cf0 (.mu 5 (.done (.n2 284 [(9, ag z.2), (10, .hp 0 0), (23, .hs 5 0 I.length 5), (30, slT (slC aa.c) z.1)] [.own [.hs 1 0 a.length 2, .hs 2 0 b.length 2, .hs 3 0 f.length 2], .own (a.flatMap ah.c), .own (b.flatMap ah.c), .own (f.flatMap ah.c), .own [slT (iC .u64) q.2.1, slT (iC .u64) w.2.1, slT (iC .u64) C.2.1], .fix (I.flatMap ai.c)] (.seq ?_))))))
 obtain ⟨pV, CF, hr⟩ := bd hr
 refine .g1 G (gw (args := [.hs 5 0 I.length 5]) (l := [5]) (SnL.cons (Sn.hs rfl (.inr rfl) (SnC.pure (aA ai.pure _)) (fun h => cZ h)) SnL.nil) (oX n I pV CF)) (.mu 1 (.ca cf0 (.mu 5 (.done (.n2 284 [(9, ag z.2), (10, .hp 0 0), (30, slT (slC aa.c) z.1), (31, slT ai.c pV.1), (32, ag pV.2)] [.own [.hs 1 0 a.length 2, .hs 2 0 b.length 2, .hs 3 0 f.length 2], .own (a.flatMap ah.c), .own (b.flatMap ah.c), .own (f.flatMap ah.c), .own [slT (iC .u64) q.2.1, slT (iC .u64) w.2.1, slT (iC .u64) C.2.1], .fix (I.flatMap ai.c)] (.seq (.seq ?_)))))))
 rcases bT ((z.2 : Int) != 0) with qf | qf
 ·replace hr := cB qf hr
  refine .r0 G (.mu 1 (.p0 (v := aB true) (eB qf) (.mu 9 (.done (.n2 284 [(10, .hp 0 0), (30, slT (slC aa.c) z.1), (229, aB true)] [.own [.hs 1 0 a.length 2, .hs 2 0 b.length 2, .hs 3 0 f.length 2], .own (a.flatMap ah.c), .own (b.flatMap ah.c), .own (f.flatMap ah.c), .own [slT (iC .u64) q.2.1, slT (iC .u64) w.2.1, slT (iC .u64) C.2.1], .fix (I.flatMap ai.c)] (.cT kRf (.seq (.ru G (.ret ?_)))))))))
  obtain rfl := oi hr
  exact aS.r1 [aB false]
 replace hr := cC qf hr
 rcases bT ((pV.2 : Int) != 0) with rI | rI
 ·replace hr := cB rI hr
  refine .r0 G (.mu 1 (.p0 (v := aB false) (eB qf) (.mu 2 (.pure (v := aB true) kRf (eB rI) (.mu 6 (.done (.n2 284 [(10, .hp 0 0), (30, slT (slC aa.c) z.1), (229, aB true)] [.own [.hs 1 0 a.length 2, .hs 2 0 b.length 2, .hs 3 0 f.length 2], .own (a.flatMap ah.c), .own (b.flatMap ah.c), .own (f.flatMap ah.c), .own [slT (iC .u64) q.2.1, slT (iC .u64) w.2.1, slT (iC .u64) C.2.1], .fix (I.flatMap ai.c)] (.cT kRf (.seq (.ru G (.ret ?_)))))))))))
  obtain rfl := oi hr
  exact aS.r1 [aB false]
 replace hr := cC rI hr
 refine .r0 G (.mu 1 (.p0 (v := aB false) (eB qf) (.mu 2 (.pure (v := aB false) kRf (eB rI) (.mu 6 (.done (.n2 284 [(10, .hp 0 0), (30, slT (slC aa.c) z.1), (229, aB (((pV.1.length : Int) : Int) != 0))] [.own [.hs 1 0 a.length 2, .hs 2 0 b.length 2, .hs 3 0 f.length 2], .own (a.flatMap ah.c), .own (b.flatMap ah.c), .own (f.flatMap ah.c), .own [slT (iC .u64) q.2.1, slT (iC .u64) w.2.1, slT (iC .u64) C.2.1], .fix (I.flatMap ai.c)] ?_)))))))
 refine .cd hr ?_ ?_ <;> intro DZ hr
 ·refine .seq (.ru G (.ret ?_))
  obtain rfl := oi hr
  exact aS.r1 [aB false]
 refine .skip (.seq (.r3 G 284 [(10, .hp 0 0), (30, slT (slC aa.c) z.1), (33, nS)] (.seq (.r2 G 284 [(10, .hp 0 0), (30, slT (slC aa.c) z.1), (33, nS), (34, .mp 6)] [.own [.hs 1 0 a.length 2, .hs 2 0 b.length 2, .hs 3 0 f.length 2], .own (a.flatMap ah.c), .own (b.flatMap ah.c), .own (f.flatMap ah.c), .own [slT (iC .u64) q.2.1, slT (iC .u64) w.2.1, slT (iC .u64) C.2.1], .fix (I.flatMap ai.c), .map []] (.seq (.seq (.r3 G 284 [(30, slT (slC aa.c) z.1), (33, nS), (34, .mp 6), (231, .agg [.hs 1 0 a.length 2, .hs 2 0 b.length 2, .hs 3 0 f.length 2]), (232, ag 0)] (.block ?_))))))))
 refine .o7 4 (UNR.one ?_)
 refine .seq (.r3 G 284 [(30, slT (slC aa.c) z.1), (33, nS), (34, .mp 6), (231, .agg [.hs 1 0 a.length 2, .hs 2 0 b.length 2, .hs 3 0 f.length 2]), (232, ag 0), (233, aB true)] (.seq (.cT kRf (.skip (.seq (.block (.seq (.r3 G 284 [(30, slT (slC aa.c) z.1), (33, nS), (34, .mp 6), (35, ag 0), (36, .hs 1 0 a.length 2), (231, .agg [.hs 1 0 a.length 2, .hs 2 0 b.length 2, .hs 3 0 f.length 2]), (232, ag 0)] (.seq (.r3 G 284 [(30, slT (slC aa.c) z.1), (33, nS), (34, .mp 6), (35, ag 0), (231, .agg [.hs 1 0 a.length 2, .hs 2 0 b.length 2, .hs 3 0 f.length 2]), (232, ag 0), (236, .hs 1 0 a.length 2), (237, ag (a.length : Int)), (238, ag 0)] (.block ?_)))))))))))
 replace hr := bd hr; obtain ⟨uF, AP, hr⟩ := hr
 refine .aP (σ := fun z0 => match z0 with | (s, g) => ⟨mkS 284 0 [(30, slT (slC aa.c) z.1), (33, nS), (34, .mp 0), (35, ag 0), (231, .agg [.hs 1 0 a.length 2, .hs 2 0 b.length 2, .hs 3 0 f.length 2]), (232, ag 0), (236, .hs 1 0 a.length 2), (237, ag (a.length : Int)), (238, ag g)], [.mapr 0 2 (mrs az.K 2 aa.c s), .own (a.flatMap ah.c), .own (b.flatMap ah.c), .own (f.flatMap ah.c)]⟩) (Q := fun x st' => x = .exit 12 /\ Wk 0 st' ⟨mkS 284 0 [(30, slT (slC aa.c) z.1), (33, nS), (34, .mp 0), (231, .agg [.hs 1 0 a.length 2, .hs 2 0 b.length 2, .hs 3 0 f.length 2]), (232, ag 0)], [.mapr 0 2 (mrs az.K 2 aa.c uF), .own (a.flatMap ah.c), .own (b.flatMap ah.c), .own (f.flatMap ah.c)]⟩) AP ((Wk.Dp 6 az.K 2 aa.c).trans ((Wk.gc [30, 33, 34, 35, 231, 232, 236, 237, 238] [(6, false), (1, false), (2, false), (3, false)] rfl (pKR az.K 0 2 aa.c ([] : List (ah × List aa)) (pKo ah.c ah.pure a (pKo ah.c ah.pure b (pKo ah.c ah.pure f trivial))))).to)) ?_ ?_
 ·clear hr
  rintro m ⟨s, g⟩ hr
  refine CQ.sh ?_
  refine .seq (.r3 G 284 [(30, slT (slC aa.c) z.1), (33, nS), (34, .mp 0), (35, ag 0), (231, .agg [.hs 1 0 a.length 2, .hs 2 0 b.length 2, .hs 3 0 f.length 2]), (232, ag 0), (236, .hs 1 0 a.length 2), (237, ag (a.length : Int)), (238, ag g), (239, aB (decide (g < (a.length : Int))))] (.seq ?_))
  refine .cd hr ?_ ?_ <;> intro DV hr
  ·refine .skip (.seq (.block (.seq ?_)))
   obtain ⟨AU, hr⟩ := gd hr
   refine .r0 G (.mu 1 (.p0 (v := .hp 1 (0 + g.toNat * 2)) (tr (aq AU)) (.p0 (v := .agg (ah.c (gt a g))) (tr (y := bc.ofP (eE (decide (2 <= ((a.flatMap ah.c).drop (0 + g.toNat * 2)).length)) (.agg (((a.flatMap ah.c).drop (0 + g.toNat * 2)).take 2)))) (cz ah.len (ax AU) (by decide) (by omega : 0 + g.toNat * 2 = g.toNat * 2 + 0) kRf)) (.mu 3 (.done (.n2 284 [(30, slT (slC aa.c) z.1), (33, nS), (34, .mp 0), (35, ag 0), (37, ag g), (38, .hp 4 0), (231, .agg [.hs 1 0 a.length 2, .hs 2 0 b.length 2, .hs 3 0 f.length 2]), (232, ag 0), (236, .hs 1 0 a.length 2), (237, ag (a.length : Int)), (238, ag g)] [.mapr 0 2 (mrs az.K 2 aa.c s), .own (a.flatMap ah.c), .own (b.flatMap ah.c), .own (f.flatMap ah.c), .own (ah.c (gt a g))] (.wk ((Wk.yI 0 ((gt a g)) (V := az.K) (es := 2) (c := aa.c) (l := s) (d := 0)).to (c := ⟨mkS 284 0 [(30, slT (slC aa.c) z.1), (33, nS), (34, .mp 0), (35, ag 0), (37, ag g), (38, .hp 4 0), (231, .agg [.hs 1 0 a.length 2, .hs 2 0 b.length 2, .hs 3 0 f.length 2]), (232, ag 0), (236, .hs 1 0 a.length 2), (237, ag (a.length : Int)), (238, ag g)], [.mapr 5 2 (mro az.K 2 aa.c s (gt a g) (.hs 5 0 (getM [] s (gt a g)).length 2)), .own (a.flatMap ah.c), .own (b.flatMap ah.c), .own (f.flatMap ah.c), .own (ah.c (gt a g)), .own ((getM [] s (gt a g)).flatMap aa.c)]⟩) kRf) ?_)))))))
   obtain ⟨CC, Db, hr⟩ := gd2 hr
   refine .r0 G (.mu 6 (.e0 (v := .tup [.hs 5 0 (getM [] s (gt a g)).length 2, ag ((fu s (gt a g) : Nat) : Int)]) (ws := [(0, .mapr 5 2 (mre az.K 2 aa.c s (gt a g) (.hs 5 0 (getM [] s (gt a g)).length 2)))]) (tr (y := orE (eR Tryz.prog [.mapr 5 2 (mro az.K 2 aa.c s (gt a g) (.hs 5 0 (getM [] s (gt a g)).length 2)), .own (a.flatMap ah.c), .own (b.flatMap ah.c), .own (f.flatMap ah.c), .own (ah.c (gt a g)), .own ((getM [] s (gt a g)).flatMap aa.c), .own [ag 0, ag g]] 58 (.mp 0) (.agg (ah.c (gt a g)))) (fy Tryz.prog [.mapr 5 2 (mro az.K 2 aa.c s (gt a g) (.hs 5 0 (getM [] s (gt a g)).length 2)), .own (a.flatMap ah.c), .own (b.flatMap ah.c), .own (f.flatMap ah.c), .own (ah.c (gt a g)), .own ((getM [] s (gt a g)).flatMap aa.c), .own [ag 0, ag g]] 58 (.mp 0) (.agg (ah.c (gt a g))))) (zy (kt := 42) (e := 59) (V := az.K) (es := 2) (c := aa.c) (l := s) (x := (gt a g)) (j := 5) az.key kRf kRf kRf kRf kRf)) (.mu 1 (.e0 (v := .hs 7 0 ((getM [] s (gt a g)) ++ [aa.mk 0 g]).length 2) (ws := [(5, .dead), (7, .own (((getM [] s (gt a g)) ++ [aa.mk 0 g]).flatMap aa.c))]) (tr (dm (new := [ag 0, ag g]) (l := getM [] s (gt a g)) (xs := [aa.mk 0 g]) aa.len rfl rfl kRf CC Db)) (.mu 1 (.e0 (v := .unk) (ws := [(0, .mapr 5 2 (mre az.K 2 aa.c s (gt a g) (.hs 7 0 ((getM [] s (gt a g)) ++ [aa.mk 0 g]).length 2)))]) (tr (y := orE (dv [.mapr 5 2 (mre az.K 2 aa.c s (gt a g) (.hs 5 0 (getM [] s (gt a g)).length 2)), .own (a.flatMap ah.c), .own (b.flatMap ah.c), .own (f.flatMap ah.c), .own (ah.c (gt a g)), .dead, .own [ag 0, ag g], .own (((getM [] s (gt a g)) ++ [aa.mk 0 g]).flatMap aa.c)] (.mp 0) (ag ((fu s (gt a g) : Nat) : Int)) (.hs 7 0 ((getM [] s (gt a g)) ++ [aa.mk 0 g]).length 2)) (dr [.mapr 5 2 (mre az.K 2 aa.c s (gt a g) (.hs 5 0 (getM [] s (gt a g)).length 2)), .own (a.flatMap ah.c), .own (b.flatMap ah.c), .own (f.flatMap ah.c), .own (ah.c (gt a g)), .dead, .own [ag 0, ag g], .own (((getM [] s (gt a g)) ++ [aa.mk 0 g]).flatMap aa.c)] (.mp 0) (ag ((fu s (gt a g) : Nat) : Int)) (.hs 7 0 ((getM [] s (gt a g)) ++ [aa.mk 0 g]).length 2))) (zz (j := 5) (V := az.K) (es := 2) (c := aa.c) (l := s) (x := (gt a g)) (A := .hs 5 0 (getM [] s (gt a g)).length 2) (v := .hs 7 0 ((getM [] s (gt a g)) ++ [aa.mk 0 g]).length 2) kRf)) (.done (.pop (.ru G ?_)))))))))
   exact aF (dT s (gt a g) ((getM [] s (gt a g)) ++ [aa.mk 0 g]), Ew (g + 1)) hr ((Wk.vJ 0 7 (V := az.K) (es := 2) (c := aa.c) (l := s) (x := (gt a g)) (v := (getM [] s (gt a g)) ++ [aa.mk 0 g]) (d := 5) (len := ((getM [] s (gt a g)) ++ [aa.mk 0 g]).length) aa.pure rfl).trans ((Wk.gc [30, 33, 34, 35, 231, 232, 236, 237, 238] kF4 rfl (pKR az.K 0 2 aa.c (dT s (gt a g) ((getM [] s (gt a g)) ++ [aa.mk 0 g])) (pKo ah.c ah.pure a (pKo ah.c ah.pure b (pKo ah.c ah.pure f trivial))))).to))
  refine .leave rfl ?_
  obtain rfl := oi hr
  exact ⟨rfl, ((Wk.gc [30, 33, 34, 231, 232] kF4 rfl (pKR az.K 0 2 aa.c s (pKo ah.c ah.pure a (pKo ah.c ah.pure b (pKo ah.c ah.pure f trivial))))).to)⟩
 rintro x st' uW
 clear AP
 obtain ⟨rfl, uW⟩ := uW
 refine a8 _ rfl (.pop (.wk uW (.ru G (UNR.next (.n2 284 [(30, slT (slC aa.c) z.1), (33, nS), (34, .mp 0), (231, .agg [.hs 1 0 a.length 2, .hs 2 0 b.length 2, .hs 3 0 f.length 2]), (232, ag 1)] [.mapr 0 2 (mrs az.K 2 aa.c uF), .own (a.flatMap ah.c), .own (b.flatMap ah.c), .own (f.flatMap ah.c)] (.seq (.r3 G 284 [(30, slT (slC aa.c) z.1), (33, nS), (34, .mp 0), (231, .agg [.hs 1 0 a.length 2, .hs 2 0 b.length 2, .hs 3 0 f.length 2]), (232, ag 1), (233, aB true)] (.seq (.cT kRf (.skip (.seq (.block (.seq (.r3 G 284 [(30, slT (slC aa.c) z.1), (33, nS), (34, .mp 0), (35, ag 1), (36, .hs 2 0 b.length 2), (231, .agg [.hs 1 0 a.length 2, .hs 2 0 b.length 2, .hs 3 0 f.length 2]), (232, ag 1)] (.seq (.r3 G 284 [(30, slT (slC aa.c) z.1), (33, nS), (34, .mp 0), (35, ag 1), (231, .agg [.hs 1 0 a.length 2, .hs 2 0 b.length 2, .hs 3 0 f.length 2]), (232, ag 1), (236, .hs 2 0 b.length 2), (237, ag (b.length : Int)), (238, ag 0)] (.block ?_)))))))))))))))))
 replace hr := bd hr; obtain ⟨uf, Az, hr⟩ := hr
 refine .aP (σ := fun z0 => match z0 with | (t, i) => ⟨mkS 284 0 [(30, slT (slC aa.c) z.1), (33, nS), (34, .mp 0), (35, ag 1), (231, .agg [.hs 1 0 a.length 2, .hs 2 0 b.length 2, .hs 3 0 f.length 2]), (232, ag 1), (236, .hs 2 0 b.length 2), (237, ag (b.length : Int)), (238, ag i)], [.mapr 0 2 (mrs az.K 2 aa.c t), .own (a.flatMap ah.c), .own (b.flatMap ah.c), .own (f.flatMap ah.c)]⟩) (Q := fun x st' => x = .exit 12 /\ Wk 0 st' ⟨mkS 284 0 [(30, slT (slC aa.c) z.1), (33, nS), (34, .mp 0), (231, .agg [.hs 1 0 a.length 2, .hs 2 0 b.length 2, .hs 3 0 f.length 2]), (232, ag 1)], [.mapr 0 2 (mrs az.K 2 aa.c uf), .own (a.flatMap ah.c), .own (b.flatMap ah.c), .own (f.flatMap ah.c)]⟩) Az ((Wk.gc [30, 33, 34, 35, 231, 232, 236, 237, 238] kF4 rfl (pKR az.K 0 2 aa.c uF (pKo ah.c ah.pure a (pKo ah.c ah.pure b (pKo ah.c ah.pure f trivial))))).to) ?_ ?_
 ·clear hr
  rintro m ⟨t, i⟩ hr
  refine CQ.sh ?_
  refine .seq (.r3 G 284 [(30, slT (slC aa.c) z.1), (33, nS), (34, .mp 0), (35, ag 1), (231, .agg [.hs 1 0 a.length 2, .hs 2 0 b.length 2, .hs 3 0 f.length 2]), (232, ag 1), (236, .hs 2 0 b.length 2), (237, ag (b.length : Int)), (238, ag i), (239, aB (decide (i < (b.length : Int))))] (.seq ?_))
  refine .cd hr ?_ ?_ <;> intro Ec hr
  ·refine .skip (.seq (.block (.seq ?_)))
   obtain ⟨AL, hr⟩ := gd hr
   refine .r0 G (.mu 1 (.p0 (v := .hp 2 (0 + i.toNat * 2)) (tr (aq AL)) (.p0 (v := .agg (ah.c (gt b i))) (tr (y := bc.ofP (eE (decide (2 <= ((b.flatMap ah.c).drop (0 + i.toNat * 2)).length)) (.agg (((b.flatMap ah.c).drop (0 + i.toNat * 2)).take 2)))) (cz ah.len (ax AL) (by decide) (by omega : 0 + i.toNat * 2 = i.toNat * 2 + 0) kRf)) (.mu 3 (.done (.n2 284 [(30, slT (slC aa.c) z.1), (33, nS), (34, .mp 0), (35, ag 1), (37, ag i), (38, .hp 4 0), (231, .agg [.hs 1 0 a.length 2, .hs 2 0 b.length 2, .hs 3 0 f.length 2]), (232, ag 1), (236, .hs 2 0 b.length 2), (237, ag (b.length : Int)), (238, ag i)] [.mapr 0 2 (mrs az.K 2 aa.c t), .own (a.flatMap ah.c), .own (b.flatMap ah.c), .own (f.flatMap ah.c), .own (ah.c (gt b i))] (.wk ((Wk.yI 0 ((gt b i)) (V := az.K) (es := 2) (c := aa.c) (l := t) (d := 0)).to (c := ⟨mkS 284 0 [(30, slT (slC aa.c) z.1), (33, nS), (34, .mp 0), (35, ag 1), (37, ag i), (38, .hp 4 0), (231, .agg [.hs 1 0 a.length 2, .hs 2 0 b.length 2, .hs 3 0 f.length 2]), (232, ag 1), (236, .hs 2 0 b.length 2), (237, ag (b.length : Int)), (238, ag i)], [.mapr 5 2 (mro az.K 2 aa.c t (gt b i) (.hs 5 0 (getM [] t (gt b i)).length 2)), .own (a.flatMap ah.c), .own (b.flatMap ah.c), .own (f.flatMap ah.c), .own (ah.c (gt b i)), .own ((getM [] t (gt b i)).flatMap aa.c)]⟩) kRf) ?_)))))))
   obtain ⟨CN, C8, hr⟩ := gd2 hr
   refine .r0 G (.mu 6 (.e0 (v := .tup [.hs 5 0 (getM [] t (gt b i)).length 2, ag ((fu t (gt b i) : Nat) : Int)]) (ws := [(0, .mapr 5 2 (mre az.K 2 aa.c t (gt b i) (.hs 5 0 (getM [] t (gt b i)).length 2)))]) (tr (y := orE (eR Tryz.prog [.mapr 5 2 (mro az.K 2 aa.c t (gt b i) (.hs 5 0 (getM [] t (gt b i)).length 2)), .own (a.flatMap ah.c), .own (b.flatMap ah.c), .own (f.flatMap ah.c), .own (ah.c (gt b i)), .own ((getM [] t (gt b i)).flatMap aa.c), .own [ag 1, ag i]] 58 (.mp 0) (.agg (ah.c (gt b i)))) (fy Tryz.prog [.mapr 5 2 (mro az.K 2 aa.c t (gt b i) (.hs 5 0 (getM [] t (gt b i)).length 2)), .own (a.flatMap ah.c), .own (b.flatMap ah.c), .own (f.flatMap ah.c), .own (ah.c (gt b i)), .own ((getM [] t (gt b i)).flatMap aa.c), .own [ag 1, ag i]] 58 (.mp 0) (.agg (ah.c (gt b i))))) (zy (kt := 42) (e := 59) (V := az.K) (es := 2) (c := aa.c) (l := t) (x := (gt b i)) (j := 5) az.key kRf kRf kRf kRf kRf)) (.mu 1 (.e0 (v := .hs 7 0 ((getM [] t (gt b i)) ++ [aa.mk 1 i]).length 2) (ws := [(5, .dead), (7, .own (((getM [] t (gt b i)) ++ [aa.mk 1 i]).flatMap aa.c))]) (tr (dm (new := [ag 1, ag i]) (l := getM [] t (gt b i)) (xs := [aa.mk 1 i]) aa.len rfl rfl kRf CN C8)) (.mu 1 (.e0 (v := .unk) (ws := [(0, .mapr 5 2 (mre az.K 2 aa.c t (gt b i) (.hs 7 0 ((getM [] t (gt b i)) ++ [aa.mk 1 i]).length 2)))]) (tr (y := orE (dv [.mapr 5 2 (mre az.K 2 aa.c t (gt b i) (.hs 5 0 (getM [] t (gt b i)).length 2)), .own (a.flatMap ah.c), .own (b.flatMap ah.c), .own (f.flatMap ah.c), .own (ah.c (gt b i)), .dead, .own [ag 1, ag i], .own (((getM [] t (gt b i)) ++ [aa.mk 1 i]).flatMap aa.c)] (.mp 0) (ag ((fu t (gt b i) : Nat) : Int)) (.hs 7 0 ((getM [] t (gt b i)) ++ [aa.mk 1 i]).length 2)) (dr [.mapr 5 2 (mre az.K 2 aa.c t (gt b i) (.hs 5 0 (getM [] t (gt b i)).length 2)), .own (a.flatMap ah.c), .own (b.flatMap ah.c), .own (f.flatMap ah.c), .own (ah.c (gt b i)), .dead, .own [ag 1, ag i], .own (((getM [] t (gt b i)) ++ [aa.mk 1 i]).flatMap aa.c)] (.mp 0) (ag ((fu t (gt b i) : Nat) : Int)) (.hs 7 0 ((getM [] t (gt b i)) ++ [aa.mk 1 i]).length 2))) (zz (j := 5) (V := az.K) (es := 2) (c := aa.c) (l := t) (x := (gt b i)) (A := .hs 5 0 (getM [] t (gt b i)).length 2) (v := .hs 7 0 ((getM [] t (gt b i)) ++ [aa.mk 1 i]).length 2) kRf)) (.done (.pop (.ru G ?_)))))))))
   exact aF (dT t (gt b i) ((getM [] t (gt b i)) ++ [aa.mk 1 i]), Ew (i + 1)) hr ((Wk.vJ 0 7 (V := az.K) (es := 2) (c := aa.c) (l := t) (x := (gt b i)) (v := (getM [] t (gt b i)) ++ [aa.mk 1 i]) (d := 5) (len := ((getM [] t (gt b i)) ++ [aa.mk 1 i]).length) aa.pure rfl).trans ((Wk.gc [30, 33, 34, 35, 231, 232, 236, 237, 238] kF4 rfl (pKR az.K 0 2 aa.c (dT t (gt b i) ((getM [] t (gt b i)) ++ [aa.mk 1 i])) (pKo ah.c ah.pure a (pKo ah.c ah.pure b (pKo ah.c ah.pure f trivial))))).to))
  refine .leave rfl ?_
  obtain rfl := oi hr
  exact ⟨rfl, ((Wk.gc [30, 33, 34, 231, 232] kF4 rfl (pKR az.K 0 2 aa.c t (pKo ah.c ah.pure a (pKo ah.c ah.pure b (pKo ah.c ah.pure f trivial))))).to)⟩
 rintro x st' wT
 clear Az
 obtain ⟨rfl, wT⟩ := wT
 refine a8 _ rfl (.pop (.wk wT (.ru G (UNR.next (.n2 284 [(30, slT (slC aa.c) z.1), (33, nS), (34, .mp 0), (231, .agg [.hs 1 0 a.length 2, .hs 2 0 b.length 2, .hs 3 0 f.length 2]), (232, ag 2)] [.mapr 0 2 (mrs az.K 2 aa.c uf), .own (a.flatMap ah.c), .own (b.flatMap ah.c), .own (f.flatMap ah.c)] (.seq (.r3 G 284 [(30, slT (slC aa.c) z.1), (33, nS), (34, .mp 0), (231, .agg [.hs 1 0 a.length 2, .hs 2 0 b.length 2, .hs 3 0 f.length 2]), (232, ag 2), (233, aB true)] (.seq (.cT kRf (.skip (.seq (.block (.seq (.r3 G 284 [(30, slT (slC aa.c) z.1), (33, nS), (34, .mp 0), (35, ag 2), (36, .hs 3 0 f.length 2), (231, .agg [.hs 1 0 a.length 2, .hs 2 0 b.length 2, .hs 3 0 f.length 2]), (232, ag 2)] (.seq (.r3 G 284 [(30, slT (slC aa.c) z.1), (33, nS), (34, .mp 0), (35, ag 2), (231, .agg [.hs 1 0 a.length 2, .hs 2 0 b.length 2, .hs 3 0 f.length 2]), (232, ag 2), (236, .hs 3 0 f.length 2), (237, ag (f.length : Int)), (238, ag 0)] (.block ?_)))))))))))))))))
 replace hr := bd hr; obtain ⟨J, AF, hr⟩ := hr
 refine .aP (σ := fun z0 => match z0 with | (u, k) => ⟨mkS 284 0 [(30, slT (slC aa.c) z.1), (33, nS), (34, .mp 0), (35, ag 2), (231, .agg [.hs 1 0 a.length 2, .hs 2 0 b.length 2, .hs 3 0 f.length 2]), (232, ag 2), (236, .hs 3 0 f.length 2), (237, ag (f.length : Int)), (238, ag k)], [.mapr 0 2 (mrs az.K 2 aa.c u), .own (a.flatMap ah.c), .own (b.flatMap ah.c), .own (f.flatMap ah.c)]⟩) (Q := fun x st' => x = .exit 12 /\ Wk 0 st' ⟨mkS 284 0 [(30, slT (slC aa.c) z.1), (33, nS), (34, .mp 0), (231, .agg [.hs 1 0 a.length 2, .hs 2 0 b.length 2, .hs 3 0 f.length 2]), (232, ag 2)], [.mapr 0 2 (mrs az.K 2 aa.c J), .own (a.flatMap ah.c), .own (b.flatMap ah.c), .own (f.flatMap ah.c)]⟩) AF ((Wk.gc [30, 33, 34, 35, 231, 232, 236, 237, 238] kF4 rfl (pKR az.K 0 2 aa.c uf (pKo ah.c ah.pure a (pKo ah.c ah.pure b (pKo ah.c ah.pure f trivial))))).to) ?_ ?_
 ·clear hr
  rintro m ⟨u, k⟩ hr
  refine CQ.sh ?_
  refine .seq (.r3 G 284 [(30, slT (slC aa.c) z.1), (33, nS), (34, .mp 0), (35, ag 2), (231, .agg [.hs 1 0 a.length 2, .hs 2 0 b.length 2, .hs 3 0 f.length 2]), (232, ag 2), (236, .hs 3 0 f.length 2), (237, ag (f.length : Int)), (238, ag k), (239, aB (decide (k < (f.length : Int))))] (.seq ?_))
  refine .cd hr ?_ ?_ <;> intro DH hr
  ·refine .skip (.seq (.block (.seq ?_)))
   obtain ⟨AX, hr⟩ := gd hr
   refine .r0 G (.mu 1 (.p0 (v := .hp 3 (0 + k.toNat * 2)) (tr (aq AX)) (.p0 (v := .agg (ah.c (gt f k))) (tr (y := bc.ofP (eE (decide (2 <= ((f.flatMap ah.c).drop (0 + k.toNat * 2)).length)) (.agg (((f.flatMap ah.c).drop (0 + k.toNat * 2)).take 2)))) (cz ah.len (ax AX) (by decide) (by omega : 0 + k.toNat * 2 = k.toNat * 2 + 0) kRf)) (.mu 3 (.done (.n2 284 [(30, slT (slC aa.c) z.1), (33, nS), (34, .mp 0), (35, ag 2), (37, ag k), (38, .hp 4 0), (231, .agg [.hs 1 0 a.length 2, .hs 2 0 b.length 2, .hs 3 0 f.length 2]), (232, ag 2), (236, .hs 3 0 f.length 2), (237, ag (f.length : Int)), (238, ag k)] [.mapr 0 2 (mrs az.K 2 aa.c u), .own (a.flatMap ah.c), .own (b.flatMap ah.c), .own (f.flatMap ah.c), .own (ah.c (gt f k))] (.wk ((Wk.yI 0 ((gt f k)) (V := az.K) (es := 2) (c := aa.c) (l := u) (d := 0)).to (c := ⟨mkS 284 0 [(30, slT (slC aa.c) z.1), (33, nS), (34, .mp 0), (35, ag 2), (37, ag k), (38, .hp 4 0), (231, .agg [.hs 1 0 a.length 2, .hs 2 0 b.length 2, .hs 3 0 f.length 2]), (232, ag 2), (236, .hs 3 0 f.length 2), (237, ag (f.length : Int)), (238, ag k)], [.mapr 5 2 (mro az.K 2 aa.c u (gt f k) (.hs 5 0 (getM [] u (gt f k)).length 2)), .own (a.flatMap ah.c), .own (b.flatMap ah.c), .own (f.flatMap ah.c), .own (ah.c (gt f k)), .own ((getM [] u (gt f k)).flatMap aa.c)]⟩) kRf) ?_)))))))
   obtain ⟨CG, CZ, hr⟩ := gd2 hr
   refine .r0 G (.mu 6 (.e0 (v := .tup [.hs 5 0 (getM [] u (gt f k)).length 2, ag ((fu u (gt f k) : Nat) : Int)]) (ws := [(0, .mapr 5 2 (mre az.K 2 aa.c u (gt f k) (.hs 5 0 (getM [] u (gt f k)).length 2)))]) (tr (y := orE (eR Tryz.prog [.mapr 5 2 (mro az.K 2 aa.c u (gt f k) (.hs 5 0 (getM [] u (gt f k)).length 2)), .own (a.flatMap ah.c), .own (b.flatMap ah.c), .own (f.flatMap ah.c), .own (ah.c (gt f k)), .own ((getM [] u (gt f k)).flatMap aa.c), .own [ag 2, ag k]] 58 (.mp 0) (.agg (ah.c (gt f k)))) (fy Tryz.prog [.mapr 5 2 (mro az.K 2 aa.c u (gt f k) (.hs 5 0 (getM [] u (gt f k)).length 2)), .own (a.flatMap ah.c), .own (b.flatMap ah.c), .own (f.flatMap ah.c), .own (ah.c (gt f k)), .own ((getM [] u (gt f k)).flatMap aa.c), .own [ag 2, ag k]] 58 (.mp 0) (.agg (ah.c (gt f k))))) (zy (kt := 42) (e := 59) (V := az.K) (es := 2) (c := aa.c) (l := u) (x := (gt f k)) (j := 5) az.key kRf kRf kRf kRf kRf)) (.mu 1 (.e0 (v := .hs 7 0 ((getM [] u (gt f k)) ++ [aa.mk 2 k]).length 2) (ws := [(5, .dead), (7, .own (((getM [] u (gt f k)) ++ [aa.mk 2 k]).flatMap aa.c))]) (tr (dm (new := [ag 2, ag k]) (l := getM [] u (gt f k)) (xs := [aa.mk 2 k]) aa.len rfl rfl kRf CG CZ)) (.mu 1 (.e0 (v := .unk) (ws := [(0, .mapr 5 2 (mre az.K 2 aa.c u (gt f k) (.hs 7 0 ((getM [] u (gt f k)) ++ [aa.mk 2 k]).length 2)))]) (tr (y := orE (dv [.mapr 5 2 (mre az.K 2 aa.c u (gt f k) (.hs 5 0 (getM [] u (gt f k)).length 2)), .own (a.flatMap ah.c), .own (b.flatMap ah.c), .own (f.flatMap ah.c), .own (ah.c (gt f k)), .dead, .own [ag 2, ag k], .own (((getM [] u (gt f k)) ++ [aa.mk 2 k]).flatMap aa.c)] (.mp 0) (ag ((fu u (gt f k) : Nat) : Int)) (.hs 7 0 ((getM [] u (gt f k)) ++ [aa.mk 2 k]).length 2)) (dr [.mapr 5 2 (mre az.K 2 aa.c u (gt f k) (.hs 5 0 (getM [] u (gt f k)).length 2)), .own (a.flatMap ah.c), .own (b.flatMap ah.c), .own (f.flatMap ah.c), .own (ah.c (gt f k)), .dead, .own [ag 2, ag k], .own (((getM [] u (gt f k)) ++ [aa.mk 2 k]).flatMap aa.c)] (.mp 0) (ag ((fu u (gt f k) : Nat) : Int)) (.hs 7 0 ((getM [] u (gt f k)) ++ [aa.mk 2 k]).length 2))) (zz (j := 5) (V := az.K) (es := 2) (c := aa.c) (l := u) (x := (gt f k)) (A := .hs 5 0 (getM [] u (gt f k)).length 2) (v := .hs 7 0 ((getM [] u (gt f k)) ++ [aa.mk 2 k]).length 2) kRf)) (.done (.pop (.ru G ?_)))))))))
   exact aF (dT u (gt f k) ((getM [] u (gt f k)) ++ [aa.mk 2 k]), Ew (k + 1)) hr ((Wk.vJ 0 7 (V := az.K) (es := 2) (c := aa.c) (l := u) (x := (gt f k)) (v := (getM [] u (gt f k)) ++ [aa.mk 2 k]) (d := 5) (len := ((getM [] u (gt f k)) ++ [aa.mk 2 k]).length) aa.pure rfl).trans ((Wk.gc [30, 33, 34, 35, 231, 232, 236, 237, 238] kF4 rfl (pKR az.K 0 2 aa.c (dT u (gt f k) ((getM [] u (gt f k)) ++ [aa.mk 2 k])) (pKo ah.c ah.pure a (pKo ah.c ah.pure b (pKo ah.c ah.pure f trivial))))).to))
  refine .leave rfl ?_
  obtain rfl := oi hr
  exact ⟨rfl, ((Wk.gc [30, 33, 34, 231, 232] kF4 rfl (pKR az.K 0 2 aa.c u (pKo ah.c ah.pure a (pKo ah.c ah.pure b (pKo ah.c ah.pure f trivial))))).to)⟩
 rintro x st' wI
 clear AF
 obtain ⟨rfl, wI⟩ := wI
 refine a8 _ rfl (.pop (.wk wI (.ru G (UNR.next (.n2 284 [(30, slT (slC aa.c) z.1), (33, nS), (34, .mp 0), (231, .agg [.hs 1 0 a.length 2, .hs 2 0 b.length 2, .hs 3 0 f.length 2]), (232, ag 3)] [.mapr 0 2 (mrs az.K 2 aa.c J), .own (a.flatMap ah.c), .own (b.flatMap ah.c), .own (f.flatMap ah.c)] (.seq (.r3 G 284 [(30, slT (slC aa.c) z.1), (33, nS), (34, .mp 0), (231, .agg [.hs 1 0 a.length 2, .hs 2 0 b.length 2, .hs 3 0 f.length 2]), (232, ag 3), (233, aB false)] (.seq (.cF kRf (.leave rfl (unF.exit rfl (.seq (.seq (.wk ((Wk.Ek 0 (V := az.K) (es := 2) (c := aa.c) (l := J) (d := 0)).to (c := ⟨mkS 284 0 [(30, slT (slC aa.c) z.1), (33, nS), (34, .mp 0), (231, .agg [.hs 1 0 a.length 2, .hs 2 0 b.length 2, .hs 3 0 f.length 2]), (232, ag 3), (233, aB false)], [.map (J.map (mpK az.K (slT aa.c))), .own (a.flatMap ah.c), .own (b.flatMap ah.c), .own (f.flatMap ah.c)]⟩) kRf) (.r0 G (.mu 1 (.e0 (v := .hp 4 0) (ws := [(4, .iter 0 J.length [])]) (tr (y := jE Tryz.prog [.map (J.map (mpK az.K (slT aa.c))), .own (a.flatMap ah.c), .own (b.flatMap ah.c), .own (f.flatMap ah.c)] 4 58 (.mp 0)) (z8 (kt := 42) (e := 59) (es := J) (mk := (mpK az.K (slT aa.c))) kRf kRf)) (.done (.n2 284 [(30, slT (slC aa.c) z.1), (33, nS), (256, .hp 4 0)] [.map (J.map (mpK az.K (slT aa.c))), .own (a.flatMap ah.c), .own (b.flatMap ah.c), .own (f.flatMap ah.c), .iter 0 J.length []] (.block ?_))))))))))))))))))))
 refine .BV (mk := (mpK az.K (slT aa.c))) hr (fun z0 sn => match z0 with | B => ⟨mkS 284 0 [(30, slT (slC aa.c) z.1), (33, .hs 0 0 B.length 1), (256, .hp 1 0)], [.own (B.flatMap (slC aa.c)), .iter 2 J.length sn, .map (J.map (mpK az.K (slT aa.c)))]⟩) 1 2 ((Wk.nil 33 1 kRf).trans ((Wk.gc [30, 33, 256] [(5, false), (4, true), (0, false)] rfl (pKc (pKt (pKM az.K (slT aa.c) (fun _ => rfl) J trivial)))).to)) ?_ ?_
 ·clear hr
  rintro B sn zo lY z' G' Cx hr AO
  refine .wk ((Wk.refl _).to (c := ⟨mkS 284 0 [(30, slT (slC aa.c) z.1), (33, .hs 0 0 B.length 1), (256, .hp 1 0), (258, aB true)], [.own (B.flatMap (slC aa.c)), .iter 2 J.length (sn ++ [zo]), .map (J.map (mpK az.K (slT aa.c)))]⟩)) (.block (.seq (.r0 G (.p0 (v := .tup [.agg (ah.c lY.1), slT aa.c lY.2]) (tr (y := fD [.own (B.flatMap (slC aa.c)), .iter 2 J.length (sn ++ [zo]), .map (J.map (mpK az.K (slT aa.c)))] (.hp 1 0)) (Eq.trans (zZ (P := Tryz.prog) (m := 2) (sn := sn) (es := J) (mk := (mpK az.K (slT aa.c))) (e := lY) kRf kRf Cx) kRf)) (.mu 2 (.done (.n2 284 [(30, slT (slC aa.c) z.1), (33, .hs 0 0 B.length 1), (40, slT aa.c lY.2), (256, .hp 1 0)] [.own (B.flatMap (slC aa.c)), .iter 2 J.length (sn ++ [zo]), .map (J.map (mpK az.K (slT aa.c)))] (.seq (.r3 G 284 [(30, slT (slC aa.c) z.1), (33, .hs 0 0 B.length 1), (40, slT aa.c lY.2), (256, .hp 1 0), (263, aB (decide ((lY.2.length : Int) > 1)))] ?_)))))))))
  refine .cd hr ?_ ?_ <;> intro DR hr
  ·obtain ⟨Cv, CS, hr⟩ := gd2 hr
   refine .r0 G (.mu 3 (.e0 (v := .hs 4 0 (B ++ [lY.2]).length 1) (ws := [(0, .dead), (4, .own ((B ++ [lY.2]).flatMap (slC aa.c)))]) (tr (dm (new := [slT aa.c lY.2]) (l := B) (xs := [lY.2]) (fr aa.c) rfl rfl kRf Cv CS)) (.mu 1 (.done (.pop ?_)))))
   obtain rfl := oi hr
   exact AO _ ((Wk.gc [30, 33, 256] [(4, false), (1, true), (2, false)] rfl (pKo (slC aa.c) (gX _) (B ++ [lY.2]) (pKt (pKM az.K (slT aa.c) (fun _ => rfl) J trivial)))).to)
  refine .skip (.pop ?_)
  obtain rfl := oi hr
  exact AO _ ((Wk.gc [30, 33, 256] [(0, false), (1, true), (2, false)] rfl (pKo (slC aa.c) (gX _) B (pKt (pKM az.K (slT aa.c) (fun _ => rfl) J trivial)))).to)
 clear hr
 rintro B sn hr
 refine a8 _ rfl (.wk ((Wk.refl _).to (c := ⟨mkS 284 0 [(30, slT (slC aa.c) z.1), (33, .hs 0 0 B.length 1), (256, .hp 1 0), (258, aB false)], [.own (B.flatMap (slC aa.c)), .iter 2 J.length sn, .map (J.map (mpK az.K (slT aa.c)))]⟩)) (.seq (.seq (.r3 G 284 [(30, slT (slC aa.c) z.1), (33, .hs 0 0 B.length 1), (272, aB (((B.length : Int) : Int) != (z.1.length : Int)))] ?_))))
 refine .cd hr ?_ ?_ <;> intro DN hr
 ·refine .seq (.ru G (.ret ?_))
  obtain rfl := oi hr
  exact aS.r1 [aB false]
 refine .skip (.seq (.seq (.r3 G 284 [(30, slT (slC aa.c) z.1), (273, .hs 0 0 B.length 1), (274, ag (B.length : Int)), (275, ag 0)] (.block ?_))))
 replace hr := bd hr; obtain ⟨AD, wG, hr⟩ := hr
 refine .aP (σ := fun z0 => match z0 with | Z => ⟨mkS 284 0 [(30, slT (slC aa.c) z.1), (273, .hs 0 0 B.length 1), (274, ag (B.length : Int)), (275, ag Z)], [.own (B.flatMap (slC aa.c))]⟩) (Q := fun x st' => match (generalizing := false) AD with | .inl _ => x = .exit 16 /\ Wk 0 st' ⟨mkS 284 0 [], []⟩ | .inr (r0) => x = .ret /\ aS Tryz.prog [.tmp 6] (aB r0) .ret st') wG ((Wk.gc [30, 273, 274, 275] [(0, false)] rfl (pKo (slC aa.c) (gX _) B trivial)).to) ?_ ?_
 ·clear hr
  rintro m Z hr
  refine CQ.sh ?_
  refine .seq (.r3 G 284 [(30, slT (slC aa.c) z.1), (273, .hs 0 0 B.length 1), (274, ag (B.length : Int)), (275, ag Z), (276, aB (decide (Z < (B.length : Int))))] (.seq ?_))
  refine .cd hr ?_ ?_ <;> intro DC hr
  ·refine .skip (.seq (.block (.seq ?_)))
   obtain ⟨AQ, hr⟩ := gd hr
   refine .r0 G (.p0 (v := .hp 0 (0 + Z.toNat * 1)) (tr (aq AQ)) (.p0 (v := slT aa.c (gt B Z)) (tr (aD (aC (fr aa.c) (ax AQ) z1 (by omega : 0 + Z.toNat * 1 = Z.toNat * 1 + 0) kRf))) (.mu 2 (.done (.n2 284 [(30, slT (slC aa.c) z.1), (42, .hp 1 0), (273, .hs 0 0 B.length 1), (274, ag (B.length : Int)), (275, ag Z)] [.own (B.flatMap (slC aa.c)), .own [slT aa.c (gt B Z)]] (.seq ?_))))))
   obtain ⟨AT, CX, hr⟩ := bd hr
   refine .g1 G (dd (args := [slT (slC aa.c) z.1, .fn 14 [] [.hp 1 0]]) (l := [1]) rfl (Sp (SnL.cons (Sn.fn SnL.nil (SnL.cons (Sn.hp rfl (.inl rfl) (SnC.cons (Sn.pure rfl) SnC.nil)) SnL.nil)) SnL.nil)) (cy n z.1 (gt B Z) AT CX)) (.mu 2 (.ca cf0 (.mu 1 (.done (.n2 284 [(30, slT (slC aa.c) z.1), (273, .hs 0 0 B.length 1), (274, ag (B.length : Int)), (275, ag Z), (282, aB (!AT))] [.own (B.flatMap (slC aa.c)), .own [slT aa.c (gt B Z)]] ?_)))))
   refine .cd hr ?_ ?_ <;> intro DO hr
   ·refine .seq (.ru G (.ret ?_))
    obtain rfl := oi hr
    exact ⟨rfl, aS.ret (vs := [aB false]) kRf (Sn.pure rfl)⟩
   refine .skip (.pop (.ru G ?_))
   exact aF (Ew (Z + 1)) hr ((Wk.gc [30, 273, 274, 275] [(0, false)] rfl (pKo (slC aa.c) (gX _) B trivial)).to)
  refine .leave rfl ?_
  obtain rfl := oi hr
  exact ⟨rfl, ((Wk.gc [] [] rfl pK0).to)⟩
 rcases AD with ⟨⟩ | r0
 ·rintro x st' ov
  clear wG
  obtain ⟨rfl, ov⟩ := ov
  refine a8 _ rfl (.wk ov (.seq (.ru G (.ret ?_))))
  obtain rfl := oi hr
  exact aS.r1 [aB true]
 rintro x st' ov
 clear wG
 obtain ⟨rfl, ov⟩ := ov
 obtain rfl := oi hr
 exact fp _ ov
end Go.L
