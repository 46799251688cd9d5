
import Derived.Test.YtlpfiiejhikalaaGreatTrkLP1
import Derived.Test.YtlpfiiejhikalaaGreatL0Trks
import Derived.Test.YtlpfiiejhikalaaGreatSeqTrks
import Derived.Test.YtlpfiiejhikalaaGreatSortMTrks
import Derived.Test.YtlpfiiejhikalaaGreatSortTTrks
import Derived.Test.YtlpfiiejhikalaaGreatChecked
import Derived.KernelRfl
set_option linter.all false
set_option maxRecDepth 100000
set_option maxHeartbeats 4000000
namespace Go.L
open Go Go.Eng Go.Proofs
theorem fi (n : Nat) (a : List Int) (b : List Int) (num : Int) (den : Int) (r : List aI × Int) (hr : cY n a b num den = some r) : bo Tryz.prog 10 [slT (iC .u64) a, slT (iC .u64) b, ag num, ag den] (.tup [slT aI.c r.1, ag r.2]) := by
 unfold cY at hr
 refine bo.bd G Tryz.func10 [.tmp 8, .tmp 9] ?_
 unfold Tryz.f10
 simp only [gS]
 refine .seq (.r5 G [0, 1] [(6, .hp 0 0), (7, .hp 1 0)] [.own [ag num], .own [ag den]] (.seq (.seq ?_)))
 rcases bT (decide ((a.length : Int) > 64)) with p | p
 ·replace hr := cB p hr
  refine .r0 G (.mu 2 (.p0 (v := aB true) (eB p) (.mu 5 (.done (.nh [0, 1, 6, 7, 25] [.own [ag num], .own [ag den]] (.cT kRf (.seq (.r3 G 96 [(8, nS), (9, ag 3)] (.ret ?_)))))))))
  obtain rfl := oi hr
  exact aS.ret (vs := [nS, ag 3]) kRf (Sn.tup (SnL.cons Sn.iS (Sp SnL.nil)))
 replace hr := cC p hr
 refine .r0 G (.mu 2 (.p0 (v := aB false) (eB p) (.mu 5 (.done (.nh [0, 1, 6, 7, 25] [.own [ag num], .own [ag den]] ?_)))))
 refine .cd hr ?_ ?_ <;> intro M hr
 ·refine .seq (.r3 G 96 [(8, nS), (9, ag 3)] (.ret ?_))
  obtain rfl := oi hr
  exact aS.ret (vs := [nS, ag 3]) kRf (Sn.tup (SnL.cons Sn.iS (Sp SnL.nil)))
 refine .skip (.seq (.seq ?_))
 rcases bT (decide (num < 1)) with i | i
 ·replace hr := cB i hr
  refine .r0 G (.mu 1 (.p0 (v := aB true) (eB i) (.mu 12 (.done (.nh [0, 1, 6, 7, 39] [.own [ag num], .own [ag den]] (.cT kRf (.seq (.r3 G 96 [(8, nS), (9, ag 2)] (.ret ?_)))))))))
  obtain rfl := oi hr
  exact aS.ret (vs := [nS, ag 2]) kRf (Sn.tup (SnL.cons Sn.iS (Sp SnL.nil)))
 replace hr := cC i hr
 rcases bT (decide (num > 1000)) with o | o
 ·replace hr := cB o hr
  refine .r0 G (.mu 1 (.p0 (v := aB false) (eB i) (.mu 2 (.pure (v := aB true) kRf (eB o) (.mu 9 (.done (.nh [0, 1, 6, 7, 39] [.own [ag num], .own [ag den]] (.cT kRf (.seq (.r3 G 96 [(8, nS), (9, ag 2)] (.ret ?_)))))))))))
  obtain rfl := oi hr
  exact aS.ret (vs := [nS, ag 2]) kRf (Sn.tup (SnL.cons Sn.iS (Sp SnL.nil)))
 replace hr := cC o hr
 rcases bT (decide (den < 1)) with q | q
 ·replace hr := cB q hr
  refine .r0 G (.mu 1 (.p0 (v := aB false) (eB i) (.mu 2 (.pure (v := aB false) kRf (eB o) (.mu 3 (.pure (v := aB true) kRf (eB q) (.mu 5 (.done (.nh [0, 1, 6, 7, 39] [.own [ag num], .own [ag den]] (.cT kRf (.seq (.r3 G 96 [(8, nS), (9, ag 2)] (.ret ?_)))))))))))))
  obtain rfl := oi hr
  exact aS.ret (vs := [nS, ag 2]) kRf (Sn.tup (SnL.cons Sn.iS (Sp SnL.nil)))
 replace hr := cC q hr
 refine .r0 G (.mu 1 (.p0 (v := aB false) (eB i) (.mu 2 (.pure (v := aB false) kRf (eB o) (.mu 3 (.pure (v := aB false) kRf (eB q) (.mu 5 (.done (.nh [0, 1, 6, 7, 39] [.own [ag num], .own [ag den]] ?_)))))))))
 refine .cd hr ?_ ?_ <;> intro N hr
 ·refine .seq (.r3 G 96 [(8, nS), (9, ag 2)] (.ret ?_))
  obtain rfl := oi hr
  exact aS.ret (vs := [nS, ag 2]) kRf (Sn.tup (SnL.cons Sn.iS (Sp SnL.nil)))
 refine .skip (.seq (.r4 G [0, 1] [(10, .fn 31 [] [.hp 1 0, .hp 0 0])] (.seq (.r4 G [0, 1, 10] [(11, nS)] (.seq (.seq (.r4 G [0, 1, 10, 11] [(41, slT (iC .u64) a), (42, ag (a.length : Int)), (43, ag 0)] (.block ?_))))))))
 replace hr := bd hr; obtain ⟨j, w, hr⟩ := hr
 refine .aP (σ := fun O => match O with | (f, e) => ⟨mkS 96 0 [(0, slT (iC .u64) a), (1, slT (iC .u64) b), (10, .fn 31 [] [.hp 0 0, .hp 1 0]), (11, .hs 2 0 f.length 3), (41, slT (iC .u64) a), (42, ag (a.length : Int)), (43, ag e)], [.own [ag den], .own [ag num], .own (f.flatMap aI.c)]⟩) (Q := fun x st' => x = .exit 0 /\ Wk 0 st' ⟨mkS 96 0 [(11, .hs 0 0 j.length 3)], [.own (j.flatMap aI.c)]⟩) w ((Wk.nil 11 3 kRf).trans ((Wk.gc [0, 1, 10, 11, 41, 42, 43] [(1, true), (0, true), (2, false)] rfl (pKt (pKt (pKc trivial)))).to)) ?_ ?_
 ·clear hr
  rintro m ⟨f, e⟩ hr
  refine CQ.sh ?_
  refine .seq (.r4 G [0, 1, 10, 11, 41, 42, 43] [(44, aB (decide (e < (a.length : Int))))] (.seq ?_))
  refine .cd hr ?_ ?_ <;> intro I hr
  ·refine .skip (.seq (.block (.seq ?_)))
   obtain ⟨y, hr⟩ := gd hr
   refine .r0 G (.mu 1 (.p0 (v := .pp (a.flatMap (iC .u64)) (e.toNat * 1)) (tr (aq y)) (.p0 (v := aV (gt a e)) (tr (aD (aC (ay .u64) (ax y) z1 (by omega : e.toNat * 1 = e.toNat * 1 + 0) kRf))) (.mu 2 (.done (.nh [0, 1, 10, 11, 12, 13, 41, 42, 43] [.own [ag den], .own [ag num], .own (f.flatMap aI.c)] (.seq ?_)))))))
   obtain ⟨d, A, hr⟩ := bd hr
   refine .g1 G (ok0 (gB n b (gt a e) (-1) d A)) (.mu 2 (.ca cf0 (.mu 5 (.done (.nh [0, 1, 10, 11, 12, 13, 14, 15, 41, 42, 43] [.own [ag den], .own [ag num], .own (f.flatMap aI.c)] (.seq (.seq (.r4 G [0, 1, 10, 11, 12, 13, 14, 15, 41, 42, 43] [(55, aB (decide (d.1 < 0)))] ?_))))))))
   refine .cd hr ?_ ?_ <;> intro J hr
   ·refine .exit rfl (.ru G ?_)
    exact aF (f, Ew (e + 1)) hr ((Wk.gc [0, 1, 10, 11, 41, 42, 43] [(0, true), (1, true), (2, false)] rfl (pKt (pKt (pKo aI.c aI.pure f trivial)))).to)
   refine .skip (.seq ?_)
   obtain ⟨k, hr⟩ := gd hr
   obtain ⟨B, C, hr⟩ := bd hr
   refine .g1 G (ok0 (gB n a (gt b d.1) (-1) B C)) (.mu 3 (.p0 (v := .pp (b.flatMap (iC .u64)) (d.1.toNat * 1)) (tr (aq k)) (.p0 (v := aV (gt b d.1)) (tr (aD (aC (ay .u64) (ax k) z1 (by omega : d.1.toNat * 1 = d.1.toNat * 1 + 0) kRf))) (.ca cf0 (.mu 5 (.done (.nh [0, 1, 10, 11, 12, 13, 14, 15, 16, 41, 42, 43] [.own [ag den], .own [ag num], .own (f.flatMap aI.c)] (.seq ?_))))))))
   rcases bT ((B.1 : Int) == e) with g | g
   ·replace hr := cB g hr
    obtain ⟨F, s, hr⟩ := bd hr
    rcases bT F with t | t
    ·subst t
     replace hr := cB rfl hr
     obtain ⟨H, z, hr⟩ := bd hr
     refine .gn G (ca1 (dd (args := [slT (iC .u64) b, aV (gt a e), ag d.1, ag d.2, .hp 0 0, .hp 1 0]) (l := [0, 1]) rfl (Sp (Sp (Sp (Sp (SnL.cons (Sn.hp rfl (.inl rfl) (SnC.cons (Sn.pure rfl) SnC.nil)) (SnL.cons (Sn.hp rfl (.inl rfl) (SnC.cons (Sn.pure rfl) SnC.nil)) SnL.nil)))))) (fN n b (gt a e) d.1 d.2 den num true s)) (ca3 (dd (args := [slT (iC .u64) a, aV (gt b d.1), ag e, ag d.2, .hp 0 0, .hp 1 0]) (l := [0, 1]) rfl (Sp (Sp (Sp (Sp (SnL.cons (Sn.hp rfl (.inl rfl) (SnC.cons (Sn.pure rfl) SnC.nil)) (SnL.cons (Sn.hp rfl (.inl rfl) (SnC.cons (Sn.pure rfl) SnC.nil)) SnL.nil)))))) (fN n a (gt b d.1) e d.2 den num H z)))) (.mu 2 (.p0 (v := aB true) (eB g) (.mu 6 (.ca cf0 (.mu 6 (.pure (v := .pp (b.flatMap (iC .u64)) (d.1.toNat * 1)) kRf (tr (aq k)) (.pure (v := aV (gt b d.1)) kRf (tr (aD (aC (ay .u64) (ax k) z1 (by omega : d.1.toNat * 1 = d.1.toNat * 1 + 0) kRf))) (.mu 2 (.ca (cfA (fun h => by rw [sv z s (lQ n (show ([slT (iC .u64) a, aV (gt b d.1), ag e, ag d.2, .pp [ag den] 0, .pp [ag num] 0] : List AV) = [slT (iC .u64) b, aV (gt a e), ag d.1, ag d.2, .pp [ag den] 0, .pp [ag num] 0] from (congr (congrArg List.cons (List.cons.inj h).1) (congr (congrArg List.cons (List.cons.inj (List.cons.inj h).2).1) (congr (congrArg List.cons (List.cons.inj (List.cons.inj (List.cons.inj h).2).2).1) (congr (congrArg List.cons (List.cons.inj (List.cons.inj (List.cons.inj (List.cons.inj h).2).2).2).1) (congr (congrArg List.cons rfl) (congr (congrArg List.cons rfl) rfl))))))))]) cf0) (.mu 1 (.done (.nh [0, 1, 10, 11, 12, 14, 15, 41, 42, 43, 86] [.own [ag den], .own [ag num], .own (f.flatMap aI.c)] ?_))))))))))))
     refine .cd hr ?_ ?_ <;> intro L hr
     ·obtain ⟨D, E, hr⟩ := gd2 hr
      refine .r0 G (.mu 6 (.e0 (v := .hs 4 0 (f ++ [aI.mk e d.1 d.2]).length 3) (ws := [(2, .dead), (4, .own ((f ++ [aI.mk e d.1 d.2]).flatMap aI.c))]) (tr (dm (new := [ag e, ag d.1, ag d.2]) (l := f) (xs := [aI.mk e d.1 d.2]) aI.len rfl rfl kRf D E)) (.mu 1 (.done (.pop (.ru G ?_))))))
      exact aF (f ++ [aI.mk e d.1 d.2], Ew (e + 1)) hr ((Wk.gc [0, 1, 10, 11, 41, 42, 43] [(0, true), (1, true), (4, false)] rfl (pKt (pKt (pKo aI.c aI.pure (f ++ [aI.mk e d.1 d.2]) trivial)))).to)
     refine .skip (.pop (.ru G ?_))
     exact aF (f, Ew (e + 1)) hr ((Wk.gc [0, 1, 10, 11, 41, 42, 43] [(0, true), (1, true), (2, false)] rfl (pKt (pKt (pKo aI.c aI.pure f trivial)))).to)
    subst t
    replace hr := cC rfl hr
    refine .g1 G (dd (args := [slT (iC .u64) b, aV (gt a e), ag d.1, ag d.2, .hp 0 0, .hp 1 0]) (l := [0, 1]) rfl (Sp (Sp (Sp (Sp (SnL.cons (Sn.hp rfl (.inl rfl) (SnC.cons (Sn.pure rfl) SnC.nil)) (SnL.cons (Sn.hp rfl (.inl rfl) (SnC.cons (Sn.pure rfl) SnC.nil)) SnL.nil)))))) (fN n b (gt a e) d.1 d.2 den num false s)) (.mu 2 (.p0 (v := aB true) (eB g) (.mu 6 (.ca cf0 (.mu 12 (.done (.nh [0, 1, 10, 11, 12, 14, 15, 41, 42, 43, 86] [.own [ag den], .own [ag num], .own (f.flatMap aI.c)] (.cF kRf (.skip (.pop (.ru G ?_)))))))))))
    exact aF (f, Ew (e + 1)) hr ((Wk.gc [0, 1, 10, 11, 41, 42, 43] [(0, true), (1, true), (2, false)] rfl (pKt (pKt (pKo aI.c aI.pure f trivial)))).to)
   replace hr := cC g hr
   refine .r0 G (.mu 2 (.p0 (v := aB false) (eB g) (.mu 19 (.done (.nh [0, 1, 10, 11, 12, 14, 15, 41, 42, 43, 86] [.own [ag den], .own [ag num], .own (f.flatMap aI.c)] (.cF kRf (.skip (.pop (.ru G ?_)))))))))
   exact aF (f, Ew (e + 1)) hr ((Wk.gc [0, 1, 10, 11, 41, 42, 43] [(0, true), (1, true), (2, false)] rfl (pKt (pKt (pKo aI.c aI.pure f trivial)))).to)
  refine .leave rfl ?_
  obtain rfl := oi hr
  exact ⟨rfl, ((Wk.gc [11] [(2, false)] rfl (pKo aI.c aI.pure f trivial)).to)⟩
 rintro x st' u
 clear w
 obtain ⟨rfl, u⟩ := u
 refine a8 _ rfl (.wk u (.seq (.r3 G 96 [(8, .hs 0 0 j.length 3), (9, ag 0)] (.ret ?_))))
 obtain rfl := oi hr
 exact aS.ret (vs := [.hs 0 0 j.length 3, ag 0]) kRf (Sn.tup (SnL.cons (Sn.hs rfl (.inl rfl) (SnC.pure (aA aI.pure _)) (fun h => cZ h)) (Sp SnL.nil)))

theorem fF (n : Nat) (d : List Int) (f : List Int) (r : Bool) (hr : eP n d f = some r) : bo Tryz.prog 38 [slT (iC .u64) d, slT (iC .u64) f] (aB r) := by
 unfold eP at hr
 refine bo.bd G Tryz.func38 [.tmp 4] ?_
 unfold Tryz.f38
 simp only [gS]
 refine .seq (.r4 G [0, 1] [] (.seq (.seq (.r4 G [0, 1] [(10, aB (((d.length : Int) : Int) != (f.length : Int)))] ?_))))
 refine .cd hr ?_ ?_ <;> intro j hr
 ·refine .seq (.ru G (.ret ?_))
  obtain rfl := oi hr
  exact aS.r1 [aB false]
 refine .skip (.seq (.seq (.r4 G [0, 1] [(12, ag (d.length : Int)), (13, ag 0)] (.block ?_))))
 replace hr := bd hr; obtain ⟨g, c, hr⟩ := hr
 refine .aP (σ := fun k => match k with | a => ⟨mkS 26 0 [(0, slT (iC .u64) d), (1, slT (iC .u64) f), (12, ag (d.length : Int)), (13, ag a)], []⟩) (Q := fun x st' => match (generalizing := false) g with | .inl _ => x = .exit 0 /\ Wk 0 st' ⟨mkS 26 0 [], []⟩ | .inr (r0) => x = .ret /\ aS Tryz.prog [.tmp 4] (aB r0) .ret st') c ((Wk.gc [0, 1, 12, 13] [] rfl pK0).to) ?_ ?_
 ·clear hr
  rintro m a hr
  refine CQ.sh ?_
  refine .seq (.r4 G [0, 1, 12, 13] [(14, aB (decide (a < (d.length : Int))))] (.seq ?_))
  refine .cd hr ?_ ?_ <;> intro l hr
  ·refine .skip (.seq (.block (.seq (.r4 G [0, 1, 12, 13] [(5, ag a)] (.seq ?_)))))
   obtain ⟨h, e, hr⟩ := gd2 hr
   refine .ba G aK (.mu 2 (.pk (v := .pp (d.flatMap (iC .u64)) (a.toNat * 1)) (tr (aq h)) (.pk (v := aV (gt d a)) (tr (aD (aC (ay .u64) (ax h) z1 (by omega : a.toNat * 1 = a.toNat * 1 + 0) kRf))) (.mu 2 (.pk (v := .pp (f.flatMap (iC .u64)) (a.toNat * 1)) (tr (aq e)) (.pk (v := aV (gt f a)) (tr (aD (aC (ay .u64) (ax e) z1 (by omega : a.toNat * 1 = a.toNat * 1 + 0) kRf))) (.mu 1 ?_)))))))
   refine .done (kRa ?_)
   refine .nh [0, 1, 12, 13, 24] [] ?_
   refine .cd hr ?_ ?_ <;> intro i hr
   ·refine .seq (.ru G (.ret ?_))
    obtain rfl := oi hr
    exact ⟨rfl, aS.ret (vs := [aB false]) kRf (Sn.pure rfl)⟩
   refine .skip (.pop (.ru G ?_))
   exact aF (Ew (a + 1)) hr ((Wk.gc [0, 1, 12, 13] [] rfl pK0).to)
  refine .leave rfl ?_
  obtain rfl := oi hr
  exact ⟨rfl, ((Wk.gc [] [] rfl pK0).to)⟩
 rcases g with ⟨⟩ | r0
 ·rintro x st' b
  clear c
  obtain ⟨rfl, b⟩ := b
  refine a8 _ rfl (.wk b (.seq (.ru G (.ret ?_))))
  obtain rfl := oi hr
  exact aS.r1 [aB true]
 rintro x st' b
 clear c
 obtain ⟨rfl, b⟩ := b
 obtain rfl := oi hr
 exact fp _ b

theorem ll (n : Nat) (r : Bool) (hr : gy n = some r) : bo Tryz.prog 17 [] (aB r) := by
 unfold gy at hr
 refine bo.bd G Tryz.func17 [.tmp 0] ?_
 unfold Tryz.f17
 simp only [gS]
 refine .seq (.r3 G 44 [] (.seq (.r2 G 44 [(1, .hs 0 0 1 8)] [.own [ag 0, ag 0, ag 1, ag 1, ag 1, ag 0, ag 1, ag 1]] (.seq ?_))))
 obtain ⟨c, f, hr⟩ := bd hr
 refine .gn G (ca4 [.own [ag 0, ag 0, ag 1, ag 1, ag 1, ag 0, ag 1, ag 1], .own [ag 1, ag 5, ag 5]] (gw (args := [.agg [ag 3, ag 1, ag 9, .hs 1 0 3 1], .hs 0 0 1 8]) (l := [0, 1]) (SnL.cons (Sn.agg (Sp (Sp (Sp (SnL.cons (Sn.hs rfl (.inl rfl) (SnC.cons (Sn.pure rfl) (SnC.cons (Sn.pure rfl) (SnC.cons (Sn.pure rfl) SnC.nil))) (fun h => nomatch h)) SnL.nil))))) (SnL.cons (Sn.hs rfl (.inl rfl) (SnC.cons (Sn.pure rfl) (SnC.cons (Sn.pure rfl) (SnC.cons (Sn.pure rfl) (SnC.cons (Sn.pure rfl) (SnC.cons (Sn.pure rfl) (SnC.cons (Sn.pure rfl) (SnC.cons (Sn.pure rfl) (SnC.cons (Sn.pure rfl) SnC.nil)))))))) (fun h => nomatch h)) SnL.nil)) (eZ n (ak.mk 3 1 9 [(1 : Int), (5 : Int), (5 : Int)]) [aj.mk (A4.mk 0 0 1 1 : A4 Int) (A4.mk 1 0 1 1 : A4 Int)] c f))) (.mu 3 (.ca cf0 (.mu 7 (.done (.nh [2, 3, 4] [.fix [ag 0, ag 0, ag 1, ag 1, ag 1, ag 0, ag 1, ag 1], .fix [ag 1, ag 5, ag 5]] (.seq ?_))))))
 obtain ⟨g, i, hr⟩ := bd hr
 refine .gn G (ca4 [.fix [ag 0, ag 0, ag 1, ag 1, ag 1, ag 0, ag 1, ag 1], .fix [ag 1, ag 5, ag 5], .own [aV 0, aV 1]] (gw (args := [slT (iC .u64) c.2.1, .hs 2 0 2 1, ag 1, ag 1]) (l := [2]) (Sp (SnL.cons (Sn.hs rfl (.inl rfl) (SnC.cons (Sn.pure rfl) (SnC.cons (Sn.pure rfl) SnC.nil)) (fun h => nomatch h)) (Sp (Sp SnL.nil)))) (fi n c.2.1 [(0 : Int), (1 : Int)] 1 1 g i))) (.mu 2 (.ca cf0 (.mu 5 (.done (.nh [2, 3, 4, 5, 6] [.fix [ag 0, ag 0, ag 1, ag 1, ag 1, ag 0, ag 1, ag 1], .fix [ag 1, ag 5, ag 5], .fix [aV 0, aV 1]] (.seq ?_))))))
 rcases bT (((Ew (c.2.2 + g.2)) : Int) == 0) with a | a
 ·replace hr := cB a hr
  rcases bT (((c.1.length : Int) : Int) == 2) with b | b
  ·replace hr := cB b hr
   obtain ⟨j, e, hr⟩ := bd hr
   rcases bT j with d | d
   ·subst d
    replace hr := cB rfl hr
    refine .gn G (ca4 [.fix [ag 0, ag 0, ag 1, ag 1, ag 1, ag 0, ag 1, ag 1], .fix [ag 1, ag 5, ag 5], .fix [aV 0, aV 1], .own [aV 1, aV 0]] (dd (args := [slT (iC .u64) c.2.1, .hs 3 0 2 1]) (l := [3]) rfl (Sp (SnL.cons (Sn.hs rfl (.inl rfl) (SnC.cons (Sn.pure rfl) (SnC.cons (Sn.pure rfl) SnC.nil)) (fun h => nomatch h)) SnL.nil)) (fF n c.2.1 [(1 : Int), (0 : Int)] true e))) (.mu 3 (.p0 (v := aB true) (eB a) (.mu 3 (.pure (v := aB true) kRf (eB b) (.mu 4 (.ca cf0 (.mu 7 (.done (.ret ?_)))))))))
    obtain rfl := oi hr
    exact aS.r1 [aB (((g.1.length : Int) : Int) == 2)]
   subst d
   replace hr := cC rfl hr
   refine .gn G (ca4 [.fix [ag 0, ag 0, ag 1, ag 1, ag 1, ag 0, ag 1, ag 1], .fix [ag 1, ag 5, ag 5], .fix [aV 0, aV 1], .own [aV 1, aV 0]] (dd (args := [slT (iC .u64) c.2.1, .hs 3 0 2 1]) (l := [3]) rfl (Sp (SnL.cons (Sn.hs rfl (.inl rfl) (SnC.cons (Sn.pure rfl) (SnC.cons (Sn.pure rfl) SnC.nil)) (fun h => nomatch h)) SnL.nil)) (fF n c.2.1 [(1 : Int), (0 : Int)] false e))) (.mu 3 (.p0 (v := aB true) (eB a) (.mu 3 (.pure (v := aB true) kRf (eB b) (.mu 4 (.ca cf0 (.mu 7 (.done (.ret ?_)))))))))
   obtain rfl := oi hr
   exact aS.r1 [aB false]
  replace hr := cC b hr
  refine .r0 G (.mu 3 (.p0 (v := aB true) (eB a) (.mu 3 (.pure (v := aB false) kRf (eB b) (.mu 12 (.done (.ret ?_)))))))
  obtain rfl := oi hr
  exact aS.r1 [aB false]
 replace hr := cC a hr
 refine .r0 G (.mu 3 (.p0 (v := aB false) (eB a) (.mu 16 (.done (.ret ?_)))))
 obtain rfl := oi hr
 exact aS.r1 [aB false]

theorem lA (n : Nat) (r : Bool) (hr : dX n = some r) : bo Tryz.prog 4 [] (aB r) := by
 unfold dX at hr
 refine bo.bd G Tryz.func4 [.tmp 0] ?_
 unfold Tryz.f4
 simp only [gS]
 refine .seq (.r3 G 42 [] (.seq (.r3 G 42 [(1, .fn 16 [] [])] (.seq ?_))))
 obtain ⟨m, u, o, w, p, x, hr⟩ := bd3 hr
 obtain ⟨q, y, s, A, hr⟩ := bd2 hr
 refine .gn G (ca1 (ok0 (bt n 0 m u)) (ca1 (ok0 (bt n 1 o w)) (ca1 (ok0 (bt n 1 p x)) (ca1 (ok0 (bt n 2 q y)) (ca4 [.own [ag m.Image, ag m.Feature, ag o.Image, ag o.Feature, ag 0, ag p.Image, ag p.Feature, ag q.Image, ag q.Feature, ag 0]] (gw (args := [.hs 0 0 2 5]) (l := [0]) (SnL.cons (Sn.hs rfl (.inl rfl) (SnC.cons (Sn.pure rfl) (SnC.cons (Sn.pure rfl) (SnC.cons (Sn.pure rfl) (SnC.cons (Sn.pure rfl) (SnC.cons (Sn.pure rfl) (SnC.cons (Sn.pure rfl) (SnC.cons (Sn.pure rfl) (SnC.cons (Sn.pure rfl) (SnC.cons (Sn.pure rfl) (SnC.cons (Sn.pure rfl) SnC.nil)))))))))) (fun h => nomatch h)) SnL.nil) (mc n [ai.mk m o 0, ai.mk p q 0] s A))))))) (.mu 1 (.ca cf0 (.mu 1 (.ca (cfA (fun h => by rw [sv w u (bf n h)]) cf0) (.mu 2 (.ca (cfA (fun h => by rw [sv x u (bf n h)]) (cfA (fun h => by rw [sv x w (bf n h)]) cf0)) (.mu 1 (.ca (cfA (fun h => by rw [sv y u (bf n h)]) (cfA (fun h => by rw [sv y w (bf n h)]) (cfA (fun h => by rw [sv y x (bf n h)]) cf0))) (.mu 2 (.ca (cfF (cfF (cfF (cfF cf0)))) (.mu 5 (.done (.nh [1, 2, 3] [.fix [ag m.Image, ag m.Feature, ag o.Image, ag o.Feature, ag 0, ag p.Image, ag p.Feature, ag q.Image, ag q.Feature, ag 0]] (.seq ?_))))))))))))))
 rcases bT ((s.2 : Int) == 0) with a | a
 ·replace hr := cB a hr
  rcases bT (((s.1.length : Int) : Int) == 1) with f | f
  ·replace hr := cB f hr
   obtain ⟨k, hr⟩ := gd hr
   obtain ⟨b, g, d, i, e, j, hr⟩ := bd3 hr
   obtain ⟨D, z, hr⟩ := bd hr
   rcases bT D with t | t
   ·subst t
    replace hr := cB rfl hr
    obtain ⟨B, C, hr⟩ := bd hr
    refine .tn G (ca1 (ok0 (bt n 0 b g)) (ca1 (ok0 (bt n 1 d i)) (ca1 (ok0 (bt n 2 e j)) (ca2 [.fix [ag m.Image, ag m.Feature, ag o.Image, ag o.Feature, ag 0, ag p.Image, ag p.Feature, ag q.Image, ag q.Feature, ag 0], .own [ag b.Image, ag b.Feature, ag d.Image, ag d.Feature, ag e.Image, ag e.Feature]] (dd (args := [slT aa.c (gt s.1 0), .hs 1 0 3 2]) (l := [1]) rfl (Sp (SnL.cons (Sn.hs rfl (.inl rfl) (SnC.cons (Sn.pure rfl) (SnC.cons (Sn.pure rfl) (SnC.cons (Sn.pure rfl) (SnC.cons (Sn.pure rfl) (SnC.cons (Sn.pure rfl) (SnC.cons (Sn.pure rfl) SnC.nil)))))) (fun h => nomatch h)) SnL.nil)) (bU n (gt s.1 0) [b, d, e] true z)) (ca4 [.fix [ag m.Image, ag m.Feature, ag o.Image, ag o.Feature, ag 0, ag p.Image, ag p.Feature, ag q.Image, ag q.Feature, ag 0], .own [ag b.Image, ag b.Feature, ag d.Image, ag d.Feature, ag e.Image, ag e.Feature]] (ok0 (ll n B C))))))) (.mu 1 (.pk (v := aB true) (eB a) (.mu 3 (.pk (v := aB true) (eB f) (.mu 3 (.pk (v := .pp (s.1.flatMap (slC aa.c)) ((0 : Int).toNat * 1)) (tr (aq k)) (.pk (v := slT aa.c (gt s.1 0)) (tr (aD (aC (fr aa.c) (ax k) z1 (by omega : (0 : Int).toNat * 1 = (0 : Int).toNat * 1 + 0) kRf))) (.mu 1 (.ca cf0 (.mu 1 (.ca (cfA (fun h => by rw [sv i g (bf n h)]) cf0) (.mu 1 (.ca (cfA (fun h => by rw [sv j g (bf n h)]) (cfA (fun h => by rw [sv j i (bf n h)]) cf0)) (.mu 1 (.ca (cfF (cfF (cfF cf0))) (.mu 2 (.ca (cfF (cfF (cfF (cfF cf0)))) (.mu 2 ?_))))))))))))))))))
    refine .done (kRa ?_)
    refine .ret ?_
    obtain rfl := oi hr
    exact aS.r1 [aB B]
   subst t
   replace hr := cC rfl hr
   refine .tn G (ca1 (ok0 (bt n 0 b g)) (ca1 (ok0 (bt n 1 d i)) (ca1 (ok0 (bt n 2 e j)) (ca4 [.fix [ag m.Image, ag m.Feature, ag o.Image, ag o.Feature, ag 0, ag p.Image, ag p.Feature, ag q.Image, ag q.Feature, ag 0], .own [ag b.Image, ag b.Feature, ag d.Image, ag d.Feature, ag e.Image, ag e.Feature]] (dd (args := [slT aa.c (gt s.1 0), .hs 1 0 3 2]) (l := [1]) rfl (Sp (SnL.cons (Sn.hs rfl (.inl rfl) (SnC.cons (Sn.pure rfl) (SnC.cons (Sn.pure rfl) (SnC.cons (Sn.pure rfl) (SnC.cons (Sn.pure rfl) (SnC.cons (Sn.pure rfl) (SnC.cons (Sn.pure rfl) SnC.nil)))))) (fun h => nomatch h)) SnL.nil)) (bU n (gt s.1 0) [b, d, e] false z)))))) (.mu 1 (.pk (v := aB true) (eB a) (.mu 3 (.pk (v := aB true) (eB f) (.mu 3 (.pk (v := .pp (s.1.flatMap (slC aa.c)) ((0 : Int).toNat * 1)) (tr (aq k)) (.pk (v := slT aa.c (gt s.1 0)) (tr (aD (aC (fr aa.c) (ax k) z1 (by omega : (0 : Int).toNat * 1 = (0 : Int).toNat * 1 + 0) kRf))) (.mu 1 (.ca cf0 (.mu 1 (.ca (cfA (fun h => by rw [sv i g (bf n h)]) cf0) (.mu 1 (.ca (cfA (fun h => by rw [sv j g (bf n h)]) (cfA (fun h => by rw [sv j i (bf n h)]) cf0)) (.mu 1 (.ca (cfF (cfF (cfF cf0))) (.mu 5 ?_))))))))))))))))
   refine .done (kRa ?_)
   refine .ret ?_
   obtain rfl := oi hr
   exact aS.r1 [aB false]
  replace hr := cC f hr
  refine .ba G aK (.mu 1 (.pk (v := aB true) (eB a) (.mu 3 (.pk (v := aB false) (eB f) (.mu 18 ?_)))))
  refine .done (kRa ?_)
  refine .ret ?_
  obtain rfl := oi hr
  exact aS.r1 [aB false]
 replace hr := cC a hr
 refine .ba G aK (.mu 1 (.pk (v := aB false) (eB a) (.mu 22 ?_)))
 refine .done (kRa ?_)
 refine .ret ?_
 obtain rfl := oi hr
 exact aS.r1 [aB false]

theorem fJ (n : Nat) (b : ak) (r : Int) (hr : ee n b = some r) : bo Tryz.prog 5 [.agg (ak.c b)] (ag r) := by
 unfold ee at hr
 refine bo.bd G Tryz.func5 [.tmp 2] ?_
 unfold Tryz.f5
 simp only [gS]
 refine .seq (.r2 G 66 [(1, .hp 0 0)] [.own (ak.c b)] (.seq (.seq ?_)))
 rcases bT (decide (b.Width < 1)) with e | e
 ·replace hr := cB e hr
  refine .r0 G (.mu 2 (.p0 (v := aB true) (eB e) (.mu 36 (.done (.nh [1, 42] [.own (ak.c b)] (.cT kRf (.seq (.ru G (.ret ?_)))))))))
  obtain rfl := oi hr
  exact aS.r1 [ag 1]
 replace hr := cC e hr
 rcases bT (decide (b.Width > 64)) with g | g
 ·replace hr := cB g hr
  refine .r0 G (.mu 2 (.p0 (v := aB false) (eB e) (.mu 3 (.pure (v := aB true) kRf (eB g) (.mu 32 (.done (.nh [1, 42] [.own (ak.c b)] (.cT kRf (.seq (.ru G (.ret ?_)))))))))))
  obtain rfl := oi hr
  exact aS.r1 [ag 1]
 replace hr := cC g hr
 rcases bT (decide (b.Height < 1)) with h | h
 ·replace hr := cB h hr
  refine .r0 G (.mu 2 (.p0 (v := aB false) (eB e) (.mu 3 (.pure (v := aB false) kRf (eB g) (.mu 4 (.pure (v := aB true) kRf (eB h) (.mu 27 (.done (.nh [1, 42] [.own (ak.c b)] (.cT kRf (.seq (.ru G (.ret ?_)))))))))))))
  obtain rfl := oi hr
  exact aS.r1 [ag 1]
 replace hr := cC h hr
 rcases bT (decide (b.Height > 64)) with j | j
 ·replace hr := cB j hr
  refine .r0 G (.mu 2 (.p0 (v := aB false) (eB e) (.mu 3 (.pure (v := aB false) kRf (eB g) (.mu 4 (.pure (v := aB false) kRf (eB h) (.mu 4 (.pure (v := aB true) kRf (eB j) (.mu 22 (.done (.nh [1, 42] [.own (ak.c b)] (.cT kRf (.seq (.ru G (.ret ?_)))))))))))))))
  obtain rfl := oi hr
  exact aS.r1 [ag 1]
 replace hr := cC j hr
 rcases bT (decide (b.Max < 1)) with k | k
 ·replace hr := cB k hr
  refine .r0 G (.mu 2 (.p0 (v := aB false) (eB e) (.mu 3 (.pure (v := aB false) kRf (eB g) (.mu 4 (.pure (v := aB false) kRf (eB h) (.mu 4 (.pure (v := aB false) kRf (eB j) (.mu 4 (.pure (v := aB true) kRf (eB k) (.mu 17 (.done (.nh [1, 42] [.own (ak.c b)] (.cT kRf (.seq (.ru G (.ret ?_)))))))))))))))))
  obtain rfl := oi hr
  exact aS.r1 [ag 1]
 replace hr := cC k hr
 rcases bT (decide (b.Max > 65535)) with l | l
 ·replace hr := cB l hr
  refine .r0 G (.mu 2 (.p0 (v := aB false) (eB e) (.mu 3 (.pure (v := aB false) kRf (eB g) (.mu 4 (.pure (v := aB false) kRf (eB h) (.mu 4 (.pure (v := aB false) kRf (eB j) (.mu 4 (.pure (v := aB false) kRf (eB k) (.mu 4 (.pure (v := aB true) kRf (eB l) (.mu 12 (.done (.nh [1, 42] [.own (ak.c b)] (.cT kRf (.seq (.ru G (.ret ?_)))))))))))))))))))
  obtain rfl := oi hr
  exact aS.r1 [ag 1]
 replace hr := cC l hr
 refine .r0 G (.mu 2 (.p0 (v := aB false) (eB e) (.mu 3 (.pure (v := aB false) kRf (eB g) (.mu 4 (.pure (v := aB false) kRf (eB h) (.mu 4 (.pure (v := aB false) kRf (eB j) (.mu 4 (.pure (v := aB false) kRf (eB k) (.mu 4 (.pure (v := aB false) kRf (eB l) (.mu 12 (.done (.nh [1, 42] [.own (ak.c b)] ?_)))))))))))))))
 refine .cd hr ?_ ?_ <;> intro t hr
 ·refine .seq (.ru G (.ret ?_))
  obtain rfl := oi hr
  exact aS.r1 [ag 1]
 refine .skip (.seq (.seq (.r4 G [1] [(3, ag 0)] (.block ?_))))
 replace hr := bd hr; obtain ⟨p, o, hr⟩ := hr
 refine .aP (σ := fun u => match u with | a => ⟨mkS 66 0 [(1, .hp 0 0), (3, ag a)], [.own (ak.c b)]⟩) (Q := fun x st' => match (generalizing := false) p with | .inl _ => x = .exit 0 /\ Wk 0 st' ⟨mkS 66 0 [], []⟩ | .inr (r0) => x = .ret /\ aS Tryz.prog [.tmp 2] (ag r0) .ret st') o ((Wk.gc [1, 3] [(0, true)] rfl trivial).to) ?_ ?_
 ·clear hr
  rintro m a hr
  refine CQ.sh ?_
  refine .seq (.seq (.r4 G [1, 3] [(47, aB (decide (a < (b.Pixels.length : Int))))] ?_))
  refine .cd hr ?_ ?_ <;> intro q hr
  ·refine .skip (.seq (.block (.seq ?_)))
   obtain ⟨f, hr⟩ := gd hr
   rcases bT (decide ((gt b.Pixels a) < 0)) with i | i
   ·replace hr := cB i hr
    refine .ba G aK (.mu 3 (.pk (v := .pp (b.Pixels.flatMap (iC .i64)) (a.toNat * 1)) (tr (aq f)) (.pk (v := ag (gt b.Pixels a)) (tr (aD (aC (ay .i64) (ax f) z1 (by omega : a.toNat * 1 = a.toNat * 1 + 0) kRf))) (.pk (v := aB true) (eB i) (.mu 10 ?_)))))
    refine .done (kRa ?_)
    refine .nh [1, 3, 65] [.own (ak.c b)] (.cT kRf (.seq (.ru G (.ret ?_))))
    obtain rfl := oi hr
    exact ⟨rfl, aS.ret (vs := [ag 1]) kRf (Sn.pure rfl)⟩
   replace hr := cC i hr
   refine .ba G aK (.mu 3 (.pk (v := .pp (b.Pixels.flatMap (iC .i64)) (a.toNat * 1)) (tr (aq f)) (.pk (v := ag (gt b.Pixels a)) (tr (aD (aC (ay .i64) (ax f) z1 (by omega : a.toNat * 1 = a.toNat * 1 + 0) kRf))) (.pk (v := aB false) (eB i) (.mu 4 (.pk (v := .pp (b.Pixels.flatMap (iC .i64)) (a.toNat * 1)) (tr (aq f)) (.pk (v := ag (gt b.Pixels a)) (tr (aD (aC (ay .i64) (ax f) z1 (by omega : a.toNat * 1 = a.toNat * 1 + 0) kRf))) (.mu 4 ?_))))))))
   refine .done (kRa ?_)
   refine .nh [1, 3, 65] [.own (ak.c b)] ?_
   refine .cd hr ?_ ?_ <;> intro s hr
   ·refine .seq (.ru G (.ret ?_))
    obtain rfl := oi hr
    exact ⟨rfl, aS.ret (vs := [ag 1]) kRf (Sn.pure rfl)⟩
   refine .skip (.pop (.ru G ?_))
   exact aF (Ew (a + 1)) hr ((Wk.gc [1, 3] [(0, true)] rfl trivial).to)
  refine .leave rfl ?_
  obtain rfl := oi hr
  exact ⟨rfl, ((Wk.gc [] [] rfl pK0).to)⟩
 rcases p with ⟨⟩ | r0
 ·rintro x st' d
  clear o
  obtain ⟨rfl, d⟩ := d
  refine a8 _ rfl (.wk d (.seq (.ru G (.ret ?_))))
  obtain rfl := oi hr
  exact aS.r1 [ag 0]
 rintro x st' d
 clear o
 obtain ⟨rfl, d⟩ := d
 obtain rfl := oi hr
 exact fp _ d

theorem iM (n : Nat) (s : List Int) (r : List Int) (hr : cX n s = some r) : bx 0 Tryz.prog 24 [slT (iC .u64) s] [] (.fn 44 [] [.hp 0 0]) [.own [slT (iC .u64) r]] := by
 unfold cX at hr
 refine bx.fH G Tryz.func24 (c := (Tryz.f24.body).getD .skip) rfl (us := [.fn 44 [] [.hp 0 0]]) (s := mkS 4 0 [(0, slT (iC .u64) s)]) kRf (rs := [.tmp 2]) rfl ?_
 unfold Tryz.f24
 simp only [gS]
 refine .seq (.r2 G 4 [(1, .hp 0 0)] [.own [slT (iC .u64) s]] (.seq (.r3 G 4 [(2, .fn 44 [] [.hp 0 0])] (.ret ?_))))
 obtain rfl := oi hr
 exact b6.ret [.fn 44 [] [.hp 0 0]] ((Wk.gc [0] [(0, true)] rfl trivial).to)

theorem ml {b : Int} {a : Int} (h : ([.at (.int .u64 b)] : List AV) = [.at (.int .u64 a)]) : b = a := by
 simp only [List.cons.injEq, AV.agg.injEq, AV.at.injEq, Value.int.injEq, Value.bool.injEq, AV.fn.injEq, AV.pp.injEq, true_and, and_true] at h
 simp_all
theorem jz (n : Nat) {b : Int} {a : Int} (h : ([.at (.int .u64 b)] : List AV) = [.at (.int .u64 a)]) : dI n b = dI n a := by
 obtain rfl := ml h
 rfl
theorem ef (n : Nat) (a : Int) (r : Bool) (hr : dI n a = some r) : bo Tryz.prog 104 [aV a] (aB r) := by
 unfold dI at hr
 refine bo.bd G Tryz.func104 [.tmp 2] ?_
 unfold Tryz.f104
 simp only [gS]
 refine .seq (.r4 G [0] [] (.seq (.ru G (.ret ?_))))
 obtain rfl := oi hr
 exact aS.r1 [aB ((a : Int) != a)]

theorem bw (n : Nat) (d : Int) (y : Int) (r : Bool) (hr : aY n d y = some r) : bo Tryz.prog 76 [aV d, aV y] (aB r) := by
 unfold aY at hr
 refine bo.bd G Tryz.func76 [.tmp 4] ?_
 unfold Tryz.f76
 simp only [gS]
 refine .seq (.r4 G [0, 1] [] (.seq ?_))
 obtain ⟨g, a, hr⟩ := bd hr
 rcases bT g with e | e
 ·subst e
  replace hr := cB rfl hr
  obtain ⟨f, c, hr⟩ := bd hr
  rcases bT (!f) with b | b
  ·replace hr := cB b hr
   refine .gn G (ca1 (ok0 (ef n d true a)) (ca3 (ok0 (ef n y f c)))) (.mu 1 (.ca cf0 (.mu 2 (.ca (cfA (fun h => by rw [sv c a (jz n h)]) cf0) (.pure (v := aB true) kRf (eB b) (.mu 7 (.done (.ret ?_))))))))
   obtain rfl := oi hr
   exact aS.r1 [aB true]
  replace hr := cC b hr
  refine .gn G (ca1 (ok0 (ef n d true a)) (ca3 (ok0 (ef n y f c)))) (.mu 1 (.ca cf0 (.mu 2 (.ca (cfA (fun h => by rw [sv c a (jz n h)]) cf0) (.pure (v := aB false) kRf (eB b) (.mu 7 (.done (.ret ?_))))))))
  obtain rfl := oi hr
  exact aS.r1 [aB (decide (d < y))]
 subst e
 replace hr := cC rfl hr
 refine .g1 G (ok0 (ef n d false a)) (.mu 1 (.ca cf0 (.mu 11 (.done (.ret ?_)))))
 obtain rfl := oi hr
 exact aS.r1 [aB (decide (d < y))]

theorem cV (n : Nat) (c : List Int) (r : List Int) (hr : aX n c = some r) : bx 1 Tryz.prog 60 [nS, .fn 44 [] [.hp 0 0]] [.own [slT (iC .u64) c]] (.hs 1 0 r.length 1) [.own [slT (iC .u64) c], .own (r.flatMap (iC .u64))] := by
 unfold aX at hr
 obtain ⟨a, hr⟩ := gd hr
 obtain rfl := oi hr
 exact Go.Proofs.YtlpfiiejhikalaaGreat.zM a

theorem dC (n : Nat) (c : List Int) (r : List Int) (hr : bk n c = some r) : bx 1 Tryz.prog 42 [.fn 44 [] [.hp 0 0]] [.own [slT (iC .u64) c]] (.hs 1 0 r.length 1) [.own [slT (iC .u64) c], .own (r.flatMap (iC .u64))] := by
 unfold bk at hr
 refine bx.fH G Tryz.func42 (c := (Tryz.f42.body).getD .skip) rfl (us := [.hs 1 0 r.length 1]) (s := mkS 5 0 [(0, .fn 44 [] [.hp 0 0])]) kRf (rs := [.tmp 2]) rfl ?_
 unfold Tryz.f42
 simp only [gS]
 refine .seq (.r4 G [0] [] (.seq ?_))
 obtain ⟨a, b, hr⟩ := bd hr
 refine .g1 G (aT (args := [nS, .fn 44 [] [.hp 0 0]]) 1 1 [(0, true)] [true, false] (cV n c a b) trivial (by exact ⟨aA (an _) _, trivial⟩) rfl rfl kRf kRf) (.mu 1 (.ca cf0 (.mu 1 (.done (.nh [2] [.own [slT (iC .u64) c], .own (a.flatMap (iC .u64))] (.ret ?_))))))
 obtain rfl := oi hr
 exact b6.ret [.hs 1 0 a.length 1] ((Wk.gc [0] [(0, true), (1, false)] rfl (pKt (pKo (iC .u64) (an _) a trivial))).to)

theorem gg (n : Nat) (data : List Int) (a : Int) (b : Int) (r : List Int) (hr : bM n data a b = some r) : bx 1 Tryz.prog 70 [.hs 0 0 data.length 1, ag a, ag b] [.own (data.flatMap (iC .u64))] (.tup []) [.own (r.flatMap (iC .u64))] := by
 unfold bM at hr
 refine bx.fH G Tryz.func70 (c := (Tryz.f70.body).getD .skip) rfl (us := []) (s := mkS 49 0 [(0, .hs 0 0 data.length 1), (1, ag a), (2, ag b)]) kRf (rs := []) rfl ?_
 unfold Tryz.f70
 simp only [gS]
 refine .seq (.r4 G [0, 1, 2] [(6, ag (Ew (a + 1)))] (.block ?_))
 replace hr := bd hr; obtain ⟨t, p, hr⟩ := hr
 refine .aP (σ := fun w => match w with | (i, f) => ⟨mkS 49 0 [(0, .hs 0 0 i.length 1), (1, ag a), (2, ag b), (6, ag f)], [.own (i.flatMap (iC .u64))]⟩) (Q := fun x st' => x = .exit 0 /\ Wk 1 st' ⟨mkS 49 0 [], [.own (t.flatMap (iC .u64))]⟩) p ((Wk.gc [0, 1, 2, 6] [(0, false)] rfl (pKo (iC .u64) (an _) data trivial)).to) ?_ ?_
 ·clear hr
  rintro m ⟨i, f⟩ hr
  refine CQ.sh ?_
  refine .seq (.seq (.r4 G [0, 1, 2, 6] [(12, aB (decide (f < b)))] ?_))
  refine .cd hr ?_ ?_ <;> intro B hr
  ·refine .skip (.seq (.block (.seq (.r4 G [0, 1, 2, 6] [(7, ag f)] (.block ?_)))))
   replace hr := bd hr; obtain ⟨o, q, hr⟩ := hr
   refine .aP (σ := fun w => match w with | (e, d) => ⟨mkS 49 0 [(0, .hs 0 0 e.length 1), (1, ag a), (2, ag b), (6, ag f), (7, ag d)], [.own (e.flatMap (iC .u64))]⟩) (Q := fun x st' => x = .exit 2 /\ Wk 1 st' ⟨mkS 49 0 [(0, .hs 0 0 o.length 1), (1, ag a), (2, ag b), (6, ag f)], [.own (o.flatMap (iC .u64))]⟩) q ((Wk.gc [0, 1, 2, 6, 7] [(0, false)] rfl (pKo (iC .u64) (an _) i trivial)).to) ?_ ?_
   ·clear hr
    rintro m ⟨e, d⟩ hr
    refine CQ.sh ?_
    refine .seq (.seq ?_)
    rcases bT (decide (d > a)) with j | j
    ·replace hr := cB j hr
     obtain ⟨g, h, hr⟩ := gd2 hr
     obtain ⟨z, u, hr⟩ := bd hr
     refine .t1 G (ok0 (bw n (gt e d) (gt e (Ew (d - 1))) z u)) (.mu 2 (.pk (v := aB true) (eB j) (.mu 3 (.pk (v := .hp 0 (0 + d.toNat * 1)) (tr (aq g)) (.pk (v := aV (gt e d)) (tr (aD (aC (ay .u64) (ax g) z1 (by omega : 0 + d.toNat * 1 = d.toNat * 1 + 0) kRf))) (.mu 3 (.pk (v := .hp 0 (0 + (Ew (d - 1)).toNat * 1)) (tr (aq h)) (.pk (v := aV (gt e (Ew (d - 1)))) (tr (aD (aC (ay .u64) (ax h) z1 (by omega : 0 + (Ew (d - 1)).toNat * 1 = (Ew (d - 1)).toNat * 1 + 0) kRf))) (.ca cf0 (.mu 1 ?_))))))))))
     refine .done (kRa ?_)
     refine .nh [0, 1, 2, 6, 7, 30] [.own (e.flatMap (iC .u64))] ?_
     refine .cd hr ?_ ?_ <;> intro A hr
     ·refine .skip (.seq (.block (.ba G aK (.mu 8 (.pk (v := .hp 0 (0 + (Ew (d - 1)).toNat * 1)) (tr (aq h)) (.pk (v := aV (gt e (Ew (d - 1)))) (tr (aD (aC (ay .u64) (ax h) z1 (by omega : 0 + (Ew (d - 1)).toNat * 1 = (Ew (d - 1)).toNat * 1 + 0) kRf))) (.mu 2 (.pk (v := .hp 0 (0 + d.toNat * 1)) (tr (aq g)) (.pk (v := aV (gt e d)) (tr (aD (aC (ay .u64) (ax g) z1 (by omega : 0 + d.toNat * 1 = d.toNat * 1 + 0) kRf))) (.pk (v := .hp 0 (0 + d.toNat * 1)) (tr (aq g)) (.ek (v := .unk) (ws := [(0, .own ((e.set d.toNat (gt e (Ew (d - 1)))).flatMap (iC .u64)))]) (tr (dB (dw (bn (n := 1) (ay .u64) (ax g) (lbT rfl) (by omega : 0 + d.toNat * 1 = d.toNat * 1 + 0))) (congrArg Blk.own (bE (xs := [aV (gt e (Ew (d - 1)))]) (ay .u64) (ax g) (lbT rfl) (by omega : 0 + d.toNat * 1 = d.toNat * 1 + 0) kRf)))) (.pk (v := .hp 0 (0 + (Ew (d - 1)).toNat * 1)) (tr (aq h)) (.ek (v := .unk) (ws := [(0, .own (((e.set d.toNat (gt e (Ew (d - 1)))).set (Ew (d - 1)).toNat (gt e d)).flatMap (iC .u64)))]) (tr (y := stO (decide ((0 + (Ew (d - 1)).toNat * 1) + 1 <= ((e.set d.toNat (gt e (Ew (d - 1)))).flatMap (iC .u64)).length) && true) [(0, .own (setCells ((e.set d.toNat (gt e (Ew (d - 1)))).flatMap (iC .u64)) (0 + (Ew (d - 1)).toNat * 1) [aV (gt e d)]))]) (dB (dw (bn (ay _) (ax (cq h)) (lbT rfl) (by omega : 0 + (Ew (d - 1)).toNat * 1 = (Ew (d - 1)).toNat * 1 + 0))) (congrArg Blk.own (bE (ay _) (ax (cq h)) (lbT rfl) (by omega : 0 + (Ew (d - 1)).toNat * 1 = (Ew (d - 1)).toNat * 1 + 0) kRf)))) ?_)))))))))))))
      refine .done (kRa ?_)
      refine .pop (.ru G ?_)
      exact aF ((e.set d.toNat (gt e (Ew (d - 1)))).set (Ew (d - 1)).toNat (gt e d), Ew (d - 1)) hr ((Wk.eG 0 (b := 0) (es := 1) (len := e.length) ((e.set d.toNat (gt e (Ew (d - 1)))).set (Ew (d - 1)).toNat (gt e d)).length kRf (Eq.symm (List.length_set.trans (List.length_set.trans rfl)))).trans ((Wk.gc [0, 1, 2, 6, 7] [(0, false)] rfl (pKo (iC .u64) (an _) ((e.set d.toNat (gt e (Ew (d - 1)))).set (Ew (d - 1)).toNat (gt e d)) trivial)).to))
     refine .leave rfl ?_
     obtain rfl := oi hr
     exact ⟨rfl, ((Wk.gc [0, 1, 2, 6] [(0, false)] rfl (pKo (iC .u64) (an _) e trivial)).to)⟩
    replace hr := cC j hr
    refine .ba G aK (.mu 2 (.pk (v := aB false) (eB j) (.mu 12 ?_)))
    refine .done (kRa ?_)
    refine .nh [0, 1, 2, 6, 7, 30] [.own (e.flatMap (iC .u64))] (.cF kRf (.leave rfl ?_))
    obtain rfl := oi hr
    exact ⟨rfl, ((Wk.gc [0, 1, 2, 6] [(0, false)] rfl (pKo (iC .u64) (an _) e trivial)).to)⟩
   rintro x st' k
   clear q
   obtain ⟨rfl, k⟩ := k
   refine a8 _ rfl (.pop (.wk k (.ru G ?_)))
   exact aF (o, Ew (f + 1)) hr ((Wk.gc [0, 1, 2, 6] [(0, false)] rfl (pKo (iC .u64) (an _) o trivial)).to)
  refine .leave rfl ?_
  obtain rfl := oi hr
  exact ⟨rfl, ((Wk.gc [] [(0, false)] rfl (pKo (iC .u64) (an _) i trivial)).to)⟩
 rintro x st' l
 clear p
 obtain ⟨rfl, l⟩ := l
 refine a8 _ rfl ?_
 obtain rfl := oi hr
 exact b6.wk l (b6.normal [] ((Wk.gc [] [(0, false)] rfl (pKo (iC .u64) (an _) t trivial)).to))

theorem eN (n : Nat) (data : List Int) (lo : Int) (hi : Int) (first : Int) (r : List Int) (hr : bP n data lo hi first = some r) : bx 1 Tryz.prog 99 [.hs 0 0 data.length 1, ag lo, ag hi, ag first] [.own (data.flatMap (iC .u64))] (.tup []) [.own (r.flatMap (iC .u64))] := by
 unfold bP at hr
 refine bx.fH G Tryz.func99 (c := (Tryz.f99.body).getD .skip) rfl (us := []) (s := mkS 76 0 [(0, .hs 0 0 data.length 1), (1, ag lo), (2, ag hi), (3, ag first)]) kRf (rs := []) rfl ?_
 unfold Tryz.f99
 simp only [gS]
 refine .seq (.r4 G [0, 2, 3] [(8, ag lo)] (.block ?_))
 replace hr := bd hr; obtain ⟨t, j, hr⟩ := hr
 refine .aP (σ := fun E => match E with | (a, d) => ⟨mkS 76 0 [(0, .hs 0 0 a.length 1), (2, ag hi), (3, ag first), (8, ag d)], [.own (a.flatMap (iC .u64))]⟩) (Q := fun x st' => match (generalizing := false) t with | .inl k => x = .exit 0 /\ Wk 1 st' ⟨mkS 76 0 [], [.own (k.flatMap (iC .u64))]⟩ | .inr (r0) => x = .ret /\ b6 1 Tryz.prog [] [] [.own (r0.flatMap (iC .u64))] .ret st') j ((Wk.gc [0, 2, 3, 8] [(0, false)] rfl (pKo (iC .u64) (an _) data trivial)).to) ?_ ?_
 ·clear hr
  rintro m ⟨a, d⟩ hr
  refine CQ.sh ?_
  refine .block (.seq (.r4 G [0, 2, 3, 8] [(9, ag (Ew ((Ew (2 * d)) + 1)))] (.seq (.seq (.r4 G [0, 2, 3, 8, 9] [(16, aB (decide ((Ew ((Ew (2 * d)) + 1)) >= hi)))] ?_)))))
  refine .cd hr ?_ ?_ <;> intro B hr
  ·refine .leave rfl ?_
   obtain rfl := oi hr
   exact ⟨rfl, ((Wk.gc [] [(0, false)] rfl (pKo (iC .u64) (an _) a trivial)).to)⟩
  refine .skip (.seq (.seq ?_))
  replace hr := bd hr; obtain ⟨e, l, hr⟩ := hr
  refine .Bp (Q := fun x st' => x = .normal /\ Wk 1 st' ⟨mkS 76 0 [(0, .hs 0 0 a.length 1), (2, ag hi), (3, ag first), (8, ag d), (9, ag e)], [.own (a.flatMap (iC .u64))]⟩) ?_ ?_
  ·clear hr
   have hr := l
   clear l
   rcases bT (decide ((Ew ((Ew ((Ew (2 * d)) + 1)) + 1)) < hi)) with i | i
   ·replace hr := cB i hr
    obtain ⟨p, q, hr⟩ := gd2 hr
    obtain ⟨z, u, hr⟩ := bd hr
    refine .t1 G (ok0 (bw n (gt a (Ew (first + (Ew ((Ew (2 * d)) + 1))))) (gt a (Ew ((Ew (first + (Ew ((Ew (2 * d)) + 1)))) + 1))) z u)) (.mu 3 (.pk (v := aB true) (eB i) (.mu 5 (.pk (v := .hp 0 (0 + (Ew (first + (Ew ((Ew (2 * d)) + 1)))).toNat * 1)) (tr (aq p)) (.pk (v := aV (gt a (Ew (first + (Ew ((Ew (2 * d)) + 1)))))) (tr (aD (aC (ay .u64) (ax p) z1 (by omega : 0 + (Ew (first + (Ew ((Ew (2 * d)) + 1)))).toNat * 1 = (Ew (first + (Ew ((Ew (2 * d)) + 1)))).toNat * 1 + 0) kRf))) (.mu 5 (.pk (v := .hp 0 (0 + (Ew ((Ew (first + (Ew ((Ew (2 * d)) + 1)))) + 1)).toNat * 1)) (tr (aq q)) (.pk (v := aV (gt a (Ew ((Ew (first + (Ew ((Ew (2 * d)) + 1)))) + 1)))) (tr (aD (aC (ay .u64) (ax q) z1 (by omega : 0 + (Ew ((Ew (first + (Ew ((Ew (2 * d)) + 1)))) + 1)).toNat * 1 = (Ew ((Ew (first + (Ew ((Ew (2 * d)) + 1)))) + 1)).toNat * 1 + 0) kRf))) (.ca cf0 (.mu 1 ?_))))))))))
    refine .done (kRa ?_)
    refine .nh [0, 2, 3, 8, 9, 36] [.own (a.flatMap (iC .u64))] ?_
    refine .cd hr ?_ ?_ <;> intro C hr
    ·refine .ru G ?_
     obtain rfl := oi hr
     exact ⟨rfl, ((Wk.gc [0, 2, 3, 8, 9] [(0, false)] rfl (pKo (iC .u64) (an _) a trivial)).to)⟩
    refine .skip ?_
    obtain rfl := oi hr
    exact ⟨rfl, ((Wk.gc [0, 2, 3, 8, 9] [(0, false)] rfl (pKo (iC .u64) (an _) a trivial)).to)⟩
   replace hr := cC i hr
   refine .ba G aK (.mu 3 (.pk (v := aB false) (eB i) (.mu 16 ?_)))
   refine .done (kRa ?_)
   refine .nh [0, 2, 3, 8, 9, 36] [.own (a.flatMap (iC .u64))] (.cF kRf (.skip ?_))
   obtain rfl := oi hr
   exact ⟨rfl, ((Wk.gc [0, 2, 3, 8, 9] [(0, false)] rfl (pKo (iC .u64) (an _) a trivial)).to)⟩
  rintro x st' o
  clear l
  obtain ⟨rfl, o⟩ := o
  refine .wk o (.seq (.seq ?_))
  obtain ⟨f, g, hr⟩ := gd2 hr
  obtain ⟨A, w, hr⟩ := bd hr
  refine .t1 G (ok0 (bw n (gt a (Ew (first + d))) (gt a (Ew (first + e))) A w)) (.mu 4 (.pk (v := .hp 0 (0 + (Ew (first + d)).toNat * 1)) (tr (aq f)) (.pk (v := aV (gt a (Ew (first + d)))) (tr (aD (aC (ay .u64) (ax f) z1 (by omega : 0 + (Ew (first + d)).toNat * 1 = (Ew (first + d)).toNat * 1 + 0) kRf))) (.mu 4 (.pk (v := .hp 0 (0 + (Ew (first + e)).toNat * 1)) (tr (aq g)) (.pk (v := aV (gt a (Ew (first + e)))) (tr (aD (aC (ay .u64) (ax g) z1 (by omega : 0 + (Ew (first + e)).toNat * 1 = (Ew (first + e)).toNat * 1 + 0) kRf))) (.ca cf0 (.mu 1 ?_))))))))
  refine .done (kRa ?_)
  refine .nh [0, 2, 3, 8, 9, 52] [.own (a.flatMap (iC .u64))] ?_
  refine .cd hr ?_ ?_ <;> intro D hr
  ·refine .ret ?_
   obtain rfl := oi hr
   exact ⟨rfl, b6.ret [] ((Wk.gc [] [(0, false)] rfl (pKo (iC .u64) (an _) a trivial)).to)⟩
  refine .skip (.seq (.ba G aK (.mu 12 (.pk (v := .hp 0 (0 + (Ew (first + e)).toNat * 1)) (tr (aq g)) (.pk (v := aV (gt a (Ew (first + e)))) (tr (aD (aC (ay .u64) (ax g) z1 (by omega : 0 + (Ew (first + e)).toNat * 1 = (Ew (first + e)).toNat * 1 + 0) kRf))) (.mu 4 (.pk (v := .hp 0 (0 + (Ew (first + d)).toNat * 1)) (tr (aq f)) (.pk (v := aV (gt a (Ew (first + d)))) (tr (aD (aC (ay .u64) (ax f) z1 (by omega : 0 + (Ew (first + d)).toNat * 1 = (Ew (first + d)).toNat * 1 + 0) kRf))) (.pk (v := .hp 0 (0 + (Ew (first + d)).toNat * 1)) (tr (aq f)) (.ek (v := .unk) (ws := [(0, .own ((a.set (Ew (first + d)).toNat (gt a (Ew (first + e)))).flatMap (iC .u64)))]) (tr (dB (dw (bn (n := 1) (ay .u64) (ax f) (lbT rfl) (by omega : 0 + (Ew (first + d)).toNat * 1 = (Ew (first + d)).toNat * 1 + 0))) (congrArg Blk.own (bE (xs := [aV (gt a (Ew (first + e)))]) (ay .u64) (ax f) (lbT rfl) (by omega : 0 + (Ew (first + d)).toNat * 1 = (Ew (first + d)).toNat * 1 + 0) kRf)))) (.pk (v := .hp 0 (0 + (Ew (first + e)).toNat * 1)) (tr (aq g)) (.ek (v := .unk) (ws := [(0, .own (((a.set (Ew (first + d)).toNat (gt a (Ew (first + e)))).set (Ew (first + e)).toNat (gt a (Ew (first + d)))).flatMap (iC .u64)))]) (tr (y := stO (decide ((0 + (Ew (first + e)).toNat * 1) + 1 <= ((a.set (Ew (first + d)).toNat (gt a (Ew (first + e)))).flatMap (iC .u64)).length) && true) [(0, .own (setCells ((a.set (Ew (first + d)).toNat (gt a (Ew (first + e)))).flatMap (iC .u64)) (0 + (Ew (first + e)).toNat * 1) [aV (gt a (Ew (first + d)))]))]) (dB (dw (bn (ay _) (ax (cq g)) (lbT rfl) (by omega : 0 + (Ew (first + e)).toNat * 1 = (Ew (first + e)).toNat * 1 + 0))) (congrArg Blk.own (bE (ay _) (ax (cq g)) (lbT rfl) (by omega : 0 + (Ew (first + e)).toNat * 1 = (Ew (first + e)).toNat * 1 + 0) kRf)))) ?_))))))))))))
  refine .done (kRa ?_)
  refine .nh [0, 2, 3, 9] [.own (((a.set (Ew (first + d)).toNat (gt a (Ew (first + e)))).set (Ew (first + e)).toNat (gt a (Ew (first + d)))).flatMap (iC .u64))] (.ru G (.pop ?_))
  exact aF ((a.set (Ew (first + d)).toNat (gt a (Ew (first + e)))).set (Ew (first + e)).toNat (gt a (Ew (first + d))), e) hr ((Wk.eG 0 (b := 0) (es := 1) (len := a.length) ((a.set (Ew (first + d)).toNat (gt a (Ew (first + e)))).set (Ew (first + e)).toNat (gt a (Ew (first + d)))).length kRf (Eq.symm (List.length_set.trans (List.length_set.trans rfl)))).trans ((Wk.gc [0, 2, 3, 8] [(0, false)] rfl (pKo (iC .u64) (an _) ((a.set (Ew (first + d)).toNat (gt a (Ew (first + e)))).set (Ew (first + e)).toNat (gt a (Ew (first + d)))) trivial)).to))
 rcases t with k | r0
 ·rintro x st' h
  clear j
  obtain ⟨rfl, h⟩ := h
  refine a8 _ rfl ?_
  obtain rfl := oi hr
  exact b6.wk h (b6.normal [] ((Wk.gc [] [(0, false)] rfl (pKo (iC .u64) (an _) k trivial)).to))
 rintro x st' h
 clear j
 obtain ⟨rfl, h⟩ := h
 obtain rfl := oi hr
 exact fp _ h

theorem im (n : Nat) (data : List Int) (a : Int) (b : Int) (r : List Int) (hr : cm n data a b = some r) : bx 1 Tryz.prog 71 [.hs 0 0 data.length 1, ag a, ag b] [.own (data.flatMap (iC .u64))] (.tup []) [.own (r.flatMap (iC .u64))] := by
 unfold cm at hr
 refine bx.fH G Tryz.func71 (c := (Tryz.f71.body).getD .skip) rfl (us := []) (s := mkS 56 0 [(0, .hs 0 0 data.length 1), (1, ag a), (2, ag b)]) kRf (rs := []) rfl ?_
 unfold Tryz.f71
 simp only [gS]
 refine .seq (.r4 G [0, 1, 2] [(6, ag a)] (.seq (.r4 G [0, 1, 2, 6] [(7, ag 0)] (.seq (.r4 G [0, 6, 7] [(8, ag (Ew (b - a)))] (.seq (.seq (.r4 G [0, 6, 7, 8] [(9, ag (Ew ((Ew ((Ew (b - a)) - 1)).tdiv 2)))] (.block ?_)))))))))
 replace hr := bd hr; obtain ⟨l, u, hr⟩ := hr
 refine .aP (σ := fun C => match C with | (f, i) => ⟨mkS 56 0 [(0, .hs 0 0 f.length 1), (6, ag a), (7, ag 0), (8, ag (Ew (b - a))), (9, ag i)], [.own (f.flatMap (iC .u64))]⟩) (Q := fun x st' => x = .exit 0 /\ Wk 1 st' ⟨mkS 56 0 [(0, .hs 0 0 l.length 1), (6, ag a), (7, ag 0), (8, ag (Ew (b - a)))], [.own (l.flatMap (iC .u64))]⟩) u ((Wk.gc [0, 6, 7, 8, 9] [(0, false)] rfl (pKo (iC .u64) (an _) data trivial)).to) ?_ ?_
 ·clear hr
  rintro m ⟨f, i⟩ hr
  refine CQ.sh ?_
  refine .seq (.seq (.r4 G [0, 6, 7, 8, 9] [(19, aB (decide (i >= 0)))] ?_))
  refine .cd hr ?_ ?_ <;> intro E hr
  ·refine .skip (.seq (.block ?_))
   obtain ⟨t, A, hr⟩ := bd hr
   obtain ⟨B, hr⟩ := gd hr
   refine .g1 G (aT (args := [.hs 0 0 f.length 1, ag i, ag (Ew (b - a)), ag a]) 1 0 [(0, false)] [false] (eN n f i (Ew (b - a)) a t A) (by exact ⟨aA (an _) _, trivial⟩) (by exact ⟨aA (an _) _, trivial⟩) rfl rfl kRf kRf) (.mu 4 (.ca cf0 (.done (.pop (.ru G ?_)))))
   exact aF (t, Ew (i - 1)) hr ((Wk.eG 0 (b := 0) (es := 1) (len := f.length) t.length kRf (Eq.symm (dcT B))).trans ((Wk.gc [0, 6, 7, 8, 9] [(0, false)] rfl (pKo (iC .u64) (an _) t trivial)).to))
  refine .leave rfl ?_
  obtain rfl := oi hr
  exact ⟨rfl, ((Wk.gc [0, 6, 7, 8] [(0, false)] rfl (pKo (iC .u64) (an _) f trivial)).to)⟩
 rintro x st' o
 clear u
 obtain ⟨rfl, o⟩ := o
 refine a8 _ rfl (.wk o (.seq (.r4 G [0, 6, 7] [(10, ag (Ew ((Ew (b - a)) - 1)))] (.block ?_))))
 replace hr := bd hr; obtain ⟨p, q, hr⟩ := hr
 refine .aP (σ := fun C => match C with | (e, d) => ⟨mkS 56 0 [(0, .hs 0 0 e.length 1), (6, ag a), (7, ag 0), (10, ag d)], [.own (e.flatMap (iC .u64))]⟩) (Q := fun x st' => x = .exit 2 /\ Wk 1 st' ⟨mkS 56 0 [], [.own (p.flatMap (iC .u64))]⟩) q ((Wk.gc [0, 6, 7, 10] [(0, false)] rfl (pKo (iC .u64) (an _) l trivial)).to) ?_ ?_
 ·clear hr
  rintro m ⟨e, d⟩ hr
  refine CQ.sh ?_
  refine .seq (.seq (.r4 G [0, 6, 7, 10] [(30, aB (decide (d >= 0)))] ?_))
  refine .cd hr ?_ ?_ <;> intro D hr
  ·refine .skip (.seq (.block (.seq ?_)))
   obtain ⟨g, h, hr⟩ := gd2 hr
   refine .ba G aK (.mu 10 (.pk (v := .hp 0 (0 + (Ew (a + d)).toNat * 1)) (tr (aq g)) (.pk (v := aV (gt e (Ew (a + d)))) (tr (aD (aC (ay .u64) (ax g) z1 (by omega : 0 + (Ew (a + d)).toNat * 1 = (Ew (a + d)).toNat * 1 + 0) kRf))) (.mu 2 (.pk (v := .hp 0 (0 + a.toNat * 1)) (tr (aq h)) (.pk (v := aV (gt e a)) (tr (aD (aC (ay .u64) (ax h) z1 (by omega : 0 + a.toNat * 1 = a.toNat * 1 + 0) kRf))) (.pk (v := .hp 0 (0 + a.toNat * 1)) (tr (aq h)) (.ek (v := .unk) (ws := [(0, .own ((e.set a.toNat (gt e (Ew (a + d)))).flatMap (iC .u64)))]) (tr (dB (dw (bn (n := 1) (ay .u64) (ax h) (lbT rfl) (by omega : 0 + a.toNat * 1 = a.toNat * 1 + 0))) (congrArg Blk.own (bE (xs := [aV (gt e (Ew (a + d)))]) (ay .u64) (ax h) (lbT rfl) (by omega : 0 + a.toNat * 1 = a.toNat * 1 + 0) kRf)))) (.pk (v := .hp 0 (0 + (Ew (a + d)).toNat * 1)) (tr (aq g)) (.ek (v := .unk) (ws := [(0, .own (((e.set a.toNat (gt e (Ew (a + d)))).set (Ew (a + d)).toNat (gt e a)).flatMap (iC .u64)))]) (tr (y := stO (decide ((0 + (Ew (a + d)).toNat * 1) + 1 <= ((e.set a.toNat (gt e (Ew (a + d)))).flatMap (iC .u64)).length) && true) [(0, .own (setCells ((e.set a.toNat (gt e (Ew (a + d)))).flatMap (iC .u64)) (0 + (Ew (a + d)).toNat * 1) [aV (gt e a)]))]) (dB (dw (bn (ay _) (ax (cq g)) (lbT rfl) (by omega : 0 + (Ew (a + d)).toNat * 1 = (Ew (a + d)).toNat * 1 + 0))) (congrArg Blk.own (bE (ay _) (ax (cq g)) (lbT rfl) (by omega : 0 + (Ew (a + d)).toNat * 1 = (Ew (a + d)).toNat * 1 + 0) kRf)))) ?_))))))))))
   refine .done (kRa ?_)
   refine .nh [0, 6, 7, 10] [.own (((e.set a.toNat (gt e (Ew (a + d)))).set (Ew (a + d)).toNat (gt e a)).flatMap (iC .u64))] ?_
   obtain ⟨k, w, hr⟩ := bd hr
   obtain ⟨z, hr⟩ := gd hr
   refine .g1 G (aT (args := [.hs 0 0 e.length 1, ag 0, ag d, ag a]) 1 0 [(0, false)] [false] (eN n ((e.set a.toNat (gt e (Ew (a + d)))).set (Ew (a + d)).toNat (gt e a)) 0 d a k w) (by exact ⟨aA (an _) _, trivial⟩) (by exact ⟨aA (an _) _, trivial⟩) rfl rfl (by rw [(List.length_set.trans (List.length_set.trans rfl))]; kernel_rfl) kRf) <| .mu 4 <| .ca cf0 <| .done <| .pop <| .ru G ?_
   exact aF (k, Ew (d - 1)) hr ((Wk.eG 0 (b := 0) (es := 1) (len := e.length) k.length kRf (Eq.symm (dcT z))).trans ((Wk.gc [0, 6, 7, 10] [(0, false)] rfl (pKo (iC .u64) (an _) k trivial)).to))
  refine .leave rfl ?_
  obtain rfl := oi hr
  exact ⟨rfl, ((Wk.gc [] [(0, false)] rfl (pKo (iC .u64) (an _) e trivial)).to)⟩
 rintro x st' j
 clear q
 obtain ⟨rfl, j⟩ := j
 refine a8 _ rfl ?_
 obtain rfl := oi hr
 exact b6.wk j (b6.normal [] ((Wk.gc [] [(0, false)] rfl (pKo (iC .u64) (an _) p trivial)).to))

theorem kK (n : Nat) (length : Int) (r : Int) (hr : cp n length = some r) : bo Tryz.prog 100 [ag length] (aV r) := by
 unfold cp at hr
 refine bo.bd G Tryz.func100 [.tmp 2] ?_
 unfold Tryz.f100
 simp only [gS]
 refine .seq (.r4 G [0] [] (.seq ?_))
 obtain ⟨a, b, hr⟩ := bd hr
 obtain ⟨c, hr⟩ := gd hr
 refine .g1 G (ok0 (kQ n (wFu length) a b)) (.mu 2 (.ca cf0 (.p0 (v := aV (lE .u64 (1 : Int) a)) (wq (k := .u64) (k' := .i64) (x := 1) (y := a) kRf kRf c) (.mu 1 (.done (.ret ?_))))))
 obtain rfl := oi hr
 exact aS.r1 [aV (lE .u64 (1 : Int) a)]

theorem kj (n : Nat) (a : Int) (r : Int × Int) (hr : ev n a = some r) : bx 1 Tryz.prog 101 [.hp 0 0] [.own [aV a]] (aV r.2) [.own [aV r.1]] := by
 unfold ev at hr
 refine bx.fH G Tryz.func101 (c := (Tryz.f101.body).getD .skip) rfl (us := [aV r.2]) (s := mkS 33 0 [(0, .hp 0 0)]) kRf (rs := [.tmp 2]) rfl ?_
 unfold Tryz.f101
 simp only [gS]
 refine .seq (.r4 G [0] [] (.seq (.ba G aK (.mu 6 (.pk (v := aV (wFu (a * 2 ^ 13))) (tr (y := some (.pure (aV (IntKind.wrap .u64 (a * 2 ^ 13))))) wW) (.mu 3 ?_))))))
 refine .done (kRa ?_)
 refine .nh [0] [.own [aV (b7 .xor .u64 a (wFu (a * 2 ^ 13)))]] (.seq (.ba G aK (.mu 10 ?_)))
 refine .done (kRa ?_)
 refine .nh [0] [.own [aV (b7 .xor .u64 (b7 .xor .u64 a (wFu (a * 2 ^ 13))) ((b7 .xor .u64 a (wFu (a * 2 ^ 13))).fdiv (2 ^ 7)))]] (.seq (.ba G aK (.mu 6 (.pk (v := aV (wFu ((b7 .xor .u64 (b7 .xor .u64 a (wFu (a * 2 ^ 13))) ((b7 .xor .u64 a (wFu (a * 2 ^ 13))).fdiv (2 ^ 7))) * 2 ^ 17))) (tr (y := some (.pure (aV (IntKind.wrap .u64 ((b7 .xor .u64 (b7 .xor .u64 a (wFu (a * 2 ^ 13))) ((b7 .xor .u64 a (wFu (a * 2 ^ 13))).fdiv (2 ^ 7))) * 2 ^ 17))))) wW) (.mu 3 ?_)))))
 refine .done (kRa ?_)
 refine .nh [0] [.own [aV (b7 .xor .u64 (b7 .xor .u64 (b7 .xor .u64 a (wFu (a * 2 ^ 13))) ((b7 .xor .u64 a (wFu (a * 2 ^ 13))).fdiv (2 ^ 7))) (wFu ((b7 .xor .u64 (b7 .xor .u64 a (wFu (a * 2 ^ 13))) ((b7 .xor .u64 a (wFu (a * 2 ^ 13))).fdiv (2 ^ 7))) * 2 ^ 17)))]] (.seq (.r3 G 33 [(2, aV (b7 .xor .u64 (b7 .xor .u64 (b7 .xor .u64 a (wFu (a * 2 ^ 13))) ((b7 .xor .u64 a (wFu (a * 2 ^ 13))).fdiv (2 ^ 7))) (wFu ((b7 .xor .u64 (b7 .xor .u64 a (wFu (a * 2 ^ 13))) ((b7 .xor .u64 a (wFu (a * 2 ^ 13))).fdiv (2 ^ 7))) * 2 ^ 17))))] (.ret ?_)))
 obtain rfl := oi hr
 exact b6.ret [aV (b7 .xor .u64 (b7 .xor .u64 (b7 .xor .u64 a (wFu (a * 2 ^ 13))) ((b7 .xor .u64 a (wFu (a * 2 ^ 13))).fdiv (2 ^ 7))) (wFu ((b7 .xor .u64 (b7 .xor .u64 a (wFu (a * 2 ^ 13))) ((b7 .xor .u64 a (wFu (a * 2 ^ 13))).fdiv (2 ^ 7))) * 2 ^ 17)))] ((Wk.gc [0] [(0, true)] rfl trivial).to)

theorem gh (n : Nat) (data : List Int) (a : Int) (b : Int) (r : List Int) (hr : bN n data a b = some r) : bx 1 Tryz.prog 72 [.hs 0 0 data.length 1, ag a, ag b] [.own (data.flatMap (iC .u64))] (.tup []) [.own (r.flatMap (iC .u64))] := by
 unfold bN at hr
 refine bx.fH G Tryz.func72 (c := (Tryz.f72.body).getD .skip) rfl (us := []) (s := mkS 65 0 [(0, .hs 0 0 data.length 1), (1, ag a), (2, ag b)]) kRf (rs := []) rfl ?_
 unfold Tryz.f72
 simp only [gS]
 refine .seq (.r4 G [0, 1] [(6, ag (Ew (b - a)))] (.seq (.r4 G [0, 1, 6] [(15, aB (decide ((Ew (b - a)) >= 8)))] ?_)))
 refine .cd hr ?_ ?_ <;> intro z hr
 ·refine .seq (.r5 G [0, 1, 6] [(7, .hp 1 0)] [.own (data.flatMap (iC .u64)), .own [aV (wFu (Ew (b - a)))]] (.seq ?_))
  obtain ⟨p, u, hr⟩ := bd hr
  refine .g1 G (ok0 (kK n (Ew (b - a)) p u)) (.mu 1 (.ca cf0 (.mu 1 (.done (.nh [0, 1, 6, 7, 8] [.own (data.flatMap (iC .u64)), .own [aV (wFu (Ew (b - a)))]] (.seq (.r4 G [0, 1, 6, 7, 8] [(9, ag (Ew ((Ew (a + (Ew ((Ew ((Ew (b - a)).tdiv 4)) * 2)))) - 1)))] (.block ?_))))))))
  replace hr := bd hr; obtain ⟨q, t, hr⟩ := hr
  refine .aP (σ := fun C => match C with | (d, i, e) => ⟨mkS 65 0 [(0, .hs 0 0 d.length 1), (1, ag a), (6, ag (Ew (b - a))), (7, .hp 1 0), (8, aV p), (9, ag e)], [.own (d.flatMap (iC .u64)), .own [aV i]]⟩) (Q := fun x st' => x = .exit 0 /\ Wk 1 st' ⟨mkS 65 0 [], [.own (q.flatMap (iC .u64))]⟩) t ((Wk.gc [0, 1, 6, 7, 8, 9] [(0, false), (1, true)] rfl (pKo (iC .u64) (an _) data trivial)).to) ?_ ?_
  ·clear hr
   rintro m ⟨d, i, e⟩ hr
   refine CQ.sh ?_
   refine .seq (.seq (.r4 G [0, 1, 6, 7, 8, 9] [(33, aB (decide (e <= (Ew ((Ew (a + (Ew ((Ew ((Ew (b - a)).tdiv 4)) * 2)))) + 1)))))] ?_))
   refine .cd hr ?_ ?_ <;> intro A hr
   ·refine .skip (.seq (.block (.seq ?_)))
    obtain ⟨j, w, hr⟩ := bd hr
    refine .g1 G (aT (args := [.hp 1 0]) 1 0 [(1, true)] [true] (kj n i j w) trivial trivial rfl rfl kRf kRf) (.ca cf0 (.mu 5 (.done (.nh [0, 1, 6, 7, 8, 9, 10] [.own (d.flatMap (iC .u64)), .own [aV j.1]] (.seq (.seq (.r4 G [0, 1, 6, 7, 8, 9, 10] [(43, aB (decide ((Ew (b7 .and .u64 j.2 (wFu (p - 1)))) >= (Ew (b - a)))))] ?_)))))))
    replace hr := bd hr; obtain ⟨f, k, hr⟩ := hr
    refine .xt (Q := fun x st' => x = .normal /\ Wk 1 st' ⟨mkS 65 0 [(0, .hs 0 0 d.length 1), (1, ag a), (6, ag (Ew (b - a))), (7, .hp 1 0), (8, aV p), (9, ag e), (10, ag f)], [.own (d.flatMap (iC .u64)), .own [aV j.1]]⟩) ?_ ?_
    ·clear hr
     have hr := k
     clear k
     refine .cd hr ?_ ?_ <;> intro B hr
     ·refine .ru G ?_
      obtain rfl := oi hr
      exact ⟨rfl, ((Wk.gc [0, 1, 6, 7, 8, 9, 10] [(0, false), (1, true)] rfl (pKo (iC .u64) (an _) d trivial)).to)⟩
     refine .skip ?_
     obtain rfl := oi hr
     exact ⟨rfl, ((Wk.gc [0, 1, 6, 7, 8, 9, 10] [(0, false), (1, true)] rfl (pKo (iC .u64) (an _) d trivial)).to)⟩
    rintro x st' l
    clear k
    obtain ⟨rfl, l⟩ := l
    refine .wk l ?_
    obtain ⟨g, h, hr⟩ := gd2 hr
    refine .ba G aK (.mu 10 (.pk (v := .hp 0 (0 + (Ew (a + f)).toNat * 1)) (tr (aq g)) (.pk (v := aV (gt d (Ew (a + f)))) (tr (aD (aC (ay .u64) (ax g) z1 (by omega : 0 + (Ew (a + f)).toNat * 1 = (Ew (a + f)).toNat * 1 + 0) kRf))) (.mu 2 (.pk (v := .hp 0 (0 + e.toNat * 1)) (tr (aq h)) (.pk (v := aV (gt d e)) (tr (aD (aC (ay .u64) (ax h) z1 (by omega : 0 + e.toNat * 1 = e.toNat * 1 + 0) kRf))) (.pk (v := .hp 0 (0 + e.toNat * 1)) (tr (aq h)) (.ek (v := .unk) (ws := [(0, .own ((d.set e.toNat (gt d (Ew (a + f)))).flatMap (iC .u64)))]) (tr (dB (dw (bn (n := 1) (ay .u64) (ax h) (lbT rfl) (by omega : 0 + e.toNat * 1 = e.toNat * 1 + 0))) (congrArg Blk.own (bE (xs := [aV (gt d (Ew (a + f)))]) (ay .u64) (ax h) (lbT rfl) (by omega : 0 + e.toNat * 1 = e.toNat * 1 + 0) kRf)))) (.pk (v := .hp 0 (0 + (Ew (a + f)).toNat * 1)) (tr (aq g)) (.ek (v := .unk) (ws := [(0, .own (((d.set e.toNat (gt d (Ew (a + f)))).set (Ew (a + f)).toNat (gt d e)).flatMap (iC .u64)))]) (tr (y := stO (decide ((0 + (Ew (a + f)).toNat * 1) + 1 <= ((d.set e.toNat (gt d (Ew (a + f)))).flatMap (iC .u64)).length) && true) [(0, .own (setCells ((d.set e.toNat (gt d (Ew (a + f)))).flatMap (iC .u64)) (0 + (Ew (a + f)).toNat * 1) [aV (gt d e)]))]) (dB (dw (bn (ay _) (ax (cq g)) (lbT rfl) (by omega : 0 + (Ew (a + f)).toNat * 1 = (Ew (a + f)).toNat * 1 + 0))) (congrArg Blk.own (bE (ay _) (ax (cq g)) (lbT rfl) (by omega : 0 + (Ew (a + f)).toNat * 1 = (Ew (a + f)).toNat * 1 + 0) kRf)))) ?_))))))))))
    refine .done (kRa ?_)
    refine .pop (.ru G ?_)
    exact aF ((d.set e.toNat (gt d (Ew (a + f)))).set (Ew (a + f)).toNat (gt d e), j.1, Ew (e + 1)) hr ((Wk.eG 0 (b := 0) (es := 1) (len := d.length) ((d.set e.toNat (gt d (Ew (a + f)))).set (Ew (a + f)).toNat (gt d e)).length kRf (Eq.symm (List.length_set.trans (List.length_set.trans rfl)))).trans ((Wk.gc [0, 1, 6, 7, 8, 9] [(0, false), (1, true)] rfl (pKo (iC .u64) (an _) ((d.set e.toNat (gt d (Ew (a + f)))).set (Ew (a + f)).toNat (gt d e)) trivial)).to))
   refine .leave rfl ?_
   obtain rfl := oi hr
   exact ⟨rfl, ((Wk.gc [] [(0, false)] rfl (pKo (iC .u64) (an _) d trivial)).to)⟩
  rintro x st' o
  clear t
  obtain ⟨rfl, o⟩ := o
  refine a8 _ rfl ?_
  obtain rfl := oi hr
  exact b6.wk o (b6.normal [] ((Wk.gc [] [(0, false)] rfl (pKo (iC .u64) (an _) q trivial)).to))
 refine .skip ?_
 obtain rfl := oi hr
 exact b6.normal [] ((Wk.gc [] [(0, false)] rfl (pKo (iC .u64) (an _) data trivial)).to)

theorem du (n : Nat) (data : List Int) (a : Int) (b : Int) (swaps : Int) (r : Int × Int × Int) (hr : bH n data a b swaps = some r) : bx 1 Tryz.prog 112 [slT (iC .u64) data, ag a, ag b, .hp 0 0] [.own [ag swaps]] (.tup [ag r.2.1, ag r.2.2]) [.own [ag r.1]] := by
 unfold bH at hr
 refine bx.fH G Tryz.func112 (c := (Tryz.f112.body).getD .skip) rfl (us := [ag r.2.1, ag r.2.2]) (s := mkS 28 0 [(0, slT (iC .u64) data), (1, ag a), (2, ag b), (3, .hp 0 0)]) kRf (rs := [.tmp 8, .tmp 9]) rfl ?_
 unfold Tryz.f112
 simp only [gS]
 refine .seq (.r4 G [0, 1, 2, 3] [] (.seq (.seq ?_)))
 obtain ⟨e, d, hr⟩ := gd2 hr
 obtain ⟨g, f, hr⟩ := bd hr
 refine .t1 G (ok0 (bw n (gt data b) (gt data a) g f)) (.mu 2 (.pk (v := .pp (data.flatMap (iC .u64)) (b.toNat * 1)) (tr (aq e)) (.pk (v := aV (gt data b)) (tr (aD (aC (ay .u64) (ax e) z1 (by omega : b.toNat * 1 = b.toNat * 1 + 0) kRf))) (.mu 2 (.pk (v := .pp (data.flatMap (iC .u64)) (a.toNat * 1)) (tr (aq d)) (.pk (v := aV (gt data a)) (tr (aD (aC (ay .u64) (ax d) z1 (by omega : a.toNat * 1 = a.toNat * 1 + 0) kRf))) (.ca cf0 ?_)))))))
 refine .done (kRa ?_)
 refine .nh [1, 2, 3, 18] [.own [ag swaps]] ?_
 refine .cd hr ?_ ?_ <;> intro h hr
 ·refine .seq (.r5 G [1, 2] [] [.own [ag (Ew (swaps + 1))]] (.seq (.r3 G 28 [(8, ag b), (9, ag a)] (.ret ?_))))
  obtain rfl := oi hr
  exact b6.ret [ag b, ag a] ((Wk.gc [0, 1] [(0, true)] rfl trivial).to)
 refine .skip (.seq (.r3 G 28 [(8, ag a), (9, ag b)] (.ret ?_)))
 obtain rfl := oi hr
 exact b6.ret [ag a, ag b] ((Wk.gc [0, 1] [(0, true)] rfl trivial).to)

theorem fj (n : Nat) (data : List Int) (a : Int) (b : Int) (c : Int) (swaps : Int) (r : Int × Int) (hr : bX n data a b c swaps = some r) : bx 1 Tryz.prog 103 [slT (iC .u64) data, ag a, ag b, ag c, .hp 0 0] [.own [ag swaps]] (ag r.2) [.own [ag r.1]] := by
 unfold bX at hr
 refine bx.fH G Tryz.func103 (c := (Tryz.f103.body).getD .skip) rfl (us := [ag r.2]) (s := mkS 36 0 [(0, slT (iC .u64) data), (1, ag a), (2, ag b), (3, ag c), (4, .hp 0 0)]) kRf (rs := [.tmp 10]) rfl ?_
 unfold Tryz.f103
 simp only [gS]
 refine .seq (.r4 G [0, 1, 2, 3, 4] [] (.seq ?_))
 obtain ⟨f, g, hr⟩ := bd hr
 refine .g1 G (aT (args := [slT (iC .u64) data, ag a, ag b, .hp 0 0]) 1 0 [(0, true)] [true] (du n data a b swaps f g) trivial trivial rfl rfl kRf kRf) (.mu 4 (.ca cf0 (.mu 5 (.done (.nh [0, 1, 2, 3, 4] [.own [ag f.1]] (.seq ?_))))))
 obtain ⟨d, h, hr⟩ := bd hr
 refine .g1 G (aT (args := [slT (iC .u64) data, ag f.2.2, ag c, .hp 0 0]) 1 0 [(0, true)] [true] (du n data f.2.2 c f.1 d h) trivial trivial rfl rfl kRf kRf) (.mu 4 (.ca cf0 (.mu 5 (.done (.nh [0, 1, 2, 4] [.own [ag d.1]] (.seq ?_))))))
 obtain ⟨e, i, hr⟩ := bd hr
 refine .g1 G (aT (args := [slT (iC .u64) data, ag f.2.1, ag d.2.1, .hp 0 0]) 1 0 [(0, true)] [true] (du n data f.2.1 d.2.1 d.1 e i) trivial trivial rfl rfl kRf kRf) (.mu 4 (.ca cf0 (.mu 5 (.done (.nh [2] [.own [ag e.1]] (.seq (.r3 G 36 [(10, ag e.2.2)] (.ret ?_))))))))
 obtain rfl := oi hr
 exact b6.ret [ag e.2.2] ((Wk.gc [0] [(0, true)] rfl trivial).to)

theorem cK (n : Nat) (data : List Int) (a : Int) (swaps : Int) (r : Int × Int) (hr : bg n data a swaps = some r) : bx 1 Tryz.prog 102 [slT (iC .u64) data, ag a, .hp 0 0] [.own [ag swaps]] (ag r.2) [.own [ag r.1]] := by
 unfold bg at hr
 refine bx.fH G Tryz.func102 (c := (Tryz.f102.body).getD .skip) rfl (us := [ag r.2]) (s := mkS 15 0 [(0, slT (iC .u64) data), (1, ag a), (2, .hp 0 0)]) kRf (rs := [.tmp 6]) rfl ?_
 unfold Tryz.f102
 simp only [gS]
 refine .seq (.r4 G [0, 1, 2] [] (.seq ?_))
 obtain ⟨b, d, hr⟩ := bd hr
 refine .g1 G (aT (args := [slT (iC .u64) data, ag (Ew (a - 1)), ag a, ag (Ew (a + 1)), .hp 0 0]) 1 0 [(0, true)] [true] (fj n data (Ew (a - 1)) a (Ew (a + 1)) swaps b d) trivial trivial rfl rfl kRf kRf) (.mu 7 (.ca cf0 (.mu 1 (.done (.nh [6] [.own [ag b.1]] (.ret ?_))))))
 obtain rfl := oi hr
 exact b6.ret [ag b.2] ((Wk.gc [0] [(0, true)] rfl trivial).to)

theorem gY (n : Nat) (data : List Int) (a : Int) (b : Int) (r : Int × Int) (hr : b9 n data a b = some r) : bo Tryz.prog 73 [slT (iC .u64) data, ag a, ag b] (.tup [ag r.1, ag r.2]) := by
 unfold b9 at hr
 refine bo.bd G Tryz.func73 [.tmp 6, .tmp 7] ?_
 unfold Tryz.f73
 simp only [gS]
 refine .seq (.r4 G [0, 1, 2] [] (.seq (.r4 G [0, 1] [(8, ag (Ew (b - a)))] (.seq (.r5 G [0, 1, 8] [(9, .hp 0 0)] [.own [ag 0]] (.seq (.r4 G [0, 1, 8, 9] [(10, ag (Ew (a + (Ew ((Ew ((Ew (b - a)).tdiv 4)) * 1)))))] (.seq (.r4 G [0, 1, 8, 9, 10] [(11, ag (Ew (a + (Ew ((Ew ((Ew (b - a)).tdiv 4)) * 2)))))] (.seq (.r4 G [0, 8, 9, 10, 11] [(12, ag (Ew (a + (Ew ((Ew ((Ew (b - a)).tdiv 4)) * 3)))))] (.seq (.seq (.r4 G [0, 8, 9, 10, 11, 12] [(32, aB (decide ((Ew (b - a)) >= 8)))] ?_))))))))))))))
 replace hr := bd hr; obtain ⟨o, c, hr⟩ := hr
 refine .xt (Q := fun x st' => match (generalizing := false) o with | (d, e) => x = .normal /\ Wk 0 st' ⟨mkS 57 0 [(9, .hp 0 0), (11, ag e)], [.own [ag d]]⟩) ?_ ?_
 ·clear hr
  have hr := c
  clear c
  refine .cd hr ?_ ?_ <;> intro B hr
  ·refine .seq (.seq (.r4 G [0, 9, 10, 11, 12] [(34, aB (decide ((Ew (b - a)) >= 50)))] ?_))
   replace hr := bd hr; obtain ⟨p, f, hr⟩ := hr
   refine .xt (Q := fun x st' => match (generalizing := false) p with | (l, i, j, k) => x = .normal /\ Wk 0 st' ⟨mkS 57 0 [(0, slT (iC .u64) data), (9, .hp 0 0), (10, ag i), (11, ag j), (12, ag k)], [.own [ag l]]⟩) ?_ ?_
   ·clear hr
    have hr := f
    clear f
    refine .cd hr ?_ ?_ <;> intro C hr
    ·refine .seq ?_
     obtain ⟨v, q, hr⟩ := bd hr
     refine .g1 G (aT (args := [slT (iC .u64) data, ag (Ew (a + (Ew ((Ew ((Ew (b - a)).tdiv 4)) * 1)))), .hp 0 0]) 1 0 [(0, true)] [true] (cK n data (Ew (a + (Ew ((Ew ((Ew (b - a)).tdiv 4)) * 1)))) 0 v q) trivial trivial rfl rfl kRf kRf) (.mu 2 (.ca cf0 (.mu 1 (.done (.nh [0, 9, 10, 11, 12] [.own [ag v.1]] (.seq ?_))))))
     obtain ⟨m, s, hr⟩ := bd hr
     refine .g1 G (aT (args := [slT (iC .u64) data, ag (Ew (a + (Ew ((Ew ((Ew (b - a)).tdiv 4)) * 2)))), .hp 0 0]) 1 0 [(0, true)] [true] (cK n data (Ew (a + (Ew ((Ew ((Ew (b - a)).tdiv 4)) * 2)))) v.1 m s) trivial trivial rfl rfl kRf kRf) (.mu 2 (.ca cf0 (.mu 1 (.done (.nh [0, 9, 10, 11, 12] [.own [ag m.1]] ?_)))))
     obtain ⟨w, t, hr⟩ := bd hr
     refine .g1 G (aT (args := [slT (iC .u64) data, ag (Ew (a + (Ew ((Ew ((Ew (b - a)).tdiv 4)) * 3)))), .hp 0 0]) 1 0 [(0, true)] [true] (cK n data (Ew (a + (Ew ((Ew ((Ew (b - a)).tdiv 4)) * 3)))) m.1 w t) trivial trivial rfl rfl kRf kRf) (.mu 2 (.ca cf0 (.mu 1 (.done ?_))))
     obtain rfl := oi hr
     exact ⟨rfl, ((Wk.gc [0, 9, 10, 11, 12] [(0, true)] rfl trivial).to)⟩
    refine .skip ?_
    obtain rfl := oi hr
    exact ⟨rfl, ((Wk.gc [0, 9, 10, 11, 12] [(0, true)] rfl trivial).to)⟩
   rcases p with ⟨l, i, j, k⟩
   rintro x st' g
   clear f
   obtain ⟨rfl, g⟩ := g
   refine .wk g ?_
   obtain ⟨y, u, hr⟩ := bd hr
   refine .g1 G (aT (args := [slT (iC .u64) data, ag i, ag j, ag k, .hp 0 0]) 1 0 [(0, true)] [true] (fj n data i j k l y u) trivial trivial rfl rfl kRf kRf) (.mu 4 (.ca cf0 (.mu 1 (.done ?_))))
   obtain rfl := oi hr
   exact ⟨rfl, ((Wk.gc [9, 11] [(0, true)] rfl trivial).to)⟩
  refine .skip ?_
  obtain rfl := oi hr
  exact ⟨rfl, ((Wk.gc [9, 11] [(0, true)] rfl trivial).to)⟩
 rcases o with ⟨d, e⟩
 rintro x st' h
 clear c
 obtain ⟨rfl, h⟩ := h
 refine .wk h (.seq (.r4 G [11] [(49, ag d)] (.block (.seq (.r4 G [11, 49] [(51, aB ((d : Int) == 0))] ?_)))))
 refine .cd hr ?_ ?_ <;> intro z hr
 ·refine .seq (.ru G (.ret ?_))
  obtain rfl := oi hr
  exact aS.ret (vs := [ag e, ag 1]) kRf (Sn.tup (Sp (Sp SnL.nil)))
 refine .seq (.r4 G [11] [(54, aB ((d : Int) == 12))] ?_)
 refine .cd hr ?_ ?_ <;> intro A hr
 ·refine .seq (.ru G (.ret ?_))
  obtain rfl := oi hr
  exact aS.ret (vs := [ag e, ag 2]) kRf (Sn.tup (Sp (Sp SnL.nil)))
 refine .seq (.ru G (.ret ?_))
 obtain rfl := oi hr
 exact aS.ret (vs := [ag e, ag 0]) kRf (Sn.tup (Sp (Sp SnL.nil)))

theorem gp (n : Nat) (data : List Int) (a : Int) (b : Int) (r : List Int) (hr : bR n data a b = some r) : bx 1 Tryz.prog 74 [.hs 0 0 data.length 1, ag a, ag b] [.own (data.flatMap (iC .u64))] (.tup []) [.own (r.flatMap (iC .u64))] := by
 unfold bR at hr
 refine bx.fH G Tryz.func74 (c := (Tryz.f74.body).getD .skip) rfl (us := []) (s := mkS 32 0 [(0, .hs 0 0 data.length 1), (1, ag a), (2, ag b)]) kRf (rs := []) rfl ?_
 unfold Tryz.f74
 simp only [gS]
 refine .seq (.r4 G [0, 2] [(6, ag a)] (.seq (.r4 G [0, 6] [(7, ag (Ew (b - 1)))] (.block ?_))))
 replace hr := bd hr; obtain ⟨j, k, hr⟩ := hr
 refine .aP (σ := fun o => match o with | (d, f, e) => ⟨mkS 32 0 [(0, .hs 0 0 d.length 1), (6, ag f), (7, ag e)], [.own (d.flatMap (iC .u64))]⟩) (Q := fun x st' => x = .exit 0 /\ Wk 1 st' ⟨mkS 32 0 [], [.own (j.flatMap (iC .u64))]⟩) k ((Wk.gc [0, 6, 7] [(0, false)] rfl (pKo (iC .u64) (an _) data trivial)).to) ?_ ?_
 ·clear hr
  rintro m ⟨d, f, e⟩ hr
  refine CQ.sh ?_
  refine .seq (.seq (.r4 G [0, 6, 7] [(13, aB (decide (f < e)))] ?_))
  refine .cd hr ?_ ?_ <;> intro l hr
  ·refine .skip (.block (.seq ?_))
   obtain ⟨g, h, hr⟩ := gd2 hr
   refine .ba G aK (.mu 6 (.pk (v := .hp 0 (0 + e.toNat * 1)) (tr (aq g)) (.pk (v := aV (gt d e)) (tr (aD (aC (ay .u64) (ax g) z1 (by omega : 0 + e.toNat * 1 = e.toNat * 1 + 0) kRf))) (.mu 2 (.pk (v := .hp 0 (0 + f.toNat * 1)) (tr (aq h)) (.pk (v := aV (gt d f)) (tr (aD (aC (ay .u64) (ax h) z1 (by omega : 0 + f.toNat * 1 = f.toNat * 1 + 0) kRf))) (.pk (v := .hp 0 (0 + f.toNat * 1)) (tr (aq h)) (.ek (v := .unk) (ws := [(0, .own ((d.set f.toNat (gt d e)).flatMap (iC .u64)))]) (tr (dB (dw (bn (n := 1) (ay .u64) (ax h) (lbT rfl) (by omega : 0 + f.toNat * 1 = f.toNat * 1 + 0))) (congrArg Blk.own (bE (xs := [aV (gt d e)]) (ay .u64) (ax h) (lbT rfl) (by omega : 0 + f.toNat * 1 = f.toNat * 1 + 0) kRf)))) (.pk (v := .hp 0 (0 + e.toNat * 1)) (tr (aq g)) (.ek (v := .unk) (ws := [(0, .own (((d.set f.toNat (gt d e)).set e.toNat (gt d f)).flatMap (iC .u64)))]) (tr (y := stO (decide ((0 + e.toNat * 1) + 1 <= ((d.set f.toNat (gt d e)).flatMap (iC .u64)).length) && true) [(0, .own (setCells ((d.set f.toNat (gt d e)).flatMap (iC .u64)) (0 + e.toNat * 1) [aV (gt d f)]))]) (dB (dw (bn (ay _) (ax (cq g)) (lbT rfl) (by omega : 0 + e.toNat * 1 = e.toNat * 1 + 0))) (congrArg Blk.own (bE (ay _) (ax (cq g)) (lbT rfl) (by omega : 0 + e.toNat * 1 = e.toNat * 1 + 0) kRf)))) ?_))))))))))
   refine .done (kRa ?_)
   refine .nh [0, 6, 7] [.own (((d.set f.toNat (gt d e)).set e.toNat (gt d f)).flatMap (iC .u64))] (.seq (.r4 G [0, 7] [(6, ag (Ew (f + 1)))] (.ru G (.pop ?_))))
   exact aF ((d.set f.toNat (gt d e)).set e.toNat (gt d f), Ew (f + 1), Ew (e - 1)) hr ((Wk.eG 0 (b := 0) (es := 1) (len := d.length) ((d.set f.toNat (gt d e)).set e.toNat (gt d f)).length kRf (Eq.symm (List.length_set.trans (List.length_set.trans rfl)))).trans ((Wk.gc [0, 6, 7] [(0, false)] rfl (pKo (iC .u64) (an _) ((d.set f.toNat (gt d e)).set e.toNat (gt d f)) trivial)).to))
  refine .leave rfl ?_
  obtain rfl := oi hr
  exact ⟨rfl, ((Wk.gc [] [(0, false)] rfl (pKo (iC .u64) (an _) d trivial)).to)⟩
 rintro x st' i
 clear k
 obtain ⟨rfl, i⟩ := i
 refine a8 _ rfl ?_
 obtain rfl := oi hr
 exact b6.wk i (b6.normal [] ((Wk.gc [] [(0, false)] rfl (pKo (iC .u64) (an _) j trivial)).to))

theorem fl (n : Nat) (data : List Int) (a : Int) (b : Int) (r : List Int × Bool) (hr : bq n data a b = some r) : bx 1 Tryz.prog 75 [.hs 0 0 data.length 1, ag a, ag b] [.own (data.flatMap (iC .u64))] (aB r.2) [.own (r.1.flatMap (iC .u64))] := by
 unfold bq at hr
 refine bx.fH G Tryz.func75 (c := (Tryz.f75.body).getD .skip) rfl (us := [aB r.2]) (s := mkS 133 0 [(0, .hs 0 0 data.length 1), (1, ag a), (2, ag b)]) kRf (rs := [.tmp 6]) rfl ?_
 unfold Tryz.f75
 simp only [gS]
 refine .seq (.r4 G [0, 1, 2] [] (.seq (.r4 G [0, 1, 2] [(7, ag (Ew (a + 1)))] (.seq (.seq (.r4 G [0, 1, 2, 7] [(8, ag 0)] (.block ?_)))))))
 replace hr := bd hr; obtain ⟨U, C, hr⟩ := hr
 refine .aP (σ := fun V => match V with | (g, M, k) => ⟨mkS 133 0 [(0, .hs 0 0 g.length 1), (1, ag a), (2, ag b), (7, ag M), (8, ag k)], [.own (g.flatMap (iC .u64))]⟩) (Q := fun x st' => match (generalizing := false) U with | .inl D => x = .exit 0 /\ Wk 1 st' ⟨mkS 133 0 [], [.own (D.flatMap (iC .u64))]⟩ | .inr (r0) => x = .ret /\ b6 1 Tryz.prog [.tmp 6] [aB r0.2] [.own (r0.1.flatMap (iC .u64))] .ret st') C ((Wk.gc [0, 1, 2, 7, 8] [(0, false)] rfl (pKo (iC .u64) (an _) data trivial)).to) ?_ ?_
 ·clear hr
  rintro m ⟨g, M, k⟩ hr
  refine CQ.sh ?_
  refine .seq (.seq (.r4 G [0, 1, 2, 7, 8] [(14, aB (decide (k < 5)))] ?_))
  refine .cd hr ?_ ?_ <;> intro l9 hr
  ·refine .skip (.seq (.block (.seq (.block ?_))))
   replace hr := bd hr; obtain ⟨d, N, hr⟩ := hr
   refine .aP (σ := fun V => match V with | j => ⟨mkS 133 0 [(0, .hs 0 0 g.length 1), (1, ag a), (2, ag b), (7, ag j), (8, ag k)], [.own (g.flatMap (iC .u64))]⟩) (Q := fun x st' => x = .exit 2 /\ Wk 1 st' ⟨mkS 133 0 [(0, .hs 0 0 g.length 1), (1, ag a), (2, ag b), (7, ag d), (8, ag k)], [.own (g.flatMap (iC .u64))]⟩) N ((Wk.gc [0, 1, 2, 7, 8] [(0, false)] rfl (pKo (iC .u64) (an _) g trivial)).to) ?_ ?_
   ·clear hr
    rintro m j hr
    refine CQ.sh ?_
    refine .seq (.seq ?_)
    rcases bT (decide (j < b)) with u | u
    ·replace hr := cB u hr
     obtain ⟨O, R, hr⟩ := gd2 hr
     obtain ⟨Z, W, hr⟩ := bd hr
     refine .t1 G (ok0 (bw n (gt g j) (gt g (Ew (j - 1))) Z W)) (.mu 2 (.pk (v := aB true) (eB u) (.mu 3 (.pk (v := .hp 0 (0 + j.toNat * 1)) (tr (aq O)) (.pk (v := aV (gt g j)) (tr (aD (aC (ay .u64) (ax O) z1 (by omega : 0 + j.toNat * 1 = j.toNat * 1 + 0) kRf))) (.mu 3 (.pk (v := .hp 0 (0 + (Ew (j - 1)).toNat * 1)) (tr (aq R)) (.pk (v := aV (gt g (Ew (j - 1)))) (tr (aD (aC (ay .u64) (ax R) z1 (by omega : 0 + (Ew (j - 1)).toNat * 1 = (Ew (j - 1)).toNat * 1 + 0) kRf))) (.ca cf0 (.mu 2 ?_))))))))))
     refine .done (kRa ?_)
     refine .nh [0, 1, 2, 7, 8, 32] [.own (g.flatMap (iC .u64))] ?_
     refine .cd hr ?_ ?_ <;> intro l4 hr
     ·refine .skip (.block (.ru G (.pop ?_)))
      exact aF (Ew (j + 1)) hr ((Wk.gc [0, 1, 2, 7, 8] [(0, false)] rfl (pKo (iC .u64) (an _) g trivial)).to)
     refine .leave rfl ?_
     obtain rfl := oi hr
     exact ⟨rfl, ((Wk.gc [0, 1, 2, 7, 8] [(0, false)] rfl (pKo (iC .u64) (an _) g trivial)).to)⟩
    replace hr := cC u hr
    refine .ba G aK (.mu 2 (.pk (v := aB false) (eB u) (.mu 13 ?_)))
    refine .done (kRa ?_)
    refine .nh [0, 1, 2, 7, 8, 32] [.own (g.flatMap (iC .u64))] (.cF kRf (.leave rfl ?_))
    obtain rfl := oi hr
    exact ⟨rfl, ((Wk.gc [0, 1, 2, 7, 8] [(0, false)] rfl (pKo (iC .u64) (an _) g trivial)).to)⟩
   rintro x st' E
   clear N
   obtain ⟨rfl, E⟩ := E
   refine a8 _ rfl (.wk E (.seq (.seq (.r4 G [0, 1, 2, 7, 8] [(37, aB ((d : Int) == b))] ?_))))
   refine .cd hr ?_ ?_ <;> intro l6 hr
   ·refine .seq (.r4 G [] [(6, aB true)] (.ret ?_))
    obtain rfl := oi hr
    exact ⟨rfl, b6.ret [aB true] ((Wk.gc [0] [(0, false)] rfl (pKo (iC .u64) (an _) g trivial)).to)⟩
   refine .skip (.seq (.seq (.r4 G [0, 1, 2, 7, 8] [(41, aB (decide ((Ew (b - a)) < 50)))] ?_)))
   refine .cd hr ?_ ?_ <;> intro lY hr
   ·refine .seq (.r4 G [] [(6, aB false)] (.ret ?_))
    obtain rfl := oi hr
    exact ⟨rfl, b6.ret [aB false] ((Wk.gc [0] [(0, false)] rfl (pKo (iC .u64) (an _) g trivial)).to)⟩
   refine .skip (.seq ?_)
   obtain ⟨w, z, hr⟩ := gd2 hr
   refine .ba G aK (.mu 8 (.pk (v := .hp 0 (0 + (Ew (d - 1)).toNat * 1)) (tr (aq w)) (.pk (v := aV (gt g (Ew (d - 1)))) (tr (aD (aC (ay .u64) (ax w) z1 (by omega : 0 + (Ew (d - 1)).toNat * 1 = (Ew (d - 1)).toNat * 1 + 0) kRf))) (.mu 2 (.pk (v := .hp 0 (0 + d.toNat * 1)) (tr (aq z)) (.pk (v := aV (gt g d)) (tr (aD (aC (ay .u64) (ax z) z1 (by omega : 0 + d.toNat * 1 = d.toNat * 1 + 0) kRf))) (.pk (v := .hp 0 (0 + d.toNat * 1)) (tr (aq z)) (.ek (v := .unk) (ws := [(0, .own ((g.set d.toNat (gt g (Ew (d - 1)))).flatMap (iC .u64)))]) (tr (dB (dw (bn (n := 1) (ay .u64) (ax z) (lbT rfl) (by omega : 0 + d.toNat * 1 = d.toNat * 1 + 0))) (congrArg Blk.own (bE (xs := [aV (gt g (Ew (d - 1)))]) (ay .u64) (ax z) (lbT rfl) (by omega : 0 + d.toNat * 1 = d.toNat * 1 + 0) kRf)))) (.pk (v := .hp 0 (0 + (Ew (d - 1)).toNat * 1)) (tr (aq w)) (.ek (v := .unk) (ws := [(0, .own (((g.set d.toNat (gt g (Ew (d - 1)))).set (Ew (d - 1)).toNat (gt g d)).flatMap (iC .u64)))]) (tr (y := stO (decide ((0 + (Ew (d - 1)).toNat * 1) + 1 <= ((g.set d.toNat (gt g (Ew (d - 1)))).flatMap (iC .u64)).length) && true) [(0, .own (setCells ((g.set d.toNat (gt g (Ew (d - 1)))).flatMap (iC .u64)) (0 + (Ew (d - 1)).toNat * 1) [aV (gt g d)]))]) (dB (dw (bn (ay _) (ax (cq w)) (lbT rfl) (by omega : 0 + (Ew (d - 1)).toNat * 1 = (Ew (d - 1)).toNat * 1 + 0))) (congrArg Blk.own (bE (ay _) (ax (cq w)) (lbT rfl) (by omega : 0 + (Ew (d - 1)).toNat * 1 = (Ew (d - 1)).toNat * 1 + 0) kRf)))) ?_))))))))))
   refine .done (kRa ?_)
   refine .nh [0, 1, 2, 7, 8] [.own (((g.set d.toNat (gt g (Ew (d - 1)))).set (Ew (d - 1)).toNat (gt g d)).flatMap (iC .u64))] (.seq (.seq (.r4 G [0, 1, 2, 7, 8] [(61, aB (decide ((Ew (d - a)) >= 2)))] ?_)))
   replace hr := bd hr; obtain ⟨A, F, hr⟩ := hr
   refine .xt (Q := fun x st' => x = .normal /\ Wk 1 st' ⟨mkS 133 0 [(0, .hs 0 0 A.length 1), (1, ag a), (2, ag b), (7, ag d), (8, ag k)], [.own (A.flatMap (iC .u64))]⟩) ?_ ?_
   ·clear hr
    have hr := F
    clear F
    refine .cd hr ?_ ?_ <;> intro ov hr
    ·refine .seq (.r4 G [0, 1, 2, 7, 8] [(9, ag (Ew (d - 1)))] (.block ?_))
     replace hr := bd hr; obtain ⟨H, S, hr⟩ := hr
     refine .aP (σ := fun V => match V with | (h, e) => ⟨mkS 133 0 [(0, .hs 0 0 h.length 1), (1, ag a), (2, ag b), (7, ag d), (8, ag k), (9, ag e)], [.own (h.flatMap (iC .u64))]⟩) (Q := fun x st' => x = .exit 4 /\ Wk 1 st' ⟨mkS 133 0 [(0, .hs 0 0 H.length 1), (1, ag a), (2, ag b), (7, ag d), (8, ag k)], [.own (H.flatMap (iC .u64))]⟩) S ((Wk.eG 0 (b := 0) (es := 1) (len := g.length) ((g.set d.toNat (gt g (Ew (d - 1)))).set (Ew (d - 1)).toNat (gt g d)).length kRf (Eq.symm (List.length_set.trans (List.length_set.trans rfl)))).trans ((Wk.gc [0, 1, 2, 7, 8, 9] [(0, false)] rfl (pKo (iC .u64) (an _) ((g.set d.toNat (gt g (Ew (d - 1)))).set (Ew (d - 1)).toNat (gt g d)) trivial)).to)) ?_ ?_
     ·clear hr
      rintro m ⟨h, e⟩ hr
      refine CQ.sh ?_
      refine .seq (.seq (.r4 G [0, 1, 2, 7, 8, 9] [(65, aB (decide (e >= 1)))] ?_))
      refine .cd hr ?_ ?_ <;> intro qf hr
      ·refine .skip (.seq (.block (.seq (.seq ?_))))
       obtain ⟨l, o, hr⟩ := gd2 hr
       obtain ⟨jF, X, hr⟩ := bd hr
       refine .t1 G (ok0 (bw n (gt h e) (gt h (Ew (e - 1))) jF X)) (.mu 2 (.pk (v := .hp 0 (0 + e.toNat * 1)) (tr (aq l)) (.pk (v := aV (gt h e)) (tr (aD (aC (ay .u64) (ax l) z1 (by omega : 0 + e.toNat * 1 = e.toNat * 1 + 0) kRf))) (.mu 3 (.pk (v := .hp 0 (0 + (Ew (e - 1)).toNat * 1)) (tr (aq o)) (.pk (v := aV (gt h (Ew (e - 1)))) (tr (aD (aC (ay .u64) (ax o) z1 (by omega : 0 + (Ew (e - 1)).toNat * 1 = (Ew (e - 1)).toNat * 1 + 0) kRf))) (.ca cf0 (.mu 1 ?_))))))))
       refine .done (kRa ?_)
       refine .nh [0, 1, 2, 7, 8, 9, 78] [.own (h.flatMap (iC .u64))] ?_
       refine .cd hr ?_ ?_ <;> intro rI hr
       ·refine .leave rfl ?_
        obtain rfl := oi hr
        exact ⟨rfl, ((Wk.gc [0, 1, 2, 7, 8] [(0, false)] rfl (pKo (iC .u64) (an _) h trivial)).to)⟩
       refine .skip (.ba G aK (.mu 8 (.pk (v := .hp 0 (0 + (Ew (e - 1)).toNat * 1)) (tr (aq o)) (.pk (v := aV (gt h (Ew (e - 1)))) (tr (aD (aC (ay .u64) (ax o) z1 (by omega : 0 + (Ew (e - 1)).toNat * 1 = (Ew (e - 1)).toNat * 1 + 0) kRf))) (.mu 2 (.pk (v := .hp 0 (0 + e.toNat * 1)) (tr (aq l)) (.pk (v := aV (gt h e)) (tr (aD (aC (ay .u64) (ax l) z1 (by omega : 0 + e.toNat * 1 = e.toNat * 1 + 0) kRf))) (.pk (v := .hp 0 (0 + e.toNat * 1)) (tr (aq l)) (.ek (v := .unk) (ws := [(0, .own ((h.set e.toNat (gt h (Ew (e - 1)))).flatMap (iC .u64)))]) (tr (dB (dw (bn (n := 1) (ay .u64) (ax l) (lbT rfl) (by omega : 0 + e.toNat * 1 = e.toNat * 1 + 0))) (congrArg Blk.own (bE (xs := [aV (gt h (Ew (e - 1)))]) (ay .u64) (ax l) (lbT rfl) (by omega : 0 + e.toNat * 1 = e.toNat * 1 + 0) kRf)))) (.pk (v := .hp 0 (0 + (Ew (e - 1)).toNat * 1)) (tr (aq o)) (.ek (v := .unk) (ws := [(0, .own (((h.set e.toNat (gt h (Ew (e - 1)))).set (Ew (e - 1)).toNat (gt h e)).flatMap (iC .u64)))]) (tr (y := stO (decide ((0 + (Ew (e - 1)).toNat * 1) + 1 <= ((h.set e.toNat (gt h (Ew (e - 1)))).flatMap (iC .u64)).length) && true) [(0, .own (setCells ((h.set e.toNat (gt h (Ew (e - 1)))).flatMap (iC .u64)) (0 + (Ew (e - 1)).toNat * 1) [aV (gt h e)]))]) (dB (dw (bn (ay _) (ax (cq o)) (lbT rfl) (by omega : 0 + (Ew (e - 1)).toNat * 1 = (Ew (e - 1)).toNat * 1 + 0))) (congrArg Blk.own (bE (ay _) (ax (cq o)) (lbT rfl) (by omega : 0 + (Ew (e - 1)).toNat * 1 = (Ew (e - 1)).toNat * 1 + 0) kRf)))) ?_)))))))))))
       refine .done (kRa ?_)
       refine .pop (.ru G ?_)
       exact aF ((h.set e.toNat (gt h (Ew (e - 1)))).set (Ew (e - 1)).toNat (gt h e), Ew (e - 1)) hr ((Wk.eG 0 (b := 0) (es := 1) (len := h.length) ((h.set e.toNat (gt h (Ew (e - 1)))).set (Ew (e - 1)).toNat (gt h e)).length kRf (Eq.symm (List.length_set.trans (List.length_set.trans rfl)))).trans ((Wk.gc [0, 1, 2, 7, 8, 9] [(0, false)] rfl (pKo (iC .u64) (an _) ((h.set e.toNat (gt h (Ew (e - 1)))).set (Ew (e - 1)).toNat (gt h e)) trivial)).to))
      refine .leave rfl ?_
      obtain rfl := oi hr
      exact ⟨rfl, ((Wk.gc [0, 1, 2, 7, 8] [(0, false)] rfl (pKo (iC .u64) (an _) h trivial)).to)⟩
     rintro x st' I
     clear S
     obtain ⟨rfl, I⟩ := I
     refine a8 _ rfl ?_
     obtain rfl := oi hr
     exact ⟨rfl, (I.trans ((Wk.gc [0, 1, 2, 7, 8] [(0, false)] rfl (pKo (iC .u64) (an _) H trivial)).to))⟩
    refine .skip ?_
    obtain rfl := oi hr
    exact ⟨rfl, ((Wk.eG 0 (b := 0) (es := 1) (len := g.length) ((g.set d.toNat (gt g (Ew (d - 1)))).set (Ew (d - 1)).toNat (gt g d)).length kRf (Eq.symm (List.length_set.trans (List.length_set.trans rfl)))).trans ((Wk.gc [0, 1, 2, 7, 8] [(0, false)] rfl (pKo (iC .u64) (an _) ((g.set d.toNat (gt g (Ew (d - 1)))).set (Ew (d - 1)).toNat (gt g d)) trivial)).to))⟩
   rintro x st' J
   clear F
   obtain ⟨rfl, J⟩ := J
   refine .wk J (.seq (.r4 G [0, 1, 2, 7, 8] [(98, aB (decide ((Ew (b - d)) >= 2)))] ?_))
   refine .cd hr ?_ ?_ <;> intro nY hr
   ·refine .seq (.r4 G [0, 1, 2, 7, 8] [(10, ag (Ew (d + 1)))] (.block ?_))
    replace hr := bd hr; obtain ⟨B, T, hr⟩ := hr
    refine .aP (σ := fun V => match V with | (i, f) => ⟨mkS 133 0 [(0, .hs 0 0 i.length 1), (1, ag a), (2, ag b), (7, ag d), (8, ag k), (10, ag f)], [.own (i.flatMap (iC .u64))]⟩) (Q := fun x st' => x = .exit 6 /\ Wk 1 st' ⟨mkS 133 0 [(0, .hs 0 0 B.length 1), (1, ag a), (2, ag b), (7, ag d), (8, ag k)], [.own (B.flatMap (iC .u64))]⟩) T ((Wk.gc [0, 1, 2, 7, 8, 10] [(0, false)] rfl (pKo (iC .u64) (an _) A trivial)).to) ?_ ?_
    ·clear hr
     rintro m ⟨i, f⟩ hr
     refine CQ.sh ?_
     refine .seq (.seq (.r4 G [0, 1, 2, 7, 8, 10] [(103, aB (decide (f < b)))] ?_))
     refine .cd hr ?_ ?_ <;> intro kh hr
     ·refine .skip (.seq (.block (.seq (.seq ?_))))
      obtain ⟨p, q, hr⟩ := gd2 hr
      obtain ⟨l7, Y, hr⟩ := bd hr
      refine .t1 G (ok0 (bw n (gt i f) (gt i (Ew (f - 1))) l7 Y)) (.mu 2 (.pk (v := .hp 0 (0 + f.toNat * 1)) (tr (aq p)) (.pk (v := aV (gt i f)) (tr (aD (aC (ay .u64) (ax p) z1 (by omega : 0 + f.toNat * 1 = f.toNat * 1 + 0) kRf))) (.mu 3 (.pk (v := .hp 0 (0 + (Ew (f - 1)).toNat * 1)) (tr (aq q)) (.pk (v := aV (gt i (Ew (f - 1)))) (tr (aD (aC (ay .u64) (ax q) z1 (by omega : 0 + (Ew (f - 1)).toNat * 1 = (Ew (f - 1)).toNat * 1 + 0) kRf))) (.ca cf0 (.mu 1 ?_))))))))
      refine .done (kRa ?_)
      refine .nh [0, 1, 2, 7, 8, 10, 116] [.own (i.flatMap (iC .u64))] ?_
      refine .cd hr ?_ ?_ <;> intro jU hr
      ·refine .leave rfl ?_
       obtain rfl := oi hr
       exact ⟨rfl, ((Wk.gc [0, 1, 2, 7, 8] [(0, false)] rfl (pKo (iC .u64) (an _) i trivial)).to)⟩
      refine .skip (.ba G aK (.mu 8 (.pk (v := .hp 0 (0 + (Ew (f - 1)).toNat * 1)) (tr (aq q)) (.pk (v := aV (gt i (Ew (f - 1)))) (tr (aD (aC (ay .u64) (ax q) z1 (by omega : 0 + (Ew (f - 1)).toNat * 1 = (Ew (f - 1)).toNat * 1 + 0) kRf))) (.mu 2 (.pk (v := .hp 0 (0 + f.toNat * 1)) (tr (aq p)) (.pk (v := aV (gt i f)) (tr (aD (aC (ay .u64) (ax p) z1 (by omega : 0 + f.toNat * 1 = f.toNat * 1 + 0) kRf))) (.pk (v := .hp 0 (0 + f.toNat * 1)) (tr (aq p)) (.ek (v := .unk) (ws := [(0, .own ((i.set f.toNat (gt i (Ew (f - 1)))).flatMap (iC .u64)))]) (tr (dB (dw (bn (n := 1) (ay .u64) (ax p) (lbT rfl) (by omega : 0 + f.toNat * 1 = f.toNat * 1 + 0))) (congrArg Blk.own (bE (xs := [aV (gt i (Ew (f - 1)))]) (ay .u64) (ax p) (lbT rfl) (by omega : 0 + f.toNat * 1 = f.toNat * 1 + 0) kRf)))) (.pk (v := .hp 0 (0 + (Ew (f - 1)).toNat * 1)) (tr (aq q)) (.ek (v := .unk) (ws := [(0, .own (((i.set f.toNat (gt i (Ew (f - 1)))).set (Ew (f - 1)).toNat (gt i f)).flatMap (iC .u64)))]) (tr (y := stO (decide ((0 + (Ew (f - 1)).toNat * 1) + 1 <= ((i.set f.toNat (gt i (Ew (f - 1)))).flatMap (iC .u64)).length) && true) [(0, .own (setCells ((i.set f.toNat (gt i (Ew (f - 1)))).flatMap (iC .u64)) (0 + (Ew (f - 1)).toNat * 1) [aV (gt i f)]))]) (dB (dw (bn (ay _) (ax (cq q)) (lbT rfl) (by omega : 0 + (Ew (f - 1)).toNat * 1 = (Ew (f - 1)).toNat * 1 + 0))) (congrArg Blk.own (bE (ay _) (ax (cq q)) (lbT rfl) (by omega : 0 + (Ew (f - 1)).toNat * 1 = (Ew (f - 1)).toNat * 1 + 0) kRf)))) ?_)))))))))))
      refine .done (kRa ?_)
      refine .pop (.ru G ?_)
      exact aF ((i.set f.toNat (gt i (Ew (f - 1)))).set (Ew (f - 1)).toNat (gt i f), Ew (f + 1)) hr ((Wk.eG 0 (b := 0) (es := 1) (len := i.length) ((i.set f.toNat (gt i (Ew (f - 1)))).set (Ew (f - 1)).toNat (gt i f)).length kRf (Eq.symm (List.length_set.trans (List.length_set.trans rfl)))).trans ((Wk.gc [0, 1, 2, 7, 8, 10] [(0, false)] rfl (pKo (iC .u64) (an _) ((i.set f.toNat (gt i (Ew (f - 1)))).set (Ew (f - 1)).toNat (gt i f)) trivial)).to))
     refine .leave rfl ?_
     obtain rfl := oi hr
     exact ⟨rfl, ((Wk.gc [0, 1, 2, 7, 8] [(0, false)] rfl (pKo (iC .u64) (an _) i trivial)).to)⟩
    rintro x st' L
    clear T
    obtain ⟨rfl, L⟩ := L
    refine a8 _ rfl (.pop (.wk L (.ru G ?_)))
    exact aF (B, d, Ew (k + 1)) hr ((Wk.gc [0, 1, 2, 7, 8] [(0, false)] rfl (pKo (iC .u64) (an _) B trivial)).to)
   refine .skip (.pop (.ru G ?_))
   exact aF (A, d, Ew (k + 1)) hr ((Wk.gc [0, 1, 2, 7, 8] [(0, false)] rfl (pKo (iC .u64) (an _) A trivial)).to)
  refine .leave rfl ?_
  obtain rfl := oi hr
  exact ⟨rfl, ((Wk.gc [] [(0, false)] rfl (pKo (iC .u64) (an _) g trivial)).to)⟩
 rcases U with D | r0
 ·rintro x st' t
  clear C
  obtain ⟨rfl, t⟩ := t
  refine a8 _ rfl (.wk t (.seq (.r4 G [] [(6, aB false)] (.ret ?_))))
  obtain rfl := oi hr
  exact b6.ret [aB false] ((Wk.gc [0] [(0, false)] rfl (pKo (iC .u64) (an _) D trivial)).to)
 rintro x st' t
 clear C
 obtain ⟨rfl, t⟩ := t
 obtain rfl := oi hr
 exact fp _ t

theorem fW (n : Nat) (data : List Int) (a : Int) (b : Int) (pivot : Int) (r : List Int × Int) (hr : bK n data a b pivot = some r) : bx 1 Tryz.prog 77 [.hs 0 0 data.length 1, ag a, ag b, ag pivot] [.own (data.flatMap (iC .u64))] (ag r.2) [.own (r.1.flatMap (iC .u64))] := by
 unfold bK at hr
 refine bx.fH G Tryz.func77 (c := (Tryz.f77.body).getD .skip) rfl (us := [ag r.2]) (s := mkS 84 0 [(0, .hs 0 0 data.length 1), (1, ag a), (2, ag b), (3, ag pivot)]) kRf (rs := [.tmp 8]) rfl ?_
 unfold Tryz.f77
 simp only [gS]
 refine .seq (.r4 G [0, 1, 2, 3] [] (.seq ?_))
 obtain ⟨i, j, hr⟩ := gd2 hr
 refine .ba G aK (.mu 6 (.pk (v := .hp 0 (0 + pivot.toNat * 1)) (tr (aq i)) (.pk (v := aV (gt data pivot)) (tr (aD (aC (ay .u64) (ax i) z1 (by omega : 0 + pivot.toNat * 1 = pivot.toNat * 1 + 0) kRf))) (.mu 2 (.pk (v := .hp 0 (0 + a.toNat * 1)) (tr (aq j)) (.pk (v := aV (gt data a)) (tr (aD (aC (ay .u64) (ax j) z1 (by omega : 0 + a.toNat * 1 = a.toNat * 1 + 0) kRf))) (.pk (v := .hp 0 (0 + a.toNat * 1)) (tr (aq j)) (.ek (v := .unk) (ws := [(0, .own ((data.set a.toNat (gt data pivot)).flatMap (iC .u64)))]) (tr (dB (dw (bn (n := 1) (ay .u64) (ax j) (lbT rfl) (by omega : 0 + a.toNat * 1 = a.toNat * 1 + 0))) (congrArg Blk.own (bE (xs := [aV (gt data pivot)]) (ay .u64) (ax j) (lbT rfl) (by omega : 0 + a.toNat * 1 = a.toNat * 1 + 0) kRf)))) (.pk (v := .hp 0 (0 + pivot.toNat * 1)) (tr (aq i)) (.ek (v := .unk) (ws := [(0, .own (((data.set a.toNat (gt data pivot)).set pivot.toNat (gt data a)).flatMap (iC .u64)))]) (tr (y := stO (decide ((0 + pivot.toNat * 1) + 1 <= ((data.set a.toNat (gt data pivot)).flatMap (iC .u64)).length) && true) [(0, .own (setCells ((data.set a.toNat (gt data pivot)).flatMap (iC .u64)) (0 + pivot.toNat * 1) [aV (gt data a)]))]) (dB (dw (bn (ay _) (ax (cq i)) (lbT rfl) (by omega : 0 + pivot.toNat * 1 = pivot.toNat * 1 + 0))) (congrArg Blk.own (bE (ay _) (ax (cq i)) (lbT rfl) (by omega : 0 + pivot.toNat * 1 = pivot.toNat * 1 + 0) kRf)))) ?_))))))))))
 refine .done (kRa ?_)
 refine .nh [0, 1, 2] [.own (((data.set a.toNat (gt data pivot)).set pivot.toNat (gt data a)).flatMap (iC .u64))] (.seq (.r4 G [0, 1] [(9, ag (Ew (a + 1))), (10, ag (Ew (b - 1)))] (.seq (.block ?_))))
 replace hr := bd hr; obtain ⟨L, B, hr⟩ := hr
 refine .aP (σ := fun O => match O with | (d, C, k) => ⟨mkS 84 0 [(0, .hs 0 0 d.length 1), (1, ag a), (9, ag C), (10, ag k)], [.own (d.flatMap (iC .u64))]⟩) (Q := fun x st' => match (generalizing := false) L with | (u, t) => x = .exit 0 /\ Wk 1 st' ⟨mkS 84 0 [(9, ag t)], [.own (u.flatMap (iC .u64))]⟩) B ((Wk.eG 0 (b := 0) (es := 1) (len := data.length) ((data.set a.toNat (gt data pivot)).set pivot.toNat (gt data a)).length kRf (Eq.symm (List.length_set.trans (List.length_set.trans rfl)))).trans ((Wk.gc [0, 1, 9, 10] [(0, false)] rfl (pKo (iC .u64) (an _) ((data.set a.toNat (gt data pivot)).set pivot.toNat (gt data a)) trivial)).to)) ?_ ?_
 ·clear hr
  rintro m ⟨d, C, k⟩ hr
  refine CQ.sh ?_
  refine .block (.seq (.block ?_))
  replace hr := bd hr; obtain ⟨e, D, hr⟩ := hr
  refine .aP (σ := fun O => match O with | g => ⟨mkS 84 0 [(0, .hs 0 0 d.length 1), (1, ag a), (9, ag g), (10, ag k)], [.own (d.flatMap (iC .u64))]⟩) (Q := fun x st' => x = .exit 2 /\ Wk 1 st' ⟨mkS 84 0 [(0, .hs 0 0 d.length 1), (1, ag a), (9, ag e), (10, ag k)], [.own (d.flatMap (iC .u64))]⟩) D ((Wk.gc [0, 1, 9, 10] [(0, false)] rfl (pKo (iC .u64) (an _) d trivial)).to) ?_ ?_
  ·clear hr
   rintro m g hr
   refine CQ.sh ?_
   refine .seq (.seq ?_)
   rcases bT (decide (g <= k)) with l | l
   ·replace hr := cB l hr
    obtain ⟨E, F, hr⟩ := gd2 hr
    obtain ⟨R, M, hr⟩ := bd hr
    refine .t1 G (ok0 (bw n (gt d a) (gt d g) R M)) (.mu 2 (.pk (v := aB true) (eB l) (.mu 3 (.pk (v := .hp 0 (0 + a.toNat * 1)) (tr (aq E)) (.pk (v := aV (gt d a)) (tr (aD (aC (ay .u64) (ax E) z1 (by omega : 0 + a.toNat * 1 = a.toNat * 1 + 0) kRf))) (.mu 2 (.pk (v := .hp 0 (0 + g.toNat * 1)) (tr (aq F)) (.pk (v := aV (gt d g)) (tr (aD (aC (ay .u64) (ax F) z1 (by omega : 0 + g.toNat * 1 = g.toNat * 1 + 0) kRf))) (.ca cf0 (.mu 2 ?_))))))))))
    refine .done (kRa ?_)
    refine .nh [0, 1, 9, 10, 43] [.own (d.flatMap (iC .u64))] ?_
    refine .cd hr ?_ ?_ <;> intro T hr
    ·refine .skip (.block (.ru G (.pop ?_)))
     exact aF (Ew (g + 1)) hr ((Wk.gc [0, 1, 9, 10] [(0, false)] rfl (pKo (iC .u64) (an _) d trivial)).to)
    refine .leave rfl ?_
    obtain rfl := oi hr
    exact ⟨rfl, ((Wk.gc [0, 1, 9, 10] [(0, false)] rfl (pKo (iC .u64) (an _) d trivial)).to)⟩
   replace hr := cC l hr
   refine .ba G aK (.mu 2 (.pk (v := aB false) (eB l) (.mu 12 ?_)))
   refine .done (kRa ?_)
   refine .nh [0, 1, 9, 10, 43] [.own (d.flatMap (iC .u64))] (.cF kRf (.leave rfl ?_))
   obtain rfl := oi hr
   exact ⟨rfl, ((Wk.gc [0, 1, 9, 10] [(0, false)] rfl (pKo (iC .u64) (an _) d trivial)).to)⟩
  rintro x st' w
  clear D
  obtain ⟨rfl, w⟩ := w
  refine a8 _ rfl (.wk w (.seq (.block ?_)))
  replace hr := bd hr; obtain ⟨f, H, hr⟩ := hr
  refine .aP (σ := fun O => match O with | h => ⟨mkS 84 0 [(0, .hs 0 0 d.length 1), (1, ag a), (9, ag e), (10, ag h)], [.own (d.flatMap (iC .u64))]⟩) (Q := fun x st' => x = .exit 4 /\ Wk 1 st' ⟨mkS 84 0 [(0, .hs 0 0 d.length 1), (1, ag a), (9, ag e), (10, ag f)], [.own (d.flatMap (iC .u64))]⟩) H ((Wk.gc [0, 1, 9, 10] [(0, false)] rfl (pKo (iC .u64) (an _) d trivial)).to) ?_ ?_
  ·clear hr
   rintro m h hr
   refine CQ.sh ?_
   refine .seq (.seq ?_)
   rcases bT (decide (e <= h)) with o | o
   ·replace hr := cB o hr
    obtain ⟨I, J, hr⟩ := gd2 hr
    obtain ⟨S, N, hr⟩ := bd hr
    refine .t1 G (ok0 (bw n (gt d a) (gt d h) S N)) (.mu 2 (.pk (v := aB true) (eB o) (.mu 3 (.pk (v := .hp 0 (0 + a.toNat * 1)) (tr (aq I)) (.pk (v := aV (gt d a)) (tr (aD (aC (ay .u64) (ax I) z1 (by omega : 0 + a.toNat * 1 = a.toNat * 1 + 0) kRf))) (.mu 2 (.pk (v := .hp 0 (0 + h.toNat * 1)) (tr (aq J)) (.pk (v := aV (gt d h)) (tr (aD (aC (ay .u64) (ax J) z1 (by omega : 0 + h.toNat * 1 = h.toNat * 1 + 0) kRf))) (.ca cf0 (.mu 1 ?_))))))))))
    refine .done (kRa ?_)
    refine .nh [0, 1, 9, 10, 59] [.own (d.flatMap (iC .u64))] ?_
    refine .cd hr ?_ ?_ <;> intro U hr
    ·refine .skip (.block (.ru G (.pop ?_)))
     exact aF (Ew (h - 1)) hr ((Wk.gc [0, 1, 9, 10] [(0, false)] rfl (pKo (iC .u64) (an _) d trivial)).to)
    refine .leave rfl ?_
    obtain rfl := oi hr
    exact ⟨rfl, ((Wk.gc [0, 1, 9, 10] [(0, false)] rfl (pKo (iC .u64) (an _) d trivial)).to)⟩
   replace hr := cC o hr
   refine .ba G aK (.mu 2 (.pk (v := aB false) (eB o) (.mu 11 ?_)))
   refine .done (kRa ?_)
   refine .nh [0, 1, 9, 10, 59] [.own (d.flatMap (iC .u64))] (.cF kRf (.leave rfl ?_))
   obtain rfl := oi hr
   exact ⟨rfl, ((Wk.gc [0, 1, 9, 10] [(0, false)] rfl (pKo (iC .u64) (an _) d trivial)).to)⟩
  rintro x st' z
  clear H
  obtain ⟨rfl, z⟩ := z
  refine a8 _ rfl (.wk z (.seq (.seq (.r4 G [0, 1, 9, 10] [(64, aB (decide (e > f)))] ?_))))
  refine .cd hr ?_ ?_ <;> intro V hr
  ·refine .leave rfl ?_
   obtain rfl := oi hr
   exact ⟨rfl, ((Wk.gc [9] [(0, false)] rfl (pKo (iC .u64) (an _) d trivial)).to)⟩
  refine .skip (.seq ?_)
  obtain ⟨p, q, hr⟩ := gd2 hr
  refine .ba G aK (.mu 6 (.pk (v := .hp 0 (0 + f.toNat * 1)) (tr (aq p)) (.pk (v := aV (gt d f)) (tr (aD (aC (ay .u64) (ax p) z1 (by omega : 0 + f.toNat * 1 = f.toNat * 1 + 0) kRf))) (.mu 2 (.pk (v := .hp 0 (0 + e.toNat * 1)) (tr (aq q)) (.pk (v := aV (gt d e)) (tr (aD (aC (ay .u64) (ax q) z1 (by omega : 0 + e.toNat * 1 = e.toNat * 1 + 0) kRf))) (.pk (v := .hp 0 (0 + e.toNat * 1)) (tr (aq q)) (.ek (v := .unk) (ws := [(0, .own ((d.set e.toNat (gt d f)).flatMap (iC .u64)))]) (tr (dB (dw (bn (n := 1) (ay .u64) (ax q) (lbT rfl) (by omega : 0 + e.toNat * 1 = e.toNat * 1 + 0))) (congrArg Blk.own (bE (xs := [aV (gt d f)]) (ay .u64) (ax q) (lbT rfl) (by omega : 0 + e.toNat * 1 = e.toNat * 1 + 0) kRf)))) (.pk (v := .hp 0 (0 + f.toNat * 1)) (tr (aq p)) (.ek (v := .unk) (ws := [(0, .own (((d.set e.toNat (gt d f)).set f.toNat (gt d e)).flatMap (iC .u64)))]) (tr (y := stO (decide ((0 + f.toNat * 1) + 1 <= ((d.set e.toNat (gt d f)).flatMap (iC .u64)).length) && true) [(0, .own (setCells ((d.set e.toNat (gt d f)).flatMap (iC .u64)) (0 + f.toNat * 1) [aV (gt d e)]))]) (dB (dw (bn (ay _) (ax (cq p)) (lbT rfl) (by omega : 0 + f.toNat * 1 = f.toNat * 1 + 0))) (congrArg Blk.own (bE (ay _) (ax (cq p)) (lbT rfl) (by omega : 0 + f.toNat * 1 = f.toNat * 1 + 0) kRf)))) ?_))))))))))
  refine .done (kRa ?_)
  refine .nh [0, 1, 9, 10] [.own (((d.set e.toNat (gt d f)).set f.toNat (gt d e)).flatMap (iC .u64))] (.seq (.r4 G [0, 1, 10] [(9, ag (Ew (e + 1)))] (.ru G (.pop ?_))))
  exact aF ((d.set e.toNat (gt d f)).set f.toNat (gt d e), Ew (e + 1), Ew (f - 1)) hr ((Wk.eG 0 (b := 0) (es := 1) (len := d.length) ((d.set e.toNat (gt d f)).set f.toNat (gt d e)).length kRf (Eq.symm (List.length_set.trans (List.length_set.trans rfl)))).trans ((Wk.gc [0, 1, 9, 10] [(0, false)] rfl (pKo (iC .u64) (an _) ((d.set e.toNat (gt d f)).set f.toNat (gt d e)) trivial)).to))
 rcases L with ⟨u, t⟩
 rintro x st' A
 clear B
 obtain ⟨rfl, A⟩ := A
 refine a8 _ rfl (.wk A (.seq (.r3 G 84 [(8, ag t)] (.ret ?_))))
 obtain rfl := oi hr
 exact b6.ret [ag t] ((Wk.gc [0] [(0, false)] rfl (pKo (iC .u64) (an _) u trivial)).to)

theorem gZ (n : Nat) (data : List Int) (a : Int) (b : Int) (pivot : Int) (r : List Int × Int × Bool) (hr : cg n data a b pivot = some r) : bx 1 Tryz.prog 78 [.hs 0 0 data.length 1, ag a, ag b, ag pivot] [.own (data.flatMap (iC .u64))] (.tup [ag r.2.1, aB r.2.2]) [.own (r.1.flatMap (iC .u64))] := by
 unfold cg at hr
 refine bx.fH G Tryz.func78 (c := (Tryz.f78.body).getD .skip) rfl (us := [ag r.2.1, aB r.2.2]) (s := mkS 168 0 [(0, .hs 0 0 data.length 1), (1, ag a), (2, ag b), (3, ag pivot)]) kRf (rs := [.tmp 8, .tmp 9]) rfl ?_
 unfold Tryz.f78
 simp only [gS]
 refine .seq (.r4 G [0, 1, 2, 3] [] (.seq ?_))
 obtain ⟨q, t, hr⟩ := gd2 hr
 refine .ba G aK (.mu 6 (.pk (v := .hp 0 (0 + pivot.toNat * 1)) (tr (aq q)) (.pk (v := aV (gt data pivot)) (tr (aD (aC (ay .u64) (ax q) z1 (by omega : 0 + pivot.toNat * 1 = pivot.toNat * 1 + 0) kRf))) (.mu 2 (.pk (v := .hp 0 (0 + a.toNat * 1)) (tr (aq t)) (.pk (v := aV (gt data a)) (tr (aD (aC (ay .u64) (ax t) z1 (by omega : 0 + a.toNat * 1 = a.toNat * 1 + 0) kRf))) (.pk (v := .hp 0 (0 + a.toNat * 1)) (tr (aq t)) (.ek (v := .unk) (ws := [(0, .own ((data.set a.toNat (gt data pivot)).flatMap (iC .u64)))]) (tr (dB (dw (bn (n := 1) (ay .u64) (ax t) (lbT rfl) (by omega : 0 + a.toNat * 1 = a.toNat * 1 + 0))) (congrArg Blk.own (bE (xs := [aV (gt data pivot)]) (ay .u64) (ax t) (lbT rfl) (by omega : 0 + a.toNat * 1 = a.toNat * 1 + 0) kRf)))) (.pk (v := .hp 0 (0 + pivot.toNat * 1)) (tr (aq q)) (.ek (v := .unk) (ws := [(0, .own (((data.set a.toNat (gt data pivot)).set pivot.toNat (gt data a)).flatMap (iC .u64)))]) (tr (y := stO (decide ((0 + pivot.toNat * 1) + 1 <= ((data.set a.toNat (gt data pivot)).flatMap (iC .u64)).length) && true) [(0, .own (setCells ((data.set a.toNat (gt data pivot)).flatMap (iC .u64)) (0 + pivot.toNat * 1) [aV (gt data a)]))]) (dB (dw (bn (ay _) (ax (cq q)) (lbT rfl) (by omega : 0 + pivot.toNat * 1 = pivot.toNat * 1 + 0))) (congrArg Blk.own (bE (ay _) (ax (cq q)) (lbT rfl) (by omega : 0 + pivot.toNat * 1 = pivot.toNat * 1 + 0) kRf)))) ?_))))))))))
 refine .done (kRa ?_)
 refine .nh [0, 1, 2] [.own (((data.set a.toNat (gt data pivot)).set pivot.toNat (gt data a)).flatMap (iC .u64))] (.seq (.r4 G [0, 1] [(10, ag (Ew (a + 1))), (11, ag (Ew (b - 1)))] (.seq (.block ?_))))
 replace hr := bd hr; obtain ⟨h, T, hr⟩ := hr
 refine .aP (σ := fun z0 => match z0 with | k => ⟨mkS 168 0 [(0, .hs 0 0 ((data.set a.toNat (gt data pivot)).set pivot.toNat (gt data a)).length 1), (1, ag a), (10, ag k), (11, ag (Ew (b - 1)))], [.own (((data.set a.toNat (gt data pivot)).set pivot.toNat (gt data a)).flatMap (iC .u64))]⟩) (Q := fun x st' => x = .exit 0 /\ Wk 1 st' ⟨mkS 168 0 [(0, .hs 0 0 ((data.set a.toNat (gt data pivot)).set pivot.toNat (gt data a)).length 1), (1, ag a), (10, ag h), (11, ag (Ew (b - 1)))], [.own (((data.set a.toNat (gt data pivot)).set pivot.toNat (gt data a)).flatMap (iC .u64))]⟩) T ((Wk.eG 0 (b := 0) (es := 1) (len := data.length) ((data.set a.toNat (gt data pivot)).set pivot.toNat (gt data a)).length kRf (Eq.symm (List.length_set.trans (List.length_set.trans rfl)))).trans ((Wk.gc [0, 1, 10, 11] [(0, false)] rfl (pKo (iC .u64) (an _) ((data.set a.toNat (gt data pivot)).set pivot.toNat (gt data a)) trivial)).to)) ?_ ?_
 ·clear hr
  rintro m k hr
  refine CQ.sh ?_
  refine .seq (.seq ?_)
  rcases bT (decide (k <= (Ew (b - 1)))) with u | u
  ·replace hr := cB u hr
   obtain ⟨U, V, hr⟩ := gd2 hr
   obtain ⟨ny, rI, hr⟩ := bd hr
   refine .t1 G (ok0 (bw n (gt ((data.set a.toNat (gt data pivot)).set pivot.toNat (gt data a)) k) (gt ((data.set a.toNat (gt data pivot)).set pivot.toNat (gt data a)) a) ny rI)) (.mu 2 (.pk (v := aB true) (eB u) (.mu 3 (.pk (v := .hp 0 (0 + k.toNat * 1)) (tr (aq U)) (.pk (v := aV (gt ((data.set a.toNat (gt data pivot)).set pivot.toNat (gt data a)) k)) (tr (aD (aC (ay .u64) (ax U) z1 (by omega : 0 + k.toNat * 1 = k.toNat * 1 + 0) kRf))) (.mu 2 (.pk (v := .hp 0 (0 + a.toNat * 1)) (tr (aq V)) (.pk (v := aV (gt ((data.set a.toNat (gt data pivot)).set pivot.toNat (gt data a)) a)) (tr (aD (aC (ay .u64) (ax V) z1 (by omega : 0 + a.toNat * 1 = a.toNat * 1 + 0) kRf))) (.ca cf0 (.mu 1 ?_))))))))))
   refine .done (kRa ?_)
   refine .nh [0, 1, 10, 11, 43] [.own (((data.set a.toNat (gt data pivot)).set pivot.toNat (gt data a)).flatMap (iC .u64))] ?_
   refine .cd hr ?_ ?_ <;> intro p9 hr
   ·refine .skip (.block (.ru G (.pop ?_)))
    exact aF (Ew (k + 1)) hr ((Wk.gc [0, 1, 10, 11] [(0, false)] rfl (pKo (iC .u64) (an _) ((data.set a.toNat (gt data pivot)).set pivot.toNat (gt data a)) trivial)).to)
   refine .leave rfl ?_
   obtain rfl := oi hr
   exact ⟨rfl, ((Wk.gc [0, 1, 10, 11] [(0, false)] rfl (pKo (iC .u64) (an _) ((data.set a.toNat (gt data pivot)).set pivot.toNat (gt data a)) trivial)).to)⟩
  replace hr := cC u hr
  refine .ba G aK (.mu 2 (.pk (v := aB false) (eB u) (.mu 11 ?_)))
  refine .done (kRa ?_)
  refine .nh [0, 1, 10, 11, 43] [.own (((data.set a.toNat (gt data pivot)).set pivot.toNat (gt data a)).flatMap (iC .u64))] (.cF kRf (.leave rfl ?_))
  obtain rfl := oi hr
  exact ⟨rfl, ((Wk.gc [0, 1, 10, 11] [(0, false)] rfl (pKo (iC .u64) (an _) ((data.set a.toNat (gt data pivot)).set pivot.toNat (gt data a)) trivial)).to)⟩
 rintro x st' M
 clear T
 obtain ⟨rfl, M⟩ := M
 refine a8 _ rfl (.wk M (.seq (.block ?_)))
 replace hr := bd hr; obtain ⟨e, W, hr⟩ := hr
 refine .aP (σ := fun z0 => match z0 with | l => ⟨mkS 168 0 [(0, .hs 0 0 ((data.set a.toNat (gt data pivot)).set pivot.toNat (gt data a)).length 1), (1, ag a), (10, ag h), (11, ag l)], [.own (((data.set a.toNat (gt data pivot)).set pivot.toNat (gt data a)).flatMap (iC .u64))]⟩) (Q := fun x st' => x = .exit 2 /\ Wk 1 st' ⟨mkS 168 0 [(0, .hs 0 0 ((data.set a.toNat (gt data pivot)).set pivot.toNat (gt data a)).length 1), (1, ag a), (10, ag h), (11, ag e)], [.own (((data.set a.toNat (gt data pivot)).set pivot.toNat (gt data a)).flatMap (iC .u64))]⟩) W ((Wk.gc [0, 1, 10, 11] [(0, false)] rfl (pKo (iC .u64) (an _) ((data.set a.toNat (gt data pivot)).set pivot.toNat (gt data a)) trivial)).to) ?_ ?_
 ·clear hr
  rintro m l hr
  refine CQ.sh ?_
  refine .seq (.seq ?_)
  rcases bT (decide (h <= l)) with w | w
  ·replace hr := cB w hr
   obtain ⟨X, Y, hr⟩ := gd2 hr
   obtain ⟨ns, nY, hr⟩ := bd hr
   refine .t1 G (ok0 (bw n (gt ((data.set a.toNat (gt data pivot)).set pivot.toNat (gt data a)) l) (gt ((data.set a.toNat (gt data pivot)).set pivot.toNat (gt data a)) a) ns nY)) (.mu 2 (.pk (v := aB true) (eB w) (.mu 3 (.pk (v := .hp 0 (0 + l.toNat * 1)) (tr (aq X)) (.pk (v := aV (gt ((data.set a.toNat (gt data pivot)).set pivot.toNat (gt data a)) l)) (tr (aD (aC (ay .u64) (ax X) z1 (by omega : 0 + l.toNat * 1 = l.toNat * 1 + 0) kRf))) (.mu 2 (.pk (v := .hp 0 (0 + a.toNat * 1)) (tr (aq Y)) (.pk (v := aV (gt ((data.set a.toNat (gt data pivot)).set pivot.toNat (gt data a)) a)) (tr (aD (aC (ay .u64) (ax Y) z1 (by omega : 0 + a.toNat * 1 = a.toNat * 1 + 0) kRf))) (.ca cf0 (.mu 2 ?_))))))))))
   refine .done (kRa ?_)
   refine .nh [0, 1, 10, 11, 60] [.own (((data.set a.toNat (gt data pivot)).set pivot.toNat (gt data a)).flatMap (iC .u64))] ?_
   refine .cd hr ?_ ?_ <;> intro pR hr
   ·refine .skip (.block (.ru G (.pop ?_)))
    exact aF (Ew (l - 1)) hr ((Wk.gc [0, 1, 10, 11] [(0, false)] rfl (pKo (iC .u64) (an _) ((data.set a.toNat (gt data pivot)).set pivot.toNat (gt data a)) trivial)).to)
   refine .leave rfl ?_
   obtain rfl := oi hr
   exact ⟨rfl, ((Wk.gc [0, 1, 10, 11] [(0, false)] rfl (pKo (iC .u64) (an _) ((data.set a.toNat (gt data pivot)).set pivot.toNat (gt data a)) trivial)).to)⟩
  replace hr := cC w hr
  refine .ba G aK (.mu 2 (.pk (v := aB false) (eB w) (.mu 12 ?_)))
  refine .done (kRa ?_)
  refine .nh [0, 1, 10, 11, 60] [.own (((data.set a.toNat (gt data pivot)).set pivot.toNat (gt data a)).flatMap (iC .u64))] (.cF kRf (.leave rfl ?_))
  obtain rfl := oi hr
  exact ⟨rfl, ((Wk.gc [0, 1, 10, 11] [(0, false)] rfl (pKo (iC .u64) (an _) ((data.set a.toNat (gt data pivot)).set pivot.toNat (gt data a)) trivial)).to)⟩
 rintro x st' N
 clear W
 obtain ⟨rfl, N⟩ := N
 refine a8 _ rfl (.wk N (.seq (.seq (.r4 G [0, 1, 10, 11] [(65, aB (decide (h > e)))] ?_))))
 refine .cd hr ?_ ?_ <;> intro pV hr
 ·refine .seq ?_
  obtain ⟨z, A, hr⟩ := gd2 hr
  refine .ba G aK (.mu 6 (.pk (v := .hp 0 (0 + a.toNat * 1)) (tr (aq z)) (.pk (v := aV (gt ((data.set a.toNat (gt data pivot)).set pivot.toNat (gt data a)) a)) (tr (aD (aC (ay .u64) (ax z) z1 (by omega : 0 + a.toNat * 1 = a.toNat * 1 + 0) kRf))) (.mu 2 (.pk (v := .hp 0 (0 + e.toNat * 1)) (tr (aq A)) (.pk (v := aV (gt ((data.set a.toNat (gt data pivot)).set pivot.toNat (gt data a)) e)) (tr (aD (aC (ay .u64) (ax A) z1 (by omega : 0 + e.toNat * 1 = e.toNat * 1 + 0) kRf))) (.pk (v := .hp 0 (0 + e.toNat * 1)) (tr (aq A)) (.ek (v := .unk) (ws := [(0, .own ((((data.set a.toNat (gt data pivot)).set pivot.toNat (gt data a)).set e.toNat (gt ((data.set a.toNat (gt data pivot)).set pivot.toNat (gt data a)) a)).flatMap (iC .u64)))]) (tr (dB (dw (bn (n := 1) (ay .u64) (ax A) (lbT rfl) (by omega : 0 + e.toNat * 1 = e.toNat * 1 + 0))) (congrArg Blk.own (bE (xs := [aV (gt ((data.set a.toNat (gt data pivot)).set pivot.toNat (gt data a)) a)]) (ay .u64) (ax A) (lbT rfl) (by omega : 0 + e.toNat * 1 = e.toNat * 1 + 0) kRf)))) (.pk (v := .hp 0 (0 + a.toNat * 1)) (tr (aq z)) (.ek (v := .unk) (ws := [(0, .own (((((data.set a.toNat (gt data pivot)).set pivot.toNat (gt data a)).set e.toNat (gt ((data.set a.toNat (gt data pivot)).set pivot.toNat (gt data a)) a)).set a.toNat (gt ((data.set a.toNat (gt data pivot)).set pivot.toNat (gt data a)) e)).flatMap (iC .u64)))]) (tr (y := stO (decide ((0 + a.toNat * 1) + 1 <= ((((data.set a.toNat (gt data pivot)).set pivot.toNat (gt data a)).set e.toNat (gt ((data.set a.toNat (gt data pivot)).set pivot.toNat (gt data a)) a)).flatMap (iC .u64)).length) && true) [(0, .own (setCells ((((data.set a.toNat (gt data pivot)).set pivot.toNat (gt data a)).set e.toNat (gt ((data.set a.toNat (gt data pivot)).set pivot.toNat (gt data a)) a)).flatMap (iC .u64)) (0 + a.toNat * 1) [aV (gt ((data.set a.toNat (gt data pivot)).set pivot.toNat (gt data a)) e)]))]) (dB (dw (bn (ay _) (ax (cq z)) (lbT rfl) (by omega : 0 + a.toNat * 1 = a.toNat * 1 + 0))) (congrArg Blk.own (bE (ay _) (ax (cq z)) (lbT rfl) (by omega : 0 + a.toNat * 1 = a.toNat * 1 + 0) kRf)))) ?_))))))))))
  refine .done (kRa ?_)
  refine .nh [11] [.own (((((data.set a.toNat (gt data pivot)).set pivot.toNat (gt data a)).set e.toNat (gt ((data.set a.toNat (gt data pivot)).set pivot.toNat (gt data a)) a)).set a.toNat (gt ((data.set a.toNat (gt data pivot)).set pivot.toNat (gt data a)) e)).flatMap (iC .u64))] (.seq (.r4 G [] [(8, ag e), (9, aB true)] (.ret ?_)))
  obtain rfl := oi hr
  exact b6.ret [ag e, aB true] ((Wk.gc [0, 1] [(0, false)] rfl (pKo (iC .u64) (an _) ((((data.set a.toNat (gt data pivot)).set pivot.toNat (gt data a)).set e.toNat (gt ((data.set a.toNat (gt data pivot)).set pivot.toNat (gt data a)) a)).set a.toNat (gt ((data.set a.toNat (gt data pivot)).set pivot.toNat (gt data a)) e)) trivial)).to)
 refine .skip (.seq ?_)
 obtain ⟨B, C, hr⟩ := gd2 hr
 refine .ba G aK (.mu 6 (.pk (v := .hp 0 (0 + e.toNat * 1)) (tr (aq B)) (.pk (v := aV (gt ((data.set a.toNat (gt data pivot)).set pivot.toNat (gt data a)) e)) (tr (aD (aC (ay .u64) (ax B) z1 (by omega : 0 + e.toNat * 1 = e.toNat * 1 + 0) kRf))) (.mu 2 (.pk (v := .hp 0 (0 + h.toNat * 1)) (tr (aq C)) (.pk (v := aV (gt ((data.set a.toNat (gt data pivot)).set pivot.toNat (gt data a)) h)) (tr (aD (aC (ay .u64) (ax C) z1 (by omega : 0 + h.toNat * 1 = h.toNat * 1 + 0) kRf))) (.pk (v := .hp 0 (0 + h.toNat * 1)) (tr (aq C)) (.ek (v := .unk) (ws := [(0, .own ((((data.set a.toNat (gt data pivot)).set pivot.toNat (gt data a)).set h.toNat (gt ((data.set a.toNat (gt data pivot)).set pivot.toNat (gt data a)) e)).flatMap (iC .u64)))]) (tr (dB (dw (bn (n := 1) (ay .u64) (ax C) (lbT rfl) (by omega : 0 + h.toNat * 1 = h.toNat * 1 + 0))) (congrArg Blk.own (bE (xs := [aV (gt ((data.set a.toNat (gt data pivot)).set pivot.toNat (gt data a)) e)]) (ay .u64) (ax C) (lbT rfl) (by omega : 0 + h.toNat * 1 = h.toNat * 1 + 0) kRf)))) (.pk (v := .hp 0 (0 + e.toNat * 1)) (tr (aq B)) (.ek (v := .unk) (ws := [(0, .own (((((data.set a.toNat (gt data pivot)).set pivot.toNat (gt data a)).set h.toNat (gt ((data.set a.toNat (gt data pivot)).set pivot.toNat (gt data a)) e)).set e.toNat (gt ((data.set a.toNat (gt data pivot)).set pivot.toNat (gt data a)) h)).flatMap (iC .u64)))]) (tr (y := stO (decide ((0 + e.toNat * 1) + 1 <= ((((data.set a.toNat (gt data pivot)).set pivot.toNat (gt data a)).set h.toNat (gt ((data.set a.toNat (gt data pivot)).set pivot.toNat (gt data a)) e)).flatMap (iC .u64)).length) && true) [(0, .own (setCells ((((data.set a.toNat (gt data pivot)).set pivot.toNat (gt data a)).set h.toNat (gt ((data.set a.toNat (gt data pivot)).set pivot.toNat (gt data a)) e)).flatMap (iC .u64)) (0 + e.toNat * 1) [aV (gt ((data.set a.toNat (gt data pivot)).set pivot.toNat (gt data a)) h)]))]) (dB (dw (bn (ay _) (ax (cq B)) (lbT rfl) (by omega : 0 + e.toNat * 1 = e.toNat * 1 + 0))) (congrArg Blk.own (bE (ay _) (ax (cq B)) (lbT rfl) (by omega : 0 + e.toNat * 1 = e.toNat * 1 + 0) kRf)))) ?_))))))))))
 refine .done (kRa ?_)
 refine .nh [0, 1, 10, 11] [.own (((((data.set a.toNat (gt data pivot)).set pivot.toNat (gt data a)).set h.toNat (gt ((data.set a.toNat (gt data pivot)).set pivot.toNat (gt data a)) e)).set e.toNat (gt ((data.set a.toNat (gt data pivot)).set pivot.toNat (gt data a)) h)).flatMap (iC .u64))] (.seq (.r4 G [0, 1, 11] [(10, ag (Ew (h + 1)))] (.seq (.r4 G [0, 1, 10] [(11, ag (Ew (e - 1)))] (.seq (.block ?_))))))
 replace hr := bd hr; obtain ⟨qf, Z, hr⟩ := hr
 refine .aP (σ := fun z0 => match z0 with | (d, jF, D) => ⟨mkS 168 0 [(0, .hs 0 0 d.length 1), (1, ag a), (10, ag jF), (11, ag D)], [.own (d.flatMap (iC .u64))]⟩) (Q := fun x st' => match (generalizing := false) qf with | (j, i) => x = .exit 4 /\ Wk 1 st' ⟨mkS 168 0 [(0, .hs 0 0 j.length 1), (1, ag a), (11, ag i)], [.own (j.flatMap (iC .u64))]⟩) Z ((Wk.eG 0 (b := 0) (es := 1) (len := ((data.set a.toNat (gt data pivot)).set pivot.toNat (gt data a)).length) ((((data.set a.toNat (gt data pivot)).set pivot.toNat (gt data a)).set h.toNat (gt ((data.set a.toNat (gt data pivot)).set pivot.toNat (gt data a)) e)).set e.toNat (gt ((data.set a.toNat (gt data pivot)).set pivot.toNat (gt data a)) h)).length kRf (Eq.symm (List.length_set.trans (List.length_set.trans rfl)))).trans ((Wk.gc [0, 1, 10, 11] [(0, false)] rfl (pKo (iC .u64) (an _) ((((data.set a.toNat (gt data pivot)).set pivot.toNat (gt data a)).set h.toNat (gt ((data.set a.toNat (gt data pivot)).set pivot.toNat (gt data a)) e)).set e.toNat (gt ((data.set a.toNat (gt data pivot)).set pivot.toNat (gt data a)) h)) trivial)).to)) ?_ ?_
 ·clear hr
  rintro m ⟨d, jF, D⟩ hr
  refine CQ.sh ?_
  refine .block (.seq (.block ?_))
  replace hr := bd hr; obtain ⟨f, l7, hr⟩ := hr
  refine .aP (σ := fun z0 => match z0 with | o => ⟨mkS 168 0 [(0, .hs 0 0 d.length 1), (1, ag a), (10, ag o), (11, ag D)], [.own (d.flatMap (iC .u64))]⟩) (Q := fun x st' => x = .exit 6 /\ Wk 1 st' ⟨mkS 168 0 [(0, .hs 0 0 d.length 1), (1, ag a), (10, ag f), (11, ag D)], [.own (d.flatMap (iC .u64))]⟩) l7 ((Wk.gc [0, 1, 10, 11] [(0, false)] rfl (pKo (iC .u64) (an _) d trivial)).to) ?_ ?_
  ·clear hr
   rintro m o hr
   refine CQ.sh ?_
   refine .seq (.seq ?_)
   rcases bT (decide (o <= D)) with E | E
   ·replace hr := cB E hr
    obtain ⟨l9, l4, hr⟩ := gd2 hr
    obtain ⟨nD, kh, hr⟩ := bd hr
    refine .t1 G (ok0 (bw n (gt d o) (gt d a) nD kh)) (.mu 2 (.pk (v := aB true) (eB E) (.mu 3 (.pk (v := .hp 0 (0 + o.toNat * 1)) (tr (aq l9)) (.pk (v := aV (gt d o)) (tr (aD (aC (ay .u64) (ax l9) z1 (by omega : 0 + o.toNat * 1 = o.toNat * 1 + 0) kRf))) (.mu 2 (.pk (v := .hp 0 (0 + a.toNat * 1)) (tr (aq l4)) (.pk (v := aV (gt d a)) (tr (aD (aC (ay .u64) (ax l4) z1 (by omega : 0 + a.toNat * 1 = a.toNat * 1 + 0) kRf))) (.ca cf0 (.mu 1 ?_))))))))))
    refine .done (kRa ?_)
    refine .nh [0, 1, 10, 11, 112] [.own (d.flatMap (iC .u64))] ?_
    refine .cd hr ?_ ?_ <;> intro sc hr
    ·refine .skip (.block (.ru G (.pop ?_)))
     exact aF (Ew (o + 1)) hr ((Wk.gc [0, 1, 10, 11] [(0, false)] rfl (pKo (iC .u64) (an _) d trivial)).to)
    refine .leave rfl ?_
    obtain rfl := oi hr
    exact ⟨rfl, ((Wk.gc [0, 1, 10, 11] [(0, false)] rfl (pKo (iC .u64) (an _) d trivial)).to)⟩
   replace hr := cC E hr
   refine .ba G aK (.mu 2 (.pk (v := aB false) (eB E) (.mu 11 ?_)))
   refine .done (kRa ?_)
   refine .nh [0, 1, 10, 11, 112] [.own (d.flatMap (iC .u64))] (.cF kRf (.leave rfl ?_))
   obtain rfl := oi hr
   exact ⟨rfl, ((Wk.gc [0, 1, 10, 11] [(0, false)] rfl (pKo (iC .u64) (an _) d trivial)).to)⟩
  rintro x st' O
  clear l7
  obtain ⟨rfl, O⟩ := O
  refine a8 _ rfl (.wk O (.seq (.block ?_)))
  replace hr := bd hr; obtain ⟨g, l6, hr⟩ := hr
  refine .aP (σ := fun z0 => match z0 with | p => ⟨mkS 168 0 [(0, .hs 0 0 d.length 1), (1, ag a), (10, ag f), (11, ag p)], [.own (d.flatMap (iC .u64))]⟩) (Q := fun x st' => x = .exit 8 /\ Wk 1 st' ⟨mkS 168 0 [(0, .hs 0 0 d.length 1), (1, ag a), (10, ag f), (11, ag g)], [.own (d.flatMap (iC .u64))]⟩) l6 ((Wk.gc [0, 1, 10, 11] [(0, false)] rfl (pKo (iC .u64) (an _) d trivial)).to) ?_ ?_
  ·clear hr
   rintro m p hr
   refine CQ.sh ?_
   refine .seq (.seq ?_)
   rcases bT (decide (f <= p)) with F | F
   ·replace hr := cB F hr
    obtain ⟨lY, ov, hr⟩ := gd2 hr
    obtain ⟨oG, jU, hr⟩ := bd hr
    refine .t1 G (ok0 (bw n (gt d p) (gt d a) oG jU)) (.mu 2 (.pk (v := aB true) (eB F) (.mu 3 (.pk (v := .hp 0 (0 + p.toNat * 1)) (tr (aq lY)) (.pk (v := aV (gt d p)) (tr (aD (aC (ay .u64) (ax lY) z1 (by omega : 0 + p.toNat * 1 = p.toNat * 1 + 0) kRf))) (.mu 2 (.pk (v := .hp 0 (0 + a.toNat * 1)) (tr (aq ov)) (.pk (v := aV (gt d a)) (tr (aD (aC (ay .u64) (ax ov) z1 (by omega : 0 + a.toNat * 1 = a.toNat * 1 + 0) kRf))) (.ca cf0 (.mu 2 ?_))))))))))
    refine .done (kRa ?_)
    refine .nh [0, 1, 10, 11, 129] [.own (d.flatMap (iC .u64))] ?_
    refine .cd hr ?_ ?_ <;> intro sA hr
    ·refine .skip (.block (.ru G (.pop ?_)))
     exact aF (Ew (p - 1)) hr ((Wk.gc [0, 1, 10, 11] [(0, false)] rfl (pKo (iC .u64) (an _) d trivial)).to)
    refine .leave rfl ?_
    obtain rfl := oi hr
    exact ⟨rfl, ((Wk.gc [0, 1, 10, 11] [(0, false)] rfl (pKo (iC .u64) (an _) d trivial)).to)⟩
   replace hr := cC F hr
   refine .ba G aK (.mu 2 (.pk (v := aB false) (eB F) (.mu 12 ?_)))
   refine .done (kRa ?_)
   refine .nh [0, 1, 10, 11, 129] [.own (d.flatMap (iC .u64))] (.cF kRf (.leave rfl ?_))
   obtain rfl := oi hr
   exact ⟨rfl, ((Wk.gc [0, 1, 10, 11] [(0, false)] rfl (pKo (iC .u64) (an _) d trivial)).to)⟩
  rintro x st' R
  clear l6
  obtain ⟨rfl, R⟩ := R
  refine a8 _ rfl (.wk R (.seq (.seq (.r4 G [0, 1, 10, 11] [(134, aB (decide (f > g)))] ?_))))
  refine .cd hr ?_ ?_ <;> intro sR hr
  ·refine .leave rfl ?_
   obtain rfl := oi hr
   exact ⟨rfl, ((Wk.gc [0, 1, 11] [(0, false)] rfl (pKo (iC .u64) (an _) d trivial)).to)⟩
  refine .skip (.seq ?_)
  obtain ⟨H, I, hr⟩ := gd2 hr
  refine .ba G aK (.mu 6 (.pk (v := .hp 0 (0 + g.toNat * 1)) (tr (aq H)) (.pk (v := aV (gt d g)) (tr (aD (aC (ay .u64) (ax H) z1 (by omega : 0 + g.toNat * 1 = g.toNat * 1 + 0) kRf))) (.mu 2 (.pk (v := .hp 0 (0 + f.toNat * 1)) (tr (aq I)) (.pk (v := aV (gt d f)) (tr (aD (aC (ay .u64) (ax I) z1 (by omega : 0 + f.toNat * 1 = f.toNat * 1 + 0) kRf))) (.pk (v := .hp 0 (0 + f.toNat * 1)) (tr (aq I)) (.ek (v := .unk) (ws := [(0, .own ((d.set f.toNat (gt d g)).flatMap (iC .u64)))]) (tr (dB (dw (bn (n := 1) (ay .u64) (ax I) (lbT rfl) (by omega : 0 + f.toNat * 1 = f.toNat * 1 + 0))) (congrArg Blk.own (bE (xs := [aV (gt d g)]) (ay .u64) (ax I) (lbT rfl) (by omega : 0 + f.toNat * 1 = f.toNat * 1 + 0) kRf)))) (.pk (v := .hp 0 (0 + g.toNat * 1)) (tr (aq H)) (.ek (v := .unk) (ws := [(0, .own (((d.set f.toNat (gt d g)).set g.toNat (gt d f)).flatMap (iC .u64)))]) (tr (y := stO (decide ((0 + g.toNat * 1) + 1 <= ((d.set f.toNat (gt d g)).flatMap (iC .u64)).length) && true) [(0, .own (setCells ((d.set f.toNat (gt d g)).flatMap (iC .u64)) (0 + g.toNat * 1) [aV (gt d f)]))]) (dB (dw (bn (ay _) (ax (cq H)) (lbT rfl) (by omega : 0 + g.toNat * 1 = g.toNat * 1 + 0))) (congrArg Blk.own (bE (ay _) (ax (cq H)) (lbT rfl) (by omega : 0 + g.toNat * 1 = g.toNat * 1 + 0) kRf)))) ?_))))))))))
  refine .done (kRa ?_)
  refine .nh [0, 1, 10, 11] [.own (((d.set f.toNat (gt d g)).set g.toNat (gt d f)).flatMap (iC .u64))] (.seq (.r4 G [0, 1, 11] [(10, ag (Ew (f + 1)))] (.ru G (.pop ?_))))
  exact aF ((d.set f.toNat (gt d g)).set g.toNat (gt d f), Ew (f + 1), Ew (g - 1)) hr ((Wk.eG 0 (b := 0) (es := 1) (len := d.length) ((d.set f.toNat (gt d g)).set g.toNat (gt d f)).length kRf (Eq.symm (List.length_set.trans (List.length_set.trans rfl)))).trans ((Wk.gc [0, 1, 10, 11] [(0, false)] rfl (pKo (iC .u64) (an _) ((d.set f.toNat (gt d g)).set g.toNat (gt d f)) trivial)).to))
 rcases qf with ⟨j, i⟩
 rintro x st' S
 clear Z
 obtain ⟨rfl, S⟩ := S
 refine a8 _ rfl (.wk S (.seq ?_))
 obtain ⟨J, L, hr⟩ := gd2 hr
 refine .ba G aK (.mu 6 (.pk (v := .hp 0 (0 + a.toNat * 1)) (tr (aq J)) (.pk (v := aV (gt j a)) (tr (aD (aC (ay .u64) (ax J) z1 (by omega : 0 + a.toNat * 1 = a.toNat * 1 + 0) kRf))) (.mu 2 (.pk (v := .hp 0 (0 + i.toNat * 1)) (tr (aq L)) (.pk (v := aV (gt j i)) (tr (aD (aC (ay .u64) (ax L) z1 (by omega : 0 + i.toNat * 1 = i.toNat * 1 + 0) kRf))) (.pk (v := .hp 0 (0 + i.toNat * 1)) (tr (aq L)) (.ek (v := .unk) (ws := [(0, .own ((j.set i.toNat (gt j a)).flatMap (iC .u64)))]) (tr (dB (dw (bn (n := 1) (ay .u64) (ax L) (lbT rfl) (by omega : 0 + i.toNat * 1 = i.toNat * 1 + 0))) (congrArg Blk.own (bE (xs := [aV (gt j a)]) (ay .u64) (ax L) (lbT rfl) (by omega : 0 + i.toNat * 1 = i.toNat * 1 + 0) kRf)))) (.pk (v := .hp 0 (0 + a.toNat * 1)) (tr (aq J)) (.ek (v := .unk) (ws := [(0, .own (((j.set i.toNat (gt j a)).set a.toNat (gt j i)).flatMap (iC .u64)))]) (tr (y := stO (decide ((0 + a.toNat * 1) + 1 <= ((j.set i.toNat (gt j a)).flatMap (iC .u64)).length) && true) [(0, .own (setCells ((j.set i.toNat (gt j a)).flatMap (iC .u64)) (0 + a.toNat * 1) [aV (gt j i)]))]) (dB (dw (bn (ay _) (ax (cq J)) (lbT rfl) (by omega : 0 + a.toNat * 1 = a.toNat * 1 + 0))) (congrArg Blk.own (bE (ay _) (ax (cq J)) (lbT rfl) (by omega : 0 + a.toNat * 1 = a.toNat * 1 + 0) kRf)))) ?_))))))))))
 refine .done (kRa ?_)
 refine .nh [11] [.own (((j.set i.toNat (gt j a)).set a.toNat (gt j i)).flatMap (iC .u64))] (.seq (.r4 G [] [(8, ag i), (9, aB false)] (.ret ?_)))
 obtain rfl := oi hr
 exact b6.ret [ag i, aB false] ((Wk.gc [0, 1] [(0, false)] rfl (pKo (iC .u64) (an _) ((j.set i.toNat (gt j a)).set a.toNat (gt j i)) trivial)).to)

theorem hZ (rc : (List Int) -> Int -> Int -> Int -> Option (List Int)) (hrc : ∀ (data : List Int) (a : Int) (b : Int) (limit : Int) (r : List Int), rc data a b limit = some r -> bx 1 Tryz.prog 61 [.hs 0 0 data.length 1, .at (.int .i64 a), .at (.int .i64 b), .at (.int .i64 limit)] [.own (data.flatMap (iC .u64))] (.tup []) [.own (r.flatMap (iC .u64))]) (n : Nat) (data : List Int) (a : Int) (b : Int) (limit : Int) (r : List Int) (hr : b8 rc n data a b limit = some r) : bx 1 Tryz.prog 61 [.hs 0 0 data.length 1, ag a, ag b, ag limit] [.own (data.flatMap (iC .u64))] (.tup []) [.own (r.flatMap (iC .u64))] := by
 unfold b8 at hr
 refine bx.fH G Tryz.func61 (c := (Tryz.f61.body).getD .skip) rfl (us := []) (s := mkS 134 0 [(0, .hs 0 0 data.length 1), (1, ag a), (2, ag b), (3, ag limit)]) kRf (rs := []) rfl ?_
 unfold Tryz.f61
 simp only [gS]
 refine .seq (.r4 G [0, 1, 2, 3] [(8, aB true)] (.seq (.r4 G [0, 1, 2, 3, 8] [(9, aB true)] (.block ?_))))
 replace hr := bd hr; obtain ⟨r0, V, hr⟩ := hr
 refine .aP (σ := fun z0 => match z0 with | (o, d, e, J, q, t) => ⟨mkS 134 0 [(0, .hs 0 0 o.length 1), (1, ag d), (2, ag e), (3, ag J), (8, aB q), (9, aB t)], [.own (o.flatMap (iC .u64))]⟩) (Q := fun x st' => x = .ret /\ b6 1 Tryz.prog [] [] [.own (r0.flatMap (iC .u64))] .ret st') V ((Wk.gc [0, 1, 2, 3, 8, 9] [(0, false)] rfl (pKo (iC .u64) (an _) data trivial)).to) ?_ ?_
 ·clear hr
  rintro m ⟨o, d, e, J, q, t⟩ hr
  refine CQ.sh ?_
  refine .block (.seq (.r4 G [0, 1, 2, 3, 8, 9] [(10, ag (Ew (e - d)))] (.seq (.seq (.r4 G [0, 1, 2, 3, 8, 9, 10] [(23, aB (decide ((Ew (e - d)) <= 12)))] ?_)))))
  refine .cd hr ?_ ?_ <;> intro wT hr
  ·refine .seq ?_
   obtain ⟨W, qf, hr⟩ := bd hr
   obtain ⟨wI, hr⟩ := gd hr
   refine .g1 G (aT (args := [.hs 0 0 o.length 1, ag d, ag e]) 1 0 [(0, false)] [false] (gg n o d e W qf) (by exact ⟨aA (an _) _, trivial⟩) (by exact ⟨aA (an _) _, trivial⟩) rfl rfl kRf kRf) (.mu 3 (.ca cf0 (.done (.nh [] [.own (W.flatMap (iC .u64))] (.ret ?_)))))
   obtain rfl := oi hr
   exact ⟨rfl, b6.ret [] ((Wk.gc [] [(0, false)] rfl (pKo (iC .u64) (an _) W trivial)).to)⟩
  refine .skip (.seq (.seq (.r4 G [0, 1, 2, 3, 8, 9, 10] [(29, aB ((J : Int) == 0))] ?_)))
  refine .cd hr ?_ ?_ <;> intro wG hr
  ·refine .seq ?_
   obtain ⟨X, rI, hr⟩ := bd hr
   obtain ⟨qM, hr⟩ := gd hr
   refine .g1 G (aT (args := [.hs 0 0 o.length 1, ag d, ag e]) 1 0 [(0, false)] [false] (im n o d e X rI) (by exact ⟨aA (an _) _, trivial⟩) (by exact ⟨aA (an _) _, trivial⟩) rfl rfl kRf kRf) (.mu 3 (.ca cf0 (.done (.nh [] [.own (X.flatMap (iC .u64))] (.ret ?_)))))
   obtain rfl := oi hr
   exact ⟨rfl, b6.ret [] ((Wk.gc [] [(0, false)] rfl (pKo (iC .u64) (an _) X trivial)).to)⟩
  refine .skip (.seq (.seq (.r4 G [0, 1, 2, 3, 8, 9, 10] [(35, aB (!q))] ?_)))
  replace hr := bd hr; obtain ⟨l4, L, hr⟩ := hr
  refine .xt (Q := fun x st' => match (generalizing := false) l4 with | (p, i) => x = .normal /\ Wk 1 st' ⟨mkS 134 0 [(0, .hs 0 0 p.length 1), (1, ag d), (2, ag e), (3, ag i), (8, aB q), (9, aB t), (10, ag (Ew (e - d)))], [.own (p.flatMap (iC .u64))]⟩) ?_ ?_
  ·clear hr
   have hr := L
   clear L
   refine .cd hr ?_ ?_ <;> intro ry hr
   ·refine .seq ?_
    obtain ⟨T, nY, hr⟩ := bd hr
    obtain ⟨kh, hr⟩ := gd hr
    refine .g1 G (aT (args := [.hs 0 0 o.length 1, ag d, ag e]) 1 0 [(0, false)] [false] (gh n o d e T nY) (by exact ⟨aA (an _) _, trivial⟩) (by exact ⟨aA (an _) _, trivial⟩) rfl rfl kRf kRf) (.mu 3 (.ca cf0 (.done (.nh [0, 1, 2, 3, 8, 9, 10] [.own (T.flatMap (iC .u64))] (.ru G ?_)))))
    obtain rfl := oi hr
    exact ⟨rfl, ((Wk.eG 0 (b := 0) (es := 1) (len := o.length) T.length kRf (Eq.symm (dcT kh))).trans ((Wk.gc [0, 1, 2, 3, 8, 9, 10] [(0, false)] rfl (pKo (iC .u64) (an _) T trivial)).to))⟩
   refine .skip ?_
   obtain rfl := oi hr
   exact ⟨rfl, ((Wk.gc [0, 1, 2, 3, 8, 9, 10] [(0, false)] rfl (pKo (iC .u64) (an _) o trivial)).to)⟩
  rcases l4 with ⟨p, i⟩
  rintro x st' M
  clear L
  obtain ⟨rfl, M⟩ := M
  refine .wk M (.seq ?_)
  obtain ⟨Y, jU, hr⟩ := bd hr
  refine .g1 G (dd (args := [.hs 0 0 p.length 1, ag d, ag e]) (l := [0]) rfl (SnL.cons (Sn.hs rfl (.inl rfl) (SnC.pure (aA (an _) _)) (fun h => cZ h)) (Sp (Sp SnL.nil))) (gY n p d e Y jU)) (.mu 3 (.ca cf0 (.mu 5 (.done (.nh [0, 1, 2, 3, 8, 9, 10, 11, 12] [.own (p.flatMap (iC .u64))] (.seq (.seq (.r4 G [0, 1, 2, 3, 8, 9, 10, 11, 12] [(50, aB ((Y.2 : Int) == 2))] ?_))))))))
  replace hr := bd hr; obtain ⟨l6, N, hr⟩ := hr
  refine .xt (Q := fun x st' => match (generalizing := false) l6 with | (k, j, Z) => x = .normal /\ Wk 1 st' ⟨mkS 134 0 [(0, .hs 0 0 k.length 1), (1, ag d), (2, ag e), (3, ag i), (8, aB q), (9, aB t), (10, ag (Ew (e - d))), (11, ag j), (12, ag Z)], [.own (k.flatMap (iC .u64))]⟩) ?_ ?_
  ·clear hr
   have hr := N
   clear N
   refine .cd hr ?_ ?_ <;> intro sb hr
   ·refine .seq ?_
    obtain ⟨U, ny, hr⟩ := bd hr
    obtain ⟨ns, hr⟩ := gd hr
    refine .g1 G (aT (args := [.hs 0 0 p.length 1, ag d, ag e]) 1 0 [(0, false)] [false] (gp n p d e U ny) (by exact ⟨aA (an _) _, trivial⟩) (by exact ⟨aA (an _) _, trivial⟩) rfl rfl kRf kRf) (.mu 3 (.ca cf0 (.done (.nh [0, 1, 2, 3, 8, 9, 10, 11] [.own (U.flatMap (iC .u64))] (.seq (.r4 G [0, 1, 2, 3, 8, 9, 10] [(11, ag (Ew ((Ew (e - 1)) - (Ew (Y.1 - d)))))] (.ru G ?_)))))))
    obtain rfl := oi hr
    exact ⟨rfl, ((Wk.eG 0 (b := 0) (es := 1) (len := p.length) U.length kRf (Eq.symm (dcT ns))).trans ((Wk.gc [0, 1, 2, 3, 8, 9, 10, 11, 12] [(0, false)] rfl (pKo (iC .u64) (an _) U trivial)).to))⟩
   refine .skip ?_
   obtain rfl := oi hr
   exact ⟨rfl, ((Wk.gc [0, 1, 2, 3, 8, 9, 10, 11, 12] [(0, false)] rfl (pKo (iC .u64) (an _) p trivial)).to)⟩
  rcases l6 with ⟨k, j, Z⟩
  rintro x st' O
  clear N
  obtain ⟨rfl, O⟩ := O
  refine .wk O (.seq (.seq ?_))
  replace hr := bd hr; obtain ⟨lY, C, hr⟩ := hr
  refine .Bp (Q := fun x st' => match (generalizing := false) lY with | .inl f => x = .normal /\ Wk 1 st' ⟨mkS 134 0 [(0, .hs 0 0 f.length 1), (1, ag d), (2, ag e), (3, ag i), (8, aB q), (9, aB t), (10, ag (Ew (e - d))), (11, ag j)], [.own (f.flatMap (iC .u64))]⟩ | .inr (r0) => x = .ret /\ b6 1 Tryz.prog [] [] [.own (r0.flatMap (iC .u64))] .ret st') ?_ ?_
  ·clear hr
   have hr := C
   clear C
   rcases bT q with y | y
   ·replace hr := cB y hr
    rcases bT t with z | z
    ·replace hr := cB z hr
     refine .r0 G (.p0 (v := aB true) (eB y) (.mu 1 (.pure (v := aB true) kRf (eB z) (.mu 5 (.done (.nh [0, 1, 2, 3, 8, 9, 10, 11, 68] [.own (k.flatMap (iC .u64))] ?_))))))
     refine .cd hr ?_ ?_ <;> intro wE hr
     ·refine .seq ?_
      obtain ⟨E, nD, hr⟩ := bd hr
      obtain ⟨oG, hr⟩ := gd hr
      refine .g1 G (aT (args := [.hs 0 0 k.length 1, ag d, ag e]) 1 0 [(0, false)] [false] (fl n k d e E nD) (by exact ⟨aA (an _) _, trivial⟩) (by exact ⟨aA (an _) _, trivial⟩) rfl rfl kRf kRf) (.mu 3 (.ca cf0 (.done (.nh [0, 1, 2, 3, 8, 9, 10, 11, 72] [.own (E.1.flatMap (iC .u64))] ?_))))
      refine .cd hr ?_ ?_ <;> intro xa hr
      ·refine .ret ?_
       obtain rfl := oi hr
       exact ⟨rfl, b6.ret [] ((Wk.gc [] [(0, false)] rfl (pKo (iC .u64) (an _) E.1 trivial)).to)⟩
      refine .skip ?_
      obtain rfl := oi hr
      exact ⟨rfl, ((Wk.eG 0 (b := 0) (es := 1) (len := k.length) E.1.length kRf (Eq.symm (dcT oG))).trans ((Wk.gc [0, 1, 2, 3, 8, 9, 10, 11] [(0, false)] rfl (pKo (iC .u64) (an _) E.1 trivial)).to))⟩
     refine .skip ?_
     obtain rfl := oi hr
     exact ⟨rfl, ((Wk.gc [0, 1, 2, 3, 8, 9, 10, 11] [(0, false)] rfl (pKo (iC .u64) (an _) k trivial)).to)⟩
    replace hr := cC z hr
    refine .r0 G (.p0 (v := aB true) (eB y) (.mu 1 (.pure (v := aB false) kRf (eB z) (.mu 5 (.done (.nh [0, 1, 2, 3, 8, 9, 10, 11, 68] [.own (k.flatMap (iC .u64))] (.cF kRf (.skip ?_))))))))
    obtain rfl := oi hr
    exact ⟨rfl, ((Wk.gc [0, 1, 2, 3, 8, 9, 10, 11] [(0, false)] rfl (pKo (iC .u64) (an _) k trivial)).to)⟩
   replace hr := cC y hr
   refine .r0 G (.p0 (v := aB false) (eB y) (.mu 7 (.done (.nh [0, 1, 2, 3, 8, 9, 10, 11, 68] [.own (k.flatMap (iC .u64))] (.cF kRf (.skip ?_))))))
   obtain rfl := oi hr
   exact ⟨rfl, ((Wk.gc [0, 1, 2, 3, 8, 9, 10, 11] [(0, false)] rfl (pKo (iC .u64) (an _) k trivial)).to)⟩
  rcases lY with f | r0
  ·rintro x st' u
   clear C
   obtain ⟨rfl, u⟩ := u
   refine .wk u (.seq (.seq ?_))
   replace hr := bd hr; obtain ⟨ov, D, hr⟩ := hr
   refine .Bp (Q := fun x st' => match (generalizing := false) ov with | .inl (A, R) => x = .exit 1 /\ Wk 1 st' ⟨mkS 134 0 [(0, .hs 0 0 A.length 1), (1, ag R), (2, ag e), (3, ag i), (8, aB q), (9, aB t)], [.own (A.flatMap (iC .u64))]⟩ | .inr (_) => x = .normal /\ Wk 1 st' ⟨mkS 134 0 [(0, .hs 0 0 f.length 1), (1, ag d), (2, ag e), (3, ag i), (10, ag (Ew (e - d))), (11, ag j)], [.own (f.flatMap (iC .u64))]⟩) ?_ ?_
   ·clear hr
    have hr := D
    clear D
    rcases bT (decide (d > 0)) with B | B
    ·replace hr := cB B hr
     obtain ⟨jF, l7, hr⟩ := gd2 hr
     obtain ⟨uf, p9, hr⟩ := bd hr
     refine .t1 G (ok0 (bw n (gt f (Ew (d - 1))) (gt f j) uf p9)) (.mu 1 (.pk (v := aB true) (eB B) (.mu 4 (.pk (v := .hp 0 (0 + (Ew (d - 1)).toNat * 1)) (tr (aq jF)) (.pk (v := aV (gt f (Ew (d - 1)))) (tr (aD (aC (ay .u64) (ax jF) z1 (by omega : 0 + (Ew (d - 1)).toNat * 1 = (Ew (d - 1)).toNat * 1 + 0) kRf))) (.mu 2 (.pk (v := .hp 0 (0 + j.toNat * 1)) (tr (aq l7)) (.pk (v := aV (gt f j)) (tr (aD (aC (ay .u64) (ax l7) z1 (by omega : 0 + j.toNat * 1 = j.toNat * 1 + 0) kRf))) (.ca cf0 (.mu 2 ?_))))))))))
     refine .done (kRa ?_)
     refine .nh [0, 1, 2, 3, 8, 9, 10, 11, 87] [.own (f.flatMap (iC .u64))] ?_
     refine .cd hr ?_ ?_ <;> intro xc hr
     ·refine .seq ?_
      obtain ⟨F, pR, hr⟩ := bd hr
      obtain ⟨pV, hr⟩ := gd hr
      refine .g1 G (aT (args := [.hs 0 0 f.length 1, ag d, ag e, ag j]) 1 0 [(0, false)] [false] (fW n f d e j F pR) (by exact ⟨aA (an _) _, trivial⟩) (by exact ⟨aA (an _) _, trivial⟩) rfl rfl kRf kRf) (.mu 4 (.ca cf0 (.mu 1 (.done (.nh [0, 2, 3, 8, 9, 13] [.own (F.1.flatMap (iC .u64))] (.seq (.r4 G [0, 2, 3, 8, 9] [(1, ag F.2)] (.leave rfl ?_))))))))
      obtain rfl := oi hr
      exact ⟨rfl, ((Wk.eG 0 (b := 0) (es := 1) (len := f.length) F.1.length kRf (Eq.symm (dcT pV))).trans ((Wk.gc [0, 1, 2, 3, 8, 9] [(0, false)] rfl (pKo (iC .u64) (an _) F.1 trivial)).to))⟩
     refine .skip ?_
     obtain rfl := oi hr
     exact ⟨rfl, ((Wk.gc [0, 1, 2, 3, 10, 11] [(0, false)] rfl (pKo (iC .u64) (an _) f trivial)).to)⟩
    replace hr := cC B hr
    refine .ba G aK (.mu 1 (.pk (v := aB false) (eB B) (.mu 13 ?_)))
    refine .done (kRa ?_)
    refine .nh [0, 1, 2, 3, 8, 9, 10, 11, 87] [.own (f.flatMap (iC .u64))] (.cF kRf (.skip ?_))
    obtain rfl := oi hr
    exact ⟨rfl, ((Wk.gc [0, 1, 2, 3, 10, 11] [(0, false)] rfl (pKo (iC .u64) (an _) f trivial)).to)⟩
   rcases ov with ⟨A, R⟩ | ⟨⟩
   ·rintro x st' w
    clear D
    obtain ⟨rfl, w⟩ := w
    refine a8 _ rfl ?_
    exact aF (A, R, e, i, q, t) hr (w.trans ((Wk.gc [0, 1, 2, 3, 8, 9] [(0, false)] rfl (pKo (iC .u64) (an _) A trivial)).to))
   rintro x st' w
   clear D
   obtain ⟨rfl, w⟩ := w
   refine .wk w (.seq ?_)
   obtain ⟨g, sc, hr⟩ := bd hr
   obtain ⟨l9, hr⟩ := gd hr
   refine .g1 G (aT (args := [.hs 0 0 f.length 1, ag d, ag e, ag j]) 1 0 [(0, false)] [false] (gZ n f d e j g sc) (by exact ⟨aA (an _) _, trivial⟩) (by exact ⟨aA (an _) _, trivial⟩) rfl rfl kRf kRf) (.mu 4 (.ca cf0 (.mu 5 (.done (.nh [0, 1, 2, 3, 10, 14, 15] [.own (g.1.flatMap (iC .u64))] (.seq (.r4 G [0, 1, 2, 3, 10, 14] [(9, aB g.2.2)] (.seq (.r4 G [0, 1, 2, 3, 9, 10, 14] [(16, ag (Ew (g.2.1 - d))), (17, ag (Ew (e - g.2.1)))] (.seq (.r4 G [0, 1, 2, 3, 9, 14, 16, 17] [(18, ag (Ew ((Ew (e - d)).tdiv 8)))] (.seq (.r4 G [0, 1, 2, 3, 9, 14, 16, 17, 18] [(113, aB (decide ((Ew (g.2.1 - d)) < (Ew (e - g.2.1)))))] ?_)))))))))))))
   refine .cd hr ?_ ?_ <;> intro w6 hr
   ·refine .seq (.r4 G [0, 1, 2, 3, 9, 14] [(8, aB (decide ((Ew (g.2.1 - d)) >= (Ew ((Ew (e - d)).tdiv 8)))))] (.seq ?_))
    obtain ⟨H, sA, hr⟩ := bd hr
    obtain ⟨sR, hr⟩ := gd hr
    refine .g1 G (aT (args := [.hs 0 0 f.length 1, ag d, ag g.2.1, ag i]) 1 0 [(0, false)] [false] (hrc g.1 d g.2.1 i H sA) (by exact ⟨aA (an _) _, trivial⟩) (by exact ⟨aA (an _) _, trivial⟩) rfl rfl (by rw [(dcT l9)]; kernel_rfl) kRf) <| .mu 4 <| .ca cf0 <| .done <| .nh [0, 2, 3, 8, 9, 14] [.own (H.flatMap (iC .u64))] <| .ru G <| .pop ?_
    exact aF (H, Ew (g.2.1 + 1), e, i, decide ((Ew (g.2.1 - d)) >= (Ew ((Ew (e - d)).tdiv 8))), g.2.2) hr ((Wk.eG 0 (b := 0) (es := 1) (len := f.length) H.length kRf (Eq.symm (dcT sR))).trans ((Wk.gc [0, 1, 2, 3, 8, 9] [(0, false)] rfl (pKo (iC .u64) (an _) H trivial)).to))
   refine .seq (.r4 G [0, 1, 2, 3, 9, 14] [(8, aB (decide ((Ew (e - g.2.1)) >= (Ew ((Ew (e - d)).tdiv 8)))))] (.seq ?_))
   obtain ⟨I, uF, hr⟩ := bd hr
   obtain ⟨uW, hr⟩ := gd hr
   refine .g1 G (aT (args := [.hs 0 0 f.length 1, ag (Ew (g.2.1 + 1)), ag e, ag i]) 1 0 [(0, false)] [false] (hrc g.1 (Ew (g.2.1 + 1)) e i I uF) (by exact ⟨aA (an _) _, trivial⟩) (by exact ⟨aA (an _) _, trivial⟩) rfl rfl (by rw [(dcT l9)]; kernel_rfl) kRf) <| .mu 5 <| .ca cf0 <| .done <| .nh [0, 1, 3, 8, 9, 14] [.own (I.flatMap (iC .u64))] <| .ru G <| .pop ?_
   exact aF (I, d, g.2.1, i, decide ((Ew (e - g.2.1)) >= (Ew ((Ew (e - d)).tdiv 8))), g.2.2) hr ((Wk.eG 0 (b := 0) (es := 1) (len := f.length) I.length kRf (Eq.symm (dcT uW))).trans ((Wk.gc [0, 1, 2, 3, 8, 9] [(0, false)] rfl (pKo (iC .u64) (an _) I trivial)).to))
  rintro x st' u
  clear C
  obtain ⟨rfl, u⟩ := u
  obtain rfl := oi hr
  exact fp _ ⟨rfl, u⟩
 rintro x st' S
 clear V
 obtain ⟨rfl, S⟩ := S
 obtain rfl := oi hr
 exact fp _ S
theorem eK (n : Nat) : ∀ (k : Nat) (data : List Int) (a : Int) (b : Int) (limit : Int) (r : List Int), ch n k data a b limit = some r -> bx 1 Tryz.prog 61 [.hs 0 0 data.length 1, .at (.int .i64 a), .at (.int .i64 b), .at (.int .i64 limit)] [.own (data.flatMap (iC .u64))] (.tup []) [.own (r.flatMap (iC .u64))]
 | 0, _, _, _, _, _, h => by cases h
 | k + 1, data, a, b, limit, r, h => hZ (ch n k) (eK n k) n data a b limit r h
theorem iz (n : Nat) (data : List Int) (a : Int) (b : Int) (limit : Int) (r : List Int) (hr : dK n data a b limit = some r) : bx 1 Tryz.prog 61 [.hs 0 0 data.length 1, ag a, ag b, ag limit] [.own (data.flatMap (iC .u64))] (.tup []) [.own (r.flatMap (iC .u64))] := eK n n data a b limit r hr

theorem iY (n : Nat) (a : List Int) (r : List Int) (hr : cL n a = some r) : bx 1 Tryz.prog 43 [.hs 0 0 a.length 1] [.own (a.flatMap (iC .u64))] (.tup []) [.own (r.flatMap (iC .u64))] := by
 unfold cL at hr
 refine bx.fH G Tryz.func43 (c := (Tryz.f43.body).getD .skip) rfl (us := []) (s := mkS 11 0 [(0, .hs 0 0 a.length 1)]) kRf (rs := []) rfl ?_
 unfold Tryz.f43
 simp only [gS]
 refine .seq (.r4 G [0] [(2, ag (a.length : Int))] ?_)
 obtain ⟨d, e, f, b, hr⟩ := bd2 hr
 obtain ⟨g, hr⟩ := gd hr
 refine .gn G (ca1 (ok0 (kQ n (wFu (a.length : Int)) d e)) (ca3 (aT (args := [.hs 0 0 a.length 1, ag 0, ag (a.length : Int), ag d]) 1 0 [(0, false)] [false] (iz n a 0 (a.length : Int) d f b) (by exact ⟨aA (an _) _, trivial⟩) (by exact ⟨aA (an _) _, trivial⟩) rfl rfl kRf kRf))) (.mu 4 (.ca cf0 (.ca (cfF cf0) (.done ?_))))
 obtain rfl := oi hr
 exact b6.normal [] ((Wk.gc [] [(0, false)] rfl (pKo (iC .u64) (an _) f trivial)).to)

theorem dG (n : Nat) (c : List Int) (r : List Int) (hr : bm n c = some r) : bx 1 Tryz.prog 23 [.fn 44 [] [.hp 0 0]] [.own [slT (iC .u64) c]] (.hs 1 0 r.length 1) [.own [slT (iC .u64) c], .own (r.flatMap (iC .u64))] := by
 unfold bm at hr
 refine bx.fH G Tryz.func23 (c := (Tryz.f23.body).getD .skip) rfl (us := [.hs 1 0 r.length 1]) (s := mkS 9 0 [(0, .fn 44 [] [.hp 0 0])]) kRf (rs := [.tmp 2]) rfl ?_
 unfold Tryz.f23
 simp only [gS]
 refine .seq (.r4 G [0] [] (.seq ?_))
 obtain ⟨a, g, hr⟩ := bd hr
 refine .g1 G (aT (args := [.fn 44 [] [.hp 0 0]]) 1 1 [(0, true)] [true, false] (dC n c a g) trivial (by exact ⟨aA (an _) _, trivial⟩) rfl rfl kRf kRf) (.mu 1 (.ca cf0 (.mu 1 (.done (.nh [3] [.own [slT (iC .u64) c], .own (a.flatMap (iC .u64))] (.seq ?_))))))
 obtain ⟨f, d, hr⟩ := bd hr
 obtain ⟨e, hr⟩ := gd hr
 refine .g1 G (aT (args := [.hs 1 0 a.length 1]) 1 0 [(1, false)] [false] (iY n a f d) (by exact ⟨aA (an _) _, trivial⟩) (by exact ⟨aA (an _) _, trivial⟩) rfl rfl kRf kRf) (.mu 1 (.ca cf0 (.done (.nh [3] [.own [slT (iC .u64) c], .own (f.flatMap (iC .u64))] (.seq (.r3 G 9 [(2, .hs 1 0 a.length 1)] (.ret ?_)))))))
 obtain rfl := oi hr
 exact b6.ret [.hs 1 0 a.length 1] ((Wk.eG 0 (b := 1) (es := 1) (len := a.length) f.length kRf (Eq.symm (dcT e))).trans ((Wk.gc [0] [(0, true), (1, false)] rfl (pKt (pKo (iC .u64) (an _) f trivial))).to))

theorem iB (n : Nat) (s : List Int) (r : List Int) (hr : ct n s = some r) : bx 1 Tryz.prog 25 [.hs 0 0 s.length 1] [.own (s.flatMap (iC .u64))] (.hs 0 0 r.length 1) [.own (r.flatMap (iC .u64))] := by
 unfold ct at hr
 refine bx.fH G Tryz.func25 (c := (Tryz.f25.body).getD .skip) rfl (us := [.hs 0 0 r.length 1]) (s := mkS 61 0 [(0, .hs 0 0 s.length 1)]) kRf (rs := [.tmp 2]) rfl ?_
 unfold Tryz.f25
 simp only [gS]
 refine .seq (.r4 G [0] [] (.seq (.seq (.r4 G [0] [(8, aB (decide ((s.length : Int) < 2)))] ?_))))
 refine .cd hr ?_ ?_ <;> intro O hr
 ·refine .seq (.r3 G 61 [(2, .hs 0 0 s.length 1)] (.ret ?_))
  obtain rfl := oi hr
  exact b6.ret [.hs 0 0 s.length 1] ((Wk.gc [0] [(0, false)] rfl (pKo (iC .u64) (an _) s trivial)).to)
 refine .skip (.seq (.seq (.r4 G [0] [(3, ag 1)] (.block ?_))))
 replace hr := bd hr; obtain ⟨B, j, hr⟩ := hr
 refine .aP (σ := fun I => match I with | e => ⟨mkS 61 0 [(0, .hs 0 0 s.length 1), (3, ag e)], [.own (s.flatMap (iC .u64))]⟩) (Q := fun x st' => match (generalizing := false) B with | .inl _ => x = .exit 0 /\ Wk 1 st' ⟨mkS 61 0 [(0, .hs 0 0 s.length 1)], [.own (s.flatMap (iC .u64))]⟩ | .inr (r0) => x = .ret /\ b6 1 Tryz.prog [.tmp 2] [.hs 0 0 r0.length 1] [.own (r0.flatMap (iC .u64))] .ret st') j ((Wk.gc [0, 3] [(0, false)] rfl (pKo (iC .u64) (an _) s trivial)).to) ?_ ?_
 ·clear hr
  rintro m e hr
  refine CQ.sh ?_
  refine .seq (.seq (.r4 G [0, 3] [(13, aB (decide (e < (s.length : Int))))] ?_))
  refine .cd hr ?_ ?_ <;> intro J hr
  ·refine .skip (.seq (.block (.seq ?_)))
   obtain ⟨o, p, hr⟩ := gd2 hr
   refine .ba G aK (.mu 2 (.pk (v := .hp 0 (0 + e.toNat * 1)) (tr (aq o)) (.pk (v := aV (gt s e)) (tr (aD (aC (ay .u64) (ax o) z1 (by omega : 0 + e.toNat * 1 = e.toNat * 1 + 0) kRf))) (.mu 3 (.pk (v := .hp 0 (0 + (Ew (e - 1)).toNat * 1)) (tr (aq p)) (.pk (v := aV (gt s (Ew (e - 1)))) (tr (aD (aC (ay .u64) (ax p) z1 (by omega : 0 + (Ew (e - 1)).toNat * 1 = (Ew (e - 1)).toNat * 1 + 0) kRf))) (.mu 1 ?_)))))))
   refine .done (kRa ?_)
   refine .nh [0, 3, 25] [.own (s.flatMap (iC .u64))] ?_
   refine .cd hr ?_ ?_ <;> intro L hr
   ·refine .seq ?_
    obtain ⟨D, hr⟩ := gd hr
    refine .r0 G (.mu 2 (.p0 (v := .hs 0 (0 + e.toNat * 1) (s.length - e.toNat) 1) (tr (y := slH (inS e (s.length : Int) s.length) true (e.toNat) ((s.length : Int).toNat) (fun z1 H => .hs 0 (0 + z1 * 1) (H - z1) 1)) (r7 D kRf)) (.mu 1 (.done (.nh [0, 3, 4] [.own (s.flatMap (iC .u64))] (.seq (.seq (.r4 G [0, 3, 4] [(5, ag 1)] (.block ?_)))))))))
    replace hr := bd hr; obtain ⟨C, q, hr⟩ := hr
    refine .aP (σ := fun I => match I with | (g, h, k2_108) => ⟨mkS 61 0 [(0, .hs 0 0 g.length 1), (3, ag h), (4, .hs 0 (0 + e.toNat * 1) (s.length - e.toNat) 1), (5, ag k2_108)], [.own (g.flatMap (iC .u64))]⟩) (Q := fun x st' => match (generalizing := false) C with | (f, d) => x = .exit 2 /\ Wk 1 st' ⟨mkS 61 0 [(0, .hs 0 0 f.length 1), (3, ag d)], [.own (f.flatMap (iC .u64))]⟩) q ((Wk.gc [0, 3, 4, 5] [(0, false)] rfl (pKo (iC .u64) (an _) s trivial)).to) ?_ ?_
    ·clear hr
     rintro m ⟨g, h, k2_108⟩ hr
     refine CQ.sh ?_
     refine .seq (.seq (.r4 G [0, 3, 4, 5] [(32, aB (decide (k2_108 < ((s.length - e.toNat : Nat) : Int))))] ?_))
     refine .cd hr ?_ ?_ <;> intro M hr
     ·refine .skip (.seq (.block (.seq ?_)))
      obtain ⟨t, u, E, hr⟩ := gd3 hr
      obtain ⟨F, hr⟩ := gd hr
      refine .ba G aK (.mu 2 (.pk (v := .hp 0 (0 + e.toNat * 1 + k2_108.toNat * 1)) (tr (aq t)) (.pk (v := aV (gt g ((e.toNat + k2_108.toNat : Nat) : Int))) (tr (aD (aC (ay .u64) (ax u) z1 (by omega : 0 + e.toNat * 1 + k2_108.toNat * 1 = ((e.toNat + k2_108.toNat : Nat) : Int).toNat * 1 + 0) kRf))) (.mu 3 (.pk (v := .hp 0 (0 + e.toNat * 1 + (Ew (k2_108 - 1)).toNat * 1)) (tr (aq E)) (.pk (v := aV (gt g ((e.toNat + (Ew (k2_108 - 1)).toNat : Nat) : Int))) (tr (aD (aC (ay .u64) (ax F) z1 (by omega : 0 + e.toNat * 1 + (Ew (k2_108 - 1)).toNat * 1 = ((e.toNat + (Ew (k2_108 - 1)).toNat : Nat) : Int).toNat * 1 + 0) kRf))) (.mu 1 ?_)))))))
      refine .done (kRa ?_)
      refine .nh [0, 3, 4, 5, 44] [.own (g.flatMap (iC .u64))] ?_
      refine .cd hr ?_ ?_ <;> intro N hr
      ·refine .seq ?_
       obtain ⟨k, hr⟩ := gd hr
       refine .r0 G (.mu 4 (.p0 (v := .hp 0 (0 + e.toNat * 1 + k2_108.toNat * 1)) (tr (aq t)) (.p0 (v := aV (gt g ((e.toNat + k2_108.toNat : Nat) : Int))) (tr (aD (aC (ay .u64) (ax u) z1 (by omega : 0 + e.toNat * 1 + k2_108.toNat * 1 = ((e.toNat + k2_108.toNat : Nat) : Int).toNat * 1 + 0) kRf))) (.p0 (v := .hp 0 (0 + h.toNat * 1)) (tr (aq k)) (.e0 (v := .unk) (ws := [(0, .own ((g.set h.toNat (gt g ((e.toNat + k2_108.toNat : Nat) : Int))).flatMap (iC .u64)))]) (tr (dB (dw (bn (n := 1) (ay .u64) (ax k) (lbT rfl) (by omega : 0 + h.toNat * 1 = h.toNat * 1 + 0))) (congrArg Blk.own (bE (xs := [aV (gt g ((e.toNat + k2_108.toNat : Nat) : Int))]) (ay .u64) (ax k) (lbT rfl) (by omega : 0 + h.toNat * 1 = h.toNat * 1 + 0) kRf)))) (.done (.nh [0, 3, 4, 5] [.own ((g.set h.toNat (gt g ((e.toNat + k2_108.toNat : Nat) : Int))).flatMap (iC .u64))] (.ru G (.pop (.ru G ?_))))))))))
       exact aF (g.set h.toNat (gt g ((e.toNat + k2_108.toNat : Nat) : Int)), Ew (h + 1), Ew (k2_108 + 1)) hr ((Wk.eG 0 (b := 0) (es := 1) (len := g.length) (g.set h.toNat (gt g ((e.toNat + k2_108.toNat : Nat) : Int))).length kRf (Eq.symm (List.length_set.trans rfl))).trans ((Wk.gc [0, 3, 4, 5] [(0, false)] rfl (pKo (iC .u64) (an _) (g.set h.toNat (gt g ((e.toNat + k2_108.toNat : Nat) : Int))) trivial)).to))
      refine .skip (.pop (.ru G ?_))
      exact aF (g, h, Ew (k2_108 + 1)) hr ((Wk.gc [0, 3, 4, 5] [(0, false)] rfl (pKo (iC .u64) (an _) g trivial)).to)
     refine .leave rfl ?_
     obtain rfl := oi hr
     exact ⟨rfl, ((Wk.gc [0, 3] [(0, false)] rfl (pKo (iC .u64) (an _) g trivial)).to)⟩
    rcases C with ⟨f, d⟩
    rintro x st' l
    clear q
    obtain ⟨rfl, l⟩ := l
    refine a8 _ rfl (.wk l (.seq ?_))
    obtain ⟨w, hr⟩ := gd hr
    refine .r0 G (.mu 2 (.p0 (v := .hs 0 (0 + d.toNat * 1) (f.length - d.toNat) 1) (tr (y := slH (inS d (f.length : Int) f.length) true (d.toNat) ((f.length : Int).toNat) (fun z1 H => .hs 0 (0 + z1 * 1) (H - z1) 1)) (r7 w kRf)) (.e0 (v := .at (.tuple #[])) (ws := [(0, .own ((fZ f d.toNat (List.replicate (f.length - d.toNat) ((0 : Int) : Int))).flatMap (iC .u64)))]) (tr (Ck (a := d.toNat) (z := ((0 : Int) : Int)) (ay .u64) rfl (Nat.zero_add _) (yG w))) (.done (.nh [0, 3] [.own ((fZ f d.toNat (List.replicate (f.length - d.toNat) ((0 : Int) : Int))).flatMap (iC .u64))] (.seq ?_))))))
    obtain ⟨A, hr⟩ := gd hr
    refine .r0 G (.mu 2 (.p0 (v := .hs 0 0 d.toNat 1) (tr (y := slH (inS 0 d f.length) true ((0 : Int).toNat) (d.toNat) (fun z1 H => .hs 0 (0 + z1 * 1) (H - z1) 1)) (r7 A kRf)) (.mu 1 (.done (.nh [2] [.own ((fZ f d.toNat (List.replicate (f.length - d.toNat) ((0 : Int) : Int))).flatMap (iC .u64))] (.wk ((Wk.Cu (c := (iC .u64)) (es := 1) 2 0 (ay _) (fZ f d.toNat (List.replicate (f.length - d.toNat) ((0 : Int) : Int))) d.toNat (Nat.le_trans (yA A) (Nat.le_of_eq (Eq.symm ((pe _ _ _).trans rfl)))) kRf kRf).to (c := ⟨mkS 61 0 [(2, .hs 0 0 ((fZ f d.toNat (List.replicate (f.length - d.toNat) ((0 : Int) : Int))).take d.toNat).length 1)], [.own (((fZ f d.toNat (List.replicate (f.length - d.toNat) ((0 : Int) : Int))).take d.toNat).flatMap (iC .u64))]⟩) kRf) (.ret ?_)))))))
    obtain rfl := oi hr
    exact ⟨rfl, b6.ret [.hs 0 0 ((fZ f d.toNat (List.replicate (f.length - d.toNat) ((0 : Int) : Int))).take d.toNat).length 1] ((Wk.gc [0] [(0, false)] rfl (pKo (iC .u64) (an _) ((fZ f d.toNat (List.replicate (f.length - d.toNat) ((0 : Int) : Int))).take d.toNat) trivial)).to)⟩
   refine .skip (.pop (.ru G ?_))
   exact aF (Ew (e + 1)) hr ((Wk.gc [0, 3] [(0, false)] rfl (pKo (iC .u64) (an _) s trivial)).to)
  refine .leave rfl ?_
  obtain rfl := oi hr
  exact ⟨rfl, ((Wk.gc [0] [(0, false)] rfl (pKo (iC .u64) (an _) s trivial)).to)⟩
 rcases B with ⟨⟩ | r0
 ·rintro x st' i
  clear j
  obtain ⟨rfl, i⟩ := i
  refine a8 _ rfl (.wk i (.seq (.r3 G 61 [(2, .hs 0 0 s.length 1)] (.ret ?_))))
  obtain rfl := oi hr
  exact b6.ret [.hs 0 0 s.length 1] ((Wk.gc [0] [(0, false)] rfl (pKo (iC .u64) (an _) s trivial)).to)
 rintro x st' i
 clear j
 obtain ⟨rfl, i⟩ := i
 obtain rfl := oi hr
 exact fp _ i

theorem kH (n : Nat) (l : List Int) (r : Bool) (hr : dE n l = some r) : bo Tryz.prog 8 [slT (iC .u64) l] (aB r) := by
 unfold dE at hr
 refine bo.bd G Tryz.func8 [.tmp 2] ?_
 unfold Tryz.f8
 simp only [gS]
 refine .seq (.r4 G [0] [] (.seq ?_))
 obtain ⟨a, c, b, d, hr⟩ := bd2 hr
 refine .gn G (ca1 (aT (args := [slT (iC .u64) l]) 0 1 [] [true] (iM n l a c) trivial trivial rfl rfl kRf kRf) (ca4 [.own [slT (iC .u64) a]] (aT (args := [.fn 44 [] [.hp 0 0]]) 1 1 [(0, true)] [true, false] (dG n a b d) trivial (by exact ⟨aA (an _) _, trivial⟩) rfl rfl kRf kRf))) (.mu 1 (.ca cf0 (.ca (cfF cf0) (.mu 1 (.done (.nh [0, 3] [.own [slT (iC .u64) a], .own (b.flatMap (iC .u64))] (.seq ?_)))))))
 obtain ⟨f, e, hr⟩ := bd hr
 refine .g1 G (aT (args := [.hs 1 0 b.length 1]) 1 0 [(1, false)] [false] (iB n b f e) (by exact ⟨aA (an _) _, trivial⟩) (by exact ⟨aA (an _) _, trivial⟩) rfl rfl kRf kRf) (.mu 1 (.ca cf0 (.mu 5 (.done (.ret ?_)))))
 obtain rfl := oi hr
 exact aS.r1 [aB (((f.length : Int) : Int) == (l.length : Int))]

theorem gU (n : Nat) (e : ak) (f : Int) (y : Int) (r : Bool) (hr : lO n e f y = some r) : bo Tryz.prog 27 [.agg (ak.c e), ag f, ag y] (aB r) := by
 unfold lO at hr
 refine bo.bd G Tryz.func27 [.tmp 6] ?_
 unfold Tryz.f27
 simp only [gS]
 refine .seq (.r5 G [1, 2] [(3, .hp 0 0)] [.own (ak.c e)] (.seq ?_))
 rcases bT (decide (f >= 0)) with a | a
 ·replace hr := cB a hr
  rcases bT (decide (f < e.Width)) with b | b
  ·replace hr := cB b hr
   rcases bT (decide (y >= 0)) with d | d
   ·replace hr := cB d hr
    refine .r0 G (.mu 1 (.p0 (v := aB true) (eB a) (.mu 4 (.pure (v := aB true) kRf (eB b) (.mu 3 (.pure (v := aB true) kRf (eB d) (.mu 8 (.done (.ret ?_)))))))))
    obtain rfl := oi hr
    exact aS.r1 [aB (decide (y < e.Height))]
   replace hr := cC d hr
   refine .r0 G (.mu 1 (.p0 (v := aB true) (eB a) (.mu 4 (.pure (v := aB true) kRf (eB b) (.mu 3 (.pure (v := aB false) kRf (eB d) (.mu 8 (.done (.ret ?_)))))))))
   obtain rfl := oi hr
   exact aS.r1 [aB false]
  replace hr := cC b hr
  refine .r0 G (.mu 1 (.p0 (v := aB true) (eB a) (.mu 4 (.pure (v := aB false) kRf (eB b) (.mu 12 (.done (.ret ?_)))))))
  obtain rfl := oi hr
  exact aS.r1 [aB false]
 replace hr := cC a hr
 refine .r0 G (.mu 1 (.p0 (v := aB false) (eB a) (.mu 17 (.done (.ret ?_)))))
 obtain rfl := oi hr
 exact aS.r1 [aB false]

theorem pD (n : Nat) (i : Int) (j : Int) (p : Int) (e : Int) (d : Int) (c : List Int) (b : Int) (a : Int) (r : Int) (hr : gQ n i j p e d c b a = some r) : bo Tryz.prog 29 [ag i, ag j, .pp [ag p, ag e, ag d, gj c] 0, .pp [ag b] 0, .pp [ag a] 0] (ag r) := by
 unfold gQ at hr
 refine bo.bd G Tryz.func29 [.tmp 7] ?_
 unfold Tryz.f29
 simp only [gS]
 refine .seq (.r4 G [0, 1, 2, 3, 4] [] (.seq ?_))
 obtain ⟨g, f, hr⟩ := bd hr
 refine .g1 G (ok0 (oB n (ak.mk p e d c) (Ew (b + i)) (Ew (a + j)) g f)) (.mu 7 (.ca cf0 (.mu 1 (.done (.ret ?_)))))
 obtain rfl := oi hr
 exact aS.r1 [ag g]
end Go.L
