
import Derived.Test.YtecdcgfclgmbpaaGreatPlcLP2
import Derived.Test.YtecdcgfclgmbpaaGreatL0Plcs
import Derived.Test.YtecdcgfclgmbpaaGreatChecked
import Derived.KernelRfl
set_option linter.all false
set_option maxRecDepth 100000
set_option maxHeartbeats 4000000
namespace Go.L
open Go Go.Eng Go.Proofs
theorem qP (n : Nat) (polygon : List az) (o : az) (r : Int × Bool) (hr : ml n polygon o = some r) : aN Tryz.prog 60 [slT az.c polygon, .agg (az.c o)] (.tup [ae r.1, aB r.2]) := by
 unfold ml at hr
 refine aN.bd G Tryz.func60 [.tmp 4, .tmp 5] ?_
 unfold Tryz.f60
 simp only [gS]
 refine .seq (.r5 G [0] [(3, .hp 0 0)] [.own (az.c o)] (.seq (.r4 G [0, 3] [(6, ae 0)] (.seq (.seq (.r4 G [0, 3, 6] [(17, slT az.c polygon), (18, ae (polygon.length : Int)), (19, ae 0)] (.block ?_)))))))
 replace hr := bd hr; obtain ⟨o101, hL102, hr⟩ := hr
 refine .aO (σ := fun z0 => match z0 with | (n_1, x_2) => ⟨mkS 105 0 [(0, slT az.c polygon), (3, .hp 0 0), (6, ae n_1), (17, slT az.c polygon), (18, ae (polygon.length : Int)), (19, ae x_2)], [.own (az.c o)]⟩) (Q := fun x st' => match (generalizing := false) o101 with | .inl n_51 => x = .exit 0 /\ Wk 0 st' ⟨mkS 105 0 [(6, ae n_51)], []⟩ | .inr (r0) => x = .ret /\ aJ Tryz.prog [.tmp 4, .tmp 5] (.tup [ae r0.1, aB r0.2]) .ret st') hL102 ((Wk.gc [0, 3, 6, 17, 18, 19] [(0, true)] rfl trivial).to) ?_ ?_
 ·clear hr
  rintro m ⟨n_1, x_2⟩ hr
  show CQ _ _ _ _ _ ⟨_, _⟩
  refine .seq (.r4 G [0, 3, 6, 17, 18, 19] [(20, aB (decide (x_2 < (polygon.length : Int))))] (.seq ?_))
  refine .cd hr ?_ ?_ <;> intro hb54 hr
  ·refine .skip (.seq (.block (.seq ?_)))
   obtain ⟨hg55, hr⟩ := gd hr
   refine .r0 G (.mu 1 (.p0 (v := .pp (polygon.flatMap az.c) (x_2.toNat * 8)) (tr (ar hg55)) (.p0 (v := .agg (az.c (gt polygon x_2))) (tr (y := bI.ofP (eG (decide (8 <= ((polygon.flatMap az.c).drop (x_2.toNat * 8)).length)) (.agg (((polygon.flatMap az.c).drop (x_2.toNat * 8)).take 8)))) (ch az.len (aD hg55) (by decide) (by omega : x_2.toNat * 8 = x_2.toNat * 8 + 0) (by kernel_rfl))) (.mu 3 (.done (.nh [0, 3, 6, 7, 8, 17, 18, 19] [.own (az.c o), .own (az.c (gt polygon x_2))] (.seq ?_)))))))
   obtain ⟨hg56, hg57, hr⟩ := gd2 hr
   refine .r0 G (.mu 5 (.p0 (v := ae ((CT (x_2 + 1)).tmod (polygon.length : Int))) (oM (x := CT (x_2 + 1)) (y := (polygon.length : Int)) (by kernel_rfl) (by kernel_rfl) hg56) (.p0 (v := .pp (polygon.flatMap az.c) (((CT (x_2 + 1)).tmod (polygon.length : Int)).toNat * 8)) (tr (ar hg57)) (.p0 (v := .agg [aB (gt polygon ((CT (x_2 + 1)).tmod (polygon.length : Int))).X.Num.Negative, au (gt polygon ((CT (x_2 + 1)).tmod (polygon.length : Int))).X.Num.Groups, aB (gt polygon ((CT (x_2 + 1)).tmod (polygon.length : Int))).X.Den.Negative, au (gt polygon ((CT (x_2 + 1)).tmod (polygon.length : Int))).X.Den.Groups, aB (gt polygon ((CT (x_2 + 1)).tmod (polygon.length : Int))).Y.Num.Negative, au (gt polygon ((CT (x_2 + 1)).tmod (polygon.length : Int))).Y.Num.Groups, aB (gt polygon ((CT (x_2 + 1)).tmod (polygon.length : Int))).Y.Den.Negative, au (gt polygon ((CT (x_2 + 1)).tmod (polygon.length : Int))).Y.Den.Groups]) (tr (y := bI.ofP (eG (decide (8 <= ((polygon.flatMap az.c).drop (((CT (x_2 + 1)).tmod (polygon.length : Int)).toNat * 8)).length)) (.agg (((polygon.flatMap az.c).drop (((CT (x_2 + 1)).tmod (polygon.length : Int)).toNat * 8)).take 8)))) (ch az.len (aD hg57) (by decide) (by omega : ((CT (x_2 + 1)).tmod (polygon.length : Int)).toNat * 8 = ((CT (x_2 + 1)).tmod (polygon.length : Int)).toNat * 8 + 0) (by kernel_rfl))) (.mu 2 (.done (.nh [0, 3, 6, 8, 9, 17, 18, 19] [.own (az.c o), .own (az.c (gt polygon x_2)), .own [aB (gt polygon ((CT (x_2 + 1)).tmod (polygon.length : Int))).X.Num.Negative, au (gt polygon ((CT (x_2 + 1)).tmod (polygon.length : Int))).X.Num.Groups, aB (gt polygon ((CT (x_2 + 1)).tmod (polygon.length : Int))).X.Den.Negative, au (gt polygon ((CT (x_2 + 1)).tmod (polygon.length : Int))).X.Den.Groups, aB (gt polygon ((CT (x_2 + 1)).tmod (polygon.length : Int))).Y.Num.Negative, au (gt polygon ((CT (x_2 + 1)).tmod (polygon.length : Int))).Y.Num.Groups, aB (gt polygon ((CT (x_2 + 1)).tmod (polygon.length : Int))).Y.Den.Negative, au (gt polygon ((CT (x_2 + 1)).tmod (polygon.length : Int))).Y.Den.Groups]] (.seq ?_))))))))
   obtain ⟨v58, hc59, v60, hc61, hr⟩ := bd2 hr
   refine .tn G (ca1 (ok0 (fm n (gt polygon x_2).X o.X v58 hc59)) (ca3 (ok0 (fm n (gt polygon x_2).Y o.Y v60 hc61)))) (.mu 4 (.ca cf0 (.mu 4 (.ca (cfA (fun h => by rw [sv hc61 hc59 (mm n h)]) cf0) (.mu 4 ?_)))))
   refine .done ⟨by kernel_rfl, ?_⟩
   refine .nh [0, 3, 6, 9, 10, 11, 17, 18, 19] [.own (az.c o), .own (az.c (gt polygon x_2)), .own [aB (gt polygon ((CT (x_2 + 1)).tmod (polygon.length : Int))).X.Num.Negative, au (gt polygon ((CT (x_2 + 1)).tmod (polygon.length : Int))).X.Num.Groups, aB (gt polygon ((CT (x_2 + 1)).tmod (polygon.length : Int))).X.Den.Negative, au (gt polygon ((CT (x_2 + 1)).tmod (polygon.length : Int))).X.Den.Groups, aB (gt polygon ((CT (x_2 + 1)).tmod (polygon.length : Int))).Y.Num.Negative, au (gt polygon ((CT (x_2 + 1)).tmod (polygon.length : Int))).Y.Num.Groups, aB (gt polygon ((CT (x_2 + 1)).tmod (polygon.length : Int))).Y.Den.Negative, au (gt polygon ((CT (x_2 + 1)).tmod (polygon.length : Int))).Y.Den.Groups], .own (ak.c v58), .own (ak.c v60)] (.seq ?_)
   obtain ⟨v62, hc63, v64, hc65, hr⟩ := bd2 hr
   refine .tn G (ca1 (ok0 (fm n (gt polygon ((CT (x_2 + 1)).tmod (polygon.length : Int))).X o.X v62 hc63)) (ca3 (ok0 (fm n (gt polygon ((CT (x_2 + 1)).tmod (polygon.length : Int))).Y o.Y v64 hc65)))) (.mu 4 (.ca cf0 (.mu 4 (.ca (cfA (fun h => by rw [sv hc65 hc63 (mm n h)]) cf0) (.mu 4 ?_)))))
   refine .done ⟨by kernel_rfl, ?_⟩
   refine .nh [0, 3, 6, 10, 11, 12, 13, 17, 18, 19] [.own (az.c o), .own (az.c (gt polygon x_2)), .own [aB (gt polygon ((CT (x_2 + 1)).tmod (polygon.length : Int))).X.Num.Negative, au (gt polygon ((CT (x_2 + 1)).tmod (polygon.length : Int))).X.Num.Groups, aB (gt polygon ((CT (x_2 + 1)).tmod (polygon.length : Int))).X.Den.Negative, au (gt polygon ((CT (x_2 + 1)).tmod (polygon.length : Int))).X.Den.Groups, aB (gt polygon ((CT (x_2 + 1)).tmod (polygon.length : Int))).Y.Num.Negative, au (gt polygon ((CT (x_2 + 1)).tmod (polygon.length : Int))).Y.Num.Groups, aB (gt polygon ((CT (x_2 + 1)).tmod (polygon.length : Int))).Y.Den.Negative, au (gt polygon ((CT (x_2 + 1)).tmod (polygon.length : Int))).Y.Den.Groups], .own (ak.c v58), .own (ak.c v60), .own (ak.c v62), .own (ak.c v64)] (.seq ?_)
   obtain ⟨v66, hc67, v68, hc69, v70, hc71, hr⟩ := bd3 hr
   obtain ⟨v72, hc73, hr⟩ := bd hr
   refine .tn G (ca1 (ok0 (fo n v58 v64 v66 hc67)) (ca1 (ok0 (fo n v60 v62 v68 hc69)) (ca1 (ok0 (fm n v66 v68 v70 hc71)) (ca3 (ok0 (bF n v70 v72 hc73)))))) (.mu 2 (.ca cf0 (.mu 2 (.ca (cfA (fun h => by rw [sv hc69 hc67 (mq n h)]) cf0) (.ca (cfF (cfF cf0)) (.ca (cfF (cfF (cfF cf0))) (.mu 1 ?_)))))))
   refine .done ⟨by kernel_rfl, ?_⟩
   refine .nh [0, 3, 6, 10, 11, 12, 13, 14, 17, 18, 19] [.own (az.c o), .own (az.c (gt polygon x_2)), .own [aB (gt polygon ((CT (x_2 + 1)).tmod (polygon.length : Int))).X.Num.Negative, au (gt polygon ((CT (x_2 + 1)).tmod (polygon.length : Int))).X.Num.Groups, aB (gt polygon ((CT (x_2 + 1)).tmod (polygon.length : Int))).X.Den.Negative, au (gt polygon ((CT (x_2 + 1)).tmod (polygon.length : Int))).X.Den.Groups, aB (gt polygon ((CT (x_2 + 1)).tmod (polygon.length : Int))).Y.Num.Negative, au (gt polygon ((CT (x_2 + 1)).tmod (polygon.length : Int))).Y.Num.Groups, aB (gt polygon ((CT (x_2 + 1)).tmod (polygon.length : Int))).Y.Den.Negative, au (gt polygon ((CT (x_2 + 1)).tmod (polygon.length : Int))).Y.Den.Groups], .own (ak.c v58), .own (ak.c v60), .own (ak.c v62), .own (ak.c v64)] (.seq (.seq ?_))
   replace hr := bd hr; obtain ⟨o84, hL85, hr⟩ := hr
   refine .Cn (Q := fun x st' => match (generalizing := false) o84 with | .inl _ => x = .normal /\ Wk 0 st' ⟨mkS 105 0 [(0, slT az.c polygon), (3, .hp 0 0), (6, ae n_1), (11, .hp 1 0), (13, .hp 2 0), (14, ae v72), (17, slT az.c polygon), (18, ae (polygon.length : Int)), (19, ae x_2)], [.own (az.c o), .own (ak.c v60), .own (ak.c v64)]⟩ | .inr (r0) => x = .ret /\ aJ Tryz.prog [.tmp 4, .tmp 5] (.tup [ae r0.1, aB r0.2]) .ret st') ?_ ?_
   ·clear hr
    have hr := hL85
    clear hL85
    rcases bT ((v72 : Int) == 0) with hb74 | hb74
    ·replace hr := cy hb74 hr
     obtain ⟨v75, hc76, v77, hc78, v79, hc80, hr⟩ := bd3 hr
     obtain ⟨v81, hc82, hr⟩ := bd hr
     refine .tn G (ca1 (ok0 (fo n v58 v62 v75 hc76)) (ca1 (ok0 (fo n v60 v64 v77 hc78)) (ca1 (ok0 (gR n v75 v77 v79 hc80)) (ca3 (ok0 (bF n v79 v81 hc82)))))) (.mu 1 (.pure (v := aB true) (by kernel_rfl) (eB hb74) (by kernel_rfl) (.mu 3 (.ca cf0 (.mu 2 (.ca (cfA (fun h => by rw [sv hc78 hc76 (mq n h)]) cf0) (.ca (cfF (cfF cf0)) (.ca (cfF (cfF (cfF cf0))) (.mu 2 ?_)))))))))
     refine .done ⟨by kernel_rfl, ?_⟩
     refine .nh [0, 3, 6, 11, 13, 14, 17, 18, 19, 72] [.own (az.c o), .own (az.c (gt polygon x_2)), .own [aB (gt polygon ((CT (x_2 + 1)).tmod (polygon.length : Int))).X.Num.Negative, au (gt polygon ((CT (x_2 + 1)).tmod (polygon.length : Int))).X.Num.Groups, aB (gt polygon ((CT (x_2 + 1)).tmod (polygon.length : Int))).X.Den.Negative, au (gt polygon ((CT (x_2 + 1)).tmod (polygon.length : Int))).X.Den.Groups, aB (gt polygon ((CT (x_2 + 1)).tmod (polygon.length : Int))).Y.Num.Negative, au (gt polygon ((CT (x_2 + 1)).tmod (polygon.length : Int))).Y.Num.Groups, aB (gt polygon ((CT (x_2 + 1)).tmod (polygon.length : Int))).Y.Den.Negative, au (gt polygon ((CT (x_2 + 1)).tmod (polygon.length : Int))).Y.Den.Groups], .own (ak.c v58), .own (ak.c v60), .own (ak.c v62), .own (ak.c v64)] ?_
     refine .cd hr ?_ ?_ <;> intro hb83 hr
     ·refine .seq (.ru G (.ret ?_))
      obtain rfl := oi hr
      exact ⟨rfl, aJ.ret (vs := [ae 0, aB true]) (by kernel_rfl) (Sn.tup (Sp (Sp SnL.nil)))⟩
     refine .skip ?_
     obtain rfl := oi hr
     exact ⟨rfl, ((Wk.gc [0, 3, 6, 11, 13, 14, 17, 18, 19] [(0, true), (4, true), (6, true)] rfl trivial).to)⟩
    replace hr := cA hb74 hr
    refine .eK G bW (.mu 1 (.pure (v := aB false) (by kernel_rfl) (eB hb74) (by kernel_rfl) (.mu 11 ?_)))
    refine .done ⟨by kernel_rfl, ?_⟩
    refine .nh [0, 3, 6, 11, 13, 14, 17, 18, 19, 72] [.own (az.c o), .own (az.c (gt polygon x_2)), .own [aB (gt polygon ((CT (x_2 + 1)).tmod (polygon.length : Int))).X.Num.Negative, au (gt polygon ((CT (x_2 + 1)).tmod (polygon.length : Int))).X.Num.Groups, aB (gt polygon ((CT (x_2 + 1)).tmod (polygon.length : Int))).X.Den.Negative, au (gt polygon ((CT (x_2 + 1)).tmod (polygon.length : Int))).X.Den.Groups, aB (gt polygon ((CT (x_2 + 1)).tmod (polygon.length : Int))).Y.Num.Negative, au (gt polygon ((CT (x_2 + 1)).tmod (polygon.length : Int))).Y.Num.Groups, aB (gt polygon ((CT (x_2 + 1)).tmod (polygon.length : Int))).Y.Den.Negative, au (gt polygon ((CT (x_2 + 1)).tmod (polygon.length : Int))).Y.Den.Groups], .own (ak.c v58), .own (ak.c v60), .own (ak.c v62), .own (ak.c v64)] (.cF (by kernel_rfl) (.skip ?_))
    obtain rfl := oi hr
    exact ⟨rfl, ((Wk.gc [0, 3, 6, 11, 13, 14, 17, 18, 19] [(0, true), (4, true), (6, true)] rfl trivial).to)⟩
   rcases o84 with ⟨⟩ | r0
   ·rintro x st' hq86
    clear hL85
    obtain ⟨rfl, hq86⟩ := hq86
    refine .wk hq86 (.seq ?_)
    obtain ⟨v87, hc88, v89, hc90, hr⟩ := bd2 hr
    refine .tn G (ca1 (ok0 (bF n v60 v87 hc88)) (ca3 (ok0 (bF n v64 v89 hc90)))) (.mu 1 (.ca cf0 (.mu 2 (.ca (cfA (fun h => by rw [sv hc90 hc88 (jX n h)]) cf0) (.mu 3 ?_)))))
    refine .done ⟨by kernel_rfl, ?_⟩
    refine .nh [0, 3, 6, 14, 15, 16, 17, 18, 19] [.own (az.c o), .own (ak.c v60), .own (ak.c v64)] (.block (.seq ?_))
    replace hr := bd hr; obtain ⟨x_91, hL95, hr⟩ := hr
    refine .zU (Q := fun x st' => x = .normal /\ Wk 0 st' ⟨mkS 105 0 [(0, slT az.c polygon), (3, .hp 0 0), (6, ae n_1), (14, ae v72), (15, aB (decide (v87 <= 0))), (16, aB (decide (v89 <= 0))), (17, slT az.c polygon), (18, ae (polygon.length : Int)), (19, ae x_2), (79, aB x_91)], [.own (az.c o)]⟩) ?_ ?_
    ·clear hr
     have hr := hL95
     clear hL95
     rcases bT (decide (v87 <= 0)) with hb92 | hb92
     ·replace hr := cy hb92 hr
      rcases bT (!(decide (v89 <= 0))) with hb93 | hb93
      ·replace hr := cy hb93 hr
       refine .r0 G (.p0 (v := aB true) (eB hb92) (.mu 2 (.pure (v := aB true) (by kernel_rfl) (eB hb93) (.mu 6 (.done ?_)))))
       obtain rfl := oi hr
       exact ⟨rfl, ((Wk.gc [0, 3, 6, 14, 15, 16, 17, 18, 19, 79] [(0, true)] rfl trivial).to)⟩
      replace hr := cA hb93 hr
      refine .r0 G (.p0 (v := aB true) (eB hb92) (.mu 2 (.pure (v := aB false) (by kernel_rfl) (eB hb93) (.mu 6 (.done ?_)))))
      obtain rfl := oi hr
      exact ⟨rfl, ((Wk.gc [0, 3, 6, 14, 15, 16, 17, 18, 19, 79] [(0, true)] rfl trivial).to)⟩
     replace hr := cA hb92 hr
     refine .r0 G (.p0 (v := aB false) (eB hb92) (.mu 9 (.done ?_)))
     obtain rfl := oi hr
     exact ⟨rfl, ((Wk.gc [0, 3, 6, 14, 15, 16, 17, 18, 19, 79] [(0, true)] rfl trivial).to)⟩
    rintro x st' hq96
    clear hL95
    obtain ⟨rfl, hq96⟩ := hq96
    refine .wk hq96 ?_
    refine .cd hr ?_ ?_ <;> intro hb97 hr
    ·refine .ru G (.pop (.pop (.ru G ?_)))
     exact aA (CT (n_1 + 1), CT (x_2 + 1)) hr ((Wk.gc [0, 3, 6, 17, 18, 19] [(0, true)] rfl trivial).to)
    refine .seq ?_
    rcases bT (!(decide (v87 <= 0))) with hb98 | hb98
    ·replace hr := cy hb98 hr
     rcases bT (decide (v89 <= 0)) with hb99 | hb99
     ·replace hr := cy hb99 hr
      refine .r0 G (.mu 1 (.p0 (v := aB true) (eB hb98) (.mu 1 (.pure (v := aB true) (by kernel_rfl) (eB hb99) (.mu 6 (.done (.nh [0, 3, 6, 17, 18, 19, 91] [.own (az.c o)] ?_)))))))
      refine .cd hr ?_ ?_ <;> intro hb100 hr
      ·refine .ru G (.pop (.pop (.ru G ?_)))
       exact aA (CT (n_1 - 1), CT (x_2 + 1)) hr ((Wk.gc [0, 3, 6, 17, 18, 19] [(0, true)] rfl trivial).to)
      refine .skip (.pop (.pop (.ru G ?_)))
      exact aA (n_1, CT (x_2 + 1)) hr ((Wk.gc [0, 3, 6, 17, 18, 19] [(0, true)] rfl trivial).to)
     replace hr := cA hb99 hr
     refine .r0 G (.mu 1 (.p0 (v := aB true) (eB hb98) (.mu 1 (.pure (v := aB false) (by kernel_rfl) (eB hb99) (.mu 6 (.done (.nh [0, 3, 6, 17, 18, 19, 91] [.own (az.c o)] (.cF (by kernel_rfl) (.skip (.pop (.pop (.ru G ?_))))))))))))
     exact aA (n_1, CT (x_2 + 1)) hr ((Wk.gc [0, 3, 6, 17, 18, 19] [(0, true)] rfl trivial).to)
    replace hr := cA hb98 hr
    refine .r0 G (.mu 1 (.p0 (v := aB false) (eB hb98) (.mu 8 (.done (.nh [0, 3, 6, 17, 18, 19, 91] [.own (az.c o)] (.cF (by kernel_rfl) (.skip (.pop (.pop (.ru G ?_))))))))))
    exact aA (n_1, CT (x_2 + 1)) hr ((Wk.gc [0, 3, 6, 17, 18, 19] [(0, true)] rfl trivial).to)
   rintro x st' hq86
   clear hL85
   obtain ⟨rfl, hq86⟩ := hq86
   obtain rfl := oi hr
   exact iK _ ⟨rfl, hq86⟩
  refine .leave rfl ?_
  obtain rfl := oi hr
  exact ⟨rfl, ((Wk.gc [6] [] rfl pK0).to)⟩
 rcases o101 with n_51 | r0
 ·rintro x st' hq103
  clear hL102
  obtain ⟨rfl, hq103⟩ := hq103
  refine a9 _ rfl (.wk hq103 (.seq (.ru G (.ret ?_))))
  obtain rfl := oi hr
  exact aJ.ret (vs := [ae n_51, aB false]) (by kernel_rfl) (Sn.tup (Sp (Sp SnL.nil)))
 rintro x st' hq103
 clear hL102
 obtain ⟨rfl, hq103⟩ := hq103
 obtain rfl := oi hr
 exact iK _ hq103

theorem sE (n : Nat) (g : an) (l : ah) (i : Int) (j : Int) (r : Int × Int) (hr : nU n g l i j = some r) : aN Tryz.prog 22 [.agg (an.c g), .agg (ah.c l), ae i, ae j] (.tup [ae r.1, ae r.2]) := by
 unfold nU at hr
 refine aN.bd G Tryz.func22 [.tmp 8, .tmp 9] ?_
 unfold Tryz.f22
 simp only [gS]
 refine .seq (.r5 G [2, 3] [(4, .hp 0 0), (5, .hp 1 0)] [.own (an.c g), .own (ah.c l)] (.seq (.seq ?_)))
 obtain ⟨v1, hc2, hr⟩ := bd hr
 refine .g1 G (ok0 (lJ n g v1 hc2)) (.mu 1 (.ca cf0 (.mu 1 (.done (.nh [2, 3, 4, 5, 10] [.own (an.c g), .own (ah.c l)] (.seq (.r4 G [2, 3, 4, 5, 10] [(18, aB ((v1 : Int) != 0))] ?_)))))))
 refine .cd hr ?_ ?_ <;> intro hb4 hr
 ·refine .seq (.ru G (.ret ?_))
  obtain rfl := oi hr
  exact aJ.ret (vs := [ae 0, ae v1]) (by kernel_rfl) (Sn.tup (Sp (Sp SnL.nil)))
 refine .skip (.seq (.seq ?_))
 replace hr := bd hr; obtain ⟨x_5, hL10, hr⟩ := hr
 refine .zU (Q := fun x st' => x = .normal /\ Wk 0 st' ⟨mkS 79 0 [(2, ae i), (3, ae j), (4, .hp 0 0), (5, .hp 1 0), (37, aB x_5)], [.own (an.c g), .own (ah.c l)]⟩) ?_ ?_
 ·clear hr
  have hr := hL10
  clear hL10
  rcases bT (decide (i < 0)) with hb6 | hb6
  ·replace hr := cy hb6 hr
   refine .r0 G (.mu 1 (.p0 (v := aB true) (eB hb6) (.mu 16 (.done ?_))))
   obtain rfl := oi hr
   exact ⟨rfl, ((Wk.gc [2, 3, 4, 5, 37] [(0, true), (1, true)] rfl trivial).to)⟩
  replace hr := cA hb6 hr
  rcases bT (decide (i >= g.Width)) with hb7 | hb7
  ·replace hr := cy hb7 hr
   refine .r0 G (.mu 1 (.p0 (v := aB false) (eB hb6) (.mu 4 (.pure (v := aB true) (by kernel_rfl) (eB hb7) (.mu 11 (.done ?_))))))
   obtain rfl := oi hr
   exact ⟨rfl, ((Wk.gc [2, 3, 4, 5, 37] [(0, true), (1, true)] rfl trivial).to)⟩
  replace hr := cA hb7 hr
  rcases bT (decide (j < 0)) with hb8 | hb8
  ·replace hr := cy hb8 hr
   refine .r0 G (.mu 1 (.p0 (v := aB false) (eB hb6) (.mu 4 (.pure (v := aB false) (by kernel_rfl) (eB hb7) (.mu 3 (.pure (v := aB true) (by kernel_rfl) (eB hb8) (.mu 7 (.done ?_))))))))
   obtain rfl := oi hr
   exact ⟨rfl, ((Wk.gc [2, 3, 4, 5, 37] [(0, true), (1, true)] rfl trivial).to)⟩
  replace hr := cA hb8 hr
  refine .r0 G (.mu 1 (.p0 (v := aB false) (eB hb6) (.mu 4 (.pure (v := aB false) (by kernel_rfl) (eB hb7) (.mu 3 (.pure (v := aB false) (by kernel_rfl) (eB hb8) (.mu 7 (.done ?_))))))))
  obtain rfl := oi hr
  exact ⟨rfl, ((Wk.gc [2, 3, 4, 5, 37] [(0, true), (1, true)] rfl trivial).to)⟩
 rintro x st' hq11
 clear hL10
 obtain ⟨rfl, hq11⟩ := hq11
 refine .wk hq11 ?_
 refine .cd hr ?_ ?_ <;> intro hb13 hr
 ·refine .seq (.ru G (.ret ?_))
  obtain rfl := oi hr
  exact aJ.ret (vs := [ae 0, ae 2]) (by kernel_rfl) (Sn.tup (Sp (Sp SnL.nil)))
 refine .skip (.seq (.seq (.r4 G [2, 3, 4, 5] [(40, aB (!l.Closed))] ?_)))
 refine .cd hr ?_ ?_ <;> intro hb15 hr
 ·refine .seq (.ru G (.ret ?_))
  obtain rfl := oi hr
  exact aJ.ret (vs := [ae 0, ae 11]) (by kernel_rfl) (Sn.tup (Sp (Sp SnL.nil)))
 refine .skip (.seq ?_)
 obtain ⟨v16, hc17, hr⟩ := bd hr
 refine .g1 G (ok0 (rP n g l v16 hc17)) (.mu 2 (.ca cf0 (.mu 5 (.done (.nh [2, 3, 4, 11, 12] [.own (an.c g), .own (ah.c l)] (.seq (.seq (.r4 G [2, 3, 4, 11, 12] [(48, aB ((v16.2 : Int) != 0))] ?_))))))))
 refine .cd hr ?_ ?_ <;> intro hb19 hr
 ·refine .seq (.ru G (.ret ?_))
  obtain rfl := oi hr
  exact aJ.ret (vs := [ae 0, ae v16.2]) (by kernel_rfl) (Sn.tup (Sp (Sp SnL.nil)))
 refine .skip (.seq ?_)
 obtain ⟨v20, hc21, v22, hc23, v24, hc25, hr⟩ := bd3 hr
 refine .tn G (ca1 (ok0 (dG n (CT (g.X0 + (CT (i * g.Step)))) v20 hc21)) (ca1 (ok0 (dG n (CT (g.Y0 + (CT (j * g.Step)))) v22 hc23)) (ca3 (ok0 (qP n v16.1 (az.mk v20 v22) v24 hc25))))) (.mu 8 (.ca cf0 (.mu 7 (.ca (cfA (fun h => by rw [sv hc23 hc21 (ns n h)]) cf0) (.mu 1 (.ca (cfF (cfF cf0)) (.mu 5 ?_)))))))
 refine .done ⟨by kernel_rfl, ?_⟩
 refine .nh [11, 13, 14] [.own (an.c g), .own (ah.c l)] (.seq (.seq ?_))
 rcases bT v24.2 with hb26 | hb26
 ·replace hr := cy hb26 hr
  refine .r0 G (.p0 (v := aB true) (eB hb26) (.mu 5 (.done (.nh [13, 77] [.own (an.c g), .own (ah.c l)] (.cT (by kernel_rfl) (.seq (.ru G (.ret ?_))))))))
  obtain rfl := oi hr
  exact aJ.ret (vs := [ae 0, ae 13]) (by kernel_rfl) (Sn.tup (Sp (Sp SnL.nil)))
 replace hr := cA hb26 hr
 refine .r0 G (.p0 (v := aB false) (eB hb26) (.mu 5 (.done (.nh [13, 77] [.own (an.c g), .own (ah.c l)] ?_))))
 refine .cd hr ?_ ?_ <;> intro hb27 hr
 ·refine .seq (.ru G (.ret ?_))
  obtain rfl := oi hr
  exact aJ.ret (vs := [ae 0, ae 13]) (by kernel_rfl) (Sn.tup (Sp (Sp SnL.nil)))
 refine .skip (.seq (.ru G (.ret ?_)))
 obtain rfl := oi hr
 exact aJ.ret (vs := [ae v24.1, ae 0]) (by kernel_rfl) (Sn.tup (Sp (Sp SnL.nil)))

theorem ba (n : Nat) (negative : Bool) (l : List Int) (r : ai) (hr : a7 n negative l = some r) : aN Tryz.prog 129 [aB negative, au l] (.agg (ai.c r)) := by
 unfold a7 at hr
 refine aN.bd G Tryz.func129 [.cell 4 40] ?_
 unfold Tryz.f129
 simp only [gS]
 refine .seq (.r5 G [0, 1] [(4, .hp 0 0)] [.own [aB false, nS]] (.seq (.r4 G [0, 1, 4] [(5, ae (l.length : Int))] (.seq (.block ?_)))))
 replace hr := bd hr; obtain ⟨n_5, hL11, hr⟩ := hr
 refine .aO (σ := fun z0 => match z0 with | n_1 => ⟨mkS 31 0 [(0, aB negative), (1, au l), (4, .hp 0 0), (5, ae n_1)], [.own [aB false, nS]]⟩) (Q := fun x st' => x = .exit 0 /\ Wk 0 st' ⟨mkS 31 0 [(0, aB negative), (1, au l), (4, .hp 0 0), (5, ae n_5)], [.own [aB false, nS]]⟩) hL11 ((Wk.gc [0, 1, 4, 5] [(0, true)] rfl trivial).to) ?_ ?_
 ·clear hr
  rintro m n_1 hr
  show CQ _ _ _ _ _ ⟨_, _⟩
  refine .seq (.seq ?_)
  rcases bT (decide (n_1 > 0)) with hb7 | hb7
  ·replace hr := cy hb7 hr
   obtain ⟨hg8, hr⟩ := gd hr
   refine .r0 G (.mu 1 (.p0 (v := aB true) (eB hb7) (.mu 4 (.pure (v := .pp (l.flatMap (iC .u32)) ((CT (n_1 - 1)).toNat * 1)) (by kernel_rfl) (tr (ar hg8)) (.pure (v := bB (gt l (CT (n_1 - 1)))) (by kernel_rfl) (tr (aH (aK (aI .u32) (aD hg8) z1 (by omega : (CT (n_1 - 1)).toNat * 1 = (CT (n_1 - 1)).toNat * 1 + 0) (by kernel_rfl)))) (.mu 2 (.done (.nh [0, 1, 4, 5, 17] [.own [aB false, nS]] ?_))))))))
   refine .cd hr ?_ ?_ <;> intro hb9 hr
   ·refine .skip (.block (.ru G (.pop ?_)))
    exact aA (CT (n_1 - 1)) hr ((Wk.gc [0, 1, 4, 5] [(0, true)] rfl trivial).to)
   refine .leave rfl ?_
   obtain rfl := oi hr
   exact ⟨rfl, ((Wk.gc [0, 1, 4, 5] [(0, true)] rfl trivial).to)⟩
  replace hr := cA hb7 hr
  refine .r0 G (.mu 1 (.p0 (v := aB false) (eB hb7) (.mu 8 (.done (.nh [0, 1, 4, 5, 17] [.own [aB false, nS]] (.cF (by kernel_rfl) (.leave rfl ?_)))))))
  obtain rfl := oi hr
  exact ⟨rfl, ((Wk.gc [0, 1, 4, 5] [(0, true)] rfl trivial).to)⟩
 rintro x st' hq12
 clear hL11
 obtain ⟨rfl, hq12⟩ := hq12
 refine a9 _ rfl (.wk hq12 (.seq ?_))
 rcases bT negative with hb13 | hb13
 ·replace hr := cy hb13 hr
  obtain ⟨hg14, hg15, hg16, hr⟩ := gd3 hr
  refine .r0 G (.p0 (v := aB true) (eB hb13) (.mu 7 (.p0 (v := au ((l.drop (0 : Int).toNat).take (n_5.toNat - (0 : Int).toNat))) (tr (y := slO (inS 0 n_5 l.length) (0 : Int).toNat n_5.toNat (fun z1 z2 => .sl true (((l.flatMap (iC .u32)).drop (z1 * 1)).take ((z2 - z1) * 1)) (z2 - z1))) (vE hg14 (sS (aI _) (pR hg14)))) (.e0 (v := .hs 2 0 ((l.drop (0 : Int).toNat).take (n_5.toNat - (0 : Int).toNat)).length 1) (ws := [(1, .dead), (2, .own (((l.drop (0 : Int).toNat).take (n_5.toNat - (0 : Int).toNat)).flatMap (iC .u32)))]) (tr (y := ya (decide (((((l.drop (0 : Int).toNat).take (n_5.toNat - (0 : Int).toNat)).flatMap (iC .u32))).length = ((l.drop (0 : Int).toNat).take (n_5.toNat - (0 : Int).toNat)).length * 1)) (((l.drop (0 : Int).toNat).take (n_5.toNat - (0 : Int).toNat)).flatMap (iC .u32)) ((l.drop (0 : Int).toNat).take (n_5.toNat - (0 : Int).toNat)).length (fun z1 z2 => n3 (decide (0 + 0 * 1 <= (([] : List Int).flatMap (iC .u32)).length) && decide ((0 + z2) * 4 <= 140737488355328) && decide (0 + z2 <= 4611686018427387904)) (some (.eff (.hs 2 0 (0 + z2) 1) [(1, .dead), (2, .own (((([] : List Int).flatMap (iC .u32)).drop 0).take (0 * 1) ++ z1))])))) (sL (mR (aI _)) rfl (fc (l := ([] : List Int)) (xs := (l.drop (0 : Int).toNat).take (n_5.toNat - (0 : Int).toNat)) (aI _) rfl rfl rfl hg15 hg16))) (.mu 2 (.done (.nh [4] [.own [aB (decide (n_5 > 0)), .hs 2 0 ((l.drop (0 : Int).toNat).take (n_5.toNat - (0 : Int).toNat)).length 1], .dead, .own (((l.drop (0 : Int).toNat).take (n_5.toNat - (0 : Int).toNat)).flatMap (iC .u32))] (.ret ?_))))))))
  obtain rfl := oi hr
  exact aJ.ret (vs := [.agg [aB (decide (n_5 > 0)), .hs 2 0 ((l.drop (0 : Int).toNat).take (n_5.toNat - (0 : Int).toNat)).length 1]]) (by kernel_rfl) (Sn.agg (Sp (SnL.cons (Sn.hs rfl (.inl rfl) (SnC.pure (bc (aF _) _)) (fun h => cP h)) SnL.nil)))
 replace hr := cA hb13 hr
 obtain ⟨hg17, hg18, hg19, hr⟩ := gd3 hr
 refine .r0 G (.p0 (v := aB false) (eB hb13) (.mu 7 (.p0 (v := au ((l.drop (0 : Int).toNat).take (n_5.toNat - (0 : Int).toNat))) (tr (y := slO (inS 0 n_5 l.length) (0 : Int).toNat n_5.toNat (fun z1 z2 => .sl true (((l.flatMap (iC .u32)).drop (z1 * 1)).take ((z2 - z1) * 1)) (z2 - z1))) (vE hg17 (sS (aI _) (pR hg17)))) (.e0 (v := .hs 2 0 ((l.drop (0 : Int).toNat).take (n_5.toNat - (0 : Int).toNat)).length 1) (ws := [(1, .dead), (2, .own (((l.drop (0 : Int).toNat).take (n_5.toNat - (0 : Int).toNat)).flatMap (iC .u32)))]) (tr (y := ya (decide (((((l.drop (0 : Int).toNat).take (n_5.toNat - (0 : Int).toNat)).flatMap (iC .u32))).length = ((l.drop (0 : Int).toNat).take (n_5.toNat - (0 : Int).toNat)).length * 1)) (((l.drop (0 : Int).toNat).take (n_5.toNat - (0 : Int).toNat)).flatMap (iC .u32)) ((l.drop (0 : Int).toNat).take (n_5.toNat - (0 : Int).toNat)).length (fun z1 z2 => n3 (decide (0 + 0 * 1 <= (([] : List Int).flatMap (iC .u32)).length) && decide ((0 + z2) * 4 <= 140737488355328) && decide (0 + z2 <= 4611686018427387904)) (some (.eff (.hs 2 0 (0 + z2) 1) [(1, .dead), (2, .own (((([] : List Int).flatMap (iC .u32)).drop 0).take (0 * 1) ++ z1))])))) (sL (mR (aI _)) rfl (fc (l := ([] : List Int)) (xs := (l.drop (0 : Int).toNat).take (n_5.toNat - (0 : Int).toNat)) (aI _) rfl rfl rfl hg18 hg19))) (.mu 2 (.done (.nh [4] [.own [aB false, .hs 2 0 ((l.drop (0 : Int).toNat).take (n_5.toNat - (0 : Int).toNat)).length 1], .dead, .own (((l.drop (0 : Int).toNat).take (n_5.toNat - (0 : Int).toNat)).flatMap (iC .u32))] (.ret ?_))))))))
 obtain rfl := oi hr
 exact aJ.ret (vs := [.agg [aB false, .hs 2 0 ((l.drop (0 : Int).toNat).take (n_5.toNat - (0 : Int).toNat)).length 1]]) (by kernel_rfl) (Sn.agg (Sp (SnL.cons (Sn.hs rfl (.inl rfl) (SnC.pure (bc (aF _) _)) (fun h => cP h)) SnL.nil)))

theorem mC (n : Nat) (n' : Int) (r : ai) (hr : gv n n' = some r) : aN Tryz.prog 125 [ae n'] (.agg (ai.c r)) := by
 unfold gv at hr
 refine aN.bd G Tryz.func125 [.cell 2 40] ?_
 unfold Tryz.f125
 simp only [gS]
 refine .seq (.r5 G [0] [(2, .hp 0 0)] [.own [aB false, nS]] (.seq (.r4 G [0, 2] [(3, cZ (aa .u64 n'))] (.seq (.seq (.r4 G [0, 2, 3] [(8, aB (decide (n' < 0)))] ?_))))))
 refine .cd hr ?_ ?_ <;> intro hb1 hr
 ·refine .r0 G (.mu 2 (.p0 (v := ae (CT (0 - (CT (n' + 1))))) (tr (y := some (.pure (ae (IntKind.wrap .i64 (0 - (CT (n' + 1))))))) wG) (.mu 3 (.done (.nh [0, 2, 3] [.own [aB false, nS]] (.seq (.r5 G [0, 2, 3] [(4, .hs 1 0 0 1)] [.own [aB false, nS], .own []] (.seq (.block ?_)))))))))
  replace hr := bd hr; obtain ⟨l_7, hL13, hr⟩ := hr
  refine .aO (σ := fun z0 => match z0 with | (u_2, l_3) => ⟨mkS 29 0 [(0, ae n'), (2, .hp 0 0), (3, cZ u_2), (4, .hs 1 0 l_3.length 1)], [.own [aB false, nS], .own (l_3.flatMap (iC .u32))]⟩) (Q := fun x st' => x = .exit 0 /\ Wk 0 st' ⟨mkS 29 0 [(0, ae n'), (2, .hp 0 0), (4, .hs 1 0 l_7.length 1)], [.own [aB false, nS], .own (l_7.flatMap (iC .u32))]⟩) hL13 ((Wk.gc [0, 2, 3, 4] [(0, true), (1, false)] rfl (pKt (pKc trivial))).to) ?_ ?_
  ·clear hr
   rintro m ⟨u_2, l_3⟩ hr
   show CQ _ _ _ _ _ ⟨_, _⟩
   refine .seq (.seq (.r4 G [0, 2, 3, 4] [(16, aB (decide (u_2 > 0)))] ?_))
   refine .cd hr ?_ ?_ <;> intro hb9 hr
   ·refine .skip (.block (.seq ?_))
    obtain ⟨hg10, hg11, hr⟩ := gd2 hr
    refine .r0 G (.mu 5 (.e0 (v := .hs 3 0 (l_3 ++ [aa .u32 (u_2.tmod 1000000000)]).length 1) (ws := [(1, .dead), (3, .own ((l_3 ++ [aa .u32 (u_2.tmod 1000000000)]).flatMap (iC .u32)))]) (tr (fc (new := [bB (aa .u32 (u_2.tmod 1000000000))]) (l := l_3) (xs := [aa .u32 (u_2.tmod 1000000000)]) (aI .u32) rfl rfl (by kernel_rfl) hg10 hg11)) (.mu 1 (.done (.nh [0, 2, 3, 4] [.own [aB false, nS], .dead, .own [bB (aa .u32 (u_2.tmod 1000000000))], .own ((l_3 ++ [aa .u32 (u_2.tmod 1000000000)]).flatMap (iC .u32))] (.ru G (.pop ?_)))))))
    exact aA (aa .u64 (u_2.tdiv 1000000000), l_3 ++ [aa .u32 (u_2.tmod 1000000000)]) hr ((Wk.gc [0, 2, 3, 4] [(0, true), (3, false)] rfl (pKt (pKo (iC .u32) (aF _) (l_3 ++ [aa .u32 (u_2.tmod 1000000000)]) trivial))).to)
   refine .leave rfl ?_
   obtain rfl := oi hr
   exact ⟨rfl, ((Wk.gc [0, 2, 4] [(0, true), (1, false)] rfl (pKt (pKo (iC .u32) (aF _) l_3 trivial))).to)⟩
  rintro x st' hq14
  clear hL13
  obtain ⟨rfl, hq14⟩ := hq14
  refine a9 _ rfl (.wk hq14 (.seq ?_))
  obtain ⟨v15, hc16, hr⟩ := bd hr
  refine .g1 G (cR (args := [aB true, .hs 1 0 l_7.length 1]) (l := [1]) (Sp (SnL.cons (Sn.hs rfl (.inl rfl) (SnC.pure (bc (aF _) _)) (fun h => cP h)) SnL.nil)) (ba n true l_7 v15 hc16)) (.mu 1 (.p0 (v := aB true) (eB hb1) (.mu 1 (.ca cf0 (.mu 1 (.done (.nh [2] [.own (ai.c v15), .fix (l_7.flatMap (iC .u32))] (.ret ?_))))))))
  obtain rfl := oi hr
  exact aJ.r1 [.agg (ai.c v15)]
 refine .skip (.seq (.r5 G [0, 2, 3] [(4, .hs 1 0 0 1)] [.own [aB false, nS], .own []] (.seq (.block ?_))))
 replace hr := bd hr; obtain ⟨l_22, hL28, hr⟩ := hr
 refine .aO (σ := fun z0 => match z0 with | (u_17, l_18) => ⟨mkS 29 0 [(0, ae n'), (2, .hp 0 0), (3, cZ u_17), (4, .hs 1 0 l_18.length 1)], [.own [aB false, nS], .own (l_18.flatMap (iC .u32))]⟩) (Q := fun x st' => x = .exit 0 /\ Wk 0 st' ⟨mkS 29 0 [(0, ae n'), (2, .hp 0 0), (4, .hs 1 0 l_22.length 1)], [.own [aB false, nS], .own (l_22.flatMap (iC .u32))]⟩) hL28 ((Wk.gc [0, 2, 3, 4] [(0, true), (1, false)] rfl (pKt (pKc trivial))).to) ?_ ?_
 ·clear hr
  rintro m ⟨u_17, l_18⟩ hr
  show CQ _ _ _ _ _ ⟨_, _⟩
  refine .seq (.seq (.r4 G [0, 2, 3, 4] [(16, aB (decide (u_17 > 0)))] ?_))
  refine .cd hr ?_ ?_ <;> intro hb24 hr
  ·refine .skip (.block (.seq ?_))
   obtain ⟨hg25, hg26, hr⟩ := gd2 hr
   refine .r0 G (.mu 5 (.e0 (v := .hs 3 0 (l_18 ++ [aa .u32 (u_17.tmod 1000000000)]).length 1) (ws := [(1, .dead), (3, .own ((l_18 ++ [aa .u32 (u_17.tmod 1000000000)]).flatMap (iC .u32)))]) (tr (fc (new := [bB (aa .u32 (u_17.tmod 1000000000))]) (l := l_18) (xs := [aa .u32 (u_17.tmod 1000000000)]) (aI .u32) rfl rfl (by kernel_rfl) hg25 hg26)) (.mu 1 (.done (.nh [0, 2, 3, 4] [.own [aB false, nS], .dead, .own [bB (aa .u32 (u_17.tmod 1000000000))], .own ((l_18 ++ [aa .u32 (u_17.tmod 1000000000)]).flatMap (iC .u32))] (.ru G (.pop ?_)))))))
   exact aA (aa .u64 (u_17.tdiv 1000000000), l_18 ++ [aa .u32 (u_17.tmod 1000000000)]) hr ((Wk.gc [0, 2, 3, 4] [(0, true), (3, false)] rfl (pKt (pKo (iC .u32) (aF _) (l_18 ++ [aa .u32 (u_17.tmod 1000000000)]) trivial))).to)
  refine .leave rfl ?_
  obtain rfl := oi hr
  exact ⟨rfl, ((Wk.gc [0, 2, 4] [(0, true), (1, false)] rfl (pKt (pKo (iC .u32) (aF _) l_18 trivial))).to)⟩
 rintro x st' hq29
 clear hL28
 obtain ⟨rfl, hq29⟩ := hq29
 refine a9 _ rfl (.wk hq29 (.seq ?_))
 obtain ⟨v30, hc31, hr⟩ := bd hr
 refine .g1 G (cR (args := [aB false, .hs 1 0 l_22.length 1]) (l := [1]) (Sp (SnL.cons (Sn.hs rfl (.inl rfl) (SnC.pure (bc (aF _) _)) (fun h => cP h)) SnL.nil)) (ba n false l_22 v30 hc31)) (.mu 1 (.p0 (v := aB false) (eB hb1) (.mu 1 (.ca cf0 (.mu 1 (.done (.nh [2] [.own (ai.c v30), .fix (l_22.flatMap (iC .u32))] (.ret ?_))))))))
 obtain rfl := oi hr
 exact aJ.r1 [.agg (ai.c v30)]

theorem kI (n : Nat) {n' : Int} {n'_ : Int} (h : ([.at (.int .i64 n')] : List AV) = [.at (.int .i64 n'_)]) : b7 n n' = b7 n n'_ := by
 obtain rfl := ei h
 rfl
theorem eY (n : Nat) (n' : Int) (r : ai) (hr : b7 n n' = some r) : aN Tryz.prog 83 [ae n'] (.agg (ai.c r)) := by
 unfold b7 at hr
 refine aN.bd G Tryz.func83 [.cell 2 40] ?_
 unfold Tryz.f83
 simp only [gS]
 refine .seq (.r5 G [0] [(2, .hp 0 0)] [.own [aB false, nS]] (.seq ?_))
 obtain ⟨v1, hc2, hr⟩ := bd hr
 refine .g1 G (ok0 (mC n n' v1 hc2)) (.mu 1 (.ca cf0 (.mu 1 (.done (.nh [2] [.own (ai.c v1)] (.ret ?_))))))
 obtain rfl := oi hr
 exact aJ.r1 [.agg (ai.c v1)]

theorem kX (n : Nat) {x' : ai} {x'_ : ai} (h : ([.agg [.at (.bool x'.Negative), slT (iC .u32) x'.Groups]] : List AV) = [.agg [.at (.bool x'_.Negative), slT (iC .u32) x'_.Groups]]) : ct n x' = ct n x'_ := by
 obtain rfl := e8 h
 rfl
theorem dV (n : Nat) (x' : ai) (r : Bool) (hr : ct n x' = some r) : aN Tryz.prog 112 [.agg (ai.c x')] (aB r) := by
 unfold ct at hr
 refine aN.bd G Tryz.func112 [.tmp 2] ?_
 unfold Tryz.f112
 simp only [gS]
 refine .seq (.r2 G 31 [(1, .hp 0 0)] [.own (ai.c x')] (.seq (.r4 G [1] [(3, ae (x'.Groups.length : Int))] (.seq (.seq (.r4 G [1, 3] [(4, ae 0)] (.block ?_)))))))
 replace hr := bd hr; obtain ⟨o9, hL10, hr⟩ := hr
 refine .aO (σ := fun z0 => match z0 with | i_1 => ⟨mkS 31 0 [(1, .hp 0 0), (3, ae (x'.Groups.length : Int)), (4, ae i_1)], [.own (ai.c x')]⟩) (Q := fun x st' => match (generalizing := false) o9 with | .inl _ => x = .exit 0 /\ Wk 0 st' ⟨mkS 31 0 [(1, .hp 0 0), (3, ae (x'.Groups.length : Int))], [.own (ai.c x')]⟩ | .inr (r0) => x = .ret /\ aJ Tryz.prog [.tmp 2] (aB r0) .ret st') hL10 ((Wk.gc [1, 3, 4] [(0, true)] rfl trivial).to) ?_ ?_
 ·clear hr
  rintro m i_1 hr
  show CQ _ _ _ _ _ ⟨_, _⟩
  refine .seq (.seq (.r4 G [1, 3, 4] [(10, aB (decide (i_1 < (x'.Groups.length : Int))))] ?_))
  refine .cd hr ?_ ?_ <;> intro hb6 hr
  ·refine .skip (.seq (.block (.seq ?_)))
   obtain ⟨hg7, hr⟩ := gd hr
   refine .r0 G (.mu 3 (.p0 (v := .pp (x'.Groups.flatMap (iC .u32)) (i_1.toNat * 1)) (tr (ar hg7)) (.p0 (v := bB (gt x'.Groups i_1)) (tr (aH (aK (aI .u32) (aD hg7) z1 (by omega : i_1.toNat * 1 = i_1.toNat * 1 + 0) (by kernel_rfl)))) (.mu 1 (.done (.nh [1, 3, 4, 18] [.own (ai.c x')] ?_))))))
   refine .cd hr ?_ ?_ <;> intro hb8 hr
   ·refine .seq (.ru G (.ret ?_))
    obtain rfl := oi hr
    exact ⟨rfl, aJ.ret (vs := [aB false]) (by kernel_rfl) (Sn.pure rfl)⟩
   refine .skip (.pop (.ru G ?_))
   exact aA (CT (i_1 + 1)) hr ((Wk.gc [1, 3, 4] [(0, true)] rfl trivial).to)
  refine .leave rfl ?_
  obtain rfl := oi hr
  exact ⟨rfl, ((Wk.gc [1, 3] [(0, true)] rfl trivial).to)⟩
 rcases o9 with ⟨⟩ | r0
 ·rintro x st' hq11
  clear hL10
  obtain ⟨rfl, hq11⟩ := hq11
  refine a9 _ rfl (.wk hq11 (.seq (.seq (.r4 G [1, 3] [(20, aB (((x'.Groups.length : Int) : Int) == 0))] ?_))))
  refine .cd hr ?_ ?_ <;> intro hb12 hr
  ·refine .seq (.ru G (.ret ?_))
   obtain rfl := oi hr
   exact aJ.r1 [aB (!x'.Negative)]
  refine .skip (.seq ?_)
  obtain ⟨hg13, hr⟩ := gd hr
  refine .r0 G (.mu 4 (.p0 (v := .pp (x'.Groups.flatMap (iC .u32)) ((CT ((x'.Groups.length : Int) - 1)).toNat * 1)) (tr (ar hg13)) (.p0 (v := bB (gt x'.Groups (CT ((x'.Groups.length : Int) - 1)))) (tr (aH (aK (aI .u32) (aD hg13) z1 (by omega : (CT ((x'.Groups.length : Int) - 1)).toNat * 1 = (CT ((x'.Groups.length : Int) - 1)).toNat * 1 + 0) (by kernel_rfl)))) (.mu 2 (.done (.ret ?_))))))
  obtain rfl := oi hr
  exact aJ.r1 [aB (((gt x'.Groups (CT ((x'.Groups.length : Int) - 1))) : Int) != 0)]
 rintro x st' hq11
 clear hL10
 obtain ⟨rfl, hq11⟩ := hq11
 obtain rfl := oi hr
 exact iK _ hq11

theorem gh (n : Nat) {x' : ai} {x'_ : ai} (h : ([.agg [.at (.bool x'.Negative), slT (iC .u32) x'.Groups]] : List AV) = [.agg [.at (.bool x'_.Negative), slT (iC .u32) x'_.Groups]]) : bk n x' = bk n x'_ := by
 obtain rfl := e8 h
 rfl
theorem cc (n : Nat) (x' : ai) (r : ai) (hr : bk n x' = some r) : aN Tryz.prog 128 [.agg (ai.c x')] (.agg (ai.c r)) := by
 unfold bk at hr
 refine aN.bd G Tryz.func128 [.cell 2 40] ?_
 unfold Tryz.f128
 simp only [gS]
 refine .seq (.r2 G 14 [(1, .hp 0 0), (2, .hp 1 0)] [.own (ai.c x'), .own [aB false, nS]] (.seq (.seq ?_)))
 obtain ⟨v1, hc2, hr⟩ := bd hr
 refine .g1 G (ok0 (dV n x' v1 hc2)) (.mu 1 (.ca cf0 (.mu 1 (.done (.nh [1, 2, 5] [.own (ai.c x'), .own [aB false, nS]] ?_)))))
 refine .cd hr ?_ ?_ <;> intro hb3 hr
 ·refine .seq (.r4 G [2] [] (.ret ?_))
  obtain rfl := oi hr
  exact aJ.ret (vs := [.agg [aB false, nS]]) (by kernel_rfl) (Sn.agg (Sp (SnL.cons Sn.cX SnL.nil)))
 refine .skip (.seq ?_)
 obtain ⟨hg4, hg5, hr⟩ := gd2 hr
 refine .eK G bW (.mu 5 (.eff (v := .hs 3 0 x'.Groups.length 1) (ws := [(2, .dead), (3, .own (x'.Groups.flatMap (iC .u32)))]) (by kernel_rfl) (tr (y := ya (decide (((x'.Groups.flatMap (iC .u32))).length = x'.Groups.length * 1)) (x'.Groups.flatMap (iC .u32)) x'.Groups.length (fun z1 z2 => n3 (decide (0 + 0 * 1 <= (([] : List Int).flatMap (iC .u32)).length) && decide ((0 + z2) * 4 <= 140737488355328) && decide (0 + z2 <= 4611686018427387904)) (some (.eff (.hs 3 0 (0 + z2) 1) [(2, .dead), (3, .own (((([] : List Int).flatMap (iC .u32)).drop 0).take (0 * 1) ++ z1))])))) (sL (mR (aI _)) rfl (fc (l := ([] : List Int)) (xs := x'.Groups) (aI _) rfl rfl rfl hg4 hg5))) (by kernel_rfl) (.mu 2 ?_)))
 refine .done ⟨by kernel_rfl, ?_⟩
 refine .nh [2] [.own (ai.c x'), .own [aB x'.Negative, .hs 3 0 x'.Groups.length 1], .dead, .own (x'.Groups.flatMap (iC .u32))] (.ret ?_)
 obtain rfl := oi hr
 exact aJ.ret (vs := [.agg [aB x'.Negative, .hs 3 0 x'.Groups.length 1]]) (by kernel_rfl) (Sn.agg (Sp (SnL.cons (Sn.hs rfl (.inl rfl) (SnC.pure (bc (aF _) _)) (fun h => cP h)) SnL.nil)))

theorem fu (n : Nat) (x' : ai) (r : Int) (hr : cn n x' = some r) : aN Tryz.prog 113 [.agg (ai.c x')] (ae r) := by
 unfold cn at hr
 refine aN.bd G Tryz.func113 [.tmp 2] ?_
 unfold Tryz.f113
 simp only [gS]
 refine .seq (.r2 G 11 [(1, .hp 0 0)] [.own (ai.c x')] (.seq ?_))
 obtain ⟨v1, hc2, hr⟩ := bd hr
 refine .g1 G (ok0 (cc n x' v1 hc2)) (.mu 1 (.ca cf0 (.mu 1 (.done (.nh [1] [.own (ai.c v1)] (.seq (.seq (.r4 G [1] [(8, aB (((v1.Groups.length : Int) : Int) == 0))] ?_))))))))
 refine .cd hr ?_ ?_ <;> intro hb3 hr
 ·refine .seq (.ru G (.ret ?_))
  obtain rfl := oi hr
  exact aJ.r1 [ae 0]
 refine .skip (.seq (.seq (.r3 G 11 [(10, aB v1.Negative)] ?_)))
 refine .cd hr ?_ ?_ <;> intro hb4 hr
 ·refine .seq (.ru G (.ret ?_))
  obtain rfl := oi hr
  exact aJ.r1 [ae (-1)]
 refine .skip (.seq (.ru G (.ret ?_)))
 obtain rfl := oi hr
 exact aJ.r1 [ae 1]

theorem kH (n : Nat) (a : List Int) (d : Int) (r : List Int × Int) (hr : fk n a d = some r) : aN Tryz.prog 186 [au a, cZ d] (.tup [au r.1, cZ r.2]) := by
 unfold fk at hr
 refine aN.bd G Tryz.func186 [.tmp 4, .tmp 5] ?_
 unfold Tryz.f186
 simp only [gS]
 refine .seq (.r4 G [0, 1] [] (.seq ?_))
 obtain ⟨hg1, hg2, hg3, hr⟩ := gd3 hr
 refine .r0 G (.mu 2 (.e0 (v := .hs 0 0 (List.replicate (a.length : Int).toNat ((0 : Int) : Int)).length 1) (ws := [(0, .own ((List.replicate (a.length : Int).toNat ((0 : Int) : Int)).flatMap (iC .u32)))]) (tr (l8 (c := (iC .u32)) (z := (0 : Int)) (n := (a.length : Int)) (by_ := 4) rfl hg1 hg2 hg3)) (.mu 1 (.done (.nh [0, 1, 6] [.own ((List.replicate (a.length : Int).toNat ((0 : Int) : Int)).flatMap (iC .u32))] (.seq (.r4 G [0, 1, 6] [(7, cZ 0)] (.seq (.seq (.r4 G [0, 1, 6, 7] [(8, ae (CT ((a.length : Int) - 1)))] (.block ?_)))))))))))
 replace hr := bd hr; obtain ⟨o18, hL19, hr⟩ := hr
 refine .aO (σ := fun z0 => match z0 with | (q_4, r_5, i_6) => ⟨mkS 42 0 [(0, au a), (1, cZ d), (6, .hs 0 0 q_4.length 1), (7, cZ r_5), (8, ae i_6)], [.own (q_4.flatMap (iC .u32))]⟩) (Q := fun x st' => match (generalizing := false) o18 with | (q_11, r_12) => x = .exit 0 /\ Wk 0 st' ⟨mkS 42 0 [(6, .hs 0 0 q_11.length 1), (7, cZ r_12)], [.own (q_11.flatMap (iC .u32))]⟩) hL19 ((Wk.gc [0, 1, 6, 7, 8] [(0, false)] rfl (pKo (iC .u32) (aF _) (List.replicate (a.length : Int).toNat ((0 : Int) : Int)) trivial)).to) ?_ ?_
 ·clear hr
  rintro m ⟨q_4, r_5, i_6⟩ hr
  show CQ _ _ _ _ _ ⟨_, _⟩
  refine .seq (.seq (.r4 G [0, 1, 6, 7, 8] [(17, aB (decide (i_6 >= 0)))] ?_))
  refine .cd hr ?_ ?_ <;> intro hb14 hr
  ·refine .skip (.seq (.block (.seq ?_)))
   obtain ⟨hg15, hr⟩ := gd hr
   refine .r0 G (.mu 4 (.p0 (v := .pp (a.flatMap (iC .u32)) (i_6.toNat * 1)) (tr (ar hg15)) (.p0 (v := bB (gt a i_6)) (tr (aH (aK (aI .u32) (aD hg15) z1 (by omega : i_6.toNat * 1 = i_6.toNat * 1 + 0) (by kernel_rfl)))) (.mu 3 (.done (.nh [0, 1, 6, 8, 9] [.own (q_4.flatMap (iC .u32))] (.seq ?_)))))))
   obtain ⟨hg16, hg17, hr⟩ := gd2 hr
   refine .r0 G (.mu 4 (.p0 (v := cZ (aa .u64 ((aa .u64 ((aa .u64 (r_5 * 1000000000)) + (aa .u64 (gt a i_6)))).tdiv d))) (pd (x := aa .u64 ((aa .u64 (r_5 * 1000000000)) + (aa .u64 (gt a i_6)))) (y := d) (by kernel_rfl) (by kernel_rfl) hg16) (.mu 1 (.p0 (v := .hp 0 (0 + i_6.toNat * 1)) (tr (ar hg17)) (.e0 (v := .unk) (ws := [(0, .own ((q_4.set i_6.toNat (aa .u32 (aa .u64 ((aa .u64 ((aa .u64 (r_5 * 1000000000)) + (aa .u64 (gt a i_6)))).tdiv d)))).flatMap (iC .u32)))]) (tr (iF (iH (cD (n := 1) (aI .u32) (aD hg17) (lbT rfl) (by omega : 0 + i_6.toNat * 1 = i_6.toNat * 1 + 0))) (congrArg Blk.own (c7 (xs := [bB (aa .u32 (aa .u64 ((aa .u64 ((aa .u64 (r_5 * 1000000000)) + (aa .u64 (gt a i_6)))).tdiv d)))]) (aI .u32) (aD hg17) (lbT rfl) (by omega : 0 + i_6.toNat * 1 = i_6.toNat * 1 + 0) (by kernel_rfl))))) (.done (.nh [0, 1, 6, 8, 9] [.own ((q_4.set i_6.toNat (aa .u32 (aa .u64 ((aa .u64 ((aa .u64 (r_5 * 1000000000)) + (aa .u64 (gt a i_6)))).tdiv d)))).flatMap (iC .u32))] (.r0 G (.mu 2 (.p0 (v := cZ ((aa .u64 ((aa .u64 (r_5 * 1000000000)) + (aa .u64 (gt a i_6)))).tmod d)) (oM (x := aa .u64 ((aa .u64 (r_5 * 1000000000)) + (aa .u64 (gt a i_6)))) (y := d) (by kernel_rfl) (by kernel_rfl) hg16) (.mu 1 (.done (.pop (.ru G ?_))))))))))))))
   exact aA (q_4.set i_6.toNat (aa .u32 (aa .u64 ((aa .u64 ((aa .u64 (r_5 * 1000000000)) + (aa .u64 (gt a i_6)))).tdiv d))), (aa .u64 ((aa .u64 (r_5 * 1000000000)) + (aa .u64 (gt a i_6)))).tmod d, CT (i_6 - 1)) hr ((Wk.iJ 6 (b := 0) (es := 1) (len := q_4.length) (q_4.set i_6.toNat (aa .u32 (aa .u64 ((aa .u64 ((aa .u64 (r_5 * 1000000000)) + (aa .u64 (gt a i_6)))).tdiv d)))).length (by kernel_rfl) (Eq.symm (List.length_set.trans rfl))).trans ((Wk.gc [0, 1, 6, 7, 8] [(0, false)] rfl (pKo (iC .u32) (aF _) (q_4.set i_6.toNat (aa .u32 (aa .u64 ((aa .u64 ((aa .u64 (r_5 * 1000000000)) + (aa .u64 (gt a i_6)))).tdiv d)))) trivial)).to))
  refine .leave rfl ?_
  obtain rfl := oi hr
  exact ⟨rfl, ((Wk.gc [6, 7] [(0, false)] rfl (pKo (iC .u32) (aF _) q_4 trivial)).to)⟩
 rcases o18 with ⟨q_11, r_12⟩
 rintro x st' hq20
 clear hL19
 obtain ⟨rfl, hq20⟩ := hq20
 refine a9 _ rfl (.wk hq20 (.seq ?_))
 obtain ⟨v21, hc22, hr⟩ := bd hr
 refine .g1 G (cR (args := [aB false, .hs 0 0 q_11.length 1]) (l := [0]) (Sp (SnL.cons (Sn.hs rfl (.inl rfl) (SnC.pure (bc (aF _) _)) (fun h => cP h)) SnL.nil)) (ba n false q_11 v21 hc22)) (.mu 1 (.ca cf0 (.mu 4 (.done (.ret ?_)))))
 obtain rfl := oi hr
 exact aJ.ret (vs := [au v21.Groups, cZ r_12]) (by kernel_rfl) (Sn.tup (Sp (Sp SnL.nil)))

theorem ju (n : Nat) (a : List Int) (b : List Int) (r : Int) (hr : dk n a b = some r) : aN Tryz.prog 155 [au a, au b] (ae r) := by
 unfold dk at hr
 refine aN.bd G Tryz.func155 [.tmp 4] ?_
 unfold Tryz.f155
 simp only [gS]
 refine .seq (.r4 G [0, 1] [] (.seq (.seq (.r4 G [0, 1] [(10, aB (((a.length : Int) : Int) != (b.length : Int)))] ?_))))
 refine .cd hr ?_ ?_ <;> intro hb1 hr
 ·refine .seq (.seq (.r3 G 41 [(15, aB (decide ((a.length : Int) < (b.length : Int))))] ?_))
  refine .cd hr ?_ ?_ <;> intro hb2 hr
  ·refine .seq (.ru G (.ret ?_))
   obtain rfl := oi hr
   exact aJ.r1 [ae (-1)]
  refine .skip (.seq (.ru G (.ret ?_)))
  obtain rfl := oi hr
  exact aJ.r1 [ae 1]
 refine .skip (.seq (.seq (.r4 G [0, 1] [(5, ae (CT ((a.length : Int) - 1)))] (.block ?_))))
 replace hr := bd hr; obtain ⟨o15, hL16, hr⟩ := hr
 refine .aO (σ := fun z0 => match z0 with | i_3 => ⟨mkS 41 0 [(0, au a), (1, au b), (5, ae i_3)], []⟩) (Q := fun x st' => match (generalizing := false) o15 with | .inl _ => x = .exit 0 /\ Wk 0 st' ⟨mkS 41 0 [], []⟩ | .inr (r0) => x = .ret /\ aJ Tryz.prog [.tmp 4] (ae r0) .ret st') hL16 ((Wk.gc [0, 1, 5] [] rfl pK0).to) ?_ ?_
 ·clear hr
  rintro m i_3 hr
  show CQ _ _ _ _ _ ⟨_, _⟩
  refine .seq (.seq (.r4 G [0, 1, 5] [(20, aB (decide (i_3 >= 0)))] ?_))
  refine .cd hr ?_ ?_ <;> intro hb10 hr
  ·refine .skip (.seq (.block (.seq (.seq ?_))))
   obtain ⟨hg11, hg12, hr⟩ := gd2 hr
   refine .eK G bW (.mu 2 (.pure (v := .pp (a.flatMap (iC .u32)) (i_3.toNat * 1)) (by kernel_rfl) (tr (ar hg11)) (by kernel_rfl) (.pure (v := bB (gt a i_3)) (by kernel_rfl) (tr (aH (aK (aI .u32) (aD hg11) z1 (by omega : i_3.toNat * 1 = i_3.toNat * 1 + 0) (by kernel_rfl)))) (by kernel_rfl) (.mu 2 (.pure (v := .pp (b.flatMap (iC .u32)) (i_3.toNat * 1)) (by kernel_rfl) (tr (ar hg12)) (by kernel_rfl) (.pure (v := bB (gt b i_3)) (by kernel_rfl) (tr (aH (aK (aI .u32) (aD hg12) z1 (by omega : i_3.toNat * 1 = i_3.toNat * 1 + 0) (by kernel_rfl)))) (by kernel_rfl) (.mu 1 ?_)))))))
   refine .done ⟨by kernel_rfl, ?_⟩
   refine .nh [0, 1, 5, 31] [] ?_
   refine .cd hr ?_ ?_ <;> intro hb13 hr
   ·refine .seq (.ru G (.ret ?_))
    obtain rfl := oi hr
    exact ⟨rfl, aJ.ret (vs := [ae (-1)]) (by kernel_rfl) (Sn.pure rfl)⟩
   refine .skip (.seq (.eK G bW (.mu 2 (.pure (v := .pp (a.flatMap (iC .u32)) (i_3.toNat * 1)) (by kernel_rfl) (tr (ar hg11)) (by kernel_rfl) (.pure (v := bB (gt a i_3)) (by kernel_rfl) (tr (aH (aK (aI .u32) (aD hg11) z1 (by omega : i_3.toNat * 1 = i_3.toNat * 1 + 0) (by kernel_rfl)))) (by kernel_rfl) (.mu 2 (.pure (v := .pp (b.flatMap (iC .u32)) (i_3.toNat * 1)) (by kernel_rfl) (tr (ar hg12)) (by kernel_rfl) (.pure (v := bB (gt b i_3)) (by kernel_rfl) (tr (aH (aK (aI .u32) (aD hg12) z1 (by omega : i_3.toNat * 1 = i_3.toNat * 1 + 0) (by kernel_rfl)))) (by kernel_rfl) (.mu 1 ?_)))))))))
   refine .done ⟨by kernel_rfl, ?_⟩
   refine .nh [0, 1, 5, 40] [] ?_
   refine .cd hr ?_ ?_ <;> intro hb14 hr
   ·refine .seq (.ru G (.ret ?_))
    obtain rfl := oi hr
    exact ⟨rfl, aJ.ret (vs := [ae 1]) (by kernel_rfl) (Sn.pure rfl)⟩
   refine .skip (.pop (.ru G ?_))
   exact aA (CT (i_3 - 1)) hr ((Wk.gc [0, 1, 5] [] rfl pK0).to)
  refine .leave rfl ?_
  obtain rfl := oi hr
  exact ⟨rfl, ((Wk.gc [] [] rfl pK0).to)⟩
 rcases o15 with ⟨⟩ | r0
 ·rintro x st' hq17
  clear hL16
  obtain ⟨rfl, hq17⟩ := hq17
  refine a9 _ rfl (.wk hq17 (.seq (.ru G (.ret ?_))))
  obtain rfl := oi hr
  exact aJ.r1 [ae 0]
 rintro x st' hq17
 clear hL16
 obtain ⟨rfl, hq17⟩ := hq17
 obtain rfl := oi hr
 exact iK _ hq17

theorem nR {a : List Int} {d : Int} {a_ : List Int} {d_ : Int} (h : ([slT (iC .u32) a, .at (.int .u64 d)] : List AV) = [slT (iC .u32) a_, .at (.int .u64 d_)]) : a = a_ /\ d = d_ := by
 simp only [List.cons.injEq, AV.agg.injEq, AV.at.injEq, Value.int.injEq, Value.bool.injEq, AV.fn.injEq, AV.pp.injEq, true_and, and_true, eU] at h
 simp_all
theorem ou (n : Nat) {a : List Int} {d : Int} {a_ : List Int} {d_ : Int} (h : ([slT (iC .u32) a, .at (.int .u64 d)] : List AV) = [slT (iC .u32) a_, .at (.int .u64 d_)]) : cz n a d = cz n a_ d_ := by
 obtain ⟨rfl, rfl⟩ := nR h
 rfl
theorem iM (n : Nat) (a : List Int) (d : Int) (r : List Int) (hr : cz n a d = some r) : aN Tryz.prog 187 [au a, cZ d] (au r) := by
 unfold cz at hr
 refine aN.bd G Tryz.func187 [.tmp 4] ?_
 unfold Tryz.f187
 simp only [gS]
 refine .seq (.r4 G [0, 1] [] (.seq (.r5 G [0, 1] [(5, .hs 0 0 0 1)] [.own []] (.seq (.r4 G [0, 1, 5] [(6, cZ 0)] (.seq (.seq (.r4 G [0, 1, 5, 6] [(7, ae 0)] (.block ?_)))))))))
 replace hr := bd hr; obtain ⟨o15, hL16, hr⟩ := hr
 refine .aO (σ := fun z0 => match z0 with | (o_1, c_2, i_3) => ⟨mkS 40 0 [(0, au a), (1, cZ d), (5, .hs 0 0 o_1.length 1), (6, cZ c_2), (7, ae i_3)], [.own (o_1.flatMap (iC .u32))]⟩) (Q := fun x st' => match (generalizing := false) o15 with | (o_8, c_9) => x = .exit 0 /\ Wk 0 st' ⟨mkS 40 0 [(5, .hs 0 0 o_8.length 1), (6, cZ c_9)], [.own (o_8.flatMap (iC .u32))]⟩) hL16 ((Wk.gc [0, 1, 5, 6, 7] [(0, false)] rfl (pKc trivial)).to) ?_ ?_
 ·clear hr
  rintro m ⟨o_1, c_2, i_3⟩ hr
  show CQ _ _ _ _ _ ⟨_, _⟩
  refine .seq (.seq (.r4 G [0, 1, 5, 6, 7] [(13, aB (decide (i_3 < (a.length : Int))))] ?_))
  refine .cd hr ?_ ?_ <;> intro hb11 hr
  ·refine .skip (.seq (.block (.seq ?_)))
   obtain ⟨hg12, hr⟩ := gd hr
   refine .r0 G (.mu 2 (.p0 (v := .pp (a.flatMap (iC .u32)) (i_3.toNat * 1)) (tr (ar hg12)) (.p0 (v := bB (gt a i_3)) (tr (aH (aK (aI .u32) (aD hg12) z1 (by omega : i_3.toNat * 1 = i_3.toNat * 1 + 0) (by kernel_rfl)))) (.mu 6 (.done (.nh [0, 1, 5, 7, 8] [.own (o_1.flatMap (iC .u32))] (.seq ?_)))))))
   obtain ⟨hg13, hg14, hr⟩ := gd2 hr
   refine .r0 G (.mu 5 (.e0 (v := .hs 2 0 (o_1 ++ [aa .u32 ((aa .u64 ((aa .u64 ((aa .u64 (gt a i_3)) * d)) + c_2)).tmod 1000000000)]).length 1) (ws := [(0, .dead), (2, .own ((o_1 ++ [aa .u32 ((aa .u64 ((aa .u64 ((aa .u64 (gt a i_3)) * d)) + c_2)).tmod 1000000000)]).flatMap (iC .u32)))]) (tr (fc (new := [bB (aa .u32 ((aa .u64 ((aa .u64 ((aa .u64 (gt a i_3)) * d)) + c_2)).tmod 1000000000))]) (l := o_1) (xs := [aa .u32 ((aa .u64 ((aa .u64 ((aa .u64 (gt a i_3)) * d)) + c_2)).tmod 1000000000)]) (aI .u32) rfl rfl (by kernel_rfl) hg13 hg14)) (.mu 1 (.done (.nh [0, 1, 5, 7, 8] [.dead, .own [bB (aa .u32 ((aa .u64 ((aa .u64 ((aa .u64 (gt a i_3)) * d)) + c_2)).tmod 1000000000))], .own ((o_1 ++ [aa .u32 ((aa .u64 ((aa .u64 ((aa .u64 (gt a i_3)) * d)) + c_2)).tmod 1000000000)]).flatMap (iC .u32))] (.ru G (.pop (.ru G ?_))))))))
   exact aA (o_1 ++ [aa .u32 ((aa .u64 ((aa .u64 ((aa .u64 (gt a i_3)) * d)) + c_2)).tmod 1000000000)], aa .u64 ((aa .u64 ((aa .u64 ((aa .u64 (gt a i_3)) * d)) + c_2)).tdiv 1000000000), CT (i_3 + 1)) hr ((Wk.gc [0, 1, 5, 6, 7] [(2, false)] rfl (pKo (iC .u32) (aF _) (o_1 ++ [aa .u32 ((aa .u64 ((aa .u64 ((aa .u64 (gt a i_3)) * d)) + c_2)).tmod 1000000000)]) trivial)).to)
  refine .leave rfl ?_
  obtain rfl := oi hr
  exact ⟨rfl, ((Wk.gc [5, 6] [(0, false)] rfl (pKo (iC .u32) (aF _) o_1 trivial)).to)⟩
 rcases o15 with ⟨o_8, c_9⟩
 rintro x st' hq17
 clear hL16
 obtain ⟨rfl, hq17⟩ := hq17
 refine a9 _ rfl (.wk hq17 (.seq ?_))
 obtain ⟨hg18, hg19, hr⟩ := gd2 hr
 obtain ⟨v20, hc21, hr⟩ := bd hr
 refine .gn G (ca4 [.dead, .own [bB (aa .u32 c_9)], .own ((o_8 ++ [aa .u32 c_9]).flatMap (iC .u32))] (cR (args := [aB false, .hs 2 0 (o_8 ++ [aa .u32 c_9]).length 1]) (l := [2]) (Sp (SnL.cons (Sn.hs rfl (.inl rfl) (SnC.pure (bc (aF _) _)) (fun h => cP h)) SnL.nil)) (ba n false (o_8 ++ [aa .u32 c_9]) v20 hc21))) (.mu 4 (.e0 (v := .hs 2 0 (o_8 ++ [aa .u32 c_9]).length 1) (ws := [(0, .dead), (2, .own ((o_8 ++ [aa .u32 c_9]).flatMap (iC .u32)))]) (tr (fc (new := [bB (aa .u32 c_9)]) (l := o_8) (xs := [aa .u32 c_9]) (aI .u32) rfl rfl (by kernel_rfl) hg18 hg19)) (.ca cf0 (.mu 2 (.done (.ret ?_))))))
 obtain rfl := oi hr
 exact aJ.r1 [au v20.Groups]

theorem nO (n : Nat) (a : List Int) (d : Int) (r : List Int) (hr : eA n a d = some r) : aN Tryz.prog 188 [au a, bB d] (au r) := by
 unfold eA at hr
 refine aN.bd G Tryz.func188 [.tmp 4] ?_
 unfold Tryz.f188
 simp only [gS]
 refine .seq (.r4 G [0, 1] [] (.seq ?_))
 obtain ⟨hg1, hg2, hr⟩ := gd2 hr
 obtain ⟨v3, hc4, hr⟩ := bd hr
 refine .gn G (ca4 [.dead, .own (([d] ++ a).flatMap (iC .u32))] (cR (args := [aB false, .hs 1 0 ([d] ++ a).length 1]) (l := [1]) (Sp (SnL.cons (Sn.hs rfl (.inl rfl) (SnC.pure (bc (aF _) _)) (fun h => cP h)) SnL.nil)) (ba n false ([d] ++ a) v3 hc4))) (.mu 3 (.e0 (v := .hs 1 0 ([d] ++ a).length 1) (ws := [(0, .dead), (1, .own (([d] ++ a).flatMap (iC .u32)))]) (tr (y := ya (decide (((a.flatMap (iC .u32))).length = a.length * 1)) (a.flatMap (iC .u32)) a.length (fun z1 z2 => n3 (decide (0 + 1 * 1 <= ([d].flatMap (iC .u32)).length) && decide ((1 + z2) * 4 <= 140737488355328) && decide (1 + z2 <= 4611686018427387904)) (some (.eff (.hs 1 0 (1 + z2) 1) [(0, .dead), (1, .own ((([d].flatMap (iC .u32)).drop 0).take (1 * 1) ++ z1))])))) (sL (mR (aI _)) rfl (fc (l := [d]) (xs := a) (aI _) rfl rfl rfl hg1 hg2))) (.ca cf0 (.mu 2 (.done (.ret ?_))))))
 obtain rfl := oi hr
 exact aJ.r1 [au v3.Groups]

theorem ff (n : Nat) {l : List Int} {i : Int} {l_ : List Int} {i_ : Int} (h : ([slT (iC .u32) l, .at (.int .i64 i)] : List AV) = [slT (iC .u32) l_, .at (.int .i64 i_)]) : bb n l i = bb n l_ i_ := by
 obtain ⟨rfl, rfl⟩ := pJ h
 rfl
theorem cf (n : Nat) (l : List Int) (i : Int) (r : Int) (hr : bb n l i = some r) : aN Tryz.prog 189 [au l, ae i] (cZ r) := by
 unfold bb at hr
 refine aN.bd G Tryz.func189 [.tmp 4] ?_
 unfold Tryz.f189
 simp only [gS]
 refine .seq (.r4 G [0, 1] [] (.seq (.seq (.r4 G [0, 1] [(8, aB (decide (i < (l.length : Int))))] ?_))))
 refine .cd hr ?_ ?_ <;> intro hb1 hr
 ·refine .seq ?_
  obtain ⟨hg2, hr⟩ := gd hr
  refine .r0 G (.mu 2 (.p0 (v := .pp (l.flatMap (iC .u32)) (i.toNat * 1)) (tr (ar hg2)) (.p0 (v := bB (gt l i)) (tr (aH (aK (aI .u32) (aD hg2) z1 (by omega : i.toNat * 1 = i.toNat * 1 + 0) (by kernel_rfl)))) (.mu 2 (.done (.ret ?_))))))
  obtain rfl := oi hr
  exact aJ.r1 [cZ (aa .u64 (gt l i))]
 refine .skip (.seq (.ru G (.ret ?_)))
 obtain rfl := oi hr
 exact aJ.r1 [cZ 0]

theorem gg (n : Nat) (a : List Int) (b : List Int) (r : List Int) (hr : cw n a b = some r) : aN Tryz.prog 156 [au a, au b] (au r) := by
 unfold cw at hr
 refine aN.bd G Tryz.func156 [.tmp 4] ?_
 unfold Tryz.f156
 simp only [gS]
 refine .seq (.r4 G [0, 1] [] (.seq (.r5 G [0, 1] [(5, .hs 0 0 0 1)] [.own []] (.seq (.r4 G [0, 1, 5] [(6, cZ 0)] (.seq (.seq (.r4 G [0, 1, 5, 6] [(7, ae 0)] (.block ?_)))))))))
 replace hr := bd hr; obtain ⟨o_11, hL21, hr⟩ := hr
 refine .aO (σ := fun z0 => match z0 with | (o_1, b_2, i_3) => ⟨mkS 38 0 [(0, au a), (1, au b), (5, .hs 0 0 o_1.length 1), (6, cZ b_2), (7, ae i_3)], [.own (o_1.flatMap (iC .u32))]⟩) (Q := fun x st' => x = .exit 0 /\ Wk 0 st' ⟨mkS 38 0 [(5, .hs 0 0 o_11.length 1)], [.own (o_11.flatMap (iC .u32))]⟩) hL21 ((Wk.gc [0, 1, 5, 6, 7] [(0, false)] rfl (pKc trivial)).to) ?_ ?_
 ·clear hr
  rintro m ⟨o_1, b_2, i_3⟩ hr
  show CQ _ _ _ _ _ ⟨_, _⟩
  refine .seq (.seq (.r4 G [0, 1, 5, 6, 7] [(13, aB (decide (i_3 < (a.length : Int))))] ?_))
  refine .cd hr ?_ ?_ <;> intro hb13 hr
  ·refine .skip (.seq (.block (.seq ?_)))
   obtain ⟨v14, hc15, v16, hc17, hr⟩ := bd2 hr
   refine .gn G (ca1 (ok0 (cf n a i_3 v14 hc15)) (ca3 (ok0 (cf n b i_3 v16 hc17)))) (.mu 2 (.ca cf0 (.mu 3 (.ca (cfA (fun h => by rw [sv hc17 hc15 (ff n h)]) cf0) (.mu 4 (.done (.nh [0, 1, 5, 7, 8] [.own (o_1.flatMap (iC .u32))] (.seq ?_))))))))
   obtain ⟨hg18, hg19, hr⟩ := gd2 hr
   refine .r0 G (.mu 5 (.e0 (v := .hs 2 0 (o_1 ++ [aa .u32 ((aa .u64 ((aa .u64 ((aa .u64 (1000000000 + v14)) - v16)) - b_2)).tmod 1000000000)]).length 1) (ws := [(0, .dead), (2, .own ((o_1 ++ [aa .u32 ((aa .u64 ((aa .u64 ((aa .u64 (1000000000 + v14)) - v16)) - b_2)).tmod 1000000000)]).flatMap (iC .u32)))]) (tr (fc (new := [bB (aa .u32 ((aa .u64 ((aa .u64 ((aa .u64 (1000000000 + v14)) - v16)) - b_2)).tmod 1000000000))]) (l := o_1) (xs := [aa .u32 ((aa .u64 ((aa .u64 ((aa .u64 (1000000000 + v14)) - v16)) - b_2)).tmod 1000000000)]) (aI .u32) rfl rfl (by kernel_rfl) hg18 hg19)) (.mu 1 (.done (.nh [0, 1, 5, 7, 8] [.dead, .own [bB (aa .u32 ((aa .u64 ((aa .u64 ((aa .u64 (1000000000 + v14)) - v16)) - b_2)).tmod 1000000000))], .own ((o_1 ++ [aa .u32 ((aa .u64 ((aa .u64 ((aa .u64 (1000000000 + v14)) - v16)) - b_2)).tmod 1000000000)]).flatMap (iC .u32))] (.ru G (.pop (.ru G ?_))))))))
   exact aA (o_1 ++ [aa .u32 ((aa .u64 ((aa .u64 ((aa .u64 (1000000000 + v14)) - v16)) - b_2)).tmod 1000000000)], aa .u64 (1 - (aa .u64 ((aa .u64 ((aa .u64 ((aa .u64 (1000000000 + v14)) - v16)) - b_2)).tdiv 1000000000))), CT (i_3 + 1)) hr ((Wk.gc [0, 1, 5, 6, 7] [(2, false)] rfl (pKo (iC .u32) (aF _) (o_1 ++ [aa .u32 ((aa .u64 ((aa .u64 ((aa .u64 (1000000000 + v14)) - v16)) - b_2)).tmod 1000000000)]) trivial)).to)
  refine .leave rfl ?_
  obtain rfl := oi hr
  exact ⟨rfl, ((Wk.gc [5] [(0, false)] rfl (pKo (iC .u32) (aF _) o_1 trivial)).to)⟩
 rintro x st' hq22
 clear hL21
 obtain ⟨rfl, hq22⟩ := hq22
 refine a9 _ rfl (.wk hq22 (.seq ?_))
 obtain ⟨v23, hc24, hr⟩ := bd hr
 refine .g1 G (cR (args := [aB false, .hs 0 0 o_11.length 1]) (l := [0]) (Sp (SnL.cons (Sn.hs rfl (.inl rfl) (SnC.pure (bc (aF _) _)) (fun h => cP h)) SnL.nil)) (ba n false o_11 v23 hc24)) (.mu 1 (.ca cf0 (.mu 2 (.done (.ret ?_)))))
 obtain rfl := oi hr
 exact aJ.r1 [au v23.Groups]

theorem ja (n : Nat) (a : List Int) (b : List Int) (r : List Int × List Int) (hr : dB n a b = some r) : aN Tryz.prog 152 [au a, au b] (.tup [au r.1, au r.2]) := by
 unfold dB at hr
 refine aN.bd G Tryz.func152 [.tmp 4, .tmp 5] ?_
 unfold Tryz.f152
 simp only [gS]
 refine .seq (.r4 G [0, 1] [] (.seq (.r4 G [0, 1] [(6, ae (b.length : Int))] (.seq (.seq (.r4 G [0, 1, 6] [(19, aB (((b.length : Int) : Int) == 1))] ?_))))))
 refine .cd hr ?_ ?_ <;> intro hb1 hr
 ·refine .seq ?_
  obtain ⟨hg2, hr⟩ := gd hr
  obtain ⟨v3, hc4, hr⟩ := bd hr
  refine .g1 G (ok0 (kH n a (aa .u64 (gt b 0)) v3 hc4)) (.mu 2 (.p0 (v := .pp (b.flatMap (iC .u32)) ((0 : Int).toNat * 1)) (tr (ar hg2)) (.p0 (v := bB (gt b 0)) (tr (aH (aK (aI .u32) (aD hg2) z1 (by omega : (0 : Int).toNat * 1 = (0 : Int).toNat * 1 + 0) (by kernel_rfl)))) (.mu 1 (.ca cf0 (.mu 5 (.done (.nh [7, 8] [] (.seq ?_)))))))))
  obtain ⟨v5, hc6, hr⟩ := bd hr
  refine .gn G (ca4 [.own [bB (aa .u32 v3.2)]] (cR (args := [aB false, .hs 0 0 1 1]) (l := [0]) (Sp (SnL.cons (Sn.hs rfl (.inl rfl) (SnC.cons (Sn.pure rfl) SnC.nil) (fun h => nomatch h)) SnL.nil)) (ba n false [(aa .u32 v3.2)] v5 hc6))) (.mu 4 (.ca cf0 (.mu 3 (.done (.ret ?_)))))
  obtain rfl := oi hr
  exact aJ.ret (vs := [au v3.1, au v5.Groups]) (by kernel_rfl) (Sn.tup (Sp (Sp SnL.nil)))
 refine .skip (.seq (.seq ?_))
 obtain ⟨v7, hc8, hr⟩ := bd hr
 refine .g1 G (ok0 (ju n a b v7 hc8)) (.mu 2 (.ca cf0 (.mu 1 (.done (.nh [0, 1, 6, 38] [] ?_)))))
 refine .cd hr ?_ ?_ <;> intro hb9 hr
 ·refine .seq (.r5 G [] [(4, .hs 0 0 0 1), (5, au a)] [.own []] (.ret ?_))
  obtain rfl := oi hr
  exact aJ.ret (vs := [.hs 0 0 0 1, au a]) (by kernel_rfl) (Sn.tup (SnL.cons (Sn.hs rfl (.inl rfl) SnC.nil (fun _ => rfl)) (Sp SnL.nil)))
 refine .skip (.seq ?_)
 obtain ⟨hg10, hg11, hr⟩ := gd2 hr
 refine .r0 G (.mu 3 (.p0 (v := .pp (b.flatMap (iC .u32)) ((CT ((b.length : Int) - 1)).toNat * 1)) (tr (ar hg10)) (.p0 (v := bB (gt b (CT ((b.length : Int) - 1)))) (tr (aH (aK (aI .u32) (aD hg10) z1 (by omega : (CT ((b.length : Int) - 1)).toNat * 1 = (CT ((b.length : Int) - 1)).toNat * 1 + 0) (by kernel_rfl)))) (.mu 2 (.p0 (v := cZ (aa .u64 ((1000000000 : Int).tdiv (aa .u64 ((aa .u64 (gt b (CT ((b.length : Int) - 1)))) + 1))))) (pd (x := 1000000000) (y := aa .u64 ((aa .u64 (gt b (CT ((b.length : Int) - 1)))) + 1)) (by kernel_rfl) (by kernel_rfl) hg11) (.mu 1 (.done (.nh [0, 1, 6, 9] [] (.seq ?_)))))))))
 obtain ⟨v12, hc13, v14, hc15, hr⟩ := bd2 hr
 refine .gn G (ca1 (ok0 (iM n a (aa .u64 ((1000000000 : Int).tdiv (aa .u64 ((aa .u64 (gt b (CT ((b.length : Int) - 1)))) + 1)))) v12 hc13)) (ca3 (ok0 (iM n b (aa .u64 ((1000000000 : Int).tdiv (aa .u64 ((aa .u64 (gt b (CT ((b.length : Int) - 1)))) + 1)))) v14 hc15)))) (.mu 2 (.ca cf0 (.mu 2 (.ca (cfA (fun h => by rw [sv hc15 hc13 (ou n h)]) cf0) (.mu 2 (.done (.nh [0, 1, 6, 9] [] (.seq ?_))))))))
 obtain ⟨hg16, hr⟩ := gd hr
 obtain ⟨v17, hc18, hr⟩ := bd hr
 refine .g1 G (ok0 (ba n false ((v12.drop (CT ((CT ((v12.length : Int) - (b.length : Int))) + 1)).toNat).take ((v12.length : Int).toNat - (CT ((CT ((v12.length : Int) - (b.length : Int))) + 1)).toNat)) v17 hc18)) (.mu 6 (.p0 (v := au ((v12.drop (CT ((CT ((v12.length : Int) - (b.length : Int))) + 1)).toNat).take ((v12.length : Int).toNat - (CT ((CT ((v12.length : Int) - (b.length : Int))) + 1)).toNat))) (tr (y := slO (inS (CT ((CT ((v12.length : Int) - (b.length : Int))) + 1)) (v12.length : Int) v12.length) (CT ((CT ((v12.length : Int) - (b.length : Int))) + 1)).toNat (v12.length : Int).toNat (fun z1 z2 => .sl true (((v12.flatMap (iC .u32)).drop (z1 * 1)).take ((z2 - z1) * 1)) (z2 - z1))) (vE hg16 (sS (aI _) (pR hg16)))) (.ca cf0 (.mu 2 (.done (.nh [0, 1, 6, 9, 10] [] (.seq ?_)))))))
 obtain ⟨hg19, hg20, hg21, hr⟩ := gd3 hr
 refine .r0 G (.mu 5 (.e0 (v := .hs 0 0 (List.replicate (CT ((CT ((v12.length : Int) - (b.length : Int))) + 1)).toNat ((0 : Int) : Int)).length 1) (ws := [(0, .own ((List.replicate (CT ((CT ((v12.length : Int) - (b.length : Int))) + 1)).toNat ((0 : Int) : Int)).flatMap (iC .u32)))]) (tr (l8 (c := (iC .u32)) (z := (0 : Int)) (n := CT ((CT ((v12.length : Int) - (b.length : Int))) + 1)) (by_ := 4) rfl hg19 hg20 hg21)) (.mu 1 (.done (.nh [0, 1, 6, 9, 10, 11] [.own ((List.replicate (CT ((CT ((v12.length : Int) - (b.length : Int))) + 1)).toNat ((0 : Int) : Int)).flatMap (iC .u32))] (.seq (.seq (.r4 G [0, 1, 6, 9, 10, 11] [(12, ae (CT ((v12.length : Int) - (b.length : Int))))] (.block ?_)))))))))
 replace hr := bd hr; obtain ⟨o94, hL95, hr⟩ := hr
 refine .aO (σ := fun z0 => match z0 with | (r_22, q_23, i_24) => ⟨mkS 130 0 [(0, au v12), (1, au v14), (6, ae (b.length : Int)), (9, cZ (aa .u64 ((1000000000 : Int).tdiv (aa .u64 ((aa .u64 (gt b (CT ((b.length : Int) - 1)))) + 1))))), (10, au r_22), (11, .hs 0 0 q_23.length 1), (12, ae i_24)], [.own (q_23.flatMap (iC .u32))]⟩) (Q := fun x st' => match (generalizing := false) o94 with | (r_58, q_59) => x = .exit 0 /\ Wk 0 st' ⟨mkS 130 0 [(9, cZ (aa .u64 ((1000000000 : Int).tdiv (aa .u64 ((aa .u64 (gt b (CT ((b.length : Int) - 1)))) + 1))))), (10, au r_58), (11, .hs 0 0 q_59.length 1)], [.own (q_59.flatMap (iC .u32))]⟩) hL95 ((Wk.gc [0, 1, 6, 9, 10, 11, 12] [(0, false)] rfl (pKo (iC .u32) (aF _) (List.replicate (CT ((CT ((v12.length : Int) - (b.length : Int))) + 1)).toNat ((0 : Int) : Int)) trivial)).to) ?_ ?_
 ·clear hr
  rintro m ⟨r_22, q_23, i_24⟩ hr
  show CQ _ _ _ _ _ ⟨_, _⟩
  refine .seq (.seq (.r4 G [0, 1, 6, 9, 10, 11, 12] [(75, aB (decide (i_24 >= 0)))] ?_))
  refine .cd hr ?_ ?_ <;> intro hb61 hr
  ·refine .skip (.seq (.block (.seq ?_)))
   obtain ⟨hg62, hr⟩ := gd hr
   obtain ⟨v63, hc64, hr⟩ := bd hr
   refine .g1 G (ok0 (nO n r_22 (gt v12 i_24) v63 hc64)) (.mu 3 (.p0 (v := .pp (v12.flatMap (iC .u32)) (i_24.toNat * 1)) (tr (ar hg62)) (.p0 (v := bB (gt v12 i_24)) (tr (aH (aK (aI .u32) (aD hg62) z1 (by omega : i_24.toNat * 1 = i_24.toNat * 1 + 0) (by kernel_rfl)))) (.ca cf0 (.mu 1 (.done (.nh [0, 1, 6, 9, 10, 11, 12] [.own (q_23.flatMap (iC .u32))] (.seq ?_))))))))
   obtain ⟨v65, hc66, v67, hc68, hr⟩ := bd2 hr
   obtain ⟨hg69, hg70, hr⟩ := gd2 hr
   refine .tn G (ca1 (ok0 (cf n v63 (b.length : Int) v65 hc66)) (ca3 (ok0 (cf n v63 (CT ((b.length : Int) - 1)) v67 hc68)))) (.mu 2 (.ca cf0 (.mu 4 (.ca (cfA (fun h => by rw [sv hc68 hc66 (ff n h)]) cf0) (.mu 4 (.pure (v := .pp (v14.flatMap (iC .u32)) ((CT ((b.length : Int) - 1)).toNat * 1)) (by kernel_rfl) (tr (ar hg69)) (by kernel_rfl) (.pure (v := bB (gt v14 (CT ((b.length : Int) - 1)))) (by kernel_rfl) (tr (aH (aK (aI .u32) (aD hg69) z1 (by omega : (CT ((b.length : Int) - 1)).toNat * 1 = (CT ((b.length : Int) - 1)).toNat * 1 + 0) (by kernel_rfl)))) (by kernel_rfl) (.mu 2 (.pure (v := cZ (aa .u64 ((aa .u64 ((aa .u64 (v65 * 1000000000)) + v67)).tdiv (aa .u64 ((aa .u64 (gt v14 (CT ((b.length : Int) - 1)))) + 1))))) (by kernel_rfl) (pd (x := aa .u64 ((aa .u64 (v65 * 1000000000)) + v67)) (y := aa .u64 ((aa .u64 (gt v14 (CT ((b.length : Int) - 1)))) + 1)) (by kernel_rfl) (by kernel_rfl) hg70) (by kernel_rfl) (.mu 1 ?_))))))))))
   refine .done ⟨by kernel_rfl, ?_⟩
   refine .nh [0, 1, 6, 9, 10, 11, 12, 13] [.own (q_23.flatMap (iC .u32))] (.seq ?_)
   obtain ⟨v71, hc72, v73, hc74, hr⟩ := bd2 hr
   refine .gn G (ca1 (ok0 (iM n v14 (aa .u64 ((aa .u64 ((aa .u64 (v65 * 1000000000)) + v67)).tdiv (aa .u64 ((aa .u64 (gt v14 (CT ((b.length : Int) - 1)))) + 1)))) v71 hc72)) (ca3 (ok0 (gg n v63 v71 v73 hc74)))) (.mu 3 (.ca cf0 (.ca (cfF cf0) (.mu 1 (.done (.nh [0, 1, 6, 9, 10, 11, 12, 13] [.own (q_23.flatMap (iC .u32))] (.seq (.block ?_))))))))
   replace hr := bd hr; obtain ⟨o90, hL91, hr⟩ := hr
   refine .aO (σ := fun z0 => match z0 with | (r_75, g_76) => ⟨mkS 130 0 [(0, au v12), (1, au v14), (6, ae (b.length : Int)), (9, cZ (aa .u64 ((1000000000 : Int).tdiv (aa .u64 ((aa .u64 (gt b (CT ((b.length : Int) - 1)))) + 1))))), (10, au r_75), (11, .hs 0 0 q_23.length 1), (12, ae i_24), (13, cZ g_76)], [.own (q_23.flatMap (iC .u32))]⟩) (Q := fun x st' => match (generalizing := false) o90 with | (r_82, g_83) => x = .exit 2 /\ Wk 0 st' ⟨mkS 130 0 [(0, au v12), (1, au v14), (6, ae (b.length : Int)), (9, cZ (aa .u64 ((1000000000 : Int).tdiv (aa .u64 ((aa .u64 (gt b (CT ((b.length : Int) - 1)))) + 1))))), (10, au r_82), (11, .hs 0 0 q_23.length 1), (12, ae i_24), (13, cZ g_83)], [.own (q_23.flatMap (iC .u32))]⟩) hL91 ((Wk.gc [0, 1, 6, 9, 10, 11, 12, 13] [(0, false)] rfl (pKo (iC .u32) (aF _) q_23 trivial)).to) ?_ ?_
   ·clear hr
    rintro m ⟨r_75, g_76⟩ hr
    show CQ _ _ _ _ _ ⟨_, _⟩
    refine .seq (.seq ?_)
    obtain ⟨v85, hc86, hr⟩ := bd hr
    refine .g1 G (ok0 (ju n r_75 v14 v85 hc86)) (.mu 2 (.ca cf0 (.mu 1 (.done (.nh [0, 1, 6, 9, 10, 11, 12, 13, 109] [.own (q_23.flatMap (iC .u32))] ?_)))))
    refine .cd hr ?_ ?_ <;> intro hb87 hr
    ·refine .skip (.block (.seq ?_))
     obtain ⟨v88, hc89, hr⟩ := bd hr
     refine .g1 G (ok0 (gg n r_75 v14 v88 hc89)) (.mu 2 (.ca cf0 (.mu 1 (.done (.nh [0, 1, 6, 9, 10, 11, 12, 13] [.own (q_23.flatMap (iC .u32))] (.ru G (.pop ?_)))))))
     exact aA (v88, aa .u64 (g_76 + 1)) hr ((Wk.gc [0, 1, 6, 9, 10, 11, 12, 13] [(0, false)] rfl (pKo (iC .u32) (aF _) q_23 trivial)).to)
    refine .leave rfl ?_
    obtain rfl := oi hr
    exact ⟨rfl, ((Wk.gc [0, 1, 6, 9, 10, 11, 12, 13] [(0, false)] rfl (pKo (iC .u32) (aF _) q_23 trivial)).to)⟩
   rcases o90 with ⟨r_82, g_83⟩
   rintro x st' hq92
   clear hL91
   obtain ⟨rfl, hq92⟩ := hq92
   refine a9 _ rfl (.wk hq92 ?_)
   obtain ⟨hg93, hr⟩ := gd hr
   refine .r0 G (.mu 4 (.p0 (v := .hp 0 (0 + i_24.toNat * 1)) (tr (ar hg93)) (.e0 (v := .unk) (ws := [(0, .own ((q_23.set i_24.toNat (aa .u32 g_83)).flatMap (iC .u32)))]) (tr (iF (iH (cD (n := 1) (aI .u32) (aD hg93) (lbT rfl) (by omega : 0 + i_24.toNat * 1 = i_24.toNat * 1 + 0))) (congrArg Blk.own (c7 (xs := [bB (aa .u32 g_83)]) (aI .u32) (aD hg93) (lbT rfl) (by omega : 0 + i_24.toNat * 1 = i_24.toNat * 1 + 0) (by kernel_rfl))))) (.done (.pop (.ru G ?_))))))
   exact aA (r_82, q_23.set i_24.toNat (aa .u32 g_83), CT (i_24 - 1)) hr ((Wk.iJ 11 (b := 0) (es := 1) (len := q_23.length) (q_23.set i_24.toNat (aa .u32 g_83)).length (by kernel_rfl) (Eq.symm (List.length_set.trans rfl))).trans ((Wk.gc [0, 1, 6, 9, 10, 11, 12] [(0, false)] rfl (pKo (iC .u32) (aF _) (q_23.set i_24.toNat (aa .u32 g_83)) trivial)).to))
  refine .leave rfl ?_
  obtain rfl := oi hr
  exact ⟨rfl, ((Wk.gc [9, 10, 11] [(0, false)] rfl (pKo (iC .u32) (aF _) q_23 trivial)).to)⟩
 rcases o94 with ⟨r_58, q_59⟩
 rintro x st' hq96
 clear hL95
 obtain ⟨rfl, hq96⟩ := hq96
 refine a9 _ rfl (.wk hq96 (.seq ?_))
 obtain ⟨v97, hc98, hr⟩ := bd hr
 refine .g1 G (ok0 (kH n r_58 (aa .u64 ((1000000000 : Int).tdiv (aa .u64 ((aa .u64 (gt b (CT ((b.length : Int) - 1)))) + 1)))) v97 hc98)) (.mu 2 (.ca cf0 (.mu 5 (.done (.nh [11, 14] [.own (q_59.flatMap (iC .u32))] (.seq ?_))))))
 obtain ⟨v99, hc100, hr⟩ := bd hr
 refine .g1 G (cR (args := [aB false, .hs 0 0 q_59.length 1]) (l := [0]) (Sp (SnL.cons (Sn.hs rfl (.inl rfl) (SnC.pure (bc (aF _) _)) (fun h => cP h)) SnL.nil)) (ba n false q_59 v99 hc100)) (.mu 1 (.ca cf0 (.mu 4 (.done (.ret ?_)))))
 obtain rfl := oi hr
 exact aJ.ret (vs := [au v99.Groups, au v97.1]) (by kernel_rfl) (Sn.tup (Sp (Sp SnL.nil)))

theorem o6 {a : List Int} {a_ : List Int} (h : ([slT (iC .u32) a] : List AV) = [slT (iC .u32) a_]) : a = a_ := by
 simp only [List.cons.injEq, AV.agg.injEq, AV.at.injEq, Value.int.injEq, Value.bool.injEq, AV.fn.injEq, AV.pp.injEq, true_and, and_true, eU] at h
 simp_all
theorem pC (n : Nat) {a : List Int} {a_ : List Int} (h : ([slT (iC .u32) a] : List AV) = [slT (iC .u32) a_]) : dL n a = dL n a_ := by
 obtain rfl := o6 h
 rfl
theorem lk (n : Nat) (a : List Int) (r : Int) (hr : dL n a = some r) : aN Tryz.prog 153 [au a] (cZ r) := by
 unfold dL at hr
 refine aN.bd G Tryz.func153 [.tmp 2] ?_
 unfold Tryz.f153
 simp only [gS]
 refine .seq (.r4 G [0] [] (.seq ?_))
 obtain ⟨v1, hc2, v3, hc4, hr⟩ := bd2 hr
 refine .gn G (ca1 (ok0 (cf n a 1 v1 hc2)) (ca3 (ok0 (cf n a 0 v3 hc4)))) (.mu 1 (.ca cf0 (.mu 2 (.ca (cfA (fun h => by rw [sv hc4 hc2 (ff n h)]) cf0) (.mu 2 (.done (.ret ?_)))))))
 obtain rfl := oi hr
 exact aJ.r1 [cZ (aa .u64 ((aa .u64 (v1 * 1000000000)) + v3))]

theorem l9 (n : Nat) (x' : ai) (y : ai) (r : ai) (hr : fg n x' y = some r) : aN Tryz.prog 115 [.agg (ai.c x'), .agg (ai.c y)] (.agg (ai.c r)) := by
 unfold fg at hr
 refine aN.bd G Tryz.func115 [.cell 4 40] ?_
 unfold Tryz.f115
 simp only [gS]
 refine .seq (.r2 G 61 [(2, .hp 0 0), (3, .hp 1 0), (4, .hp 2 0)] [.own (ai.c x'), .own (ai.c y), .own [aB false, nS]] (.seq ?_))
 obtain ⟨v1, hc2, v3, hc4, hr⟩ := bd2 hr
 refine .tn G (ca1 (ok0 (cc n x' v1 hc2)) (ca3 (ok0 (cc n y v3 hc4)))) (.mu 1 (.ca cf0 (.mu 2 (.ca (cfA (fun h => by rw [sv hc4 hc2 (gh n h)]) cf0) (.mu 3 ?_)))))
 refine .done ⟨by kernel_rfl, ?_⟩
 refine .nh [4, 5, 6] [.own (ai.c x'), .own (ai.c y), .own [aB false, nS]] (.seq (.block ?_))
 replace hr := bd hr; obtain ⟨o24, hL25, hr⟩ := hr
 refine .aO (σ := fun z0 => match z0 with | (a_5, b_6) => ⟨mkS 61 0 [(4, .hp 0 0), (5, au a_5), (6, au b_6)], [.own [aB false, nS]]⟩) (Q := fun x st' => match (generalizing := false) o24 with | (a_14, b_15) => x = .exit 0 /\ Wk 0 st' ⟨mkS 61 0 [(4, .hp 0 0), (5, au a_14), (6, au b_15)], [.own [aB false, nS]]⟩) hL25 ((Wk.gc [4, 5, 6] [(2, true)] rfl trivial).to) ?_ ?_
 ·clear hr
  rintro m ⟨a_5, b_6⟩ hr
  show CQ _ _ _ _ _ ⟨_, _⟩
  refine .seq (.seq ?_)
  rcases bT (decide ((b_6.length : Int) > 0)) with hb17 | hb17
  ·replace hr := cy hb17 hr
   rcases bT (decide ((a_5.length : Int) > 2)) with hb18 | hb18
   ·replace hr := cy hb18 hr
    refine .r0 G (.mu 2 (.p0 (v := aB true) (eB hb17) (.mu 3 (.pure (v := aB true) (by kernel_rfl) (eB hb18) (.mu 6 (.done (.nh [4, 5, 6, 29] [.own [aB false, nS]] (.cT (by kernel_rfl) (.skip (.block (.seq ?_)))))))))))
    obtain ⟨v19, hc20, hr⟩ := bd hr
    refine .g1 G (ok0 (ja n a_5 b_6 v19 hc20)) (.mu 2 (.ca cf0 (.mu 5 (.done (.nh [4, 6, 8] [.own [aB false, nS]] (.ru G (.pop ?_)))))))
    exact aA (b_6, v19.2) hr ((Wk.gc [4, 5, 6] [(0, true)] rfl trivial).to)
   replace hr := cA hb18 hr
   refine .r0 G (.mu 2 (.p0 (v := aB true) (eB hb17) (.mu 3 (.pure (v := aB false) (by kernel_rfl) (eB hb18) (.mu 6 (.done (.nh [4, 5, 6, 29] [.own [aB false, nS]] ?_)))))))
   refine .cd hr ?_ ?_ <;> intro hb21 hr
   ·refine .skip (.block (.seq ?_))
    obtain ⟨v22, hc23, hr⟩ := bd hr
    refine .g1 G (ok0 (ja n a_5 b_6 v22 hc23)) (.mu 2 (.ca cf0 (.mu 5 (.done (.nh [4, 6, 8] [.own [aB false, nS]] (.ru G (.pop ?_)))))))
    exact aA (b_6, v22.2) hr ((Wk.gc [4, 5, 6] [(0, true)] rfl trivial).to)
   refine .leave rfl ?_
   obtain rfl := oi hr
   exact ⟨rfl, ((Wk.gc [4, 5, 6] [(0, true)] rfl trivial).to)⟩
  replace hr := cA hb17 hr
  refine .r0 G (.mu 2 (.p0 (v := aB false) (eB hb17) (.mu 10 (.done (.nh [4, 5, 6, 29] [.own [aB false, nS]] (.cF (by kernel_rfl) (.leave rfl ?_)))))))
  obtain rfl := oi hr
  exact ⟨rfl, ((Wk.gc [4, 5, 6] [(0, true)] rfl trivial).to)⟩
 rcases o24 with ⟨a_14, b_15⟩
 rintro x st' hq26
 clear hL25
 obtain ⟨rfl, hq26⟩ := hq26
 refine a9 _ rfl (.wk hq26 (.seq (.seq (.r4 G [4, 5, 6] [(40, aB (((b_15.length : Int) : Int) == 0))] ?_))))
 refine .cd hr ?_ ?_ <;> intro hb27 hr
 ·refine .seq ?_
  obtain ⟨v28, hc29, hr⟩ := bd hr
  refine .g1 G (ok0 (ba n false a_14 v28 hc29)) (.mu 1 (.ca cf0 (.mu 1 (.done (.nh [4] [.own (ai.c v28)] (.ret ?_))))))
  obtain rfl := oi hr
  exact aJ.r1 [.agg (ai.c v28)]
 refine .skip (.seq ?_)
 obtain ⟨v30, hc31, v32, hc33, hr⟩ := bd2 hr
 refine .gn G (ca1 (ok0 (lk n a_14 v30 hc31)) (ca3 (ok0 (lk n b_15 v32 hc33)))) (.mu 1 (.ca cf0 (.mu 1 (.ca (cfA (fun h => by rw [sv hc33 hc31 (pC n h)]) cf0) (.mu 2 (.done (.nh [4, 9, 10] [.own [aB false, nS]] (.seq (.block ?_)))))))))
 replace hr := bd hr; obtain ⟨u_38, hL43, hr⟩ := hr
 refine .aO (σ := fun z0 => match z0 with | (u_34, v_35) => ⟨mkS 61 0 [(4, .hp 0 0), (9, cZ u_34), (10, cZ v_35)], [.own [aB false, nS]]⟩) (Q := fun x st' => x = .exit 2 /\ Wk 0 st' ⟨mkS 61 0 [(4, .hp 0 0), (9, cZ u_38)], [.own [aB false, nS]]⟩) hL43 ((Wk.gc [4, 9, 10] [(0, true)] rfl trivial).to) ?_ ?_
 ·clear hr
  rintro m ⟨u_34, v_35⟩ hr
  show CQ _ _ _ _ _ ⟨_, _⟩
  refine .seq (.seq (.r4 G [4, 9, 10] [(48, aB (decide (v_35 > 0)))] ?_))
  refine .cd hr ?_ ?_ <;> intro hb40 hr
  ·refine .skip (.block ?_)
   obtain ⟨hg41, hr⟩ := gd hr
   refine .eK G bW (.mu 3 (.pure (v := cZ (u_34.tmod v_35)) (by kernel_rfl) (oM (x := u_34) (y := v_35) (by kernel_rfl) (by kernel_rfl) hg41) (by kernel_rfl) (.mu 2 ?_)))
   refine .done ⟨by kernel_rfl, ?_⟩
   refine .pop ?_
   exact aA (v_35, u_34.tmod v_35) hr ((Wk.gc [4, 9, 10] [(0, true)] rfl trivial).to)
  refine .leave rfl ?_
  obtain rfl := oi hr
  exact ⟨rfl, ((Wk.gc [4, 9] [(0, true)] rfl trivial).to)⟩
 rintro x st' hq44
 clear hL43
 obtain ⟨rfl, hq44⟩ := hq44
 refine a9 _ rfl (.wk hq44 (.seq ?_))
 obtain ⟨v45, hc46, hr⟩ := bd hr
 refine .gn G (ca4 [.own [aB false, nS], .own [bB (aa .u32 (u_38.tmod 1000000000)), bB (aa .u32 (aa .u64 (u_38.tdiv 1000000000)))]] (cR (args := [aB false, .hs 1 0 2 1]) (l := [1]) (Sp (SnL.cons (Sn.hs rfl (.inl rfl) (SnC.cons (Sn.pure rfl) (SnC.cons (Sn.pure rfl) SnC.nil)) (fun h => nomatch h)) SnL.nil)) (ba n false [(aa .u32 (u_38.tmod 1000000000)), (aa .u32 (aa .u64 (u_38.tdiv 1000000000)))] v45 hc46))) (.mu 7 (.ca cf0 (.mu 1 (.done (.nh [4] [.own (ai.c v45), .fix [bB (aa .u32 (u_38.tmod 1000000000)), bB (aa .u32 (aa .u64 (u_38.tdiv 1000000000)))]] (.ret ?_))))))
 obtain rfl := oi hr
 exact aJ.r1 [.agg (ai.c v45)]

theorem jI (n : Nat) (x' : ai) (r : ai) (hr : fb n x' = some r) : aN Tryz.prog 126 [.agg (ai.c x')] (.agg (ai.c r)) := by
 unfold fb at hr
 refine aN.bd G Tryz.func126 [.cell 2 40] ?_
 unfold Tryz.f126
 simp only [gS]
 refine .seq (.r2 G 11 [(1, .hp 0 0), (2, .hp 1 0)] [.own (ai.c x'), .own [aB false, nS]] (.seq ?_))
 obtain ⟨v1, hc2, hr⟩ := bd hr
 refine .g1 G (ok0 (cc n x' v1 hc2)) (.mu 1 (.ca cf0 (.mu 1 (.done (.nh [1, 2] [.own (ai.c v1), .own [aB false, nS]] (.seq ?_))))))
 obtain ⟨v3, hc4, hr⟩ := bd hr
 refine .g1 G (ok0 (ba n (!v1.Negative) v1.Groups v3 hc4)) (.mu 5 (.ca cf0 (.mu 1 (.done (.nh [2] [.own (ai.c v1), .own (ai.c v3)] (.ret ?_))))))
 obtain rfl := oi hr
 exact aJ.r1 [.agg (ai.c v3)]

theorem pE (n : Nat) (a : List Int) (b : List Int) (r : List Int) (hr : gI n a b = some r) : aN Tryz.prog 154 [au a, au b] (au r) := by
 unfold gI at hr
 refine aN.bd G Tryz.func154 [.tmp 4] ?_
 unfold Tryz.f154
 simp only [gS]
 refine .seq (.r4 G [0, 1] [] (.seq (.r5 G [0, 1] [(5, .hs 0 0 0 1)] [.own []] (.seq (.r4 G [0, 1, 5] [(6, cZ 0)] (.seq (.seq (.r4 G [0, 1, 5, 6] [(7, ae 0)] (.block ?_)))))))))
 replace hr := bd hr; obtain ⟨o35, hL36, hr⟩ := hr
 refine .aO (σ := fun z0 => match z0 with | (o_1, c_2, i_3) => ⟨mkS 46 0 [(0, au a), (1, au b), (5, .hs 0 0 o_1.length 1), (6, cZ c_2), (7, ae i_3)], [.own (o_1.flatMap (iC .u32))]⟩) (Q := fun x st' => match (generalizing := false) o35 with | (o_18, c_19) => x = .exit 0 /\ Wk 0 st' ⟨mkS 46 0 [(5, .hs 0 0 o_18.length 1), (6, cZ c_19)], [.own (o_18.flatMap (iC .u32))]⟩) hL36 ((Wk.gc [0, 1, 5, 6, 7] [(0, false)] rfl (pKc trivial)).to) ?_ ?_
 ·clear hr
  rintro m ⟨o_1, c_2, i_3⟩ hr
  show CQ _ _ _ _ _ ⟨_, _⟩
  refine .seq (.seq ?_)
  rcases bT (decide (i_3 < (a.length : Int))) with hb21 | hb21
  ·replace hr := cy hb21 hr
   refine .r0 G (.mu 3 (.p0 (v := aB true) (eB hb21) (.mu 6 (.done (.nh [0, 1, 5, 6, 7, 19] [.own (o_1.flatMap (iC .u32))] (.cT (by kernel_rfl) (.skip (.seq (.block (.seq ?_))))))))))
   obtain ⟨v22, hc23, v24, hc25, hr⟩ := bd2 hr
   refine .gn G (ca1 (ok0 (cf n a i_3 v22 hc23)) (ca3 (ok0 (cf n b i_3 v24 hc25)))) (.mu 2 (.ca cf0 (.mu 2 (.ca (cfA (fun h => by rw [sv hc25 hc23 (ff n h)]) cf0) (.mu 4 (.done (.nh [0, 1, 5, 7, 8] [.own (o_1.flatMap (iC .u32))] (.seq ?_))))))))
   obtain ⟨hg26, hg27, hr⟩ := gd2 hr
   refine .r0 G (.mu 5 (.e0 (v := .hs 2 0 (o_1 ++ [aa .u32 ((aa .u64 ((aa .u64 (v22 + v24)) + c_2)).tmod 1000000000)]).length 1) (ws := [(0, .dead), (2, .own ((o_1 ++ [aa .u32 ((aa .u64 ((aa .u64 (v22 + v24)) + c_2)).tmod 1000000000)]).flatMap (iC .u32)))]) (tr (fc (new := [bB (aa .u32 ((aa .u64 ((aa .u64 (v22 + v24)) + c_2)).tmod 1000000000))]) (l := o_1) (xs := [aa .u32 ((aa .u64 ((aa .u64 (v22 + v24)) + c_2)).tmod 1000000000)]) (aI .u32) rfl rfl (by kernel_rfl) hg26 hg27)) (.mu 1 (.done (.nh [0, 1, 5, 7, 8] [.dead, .own [bB (aa .u32 ((aa .u64 ((aa .u64 (v22 + v24)) + c_2)).tmod 1000000000))], .own ((o_1 ++ [aa .u32 ((aa .u64 ((aa .u64 (v22 + v24)) + c_2)).tmod 1000000000)]).flatMap (iC .u32))] (.ru G (.pop (.ru G ?_))))))))
   exact aA (o_1 ++ [aa .u32 ((aa .u64 ((aa .u64 (v22 + v24)) + c_2)).tmod 1000000000)], aa .u64 ((aa .u64 ((aa .u64 (v22 + v24)) + c_2)).tdiv 1000000000), CT (i_3 + 1)) hr ((Wk.gc [0, 1, 5, 6, 7] [(2, false)] rfl (pKo (iC .u32) (aF _) (o_1 ++ [aa .u32 ((aa .u64 ((aa .u64 (v22 + v24)) + c_2)).tmod 1000000000)]) trivial)).to)
  replace hr := cA hb21 hr
  refine .r0 G (.mu 3 (.p0 (v := aB false) (eB hb21) (.mu 6 (.done (.nh [0, 1, 5, 6, 7, 19] [.own (o_1.flatMap (iC .u32))] ?_)))))
  refine .cd hr ?_ ?_ <;> intro hb28 hr
  ·refine .skip (.seq (.block (.seq ?_)))
   obtain ⟨v29, hc30, v31, hc32, hr⟩ := bd2 hr
   refine .gn G (ca1 (ok0 (cf n a i_3 v29 hc30)) (ca3 (ok0 (cf n b i_3 v31 hc32)))) (.mu 2 (.ca cf0 (.mu 2 (.ca (cfA (fun h => by rw [sv hc32 hc30 (ff n h)]) cf0) (.mu 4 (.done (.nh [0, 1, 5, 7, 8] [.own (o_1.flatMap (iC .u32))] (.seq ?_))))))))
   obtain ⟨hg33, hg34, hr⟩ := gd2 hr
   refine .r0 G (.mu 5 (.e0 (v := .hs 2 0 (o_1 ++ [aa .u32 ((aa .u64 ((aa .u64 (v29 + v31)) + c_2)).tmod 1000000000)]).length 1) (ws := [(0, .dead), (2, .own ((o_1 ++ [aa .u32 ((aa .u64 ((aa .u64 (v29 + v31)) + c_2)).tmod 1000000000)]).flatMap (iC .u32)))]) (tr (fc (new := [bB (aa .u32 ((aa .u64 ((aa .u64 (v29 + v31)) + c_2)).tmod 1000000000))]) (l := o_1) (xs := [aa .u32 ((aa .u64 ((aa .u64 (v29 + v31)) + c_2)).tmod 1000000000)]) (aI .u32) rfl rfl (by kernel_rfl) hg33 hg34)) (.mu 1 (.done (.nh [0, 1, 5, 7, 8] [.dead, .own [bB (aa .u32 ((aa .u64 ((aa .u64 (v29 + v31)) + c_2)).tmod 1000000000))], .own ((o_1 ++ [aa .u32 ((aa .u64 ((aa .u64 (v29 + v31)) + c_2)).tmod 1000000000)]).flatMap (iC .u32))] (.ru G (.pop (.ru G ?_))))))))
   exact aA (o_1 ++ [aa .u32 ((aa .u64 ((aa .u64 (v29 + v31)) + c_2)).tmod 1000000000)], aa .u64 ((aa .u64 ((aa .u64 (v29 + v31)) + c_2)).tdiv 1000000000), CT (i_3 + 1)) hr ((Wk.gc [0, 1, 5, 6, 7] [(2, false)] rfl (pKo (iC .u32) (aF _) (o_1 ++ [aa .u32 ((aa .u64 ((aa .u64 (v29 + v31)) + c_2)).tmod 1000000000)]) trivial)).to)
  refine .leave rfl ?_
  obtain rfl := oi hr
  exact ⟨rfl, ((Wk.gc [5, 6] [(0, false)] rfl (pKo (iC .u32) (aF _) o_1 trivial)).to)⟩
 rcases o35 with ⟨o_18, c_19⟩
 rintro x st' hq37
 clear hL36
 obtain ⟨rfl, hq37⟩ := hq37
 refine a9 _ rfl (.wk hq37 (.seq ?_))
 obtain ⟨hg38, hg39, hr⟩ := gd2 hr
 obtain ⟨v40, hc41, hr⟩ := bd hr
 refine .gn G (ca4 [.dead, .own [bB (aa .u32 c_19)], .own ((o_18 ++ [aa .u32 c_19]).flatMap (iC .u32))] (cR (args := [aB false, .hs 2 0 (o_18 ++ [aa .u32 c_19]).length 1]) (l := [2]) (Sp (SnL.cons (Sn.hs rfl (.inl rfl) (SnC.pure (bc (aF _) _)) (fun h => cP h)) SnL.nil)) (ba n false (o_18 ++ [aa .u32 c_19]) v40 hc41))) (.mu 4 (.e0 (v := .hs 2 0 (o_18 ++ [aa .u32 c_19]).length 1) (ws := [(0, .dead), (2, .own ((o_18 ++ [aa .u32 c_19]).flatMap (iC .u32)))]) (tr (fc (new := [bB (aa .u32 c_19)]) (l := o_18) (xs := [aa .u32 c_19]) (aI .u32) rfl rfl (by kernel_rfl) hg38 hg39)) (.ca cf0 (.mu 2 (.done (.ret ?_))))))
 obtain rfl := oi hr
 exact aJ.r1 [au v40.Groups]

theorem lV (n : Nat) (x' : ai) (y : ai) (r : ai) (hr : fQ n x' y = some r) : aN Tryz.prog 116 [.agg (ai.c x'), .agg (ai.c y)] (.agg (ai.c r)) := by
 unfold fQ at hr
 refine aN.bd G Tryz.func116 [.cell 4 40] ?_
 unfold Tryz.f116
 simp only [gS]
 refine .seq (.r2 G 44 [(2, .hp 0 0), (3, .hp 1 0), (4, .hp 2 0)] [.own (ai.c x'), .own (ai.c y), .own [aB false, nS]] (.seq ?_))
 obtain ⟨v1, hc2, v3, hc4, hr⟩ := bd2 hr
 refine .tn G (ca1 (ok0 (cc n x' v1 hc2)) (ca3 (ok0 (cc n y v3 hc4)))) (.mu 1 (.ca cf0 (.mu 1 (.ca (cfA (fun h => by rw [sv hc4 hc2 (gh n h)]) cf0) (.mu 2 ?_)))))
 refine .done ⟨by kernel_rfl, ?_⟩
 refine .nh [2, 3, 4] [.own (ai.c v1), .own (ai.c v3), .own [aB false, nS]] (.seq (.seq (.r4 G [2, 3, 4] [(13, aB (v1.Negative == v3.Negative))] ?_)))
 refine .cd hr ?_ ?_ <;> intro hb5 hr
 ·refine .seq ?_
  obtain ⟨v6, hc7, v8, hc9, hr⟩ := bd2 hr
  refine .tn G (ca1 (ok0 (pE n v1.Groups v3.Groups v6 hc7)) (ca3 (ok0 (ba n v1.Negative v6 v8 hc9)))) (.mu 6 (.ca cf0 (.ca (cfF cf0) (.mu 1 ?_))))
  refine .done ⟨by kernel_rfl, ?_⟩
  refine .nh [4] [.own (ai.c v1), .own (ai.c v3), .own (ai.c v8)] (.ret ?_)
  obtain rfl := oi hr
  exact aJ.r1 [.agg (ai.c v8)]
 refine .skip (.seq (.seq ?_))
 obtain ⟨v10, hc11, hr⟩ := bd hr
 refine .g1 G (ok0 (ju n v1.Groups v3.Groups v10 hc11)) (.mu 4 (.ca cf0 (.mu 1 (.done (.nh [2, 3, 4, 27] [.own (ai.c v1), .own (ai.c v3), .own [aB false, nS]] ?_)))))
 refine .cd hr ?_ ?_ <;> intro hb12 hr
 ·refine .seq ?_
  obtain ⟨v13, hc14, v15, hc16, hr⟩ := bd2 hr
  refine .tn G (ca1 (ok0 (gg n v1.Groups v3.Groups v13 hc14)) (ca3 (ok0 (ba n v1.Negative v13 v15 hc16)))) (.mu 6 (.ca cf0 (.ca (cfF cf0) (.mu 1 ?_))))
  refine .done ⟨by kernel_rfl, ?_⟩
  refine .nh [4] [.own (ai.c v1), .own (ai.c v3), .own (ai.c v15)] (.ret ?_)
  obtain rfl := oi hr
  exact aJ.r1 [.agg (ai.c v15)]
 refine .skip (.seq ?_)
 obtain ⟨v17, hc18, v19, hc20, hr⟩ := bd2 hr
 refine .tn G (ca1 (ok0 (gg n v3.Groups v1.Groups v17 hc18)) (ca3 (ok0 (ba n v3.Negative v17 v19 hc20)))) (.mu 6 (.ca cf0 (.ca (cfF cf0) (.mu 1 ?_))))
 refine .done ⟨by kernel_rfl, ?_⟩
 refine .nh [4] [.own (ai.c v1), .own (ai.c v3), .own (ai.c v19)] (.ret ?_)
 obtain rfl := oi hr
 exact aJ.r1 [.agg (ai.c v19)]

theorem fL (n : Nat) (x' : ai) (y : ai) (r : ai) (hr : c9 n x' y = some r) : aN Tryz.prog 151 [.agg (ai.c x'), .agg (ai.c y)] (.agg (ai.c r)) := by
 unfold c9 at hr
 refine aN.bd G Tryz.func151 [.cell 4 40] ?_
 unfold Tryz.f151
 simp only [gS]
 refine .seq (.r2 G 9 [(2, .hp 0 0), (3, .hp 1 0), (4, .hp 2 0)] [.own (ai.c x'), .own (ai.c y), .own [aB false, nS]] (.seq ?_))
 obtain ⟨v1, hc2, v3, hc4, hr⟩ := bd2 hr
 refine .tn G (ca1 (ok0 (jI n y v1 hc2)) (ca3 (ok0 (lV n x' v1 v3 hc4)))) (.mu 2 (.ca cf0 (.ca (cfF cf0) (.mu 1 ?_))))
 refine .done ⟨by kernel_rfl, ?_⟩
 refine .nh [4] [.own (ai.c x'), .own (ai.c y), .own (ai.c v3)] (.ret ?_)
 obtain rfl := oi hr
 exact aJ.r1 [.agg (ai.c v3)]

theorem hU (n : Nat) {x' : ai} {y : ai} {x'_ : ai} {y_ : ai} (h : ([.agg [.at (.bool x'.Negative), slT (iC .u32) x'.Groups], .agg [.at (.bool y.Negative), slT (iC .u32) y.Groups]] : List AV) = [.agg [.at (.bool x'_.Negative), slT (iC .u32) x'_.Groups], .agg [.at (.bool y_.Negative), slT (iC .u32) y_.Groups]]) : bO n x' y = bO n x'_ y_ := by
 obtain ⟨rfl, rfl⟩ := pw h
 rfl
theorem df (n : Nat) (x' : ai) (y : ai) (r : ai) (hr : bO n x' y = some r) : aN Tryz.prog 87 [.agg (ai.c x'), .agg (ai.c y)] (.agg (ai.c r)) := by
 unfold bO at hr
 refine aN.bd G Tryz.func87 [.cell 4 40] ?_
 unfold Tryz.f87
 simp only [gS]
 refine .seq (.r2 G 85 [(2, .hp 0 0), (3, .hp 1 0), (4, .hp 2 0)] [.own (ai.c x'), .own (ai.c y), .own [aB false, nS]] (.seq ?_))
 obtain ⟨v1, hc2, v3, hc4, hr⟩ := bd2 hr
 refine .tn G (ca1 (ok0 (cc n x' v1 hc2)) (ca3 (ok0 (cc n y v3 hc4)))) (.mu 1 (.ca cf0 (.mu 1 (.ca (cfA (fun h => by rw [sv hc4 hc2 (gh n h)]) cf0) (.mu 2 ?_)))))
 refine .done ⟨by kernel_rfl, ?_⟩
 refine .nh [2, 3, 4] [.own (ai.c v1), .own (ai.c v3), .own [aB false, nS]] (.seq ?_)
 obtain ⟨hg5, hg6, hg7, hr⟩ := gd3 hr
 refine .r0 G (.mu 7 (.e0 (v := .hs 3 0 (List.replicate (CT ((v1.Groups.length : Int) + (v3.Groups.length : Int))).toNat ((0 : Int) : Int)).length 1) (ws := [(3, .own ((List.replicate (CT ((v1.Groups.length : Int) + (v3.Groups.length : Int))).toNat ((0 : Int) : Int)).flatMap (iC .u32)))]) (tr (l8 (c := (iC .u32)) (z := (0 : Int)) (n := CT ((v1.Groups.length : Int) + (v3.Groups.length : Int))) (by_ := 4) rfl hg5 hg6 hg7)) (.mu 1 (.done (.nh [2, 3, 4, 5] [.own (ai.c v1), .own (ai.c v3), .own [aB false, nS], .own ((List.replicate (CT ((v1.Groups.length : Int) + (v3.Groups.length : Int))).toNat ((0 : Int) : Int)).flatMap (iC .u32))] (.seq (.seq (.r4 G [2, 3, 4, 5] [(6, ae 0)] (.block ?_)))))))))
 replace hr := bd hr; obtain ⟨o_29, hL51, hr⟩ := hr
 refine .aO (σ := fun z0 => match z0 with | (o_8, i_9) => ⟨mkS 85 0 [(2, .hp 0 0), (3, .hp 1 0), (4, .hp 2 0), (5, .hs 3 0 o_8.length 1), (6, ae i_9)], [.own (ai.c v1), .own (ai.c v3), .own [aB false, nS], .own (o_8.flatMap (iC .u32))]⟩) (Q := fun x st' => x = .exit 0 /\ Wk 0 st' ⟨mkS 85 0 [(2, .hp 0 0), (3, .hp 1 0), (4, .hp 2 0), (5, .hs 3 0 o_29.length 1)], [.own (ai.c v1), .own (ai.c v3), .own [aB false, nS], .own (o_29.flatMap (iC .u32))]⟩) hL51 ((Wk.gc [2, 3, 4, 5, 6] [(0, true), (1, true), (2, true), (3, false)] rfl (pKt (pKt (pKt (pKo (iC .u32) (aF _) (List.replicate (CT ((v1.Groups.length : Int) + (v3.Groups.length : Int))).toNat ((0 : Int) : Int)) trivial))))).to) ?_ ?_
 ·clear hr
  rintro m ⟨o_8, i_9⟩ hr
  show CQ _ _ _ _ _ ⟨_, _⟩
  refine .seq (.seq (.r4 G [2, 3, 4, 5, 6] [(26, aB (decide (i_9 < (v1.Groups.length : Int))))] ?_))
  refine .cd hr ?_ ?_ <;> intro hb31 hr
  ·refine .skip (.seq (.block (.seq (.r4 G [2, 3, 4, 5, 6] [(7, cZ 0)] (.seq (.seq (.r4 G [2, 3, 4, 5, 6, 7] [(8, ae 0)] (.block ?_))))))))
   replace hr := bd hr; obtain ⟨o46, hL47, hr⟩ := hr
   refine .aO (σ := fun z0 => match z0 with | (o_32, c_33, j_34) => ⟨mkS 85 0 [(2, .hp 0 0), (3, .hp 1 0), (4, .hp 2 0), (5, .hs 3 0 o_32.length 1), (6, ae i_9), (7, cZ c_33), (8, ae j_34)], [.own (ai.c v1), .own (ai.c v3), .own [aB false, nS], .own (o_32.flatMap (iC .u32))]⟩) (Q := fun x st' => match (generalizing := false) o46 with | (o_39, c_40) => x = .exit 2 /\ Wk 0 st' ⟨mkS 85 0 [(2, .hp 0 0), (3, .hp 1 0), (4, .hp 2 0), (5, .hs 3 0 o_39.length 1), (6, ae i_9), (7, cZ c_40)], [.own (ai.c v1), .own (ai.c v3), .own [aB false, nS], .own (o_39.flatMap (iC .u32))]⟩) hL47 ((Wk.gc [2, 3, 4, 5, 6, 7, 8] [(0, true), (1, true), (2, true), (3, false)] rfl (pKt (pKt (pKt (pKo (iC .u32) (aF _) o_8 trivial))))).to) ?_ ?_
   ·clear hr
    rintro m ⟨o_32, c_33, j_34⟩ hr
    show CQ _ _ _ _ _ ⟨_, _⟩
    refine .seq (.seq (.r4 G [2, 3, 4, 5, 6, 7, 8] [(33, aB (decide (j_34 < (v3.Groups.length : Int))))] ?_))
    refine .cd hr ?_ ?_ <;> intro hb42 hr
    ·refine .skip (.seq (.block (.seq ?_)))
     obtain ⟨hg43, hg44, hg45, hr⟩ := gd3 hr
     refine .eK G bW (.mu 4 (.pure (v := .hp 3 (0 + (CT (i_9 + j_34)).toNat * 1)) (by kernel_rfl) (tr (ar hg43)) (by kernel_rfl) (.pure (v := bB (gt o_32 (CT (i_9 + j_34)))) (by kernel_rfl) (tr (aH (aK (aI .u32) (aD hg43) z1 (by omega : 0 + (CT (i_9 + j_34)).toNat * 1 = (CT (i_9 + j_34)).toNat * 1 + 0) (by kernel_rfl)))) (by kernel_rfl) (.mu 4 (.pure (v := .pp (v1.Groups.flatMap (iC .u32)) (i_9.toNat * 1)) (by kernel_rfl) (tr (ar hg44)) (by kernel_rfl) (.pure (v := bB (gt v1.Groups i_9)) (by kernel_rfl) (tr (aH (aK (aI .u32) (aD hg44) z1 (by omega : i_9.toNat * 1 = i_9.toNat * 1 + 0) (by kernel_rfl)))) (by kernel_rfl) (.mu 4 (.pure (v := .pp (v3.Groups.flatMap (iC .u32)) (j_34.toNat * 1)) (by kernel_rfl) (tr (ar hg45)) (by kernel_rfl) (.pure (v := bB (gt v3.Groups j_34)) (by kernel_rfl) (tr (aH (aK (aI .u32) (aD hg45) z1 (by omega : j_34.toNat * 1 = j_34.toNat * 1 + 0) (by kernel_rfl)))) (by kernel_rfl) (.mu 6 ?_))))))))))
     refine .done ⟨by kernel_rfl, ?_⟩
     refine .nh [2, 3, 4, 5, 6, 8, 9] [.own (ai.c v1), .own (ai.c v3), .own [aB false, nS], .own (o_32.flatMap (iC .u32))] (.seq (.r0 G (.mu 7 (.p0 (v := .hp 3 (0 + (CT (i_9 + j_34)).toNat * 1)) (tr (ar hg43)) (.e0 (v := .unk) (ws := [(3, .own ((o_32.set (CT (i_9 + j_34)).toNat (aa .u32 ((aa .u64 ((aa .u64 ((aa .u64 (gt o_32 (CT (i_9 + j_34)))) + (aa .u64 ((aa .u64 (gt v1.Groups i_9)) * (aa .u64 (gt v3.Groups j_34)))))) + c_33)).tmod 1000000000))).flatMap (iC .u32)))]) (tr (iF (iH (cD (n := 1) (aI .u32) (aD hg43) (lbT rfl) (by omega : 0 + (CT (i_9 + j_34)).toNat * 1 = (CT (i_9 + j_34)).toNat * 1 + 0))) (congrArg Blk.own (c7 (xs := [bB (aa .u32 ((aa .u64 ((aa .u64 ((aa .u64 (gt o_32 (CT (i_9 + j_34)))) + (aa .u64 ((aa .u64 (gt v1.Groups i_9)) * (aa .u64 (gt v3.Groups j_34)))))) + c_33)).tmod 1000000000))]) (aI .u32) (aD hg43) (lbT rfl) (by omega : 0 + (CT (i_9 + j_34)).toNat * 1 = (CT (i_9 + j_34)).toNat * 1 + 0) (by kernel_rfl))))) (.done (.nh [2, 3, 4, 5, 6, 8, 9] [.own (ai.c v1), .own (ai.c v3), .own [aB false, nS], .own ((o_32.set (CT (i_9 + j_34)).toNat (aa .u32 ((aa .u64 ((aa .u64 ((aa .u64 (gt o_32 (CT (i_9 + j_34)))) + (aa .u64 ((aa .u64 (gt v1.Groups i_9)) * (aa .u64 (gt v3.Groups j_34)))))) + c_33)).tmod 1000000000))).flatMap (iC .u32))] (.ru G (.pop (.ru G ?_))))))))))
     exact aA (o_32.set (CT (i_9 + j_34)).toNat (aa .u32 ((aa .u64 ((aa .u64 ((aa .u64 (gt o_32 (CT (i_9 + j_34)))) + (aa .u64 ((aa .u64 (gt v1.Groups i_9)) * (aa .u64 (gt v3.Groups j_34)))))) + c_33)).tmod 1000000000)), aa .u64 ((aa .u64 ((aa .u64 ((aa .u64 (gt o_32 (CT (i_9 + j_34)))) + (aa .u64 ((aa .u64 (gt v1.Groups i_9)) * (aa .u64 (gt v3.Groups j_34)))))) + c_33)).tdiv 1000000000), CT (j_34 + 1)) hr ((Wk.iJ 5 (b := 3) (es := 1) (len := o_32.length) (o_32.set (CT (i_9 + j_34)).toNat (aa .u32 ((aa .u64 ((aa .u64 ((aa .u64 (gt o_32 (CT (i_9 + j_34)))) + (aa .u64 ((aa .u64 (gt v1.Groups i_9)) * (aa .u64 (gt v3.Groups j_34)))))) + c_33)).tmod 1000000000))).length (by kernel_rfl) (Eq.symm (List.length_set.trans rfl))).trans ((Wk.gc [2, 3, 4, 5, 6, 7, 8] [(0, true), (1, true), (2, true), (3, false)] rfl (pKt (pKt (pKt (pKo (iC .u32) (aF _) (o_32.set (CT (i_9 + j_34)).toNat (aa .u32 ((aa .u64 ((aa .u64 ((aa .u64 (gt o_32 (CT (i_9 + j_34)))) + (aa .u64 ((aa .u64 (gt v1.Groups i_9)) * (aa .u64 (gt v3.Groups j_34)))))) + c_33)).tmod 1000000000))) trivial))))).to))
    refine .leave rfl ?_
    obtain rfl := oi hr
    exact ⟨rfl, ((Wk.gc [2, 3, 4, 5, 6, 7] [(0, true), (1, true), (2, true), (3, false)] rfl (pKt (pKt (pKt (pKo (iC .u32) (aF _) o_32 trivial))))).to)⟩
   rcases o46 with ⟨o_39, c_40⟩
   rintro x st' hq48
   clear hL47
   obtain ⟨rfl, hq48⟩ := hq48
   refine a9 _ rfl (.wk hq48 ?_)
   obtain ⟨hg49, hr⟩ := gd hr
   refine .r0 G (.mu 8 (.p0 (v := .hp 3 (0 + (CT (i_9 + (v3.Groups.length : Int))).toNat * 1)) (tr (ar hg49)) (.e0 (v := .unk) (ws := [(3, .own ((o_39.set (CT (i_9 + (v3.Groups.length : Int))).toNat (aa .u32 c_40)).flatMap (iC .u32)))]) (tr (iF (iH (cD (n := 1) (aI .u32) (aD hg49) (lbT rfl) (by omega : 0 + (CT (i_9 + (v3.Groups.length : Int))).toNat * 1 = (CT (i_9 + (v3.Groups.length : Int))).toNat * 1 + 0))) (congrArg Blk.own (c7 (xs := [bB (aa .u32 c_40)]) (aI .u32) (aD hg49) (lbT rfl) (by omega : 0 + (CT (i_9 + (v3.Groups.length : Int))).toNat * 1 = (CT (i_9 + (v3.Groups.length : Int))).toNat * 1 + 0) (by kernel_rfl))))) (.done (.pop (.ru G ?_))))))
   exact aA (o_39.set (CT (i_9 + (v3.Groups.length : Int))).toNat (aa .u32 c_40), CT (i_9 + 1)) hr ((Wk.iJ 5 (b := 3) (es := 1) (len := o_39.length) (o_39.set (CT (i_9 + (v3.Groups.length : Int))).toNat (aa .u32 c_40)).length (by kernel_rfl) (Eq.symm (List.length_set.trans rfl))).trans ((Wk.gc [2, 3, 4, 5, 6] [(0, true), (1, true), (2, true), (3, false)] rfl (pKt (pKt (pKt (pKo (iC .u32) (aF _) (o_39.set (CT (i_9 + (v3.Groups.length : Int))).toNat (aa .u32 c_40)) trivial))))).to))
  refine .leave rfl ?_
  obtain rfl := oi hr
  exact ⟨rfl, ((Wk.gc [2, 3, 4, 5] [(0, true), (1, true), (2, true), (3, false)] rfl (pKt (pKt (pKt (pKo (iC .u32) (aF _) o_8 trivial))))).to)⟩
 rintro x st' hq52
 clear hL51
 obtain ⟨rfl, hq52⟩ := hq52
 refine a9 _ rfl (.wk hq52 (.seq ?_))
 obtain ⟨v53, hc54, hr⟩ := bd hr
 refine .g1 G (cR (args := [aB (v1.Negative != v3.Negative), .hs 3 0 o_29.length 1]) (l := [3]) (Sp (SnL.cons (Sn.hs rfl (.inl rfl) (SnC.pure (bc (aF _) _)) (fun h => cP h)) SnL.nil)) (ba n (v1.Negative != v3.Negative) o_29 v53 hc54)) (.mu 6 (.ca cf0 (.mu 1 (.done (.nh [4] [.own (ai.c v1), .own (ai.c v3), .own (ai.c v53), .fix (o_29.flatMap (iC .u32))] (.ret ?_))))))
 obtain rfl := oi hr
 exact aJ.r1 [.agg (ai.c v53)]

theorem fP (n : Nat) (x' : ai) (y : ai) (r : ai × ai × Int) (hr : de n x' y = some r) : aN Tryz.prog 127 [.agg (ai.c x'), .agg (ai.c y)] (.tup [.agg (ai.c r.1), .agg (ai.c r.2.1), ae r.2.2]) := by
 unfold de at hr
 refine aN.bd G Tryz.func127 [.cell 4 40, .cell 5 40, .tmp 6] ?_
 unfold Tryz.f127
 simp only [gS]
 refine .seq (.r2 G 54 [(2, .hp 0 0), (3, .hp 1 0), (4, .hp 2 0), (5, .hp 3 0)] [.own (ai.c x'), .own (ai.c y), .own [aB false, nS], .own [aB false, nS]] (.seq ?_))
 obtain ⟨v1, hc2, v3, hc4, hr⟩ := bd2 hr
 refine .tn G (ca1 (ok0 (cc n x' v1 hc2)) (ca3 (ok0 (cc n y v3 hc4)))) (.mu 1 (.ca cf0 (.mu 1 (.ca (cfA (fun h => by rw [sv hc4 hc2 (gh n h)]) cf0) (.mu 2 ?_)))))
 refine .done ⟨by kernel_rfl, ?_⟩
 refine .nh [2, 3, 4, 5] [.own (ai.c v1), .own (ai.c v3), .own [aB false, nS], .own [aB false, nS]] (.seq (.seq (.r4 G [2, 3, 4, 5] [(17, aB (((v3.Groups.length : Int) : Int) == 0))] ?_)))
 refine .cd hr ?_ ?_ <;> intro hb5 hr
 ·refine .seq (.r4 G [4, 5] [(6, ae 14)] (.ret ?_))
  obtain rfl := oi hr
  exact aJ.ret (vs := [.agg [aB false, nS], .agg [aB false, nS], ae 14]) (by kernel_rfl) (Sn.tup (SnL.cons (Sn.agg (Sp (SnL.cons Sn.cX SnL.nil))) (SnL.cons (Sn.agg (Sp (SnL.cons Sn.cX SnL.nil))) (Sp SnL.nil))))
 refine .skip (.seq ?_)
 obtain ⟨v6, hc7, hr⟩ := bd hr
 refine .g1 G (ok0 (ja n v1.Groups v3.Groups v6 hc7)) (.mu 4 (.ca cf0 (.mu 5 (.done (.nh [2, 3, 4, 5, 7, 8] [.own (ai.c v1), .own (ai.c v3), .own [aB false, nS], .own [aB false, nS]] (.seq ?_))))))
 obtain ⟨v8, hc9, hr⟩ := bd hr
 refine .g1 G (ok0 (ba n (v1.Negative != v3.Negative) v6.1 v8 hc9)) (.mu 6 (.ca cf0 (.mu 2 (.done (.nh [2, 3, 4, 5, 8, 9] [.own (ai.c v1), .own (ai.c v3), .own [aB false, nS], .own [aB false, nS], .own (ai.c v8)] (.seq (.seq ?_)))))))
 rcases bT (v1.Negative != v3.Negative) with hb10 | hb10
 ·replace hr := cy hb10 hr
  refine .r0 G (.mu 4 (.p0 (v := aB true) (eB hb10) (.mu 5 (.done (.nh [2, 3, 4, 5, 9, 44] [.own (ai.c v1), .own (ai.c v3), .own [aB false, nS], .own [aB false, nS], .own (ai.c v8)] ?_)))))
  refine .cd hr ?_ ?_ <;> intro hb11 hr
  ·obtain ⟨v12, hc13, v14, hc15, hr⟩ := bd2 hr
   refine .tn G (ca1 (ok0 (mC n 1 v12 hc13)) (ca3 (ok0 (fL n v8 v12 v14 hc15)))) (.mu 1 (.ca cf0 (.ca (cfF cf0) (.mu 1 ?_))))
   refine .done ⟨by kernel_rfl, ?_⟩
   refine .nh [2, 3, 4, 5, 9] [.own (ai.c v1), .own (ai.c v3), .own [aB false, nS], .own [aB false, nS], .own (ai.c v14)] (.seq ?_)
   obtain ⟨v16, hc17, v18, hc19, hr⟩ := bd2 hr
   refine .tn G (ca1 (ok0 (df n v14 v3 v16 hc17)) (ca3 (ok0 (fL n v1 v16 v18 hc19)))) (.mu 4 (.ca cf0 (.ca (cfF cf0) (.mu 3 ?_))))
   refine .done ⟨by kernel_rfl, ?_⟩
   refine .nh [4, 5, 6] [.own (ai.c v1), .own (ai.c v3), .own (ai.c v14), .own (ai.c v18), .own (ai.c v14)] (.ret ?_)
   obtain rfl := oi hr
   exact aJ.ret (vs := [.agg (ai.c v14), .agg (ai.c v18), ae 0]) (by kernel_rfl) (Sn.tup (Sp (Sp (Sp SnL.nil))))
  refine .skip (.seq ?_)
  obtain ⟨v20, hc21, v22, hc23, hr⟩ := bd2 hr
  refine .tn G (ca1 (ok0 (df n v8 v3 v20 hc21)) (ca3 (ok0 (fL n v1 v20 v22 hc23)))) (.mu 4 (.ca cf0 (.ca (cfF cf0) (.mu 3 ?_))))
  refine .done ⟨by kernel_rfl, ?_⟩
  refine .nh [4, 5, 6] [.own (ai.c v1), .own (ai.c v3), .own (ai.c v8), .own (ai.c v22), .own (ai.c v8)] (.ret ?_)
  obtain rfl := oi hr
  exact aJ.ret (vs := [.agg (ai.c v8), .agg (ai.c v22), ae 0]) (by kernel_rfl) (Sn.tup (Sp (Sp (Sp SnL.nil))))
 replace hr := cA hb10 hr
 refine .r0 G (.mu 4 (.p0 (v := aB false) (eB hb10) (.mu 5 (.done (.nh [2, 3, 4, 5, 9, 44] [.own (ai.c v1), .own (ai.c v3), .own [aB false, nS], .own [aB false, nS], .own (ai.c v8)] (.cF (by kernel_rfl) (.skip (.seq ?_))))))))
 obtain ⟨v24, hc25, v26, hc27, hr⟩ := bd2 hr
 refine .tn G (ca1 (ok0 (df n v8 v3 v24 hc25)) (ca3 (ok0 (fL n v1 v24 v26 hc27)))) (.mu 4 (.ca cf0 (.ca (cfF cf0) (.mu 3 ?_))))
 refine .done ⟨by kernel_rfl, ?_⟩
 refine .nh [4, 5, 6] [.own (ai.c v1), .own (ai.c v3), .own (ai.c v8), .own (ai.c v26), .own (ai.c v8)] (.ret ?_)
 obtain rfl := oi hr
 exact aJ.ret (vs := [.agg (ai.c v8), .agg (ai.c v26), ae 0]) (by kernel_rfl) (Sn.tup (Sp (Sp (Sp SnL.nil))))

theorem ik (n : Nat) (num : ai) (den : ai) (r : ak) (hr : dE n num den = some r) : aN Tryz.prog 86 [.agg (ai.c num), .agg (ai.c den)] (.agg (ak.c r)) := by
 unfold dE at hr
 refine aN.bd G Tryz.func86 [.cell 4 42] ?_
 unfold Tryz.f86
 simp only [gS]
 refine .seq (.r2 G 37 [(2, .hp 0 0), (3, .hp 1 0), (4, .hp 2 0)] [.own (ai.c num), .own (ai.c den), .own [aB false, nS, aB false, nS]] (.seq ?_))
 obtain ⟨v1, hc2, hr⟩ := bd hr
 refine .g1 G (ok0 (l9 n num den v1 hc2)) (.mu 2 (.ca cf0 (.mu 2 (.done (.nh [2, 3, 4, 5] [.own (ai.c num), .own (ai.c den), .own [aB false, nS, aB false, nS], .own (ai.c v1)] (.seq (.seq ?_)))))))
 obtain ⟨v3, hc4, hr⟩ := bd hr
 refine .g1 G (ok0 (fu n den v3 hc4)) (.mu 1 (.ca cf0 (.mu 1 (.done (.nh [2, 3, 4, 5, 17] [.own (ai.c num), .own (ai.c den), .own [aB false, nS, aB false, nS], .own (ai.c v1)] ?_)))))
 refine .cd hr ?_ ?_ <;> intro hb5 hr
 ·obtain ⟨v6, hc7, hr⟩ := bd hr
  refine .g1 G (ok0 (jI n v1 v6 hc7)) (.mu 1 (.ca cf0 (.mu 1 (.done (.nh [2, 3, 4, 5] [.own (ai.c num), .own (ai.c den), .own [aB false, nS, aB false, nS], .own (ai.c v6)] (.seq ?_))))))
  obtain ⟨v8, hc9, hr⟩ := bd hr
  refine .g1 G (ok0 (fP n num v6 v8 hc9)) (.mu 2 (.ca cf0 (.mu 9 (.done (.nh [3, 4, 5, 6] [.own (ai.c num), .own (ai.c den), .own [aB false, nS, aB false, nS], .own (ai.c v6), .own (ai.c v8.1), .own (ai.c v8.2.1)] (.seq ?_))))))
  obtain ⟨v10, hc11, hr⟩ := bd hr
  refine .g1 G (ok0 (fP n den v6 v10 hc11)) (.mu 2 (.ca cf0 (.mu 9 (.done (.nh [4, 6, 9] [.own (ai.c num), .own (ai.c den), .own [aB false, nS, aB false, nS], .own (ai.c v6), .own (ai.c v8.1), .own (ai.c v8.2.1), .own (ai.c v10.1), .own (ai.c v10.2.1)] (.seq (.r5 G [4] [] [.own (ai.c num), .own (ai.c den), .own [aB v8.1.Negative, au v8.1.Groups, aB v10.1.Negative, au v10.1.Groups], .own (ai.c v6), .own (ai.c v8.1), .own (ai.c v8.2.1), .own (ai.c v10.1), .own (ai.c v10.2.1)] (.ret ?_))))))))
  obtain rfl := oi hr
  exact aJ.r1 [.agg [aB v8.1.Negative, au v8.1.Groups, aB v10.1.Negative, au v10.1.Groups]]
 refine .skip (.seq ?_)
 obtain ⟨v12, hc13, hr⟩ := bd hr
 refine .g1 G (ok0 (fP n num v1 v12 hc13)) (.mu 2 (.ca cf0 (.mu 9 (.done (.nh [3, 4, 5, 6] [.own (ai.c num), .own (ai.c den), .own [aB false, nS, aB false, nS], .own (ai.c v1), .own (ai.c v12.1), .own (ai.c v12.2.1)] (.seq ?_))))))
 obtain ⟨v14, hc15, hr⟩ := bd hr
 refine .g1 G (ok0 (fP n den v1 v14 hc15)) (.mu 2 (.ca cf0 (.mu 9 (.done (.nh [4, 6, 9] [.own (ai.c num), .own (ai.c den), .own [aB false, nS, aB false, nS], .own (ai.c v1), .own (ai.c v12.1), .own (ai.c v12.2.1), .own (ai.c v14.1), .own (ai.c v14.2.1)] (.seq (.r5 G [4] [] [.own (ai.c num), .own (ai.c den), .own [aB v12.1.Negative, au v12.1.Groups, aB v14.1.Negative, au v14.1.Groups], .own (ai.c v1), .own (ai.c v12.1), .own (ai.c v12.2.1), .own (ai.c v14.1), .own (ai.c v14.2.1)] (.ret ?_))))))))
 obtain rfl := oi hr
 exact aJ.r1 [.agg [aB v12.1.Negative, au v12.1.Groups, aB v14.1.Negative, au v14.1.Groups]]

theorem qe (n : Nat) (num : ai) (den : ai) (r : ak × Int) (hr : kR n num den = some r) : aN Tryz.prog 82 [.agg (ai.c num), .agg (ai.c den)] (.tup [.agg (ak.c r.1), ae r.2]) := by
 unfold kR at hr
 refine aN.bd G Tryz.func82 [.cell 4 42, .tmp 5] ?_
 unfold Tryz.f82
 simp only [gS]
 refine .seq (.r2 G 13 [(2, .hp 0 0), (3, .hp 1 0), (4, .hp 2 0)] [.own (ai.c num), .own (ai.c den), .own [aB false, nS, aB false, nS]] (.seq (.seq ?_)))
 obtain ⟨v1, hc2, hr⟩ := bd hr
 refine .g1 G (ok0 (fu n den v1 hc2)) (.mu 1 (.ca cf0 (.mu 1 (.done (.nh [2, 3, 4, 8] [.own (ai.c num), .own (ai.c den), .own [aB false, nS, aB false, nS]] ?_)))))
 refine .cd hr ?_ ?_ <;> intro hb3 hr
 ·refine .seq (.r4 G [4] [(5, ae 14)] (.ret ?_))
  obtain rfl := oi hr
  exact aJ.ret (vs := [.agg [aB false, nS, aB false, nS], ae 14]) (by kernel_rfl) (Sn.tup (SnL.cons (Sn.agg (Sp (SnL.cons Sn.cX (Sp (SnL.cons Sn.cX SnL.nil))))) (Sp SnL.nil)))
 refine .skip (.seq ?_)
 obtain ⟨v4, hc5, hr⟩ := bd hr
 refine .g1 G (ok0 (ik n num den v4 hc5)) (.mu 2 (.ca cf0 (.mu 2 (.done (.nh [4, 5] [.own (ai.c num), .own (ai.c den), .own (ak.c v4)] (.ret ?_))))))
 obtain rfl := oi hr
 exact aJ.ret (vs := [.agg (ak.c v4), ae 0]) (by kernel_rfl) (Sn.tup (Sp (Sp SnL.nil)))

theorem qA (n : Nat) (n' : Int) (d : Int) (r : ak × Int) (hr : lL n n' d = some r) : aN Tryz.prog 36 [ae n', ae d] (.tup [.agg (ak.c r.1), ae r.2]) := by
 unfold lL at hr
 refine aN.bd G Tryz.func36 [.cell 4 42, .tmp 5] ?_
 unfold Tryz.f36
 simp only [gS]
 refine .seq (.r5 G [0, 1] [(4, .hp 0 0)] [.own [aB false, nS, aB false, nS]] (.seq ?_))
 obtain ⟨v1, hc2, v3, hc4, v5, hc6, hr⟩ := bd3 hr
 refine .gn G (ca1 (ok0 (eY n n' v1 hc2)) (ca1 (ok0 (eY n d v3 hc4)) (ca3 (ok0 (qe n v1 v3 v5 hc6))))) (.mu 1 (.ca cf0 (.mu 1 (.ca (cfA (fun h => by rw [sv hc4 hc2 (kI n h)]) cf0) (.ca (cfF (cfF cf0)) (.mu 4 (.done (.nh [4, 5] [.own (ak.c v5.1)] (.ret ?_)))))))))
 obtain rfl := oi hr
 exact aJ.ret (vs := [.agg (ak.c v5.1), ae v5.2]) (by kernel_rfl) (Sn.tup (Sp (Sp SnL.nil)))

theorem n4 (n : Nat) (x' : ai) (y : ai) (r : Int) (hr : dD n x' y = some r) : aN Tryz.prog 114 [.agg (ai.c x'), .agg (ai.c y)] (ae r) := by
 unfold dD at hr
 refine aN.bd G Tryz.func114 [.tmp 4] ?_
 unfold Tryz.f114
 simp only [gS]
 refine .seq (.r2 G 9 [(2, .hp 0 0), (3, .hp 1 0)] [.own (ai.c x'), .own (ai.c y)] (.seq ?_))
 obtain ⟨v1, hc2, v3, hc4, hr⟩ := bd2 hr
 refine .gn G (ca1 (ok0 (fL n x' y v1 hc2)) (ca3 (ok0 (fu n v1 v3 hc4)))) (.mu 2 (.ca cf0 (.ca (cfF cf0) (.mu 1 (.done (.ret ?_))))))
 obtain rfl := oi hr
 exact aJ.r1 [ae v3]

theorem kY (n : Nat) {x' : ak} {x'_ : ak} (h : ([.agg [.at (.bool x'.Num.Negative), slT (iC .u32) x'.Num.Groups, .at (.bool x'.Den.Negative), slT (iC .u32) x'.Den.Groups]] : List AV) = [.agg [.at (.bool x'_.Num.Negative), slT (iC .u32) x'_.Num.Groups, .at (.bool x'_.Den.Negative), slT (iC .u32) x'_.Den.Groups]]) : bE n x' = bE n x'_ := by
 obtain rfl := gD h
 rfl
theorem dj (n : Nat) (x' : ak) (r : Bool) (hr : bE n x' = some r) : aN Tryz.prog 69 [.agg (ak.c x')] (aB r) := by
 unfold bE at hr
 refine aN.bd G Tryz.func69 [.tmp 2] ?_
 unfold Tryz.f69
 simp only [gS]
 refine .seq (.r2 G 27 [(1, .hp 0 0)] [.own (ak.c x')] (.seq (.seq ?_)))
 obtain ⟨v1, hc2, hr⟩ := bd hr
 rcases bT (!v1) with hb3 | hb3
 ·replace hr := cy hb3 hr
  refine .g1 G (ok0 (dV n x'.Num v1 hc2)) (.mu 2 (.ca cf0 (.p0 (v := aB true) (eB hb3) (.mu 12 (.done (.nh [1, 18] [.own (ak.c x')] (.cT (by kernel_rfl) (.seq (.ru G (.ret ?_))))))))))
  obtain rfl := oi hr
  exact aJ.r1 [aB false]
 replace hr := cA hb3 hr
 obtain ⟨v4, hc5, hr⟩ := bd hr
 rcases bT (!v4) with hb6 | hb6
 ·replace hr := cy hb6 hr
  refine .gn G (ca1 (ok0 (dV n x'.Num v1 hc2)) (ca3 (ok0 (dV n x'.Den v4 hc5)))) (.mu 2 (.ca cf0 (.p0 (v := aB false) (eB hb3) (.mu 3 (.ca (cfA (fun h => by rw [sv hc5 hc2 (kX n h)]) cf0) (.pure (v := aB true) (by kernel_rfl) (eB hb6) (.mu 7 (.done (.nh [1, 18] [.own (ak.c x')] (.cT (by kernel_rfl) (.seq (.ru G (.ret ?_)))))))))))))
  obtain rfl := oi hr
  exact aJ.r1 [aB false]
 replace hr := cA hb6 hr
 obtain ⟨v7, hc8, hr⟩ := bd hr
 refine .gn G (ca1 (ok0 (dV n x'.Num v1 hc2)) (ca1 (ok0 (dV n x'.Den v4 hc5)) (ca3 (ok0 (fu n x'.Den v7 hc8))))) (.mu 2 (.ca cf0 (.p0 (v := aB false) (eB hb3) (.mu 3 (.ca (cfA (fun h => by rw [sv hc5 hc2 (kX n h)]) cf0) (.pure (v := aB false) (by kernel_rfl) (eB hb6) (.mu 4 (.ca (cfF (cfF cf0)) (.mu 2 (.done (.nh [1, 18] [.own (ak.c x')] ?_)))))))))))
 refine .cd hr ?_ ?_ <;> intro hb9 hr
 ·refine .seq (.ru G (.ret ?_))
  obtain rfl := oi hr
  exact aJ.r1 [aB false]
 refine .skip (.seq ?_)
 obtain ⟨v10, hc11, v12, hc13, v14, hc15, hr⟩ := bd3 hr
 refine .gn G (ca1 (ok0 (l9 n x'.Num x'.Den v10 hc11)) (ca1 (ok0 (eY n 1 v12 hc13)) (ca3 (ok0 (n4 n v10 v12 v14 hc15))))) (.mu 4 (.ca cf0 (.ca (cfF cf0) (.ca (cfF (cfF cf0)) (.mu 2 (.done (.ret ?_)))))))
 obtain rfl := oi hr
 exact aJ.r1 [aB ((v14 : Int) == 0)]

theorem ph (n : Nat) {n' : Int} {n'_ : Int} (h : ([.at (.int .i64 n')] : List AV) = [.at (.int .i64 n'_)]) : bU n n' = bU n n'_ := by
 obtain rfl := ei h
 rfl
theorem gb (n : Nat) (n' : Int) (r : ak) (hr : bU n n' = some r) : aN Tryz.prog 65 [ae n'] (.agg (ak.c r)) := by
 unfold bU at hr
 refine aN.bd G Tryz.func65 [.cell 2 42] ?_
 unfold Tryz.f65
 simp only [gS]
 refine .seq (.r5 G [0] [(2, .hp 0 0)] [.own [aB false, nS, aB false, nS]] (.seq ?_))
 obtain ⟨v1, hc2, v3, hc4, hr⟩ := bd2 hr
 refine .gn G (ca1 (ok0 (eY n n' v1 hc2)) (ca3 (ok0 (eY n 1 v3 hc4)))) (.mu 1 (.ca cf0 (.ca (cfA (fun h => by rw [sv hc4 hc2 (kI n h)]) cf0) (.mu 2 (.done (.nh [2] [.own [aB v1.Negative, au v1.Groups, aB v3.Negative, au v3.Groups]] (.ret ?_)))))))
 obtain rfl := oi hr
 exact aJ.r1 [.agg [aB v1.Negative, au v1.Groups, aB v3.Negative, au v3.Groups]]

theorem dY (n : Nat) (x' : ak) (r : ak) (hr : cM n x' = some r) : aN Tryz.prog 85 [.agg (ak.c x')] (.agg (ak.c r)) := by
 unfold cM at hr
 refine aN.bd G Tryz.func85 [.cell 2 42] ?_
 unfold Tryz.f85
 simp only [gS]
 refine .seq (.r2 G 7 [(1, .hp 0 0), (2, .hp 1 0)] [.own (ak.c x'), .own [aB false, nS, aB false, nS]] (.seq (.seq ?_)))
 obtain ⟨v1, hc2, hr⟩ := bd hr
 refine .g1 G (ok0 (dj n x' v1 hc2)) (.mu 1 (.ca cf0 (.done (.nh [1, 2, 4] [.own (ak.c x'), .own [aB false, nS, aB false, nS]] ?_))))
 refine .cd hr ?_ ?_ <;> intro hb3 hr
 ·refine .seq (.r5 G [2] [] [.own (ak.c x'), .own (ak.c x')] (.ret ?_))
  obtain rfl := oi hr
  exact aJ.r1 [.agg (ak.c x')]
 refine .skip (.seq ?_)
 obtain ⟨v4, hc5, hr⟩ := bd hr
 refine .g1 G (ok0 (gb n 0 v4 hc5)) (.ca cf0 (.mu 1 (.done (.nh [2] [.own (ak.c x'), .own (ak.c v4)] (.ret ?_)))))
 obtain rfl := oi hr
 exact aJ.r1 [.agg (ak.c v4)]

theorem p8 (n : Nat) (x' : ak) (r : ak) (hr : ig n x' = some r) : aN Tryz.prog 84 [.agg (ak.c x')] (.agg (ak.c r)) := by
 unfold ig at hr
 refine aN.bd G Tryz.func84 [.cell 2 42] ?_
 unfold Tryz.f84
 simp only [gS]
 refine .seq (.r2 G 12 [(1, .hp 0 0), (2, .hp 1 0)] [.own (ak.c x'), .own [aB false, nS, aB false, nS]] (.seq ?_))
 obtain ⟨v1, hc2, hr⟩ := bd hr
 refine .g1 G (ok0 (dY n x' v1 hc2)) (.mu 1 (.ca cf0 (.mu 2 (.done (.nh [2, 3] [.own (ak.c x'), .own [aB false, nS, aB false, nS], .own (ak.c v1)] (.seq ?_))))))
 obtain ⟨v3, hc4, hr⟩ := bd hr
 refine .t1 G (ok0 (jI n v1.Num v3 hc4)) (.mu 2 (.ca cf0 (.mu 4 ?_)))
 refine .done ⟨by kernel_rfl, ?_⟩
 refine .nh [2] [.own (ak.c x'), .own [aB v3.Negative, au v3.Groups, aB v1.Den.Negative, au v1.Den.Groups], .own (ak.c v1)] (.ret ?_)
 obtain rfl := oi hr
 exact aJ.r1 [.agg [aB v3.Negative, au v3.Groups, aB v1.Den.Negative, au v1.Den.Groups]]

theorem pV (n : Nat) {x' : ak} {y : ak} {x'_ : ak} {y_ : ak} (h : ([.agg [.at (.bool x'.Num.Negative), slT (iC .u32) x'.Num.Groups, .at (.bool x'.Den.Negative), slT (iC .u32) x'.Den.Groups], .agg [.at (.bool y.Num.Negative), slT (iC .u32) y.Num.Groups, .at (.bool y.Den.Negative), slT (iC .u32) y.Den.Groups]] : List AV) = [.agg [.at (.bool x'_.Num.Negative), slT (iC .u32) x'_.Num.Groups, .at (.bool x'_.Den.Negative), slT (iC .u32) x'_.Den.Groups], .agg [.at (.bool y_.Num.Negative), slT (iC .u32) y_.Num.Groups, .at (.bool y_.Den.Negative), slT (iC .u32) y_.Den.Groups]]) : bY n x' y = bY n x'_ y_ := by
 obtain ⟨rfl, rfl⟩ := gw h
 rfl
theorem jO (n : Nat) (x' : ak) (y : ak) (r : ak) (hr : bY n x' y = some r) : aN Tryz.prog 71 [.agg (ak.c x'), .agg (ak.c y)] (.agg (ak.c r)) := by
 unfold bY at hr
 refine aN.bd G Tryz.func71 [.cell 4 42] ?_
 unfold Tryz.f71
 simp only [gS]
 refine .seq (.r2 G 28 [(2, .hp 0 0), (3, .hp 1 0), (4, .hp 2 0)] [.own (ak.c x'), .own (ak.c y), .own [aB false, nS, aB false, nS]] (.seq ?_))
 obtain ⟨v1, hc2, hr⟩ := bd hr
 refine .g1 G (ok0 (dY n x' v1 hc2)) (.mu 1 (.ca cf0 (.mu 2 (.done (.nh [3, 4, 5] [.own (ak.c x'), .own (ak.c y), .own [aB false, nS, aB false, nS], .own (ak.c v1)] (.seq ?_))))))
 obtain ⟨v3, hc4, hr⟩ := bd hr
 refine .g1 G (ok0 (dY n y v3 hc4)) (.mu 1 (.ca cf0 (.mu 2 (.done (.nh [4, 5, 6] [.own (ak.c x'), .own (ak.c y), .own [aB false, nS, aB false, nS], .own (ak.c v1), .own (ak.c v3)] (.seq ?_))))))
 obtain ⟨v5, hc6, v7, hc8, v9, hc10, hr⟩ := bd3 hr
 obtain ⟨v11, hc12, v13, hc14, hr⟩ := bd2 hr
 refine .tn G (ca1 (ok0 (df n v1.Num v3.Den v5 hc6)) (ca1 (ok0 (df n v3.Num v1.Den v7 hc8)) (ca1 (ok0 (lV n v5 v7 v9 hc10)) (ca1 (ok0 (df n v1.Den v3.Den v11 hc12)) (ca3 (ok0 (ik n v9 v11 v13 hc14))))))) (.mu 4 (.ca cf0 (.mu 4 (.ca (cfA (fun h => by rw [sv hc8 hc6 (hU n h)]) cf0) (.ca (cfF (cfF cf0)) (.mu 4 (.ca (cfA (fun h => by rw [sv hc12 hc6 (hU n h)]) (cfA (fun h => by rw [sv hc12 hc8 (hU n h)]) (cfF cf0))) (.ca (cfF (cfF (cfF (cfF cf0)))) (.mu 1 ?_)))))))))
 refine .done ⟨by kernel_rfl, ?_⟩
 refine .nh [4] [.own (ak.c x'), .own (ak.c y), .own (ak.c v13), .own (ak.c v1), .own (ak.c v3)] (.ret ?_)
 obtain rfl := oi hr
 exact aJ.r1 [.agg (ak.c v13)]

theorem qc (n : Nat) {x' : ak} {y : ak} {x'_ : ak} {y_ : ak} (h : ([.agg [.at (.bool x'.Num.Negative), slT (iC .u32) x'.Num.Groups, .at (.bool x'.Den.Negative), slT (iC .u32) x'.Den.Groups], .agg [.at (.bool y.Num.Negative), slT (iC .u32) y.Num.Groups, .at (.bool y.Den.Negative), slT (iC .u32) y.Den.Groups]] : List AV) = [.agg [.at (.bool x'_.Num.Negative), slT (iC .u32) x'_.Num.Groups, .at (.bool x'_.Den.Negative), slT (iC .u32) x'_.Den.Groups], .agg [.at (.bool y_.Num.Negative), slT (iC .u32) y_.Num.Groups, .at (.bool y_.Den.Negative), slT (iC .u32) y_.Den.Groups]]) : bZ n x' y = bZ n x'_ y_ := by
 obtain ⟨rfl, rfl⟩ := gw h
 rfl
theorem jN (n : Nat) (x' : ak) (y : ak) (r : ak) (hr : bZ n x' y = some r) : aN Tryz.prog 37 [.agg (ak.c x'), .agg (ak.c y)] (.agg (ak.c r)) := by
 unfold bZ at hr
 refine aN.bd G Tryz.func37 [.cell 4 42] ?_
 unfold Tryz.f37
 simp only [gS]
 refine .seq (.r2 G 9 [(2, .hp 0 0), (3, .hp 1 0), (4, .hp 2 0)] [.own (ak.c x'), .own (ak.c y), .own [aB false, nS, aB false, nS]] (.seq ?_))
 obtain ⟨v1, hc2, v3, hc4, hr⟩ := bd2 hr
 refine .tn G (ca1 (ok0 (p8 n y v1 hc2)) (ca3 (ok0 (jO n x' v1 v3 hc4)))) (.mu 2 (.ca cf0 (.ca (cfF cf0) (.mu 1 ?_))))
 refine .done ⟨by kernel_rfl, ?_⟩
 refine .nh [4] [.own (ak.c x'), .own (ak.c y), .own (ak.c v3)] (.ret ?_)
 obtain rfl := oi hr
 exact aJ.r1 [.agg (ak.c v3)]

theorem jw (n : Nat) (x' : ak) (r : Int) (hr : cS n x' = some r) : aN Tryz.prog 70 [.agg (ak.c x')] (ae r) := by
 unfold cS at hr
 refine aN.bd G Tryz.func70 [.tmp 2] ?_
 unfold Tryz.f70
 simp only [gS]
 refine .seq (.r2 G 7 [(1, .hp 0 0)] [.own (ak.c x')] (.seq ?_))
 obtain ⟨v1, hc2, v3, hc4, hr⟩ := bd2 hr
 refine .gn G (ca1 (ok0 (dY n x' v1 hc2)) (ca3 (ok0 (fu n v1.Num v3 hc4)))) (.mu 1 (.ca cf0 (.mu 1 (.ca (cfF cf0) (.mu 1 (.done (.ret ?_)))))))
 obtain rfl := oi hr
 exact aJ.r1 [ae v3]

theorem j1 (n : Nat) (x' : ak) (y : ak) (r : Int) (hr : cJ n x' y = some r) : aN Tryz.prog 38 [.agg (ak.c x'), .agg (ak.c y)] (ae r) := by
 unfold cJ at hr
 refine aN.bd G Tryz.func38 [.tmp 4] ?_
 unfold Tryz.f38
 simp only [gS]
 refine .seq (.r2 G 9 [(2, .hp 0 0), (3, .hp 1 0)] [.own (ak.c x'), .own (ak.c y)] (.seq ?_))
 obtain ⟨v1, hc2, v3, hc4, hr⟩ := bd2 hr
 refine .gn G (ca1 (ok0 (jN n x' y v1 hc2)) (ca3 (ok0 (jw n v1 v3 hc4)))) (.mu 2 (.ca cf0 (.ca (cfF cf0) (.mu 1 (.done (.ret ?_))))))
 obtain rfl := oi hr
 exact aJ.r1 [ae v3]

theorem ln (n : Nat) {x' : ak} {y : ak} {x'_ : ak} {y_ : ak} (h : ([.agg [.at (.bool x'.Num.Negative), slT (iC .u32) x'.Num.Groups, .at (.bool x'.Den.Negative), slT (iC .u32) x'.Den.Groups], .agg [.at (.bool y.Num.Negative), slT (iC .u32) y.Num.Groups, .at (.bool y.Den.Negative), slT (iC .u32) y.Den.Groups]] : List AV) = [.agg [.at (.bool x'_.Num.Negative), slT (iC .u32) x'_.Num.Groups, .at (.bool x'_.Den.Negative), slT (iC .u32) x'_.Den.Groups], .agg [.at (.bool y_.Num.Negative), slT (iC .u32) y_.Num.Groups, .at (.bool y_.Den.Negative), slT (iC .u32) y_.Den.Groups]]) : cI n x' y = cI n x'_ y_ := by
 obtain ⟨rfl, rfl⟩ := gw h
 rfl
theorem c5 (n : Nat) (x' : ak) (y : ak) (r : Bool) (hr : cI n x' y = some r) : aN Tryz.prog 32 [.agg (ak.c x'), .agg (ak.c y)] (aB r) := by
 unfold cI at hr
 refine aN.bd G Tryz.func32 [.tmp 4] ?_
 unfold Tryz.f32
 simp only [gS]
 refine .seq (.r2 G 17 [(2, .hp 0 0), (3, .hp 1 0)] [.own (ak.c x'), .own (ak.c y)] (.seq ?_))
 obtain ⟨v1, hc2, hr⟩ := bd hr
 rcases bT v1 with hb3 | hb3
 ·subst hb3
  replace hr := cy rfl hr
  obtain ⟨v4, hc5, hr⟩ := bd hr
  rcases bT v4 with hb6 | hb6
  ·subst hb6
   replace hr := cy rfl hr
   obtain ⟨v7, hc8, hr⟩ := bd hr
   refine .gn G (ca1 (ok0 (dj n x' true hc2)) (ca1 (ok0 (dj n y true hc5)) (ca3 (ok0 (j1 n x' y v7 hc8))))) (.mu 1 (.ca cf0 (.mu 2 (.ca (cfA (fun h => by rw [sv hc5 hc2 (kY n h)]) cf0) (.mu 4 (.ca (cfF (cfF cf0)) (.mu 3 (.done (.ret ?_)))))))))
   obtain rfl := oi hr
   exact aJ.r1 [aB ((v7 : Int) == 0)]
  subst hb6
  replace hr := cA rfl hr
  refine .gn G (ca1 (ok0 (dj n x' true hc2)) (ca3 (ok0 (dj n y false hc5)))) (.mu 1 (.ca cf0 (.mu 2 (.ca (cfA (fun h => by rw [sv hc5 hc2 (kY n h)]) cf0) (.mu 8 (.done (.ret ?_)))))))
  obtain rfl := oi hr
  exact aJ.r1 [aB false]
 subst hb3
 replace hr := cA rfl hr
 refine .g1 G (ok0 (dj n x' false hc2)) (.mu 1 (.ca cf0 (.mu 11 (.done (.ret ?_)))))
 obtain rfl := oi hr
 exact aJ.r1 [aB false]

theorem fr (n : Nat) (n' : Int) (r : List al) (hr : b9 n n' = some r) : ef 0 Tryz.prog 131 [nS, ae n'] [] (.hs 0 0 r.length 6) [.own (r.flatMap al.c)] := by
 unfold b9 at hr
 refine ef.kE G Tryz.func131 (c := (Tryz.f131.body).getD .skip) rfl (us := [.hs 0 0 r.length 6]) (s := mkS 27 0 [(0, nS), (1, ae n')]) (by kernel_rfl) (rs := [.tmp 4]) rfl ?_
 unfold Tryz.f131
 simp only [gS]
 refine .seq (.r4 G [0, 1] [] (.seq (.seq (.r4 G [0, 1] [(6, aB (decide (n' < 0)))] ?_))))
 obtain ⟨hp8, hr⟩ := gdn hr
 refine .cN hp8 (.skip (.seq (.seq (.r4 G [0] [(1, ae (CT (n' - 0)))] (.seq (.r4 G [0, 1] [(16, aB (decide ((CT (n' - 0)) > 0)))] ?_))))))
 refine .cd hr ?_ ?_ <;> intro hb9 hr
 ·obtain ⟨hg10, hg11, hg12, hr⟩ := gd3 hr
  obtain ⟨hg13, hr⟩ := gd hr
  refine .r0 G (.mu 5 (.e0 (v := .hs 0 0 (CT (n' - 0)).toNat 6) (ws := [(0, .own (eD [ae 0, ae 0, aB false, nS, aB false, nS] (CT (n' - 0)).toNat))]) (tr (y := n3 (decide (0 < (CT (n' - 0))) && decide ((CT (n' - 0)) <= 4611686018427387904) && decide ((CT (n' - 0)).toNat * 80 <= 140737488355328) && true && true && true) (some (.eff (.hs 0 0 (CT (n' - 0)).toNat 6) [(0, .own (eD [ae 0, ae 0, aB false, nS, aB false, nS] (CT (n' - 0)).toNat))]))) (y0 hg10 hg11 hg12)) (.mu 2 (.p0 (v := .hs 0 0 (0 : Int).toNat 6) (tr (y := slH (inS 0 0 (CT (n' - 0)).toNat) true ((0 : Int).toNat) ((0 : Int).toNat) (fun z1 z2 => .hs 0 (0 + z1 * 6) (z2 - z1) 6)) (zY hg13 (by kernel_rfl))) (.mu 1 (.done (.nh [0] [.own (eD [ae 0, ae 0, aB false, nS, aB false, nS] (CT (n' - 0)).toNat)] (.wk ((Wk.mask [0]).trans ((Wk.cut 0 (cs := eD [ae 0, ae 0, aB false, nS, aB false, nS] (CT (n' - 0)).toNat) 0 (by kernel_rfl)).to (c := ⟨mkS 27 0 [(0, .hs 0 0 ([] : List al).length 6)], [.own (([] : List al).flatMap al.c)]⟩) (by kernel_rfl))) (.seq (.r3 G 27 [(4, .hs 0 0 ([] : List al).length 6)] (.ret ?_)))))))))))
  obtain rfl := oi hr
  exact eE.ret [.hs 0 0 ([] : List al).length 6] ((Wk.gc [0] [(0, false)] rfl (pKo al.c al.pure ([] : List al) trivial)).to)
 refine .skip (.seq (.r3 G 27 [(4, nS)] (.ret ?_)))
 obtain rfl := oi hr
 exact eE.ret [nS] ((Wk.nil 0 6 (by kernel_rfl)).trans ((Wk.gc [0] [(0, false)] rfl (pKc trivial)).to))

theorem ft (n : Nat) (slices : List (List al)) (r : List al) (hr : cb n slices = some r) : aN Tryz.prog 96 [slT (slC al.c) slices] (slT al.c r) := by
 unfold cb at hr
 refine aN.bd G Tryz.func96 [.tmp 2] ?_
 unfold Tryz.f96
 simp only [gS]
 refine .seq (.r4 G [0] [] (.seq (.r4 G [0] [(3, ae 0)] (.seq (.seq (.r4 G [0, 3] [(9, slT (slC al.c) slices), (10, ae (slices.length : Int)), (11, ae 0)] (.block ?_)))))))
 replace hr := bd hr; obtain ⟨s_6, hL12, hr⟩ := hr
 refine .aO (σ := fun z0 => match z0 with | (s_1, x_2) => ⟨mkS 36 0 [(0, slT (slC al.c) slices), (3, ae s_1), (9, slT (slC al.c) slices), (10, ae (slices.length : Int)), (11, ae x_2)], []⟩) (Q := fun x st' => x = .exit 0 /\ Wk 0 st' ⟨mkS 36 0 [(0, slT (slC al.c) slices), (3, ae s_6)], []⟩) hL12 ((Wk.gc [0, 3, 9, 10, 11] [] rfl pK0).to) ?_ ?_
 ·clear hr
  rintro m ⟨s_1, x_2⟩ hr
  show CQ _ _ _ _ _ ⟨_, _⟩
  refine .seq (.r4 G [0, 3, 9, 10, 11] [(12, aB (decide (x_2 < (slices.length : Int))))] (.seq ?_))
  refine .cd hr ?_ ?_ <;> intro hb8 hr
  ·refine .skip (.seq (.block (.seq ?_)))
   obtain ⟨hg9, hr⟩ := gd hr
   refine .r0 G (.p0 (v := .pp (slices.flatMap (slC al.c)) (x_2.toNat * 1)) (tr (ar hg9)) (.p0 (v := slT al.c (gt slices x_2)) (tr (aH (aK (yV al.c) (aD hg9) z1 (by omega : x_2.toNat * 1 = x_2.toNat * 1 + 0) (by kernel_rfl)))) (.mu 1 (.done (.nh [0, 3, 5, 9, 10, 11] [] (.seq (.r4 G [0, 9, 10, 11] [(3, ae (CT (s_1 + ((gt slices x_2).length : Int))))] (.seq (.r4 G [0, 3, 9, 10, 11] [(20, aB (decide ((CT (s_1 + ((gt slices x_2).length : Int))) < 0)))] ?_)))))))))
   obtain ⟨hp10, hr⟩ := gdn hr
   refine .cN hp10 (.skip (.pop (.ru G ?_)))
   exact aA (CT (s_1 + ((gt slices x_2).length : Int)), CT (x_2 + 1)) hr ((Wk.gc [0, 3, 9, 10, 11] [] rfl pK0).to)
  refine .leave rfl ?_
  obtain rfl := oi hr
  exact ⟨rfl, ((Wk.gc [0, 3] [] rfl pK0).to)⟩
 rintro x st' hq13
 clear hL12
 obtain ⟨rfl, hq13⟩ := hq13
 refine a9 _ rfl (.wk hq13 (.seq ?_))
 obtain ⟨v14, hc15, hr⟩ := bd hr
 refine .g1 G (cC (args := [nS, ae s_6]) 0 1 [] [false] (fr n s_6 v14 hc15) trivial (by exact ⟨bc al.pure _, trivial⟩) rfl rfl (by kernel_rfl) (by kernel_rfl)) (.mu 1 (.ca cf0 (.mu 1 (.done (.nh [0, 6] [.own (v14.flatMap al.c)] (.seq (.seq (.r4 G [6] [(25, slT (slC al.c) slices), (26, ae (slices.length : Int)), (27, ae 0)] (.block ?_)))))))))
 replace hr := bd hr; obtain ⟨n_22, hL29, hr⟩ := hr
 refine .aO (σ := fun z0 => match z0 with | (n_16, x_17) => ⟨mkS 36 0 [(6, .hs 0 0 n_16.length 6), (25, slT (slC al.c) slices), (26, ae (slices.length : Int)), (27, ae x_17)], [.own (n_16.flatMap al.c)]⟩) (Q := fun x st' => x = .exit 2 /\ Wk 0 st' ⟨mkS 36 0 [(6, .hs 0 0 n_22.length 6)], [.own (n_22.flatMap al.c)]⟩) hL29 ((Wk.gc [6, 25, 26, 27] [(0, false)] rfl (pKo al.c al.pure v14 trivial)).to) ?_ ?_
 ·clear hr
  rintro m ⟨n_16, x_17⟩ hr
  show CQ _ _ _ _ _ ⟨_, _⟩
  refine .seq (.r4 G [6, 25, 26, 27] [(28, aB (decide (x_17 < (slices.length : Int))))] (.seq ?_))
  refine .cd hr ?_ ?_ <;> intro hb24 hr
  ·refine .skip (.seq (.block (.seq ?_)))
   obtain ⟨hg25, hr⟩ := gd hr
   refine .r0 G (.p0 (v := .pp (slices.flatMap (slC al.c)) (x_17.toNat * 1)) (tr (ar hg25)) (.p0 (v := slT al.c (gt slices x_17)) (tr (aH (aK (yV al.c) (aD hg25) z1 (by omega : x_17.toNat * 1 = x_17.toNat * 1 + 0) (by kernel_rfl)))) (.mu 1 (.done (.nh [6, 8, 25, 26, 27] [.own (n_16.flatMap al.c)] ?_)))))
   obtain ⟨hg26, hg27, hr⟩ := gd2 hr
   refine .r0 G (.mu 2 (.e0 (v := .hs 1 0 (n_16 ++ (gt slices x_17)).length 6) (ws := [(0, .dead), (1, .own ((n_16 ++ (gt slices x_17)).flatMap al.c))]) (tr (y := ya (decide ((((gt slices x_17).flatMap al.c)).length = (gt slices x_17).length * 6)) ((gt slices x_17).flatMap al.c) (gt slices x_17).length (fun z1 z2 => n3 (decide (0 + n_16.length * 6 <= (n_16.flatMap al.c).length) && decide ((n_16.length + z2) * 80 <= 140737488355328) && decide (n_16.length + z2 <= 4611686018427387904)) (some (.eff (.hs 1 0 (n_16.length + z2) 6) [(0, .dead), (1, .own (((n_16.flatMap al.c).drop 0).take (n_16.length * 6) ++ z1))])))) (sL (mR al.len) rfl (fc (l := n_16) (xs := (gt slices x_17)) al.len rfl rfl rfl hg26 hg27))) (.mu 1 (.done (.pop (.ru G ?_))))))
   exact aA (n_16 ++ (gt slices x_17), CT (x_17 + 1)) hr ((Wk.gc [6, 25, 26, 27] [(1, false)] rfl (pKo al.c al.pure (n_16 ++ (gt slices x_17)) trivial)).to)
  refine .leave rfl ?_
  obtain rfl := oi hr
  exact ⟨rfl, ((Wk.gc [6] [(0, false)] rfl (pKo al.c al.pure n_16 trivial)).to)⟩
 rintro x st' hq30
 clear hL29
 obtain ⟨rfl, hq30⟩ := hq30
 refine a9 _ rfl (.wk hq30 (.seq (.r3 G 36 [(2, .hs 0 0 n_22.length 6)] (.ret ?_))))
 obtain rfl := oi hr
 exact aJ.ret (vs := [.hs 0 0 n_22.length 6]) (by kernel_rfl) (Sn.hs rfl (.inl rfl) (SnC.pure (bc al.pure _)) (fun h => cP h))

theorem rN (n : Nat) (c : ah) (r : ah) (hr : nk n c = some r) : aN Tryz.prog 51 [.agg (ah.c c)] (.agg (ah.c r)) := by
 unfold nk at hr
 refine aN.bd G Tryz.func51 [.cell 2 35] ?_
 unfold Tryz.f51
 simp only [gS]
 refine .seq (.r2 G 49 [(1, .hp 0 0), (2, .hp 1 0)] [.own (ah.c c), .own [aB false, nS]] (.seq (.seq (.r4 G [1, 2] [(9, aB (!c.Closed))] ?_))))
 refine .cd hr ?_ ?_ <;> intro hb2 hr
 ·refine .seq (.r5 G [2] [] [.own (ah.c c), .own (ah.c c)] (.ret ?_))
  obtain rfl := oi hr
  exact aJ.r1 [.agg (ah.c c)]
 refine .skip (.seq (.r4 G [1, 2] [(3, ae 0)] (.seq (.seq (.r4 G [1, 2, 3] [(12, slT al.c c.Points), (13, ae (c.Points.length : Int)), (14, ae 0)] (.block ?_))))))
 replace hr := bd hr; obtain ⟨a_33, hL43, hr⟩ := hr
 refine .aO (σ := fun z0 => match z0 with | (a_24, x_25) => ⟨mkS 49 0 [(1, .hp 0 0), (2, .hp 1 0), (3, ae a_24), (12, slT al.c c.Points), (13, ae (c.Points.length : Int)), (14, ae x_25)], [.own (ah.c c), .own [aB false, nS]]⟩) (Q := fun x st' => x = .exit 0 /\ Wk 0 st' ⟨mkS 49 0 [(1, .hp 0 0), (2, .hp 1 0), (3, ae a_33)], [.own (ah.c c), .own [aB false, nS]]⟩) hL43 ((Wk.gc [1, 2, 3, 12, 13, 14] [(0, true), (1, true)] rfl trivial).to) ?_ ?_
 ·clear hr
  rintro m ⟨a_24, x_25⟩ hr
  show CQ _ _ _ _ _ ⟨_, _⟩
  refine .seq (.r4 G [1, 2, 3, 12, 13, 14] [(15, aB (decide (x_25 < (c.Points.length : Int))))] (.seq ?_))
  refine .cd hr ?_ ?_ <;> intro hb36 hr
  ·refine .skip (.seq (.block (.seq ?_)))
   obtain ⟨hg37, hr⟩ := gd hr
   refine .r0 G (.mu 1 (.p0 (v := .pp (c.Points.flatMap al.c) (x_25.toNat * 6)) (tr (ar hg37)) (.p0 (v := .agg (al.c (gt c.Points x_25))) (tr (y := bI.ofP (eG (decide (6 <= ((c.Points.flatMap al.c).drop (x_25.toNat * 6)).length)) (.agg (((c.Points.flatMap al.c).drop (x_25.toNat * 6)).take 6)))) (ch al.len (aD hg37) (by decide) (by omega : x_25.toNat * 6 = x_25.toNat * 6 + 0) (by kernel_rfl))) (.mu 3 (.done (.nh [1, 2, 3, 4, 5, 12, 13, 14] [.own (ah.c c), .own [aB false, nS], .own (al.c (gt c.Points x_25))] (.seq ?_)))))))
   obtain ⟨hg38, hr⟩ := gd hr
   refine .r0 G (.mu 3 (.p0 (v := .pp (c.Points.flatMap al.c) (a_24.toNat * 6)) (tr (ar hg38)) (.p0 (v := .agg (al.c (gt c.Points a_24))) (tr (y := bI.ofP (eG (decide (6 <= ((c.Points.flatMap al.c).drop (a_24.toNat * 6)).length)) (.agg (((c.Points.flatMap al.c).drop (a_24.toNat * 6)).take 6)))) (ch al.len (aD hg38) (by decide) (by omega : a_24.toNat * 6 = a_24.toNat * 6 + 0) (by kernel_rfl))) (.mu 2 (.done (.nh [1, 2, 3, 4, 5, 6, 12, 13, 14] [.own (ah.c c), .own [aB false, nS], .own (al.c (gt c.Points x_25)), .own (al.c (gt c.Points a_24))] (.seq ?_)))))))
   obtain ⟨v39, hc40, hr⟩ := bd hr
   refine .g1 G (ok0 (iY n (A2.mk (gt c.Points x_25).A (gt c.Points x_25).B) (A2.mk (gt c.Points a_24).A (gt c.Points a_24).B) v39 hc40)) (.mu 10 (.ca cf0 (.mu 1 (.done (.nh [1, 2, 3, 4, 12, 13, 14, 35] [.own (ah.c c), .own [aB false, nS], .own (al.c (gt c.Points x_25)), .own (al.c (gt c.Points a_24))] ?_)))))
   refine .cd hr ?_ ?_ <;> intro hb41 hr
   ·refine .ru G (.pop (.ru G ?_))
    exact aA (x_25, CT (x_25 + 1)) hr ((Wk.gc [1, 2, 3, 12, 13, 14] [(0, true), (1, true)] rfl trivial).to)
   refine .skip (.pop (.ru G ?_))
   exact aA (a_24, CT (x_25 + 1)) hr ((Wk.gc [1, 2, 3, 12, 13, 14] [(0, true), (1, true)] rfl trivial).to)
  refine .leave rfl ?_
  obtain rfl := oi hr
  exact ⟨rfl, ((Wk.gc [1, 2, 3] [(0, true), (1, true)] rfl trivial).to)⟩
 rintro x st' hq44
 clear hL43
 obtain ⟨rfl, hq44⟩ := hq44
 refine a9 _ rfl (.wk hq44 (.seq ?_))
 obtain ⟨hg45, hg46, hr⟩ := gd2 hr
 obtain ⟨v47, hc48, hr⟩ := bd hr
 refine .tn G (ca4 [.own (ah.c c), .own [aB false, nS], .own [slT al.c ((c.Points.drop a_33.toNat).take ((c.Points.length : Int).toNat - a_33.toNat)), slT al.c ((c.Points.drop (0 : Int).toNat).take (a_33.toNat - (0 : Int).toNat))]] (cR (args := [.hs 2 0 2 1]) (l := [2]) (SnL.cons (Sn.hs rfl (.inl rfl) (SnC.cons (Sn.pure rfl) (SnC.cons (Sn.pure rfl) SnC.nil)) (fun h => nomatch h)) SnL.nil) (ft n [((c.Points.drop a_33.toNat).take ((c.Points.length : Int).toNat - a_33.toNat)), ((c.Points.drop (0 : Int).toNat).take (a_33.toNat - (0 : Int).toNat))] v47 hc48))) (.mu 3 (.pure (v := slT al.c ((c.Points.drop a_33.toNat).take ((c.Points.length : Int).toNat - a_33.toNat))) (by kernel_rfl) (tr (y := slO (inS a_33 (c.Points.length : Int) c.Points.length) a_33.toNat (c.Points.length : Int).toNat (fun z1 z2 => .sl true (((c.Points.flatMap al.c).drop (z1 * 6)).take ((z2 - z1) * 6)) (z2 - z1))) (vE hg45 (sS al.len (pR hg45)))) (by kernel_rfl) (.mu 3 (.pure (v := slT al.c ((c.Points.drop (0 : Int).toNat).take (a_33.toNat - (0 : Int).toNat))) (by kernel_rfl) (tr (y := slO (inS 0 a_33 c.Points.length) (0 : Int).toNat a_33.toNat (fun z1 z2 => .sl true (((c.Points.flatMap al.c).drop (z1 * 6)).take ((z2 - z1) * 6)) (z2 - z1))) (vE hg46 (sS al.len (pR hg46)))) (by kernel_rfl) (.mu 1 (.ca cf0 (.mu 2 ?_)))))))
 refine .done ⟨by kernel_rfl, ?_⟩
 refine .nh [2] [.own (ah.c c), .own [aB true, slT al.c v47], .fix [slT al.c ((c.Points.drop a_33.toNat).take ((c.Points.length : Int).toNat - a_33.toNat)), slT al.c ((c.Points.drop (0 : Int).toNat).take (a_33.toNat - (0 : Int).toNat))]] (.ret ?_)
 obtain rfl := oi hr
 exact aJ.r1 [.agg [aB true, slT al.c v47]]

theorem rr (n : Nat) (a : ah) (b : ah) (r : Int) (hr : my n a b = some r) : aN Tryz.prog 53 [.agg (ah.c a), .agg (ah.c b)] (ae r) := by
 unfold my at hr
 refine aN.bd G Tryz.func53 [.tmp 4] ?_
 unfold Tryz.f53
 simp only [gS]
 refine .seq (.r2 G 10 [(2, .hp 0 0), (3, .hp 1 0)] [.own (ah.c a), .own (ah.c b)] (.seq ?_))
 obtain ⟨v1, hc2, v3, hc4, v5, hc6, hr⟩ := bd3 hr
 refine .tn G (ca1 (ok0 (jT n a v1 hc2)) (ca1 (ok0 (jT n b v3 hc4)) (ca3 (ok0 (iY n v1 v3 v5 hc6))))) (.mu 1 (.ca cf0 (.mu 1 (.ca (cfA (fun h => by rw [sv hc4 hc2 (od n h)]) cf0) (.ca (cfF (cfF cf0)) (.mu 1 ?_))))))
 refine .done ⟨by kernel_rfl, ?_⟩
 refine .ret ?_
 obtain rfl := oi hr
 exact aJ.r1 [ae v5]

theorem ee (n : Nat) (data : List ah) (a : Int) (b : Int) (r : List ah) (hr : bu n data a b = some r) : ef 1 Tryz.prog 132 [.hs 0 0 data.length 2, ae a, ae b, .fn 53 [] []] [.own (data.flatMap ah.c)] (.tup []) [.own (r.flatMap ah.c)] := by
 unfold bu at hr
 refine ef.kE G Tryz.func132 (c := (Tryz.f132.body).getD .skip) rfl (us := []) (s := mkS 53 0 [(0, .hs 0 0 data.length 2), (1, ae a), (2, ae b), (3, .fn 53 [] [])]) (by kernel_rfl) (rs := []) rfl ?_
 unfold Tryz.f132
 simp only [gS]
 refine .seq (.r4 G [0, 1, 2, 3] [(8, ae (CT (a + 1)))] (.block ?_))
 replace hr := bd hr; obtain ⟨d_71, hL94, hr⟩ := hr
 refine .aO (σ := fun z0 => match z0 with | (d_49, i_50) => ⟨mkS 53 0 [(0, .hs 0 0 d_49.length 2), (1, ae a), (2, ae b), (3, .fn 53 [] []), (8, ae i_50)], [.own (d_49.flatMap ah.c)]⟩) (Q := fun x st' => x = .exit 0 /\ Wk 1 st' ⟨mkS 53 0 [], [.own (d_71.flatMap ah.c)]⟩) hL94 ((Wk.gc [0, 1, 2, 3, 8] [(0, false)] rfl (pKo ah.c ah.pure data trivial)).to) ?_ ?_
 ·clear hr
  rintro m ⟨d_49, i_50⟩ hr
  show CQ _ _ _ _ _ ⟨_, _⟩
  refine .seq (.seq (.r4 G [0, 1, 2, 3, 8] [(14, aB (decide (i_50 < b)))] ?_))
  refine .cd hr ?_ ?_ <;> intro hb73 hr
  ·refine .skip (.seq (.block (.seq (.r4 G [0, 1, 2, 3, 8] [(9, ae i_50)] (.block ?_)))))
   replace hr := bd hr; obtain ⟨d_82, hL91, hr⟩ := hr
   refine .aO (σ := fun z0 => match z0 with | (d_74, j_75) => ⟨mkS 53 0 [(0, .hs 0 0 d_74.length 2), (1, ae a), (2, ae b), (3, .fn 53 [] []), (8, ae i_50), (9, ae j_75)], [.own (d_74.flatMap ah.c)]⟩) (Q := fun x st' => x = .exit 2 /\ Wk 1 st' ⟨mkS 53 0 [(0, .hs 0 0 d_82.length 2), (1, ae a), (2, ae b), (3, .fn 53 [] []), (8, ae i_50)], [.own (d_82.flatMap ah.c)]⟩) hL91 ((Wk.gc [0, 1, 2, 3, 8, 9] [(0, false)] rfl (pKo ah.c ah.pure d_49 trivial)).to) ?_ ?_
   ·clear hr
    rintro m ⟨d_74, j_75⟩ hr
    show CQ _ _ _ _ _ ⟨_, _⟩
    refine .seq (.seq ?_)
    rcases bT (decide (j_75 > a)) with hb84 | hb84
    ·replace hr := cy hb84 hr
     obtain ⟨hg85, hg86, hr⟩ := gd2 hr
     obtain ⟨v87, hc88, hr⟩ := bd hr
     refine .t1 G (ok0 (rr n (gt d_74 j_75) (gt d_74 (CT (j_75 - 1))) v87 hc88)) (.mu 2 (.pure (v := aB true) (by kernel_rfl) (eB hb84) (by kernel_rfl) (.mu 4 (.pure (v := .hp 0 (0 + j_75.toNat * 2)) (by kernel_rfl) (tr (ar hg85)) (by kernel_rfl) (.pure (v := .agg (ah.c (gt d_74 j_75))) (by kernel_rfl) (tr (y := bI.ofP (eG (decide (2 <= ((d_74.flatMap ah.c).drop (0 + j_75.toNat * 2)).length)) (.agg (((d_74.flatMap ah.c).drop (0 + j_75.toNat * 2)).take 2)))) (ch ah.len (aD hg85) (by decide) (by omega : 0 + j_75.toNat * 2 = j_75.toNat * 2 + 0) (by kernel_rfl))) (by kernel_rfl) (.mu 3 (.pure (v := .hp 0 (0 + (CT (j_75 - 1)).toNat * 2)) (by kernel_rfl) (tr (ar hg86)) (by kernel_rfl) (.pure (v := .agg (ah.c (gt d_74 (CT (j_75 - 1))))) (by kernel_rfl) (tr (y := bI.ofP (eG (decide (2 <= ((d_74.flatMap ah.c).drop (0 + (CT (j_75 - 1)).toNat * 2)).length)) (.agg (((d_74.flatMap ah.c).drop (0 + (CT (j_75 - 1)).toNat * 2)).take 2)))) (ch ah.len (aD hg86) (by decide) (by omega : 0 + (CT (j_75 - 1)).toNat * 2 = (CT (j_75 - 1)).toNat * 2 + 0) (by kernel_rfl))) (by kernel_rfl) (.ca cf0 (.mu 2 ?_))))))))))
     refine .done ⟨by kernel_rfl, ?_⟩
     refine .nh [0, 1, 2, 3, 8, 9, 34] [.own (d_74.flatMap ah.c)] ?_
     refine .cd hr ?_ ?_ <;> intro hb89 hr
     ·refine .skip (.seq (.block (.eK G bW (.mu 8 (.pure (v := .hp 0 (0 + (CT (j_75 - 1)).toNat * 2)) (by kernel_rfl) (tr (ar hg86)) (by kernel_rfl) (.pure (v := .agg (ah.c (gt d_74 (CT (j_75 - 1))))) (by kernel_rfl) (tr (y := bI.ofP (eG (decide (2 <= ((d_74.flatMap ah.c).drop (0 + (CT (j_75 - 1)).toNat * 2)).length)) (.agg (((d_74.flatMap ah.c).drop (0 + (CT (j_75 - 1)).toNat * 2)).take 2)))) (ch ah.len (aD hg86) (by decide) (by omega : 0 + (CT (j_75 - 1)).toNat * 2 = (CT (j_75 - 1)).toNat * 2 + 0) (by kernel_rfl))) (by kernel_rfl) (.mu 2 (.pure (v := .hp 0 (0 + j_75.toNat * 2)) (by kernel_rfl) (tr (ar hg85)) (by kernel_rfl) (.pure (v := .agg (ah.c (gt d_74 j_75))) (by kernel_rfl) (tr (y := bI.ofP (eG (decide (2 <= ((d_74.flatMap ah.c).drop (0 + j_75.toNat * 2)).length)) (.agg (((d_74.flatMap ah.c).drop (0 + j_75.toNat * 2)).take 2)))) (ch ah.len (aD hg85) (by decide) (by omega : 0 + j_75.toNat * 2 = j_75.toNat * 2 + 0) (by kernel_rfl))) (by kernel_rfl) (.pure (v := .hp 0 (0 + j_75.toNat * 2)) (by kernel_rfl) (tr (ar hg85)) (by kernel_rfl) (.eff (v := .unk) (ws := [(0, .own ((d_74.set j_75.toNat (gt d_74 (CT (j_75 - 1)))).flatMap ah.c))]) (by kernel_rfl) (tr (iF (iH (cD (n := 2) ah.len (aD hg85) (lbT rfl) (by omega : 0 + j_75.toNat * 2 = j_75.toNat * 2 + 0))) (congrArg Blk.own (c7 (xs := (ah.c (gt d_74 (CT (j_75 - 1))))) ah.len (aD hg85) (lbT rfl) (by omega : 0 + j_75.toNat * 2 = j_75.toNat * 2 + 0) (by kernel_rfl))))) (by kernel_rfl) (.pure (v := .hp 0 (0 + (CT (j_75 - 1)).toNat * 2)) (by kernel_rfl) (tr (ar hg86)) (by kernel_rfl) (.eff (v := .unk) (ws := [(0, .own (((d_74.set j_75.toNat (gt d_74 (CT (j_75 - 1)))).set (CT (j_75 - 1)).toNat (gt d_74 j_75)).flatMap ah.c))]) (by kernel_rfl) (tr (y := stO (decide ((0 + (CT (j_75 - 1)).toNat * 2) + 2 <= ((d_74.set j_75.toNat (gt d_74 (CT (j_75 - 1)))).flatMap ah.c).length) && true) [(0, .own (setCells ((d_74.set j_75.toNat (gt d_74 (CT (j_75 - 1)))).flatMap ah.c) (0 + (CT (j_75 - 1)).toNat * 2) (ah.c (gt d_74 j_75))))]) (iF (iH (cD ah.len (aD (qi hg86)) (lbT rfl) (by omega : 0 + (CT (j_75 - 1)).toNat * 2 = (CT (j_75 - 1)).toNat * 2 + 0))) (congrArg Blk.own (c7 ah.len (aD (qi hg86)) (lbT rfl) (by omega : 0 + (CT (j_75 - 1)).toNat * 2 = (CT (j_75 - 1)).toNat * 2 + 0) (by kernel_rfl))))) (by kernel_rfl) ?_)))))))))))))
      refine .done ⟨by kernel_rfl, ?_⟩
      refine .pop (.ru G ?_)
      exact aA ((d_74.set j_75.toNat (gt d_74 (CT (j_75 - 1)))).set (CT (j_75 - 1)).toNat (gt d_74 j_75), CT (j_75 - 1)) hr ((Wk.iJ 0 (b := 0) (es := 2) (len := d_74.length) ((d_74.set j_75.toNat (gt d_74 (CT (j_75 - 1)))).set (CT (j_75 - 1)).toNat (gt d_74 j_75)).length (by kernel_rfl) (Eq.symm (List.length_set.trans (List.length_set.trans rfl)))).trans ((Wk.gc [0, 1, 2, 3, 8, 9] [(0, false)] rfl (pKo ah.c ah.pure ((d_74.set j_75.toNat (gt d_74 (CT (j_75 - 1)))).set (CT (j_75 - 1)).toNat (gt d_74 j_75)) trivial)).to))
     refine .leave rfl ?_
     obtain rfl := oi hr
     exact ⟨rfl, ((Wk.gc [0, 1, 2, 3, 8] [(0, false)] rfl (pKo ah.c ah.pure d_74 trivial)).to)⟩
    replace hr := cA hb84 hr
    refine .eK G bW (.mu 2 (.pure (v := aB false) (by kernel_rfl) (eB hb84) (by kernel_rfl) (.mu 14 ?_)))
    refine .done ⟨by kernel_rfl, ?_⟩
    refine .nh [0, 1, 2, 3, 8, 9, 34] [.own (d_74.flatMap ah.c)] (.cF (by kernel_rfl) (.leave rfl ?_))
    obtain rfl := oi hr
    exact ⟨rfl, ((Wk.gc [0, 1, 2, 3, 8] [(0, false)] rfl (pKo ah.c ah.pure d_74 trivial)).to)⟩
   rintro x st' hq92
   clear hL91
   obtain ⟨rfl, hq92⟩ := hq92
   refine a9 _ rfl (.pop (.wk hq92 (.ru G ?_)))
   exact aA (d_82, CT (i_50 + 1)) hr ((Wk.gc [0, 1, 2, 3, 8] [(0, false)] rfl (pKo ah.c ah.pure d_82 trivial)).to)
  refine .leave rfl ?_
  obtain rfl := oi hr
  exact ⟨rfl, ((Wk.gc [] [(0, false)] rfl (pKo ah.c ah.pure d_49 trivial)).to)⟩
 rintro x st' hq95
 clear hL94
 obtain ⟨rfl, hq95⟩ := hq95
 refine a9 _ rfl ?_
 obtain rfl := oi hr
 exact eE.wk hq95 (eE.normal [] ((Wk.gc [] [(0, false)] rfl (pKo ah.c ah.pure d_71 trivial)).to))

theorem eM (n : Nat) (data : List ah) (a : Int) (b : Int) (limit : Int) (r : List ah) (hr : bM n data a b limit = some r) : ef 1 Tryz.prog 97 [.hs 0 0 data.length 2, ae a, ae b, ae limit, .fn 53 [] []] [.own (data.flatMap ah.c)] (.tup []) [.own (r.flatMap ah.c)] := by
 unfold bM at hr
 refine ef.kE G Tryz.func97 (c := (Tryz.f97.body).getD .skip) rfl (us := []) (s := mkS 148 0 [(0, .hs 0 0 data.length 2), (1, ae a), (2, ae b), (3, ae limit), (4, .fn 53 [] [])]) (by kernel_rfl) (rs := []) rfl ?_
 unfold Tryz.f97
 simp only [gS]
 refine .seq (.r4 G [0, 1, 2, 3, 4] [(10, aB true)] (.seq (.r4 G [0, 1, 2, 3, 4, 10] [(11, aB true)] (.block ?_))))
 replace hr := bd hr; obtain ⟨r0, hL38, hr⟩ := hr
 refine .aO (σ := fun z0 => match z0 with | (a_21, b_22, l_23, w_24, w_25) => ⟨mkS 148 0 [(0, .hs 0 0 data.length 2), (1, ae a_21), (2, ae b_22), (3, ae l_23), (4, .fn 53 [] []), (10, aB w_24), (11, aB w_25)], [.own (data.flatMap ah.c)]⟩) (Q := fun x st' => x = .ret /\ eE 1 Tryz.prog [] [] [.own (r0.flatMap ah.c)] .ret st') hL38 ((Wk.gc [0, 1, 2, 3, 4, 10, 11] [(0, false)] rfl (pKo ah.c ah.pure data trivial)).to) ?_ ?_
 ·clear hr
  rintro m ⟨a_21, b_22, l_23, w_24, w_25⟩ hr
  show CQ _ _ _ _ _ ⟨_, _⟩
  refine .block (.seq (.r4 G [0, 1, 2, 3, 4, 10, 11] [(12, ae (CT (b_22 - a_21)))] (.seq (.seq (.r4 G [0, 1, 2, 3, 4, 10, 11, 12] [(25, aB (decide ((CT (b_22 - a_21)) <= 12)))] ?_)))))
  obtain ⟨hb32, hr⟩ := gd hr
  refine .cY hb32 (.seq ?_)
  obtain ⟨v33, hc34, hr⟩ := bd hr
  refine .g1 G (cC (args := [.hs 0 0 data.length 2, ae a_21, ae b_22, .fn 53 [] []]) 1 0 [(0, false)] [false] (ee n data a_21 b_22 v33 hc34) (by exact ⟨bc ah.pure _, trivial⟩) (by exact ⟨bc ah.pure _, trivial⟩) rfl rfl (by kernel_rfl) (by kernel_rfl)) (.mu 4 (.ca cf0 (.done (.nh [] [.own (v33.flatMap ah.c)] (.ret ?_)))))
  obtain rfl := oi hr
  exact ⟨rfl, eE.ret [] ((Wk.gc [] [(0, false)] rfl (pKo ah.c ah.pure v33 trivial)).to)⟩
 rintro x st' hq39
 clear hL38
 obtain ⟨rfl, hq39⟩ := hq39
 obtain rfl := oi hr
 exact iK _ hq39

theorem dx (n : Nat) (x' : List ah) (r : List ah) (hr : bh n x' = some r) : ef 1 Tryz.prog 52 [.hs 0 0 x'.length 2, .fn 53 [] []] [.own (x'.flatMap ah.c)] (.tup []) [.own (r.flatMap ah.c)] := by
 unfold bh at hr
 refine ef.kE G Tryz.func52 (c := (Tryz.f52.body).getD .skip) rfl (us := []) (s := mkS 14 0 [(0, .hs 0 0 x'.length 2), (1, .fn 53 [] [])]) (by kernel_rfl) (rs := []) rfl ?_
 unfold Tryz.f52
 simp only [gS]
 refine .seq (.r4 G [0, 1] [(4, ae (x'.length : Int))] ?_)
 obtain ⟨v6, hc7, v8, hc9, hr⟩ := bd2 hr
 refine .gn G (ca1 (ok0 (lI n (aa .u64 (x'.length : Int)) v6 hc7)) (ca3 (cC (args := [.hs 0 0 x'.length 2, ae 0, ae (x'.length : Int), ae v6, .fn 53 [] []]) 1 0 [(0, false)] [false] (eM n x' 0 (x'.length : Int) v6 v8 hc9) (by exact ⟨bc ah.pure _, trivial⟩) (by exact ⟨bc ah.pure _, trivial⟩) rfl rfl (by kernel_rfl) (by kernel_rfl)))) (.mu 4 (.ca cf0 (.mu 1 (.ca (cfF cf0) (.done ?_)))))
 obtain rfl := oi hr
 exact eE.normal [] ((Wk.gc [] [(0, false)] rfl (pKo ah.c ah.pure v8 trivial)).to)

theorem sm (n : Nat) (p : al) (q : al) (r : Bool) (hr : m5 n p q = some r) : aN Tryz.prog 100 [.agg (al.c p), .agg (al.c q)] (aB r) := by
 unfold m5 at hr
 refine aN.bd G Tryz.func100 [.tmp 4] ?_
 unfold Tryz.f100
 simp only [gS]
 refine .seq (.r2 G 35 [(2, .hp 0 0), (3, .hp 1 0)] [.own (al.c p), .own (al.c q)] (.seq ?_))
 rcases bT ((p.A : Int) == q.A) with hb1 | hb1
 ·replace hr := cy hb1 hr
  rcases bT ((p.B : Int) == q.B) with hb2 | hb2
  ·replace hr := cy hb2 hr
   obtain ⟨v3, hc4, hr⟩ := bd hr
   rcases bT v3 with hb5 | hb5
   ·subst hb5
    replace hr := cy rfl hr
    obtain ⟨v6, hc7, hr⟩ := bd hr
    rcases bT v6 with hb8 | hb8
    ·subst hb8
     replace hr := cy rfl hr
     obtain ⟨v9, hc10, hr⟩ := bd hr
     refine .gn G (ca1 (ok0 (e9 n p.At true hc4)) (ca1 (ok0 (e9 n q.At true hc7)) (ca3 (ok0 (mF n p.At q.At v9 hc10))))) (.mu 4 (.p0 (v := aB true) (eB hb1) (.mu 5 (.pure (v := aB true) (by kernel_rfl) (eB hb2) (.mu 4 (.ca cf0 (.mu 4 (.ca (cfA (fun h => by rw [sv hc7 hc4 (nv n h)]) cf0) (.mu 6 (.ca (cfF (cfF cf0)) (.mu 3 (.done (.ret ?_)))))))))))))
     obtain rfl := oi hr
     exact aJ.r1 [aB ((v9 : Int) == 0)]
    subst hb8
    replace hr := cA rfl hr
    refine .gn G (ca1 (ok0 (e9 n p.At true hc4)) (ca3 (ok0 (e9 n q.At false hc7)))) (.mu 4 (.p0 (v := aB true) (eB hb1) (.mu 5 (.pure (v := aB true) (by kernel_rfl) (eB hb2) (.mu 4 (.ca cf0 (.mu 4 (.ca (cfA (fun h => by rw [sv hc7 hc4 (nv n h)]) cf0) (.mu 10 (.done (.ret ?_)))))))))))
    obtain rfl := oi hr
    exact aJ.r1 [aB false]
   subst hb5
   replace hr := cA rfl hr
   refine .g1 G (ok0 (e9 n p.At false hc4)) (.mu 4 (.p0 (v := aB true) (eB hb1) (.mu 5 (.pure (v := aB true) (by kernel_rfl) (eB hb2) (.mu 4 (.ca cf0 (.mu 15 (.done (.ret ?_)))))))))
   obtain rfl := oi hr
   exact aJ.r1 [aB false]
  replace hr := cA hb2 hr
  refine .r0 G (.mu 4 (.p0 (v := aB true) (eB hb1) (.mu 5 (.pure (v := aB false) (by kernel_rfl) (eB hb2) (.mu 20 (.done (.ret ?_)))))))
  obtain rfl := oi hr
  exact aJ.r1 [aB false]
 replace hr := cA hb1 hr
 refine .r0 G (.mu 4 (.p0 (v := aB false) (eB hb1) (.mu 26 (.done (.ret ?_)))))
 obtain rfl := oi hr
 exact aJ.r1 [aB false]

theorem bJ (n : Nat) (s1 : List al) (s2 : List al) (r : Bool) (hr : aQ n s1 s2 = some r) : aN Tryz.prog 99 [slT al.c s1, slT al.c s2, .fn 100 [] []] (aB r) := by
 unfold aQ at hr
 refine aN.bd G Tryz.func99 [.tmp 6] ?_
 unfold Tryz.f99
 simp only [gS]
 refine .seq (.r4 G [0, 1, 2] [] (.seq (.seq (.r4 G [0, 1, 2] [(14, aB (((s1.length : Int) : Int) != (s2.length : Int)))] ?_))))
 refine .cd hr ?_ ?_ <;> intro hb1 hr
 ·refine .seq (.ru G (.ret ?_))
  obtain rfl := oi hr
  exact aJ.r1 [aB false]
 refine .skip (.seq (.seq (.r4 G [1, 2] [(15, slT al.c s1), (16, ae (s1.length : Int)), (17, ae 0)] (.block ?_))))
 replace hr := bd hr; obtain ⟨o16, hL17, hr⟩ := hr
 refine .aO (σ := fun z0 => match z0 with | x_2 => ⟨mkS 32 0 [(1, slT al.c s2), (2, .fn 100 [] []), (15, slT al.c s1), (16, ae (s1.length : Int)), (17, ae x_2)], []⟩) (Q := fun x st' => match (generalizing := false) o16 with | .inl _ => x = .exit 0 /\ Wk 0 st' ⟨mkS 32 0 [], []⟩ | .inr (r0) => x = .ret /\ aJ Tryz.prog [.tmp 6] (aB r0) .ret st') hL17 ((Wk.gc [1, 2, 15, 16, 17] [] rfl pK0).to) ?_ ?_
 ·clear hr
  rintro m x_2 hr
  show CQ _ _ _ _ _ ⟨_, _⟩
  refine .seq (.r4 G [1, 2, 15, 16, 17] [(18, aB (decide (x_2 < (s1.length : Int))))] (.seq ?_))
  refine .cd hr ?_ ?_ <;> intro hb10 hr
  ·refine .skip (.seq (.block (.seq ?_)))
   obtain ⟨hg11, hr⟩ := gd hr
   refine .r0 G (.mu 1 (.p0 (v := .pp (s1.flatMap al.c) (x_2.toNat * 6)) (tr (ar hg11)) (.p0 (v := .agg (al.c (gt s1 x_2))) (tr (y := bI.ofP (eG (decide (6 <= ((s1.flatMap al.c).drop (x_2.toNat * 6)).length)) (.agg (((s1.flatMap al.c).drop (x_2.toNat * 6)).take 6)))) (ch al.len (aD hg11) (by decide) (by omega : x_2.toNat * 6 = x_2.toNat * 6 + 0) (by kernel_rfl))) (.mu 3 (.done (.nh [1, 2, 7, 8, 15, 16, 17] [.own (al.c (gt s1 x_2))] (.seq ?_)))))))
   obtain ⟨hg12, hr⟩ := gd hr
   refine .r0 G (.mu 2 (.p0 (v := .pp (s2.flatMap al.c) (x_2.toNat * 6)) (tr (ar hg12)) (.p0 (v := .agg (al.c (gt s2 x_2))) (tr (y := bI.ofP (eG (decide (6 <= ((s2.flatMap al.c).drop (x_2.toNat * 6)).length)) (.agg (((s2.flatMap al.c).drop (x_2.toNat * 6)).take 6)))) (ch al.len (aD hg12) (by decide) (by omega : x_2.toNat * 6 = x_2.toNat * 6 + 0) (by kernel_rfl))) (.mu 2 (.done (.nh [1, 2, 8, 9, 15, 16, 17] [.own (al.c (gt s1 x_2)), .own (al.c (gt s2 x_2))] (.seq ?_)))))))
   obtain ⟨v13, hc14, hr⟩ := bd hr
   refine .g1 G (ok0 (sm n (gt s1 x_2) (gt s2 x_2) v13 hc14)) (.mu 3 (.ca cf0 (.mu 1 (.done (.nh [1, 2, 15, 16, 17, 30] [.own (al.c (gt s1 x_2)), .own (al.c (gt s2 x_2))] ?_)))))
   refine .cd hr ?_ ?_ <;> intro hb15 hr
   ·refine .seq (.ru G (.ret ?_))
    obtain rfl := oi hr
    exact ⟨rfl, aJ.ret (vs := [aB false]) (by kernel_rfl) (Sn.pure rfl)⟩
   refine .skip (.pop (.ru G ?_))
   exact aA (CT (x_2 + 1)) hr ((Wk.gc [1, 2, 15, 16, 17] [] rfl pK0).to)
  refine .leave rfl ?_
  obtain rfl := oi hr
  exact ⟨rfl, ((Wk.gc [] [] rfl pK0).to)⟩
 rcases o16 with ⟨⟩ | r0
 ·rintro x st' hq18
  clear hL17
  obtain ⟨rfl, hq18⟩ := hq18
  refine a9 _ rfl (.wk hq18 (.seq (.ru G (.ret ?_))))
  obtain rfl := oi hr
  exact aJ.r1 [aB true]
 rintro x st' hq18
 clear hL17
 obtain ⟨rfl, hq18⟩ := hq18
 obtain rfl := oi hr
 exact iK _ hq18

theorem tL (n : Nat) (a : ah) (b : ah) (r : Bool) (hr : oJ n a b = some r) : aN Tryz.prog 56 [.agg (ah.c a), .agg (ah.c b)] (aB r) := by
 unfold oJ at hr
 refine aN.bd G Tryz.func56 [.tmp 4] ?_
 unfold Tryz.f56
 simp only [gS]
 refine .seq (.r2 G 17 [(2, .hp 0 0), (3, .hp 1 0)] [.own (ah.c a), .own (ah.c b)] (.seq ?_))
 rcases bT (a.Closed == b.Closed) with hb1 | hb1
 ·replace hr := cy hb1 hr
  obtain ⟨v2, hc3, hr⟩ := bd hr
  refine .g1 G (ok0 (bJ n a.Points b.Points v2 hc3)) (.mu 4 (.p0 (v := aB true) (eB hb1) (.mu 5 (.ca cf0 (.mu 2 (.done (.ret ?_)))))))
  obtain rfl := oi hr
  exact aJ.r1 [aB v2]
 replace hr := cA hb1 hr
 refine .r0 G (.mu 4 (.p0 (v := aB false) (eB hb1) (.mu 8 (.done (.ret ?_)))))
 obtain rfl := oi hr
 exact aJ.r1 [aB false]

theorem bV (n : Nat) (s1 : List ah) (s2 : List ah) (r : Bool) (hr : aS n s1 s2 = some r) : aN Tryz.prog 16 [slT ah.c s1, slT ah.c s2, .fn 56 [] []] (aB r) := by
 unfold aS at hr
 refine aN.bd G Tryz.func16 [.tmp 6] ?_
 unfold Tryz.f16
 simp only [gS]
 refine .seq (.r4 G [0, 1, 2] [] (.seq (.seq (.r4 G [0, 1, 2] [(14, aB (((s1.length : Int) : Int) != (s2.length : Int)))] ?_))))
 refine .cd hr ?_ ?_ <;> intro hb1 hr
 ·refine .seq (.ru G (.ret ?_))
  obtain rfl := oi hr
  exact aJ.r1 [aB false]
 refine .skip (.seq (.seq (.r4 G [1, 2] [(15, slT ah.c s1), (16, ae (s1.length : Int)), (17, ae 0)] (.block ?_))))
 replace hr := bd hr; obtain ⟨o16, hL17, hr⟩ := hr
 refine .aO (σ := fun z0 => match z0 with | x_2 => ⟨mkS 32 0 [(1, slT ah.c s2), (2, .fn 56 [] []), (15, slT ah.c s1), (16, ae (s1.length : Int)), (17, ae x_2)], []⟩) (Q := fun x st' => match (generalizing := false) o16 with | .inl _ => x = .exit 0 /\ Wk 0 st' ⟨mkS 32 0 [], []⟩ | .inr (r0) => x = .ret /\ aJ Tryz.prog [.tmp 6] (aB r0) .ret st') hL17 ((Wk.gc [1, 2, 15, 16, 17] [] rfl pK0).to) ?_ ?_
 ·clear hr
  rintro m x_2 hr
  show CQ _ _ _ _ _ ⟨_, _⟩
  refine .seq (.r4 G [1, 2, 15, 16, 17] [(18, aB (decide (x_2 < (s1.length : Int))))] (.seq ?_))
  refine .cd hr ?_ ?_ <;> intro hb10 hr
  ·refine .skip (.seq (.block (.seq ?_)))
   obtain ⟨hg11, hr⟩ := gd hr
   refine .r0 G (.mu 1 (.p0 (v := .pp (s1.flatMap ah.c) (x_2.toNat * 2)) (tr (ar hg11)) (.p0 (v := .agg (ah.c (gt s1 x_2))) (tr (y := bI.ofP (eG (decide (2 <= ((s1.flatMap ah.c).drop (x_2.toNat * 2)).length)) (.agg (((s1.flatMap ah.c).drop (x_2.toNat * 2)).take 2)))) (ch ah.len (aD hg11) (by decide) (by omega : x_2.toNat * 2 = x_2.toNat * 2 + 0) (by kernel_rfl))) (.mu 3 (.done (.nh [1, 2, 7, 8, 15, 16, 17] [.own (ah.c (gt s1 x_2))] (.seq ?_)))))))
   obtain ⟨hg12, hr⟩ := gd hr
   refine .r0 G (.mu 2 (.p0 (v := .pp (s2.flatMap ah.c) (x_2.toNat * 2)) (tr (ar hg12)) (.p0 (v := .agg (ah.c (gt s2 x_2))) (tr (y := bI.ofP (eG (decide (2 <= ((s2.flatMap ah.c).drop (x_2.toNat * 2)).length)) (.agg (((s2.flatMap ah.c).drop (x_2.toNat * 2)).take 2)))) (ch ah.len (aD hg12) (by decide) (by omega : x_2.toNat * 2 = x_2.toNat * 2 + 0) (by kernel_rfl))) (.mu 2 (.done (.nh [1, 2, 8, 9, 15, 16, 17] [.own (ah.c (gt s1 x_2)), .own (ah.c (gt s2 x_2))] (.seq ?_)))))))
   obtain ⟨v13, hc14, hr⟩ := bd hr
   refine .g1 G (ok0 (tL n (gt s1 x_2) (gt s2 x_2) v13 hc14)) (.mu 3 (.ca cf0 (.mu 1 (.done (.nh [1, 2, 15, 16, 17, 30] [.own (ah.c (gt s1 x_2)), .own (ah.c (gt s2 x_2))] ?_)))))
   refine .cd hr ?_ ?_ <;> intro hb15 hr
   ·refine .seq (.ru G (.ret ?_))
    obtain rfl := oi hr
    exact ⟨rfl, aJ.ret (vs := [aB false]) (by kernel_rfl) (Sn.pure rfl)⟩
   refine .skip (.pop (.ru G ?_))
   exact aA (CT (x_2 + 1)) hr ((Wk.gc [1, 2, 15, 16, 17] [] rfl pK0).to)
  refine .leave rfl ?_
  obtain rfl := oi hr
  exact ⟨rfl, ((Wk.gc [] [] rfl pK0).to)⟩
 rcases o16 with ⟨⟩ | r0
 ·rintro x st' hq18
  clear hL17
  obtain ⟨rfl, hq18⟩ := hq18
  refine a9 _ rfl (.wk hq18 (.seq (.ru G (.ret ?_))))
  obtain rfl := oi hr
  exact aJ.r1 [aB true]
 rintro x st' hq18
 clear hL17
 obtain ⟨rfl, hq18⟩ := hq18
 obtain rfl := oi hr
 exact iK _ hq18

theorem sF (n : Nat) (g : an) (level : Int) (l : List ah) (r : Int) (hr : j5 n g level l = some r) : aN Tryz.prog 20 [.agg (an.c g), ae level, slT ah.c l] (ae r) := by
 unfold j5 at hr
 refine aN.bd G Tryz.func20 [.tmp 6] ?_
 unfold Tryz.f20
 simp only [gS]
 refine .seq (.r5 G [1, 2] [(3, .hp 0 0)] [.own (an.c g)] (.seq (.seq ?_)))
 obtain ⟨v1, hc2, hr⟩ := bd hr
 refine .g1 G (ok0 (jv n g level v1 hc2)) (.mu 2 (.ca cf0 (.mu 1 (.done (.nh [1, 2, 3, 7] [.own (an.c g)] (.seq (.r4 G [1, 2, 3, 7] [(15, aB ((v1 : Int) != 0))] ?_)))))))
 refine .cd hr ?_ ?_ <;> intro hb4 hr
 ·refine .seq (.ru G (.ret ?_))
  obtain rfl := oi hr
  exact aJ.r1 [ae v1]
 refine .skip (.seq (.r4 G [1, 2, 3] [(8, nS)] (.seq (.seq (.r4 G [1, 3, 8] [(17, slT ah.c l), (18, ae (l.length : Int)), (19, ae 0)] (.block ?_))))))
 replace hr := bd hr; obtain ⟨o25, hL26, hr⟩ := hr
 refine .aO (σ := fun z0 => match z0 with | (g_5, x_6) => ⟨mkS 41 0 [(1, ae level), (3, .hp 0 0), (8, .hs 1 0 g_5.length 2), (17, slT ah.c l), (18, ae (l.length : Int)), (19, ae x_6)], [.own (an.c g), .own (g_5.flatMap ah.c)]⟩) (Q := fun x st' => match (generalizing := false) o25 with | .inl g_15 => x = .exit 0 /\ Wk 0 st' ⟨mkS 41 0 [(1, ae level), (3, .hp 0 0), (8, .hs 1 0 g_15.length 2)], [.own (an.c g), .own (g_15.flatMap ah.c)]⟩ | .inr (r0) => x = .ret /\ aJ Tryz.prog [.tmp 6] (ae r0) .ret st') hL26 ((Wk.nil 8 2 (by kernel_rfl)).trans ((Wk.gc [1, 3, 8, 17, 18, 19] [(0, true), (1, false)] rfl (pKt (pKc trivial))).to)) ?_ ?_
 ·clear hr
  rintro m ⟨g_5, x_6⟩ hr
  show CQ _ _ _ _ _ ⟨_, _⟩
  refine .seq (.r4 G [1, 3, 8, 17, 18, 19] [(20, aB (decide (x_6 < (l.length : Int))))] (.seq ?_))
  refine .cd hr ?_ ?_ <;> intro hb18 hr
  ·refine .skip (.seq (.block (.seq ?_)))
   obtain ⟨hg19, hr⟩ := gd hr
   refine .r0 G (.p0 (v := .pp (l.flatMap ah.c) (x_6.toNat * 2)) (tr (ar hg19)) (.p0 (v := .agg (ah.c (gt l x_6))) (tr (y := bI.ofP (eG (decide (2 <= ((l.flatMap ah.c).drop (x_6.toNat * 2)).length)) (.agg (((l.flatMap ah.c).drop (x_6.toNat * 2)).take 2)))) (ch ah.len (aD hg19) (by decide) (by omega : x_6.toNat * 2 = x_6.toNat * 2 + 0) (by kernel_rfl))) (.mu 2 (.done (.nh [1, 3, 8, 10, 17, 18, 19] [.own (an.c g), .own (g_5.flatMap ah.c), .own (ah.c (gt l x_6))] (.seq (.seq (.r4 G [1, 3, 8, 10, 17, 18, 19] [(26, aB ((((gt l x_6).Points.length : Int) : Int) == 0))] ?_))))))))
   refine .cd hr ?_ ?_ <;> intro hb20 hr
   ·refine .seq (.ru G (.ret ?_))
    obtain rfl := oi hr
    exact ⟨rfl, aJ.ret (vs := [ae 12]) (by kernel_rfl) (Sn.pure rfl)⟩
   refine .skip ?_
   obtain ⟨v21, hc22, hr⟩ := bd hr
   obtain ⟨hg23, hg24, hr⟩ := gd2 hr
   refine .g1 G (ok0 (rN n (gt l x_6) v21 hc22)) (.mu 2 (.ca cf0 (.mu 1 (.e0 (v := .hs 4 0 (g_5 ++ [v21]).length 2) (ws := [(1, .dead), (4, .own ((g_5 ++ [v21]).flatMap ah.c))]) (tr (fc (new := (ah.c v21)) (l := g_5) (xs := [v21]) ah.len rfl rfl (by kernel_rfl) hg23 hg24)) (.mu 1 (.done (.pop (.ru G ?_))))))))
   exact aA (g_5 ++ [v21], CT (x_6 + 1)) hr ((Wk.gc [1, 3, 8, 17, 18, 19] [(0, true), (4, false)] rfl (pKt (pKo ah.c ah.pure (g_5 ++ [v21]) trivial))).to)
  refine .leave rfl ?_
  obtain rfl := oi hr
  exact ⟨rfl, ((Wk.gc [1, 3, 8] [(0, true), (1, false)] rfl (pKt (pKo ah.c ah.pure g_5 trivial))).to)⟩
 rcases o25 with g_15 | r0
 ·rintro x st' hq27
  clear hL26
  obtain ⟨rfl, hq27⟩ := hq27
  refine a9 _ rfl (.wk hq27 (.seq ?_))
  obtain ⟨v28, hc29, hr⟩ := bd hr
  obtain ⟨hg30, hr⟩ := gd hr
  refine .g1 G (cC (args := [.hs 1 0 g_15.length 2, .fn 53 [] []]) 1 0 [(1, false)] [false] (dx n g_15 v28 hc29) (by exact ⟨bc ah.pure _, trivial⟩) (by exact ⟨bc ah.pure _, trivial⟩) rfl rfl (by kernel_rfl) (by kernel_rfl)) (.mu 1 (.ca cf0 (.done (.nh [1, 3, 8] [.own (an.c g), .own (v28.flatMap ah.c)] (.seq (.seq ?_))))))
  obtain ⟨v31, hc32, v33, hc34, hr⟩ := bd2 hr
  refine .gn G (ca1 (ok0 (ox n g level v31 hc32)) (ca3 (dQ (args := [.hs 1 0 g_15.length 2, slT ah.c v31, .fn 56 [] []]) (l := [1]) rfl (SnL.cons (Sn.hse (dcT hg30) rfl (.inl rfl) (SnC.pure (bc ah.pure _)) (fun h => cP h)) (Sp (Sp SnL.nil))) (bV n v28 v31 v33 hc34)))) (.mu 3 (.ca cf0 (.ca (cfF cf0) (.mu 1 (.done (.nh [40] [.own (an.c g), .own (v28.flatMap ah.c)] ?_))))))
  refine .cd hr ?_ ?_ <;> intro hb35 hr
  ·refine .seq (.ru G (.ret ?_))
   obtain rfl := oi hr
   exact aJ.r1 [ae 12]
  refine .skip (.seq (.ru G (.ret ?_)))
  obtain rfl := oi hr
  exact aJ.r1 [ae 0]
 rintro x st' hq27
 clear hL26
 obtain ⟨rfl, hq27⟩ := hq27
 obtain rfl := oi hr
 exact iK _ hq27

theorem o5 (n : Nat) (r : Bool) (hr : ga n = some r) : aN Tryz.prog 12 [] (aB r) := by
 unfold ga at hr
 refine aN.bd G Tryz.func12 [.tmp 0] ?_
 unfold Tryz.f12
 simp only [gS]
 refine .seq (.r3 G 93 [] (.seq ?_))
 obtain ⟨v1, hc2, v3, hc4, hr⟩ := bd2 hr
 refine .gn G (ca1 (ok0 (fE n v1 hc2)) (ca3 (ok0 (sJ n v1 1 v3 hc4)))) (.ca cf0 (.ca (cfF cf0) (.mu 5 (.done (.n2 93 [(1, slT ah.c v3.1), (2, ae v3.2)] [] (.seq (.seq ?_)))))))
 rcases bT ((v3.2 : Int) != 0) with hb5 | hb5
 ·replace hr := cy hb5 hr
  refine .r0 G (.mu 1 (.p0 (v := aB true) (eB hb5) (.mu 40 (.done (.n2 93 [(1, slT ah.c v3.1), (54, aB true)] [] (.cT (by kernel_rfl) (.seq (.ru G (.ret ?_)))))))))
  obtain rfl := oi hr
  exact aJ.r1 [aB false]
 replace hr := cA hb5 hr
 rcases bT (((v3.1.length : Int) : Int) != 1) with hb6 | hb6
 ·replace hr := cy hb6 hr
  refine .r0 G (.mu 1 (.p0 (v := aB false) (eB hb5) (.mu 3 (.pure (v := aB true) (by kernel_rfl) (eB hb6) (.mu 36 (.done (.n2 93 [(1, slT ah.c v3.1), (54, aB true)] [] (.cT (by kernel_rfl) (.seq (.ru G (.ret ?_)))))))))))
  obtain rfl := oi hr
  exact aJ.r1 [aB false]
 replace hr := cA hb6 hr
 obtain ⟨hg7, hr⟩ := gd hr
 rcases bT (!(gt v3.1 0).Closed) with hb8 | hb8
 ·replace hr := cy hb8 hr
  refine .r0 G (.mu 1 (.p0 (v := aB false) (eB hb5) (.mu 3 (.pure (v := aB false) (by kernel_rfl) (eB hb6) (.mu 3 (.pure (v := .pp (v3.1.flatMap ah.c) ((0 : Int).toNat * 2)) (by kernel_rfl) (tr (ar hg7)) (.mu 1 (.pure (v := aB (gt v3.1 0).Closed) (by kernel_rfl) (tr (aH (aK ah.len (aD hg7) (by decide : 0 < 2) (by omega : (0 : Int).toNat * 2 + 0 = (0 : Int).toNat * 2 + 0) (by kernel_rfl)))) (.pure (v := aB true) (by kernel_rfl) (eB hb8) (.mu 29 (.done (.n2 93 [(1, slT ah.c v3.1), (54, aB true)] [] (.cT (by kernel_rfl) (.seq (.ru G (.ret ?_))))))))))))))))
  obtain rfl := oi hr
  exact aJ.r1 [aB false]
 replace hr := cA hb8 hr
 rcases bT ((((gt v3.1 0).Points.length : Int) : Int) != 6) with hb9 | hb9
 ·replace hr := cy hb9 hr
  refine .r0 G (.mu 1 (.p0 (v := aB false) (eB hb5) (.mu 3 (.pure (v := aB false) (by kernel_rfl) (eB hb6) (.mu 3 (.pure (v := .pp (v3.1.flatMap ah.c) ((0 : Int).toNat * 2)) (by kernel_rfl) (tr (ar hg7)) (.mu 1 (.pure (v := aB (gt v3.1 0).Closed) (by kernel_rfl) (tr (aH (aK ah.len (aD hg7) (by decide : 0 < 2) (by omega : (0 : Int).toNat * 2 + 0 = (0 : Int).toNat * 2 + 0) (by kernel_rfl)))) (.pure (v := aB false) (by kernel_rfl) (eB hb8) (.mu 3 (.pure (v := .pp (v3.1.flatMap ah.c) ((0 : Int).toNat * 2)) (by kernel_rfl) (tr (ar hg7)) (.mu 1 (.pure (v := slT al.c (gt v3.1 0).Points) (by kernel_rfl) (tr (aH (aK ah.len (aD hg7) (by decide : 1 < 2) (by omega : (0 : Int).toNat * 2 + 1 = (0 : Int).toNat * 2 + 1) (by kernel_rfl)))) (.mu 1 (.pure (v := aB true) (by kernel_rfl) (eB hb9) (.mu 21 (.done (.n2 93 [(1, slT ah.c v3.1), (54, aB true)] [] (.cT (by kernel_rfl) (.seq (.ru G (.ret ?_))))))))))))))))))))))
  obtain rfl := oi hr
  exact aJ.r1 [aB false]
 replace hr := cA hb9 hr
 obtain ⟨hg10, hr⟩ := gd hr
 rcases bT (((gt (gt v3.1 0).Points 1).A : Int) != 1) with hb11 | hb11
 ·replace hr := cy hb11 hr
  refine .r0 G (.mu 1 (.p0 (v := aB false) (eB hb5) (.mu 3 (.pure (v := aB false) (by kernel_rfl) (eB hb6) (.mu 3 (.pure (v := .pp (v3.1.flatMap ah.c) ((0 : Int).toNat * 2)) (by kernel_rfl) (tr (ar hg7)) (.mu 1 (.pure (v := aB (gt v3.1 0).Closed) (by kernel_rfl) (tr (aH (aK ah.len (aD hg7) (by decide : 0 < 2) (by omega : (0 : Int).toNat * 2 + 0 = (0 : Int).toNat * 2 + 0) (by kernel_rfl)))) (.pure (v := aB false) (by kernel_rfl) (eB hb8) (.mu 3 (.pure (v := .pp (v3.1.flatMap ah.c) ((0 : Int).toNat * 2)) (by kernel_rfl) (tr (ar hg7)) (.mu 1 (.pure (v := slT al.c (gt v3.1 0).Points) (by kernel_rfl) (tr (aH (aK ah.len (aD hg7) (by decide : 1 < 2) (by omega : (0 : Int).toNat * 2 + 1 = (0 : Int).toNat * 2 + 1) (by kernel_rfl)))) (.mu 1 (.pure (v := aB false) (by kernel_rfl) (eB hb9) (.mu 3 (.pure (v := .pp (v3.1.flatMap ah.c) ((0 : Int).toNat * 2)) (by kernel_rfl) (tr (ar hg7)) (.mu 1 (.pure (v := slT al.c (gt v3.1 0).Points) (by kernel_rfl) (tr (aH (aK ah.len (aD hg7) (by decide : 1 < 2) (by omega : (0 : Int).toNat * 2 + 1 = (0 : Int).toNat * 2 + 1) (by kernel_rfl)))) (.pure (v := .pp ((gt v3.1 0).Points.flatMap al.c) ((1 : Int).toNat * 6)) (by kernel_rfl) (tr (ar hg10)) (.mu 1 (.pure (v := ae (gt (gt v3.1 0).Points 1).A) (by kernel_rfl) (tr (aH (aK al.len (aD hg10) (by decide : 0 < 6) (by omega : (1 : Int).toNat * 6 + 0 = (1 : Int).toNat * 6 + 0) (by kernel_rfl)))) (.pure (v := aB true) (by kernel_rfl) (eB hb11) (.mu 11 (.done (.n2 93 [(1, slT ah.c v3.1), (54, aB true)] [] (.cT (by kernel_rfl) (.seq (.ru G (.ret ?_))))))))))))))))))))))))))))))
  obtain rfl := oi hr
  exact aJ.r1 [aB false]
 replace hr := cA hb11 hr
 refine .r0 G (.mu 1 (.p0 (v := aB false) (eB hb5) (.mu 3 (.pure (v := aB false) (by kernel_rfl) (eB hb6) (.mu 3 (.pure (v := .pp (v3.1.flatMap ah.c) ((0 : Int).toNat * 2)) (by kernel_rfl) (tr (ar hg7)) (.mu 1 (.pure (v := aB (gt v3.1 0).Closed) (by kernel_rfl) (tr (aH (aK ah.len (aD hg7) (by decide : 0 < 2) (by omega : (0 : Int).toNat * 2 + 0 = (0 : Int).toNat * 2 + 0) (by kernel_rfl)))) (.pure (v := aB false) (by kernel_rfl) (eB hb8) (.mu 3 (.pure (v := .pp (v3.1.flatMap ah.c) ((0 : Int).toNat * 2)) (by kernel_rfl) (tr (ar hg7)) (.mu 1 (.pure (v := slT al.c (gt v3.1 0).Points) (by kernel_rfl) (tr (aH (aK ah.len (aD hg7) (by decide : 1 < 2) (by omega : (0 : Int).toNat * 2 + 1 = (0 : Int).toNat * 2 + 1) (by kernel_rfl)))) (.mu 1 (.pure (v := aB false) (by kernel_rfl) (eB hb9) (.mu 3 (.pure (v := .pp (v3.1.flatMap ah.c) ((0 : Int).toNat * 2)) (by kernel_rfl) (tr (ar hg7)) (.mu 1 (.pure (v := slT al.c (gt v3.1 0).Points) (by kernel_rfl) (tr (aH (aK ah.len (aD hg7) (by decide : 1 < 2) (by omega : (0 : Int).toNat * 2 + 1 = (0 : Int).toNat * 2 + 1) (by kernel_rfl)))) (.pure (v := .pp ((gt v3.1 0).Points.flatMap al.c) ((1 : Int).toNat * 6)) (by kernel_rfl) (tr (ar hg10)) (.mu 1 (.pure (v := ae (gt (gt v3.1 0).Points 1).A) (by kernel_rfl) (tr (aH (aK al.len (aD hg10) (by decide : 0 < 6) (by omega : (1 : Int).toNat * 6 + 0 = (1 : Int).toNat * 6 + 0) (by kernel_rfl)))) (.pure (v := aB false) (by kernel_rfl) (eB hb11) (.mu 3 (.pure (v := .pp (v3.1.flatMap ah.c) ((0 : Int).toNat * 2)) (by kernel_rfl) (tr (ar hg7)) (.mu 1 (.pure (v := slT al.c (gt v3.1 0).Points) (by kernel_rfl) (tr (aH (aK ah.len (aD hg7) (by decide : 1 < 2) (by omega : (0 : Int).toNat * 2 + 1 = (0 : Int).toNat * 2 + 1) (by kernel_rfl)))) (.pure (v := .pp ((gt v3.1 0).Points.flatMap al.c) ((1 : Int).toNat * 6)) (by kernel_rfl) (tr (ar hg10)) (.mu 1 (.pure (v := ae (gt (gt v3.1 0).Points 1).B) (by kernel_rfl) (tr (aH (aK al.len (aD hg10) (by decide : 1 < 6) (by omega : (1 : Int).toNat * 6 + 1 = (1 : Int).toNat * 6 + 1) (by kernel_rfl)))) (.mu 2 (.done (.n2 93 [(1, slT ah.c v3.1), (54, aB (((gt (gt v3.1 0).Points 1).B : Int) != 4))] [] ?_)))))))))))))))))))))))))))))))))
 refine .cd hr ?_ ?_ <;> intro hb12 hr
 ·refine .seq (.ru G (.ret ?_))
  obtain rfl := oi hr
  exact aJ.r1 [aB false]
 refine .skip (.seq ?_)
 obtain ⟨v13, hc14, v15, hc16, hr⟩ := bd2 hr
 refine .gn G (ca1 (ok0 (fE n v13 hc14)) (ca3 (ok0 (tb n v13 1 v15 hc16)))) (.ca cf0 (.ca (cfF cf0) (.mu 6 (.done (.n2 93 [(1, slT ah.c v3.1), (2, ae v15.2), (3, .hp 0 0)] [.own (ak.c v15.1)] (.seq ?_))))))
 obtain ⟨v17, hc18, v19, hc20, hr⟩ := bd2 hr
 refine .tn G (ca1 (ok0 (fE n v17 hc18)) (ca3 (ok0 (sE n v17 (gt v3.1 0) 1 1 v19 hc20)))) (.ca cf0 (.mu 1 (.pure (v := .pp (v3.1.flatMap ah.c) ((0 : Int).toNat * 2)) (by kernel_rfl) (tr (ar hg7)) (by kernel_rfl) (.pure (v := .agg (ah.c (gt v3.1 0))) (by kernel_rfl) (tr (y := bI.ofP (eG (decide (2 <= ((v3.1.flatMap ah.c).drop ((0 : Int).toNat * 2)).length)) (.agg (((v3.1.flatMap ah.c).drop ((0 : Int).toNat * 2)).take 2)))) (ch ah.len (aD hg7) (by decide) (by omega : (0 : Int).toNat * 2 = (0 : Int).toNat * 2 + 0) (by kernel_rfl))) (by kernel_rfl) (.ca (cfF cf0) (.mu 5 ?_))))))
 refine .done ⟨by kernel_rfl, ?_⟩
 refine .n2 93 [(1, slT ah.c v3.1), (2, ae v15.2), (3, .hp 0 0), (4, ae v19.1), (5, ae v19.2)] [.own (ak.c v15.1)] (.seq ?_)
 obtain ⟨v21, hc22, hr⟩ := bd hr
 refine .g1 G (ok0 (qA n 147 16 v21 hc22)) (.ca cf0 (.mu 6 (.done (.n2 93 [(1, slT ah.c v3.1), (2, ae v15.2), (3, .hp 0 0), (4, ae v19.1), (5, ae v19.2), (6, .hp 1 0)] [.own (ak.c v15.1), .own (ak.c v21.1)] (.seq ?_)))))
 rcases bT ((v15.2 : Int) == 0) with hb23 | hb23
 ·replace hr := cy hb23 hr
  rcases bT ((v19.2 : Int) == 0) with hb24 | hb24
  ·replace hr := cy hb24 hr
   rcases bT ((v19.1 : Int) == 1) with hb25 | hb25
   ·replace hr := cy hb25 hr
    obtain ⟨v26, hc27, hr⟩ := bd hr
    rcases bT v26 with hb28 | hb28
    ·subst hb28
     replace hr := cy rfl hr
     obtain ⟨v29, hc30, v31, hc32, hr⟩ := bd2 hr
     refine .gn G (ca1 (ok0 (c5 n v15.1 v21.1 true hc27)) (ca1 (ok0 (fE n v29 hc30)) (ca3 (ok0 (sF n v29 1 v3.1 v31 hc32))))) (.mu 1 (.p0 (v := aB true) (eB hb23) (.mu 2 (.pure (v := aB true) (by kernel_rfl) (eB hb24) (.mu 3 (.pure (v := aB true) (by kernel_rfl) (eB hb25) (.mu 4 (.ca cf0 (.mu 2 (.ca (cfF cf0) (.mu 1 (.ca (cfF (cfF cf0)) (.mu 3 (.done (.ret ?_)))))))))))))))
     obtain rfl := oi hr
     exact aJ.r1 [aB ((v31 : Int) == 0)]
    subst hb28
    replace hr := cA rfl hr
    refine .g1 G (ok0 (c5 n v15.1 v21.1 false hc27)) (.mu 1 (.p0 (v := aB true) (eB hb23) (.mu 2 (.pure (v := aB true) (by kernel_rfl) (eB hb24) (.mu 3 (.pure (v := aB true) (by kernel_rfl) (eB hb25) (.mu 4 (.ca cf0 (.mu 8 (.done (.ret ?_)))))))))))
    obtain rfl := oi hr
    exact aJ.r1 [aB false]
   replace hr := cA hb25 hr
   refine .r0 G (.mu 1 (.p0 (v := aB true) (eB hb23) (.mu 2 (.pure (v := aB true) (by kernel_rfl) (eB hb24) (.mu 3 (.pure (v := aB false) (by kernel_rfl) (eB hb25) (.mu 13 (.done (.ret ?_)))))))))
   obtain rfl := oi hr
   exact aJ.r1 [aB false]
  replace hr := cA hb24 hr
  refine .r0 G (.mu 1 (.p0 (v := aB true) (eB hb23) (.mu 2 (.pure (v := aB false) (by kernel_rfl) (eB hb24) (.mu 17 (.done (.ret ?_)))))))
  obtain rfl := oi hr
  exact aJ.r1 [aB false]
 replace hr := cA hb23 hr
 refine .r0 G (.mu 1 (.p0 (v := aB false) (eB hb23) (.mu 20 (.done (.ret ?_)))))
 obtain rfl := oi hr
 exact aJ.r1 [aB false]

theorem l6 (n : Nat) (g : an) (n' : Int) (r : Bool) (hr : kM n g n' = some r) : aN Tryz.prog 13 [.agg (an.c g), ae n'] (aB r) := by
 unfold kM at hr
 refine aN.bd G Tryz.func13 [.tmp 4] ?_
 unfold Tryz.f13
 simp only [gS]
 refine .seq (.r5 G [1] [(2, .hp 0 0)] [.own (an.c g)] (.seq (.ru G (.ret ?_))))
 obtain rfl := oi hr
 exact aJ.r1 [aB (decide ((g.Z.length : Int) <= n'))]

theorem oa (n : Nat) (x' : ak) (r : Int) (hr : fM n x' = some r) : aN Tryz.prog 19 [.agg (ak.c x')] (ae r) := by
 unfold fM at hr
 refine aN.bd G Tryz.func19 [.tmp 2] ?_
 unfold Tryz.f19
 simp only [gS]
 refine .seq (.r2 G 12 [(1, .hp 0 0)] [.own (ak.c x')] (.seq (.ru G (.ret ?_))))
 obtain rfl := oi hr
 exact aJ.r1 [ae (CT ((x'.Num.Groups.length : Int) + (x'.Den.Groups.length : Int)))]

theorem ti (n : Nat) (g : an) (c : al) (r : az × Int) (hr : im n g c = some r) : aN Tryz.prog 29 [.agg (an.c g), .agg (al.c c)] (.tup [.agg (az.c r.1), ae r.2]) := by
 unfold im at hr
 refine aN.bd G Tryz.func29 [.cell 4 59, .tmp 5] ?_
 unfold Tryz.f29
 simp only [gS]
 refine .seq (.r2 G 18 [(2, .hp 0 0), (3, .hp 1 0), (4, .hp 2 0)] [.own (an.c g), .own (al.c c), .own [aB false, nS, aB false, nS, aB false, nS, aB false, nS]] (.seq (.seq ?_)))
 obtain ⟨v1, hc2, hr⟩ := bd hr
 refine .g1 G (ok0 (lJ n g v1 hc2)) (.mu 1 (.ca cf0 (.mu 1 (.done (.nh [2, 3, 4, 6] [.own (an.c g), .own (al.c c), .own [aB false, nS, aB false, nS, aB false, nS, aB false, nS]] (.seq (.r4 G [2, 3, 4, 6] [(10, aB ((v1 : Int) != 0))] ?_)))))))
 refine .cd hr ?_ ?_ <;> intro hb3 hr
 ·refine .seq (.r4 G [4] [(5, ae v1)] (.ret ?_))
  obtain rfl := oi hr
  exact aJ.ret (vs := [.agg [aB false, nS, aB false, nS, aB false, nS, aB false, nS], ae v1]) (by kernel_rfl) (Sn.tup (SnL.cons (Sn.agg (Sp (SnL.cons Sn.cX (Sp (SnL.cons Sn.cX (Sp (SnL.cons Sn.cX (Sp (SnL.cons Sn.cX SnL.nil))))))))) (Sp SnL.nil)))
 refine .skip (.seq ?_)
 obtain ⟨v4, hc5, hr⟩ := bd hr
 refine .g1 G (ok0 (oE n g c v4 hc5)) (.mu 2 (.ca cf0 (.mu 4 (.done (.nh [4, 5] [.own (an.c g), .own (al.c c), .own (az.c v4.1)] (.ret ?_))))))
 obtain rfl := oi hr
 exact aJ.ret (vs := [.agg (az.c v4.1), ae v4.2]) (by kernel_rfl) (Sn.tup (Sp (Sp SnL.nil)))

theorem pU (n : Nat) {n' : Int} {n'_ : Int} (h : ([.at (.int .i64 n')] : List AV) = [.at (.int .i64 n'_)]) : ew n n' = ew n n'_ := by
 obtain rfl := ei h
 rfl
theorem gX (n : Nat) (n' : Int) (r : Bool) (hr : ew n n' = some r) : aN Tryz.prog 62 [ae n'] (aB r) := by
 unfold ew at hr
 refine aN.bd G Tryz.func62 [.tmp 2] ?_
 unfold Tryz.f62
 simp only [gS]
 refine .seq (.r4 G [0] [] (.seq ?_))
 rcases bT (decide (n' < (-1048576))) with hb1 | hb1
 ·replace hr := cy hb1 hr
  refine .r0 G (.mu 1 (.p0 (v := aB true) (eB hb1) (.mu 5 (.done (.ret ?_)))))
  obtain rfl := oi hr
  exact aJ.r1 [aB true]
 replace hr := cA hb1 hr
 refine .r0 G (.mu 1 (.p0 (v := aB false) (eB hb1) (.mu 5 (.done (.ret ?_)))))
 obtain rfl := oi hr
 exact aJ.r1 [aB (decide (n' > 1048576))]
end Go.L
