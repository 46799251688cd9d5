
import Derived.Test.YtecdcgfclgmbpaaGreatPlcLP1
import Derived.Test.YtecdcgfclgmbpaaGreatL0Plcs
import Derived.Test.YtecdcgfclgmbpaaGreatChecked
import Derived.KernelRfl
set_option linter.all false
set_option maxRecDepth 100000
set_option maxHeartbeats 4000000
namespace Go.L
open Go Go.Eng Go.Proofs
theorem iA (n : Nat) (num : ai) (den : ai) (r : ak) (hr : eP n num den = some r) : aN Tryz.prog 122 [.agg (ai.c num), .agg (ai.c den)] (.agg (ak.c r)) := by
 unfold eP at hr
 refine aN.bd G Tryz.func122 [.cell 4 42] ?_
 unfold Tryz.f122
 simp only [gS]
 refine .seq (.r2 G 33 [(2, .hp 0 0), (3, .hp 1 0), (4, .hp 2 0)] [.own (ai.c num), .own (ai.c den), .own [aB false, nS, aB false, nS]] (.seq (.seq ?_)))
 obtain ⟨v1, hc2, hr⟩ := bd hr
 refine .g1 G (ok0 (fW n den v1 hc2)) (.mu 1 (.ca cf0 (.mu 1 (.done (.nh [2, 3, 4, 8] [.own (ai.c num), .own (ai.c den), .own [aB false, nS, aB false, nS]] ?_)))))
 refine .cd hr ?_ ?_ <;> intro hb3 hr
 ·obtain ⟨v4, hc5, v6, hc7, hr⟩ := bd2 hr
  refine .tn G (ca1 (ok0 (gz n num v4 hc5)) (ca3 (ok0 (gz n den v6 hc7)))) (.mu 1 (.ca cf0 (.mu 1 (.ca (cfA (fun h => by rw [sv hc7 hc5 (gE n h)]) cf0) (.mu 2 ?_)))))
  refine .done ⟨by kernel_rfl, ?_⟩
  refine .nh [2, 3, 4] [.own (ai.c v4), .own (ai.c v6), .own [aB false, nS, aB false, nS]] (.seq ?_)
  obtain ⟨v8, hc9, hr⟩ := bd hr
  refine .g1 G (ok0 (nf n v4 v6 v8 hc9)) (.mu 2 (.ca cf0 (.mu 2 (.done (.nh [2, 3, 4, 5] [.own (ai.c v4), .own (ai.c v6), .own [aB false, nS, aB false, nS], .own (ai.c v8)] (.seq ?_))))))
  obtain ⟨v10, hc11, hr⟩ := bd hr
  refine .g1 G (ok0 (jz n v4 v8 v10 hc11)) (.mu 2 (.ca cf0 (.mu 5 (.done (.nh [2, 3, 4, 5] [.own (ai.c v10.1), .own (ai.c v6), .own [aB false, nS, aB false, nS], .own (ai.c v8)] (.seq ?_))))))
  obtain ⟨v12, hc13, hr⟩ := bd hr
  refine .g1 G (ok0 (jz n v6 v8 v12 hc13)) (.mu 2 (.ca cf0 (.mu 5 (.done (.nh [2, 3, 4] [.own (ai.c v10.1), .own (ai.c v12.1), .own [aB false, nS, aB false, nS], .own (ai.c v8)] (.seq (.r5 G [4] [] [.own (ai.c v10.1), .own (ai.c v12.1), .own [aB v10.1.Negative, au v10.1.Groups, aB v12.1.Negative, au v12.1.Groups], .own (ai.c v8)] (.ret ?_))))))))
  obtain rfl := oi hr
  exact aJ.r1 [.agg [aB v10.1.Negative, au v10.1.Groups, aB v12.1.Negative, au v12.1.Groups]]
 refine .skip (.seq ?_)
 obtain ⟨v14, hc15, hr⟩ := bd hr
 refine .g1 G (ok0 (nf n num den v14 hc15)) (.mu 2 (.ca cf0 (.mu 2 (.done (.nh [2, 3, 4, 5] [.own (ai.c num), .own (ai.c den), .own [aB false, nS, aB false, nS], .own (ai.c v14)] (.seq ?_))))))
 obtain ⟨v16, hc17, hr⟩ := bd hr
 refine .g1 G (ok0 (jz n num v14 v16 hc17)) (.mu 2 (.ca cf0 (.mu 5 (.done (.nh [2, 3, 4, 5] [.own (ai.c v16.1), .own (ai.c den), .own [aB false, nS, aB false, nS], .own (ai.c v14)] (.seq ?_))))))
 obtain ⟨v18, hc19, hr⟩ := bd hr
 refine .g1 G (ok0 (jz n den v14 v18 hc19)) (.mu 2 (.ca cf0 (.mu 5 (.done (.nh [2, 3, 4] [.own (ai.c v16.1), .own (ai.c v18.1), .own [aB false, nS, aB false, nS], .own (ai.c v14)] (.seq (.r5 G [4] [] [.own (ai.c v16.1), .own (ai.c v18.1), .own [aB v16.1.Negative, au v16.1.Groups, aB v18.1.Negative, au v18.1.Groups], .own (ai.c v14)] (.ret ?_))))))))
 obtain rfl := oi hr
 exact aJ.r1 [.agg [aB v16.1.Negative, au v16.1.Groups, aB v18.1.Negative, au v18.1.Groups]]

theorem tI (n : Nat) (num : ai) (den : ai) (r : ak × Int) (hr : oQ n num den = some r) : aN Tryz.prog 157 [.agg (ai.c num), .agg (ai.c den)] (.tup [.agg (ak.c r.1), ae r.2]) := by
 unfold oQ at hr
 refine aN.bd G Tryz.func157 [.cell 4 42, .tmp 5] ?_
 unfold Tryz.f157
 simp only [gS]
 refine .seq (.r2 G 17 [(2, .hp 0 0), (3, .hp 1 0), (4, .hp 2 0)] [.own (ai.c num), .own (ai.c den), .own [aB false, nS, aB false, nS]] (.seq ?_))
 obtain ⟨v1, hc2, v3, hc4, hr⟩ := bd2 hr
 refine .tn G (ca1 (ok0 (mE n num v1 hc2)) (ca3 (ok0 (mE n den v3 hc4)))) (.mu 1 (.ca cf0 (.mu 1 (.ca (cfA (fun h => by rw [sv hc4 hc2 (qz n h)]) cf0) (.mu 2 ?_)))))
 refine .done ⟨by kernel_rfl, ?_⟩
 refine .nh [2, 3, 4] [.own (ai.c v1), .own (ai.c v3), .own [aB false, nS, aB false, nS]] (.seq (.seq ?_))
 obtain ⟨v5, hc6, hr⟩ := bd hr
 refine .g1 G (ok0 (fW n v3 v5 hc6)) (.mu 1 (.ca cf0 (.mu 1 (.done (.nh [2, 3, 4, 12] [.own (ai.c v1), .own (ai.c v3), .own [aB false, nS, aB false, nS]] ?_)))))
 refine .cd hr ?_ ?_ <;> intro hb7 hr
 ·refine .seq (.r4 G [4] [(5, ae 14)] (.ret ?_))
  obtain rfl := oi hr
  exact aJ.ret (vs := [.agg [aB false, nS, aB false, nS], ae 14]) (by kernel_rfl) (Sn.tup (SnL.cons (Sn.agg (Sp (SnL.cons Sn.cX (Sp (SnL.cons Sn.cX SnL.nil))))) (Sp SnL.nil)))
 refine .skip (.seq ?_)
 obtain ⟨v8, hc9, hr⟩ := bd hr
 refine .g1 G (ok0 (iA n v1 v3 v8 hc9)) (.mu 2 (.ca cf0 (.mu 2 (.done (.nh [4, 5] [.own (ai.c v1), .own (ai.c v3), .own (ak.c v8)] (.ret ?_))))))
 obtain rfl := oi hr
 exact aJ.ret (vs := [.agg (ak.c v8), ae 0]) (by kernel_rfl) (Sn.tup (Sp (Sp SnL.nil)))

theorem fh (n : Nat) (n' : Int) (d : Int) (r : ak × Int) (hr : fJ n n' d = some r) : aN Tryz.prog 118 [ae n', ae d] (.tup [.agg (ak.c r.1), ae r.2]) := by
 unfold fJ at hr
 refine aN.bd G Tryz.func118 [.cell 4 42, .tmp 5] ?_
 unfold Tryz.f118
 simp only [gS]
 refine .seq (.r5 G [0, 1] [(4, .hp 0 0)] [.own [aB false, nS, aB false, nS]] (.seq ?_))
 obtain ⟨v1, hc2, v3, hc4, v5, hc6, hr⟩ := bd3 hr
 refine .gn G (ca1 (ok0 (jo n n' v1 hc2)) (ca1 (ok0 (jo n d v3 hc4)) (ca3 (ok0 (tI n v1 v3 v5 hc6))))) (.mu 1 (.ca cf0 (.mu 1 (.ca (cfA (fun h => by rw [sv hc4 hc2 (qG n h)]) cf0) (.ca (cfF (cfF cf0)) (.mu 4 (.done (.nh [4, 5] [.own (ak.c v5.1)] (.ret ?_)))))))))
 obtain rfl := oi hr
 exact aJ.ret (vs := [.agg (ak.c v5.1), ae v5.2]) (by kernel_rfl) (Sn.tup (Sp (Sp SnL.nil)))

theorem qE (n : Nat) (g : an) (level : Int) (e : A2 Int) (r : al) (hr : lO n g level e = some r) : aN Tryz.prog 94 [.agg (an.c g), ae level, .agg [ae e.e0, ae e.e1]] (.agg (al.c r)) := by
 unfold lO at hr
 refine aN.bd G Tryz.func94 [.cell 6 44] ?_
 unfold Tryz.f94
 simp only [gS]
 refine .seq (.r5 G [1] [(3, .hp 0 0), (5, .hp 1 0), (6, .hp 2 0)] [.own (an.c g), .own [ae e.e0, ae e.e1], .own [ae 0, ae 0, aB false, nS, aB false, nS]] (.seq ?_))
 obtain ⟨hg1, hg2, hr⟩ := gd2 hr
 refine .eK G bW (.mu 4 (.pure (v := .pp (g.Z.flatMap (iC .i64)) (e.e0.toNat * 1)) (by kernel_rfl) (tr (ar hg1)) (by kernel_rfl) (.pure (v := ae (gt g.Z e.e0)) (by kernel_rfl) (tr (aH (aK (aI .i64) (aD hg1) z1 (by omega : e.e0.toNat * 1 = e.e0.toNat * 1 + 0) (by kernel_rfl)))) (by kernel_rfl) (.mu 4 (.pure (v := .pp (g.Z.flatMap (iC .i64)) (e.e1.toNat * 1)) (by kernel_rfl) (tr (ar hg2)) (by kernel_rfl) (.pure (v := ae (gt g.Z e.e1)) (by kernel_rfl) (tr (aH (aK (aI .i64) (aD hg2) z1 (by omega : e.e1.toNat * 1 = e.e1.toNat * 1 + 0) (by kernel_rfl)))) (by kernel_rfl) (.mu 2 ?_)))))))
 refine .done ⟨by kernel_rfl, ?_⟩
 refine .nh [1, 5, 6, 7, 8] [.own (an.c g), .own [ae e.e0, ae e.e1], .own [ae 0, ae 0, aB false, nS, aB false, nS]] (.seq ?_)
 obtain ⟨v3, hc4, hr⟩ := bd hr
 refine .g1 G (ok0 (fh n (CT (level - (CT (2 * (gt g.Z e.e0))))) (CT (2 * (CT ((gt g.Z e.e1) - (gt g.Z e.e0))))) v3 hc4)) (.mu 8 (.ca cf0 (.mu 6 (.done (.nh [5, 6, 9] [.own (an.c g), .own [ae e.e0, ae e.e1], .own [ae 0, ae 0, aB false, nS, aB false, nS], .own (ak.c v3.1)] (.seq (.r5 G [6] [] [.own (an.c g), .own [ae e.e0, ae e.e1], .own [ae e.e0, ae e.e1, aB v3.1.Num.Negative, au v3.1.Num.Groups, aB v3.1.Den.Negative, au v3.1.Den.Groups], .own (ak.c v3.1)] (.ret ?_))))))))
 obtain rfl := oi hr
 exact aJ.r1 [.agg [ae e.e0, ae e.e1, aB v3.1.Num.Negative, au v3.1.Num.Groups, aB v3.1.Den.Negative, au v3.1.Den.Groups]]

theorem lZ (n : Nat) (start : A2 Int) (closed : Bool) (p : List (A2 Int × Bool)) (p' : Int) (p'' : Int) (cU : Int) (bx : Int) (aP : Int) (aR : List Int) (aV : Int) (aG : List (A2 Int × A2 Int)) (aE : List ah) (r : List (A2 Int × Bool) × List ah) (hr : fT n start closed p p' p'' cU bx aP aR aV aG aE = some r) : ef 5 Tryz.prog 93 [.agg [ae start.e0, ae start.e1], aB closed, .hp 0 0, .hp 1 0, .hp 2 0, .hp 3 0, .hp 4 0] [.own [.mp 5], .own [ae p', ae p'', ae cU, ae bx, ae aP, bG aR], .own [ae aV], .own [.mp 6], .own [.hs 7 0 aE.length 2], .map (p.map (mpK av.K bA)), .map (aG.map (mpK av.K (gA aj.c))), .own (aE.flatMap ah.c)] (.tup []) [.own [.mp 5], .own [ae p', ae p'', ae cU, ae bx, ae aP, bG aR], .own [ae aV], .own [.mp 6], .own [.hs 7 0 r.2.length 2], .map (r.1.map (mpK av.K bA)), .map (aG.map (mpK av.K (gA aj.c))), .own (r.2.flatMap ah.c)] := by
 unfold fT at hr
 refine ef.kE G Tryz.func93 (c := (Tryz.f93.body).getD .skip) rfl (us := []) (s := mkS 46 0 [(0, .agg [ae start.e0, ae start.e1]), (1, aB closed), (2, .hp 0 0), (3, .hp 1 0), (4, .hp 2 0), (5, .hp 3 0), (6, .hp 4 0)]) (by kernel_rfl) (rs := []) rfl ?_
 unfold Tryz.f93
 simp only [gS]
 refine .seq (.r5 G [1, 2, 3, 4, 5, 6] [(7, .hp 8 0)] [.own [.mp 5], .own [ae p', ae p'', ae cU, ae bx, ae aP, bG aR], .own [ae aV], .own [.mp 6], .own [.hs 7 0 aE.length 2], .map (p.map (mpK av.K bA)), .map (aG.map (mpK av.K (gA aj.c))), .own (aE.flatMap ah.c), .own [ae start.e0, ae start.e1]] (.scope (.seq (.r5 G [2, 3, 4, 5, 6, 7] [(9, .hp 9 0)] [.own [.mp 5], .own [ae p', ae p'', ae cU, ae bx, ae aP, bG aR], .own [ae aV], .own [.mp 6], .own [.hs 7 0 aE.length 2], .map (p.map (mpK av.K bA)), .map (aG.map (mpK av.K (gA aj.c))), .own (aE.flatMap ah.c), .own [ae start.e0, ae start.e1], .own [aB closed, nS]] (.seq (.label (.seq (.seq (.r5 G [2, 3, 4, 5, 6, 9] [(10, .hp 10 0)] [.own [.mp 5], .own [ae p', ae p'', ae cU, ae bx, ae aP, bG aR], .own [ae aV], .own [.mp 6], .own [.hs 7 0 aE.length 2], .map (p.map (mpK av.K bA)), .map (aG.map (mpK av.K (gA aj.c))), .own (aE.flatMap ah.c), .own [ae start.e0, ae start.e1], .own [aB closed, nS], .own [ae start.e0, ae start.e1]] (.block ?_))))))))))
 replace hr := bd hr; obtain ⟨o46, hL47, hr⟩ := hr
 refine .aO (σ := fun z0 => match z0 with | (p_27, c_28, a_29, a_30) => ⟨mkS 46 0 [(2, .hp 0 0), (3, .hp 1 0), (4, .hp 2 0), (5, .hp 3 0), (6, .hp 4 0), (9, .hp 8 0), (10, .hp 10 0)], [.own [.mp 5], .own [ae p', ae p'', ae cU, ae bx, ae aP, bG aR], .own [ae aV], .own [.mp 6], .own [.hs 7 0 aE.length 2], .map (p_27.map (mpK av.K bA)), .map (aG.map (mpK av.K (gA aj.c))), .own (aE.flatMap ah.c), .own [aB closed, .hs 9 0 c_28.length 6], .own (c_28.flatMap al.c), .own [ae a_29, ae a_30]]⟩) (Q := fun x st' => match (generalizing := false) o46 with | (p_37, c_38) => x = .exit 0 /\ Wk 5 st' ⟨mkS 46 0 [(6, .hp 4 0), (9, .hp 8 0)], [.own [.mp 5], .own [ae p', ae p'', ae cU, ae bx, ae aP, bG aR], .own [ae aV], .own [.mp 6], .own [.hs 7 0 aE.length 2], .map (p_37.map (mpK av.K bA)), .map (aG.map (mpK av.K (gA aj.c))), .own (aE.flatMap ah.c), .own [aB closed, .hs 9 0 c_38.length 6], .own (c_38.flatMap al.c)]⟩) hL47 ((Wk.yG 9 1 6 (cs := [aB closed, nS]) (by kernel_rfl) (by kernel_rfl)).trans ((Wk.gc [2, 3, 4, 5, 6, 9, 10] [(0, true), (1, true), (2, true), (3, true), (4, true), (5, false), (6, false), (7, false), (9, true), (11, false), (10, true)] rfl (pKt (pKt (pKt (pKt (pKt (pKM av.K bA (fun _ => rfl) p (pKM av.K (gA aj.c) (fun _ => rfl) aG (pKo ah.c ah.pure aE (pKt (pKc trivial))))))))))).to)) ?_ ?_
 ·clear hr
  rintro m ⟨p_27, c_28, a_29, a_30⟩ hr
  show CQ _ _ _ _ _ ⟨_, _⟩
  refine .seq (.block (.seq (.r0 G (.mu 2 (.e0 (v := .unk) (ws := [(5, .map ((j7 p_27 (A2.mk a_29 a_30) true).map (mpK av.K bA)))]) (tr (y := iE Tryz.prog [.own [.mp 5], .own [ae p', ae p'', ae cU, ae bx, ae aP, bG aR], .own [ae aV], .own [.mp 6], .own [.hs 7 0 aE.length 2], .map (p_27.map (mpK av.K bA)), .map (aG.map (mpK av.K (gA aj.c))), .own (aE.flatMap ah.c), .own [aB closed, .hs 9 0 c_28.length 6], .own (c_28.flatMap al.c), .own [ae a_29, ae a_30]] 125 (.mp 5) (.agg [ae a_29, ae a_30]) (aB true)) (zJ (kt := 101) (e := 4) (l := p_27) (f := bA) (v := true) (K := av.K) (x := A2.mk a_29 a_30) av.key (by kernel_rfl) (by kernel_rfl) (by kernel_rfl) (by kernel_rfl))) (.done (.nh [2, 3, 4, 5, 6, 9, 10] [.own [.mp 5], .own [ae p', ae p'', ae cU, ae bx, ae aP, bG aR], .own [ae aV], .own [.mp 6], .own [.hs 7 0 aE.length 2], .map ((j7 p_27 (A2.mk a_29 a_30) true).map (mpK av.K bA)), .map (aG.map (mpK av.K (gA aj.c))), .own (aE.flatMap ah.c), .own [aB closed, .hs 9 0 c_28.length 6], .own (c_28.flatMap al.c), .own [ae a_29, ae a_30]] (.seq ?_))))))))
  obtain ⟨v40, hc41, hr⟩ := bd hr
  obtain ⟨hg42, hg43, hr⟩ := gd2 hr
  refine .t1 G (ok0 (qE n (an.mk p' p'' cU bx aP aR) aV (A2.mk a_29 a_30) v40 hc41)) (.mu 5 (.ca cf0 (.mu 1 (.eff (v := .hs 12 0 (c_28 ++ [v40]).length 6) (ws := [(9, .dead), (12, .own ((c_28 ++ [v40]).flatMap al.c))]) (by kernel_rfl) (tr (fc (new := (al.c v40)) (l := c_28) (xs := [v40]) al.len rfl rfl (by kernel_rfl) hg42 hg43)) (by kernel_rfl) (.mu 2 ?_)))))
  refine .done ⟨by kernel_rfl, ?_⟩
  refine .nh [2, 3, 4, 5, 6, 9, 10] [.own [.mp 5], .own [ae p', ae p'', ae cU, ae bx, ae aP, bG aR], .own [ae aV], .own [.mp 6], .own [.hs 7 0 aE.length 2], .map ((j7 p_27 (A2.mk a_29 a_30) true).map (mpK av.K bA)), .map (aG.map (mpK av.K (gA aj.c))), .own (aE.flatMap ah.c), .own [aB closed, .hs 12 0 (c_28 ++ [v40]).length 6], .dead, .own [ae a_29, ae a_30], .own (al.c v40), .own ((c_28 ++ [v40]).flatMap al.c)] (.seq (.r0 G (.mu 2 (.p0 (v := .tup [.agg [ae (getM (A2.mk 0 0 : A2 Int) aG (A2.mk a_29 a_30)).e0, ae (getM (A2.mk 0 0 : A2 Int) aG (A2.mk a_29 a_30)).e1], aB (pA aG (A2.mk a_29 a_30))]) (tr (y := bI.ofP (fH Tryz.prog [.own [.mp 5], .own [ae p', ae p'', ae cU, ae bx, ae aP, bG aR], .own [ae aV], .own [.mp 6], .own [.hs 7 0 aE.length 2], .map ((j7 p_27 (A2.mk a_29 a_30) true).map (mpK av.K bA)), .map (aG.map (mpK av.K (gA aj.c))), .own (aE.flatMap ah.c), .own [aB closed, .hs 12 0 (c_28 ++ [v40]).length 6], .dead, .own [ae a_29, ae a_30], .own (al.c v40), .own ((c_28 ++ [v40]).flatMap al.c)] 124 (.mp 6) (.agg [ae a_29, ae a_30]) true)) (AB (kt := 101) (e := 101) (l := aG) (f := (gA aj.c)) (z := (A2.mk 0 0 : A2 Int)) (K := av.K) (x := A2.mk a_29 a_30) av.key (by kernel_rfl) (by kernel_rfl) (by kernel_rfl) (by kernel_rfl) (by kernel_rfl))) (.mu 6 (.done (.nh [2, 3, 4, 5, 6, 9, 10, 11, 12] [.own [.mp 5], .own [ae p', ae p'', ae cU, ae bx, ae aP, bG aR], .own [ae aV], .own [.mp 6], .own [.hs 7 0 aE.length 2], .map ((j7 p_27 (A2.mk a_29 a_30) true).map (mpK av.K bA)), .map (aG.map (mpK av.K (gA aj.c))), .own (aE.flatMap ah.c), .own [aB closed, .hs 12 0 (c_28 ++ [v40]).length 6], .dead, .own [ae a_29, ae a_30], .own (al.c v40), .own ((c_28 ++ [v40]).flatMap al.c), .own [ae (getM (A2.mk 0 0 : A2 Int) aG (A2.mk a_29 a_30)).e0, ae (getM (A2.mk 0 0 : A2 Int) aG (A2.mk a_29 a_30)).e1]] (.seq (.seq ?_)))))))))
  rcases bT (!(pA aG (A2.mk a_29 a_30))) with hb44 | hb44
  ·replace hr := cy hb44 hr
   refine .r0 G (.mu 1 (.p0 (v := aB true) (eB hb44) (.mu 5 (.done (.nh [2, 3, 4, 5, 6, 9, 10, 11, 39] [.own [.mp 5], .own [ae p', ae p'', ae cU, ae bx, ae aP, bG aR], .own [ae aV], .own [.mp 6], .own [.hs 7 0 aE.length 2], .map ((j7 p_27 (A2.mk a_29 a_30) true).map (mpK av.K bA)), .map (aG.map (mpK av.K (gA aj.c))), .own (aE.flatMap ah.c), .own [aB closed, .hs 12 0 (c_28 ++ [v40]).length 6], .dead, .own [ae a_29, ae a_30], .own (al.c v40), .own ((c_28 ++ [v40]).flatMap al.c), .own [ae (getM (A2.mk 0 0 : A2 Int) aG (A2.mk a_29 a_30)).e0, ae (getM (A2.mk 0 0 : A2 Int) aG (A2.mk a_29 a_30)).e1]] (.cT (by kernel_rfl) (.leave rfl ?_)))))))
   obtain rfl := oi hr
   exact ⟨rfl, ((Wk.gc [6, 9] [(0, true), (1, true), (2, true), (3, true), (4, true), (5, false), (6, false), (7, false), (8, true), (12, false)] rfl (pKt (pKt (pKt (pKt (pKt (pKM av.K bA (fun _ => rfl) (j7 p_27 (A2.mk a_29 a_30) true) (pKM av.K (gA aj.c) (fun _ => rfl) aG (pKo ah.c ah.pure aE (pKt (pKo al.c al.pure (c_28 ++ [v40]) trivial))))))))))).to)⟩
  replace hr := cA hb44 hr
  refine .r0 G (.mu 1 (.p0 (v := aB false) (eB hb44) (.mu 3 (.pure (v := aB (getM false (j7 p_27 (A2.mk a_29 a_30) true) (getM (A2.mk 0 0 : A2 Int) aG (A2.mk a_29 a_30)))) (by kernel_rfl) (tr (y := bI.ofP (fH Tryz.prog [.own [.mp 5], .own [ae p', ae p'', ae cU, ae bx, ae aP, bG aR], .own [ae aV], .own [.mp 6], .own [.hs 7 0 aE.length 2], .map ((j7 p_27 (A2.mk a_29 a_30) true).map (mpK av.K bA)), .map (aG.map (mpK av.K (gA aj.c))), .own (aE.flatMap ah.c), .own [aB closed, .hs 12 0 (c_28 ++ [v40]).length 6], .dead, .own [ae a_29, ae a_30], .own (al.c v40), .own ((c_28 ++ [v40]).flatMap al.c), .own [ae (getM (A2.mk 0 0 : A2 Int) aG (A2.mk a_29 a_30)).e0, ae (getM (A2.mk 0 0 : A2 Int) aG (A2.mk a_29 a_30)).e1]] 125 (.mp 5) (.agg [ae (getM (A2.mk 0 0 : A2 Int) aG (A2.mk a_29 a_30)).e0, ae (getM (A2.mk 0 0 : A2 Int) aG (A2.mk a_29 a_30)).e1]) false)) (xX (kt := 101) (e := 4) (l := j7 p_27 (A2.mk a_29 a_30) true) (f := bA) (z := false) (K := av.K) (x := (getM (A2.mk 0 0 : A2 Int) aG (A2.mk a_29 a_30))) av.key (by kernel_rfl) (by kernel_rfl) (by kernel_rfl) (by kernel_rfl) (by kernel_rfl))) (.mu 1 (.done (.nh [2, 3, 4, 5, 6, 9, 10, 11, 39] [.own [.mp 5], .own [ae p', ae p'', ae cU, ae bx, ae aP, bG aR], .own [ae aV], .own [.mp 6], .own [.hs 7 0 aE.length 2], .map ((j7 p_27 (A2.mk a_29 a_30) true).map (mpK av.K bA)), .map (aG.map (mpK av.K (gA aj.c))), .own (aE.flatMap ah.c), .own [aB closed, .hs 12 0 (c_28 ++ [v40]).length 6], .dead, .own [ae a_29, ae a_30], .own (al.c v40), .own ((c_28 ++ [v40]).flatMap al.c), .own [ae (getM (A2.mk 0 0 : A2 Int) aG (A2.mk a_29 a_30)).e0, ae (getM (A2.mk 0 0 : A2 Int) aG (A2.mk a_29 a_30)).e1]] ?_)))))))
  refine .cd hr ?_ ?_ <;> intro hb45 hr
  ·refine .leave rfl ?_
   obtain rfl := oi hr
   exact ⟨rfl, ((Wk.gc [6, 9] [(0, true), (1, true), (2, true), (3, true), (4, true), (5, false), (6, false), (7, false), (8, true), (12, false)] rfl (pKt (pKt (pKt (pKt (pKt (pKM av.K bA (fun _ => rfl) (j7 p_27 (A2.mk a_29 a_30) true) (pKM av.K (gA aj.c) (fun _ => rfl) aG (pKo ah.c ah.pure aE (pKt (pKo al.c al.pure (c_28 ++ [v40]) trivial))))))))))).to)⟩
  refine .skip (.ru G (.pop (.seq (.r4 G [2, 3, 4, 5, 6, 9] [(41, .agg [ae (getM (A2.mk 0 0 : A2 Int) aG (A2.mk a_29 a_30)).e0, ae (getM (A2.mk 0 0 : A2 Int) aG (A2.mk a_29 a_30)).e1])] (.ru G ?_)))))
  exact aA (j7 p_27 (A2.mk a_29 a_30) true, c_28 ++ [v40], (getM (A2.mk 0 0 : A2 Int) aG (A2.mk a_29 a_30)).e0, (getM (A2.mk 0 0 : A2 Int) aG (A2.mk a_29 a_30)).e1) hr ((Wk.gc [2, 3, 4, 5, 6, 9, 10] [(0, true), (1, true), (2, true), (3, true), (4, true), (5, false), (6, false), (7, false), (8, true), (12, false), (14, true)] rfl (pKt (pKt (pKt (pKt (pKt (pKM av.K bA (fun _ => rfl) (j7 p_27 (A2.mk a_29 a_30) true) (pKM av.K (gA aj.c) (fun _ => rfl) aG (pKo ah.c ah.pure aE (pKt (pKo al.c al.pure (c_28 ++ [v40]) trivial))))))))))).to)
 rcases o46 with ⟨p_37, c_38⟩
 rintro x st' hq48
 clear hL47
 obtain ⟨rfl, hq48⟩ := hq48
 refine a9 _ rfl (.wk hq48 (.wk (((Wk.fix 9 (cs := (c_38.flatMap al.c)) (by kernel_rfl)).trans (Wk.Au 8 1 (b := 9) (len := c_38.length) (es := 6) (cs := (c_38.flatMap al.c)) (cs' := [aB closed, .hs 9 0 c_38.length 6]) (by kernel_rfl) (by kernel_rfl) (by kernel_rfl) (bc al.pure _) (fun h => cP h))).to (c := ⟨mkS 46 0 [(6, .hp 4 0), (9, .hp 8 0)], [.own [.mp 5], .own [ae p', ae p'', ae cU, ae bx, ae aP, bG aR], .own [ae aV], .own [.mp 6], .own [.hs 7 0 aE.length 2], .map (p_37.map (mpK av.K bA)), .map (aG.map (mpK av.K (gA aj.c))), .own (aE.flatMap ah.c), .own [aB closed, slT al.c c_38], .fix (c_38.flatMap al.c)]⟩) (by kernel_rfl)) ?_))
 obtain ⟨hg49, hg50, hr⟩ := gd2 hr
 refine .r0 G (.mu 3 (.e0 (v := .hs 11 0 (aE ++ [ah.mk closed c_38]).length 2) (ws := [(7, .dead), (11, .own ((aE ++ [ah.mk closed c_38]).flatMap ah.c))]) (tr (fc (new := [aB closed, slT al.c c_38]) (l := aE) (xs := [ah.mk closed c_38]) ah.len rfl rfl (by kernel_rfl) hg49 hg50)) (.mu 1 (.done ?_))))
 obtain rfl := oi hr
 exact eE.normal [] ((Wk.gc [] [(0, true), (1, true), (2, true), (3, true), (4, true), (5, false), (6, false), (11, false)] rfl (pKt (pKt (pKt (pKt (pKt (pKM av.K bA (fun _ => rfl) p_37 (pKM av.K (gA aj.c) (fun _ => rfl) aG (pKo ah.c ah.pure (aE ++ [ah.mk closed c_38]) trivial))))))))).to)

theorem rE {c : ah} {c_ : ah} (h : ([.agg [.at (.bool c.Closed), slT al.c c.Points]] : List AV) = [.agg [.at (.bool c_.Closed), slT al.c c_.Points]]) : c = c_ := by
 obtain ⟨_, _⟩ := c
 obtain ⟨_, _⟩ := c_
 simp only [List.cons.injEq, AV.agg.injEq, AV.at.injEq, Value.int.injEq, Value.bool.injEq, AV.fn.injEq, AV.pp.injEq, true_and, and_true, (yE al.len (by decide) al.inj)] at h
 simp_all
theorem od (n : Nat) {c : ah} {c_ : ah} (h : ([.agg [.at (.bool c.Closed), slT al.c c.Points]] : List AV) = [.agg [.at (.bool c_.Closed), slT al.c c_.Points]]) : gp n c = gp n c_ := by
 obtain rfl := rE h
 rfl
theorem jT (n : Nat) (c : ah) (r : A2 Int) (hr : gp n c = some r) : aN Tryz.prog 55 [.agg (ah.c c)] (.agg [ae r.e0, ae r.e1]) := by
 unfold gp at hr
 refine aN.bd G Tryz.func55 [.cell 2 101] ?_
 unfold Tryz.f55
 simp only [gS]
 refine .seq (.r2 G 14 [(1, .hp 0 0), (2, .hp 1 0)] [.own (ah.c c), .own [ae 0, ae 0]] (.seq ?_))
 obtain ⟨hg1, hr⟩ := gd hr
 refine .eK G bW (.mu 2 (.pure (v := .pp (c.Points.flatMap al.c) ((0 : Int).toNat * 6)) (by kernel_rfl) (tr (ar hg1)) (by kernel_rfl) (.mu 1 (.pure (v := ae (gt c.Points 0).A) (by kernel_rfl) (tr (aH (aK al.len (aD hg1) (by decide : 0 < 6) (by omega : (0 : Int).toNat * 6 + 0 = (0 : Int).toNat * 6 + 0) (by kernel_rfl)))) (by kernel_rfl) (.mu 2 (.pure (v := .pp (c.Points.flatMap al.c) ((0 : Int).toNat * 6)) (by kernel_rfl) (tr (ar hg1)) (by kernel_rfl) (.mu 1 (.pure (v := ae (gt c.Points 0).B) (by kernel_rfl) (tr (aH (aK al.len (aD hg1) (by decide : 1 < 6) (by omega : (0 : Int).toNat * 6 + 1 = (0 : Int).toNat * 6 + 1) (by kernel_rfl)))) (by kernel_rfl) (.mu 2 ?_)))))))))
 refine .done ⟨by kernel_rfl, ?_⟩
 refine .nh [2] [.own (ah.c c), .own [ae (gt c.Points 0).A, ae (gt c.Points 0).B]] (.ret ?_)
 obtain rfl := oi hr
 exact aJ.r1 [.agg [ae (gt c.Points 0).A, ae (gt c.Points 0).B]]

theorem q9 (n : Nat) (a : ah) (b : ah) (r : Int) (hr : mr n a b = some r) : aN Tryz.prog 95 [.agg (ah.c a), .agg (ah.c b)] (ae r) := by
 unfold mr at hr
 refine aN.bd G Tryz.func95 [.tmp 4] ?_
 unfold Tryz.f95
 simp only [gS]
 refine .seq (.r2 G 10 [(2, .hp 0 0), (3, .hp 1 0)] [.own (ah.c a), .own (ah.c b)] (.seq ?_))
 obtain ⟨v1, hc2, v3, hc4, v5, hc6, hr⟩ := bd3 hr
 refine .tn G (ca1 (ok0 (jT n a v1 hc2)) (ca1 (ok0 (jT n b v3 hc4)) (ca3 (ok0 (iY n v1 v3 v5 hc6))))) (.mu 1 (.ca cf0 (.mu 1 (.ca (cfA (fun h => by rw [sv hc4 hc2 (od n h)]) cf0) (.ca (cfF (cfF cf0)) (.mu 1 ?_))))))
 refine .done ⟨by kernel_rfl, ?_⟩
 refine .ret ?_
 obtain rfl := oi hr
 exact aJ.r1 [ae v5]

theorem dX (n : Nat) (data : List ah) (a : Int) (b : Int) (r : List ah) (hr : bt n data a b = some r) : ef 1 Tryz.prog 132 [.hs 0 0 data.length 2, ae a, ae b, .fn 95 [] []] [.own (data.flatMap ah.c)] (.tup []) [.own (r.flatMap ah.c)] := by
 unfold bt at hr
 refine ef.kE G Tryz.func132 (c := (Tryz.f132.body).getD .skip) rfl (us := []) (s := mkS 53 0 [(0, .hs 0 0 data.length 2), (1, ae a), (2, ae b), (3, .fn 95 [] [])]) (by kernel_rfl) (rs := []) rfl ?_
 unfold Tryz.f132
 simp only [gS]
 refine .seq (.r4 G [0, 1, 2, 3] [(8, ae (CT (a + 1)))] (.block ?_))
 replace hr := bd hr; obtain ⟨d_71, hL94, hr⟩ := hr
 refine .aO (σ := fun z0 => match z0 with | (d_49, i_50) => ⟨mkS 53 0 [(0, .hs 0 0 d_49.length 2), (1, ae a), (2, ae b), (3, .fn 95 [] []), (8, ae i_50)], [.own (d_49.flatMap ah.c)]⟩) (Q := fun x st' => x = .exit 0 /\ Wk 1 st' ⟨mkS 53 0 [], [.own (d_71.flatMap ah.c)]⟩) hL94 ((Wk.gc [0, 1, 2, 3, 8] [(0, false)] rfl (pKo ah.c ah.pure data trivial)).to) ?_ ?_
 ·clear hr
  rintro m ⟨d_49, i_50⟩ hr
  show CQ _ _ _ _ _ ⟨_, _⟩
  refine .seq (.seq (.r4 G [0, 1, 2, 3, 8] [(14, aB (decide (i_50 < b)))] ?_))
  refine .cd hr ?_ ?_ <;> intro hb73 hr
  ·refine .skip (.seq (.block (.seq (.r4 G [0, 1, 2, 3, 8] [(9, ae i_50)] (.block ?_)))))
   replace hr := bd hr; obtain ⟨d_82, hL91, hr⟩ := hr
   refine .aO (σ := fun z0 => match z0 with | (d_74, j_75) => ⟨mkS 53 0 [(0, .hs 0 0 d_74.length 2), (1, ae a), (2, ae b), (3, .fn 95 [] []), (8, ae i_50), (9, ae j_75)], [.own (d_74.flatMap ah.c)]⟩) (Q := fun x st' => x = .exit 2 /\ Wk 1 st' ⟨mkS 53 0 [(0, .hs 0 0 d_82.length 2), (1, ae a), (2, ae b), (3, .fn 95 [] []), (8, ae i_50)], [.own (d_82.flatMap ah.c)]⟩) hL91 ((Wk.gc [0, 1, 2, 3, 8, 9] [(0, false)] rfl (pKo ah.c ah.pure d_49 trivial)).to) ?_ ?_
   ·clear hr
    rintro m ⟨d_74, j_75⟩ hr
    show CQ _ _ _ _ _ ⟨_, _⟩
    refine .seq (.seq ?_)
    rcases bT (decide (j_75 > a)) with hb84 | hb84
    ·replace hr := cy hb84 hr
     obtain ⟨hg85, hg86, hr⟩ := gd2 hr
     obtain ⟨v87, hc88, hr⟩ := bd hr
     refine .t1 G (ok0 (q9 n (gt d_74 j_75) (gt d_74 (CT (j_75 - 1))) v87 hc88)) (.mu 2 (.pure (v := aB true) (by kernel_rfl) (eB hb84) (by kernel_rfl) (.mu 4 (.pure (v := .hp 0 (0 + j_75.toNat * 2)) (by kernel_rfl) (tr (ar hg85)) (by kernel_rfl) (.pure (v := .agg (ah.c (gt d_74 j_75))) (by kernel_rfl) (tr (y := bI.ofP (eG (decide (2 <= ((d_74.flatMap ah.c).drop (0 + j_75.toNat * 2)).length)) (.agg (((d_74.flatMap ah.c).drop (0 + j_75.toNat * 2)).take 2)))) (ch ah.len (aD hg85) (by decide) (by omega : 0 + j_75.toNat * 2 = j_75.toNat * 2 + 0) (by kernel_rfl))) (by kernel_rfl) (.mu 3 (.pure (v := .hp 0 (0 + (CT (j_75 - 1)).toNat * 2)) (by kernel_rfl) (tr (ar hg86)) (by kernel_rfl) (.pure (v := .agg (ah.c (gt d_74 (CT (j_75 - 1))))) (by kernel_rfl) (tr (y := bI.ofP (eG (decide (2 <= ((d_74.flatMap ah.c).drop (0 + (CT (j_75 - 1)).toNat * 2)).length)) (.agg (((d_74.flatMap ah.c).drop (0 + (CT (j_75 - 1)).toNat * 2)).take 2)))) (ch ah.len (aD hg86) (by decide) (by omega : 0 + (CT (j_75 - 1)).toNat * 2 = (CT (j_75 - 1)).toNat * 2 + 0) (by kernel_rfl))) (by kernel_rfl) (.ca cf0 (.mu 2 ?_))))))))))
     refine .done ⟨by kernel_rfl, ?_⟩
     refine .nh [0, 1, 2, 3, 8, 9, 34] [.own (d_74.flatMap ah.c)] ?_
     refine .cd hr ?_ ?_ <;> intro hb89 hr
     ·refine .skip (.seq (.block (.eK G bW (.mu 8 (.pure (v := .hp 0 (0 + (CT (j_75 - 1)).toNat * 2)) (by kernel_rfl) (tr (ar hg86)) (by kernel_rfl) (.pure (v := .agg (ah.c (gt d_74 (CT (j_75 - 1))))) (by kernel_rfl) (tr (y := bI.ofP (eG (decide (2 <= ((d_74.flatMap ah.c).drop (0 + (CT (j_75 - 1)).toNat * 2)).length)) (.agg (((d_74.flatMap ah.c).drop (0 + (CT (j_75 - 1)).toNat * 2)).take 2)))) (ch ah.len (aD hg86) (by decide) (by omega : 0 + (CT (j_75 - 1)).toNat * 2 = (CT (j_75 - 1)).toNat * 2 + 0) (by kernel_rfl))) (by kernel_rfl) (.mu 2 (.pure (v := .hp 0 (0 + j_75.toNat * 2)) (by kernel_rfl) (tr (ar hg85)) (by kernel_rfl) (.pure (v := .agg (ah.c (gt d_74 j_75))) (by kernel_rfl) (tr (y := bI.ofP (eG (decide (2 <= ((d_74.flatMap ah.c).drop (0 + j_75.toNat * 2)).length)) (.agg (((d_74.flatMap ah.c).drop (0 + j_75.toNat * 2)).take 2)))) (ch ah.len (aD hg85) (by decide) (by omega : 0 + j_75.toNat * 2 = j_75.toNat * 2 + 0) (by kernel_rfl))) (by kernel_rfl) (.pure (v := .hp 0 (0 + j_75.toNat * 2)) (by kernel_rfl) (tr (ar hg85)) (by kernel_rfl) (.eff (v := .unk) (ws := [(0, .own ((d_74.set j_75.toNat (gt d_74 (CT (j_75 - 1)))).flatMap ah.c))]) (by kernel_rfl) (tr (iF (iH (cD (n := 2) ah.len (aD hg85) (lbT rfl) (by omega : 0 + j_75.toNat * 2 = j_75.toNat * 2 + 0))) (congrArg Blk.own (c7 (xs := (ah.c (gt d_74 (CT (j_75 - 1))))) ah.len (aD hg85) (lbT rfl) (by omega : 0 + j_75.toNat * 2 = j_75.toNat * 2 + 0) (by kernel_rfl))))) (by kernel_rfl) (.pure (v := .hp 0 (0 + (CT (j_75 - 1)).toNat * 2)) (by kernel_rfl) (tr (ar hg86)) (by kernel_rfl) (.eff (v := .unk) (ws := [(0, .own (((d_74.set j_75.toNat (gt d_74 (CT (j_75 - 1)))).set (CT (j_75 - 1)).toNat (gt d_74 j_75)).flatMap ah.c))]) (by kernel_rfl) (tr (y := stO (decide ((0 + (CT (j_75 - 1)).toNat * 2) + 2 <= ((d_74.set j_75.toNat (gt d_74 (CT (j_75 - 1)))).flatMap ah.c).length) && true) [(0, .own (setCells ((d_74.set j_75.toNat (gt d_74 (CT (j_75 - 1)))).flatMap ah.c) (0 + (CT (j_75 - 1)).toNat * 2) (ah.c (gt d_74 j_75))))]) (iF (iH (cD ah.len (aD (qi hg86)) (lbT rfl) (by omega : 0 + (CT (j_75 - 1)).toNat * 2 = (CT (j_75 - 1)).toNat * 2 + 0))) (congrArg Blk.own (c7 ah.len (aD (qi hg86)) (lbT rfl) (by omega : 0 + (CT (j_75 - 1)).toNat * 2 = (CT (j_75 - 1)).toNat * 2 + 0) (by kernel_rfl))))) (by kernel_rfl) ?_)))))))))))))
      refine .done ⟨by kernel_rfl, ?_⟩
      refine .pop (.ru G ?_)
      exact aA ((d_74.set j_75.toNat (gt d_74 (CT (j_75 - 1)))).set (CT (j_75 - 1)).toNat (gt d_74 j_75), CT (j_75 - 1)) hr ((Wk.iJ 0 (b := 0) (es := 2) (len := d_74.length) ((d_74.set j_75.toNat (gt d_74 (CT (j_75 - 1)))).set (CT (j_75 - 1)).toNat (gt d_74 j_75)).length (by kernel_rfl) (Eq.symm (List.length_set.trans (List.length_set.trans rfl)))).trans ((Wk.gc [0, 1, 2, 3, 8, 9] [(0, false)] rfl (pKo ah.c ah.pure ((d_74.set j_75.toNat (gt d_74 (CT (j_75 - 1)))).set (CT (j_75 - 1)).toNat (gt d_74 j_75)) trivial)).to))
     refine .leave rfl ?_
     obtain rfl := oi hr
     exact ⟨rfl, ((Wk.gc [0, 1, 2, 3, 8] [(0, false)] rfl (pKo ah.c ah.pure d_74 trivial)).to)⟩
    replace hr := cA hb84 hr
    refine .eK G bW (.mu 2 (.pure (v := aB false) (by kernel_rfl) (eB hb84) (by kernel_rfl) (.mu 14 ?_)))
    refine .done ⟨by kernel_rfl, ?_⟩
    refine .nh [0, 1, 2, 3, 8, 9, 34] [.own (d_74.flatMap ah.c)] (.cF (by kernel_rfl) (.leave rfl ?_))
    obtain rfl := oi hr
    exact ⟨rfl, ((Wk.gc [0, 1, 2, 3, 8] [(0, false)] rfl (pKo ah.c ah.pure d_74 trivial)).to)⟩
   rintro x st' hq92
   clear hL91
   obtain ⟨rfl, hq92⟩ := hq92
   refine a9 _ rfl (.pop (.wk hq92 (.ru G ?_)))
   exact aA (d_82, CT (i_50 + 1)) hr ((Wk.gc [0, 1, 2, 3, 8] [(0, false)] rfl (pKo ah.c ah.pure d_82 trivial)).to)
  refine .leave rfl ?_
  obtain rfl := oi hr
  exact ⟨rfl, ((Wk.gc [] [(0, false)] rfl (pKo ah.c ah.pure d_49 trivial)).to)⟩
 rintro x st' hq95
 clear hL94
 obtain ⟨rfl, hq95⟩ := hq95
 refine a9 _ rfl ?_
 obtain rfl := oi hr
 exact eE.wk hq95 (eE.normal [] ((Wk.gc [] [(0, false)] rfl (pKo ah.c ah.pure d_71 trivial)).to))

theorem eN (n : Nat) (data : List ah) (a : Int) (b : Int) (limit : Int) (r : List ah) (hr : bK n data a b limit = some r) : ef 1 Tryz.prog 97 [.hs 0 0 data.length 2, ae a, ae b, ae limit, .fn 95 [] []] [.own (data.flatMap ah.c)] (.tup []) [.own (r.flatMap ah.c)] := by
 unfold bK at hr
 refine ef.kE G Tryz.func97 (c := (Tryz.f97.body).getD .skip) rfl (us := []) (s := mkS 148 0 [(0, .hs 0 0 data.length 2), (1, ae a), (2, ae b), (3, ae limit), (4, .fn 95 [] [])]) (by kernel_rfl) (rs := []) rfl ?_
 unfold Tryz.f97
 simp only [gS]
 refine .seq (.r4 G [0, 1, 2, 3, 4] [(10, aB true)] (.seq (.r4 G [0, 1, 2, 3, 4, 10] [(11, aB true)] (.block ?_))))
 replace hr := bd hr; obtain ⟨r0, hL38, hr⟩ := hr
 refine .aO (σ := fun z0 => match z0 with | (a_21, b_22, l_23, w_24, w_25) => ⟨mkS 148 0 [(0, .hs 0 0 data.length 2), (1, ae a_21), (2, ae b_22), (3, ae l_23), (4, .fn 95 [] []), (10, aB w_24), (11, aB w_25)], [.own (data.flatMap ah.c)]⟩) (Q := fun x st' => x = .ret /\ eE 1 Tryz.prog [] [] [.own (r0.flatMap ah.c)] .ret st') hL38 ((Wk.gc [0, 1, 2, 3, 4, 10, 11] [(0, false)] rfl (pKo ah.c ah.pure data trivial)).to) ?_ ?_
 ·clear hr
  rintro m ⟨a_21, b_22, l_23, w_24, w_25⟩ hr
  show CQ _ _ _ _ _ ⟨_, _⟩
  refine .block (.seq (.r4 G [0, 1, 2, 3, 4, 10, 11] [(12, ae (CT (b_22 - a_21)))] (.seq (.seq (.r4 G [0, 1, 2, 3, 4, 10, 11, 12] [(25, aB (decide ((CT (b_22 - a_21)) <= 12)))] ?_)))))
  obtain ⟨hb32, hr⟩ := gd hr
  refine .cY hb32 (.seq ?_)
  obtain ⟨v33, hc34, hr⟩ := bd hr
  refine .g1 G (cC (args := [.hs 0 0 data.length 2, ae a_21, ae b_22, .fn 95 [] []]) 1 0 [(0, false)] [false] (dX n data a_21 b_22 v33 hc34) (by exact ⟨bc ah.pure _, trivial⟩) (by exact ⟨bc ah.pure _, trivial⟩) rfl rfl (by kernel_rfl) (by kernel_rfl)) (.mu 4 (.ca cf0 (.done (.nh [] [.own (v33.flatMap ah.c)] (.ret ?_)))))
  obtain rfl := oi hr
  exact ⟨rfl, eE.ret [] ((Wk.gc [] [(0, false)] rfl (pKo ah.c ah.pure v33 trivial)).to)⟩
 rintro x st' hq39
 clear hL38
 obtain ⟨rfl, hq39⟩ := hq39
 obtain rfl := oi hr
 exact iK _ hq39

theorem dz (n : Nat) (x' : List ah) (r : List ah) (hr : a8 n x' = some r) : ef 1 Tryz.prog 52 [.hs 0 0 x'.length 2, .fn 95 [] []] [.own (x'.flatMap ah.c)] (.tup []) [.own (r.flatMap ah.c)] := by
 unfold a8 at hr
 refine ef.kE G Tryz.func52 (c := (Tryz.f52.body).getD .skip) rfl (us := []) (s := mkS 14 0 [(0, .hs 0 0 x'.length 2), (1, .fn 95 [] [])]) (by kernel_rfl) (rs := []) rfl ?_
 unfold Tryz.f52
 simp only [gS]
 refine .seq (.r4 G [0, 1] [(4, ae (x'.length : Int))] ?_)
 obtain ⟨v6, hc7, v8, hc9, hr⟩ := bd2 hr
 refine .gn G (ca1 (ok0 (lI n (aa .u64 (x'.length : Int)) v6 hc7)) (ca3 (cC (args := [.hs 0 0 x'.length 2, ae 0, ae (x'.length : Int), ae v6, .fn 95 [] []]) 1 0 [(0, false)] [false] (eN n x' 0 (x'.length : Int) v6 v8 hc9) (by exact ⟨bc ah.pure _, trivial⟩) (by exact ⟨bc ah.pure _, trivial⟩) rfl rfl (by kernel_rfl) (by kernel_rfl)))) (.mu 4 (.ca cf0 (.mu 1 (.ca (cfF cf0) (.done ?_)))))
 obtain rfl := oi hr
 exact eE.normal [] ((Wk.gc [] [(0, false)] rfl (pKo ah.c ah.pure v8 trivial)).to)

theorem ox (n : Nat) (g : an) (level : Int) (r : List ah) (hr : iw n g level = some r) : aN Tryz.prog 45 [.agg (an.c g), ae level] (slT ah.c r) := by
 unfold iw at hr
 refine aN.bd G Tryz.func45 [.tmp 4] ?_
 unfold Tryz.f45
 simp only [gS]
 refine .seq (.r2 G 68 [(2, .hp 0 0), (3, .hp 1 0)] [.own (an.c g), .own [ae level]] (.seq (.r5 G [2, 3] [(5, .hp 2 0)] [.own (an.c g), .own [ae level], .own [.fn 88 [] [.hp 0 0, .hp 1 0]]] (.seq (.r5 G [2, 3, 5] [(6, .hp 5 0), (7, .hp 6 0)] [.own (an.c g), .own [ae level], .own [.fn 88 [] [.hp 0 0, .hp 1 0]], .map (([] : List (A2 Int × A2 Int)).map (mpK av.K (gA aj.c))), .map (([] : List (A2 Int × Bool)).map (mpK av.K bA)), .own [.mp 3], .own [.mp 4]] (.seq ?_))))))
 obtain ⟨v1, hc2, hr⟩ := bd hr
 refine .g1 G (ky 2 (.own [.fn 88 [] [.hp 0 0, .hp 1 0]]) [] [(0, .own (an.c g)), (1, .own [ae level]), (5, .own [.mp 7]), (6, .own [.mp 8]), (7, .map (v1.1.map (mpK av.K (gA aj.c)))), (8, .map (v1.2.map (mpK av.K bA))), (3, .dead), (4, .dead)] (cC (args := [.agg (an.c g), .fn 90 [] [.hp 2 0, .hp 5 0, .hp 6 0]]) 5 2 [(2, true), (0, true), (1, true), (5, true), (6, true), (3, false), (4, false)] [true, true, true, true, true, false, false] (jc n g g.X0 g.Y0 g.Step g.Width g.Height g.Z level ([] : List (A2 Int × A2 Int)) ([] : List (A2 Int × Bool)) v1 hc2) (by exact ⟨gL (fun _ => rfl) _, ⟨gL (fun _ => rfl) _, trivial⟩⟩) (by exact ⟨gL (fun _ => rfl) _, ⟨gL (fun _ => rfl) _, trivial⟩⟩) rfl rfl (by kernel_rfl) (by kernel_rfl))) (.mu 2 (.ca cf0 (.done (.nh [2, 3, 6, 7] [.own (an.c g), .own [ae level], .own [.fn 88 [] [.hp 0 0, .hp 1 0]], .dead, .dead, .own [.mp 7], .own [.mp 8], .map (v1.1.map (mpK av.K (gA aj.c))), .map (v1.2.map (mpK av.K bA))] (.seq (.r4 G [2, 3, 6, 7] [(8, nS)] (.seq (.seq (.r0 G (.mu 1 (.e0 (v := .hp 9 0) (ws := [(9, .iter 7 v1.1.length [])]) (tr (y := mK Tryz.prog [.own (an.c g), .own [ae level], .own [.fn 88 [] [.hp 0 0, .hp 1 0]], .dead, .dead, .own [.mp 7], .own [.mp 8], .map (v1.1.map (mpK av.K (gA aj.c))), .map (v1.2.map (mpK av.K bA))] 9 124 (.mp 7)) (A9 (kt := 101) (e := 101) (es := v1.1) (mk := (mpK av.K (gA aj.c))) (by kernel_rfl) (by kernel_rfl))) (.done (.nh [2, 3, 6, 7, 8, 24] [.own (an.c g), .own [ae level], .own [.fn 88 [] [.hp 0 0, .hp 1 0]], .dead, .dead, .own [.mp 7], .own [.mp 8], .map (v1.1.map (mpK av.K (gA aj.c))), .map (v1.2.map (mpK av.K bA)), .iter 7 v1.1.length []] (.block ?_))))))))))))))
 refine .Bt (mk := (mpK av.K (gA aj.c))) hr (fun z0 sn => match z0 with | s_16 => ⟨mkS 68 0 [(2, .hp 0 0), (3, .hp 1 0), (6, .hp 2 0), (7, .hp 4 0), (8, .hs 6 0 s_16.length 2), (24, .hp 7 0)], [.own (an.c g), .own [ae level], .own [.mp 3], .map (v1.1.map (mpK av.K (gA aj.c))), .own [.mp 5], .map (v1.2.map (mpK av.K bA)), .own (s_16.flatMap aj.c), .iter 3 v1.1.length sn]⟩) 7 3 ((Wk.nil 8 2 (by kernel_rfl)).trans ((Wk.gc [2, 3, 6, 7, 8, 24] [(0, true), (1, true), (5, true), (7, false), (6, true), (8, false), (10, false), (9, true)] rfl (pKt (pKt (pKt (pKM av.K (gA aj.c) (fun _ => rfl) v1.1 (pKt (pKM av.K bA (fun _ => rfl) v1.2 (pKc trivial)))))))).to)) ?_ ?_
 ·clear hr
  rintro s_16 sn i14 e12 z' G' he13 hr hG15
  refine .wk ((Wk.refl _).to (c := ⟨mkS 68 0 [(2, .hp 0 0), (3, .hp 1 0), (6, .hp 2 0), (7, .hp 4 0), (8, .hs 6 0 s_16.length 2), (24, .hp 7 0), (26, aB true)], [.own (an.c g), .own [ae level], .own [.mp 3], .map (v1.1.map (mpK av.K (gA aj.c))), .own [.mp 5], .map (v1.2.map (mpK av.K bA)), .own (s_16.flatMap aj.c), .iter 3 v1.1.length (sn ++ [i14])]⟩)) (.block (.seq (.r0 G (.p0 (v := .tup [.agg [ae e12.1.e0, ae e12.1.e1], .agg [ae e12.2.e0, ae e12.2.e1]]) (tr (y := iQ [.own (an.c g), .own [ae level], .own [.mp 3], .map (v1.1.map (mpK av.K (gA aj.c))), .own [.mp 5], .map (v1.2.map (mpK av.K bA)), .own (s_16.flatMap aj.c), .iter 3 v1.1.length (sn ++ [i14])] (.hp 7 0)) (Eq.trans (A6 (P := Tryz.prog) (m := 3) (sn := sn) (es := v1.1) (mk := (mpK av.K (gA aj.c))) (e := e12) (by kernel_rfl) (by kernel_rfl) he13) (by kernel_rfl))) (.mu 3 (.done (.nh [2, 3, 6, 7, 8, 9, 24] [.own (an.c g), .own [ae level], .own [.mp 3], .map (v1.1.map (mpK av.K (gA aj.c))), .own [.mp 5], .map (v1.2.map (mpK av.K bA)), .own (s_16.flatMap aj.c), .iter 3 v1.1.length (sn ++ [i14]), .own [ae e12.1.e0, ae e12.1.e1]] ?_)))))))
  obtain ⟨hg19, hg20, hr⟩ := gd2 hr
  refine .r0 G (.mu 3 (.e0 (v := .hs 10 0 (s_16 ++ [e12.1]).length 2) (ws := [(6, .dead), (10, .own ((s_16 ++ [e12.1]).flatMap aj.c))]) (tr (fc (new := [ae e12.1.e0, ae e12.1.e1]) (l := s_16) (xs := [e12.1]) aj.len rfl rfl (by kernel_rfl) hg19 hg20)) (.mu 1 (.done (.pop ?_)))))
  obtain rfl := oi hr
  exact hG15 _ ((Wk.gc [2, 3, 6, 7, 8, 24] [(0, true), (1, true), (2, true), (3, false), (4, true), (5, false), (10, false), (7, true)] rfl (pKt (pKt (pKt (pKM av.K (gA aj.c) (fun _ => rfl) v1.1 (pKt (pKM av.K bA (fun _ => rfl) v1.2 (pKo aj.c aj.pure (s_16 ++ [e12.1]) trivial)))))))).to)
 clear hr
 rintro s_16 sn hr
 refine a9 _ rfl (.wk ((Wk.refl _).to (c := ⟨mkS 68 0 [(2, .hp 0 0), (3, .hp 1 0), (6, .hp 2 0), (7, .hp 4 0), (8, .hs 6 0 s_16.length 2), (24, .hp 7 0), (26, aB false)], [.own (an.c g), .own [ae level], .own [.mp 3], .map (v1.1.map (mpK av.K (gA aj.c))), .own [.mp 5], .map (v1.2.map (mpK av.K bA)), .own (s_16.flatMap aj.c), .iter 3 v1.1.length sn]⟩)) (.seq ?_))
 obtain ⟨v21, hc22, hr⟩ := bd hr
 obtain ⟨hg23, hr⟩ := gd hr
 refine .g1 G (cC (args := [.hs 6 0 s_16.length 2, .fn 54 [] []]) 1 0 [(6, false)] [false] (dy n s_16 v21 hc22) (by exact ⟨bc aj.pure _, trivial⟩) (by exact ⟨bc aj.pure _, trivial⟩) rfl rfl (by kernel_rfl) (by kernel_rfl)) (.mu 1 (.ca cf0 (.done (.nh [2, 3, 6, 7, 8] [.own (an.c g), .own [ae level], .own [.mp 3], .map (v1.1.map (mpK av.K (gA aj.c))), .own [.mp 5], .map (v1.2.map (mpK av.K bA)), .own (v21.flatMap aj.c), .iter 3 v1.1.length sn] (.seq (.r5 G [2, 3, 6, 7, 8] [(10, .hp 9 0)] [.own (an.c g), .own [ae level], .own [.mp 3], .map (v1.1.map (mpK av.K (gA aj.c))), .own [.mp 5], .map (v1.2.map (mpK av.K bA)), .own (v21.flatMap aj.c), .iter 3 v1.1.length sn, .map (([] : List (A2 Int × Bool)).map (mpK av.K bA)), .own [.mp 8]] (.seq (.r5 G [2, 3, 6, 7, 8, 10] [(11, .hp 10 0)] [.own (an.c g), .own [ae level], .own [.mp 3], .map (v1.1.map (mpK av.K (gA aj.c))), .own [.mp 5], .map (v1.2.map (mpK av.K bA)), .own (v21.flatMap aj.c), .iter 3 v1.1.length sn, .map (([] : List (A2 Int × Bool)).map (mpK av.K bA)), .own [.mp 8], .own [nS]] (.seq (.r4 G [7, 8, 10, 11] [(12, .fn 93 [] [.hp 9 0, .hp 0 0, .hp 1 0, .hp 2 0, .hp 10 0])] (.seq (.seq (.r4 G [7, 8, 10, 11, 12] [(37, .hs 6 0 s_16.length 2), (38, ae (s_16.length : Int)), (39, ae 0)] (.block ?_))))))))))))))
 replace hr := bd hr; obtain ⟨o63, hL64, hr⟩ := hr
 refine .aO (σ := fun z0 => match z0 with | (d_45, o_46, x_47) => ⟨mkS 68 0 [(7, .hp 0 0), (8, .hs 2 0 v21.length 2), (10, .hp 3 0), (11, .hp 5 0), (12, .fn 93 [] [.hp 3 0, .hp 7 0, .hp 8 0, .hp 9 0, .hp 5 0]), (37, .hs 2 0 v21.length 2), (38, ae (s_16.length : Int)), (39, ae x_47)], [.own [.mp 1], .map (v1.2.map (mpK av.K bA)), .own (v21.flatMap aj.c), .own [.mp 4], .map (d_45.map (mpK av.K bA)), .own [.hs 6 0 o_46.length 2], .own (o_46.flatMap ah.c), .own (an.c g), .own [ae level], .own [.mp 10], .map (v1.1.map (mpK av.K (gA aj.c)))]⟩) (Q := fun x st' => match (generalizing := false) o63 with | (d_54, o_55) => x = .exit 2 /\ Wk 0 st' ⟨mkS 68 0 [(8, .hs 0 0 v21.length 2), (10, .hp 1 0), (11, .hp 3 0), (12, .fn 93 [] [.hp 1 0, .hp 5 0, .hp 6 0, .hp 7 0, .hp 3 0])], [.own (v21.flatMap aj.c), .own [.mp 2], .map (d_54.map (mpK av.K bA)), .own [.hs 4 0 o_55.length 2], .own (o_55.flatMap ah.c), .own (an.c g), .own [ae level], .own [.mp 8], .map (v1.1.map (mpK av.K (gA aj.c)))]⟩) hL64 ((Wk.iJ 8 (b := 6) (es := 2) (len := s_16.length) v21.length (by kernel_rfl) (Eq.symm (dcT hg23))).trans ((Wk.yG 10 0 2 (cs := [nS]) (by kernel_rfl) (by kernel_rfl)).trans ((Wk.iJ 37 (b := 6) (es := 2) (len := s_16.length) v21.length (by kernel_rfl) (Eq.symm (dcT hg23))).trans ((Wk.gc [7, 8, 10, 11, 12, 37, 38, 39] [(4, true), (5, false), (6, false), (9, true), (8, false), (10, true), (11, false), (0, true), (1, true), (2, true), (3, false)] rfl (pKt (pKM av.K bA (fun _ => rfl) v1.2 (pKo aj.c aj.pure v21 (pKt (pKM av.K bA (fun _ => rfl) ([] : List (A2 Int × Bool)) (pKt (pKc (pKt (pKt (pKt (pKM av.K (gA aj.c) (fun _ => rfl) v1.1 trivial)))))))))))).to)))) ?_ ?_
 ·clear hr
  rintro m ⟨d_45, o_46, x_47⟩ hr
  show CQ _ _ _ _ _ ⟨_, _⟩
  refine .seq (.r4 G [7, 8, 10, 11, 12, 37, 38, 39] [(40, aB (decide (x_47 < (s_16.length : Int))))] (.seq ?_))
  refine .cd hr ?_ ?_ <;> intro hb58 hr
  ·refine .skip (.seq (.block (.seq ?_)))
   obtain ⟨hg59, hr⟩ := gd hr
   refine .r0 G (.p0 (v := .hp 2 (0 + x_47.toNat * 2)) (tr (ar hg59)) (.p0 (v := .agg [ae (gt v21 x_47).e0, ae (gt v21 x_47).e1]) (tr (y := bI.ofP (eG (decide (2 <= ((v21.flatMap aj.c).drop (0 + x_47.toNat * 2)).length)) (.agg (((v21.flatMap aj.c).drop (0 + x_47.toNat * 2)).take 2)))) (ch aj.len (aD hg59) (by decide) (by omega : 0 + x_47.toNat * 2 = x_47.toNat * 2 + 0) (by kernel_rfl))) (.mu 2 (.done (.nh [7, 8, 10, 11, 12, 14, 37, 38, 39] [.own [.mp 1], .map (v1.2.map (mpK av.K bA)), .own (v21.flatMap aj.c), .own [.mp 4], .map (d_45.map (mpK av.K bA)), .own [.hs 6 0 o_46.length 2], .own (o_46.flatMap ah.c), .own (an.c g), .own [ae level], .own [.mp 10], .map (v1.1.map (mpK av.K (gA aj.c))), .own [ae (gt v21 x_47).e0, ae (gt v21 x_47).e1]] (.seq (.r0 G (.mu 2 (.p0 (v := aB (getM false v1.2 (gt v21 x_47))) (tr (y := bI.ofP (fH Tryz.prog [.own [.mp 1], .map (v1.2.map (mpK av.K bA)), .own (v21.flatMap aj.c), .own [.mp 4], .map (d_45.map (mpK av.K bA)), .own [.hs 6 0 o_46.length 2], .own (o_46.flatMap ah.c), .own (an.c g), .own [ae level], .own [.mp 10], .map (v1.1.map (mpK av.K (gA aj.c))), .own [ae (gt v21 x_47).e0, ae (gt v21 x_47).e1]] 125 (.mp 1) (.agg [ae (gt v21 x_47).e0, ae (gt v21 x_47).e1]) false)) (xX (kt := 101) (e := 4) (l := v1.2) (f := bA) (z := false) (K := av.K) (x := (gt v21 x_47)) av.key (by kernel_rfl) (by kernel_rfl) (by kernel_rfl) (by kernel_rfl) (by kernel_rfl))) (.mu 1 (.done (.nh [7, 8, 10, 11, 12, 14, 37, 38, 39, 46] [.own [.mp 1], .map (v1.2.map (mpK av.K bA)), .own (v21.flatMap aj.c), .own [.mp 4], .map (d_45.map (mpK av.K bA)), .own [.hs 6 0 o_46.length 2], .own (o_46.flatMap ah.c), .own (an.c g), .own [ae level], .own [.mp 10], .map (v1.1.map (mpK av.K (gA aj.c))), .own [ae (gt v21 x_47).e0, ae (gt v21 x_47).e1]] ?_))))))))))))
   refine .cd hr ?_ ?_ <;> intro hb60 hr
   ·obtain ⟨v61, hc62, hr⟩ := bd hr
    refine .g1 G (ky 8 (.own [ae level]) [(3, .own [.mp 12])] [(9, .own [.mp 13]), (5, .own [.hs 14 0 v61.2.length 2]), (12, .map (v61.1.map (mpK av.K bA))), (13, .map (v1.1.map (mpK av.K (gA aj.c)))), (14, .own (v61.2.flatMap ah.c)), (4, .dead), (10, .dead), (6, .dead)] (ky 7 (.own (an.c g)) [(3, .own [.mp 12])] [(8, .own [ae level]), (9, .own [.mp 13]), (5, .own [.hs 14 0 v61.2.length 2]), (12, .map (v61.1.map (mpK av.K bA))), (13, .map (v1.1.map (mpK av.K (gA aj.c)))), (14, .own (v61.2.flatMap ah.c)), (4, .dead), (10, .dead), (6, .dead)] (cC (args := [.agg [ae (gt v21 x_47).e0, ae (gt v21 x_47).e1], aB false, .hp 3 0, .hp 7 0, .hp 8 0, .hp 9 0, .hp 5 0]) 5 3 [(3, true), (7, true), (8, true), (9, true), (5, true), (4, false), (10, false), (6, false)] [true, true, true, true, true, false, false, false] (lZ n (gt v21 x_47) false d_45 g.X0 g.Y0 g.Step g.Width g.Height g.Z level v1.1 o_46 v61 hc62) (by exact ⟨gL (fun _ => rfl) _, ⟨gL (fun _ => rfl) _, ⟨bc ah.pure _, trivial⟩⟩⟩) (by exact ⟨gL (fun _ => rfl) _, ⟨gL (fun _ => rfl) _, ⟨bc ah.pure _, trivial⟩⟩⟩) rfl rfl (by kernel_rfl) (by kernel_rfl)))) (.mu 2 (.ca cf0 (.done (.pop (.ru G ?_)))))
    exact aA (v61.1, v61.2, CT (x_47 + 1)) hr ((Wk.gc [7, 8, 10, 11, 12, 37, 38, 39] [(0, true), (1, false), (2, false), (3, true), (12, false), (5, true), (14, false), (7, true), (8, true), (9, true), (13, false)] rfl (pKt (pKM av.K bA (fun _ => rfl) v1.2 (pKo aj.c aj.pure v21 (pKt (pKM av.K bA (fun _ => rfl) v61.1 (pKt (pKo ah.c ah.pure v61.2 (pKt (pKt (pKt (pKM av.K (gA aj.c) (fun _ => rfl) v1.1 trivial)))))))))))).to)
   refine .skip (.pop (.ru G ?_))
   exact aA (d_45, o_46, CT (x_47 + 1)) hr ((Wk.gc [7, 8, 10, 11, 12, 37, 38, 39] [(0, true), (1, false), (2, false), (3, true), (4, false), (5, true), (6, false), (7, true), (8, true), (9, true), (10, false)] rfl (pKt (pKM av.K bA (fun _ => rfl) v1.2 (pKo aj.c aj.pure v21 (pKt (pKM av.K bA (fun _ => rfl) d_45 (pKt (pKo ah.c ah.pure o_46 (pKt (pKt (pKt (pKM av.K (gA aj.c) (fun _ => rfl) v1.1 trivial)))))))))))).to)
  refine .leave rfl ?_
  obtain rfl := oi hr
  exact ⟨rfl, ((Wk.gc [8, 10, 11, 12] [(2, false), (3, true), (4, false), (5, true), (6, false), (7, true), (8, true), (9, true), (10, false)] rfl (pKo aj.c aj.pure v21 (pKt (pKM av.K bA (fun _ => rfl) d_45 (pKt (pKo ah.c ah.pure o_46 (pKt (pKt (pKt (pKM av.K (gA aj.c) (fun _ => rfl) v1.1 trivial)))))))))).to)⟩
 rcases o63 with ⟨d_54, o_55⟩
 rintro x st' hq65
 clear hL64
 obtain ⟨rfl, hq65⟩ := hq65
 refine a9 _ rfl (.wk hq65 (.seq (.seq (.r4 G [10, 11, 12] [(51, .hs 0 0 v21.length 2), (52, ae (v21.length : Int)), (53, ae 0)] (.block ?_)))))
 replace hr := bd hr; obtain ⟨o_75, hL84, hr⟩ := hr
 refine .aO (σ := fun z0 => match z0 with | (d_66, o_67, x_68) => ⟨mkS 68 0 [(10, .hp 0 0), (11, .hp 2 0), (12, .fn 93 [] [.hp 0 0, .hp 4 0, .hp 5 0, .hp 6 0, .hp 2 0]), (51, .hs 8 0 v21.length 2), (52, ae (v21.length : Int)), (53, ae x_68)], [.own [.mp 1], .map (d_66.map (mpK av.K bA)), .own [.hs 3 0 o_67.length 2], .own (o_67.flatMap ah.c), .own (an.c g), .own [ae level], .own [.mp 7], .map (v1.1.map (mpK av.K (gA aj.c))), .own (v21.flatMap aj.c)]⟩) (Q := fun x st' => x = .exit 4 /\ Wk 0 st' ⟨mkS 68 0 [(11, .hp 0 0)], [.own [.hs 1 0 o_75.length 2], .own (o_75.flatMap ah.c)]⟩) hL84 ((Wk.gc [10, 11, 12, 51, 52, 53] [(1, true), (2, false), (3, true), (4, false), (5, true), (6, true), (7, true), (8, false), (0, false)] rfl (pKt (pKM av.K bA (fun _ => rfl) d_54 (pKt (pKo ah.c ah.pure o_55 (pKt (pKt (pKt (pKM av.K (gA aj.c) (fun _ => rfl) v1.1 (pKo aj.c aj.pure v21 trivial)))))))))).to) ?_ ?_
 ·clear hr
  rintro m ⟨d_66, o_67, x_68⟩ hr
  show CQ _ _ _ _ _ ⟨_, _⟩
  refine .seq (.r4 G [10, 11, 12, 51, 52, 53] [(54, aB (decide (x_68 < (v21.length : Int))))] (.seq ?_))
  refine .cd hr ?_ ?_ <;> intro hb78 hr
  ·refine .skip (.seq (.block (.seq ?_)))
   obtain ⟨hg79, hr⟩ := gd hr
   refine .r0 G (.p0 (v := .hp 8 (0 + x_68.toNat * 2)) (tr (ar hg79)) (.p0 (v := .agg [ae (gt v21 x_68).e0, ae (gt v21 x_68).e1]) (tr (y := bI.ofP (eG (decide (2 <= ((v21.flatMap aj.c).drop (0 + x_68.toNat * 2)).length)) (.agg (((v21.flatMap aj.c).drop (0 + x_68.toNat * 2)).take 2)))) (ch aj.len (aD hg79) (by decide) (by omega : 0 + x_68.toNat * 2 = x_68.toNat * 2 + 0) (by kernel_rfl))) (.mu 2 (.done (.nh [10, 11, 12, 16, 51, 52, 53] [.own [.mp 1], .map (d_66.map (mpK av.K bA)), .own [.hs 3 0 o_67.length 2], .own (o_67.flatMap ah.c), .own (an.c g), .own [ae level], .own [.mp 7], .map (v1.1.map (mpK av.K (gA aj.c))), .own (v21.flatMap aj.c), .own [ae (gt v21 x_68).e0, ae (gt v21 x_68).e1]] (.seq (.r0 G (.mu 2 (.p0 (v := aB (getM false d_66 (gt v21 x_68))) (tr (y := bI.ofP (fH Tryz.prog [.own [.mp 1], .map (d_66.map (mpK av.K bA)), .own [.hs 3 0 o_67.length 2], .own (o_67.flatMap ah.c), .own (an.c g), .own [ae level], .own [.mp 7], .map (v1.1.map (mpK av.K (gA aj.c))), .own (v21.flatMap aj.c), .own [ae (gt v21 x_68).e0, ae (gt v21 x_68).e1]] 125 (.mp 1) (.agg [ae (gt v21 x_68).e0, ae (gt v21 x_68).e1]) false)) (xX (kt := 101) (e := 4) (l := d_66) (f := bA) (z := false) (K := av.K) (x := (gt v21 x_68)) av.key (by kernel_rfl) (by kernel_rfl) (by kernel_rfl) (by kernel_rfl) (by kernel_rfl))) (.mu 1 (.done (.nh [10, 11, 12, 16, 51, 52, 53, 60] [.own [.mp 1], .map (d_66.map (mpK av.K bA)), .own [.hs 3 0 o_67.length 2], .own (o_67.flatMap ah.c), .own (an.c g), .own [ae level], .own [.mp 7], .map (v1.1.map (mpK av.K (gA aj.c))), .own (v21.flatMap aj.c), .own [ae (gt v21 x_68).e0, ae (gt v21 x_68).e1]] ?_))))))))))))
   refine .cd hr ?_ ?_ <;> intro hb80 hr
   ·obtain ⟨v81, hc82, hr⟩ := bd hr
    refine .g1 G (ky 5 (.own [ae level]) [(0, .own [.mp 10])] [(6, .own [.mp 11]), (2, .own [.hs 12 0 v81.2.length 2]), (10, .map (v81.1.map (mpK av.K bA))), (11, .map (v1.1.map (mpK av.K (gA aj.c)))), (12, .own (v81.2.flatMap ah.c)), (1, .dead), (7, .dead), (3, .dead)] (ky 4 (.own (an.c g)) [(0, .own [.mp 10])] [(5, .own [ae level]), (6, .own [.mp 11]), (2, .own [.hs 12 0 v81.2.length 2]), (10, .map (v81.1.map (mpK av.K bA))), (11, .map (v1.1.map (mpK av.K (gA aj.c)))), (12, .own (v81.2.flatMap ah.c)), (1, .dead), (7, .dead), (3, .dead)] (cC (args := [.agg [ae (gt v21 x_68).e0, ae (gt v21 x_68).e1], aB true, .hp 0 0, .hp 4 0, .hp 5 0, .hp 6 0, .hp 2 0]) 5 3 [(0, true), (4, true), (5, true), (6, true), (2, true), (1, false), (7, false), (3, false)] [true, true, true, true, true, false, false, false] (lZ n (gt v21 x_68) true d_66 g.X0 g.Y0 g.Step g.Width g.Height g.Z level v1.1 o_67 v81 hc82) (by exact ⟨gL (fun _ => rfl) _, ⟨gL (fun _ => rfl) _, ⟨bc ah.pure _, trivial⟩⟩⟩) (by exact ⟨gL (fun _ => rfl) _, ⟨gL (fun _ => rfl) _, ⟨bc ah.pure _, trivial⟩⟩⟩) rfl rfl (by kernel_rfl) (by kernel_rfl)))) (.mu 2 (.ca cf0 (.done (.pop (.ru G ?_)))))
    exact aA (v81.1, v81.2, CT (x_68 + 1)) hr ((Wk.gc [10, 11, 12, 51, 52, 53] [(0, true), (10, false), (2, true), (12, false), (4, true), (5, true), (6, true), (11, false), (8, false)] rfl (pKt (pKM av.K bA (fun _ => rfl) v81.1 (pKt (pKo ah.c ah.pure v81.2 (pKt (pKt (pKt (pKM av.K (gA aj.c) (fun _ => rfl) v1.1 (pKo aj.c aj.pure v21 trivial)))))))))).to)
   refine .skip (.pop (.ru G ?_))
   exact aA (d_66, o_67, CT (x_68 + 1)) hr ((Wk.gc [10, 11, 12, 51, 52, 53] [(0, true), (1, false), (2, true), (3, false), (4, true), (5, true), (6, true), (7, false), (8, false)] rfl (pKt (pKM av.K bA (fun _ => rfl) d_66 (pKt (pKo ah.c ah.pure o_67 (pKt (pKt (pKt (pKM av.K (gA aj.c) (fun _ => rfl) v1.1 (pKo aj.c aj.pure v21 trivial)))))))))).to)
  refine .leave rfl ?_
  obtain rfl := oi hr
  exact ⟨rfl, ((Wk.gc [11] [(2, true), (3, false)] rfl (pKt (pKo ah.c ah.pure o_67 trivial))).to)⟩
 rintro x st' hq85
 clear hL84
 obtain ⟨rfl, hq85⟩ := hq85
 refine a9 _ rfl (.wk hq85 (.seq ?_))
 obtain ⟨v86, hc87, hr⟩ := bd hr
 obtain ⟨hg88, hr⟩ := gd hr
 refine .g1 G (cC (args := [.hs 1 0 o_75.length 2, .fn 95 [] []]) 1 0 [(1, false)] [false] (dz n o_75 v86 hc87) (by exact ⟨bc ah.pure _, trivial⟩) (by exact ⟨bc ah.pure _, trivial⟩) rfl rfl (by kernel_rfl) (by kernel_rfl)) (.mu 1 (.ca cf0 (.done (.nh [11] [.own [.hs 1 0 o_75.length 2], .own (v86.flatMap ah.c)] (.seq (.r3 G 68 [(4, .hs 1 0 o_75.length 2)] (.ret ?_)))))))
 obtain rfl := oi hr
 exact aJ.ret (vs := [.hs 1 0 o_75.length 2]) (by kernel_rfl) (Sn.hse (dcT hg88) rfl (.inl rfl) (SnC.pure (bc ah.pure _)) (fun h => cP h))

theorem sJ (n : Nat) (g : an) (level : Int) (r : List ah × Int) (hr : ka n g level = some r) : aN Tryz.prog 14 [.agg (an.c g), ae level] (.tup [slT ah.c r.1, ae r.2]) := by
 unfold ka at hr
 refine aN.bd G Tryz.func14 [.tmp 4, .tmp 5] ?_
 unfold Tryz.f14
 simp only [gS]
 refine .seq (.r5 G [1] [(2, .hp 0 0)] [.own (an.c g)] (.seq (.seq ?_)))
 obtain ⟨v1, hc2, hr⟩ := bd hr
 refine .g1 G (ok0 (jv n g level v1 hc2)) (.mu 2 (.ca cf0 (.mu 1 (.done (.nh [1, 2, 6] [.own (an.c g)] (.seq (.r4 G [1, 2, 6] [(11, aB ((v1 : Int) != 0))] ?_)))))))
 refine .cd hr ?_ ?_ <;> intro hb3 hr
 ·refine .seq (.r3 G 16 [(4, nS), (5, ae v1)] (.ret ?_))
  obtain rfl := oi hr
  exact aJ.ret (vs := [nS, ae v1]) (by kernel_rfl) (Sn.tup (SnL.cons Sn.cX (Sp SnL.nil)))
 refine .skip (.seq ?_)
 obtain ⟨v4, hc5, hr⟩ := bd hr
 refine .g1 G (ok0 (ox n g level v4 hc5)) (.mu 2 (.ca cf0 (.mu 2 (.done (.ret ?_)))))
 obtain rfl := oi hr
 exact aJ.ret (vs := [slT ah.c v4, ae 0]) (by kernel_rfl) (Sn.tup (Sp (Sp SnL.nil)))

theorem ns (n : Nat) {n' : Int} {n'_ : Int} (h : ([.at (.int .i64 n')] : List AV) = [.at (.int .i64 n'_)]) : cj n n' = cj n n'_ := by
 obtain rfl := ei h
 rfl
theorem dG (n : Nat) (n' : Int) (r : ak) (hr : cj n n' = some r) : aN Tryz.prog 61 [ae n'] (.agg (ak.c r)) := by
 unfold cj at hr
 refine aN.bd G Tryz.func61 [.cell 2 42] ?_
 unfold Tryz.f61
 simp only [gS]
 refine .seq (.r5 G [0] [(2, .hp 0 0)] [.own [aB false, nS, aB false, nS]] (.seq ?_))
 obtain ⟨v1, hc2, v3, hc4, hr⟩ := bd2 hr
 refine .gn G (ca1 (ok0 (jo n n' v1 hc2)) (ca3 (ok0 (jo n 1 v3 hc4)))) (.mu 1 (.ca cf0 (.ca (cfA (fun h => by rw [sv hc4 hc2 (qG n h)]) cf0) (.mu 2 (.done (.nh [2] [.own [aB v1.Negative, au v1.Groups, aB v3.Negative, au v3.Groups]] (.ret ?_)))))))
 obtain rfl := oi hr
 exact aJ.r1 [.agg [aB v1.Negative, au v1.Groups, aB v3.Negative, au v3.Groups]]

theorem oz (n : Nat) (x' : Int) (r : Bool) (hr : j9 n x' = some r) : aN Tryz.prog 198 [ae x'] (aB r) := by
 unfold j9 at hr
 refine aN.bd G Tryz.func198 [.tmp 2] ?_
 unfold Tryz.f198
 simp only [gS]
 refine .seq (.r4 G [0] [] (.seq (.ru G (.ret ?_))))
 obtain rfl := oi hr
 exact aJ.r1 [aB ((x' : Int) != x')]

theorem qO (n : Nat) (x' : Int) (y : Int) (r : Int) (hr : ji n x' y = some r) : aN Tryz.prog 179 [ae x', ae y] (ae r) := by
 unfold ji at hr
 refine aN.bd G Tryz.func179 [.tmp 4] ?_
 unfold Tryz.f179
 simp only [gS]
 refine .seq (.r4 G [0, 1] [] (.seq ?_))
 obtain ⟨v1, hc2, hr⟩ := bd hr
 refine .g1 G (ok0 (oz n x' v1 hc2)) (.mu 1 (.ca cf0 (.mu 1 (.done (.nh [0, 1, 5] [] (.seq ?_))))))
 obtain ⟨v3, hc4, hr⟩ := bd hr
 refine .g1 G (ok0 (oz n y v3 hc4)) (.mu 1 (.ca cf0 (.mu 1 (.done (.nh [0, 1, 5, 6] [] (.seq (.seq (.r4 G [0, 1, 6] [(11, aB v1)] ?_))))))))
 refine .cd hr ?_ ?_ <;> intro hb5 hr
 ·refine .seq (.seq (.r3 G 20 [(12, aB v3)] ?_))
  refine .cd hr ?_ ?_ <;> intro hb6 hr
  ·refine .seq (.ru G (.ret ?_))
   obtain rfl := oi hr
   exact aJ.r1 [ae 0]
  refine .skip (.seq (.ru G (.ret ?_)))
  obtain rfl := oi hr
  exact aJ.r1 [ae (-1)]
 refine .skip (.seq (.seq (.r4 G [0, 1] [(13, aB v3)] ?_)))
 refine .cd hr ?_ ?_ <;> intro hb7 hr
 ·refine .seq (.ru G (.ret ?_))
  obtain rfl := oi hr
  exact aJ.r1 [ae 1]
 refine .skip (.seq (.seq (.r4 G [0, 1] [(16, aB (decide (x' < y)))] ?_)))
 refine .cd hr ?_ ?_ <;> intro hb8 hr
 ·refine .seq (.ru G (.ret ?_))
  obtain rfl := oi hr
  exact aJ.r1 [ae (-1)]
 refine .skip (.seq (.seq (.r3 G 20 [(19, aB (decide (x' > y)))] ?_)))
 refine .cd hr ?_ ?_ <;> intro hb9 hr
 ·refine .seq (.ru G (.ret ?_))
  obtain rfl := oi hr
  exact aJ.r1 [ae 1]
 refine .skip (.seq (.ru G (.ret ?_)))
 obtain rfl := oi hr
 exact aJ.r1 [ae 0]

theorem m7 (n : Nat) (x' : ai) (y : ai) (r : Int) (hr : fl n x' y = some r) : aN Tryz.prog 144 [.agg (ai.c x'), .agg (ai.c y)] (ae r) := by
 unfold fl at hr
 refine aN.bd G Tryz.func144 [.tmp 4] ?_
 unfold Tryz.f144
 simp only [gS]
 refine .seq (.r2 G 28 [(2, .hp 0 0), (3, .hp 1 0)] [.own (ai.c x'), .own (ai.c y)] (.seq (.seq ?_)))
 obtain ⟨v1, hc2, v3, hc4, hr⟩ := bd2 hr
 refine .tn G (ca1 (ok0 (fW n x' v1 hc2)) (ca3 (ok0 (fW n y v3 hc4)))) (.mu 1 (.ca cf0 (.mu 1 (.ca (cfA (fun h => by rw [sv hc4 hc2 (tJ n h)]) cf0) (.mu 2 ?_)))))
 refine .done ⟨by kernel_rfl, ?_⟩
 refine .nh [2, 3, 5, 6] [.own (ai.c x'), .own (ai.c y)] (.seq (.r4 G [2, 3, 5, 6] [(14, aB ((v1 : Int) != v3))] ?_))
 refine .cd hr ?_ ?_ <;> intro hb5 hr
 ·refine .seq ?_
  obtain ⟨v6, hc7, hr⟩ := bd hr
  refine .g1 G (ok0 (qO n v1 v3 v6 hc7)) (.mu 2 (.ca cf0 (.mu 1 (.done (.ret ?_)))))
  obtain rfl := oi hr
  exact aJ.r1 [ae v6]
 refine .skip (.seq ?_)
 obtain ⟨v8, hc9, v10, hc11, v12, hc13, hr⟩ := bd3 hr
 refine .tn G (ca1 (ok0 (cE n x' v8 hc9)) (ca1 (ok0 (cE n y v10 hc11)) (ca3 (ok0 (km n v8 v10 v12 hc13))))) (.mu 1 (.ca cf0 (.mu 1 (.ca (cfA (fun h => by rw [sv hc11 hc9 (gY n h)]) cf0) (.ca (cfF (cfF cf0)) (.mu 1 ?_))))))
 refine .done ⟨by kernel_rfl, ?_⟩
 refine .nh [2, 7] [.own (ai.c x'), .own (ai.c y)] (.seq (.seq (.r4 G [7] [(24, aB x'.Negative)] ?_)))
 refine .cd hr ?_ ?_ <;> intro hb14 hr
 ·refine .seq (.r0 G (.mu 1 (.p0 (v := ae (CT (0 - v12))) (tr (y := some (.pure (ae (IntKind.wrap .i64 (0 - v12))))) wG) (.mu 1 (.done (.ret ?_))))))
  obtain rfl := oi hr
  exact aJ.r1 [ae (CT (0 - v12))]
 refine .skip (.seq (.ru G (.ret ?_)))
 obtain rfl := oi hr
 exact aJ.r1 [ae v12]

theorem gD {x' : ak} {x'_ : ak} (h : ([.agg [.at (.bool x'.Num.Negative), slT (iC .u32) x'.Num.Groups, .at (.bool x'.Den.Negative), slT (iC .u32) x'.Den.Groups]] : List AV) = [.agg [.at (.bool x'_.Num.Negative), slT (iC .u32) x'_.Num.Groups, .at (.bool x'_.Den.Negative), slT (iC .u32) x'_.Den.Groups]]) : x' = x'_ := by
 obtain ⟨⟨_, _⟩, ⟨_, _⟩⟩ := x'
 obtain ⟨⟨_, _⟩, ⟨_, _⟩⟩ := x'_
 simp only [List.cons.injEq, AV.agg.injEq, AV.at.injEq, Value.int.injEq, Value.bool.injEq, AV.fn.injEq, AV.pp.injEq, true_and, and_true, eU] at h
 simp_all
theorem nv (n : Nat) {x' : ak} {x'_ : ak} (h : ([.agg [.at (.bool x'.Num.Negative), slT (iC .u32) x'.Num.Groups, .at (.bool x'.Den.Negative), slT (iC .u32) x'.Den.Groups]] : List AV) = [.agg [.at (.bool x'_.Num.Negative), slT (iC .u32) x'_.Num.Groups, .at (.bool x'_.Den.Negative), slT (iC .u32) x'_.Den.Groups]]) : c6 n x' = c6 n x'_ := by
 obtain rfl := gD h
 rfl
theorem e9 (n : Nat) (x' : ak) (r : Bool) (hr : c6 n x' = some r) : aN Tryz.prog 101 [.agg (ak.c x')] (aB r) := by
 unfold c6 at hr
 refine aN.bd G Tryz.func101 [.tmp 2] ?_
 unfold Tryz.f101
 simp only [gS]
 refine .seq (.r2 G 27 [(1, .hp 0 0)] [.own (ak.c x')] (.seq (.seq ?_)))
 obtain ⟨v1, hc2, hr⟩ := bd hr
 rcases bT (!v1) with hb3 | hb3
 ·replace hr := cy hb3 hr
  refine .g1 G (ok0 (fB n x'.Num v1 hc2)) (.mu 2 (.ca cf0 (.p0 (v := aB true) (eB hb3) (.mu 12 (.done (.nh [1, 18] [.own (ak.c x')] (.cT (by kernel_rfl) (.seq (.ru G (.ret ?_))))))))))
  obtain rfl := oi hr
  exact aJ.r1 [aB false]
 replace hr := cA hb3 hr
 obtain ⟨v4, hc5, hr⟩ := bd hr
 rcases bT (!v4) with hb6 | hb6
 ·replace hr := cy hb6 hr
  refine .gn G (ca1 (ok0 (fB n x'.Num v1 hc2)) (ca3 (ok0 (fB n x'.Den v4 hc5)))) (.mu 2 (.ca cf0 (.p0 (v := aB false) (eB hb3) (.mu 3 (.ca (cfA (fun h => by rw [sv hc5 hc2 (oy n h)]) cf0) (.pure (v := aB true) (by kernel_rfl) (eB hb6) (.mu 7 (.done (.nh [1, 18] [.own (ak.c x')] (.cT (by kernel_rfl) (.seq (.ru G (.ret ?_)))))))))))))
  obtain rfl := oi hr
  exact aJ.r1 [aB false]
 replace hr := cA hb6 hr
 obtain ⟨v7, hc8, hr⟩ := bd hr
 refine .gn G (ca1 (ok0 (fB n x'.Num v1 hc2)) (ca1 (ok0 (fB n x'.Den v4 hc5)) (ca3 (ok0 (fW n x'.Den v7 hc8))))) (.mu 2 (.ca cf0 (.p0 (v := aB false) (eB hb3) (.mu 3 (.ca (cfA (fun h => by rw [sv hc5 hc2 (oy n h)]) cf0) (.pure (v := aB false) (by kernel_rfl) (eB hb6) (.mu 4 (.ca (cfF (cfF cf0)) (.mu 2 (.done (.nh [1, 18] [.own (ak.c x')] ?_)))))))))))
 refine .cd hr ?_ ?_ <;> intro hb9 hr
 ·refine .seq (.ru G (.ret ?_))
  obtain rfl := oi hr
  exact aJ.r1 [aB false]
 refine .skip (.seq ?_)
 obtain ⟨v10, hc11, v12, hc13, v14, hc15, hr⟩ := bd3 hr
 refine .gn G (ca1 (ok0 (nf n x'.Num x'.Den v10 hc11)) (ca1 (ok0 (jo n 1 v12 hc13)) (ca3 (ok0 (m7 n v10 v12 v14 hc15))))) (.mu 4 (.ca cf0 (.ca (cfF cf0) (.ca (cfF (cfF cf0)) (.mu 2 (.done (.ret ?_)))))))
 obtain rfl := oi hr
 exact aJ.r1 [aB ((v14 : Int) == 0)]

theorem rf (n : Nat) (x' : ak) (r : ak) (hr : jb n x' = some r) : aN Tryz.prog 159 [.agg (ak.c x')] (.agg (ak.c r)) := by
 unfold jb at hr
 refine aN.bd G Tryz.func159 [.cell 2 42] ?_
 unfold Tryz.f159
 simp only [gS]
 refine .seq (.r2 G 12 [(1, .hp 0 0), (2, .hp 1 0)] [.own (ak.c x'), .own [aB false, nS, aB false, nS]] (.seq ?_))
 obtain ⟨v1, hc2, v3, hc4, v5, hc6, hr⟩ := bd3 hr
 obtain ⟨v7, hc8, hr⟩ := bd hr
 refine .tn G (ca1 (ok0 (gz n x'.Num v1 hc2)) (ca1 (ok0 (gz n v1 v3 hc4)) (ca1 (ok0 (gz n x'.Den v5 hc6)) (ca3 (ok0 (gz n v5 v7 hc8)))))) (.mu 2 (.ca cf0 (.ca (cfA (fun h => by rw [sv hc4 hc2 (gE n h)]) cf0) (.mu 2 (.ca (cfA (fun h => by rw [sv hc6 hc2 (gE n h)]) (cfA (fun h => by rw [sv hc6 hc4 (gE n h)]) cf0)) (.ca (cfA (fun h => by rw [sv hc8 hc2 (gE n h)]) (cfA (fun h => by rw [sv hc8 hc4 (gE n h)]) (cfA (fun h => by rw [sv hc8 hc6 (gE n h)]) cf0))) (.mu 2 ?_)))))))
 refine .done ⟨by kernel_rfl, ?_⟩
 refine .nh [2] [.own (ak.c x'), .own [aB v3.Negative, au v3.Groups, aB v7.Negative, au v7.Groups]] (.ret ?_)
 obtain rfl := oi hr
 exact aJ.r1 [.agg [aB v3.Negative, au v3.Groups, aB v7.Negative, au v7.Groups]]

theorem jC (n : Nat) {x' : ak} {x'_ : ak} (h : ([.agg [.at (.bool x'.Num.Negative), slT (iC .u32) x'.Num.Groups, .at (.bool x'.Den.Negative), slT (iC .u32) x'.Den.Groups]] : List AV) = [.agg [.at (.bool x'_.Num.Negative), slT (iC .u32) x'_.Num.Groups, .at (.bool x'_.Den.Negative), slT (iC .u32) x'_.Den.Groups]]) : cu n x' = cu n x'_ := by
 obtain rfl := gD h
 rfl
theorem dd (n : Nat) (x' : ak) (r : ak) (hr : cu n x' = some r) : aN Tryz.prog 121 [.agg (ak.c x')] (.agg (ak.c r)) := by
 unfold cu at hr
 refine aN.bd G Tryz.func121 [.cell 2 42] ?_
 unfold Tryz.f121
 simp only [gS]
 refine .seq (.r2 G 8 [(1, .hp 0 0), (2, .hp 1 0)] [.own (ak.c x'), .own [aB false, nS, aB false, nS]] (.seq (.seq ?_)))
 obtain ⟨v1, hc2, hr⟩ := bd hr
 refine .g1 G (ok0 (e9 n x' v1 hc2)) (.mu 1 (.ca cf0 (.done (.nh [1, 2, 4] [.own (ak.c x'), .own [aB false, nS, aB false, nS]] ?_))))
 refine .cd hr ?_ ?_ <;> intro hb3 hr
 ·refine .seq ?_
  obtain ⟨v4, hc5, hr⟩ := bd hr
  refine .g1 G (ok0 (rf n x' v4 hc5)) (.mu 1 (.ca cf0 (.mu 1 (.done (.nh [2] [.own (ak.c x'), .own (ak.c v4)] (.ret ?_))))))
  obtain rfl := oi hr
  exact aJ.r1 [.agg (ak.c v4)]
 refine .skip (.seq ?_)
 obtain ⟨v6, hc7, hr⟩ := bd hr
 refine .g1 G (ok0 (dG n 0 v6 hc7)) (.ca cf0 (.mu 1 (.done (.nh [2] [.own (ak.c x'), .own (ak.c v6)] (.ret ?_)))))
 obtain rfl := oi hr
 exact aJ.r1 [.agg (ak.c v6)]

theorem jX (n : Nat) {x' : ak} {x'_ : ak} (h : ([.agg [.at (.bool x'.Num.Negative), slT (iC .u32) x'.Num.Groups, .at (.bool x'.Den.Negative), slT (iC .u32) x'.Den.Groups]] : List AV) = [.agg [.at (.bool x'_.Num.Negative), slT (iC .u32) x'_.Num.Groups, .at (.bool x'_.Den.Negative), slT (iC .u32) x'_.Den.Groups]]) : bn n x' = bn n x'_ := by
 obtain rfl := gD h
 rfl
theorem bF (n : Nat) (x' : ak) (r : Int) (hr : bn n x' = some r) : aN Tryz.prog 107 [.agg (ak.c x')] (ae r) := by
 unfold bn at hr
 refine aN.bd G Tryz.func107 [.tmp 2] ?_
 unfold Tryz.f107
 simp only [gS]
 refine .seq (.r2 G 7 [(1, .hp 0 0)] [.own (ak.c x')] (.seq ?_))
 obtain ⟨v1, hc2, v3, hc4, hr⟩ := bd2 hr
 refine .gn G (ca1 (ok0 (dd n x' v1 hc2)) (ca3 (ok0 (fW n v1.Num v3 hc4)))) (.mu 1 (.ca cf0 (.mu 1 (.ca (cfF cf0) (.mu 1 (.done (.ret ?_)))))))
 obtain rfl := oi hr
 exact aJ.r1 [ae v3]

theorem tK (n : Nat) (x' : ak) (r : ak) (hr : o0 n x' = some r) : aN Tryz.prog 120 [.agg (ak.c x')] (.agg (ak.c r)) := by
 unfold o0 at hr
 refine aN.bd G Tryz.func120 [.cell 2 42] ?_
 unfold Tryz.f120
 simp only [gS]
 refine .seq (.r2 G 11 [(1, .hp 0 0), (2, .hp 1 0)] [.own (ak.c x'), .own [aB false, nS, aB false, nS]] (.seq ?_))
 obtain ⟨v1, hc2, hr⟩ := bd hr
 refine .g1 G (ok0 (dd n x' v1 hc2)) (.mu 1 (.ca cf0 (.mu 1 (.done (.nh [1, 2] [.own (ak.c v1), .own [aB false, nS, aB false, nS]] (.seq ?_))))))
 obtain ⟨v3, hc4, hr⟩ := bd hr
 refine .t1 G (ok0 (gz n v1.Num v3 hc4)) (.mu 2 (.ca cf0 (.mu 4 ?_)))
 refine .done ⟨by kernel_rfl, ?_⟩
 refine .nh [2] [.own (ak.c v1), .own [aB v3.Negative, au v3.Groups, aB v1.Den.Negative, au v1.Den.Groups]] (.ret ?_)
 obtain rfl := oi hr
 exact aJ.r1 [.agg [aB v3.Negative, au v3.Groups, aB v1.Den.Negative, au v1.Den.Groups]]

theorem pw {x' : ai} {y : ai} {x'_ : ai} {y_ : ai} (h : ([.agg [.at (.bool x'.Negative), slT (iC .u32) x'.Groups], .agg [.at (.bool y.Negative), slT (iC .u32) y.Groups]] : List AV) = [.agg [.at (.bool x'_.Negative), slT (iC .u32) x'_.Groups], .agg [.at (.bool y_.Negative), slT (iC .u32) y_.Groups]]) : x' = x'_ /\ y = y_ := by
 obtain ⟨_, _⟩ := x'
 obtain ⟨_, _⟩ := x'_
 obtain ⟨_, _⟩ := y
 obtain ⟨_, _⟩ := y_
 simp only [List.cons.injEq, AV.agg.injEq, AV.at.injEq, Value.int.injEq, Value.bool.injEq, AV.fn.injEq, AV.pp.injEq, true_and, and_true, eU] at h
 simp_all
theorem iI (n : Nat) {x' : ai} {y : ai} {x'_ : ai} {y_ : ai} (h : ([.agg [.at (.bool x'.Negative), slT (iC .u32) x'.Groups], .agg [.at (.bool y.Negative), slT (iC .u32) y.Groups]] : List AV) = [.agg [.at (.bool x'_.Negative), slT (iC .u32) x'_.Groups], .agg [.at (.bool y_.Negative), slT (iC .u32) y_.Groups]]) : dM n x' y = dM n x'_ y_ := by
 obtain ⟨rfl, rfl⟩ := pw h
 rfl
theorem fi (n : Nat) (x' : ai) (y : ai) (r : ai) (hr : dM n x' y = some r) : aN Tryz.prog 123 [.agg (ai.c x'), .agg (ai.c y)] (.agg (ai.c r)) := by
 unfold dM at hr
 refine aN.bd G Tryz.func123 [.cell 4 40] ?_
 unfold Tryz.f123
 simp only [gS]
 refine .seq (.r2 G 16 [(2, .hp 0 0), (3, .hp 1 0), (4, .hp 2 0)] [.own (ai.c x'), .own (ai.c y), .own [aB false, nS]] (.seq ?_))
 obtain ⟨v1, hc2, v3, hc4, v5, hc6, hr⟩ := bd3 hr
 obtain ⟨v7, hc8, hr⟩ := bd hr
 refine .tn G (ca1 (ok0 (cE n x' v1 hc2)) (ca1 (ok0 (cE n y v3 hc4)) (ca1 (ok0 (sA n v1 v3 v5 hc6)) (ca3 (ok0 (cq n (x'.Negative != y.Negative) v5 v7 hc8)))))) (.mu 6 (.ca cf0 (.mu 1 (.ca (cfA (fun h => by rw [sv hc4 hc2 (gY n h)]) cf0) (.ca (cfF (cfF cf0)) (.ca (cfF (cfF (cfF cf0))) (.mu 1 ?_)))))))
 refine .done ⟨by kernel_rfl, ?_⟩
 refine .nh [4] [.own (ai.c x'), .own (ai.c y), .own (ai.c v7)] (.ret ?_)
 obtain rfl := oi hr
 exact aJ.r1 [.agg (ai.c v7)]

theorem tU (n : Nat) (negative : Bool) (a : List Int) (other : Bool) (b : List Int) (r : ai) (hr : l5 n negative a other b = some r) : aN Tryz.prog 163 [aB negative, au a, aB other, au b] (.agg (ai.c r)) := by
 unfold l5 at hr
 refine aN.bd G Tryz.func163 [.cell 8 40] ?_
 unfold Tryz.f163
 simp only [gS]
 refine .seq (.r5 G [0, 1, 2, 3] [(8, .hp 0 0)] [.own [aB false, nS]] (.seq (.block (.seq (.r4 G [0, 1, 2, 3, 8] [(9, aB (negative == other))] ?_)))))
 refine .cd hr ?_ ?_ <;> intro hb1 hr
 ·refine .seq ?_
  obtain ⟨v2, hc3, v4, hc5, hr⟩ := bd2 hr
  refine .gn G (ca1 (ok0 (pt n a b v2 hc3)) (ca3 (ok0 (cq n negative v2 v4 hc5)))) (.mu 3 (.ca cf0 (.ca (cfF cf0) (.mu 1 (.done (.nh [8] [.own (ai.c v4)] (.ret ?_)))))))
  obtain rfl := oi hr
  exact aJ.r1 [.agg (ai.c v4)]
 refine .seq ?_
 obtain ⟨v6, hc7, hr⟩ := bd hr
 refine .g1 G (ok0 (km n a b v6 hc7)) (.mu 2 (.ca cf0 (.mu 2 (.done (.nh [0, 1, 2, 3, 8, 18] [.own [aB false, nS]] ?_)))))
 refine .cd hr ?_ ?_ <;> intro hb8 hr
 ·refine .seq ?_
  obtain ⟨v9, hc10, v11, hc12, hr⟩ := bd2 hr
  refine .gn G (ca1 (ok0 (lN n a b v9 hc10)) (ca3 (ok0 (cq n negative v9 v11 hc12)))) (.mu 3 (.ca cf0 (.ca (cfF cf0) (.mu 1 (.done (.nh [8] [.own (ai.c v11)] (.ret ?_)))))))
  obtain rfl := oi hr
  exact aJ.r1 [.agg (ai.c v11)]
 refine .skip (.pop (.seq ?_))
 obtain ⟨v13, hc14, v15, hc16, hr⟩ := bd2 hr
 refine .gn G (ca1 (ok0 (lN n b a v13 hc14)) (ca3 (ok0 (cq n other v13 v15 hc16)))) (.mu 3 (.ca cf0 (.ca (cfF cf0) (.mu 1 (.done (.nh [8] [.own (ai.c v15)] (.ret ?_)))))))
 obtain rfl := oi hr
 exact aJ.r1 [.agg (ai.c v15)]

theorem ua (n : Nat) (x' : ai) (y : ai) (r : ai) (hr : lU n x' y = some r) : aN Tryz.prog 124 [.agg (ai.c x'), .agg (ai.c y)] (.agg (ai.c r)) := by
 unfold lU at hr
 refine aN.bd G Tryz.func124 [.cell 4 40] ?_
 unfold Tryz.f124
 simp only [gS]
 refine .seq (.r2 G 14 [(2, .hp 0 0), (3, .hp 1 0), (4, .hp 2 0)] [.own (ai.c x'), .own (ai.c y), .own [aB false, nS]] (.seq ?_))
 obtain ⟨v1, hc2, v3, hc4, v5, hc6, hr⟩ := bd3 hr
 refine .tn G (ca1 (ok0 (cE n x' v1 hc2)) (ca1 (ok0 (cE n y v3 hc4)) (ca3 (ok0 (tU n x'.Negative v1 y.Negative v3 v5 hc6))))) (.mu 3 (.ca cf0 (.mu 3 (.ca (cfA (fun h => by rw [sv hc4 hc2 (gY n h)]) cf0) (.ca (cfF (cfF cf0)) (.mu 1 ?_))))))
 refine .done ⟨by kernel_rfl, ?_⟩
 refine .nh [4] [.own (ai.c x'), .own (ai.c y), .own (ai.c v5)] (.ret ?_)
 obtain rfl := oi hr
 exact aJ.r1 [.agg (ai.c v5)]

theorem gR (n : Nat) (x' : ak) (y : ak) (r : ak) (hr : fC n x' y = some r) : aN Tryz.prog 80 [.agg (ak.c x'), .agg (ak.c y)] (.agg (ak.c r)) := by
 unfold fC at hr
 refine aN.bd G Tryz.func80 [.cell 4 42] ?_
 unfold Tryz.f80
 simp only [gS]
 refine .seq (.r2 G 26 [(2, .hp 0 0), (3, .hp 1 0), (4, .hp 2 0)] [.own (ak.c x'), .own (ak.c y), .own [aB false, nS, aB false, nS]] (.seq ?_))
 obtain ⟨v1, hc2, v3, hc4, hr⟩ := bd2 hr
 refine .tn G (ca1 (ok0 (dd n x' v1 hc2)) (ca3 (ok0 (dd n y v3 hc4)))) (.mu 1 (.ca cf0 (.mu 1 (.ca (cfA (fun h => by rw [sv hc4 hc2 (jC n h)]) cf0) (.mu 2 ?_)))))
 refine .done ⟨by kernel_rfl, ?_⟩
 refine .nh [2, 3, 4] [.own (ak.c v1), .own (ak.c v3), .own [aB false, nS, aB false, nS]] (.seq ?_)
 obtain ⟨v5, hc6, v7, hc8, v9, hc10, hr⟩ := bd3 hr
 obtain ⟨v11, hc12, v13, hc14, hr⟩ := bd2 hr
 refine .tn G (ca1 (ok0 (fi n v1.Num v3.Den v5 hc6)) (ca1 (ok0 (fi n v3.Num v1.Den v7 hc8)) (ca1 (ok0 (ua n v5 v7 v9 hc10)) (ca1 (ok0 (fi n v1.Den v3.Den v11 hc12)) (ca3 (ok0 (iA n v9 v11 v13 hc14))))))) (.mu 4 (.ca cf0 (.mu 4 (.ca (cfA (fun h => by rw [sv hc8 hc6 (iI n h)]) cf0) (.ca (cfF (cfF cf0)) (.mu 4 (.ca (cfA (fun h => by rw [sv hc12 hc6 (iI n h)]) (cfA (fun h => by rw [sv hc12 hc8 (iI n h)]) (cfF cf0))) (.ca (cfF (cfF (cfF (cfF cf0)))) (.mu 1 ?_)))))))))
 refine .done ⟨by kernel_rfl, ?_⟩
 refine .nh [4] [.own (ak.c v1), .own (ak.c v3), .own (ak.c v13)] (.ret ?_)
 obtain rfl := oi hr
 exact aJ.r1 [.agg (ak.c v13)]

theorem gw {x' : ak} {y : ak} {x'_ : ak} {y_ : ak} (h : ([.agg [.at (.bool x'.Num.Negative), slT (iC .u32) x'.Num.Groups, .at (.bool x'.Den.Negative), slT (iC .u32) x'.Den.Groups], .agg [.at (.bool y.Num.Negative), slT (iC .u32) y.Num.Groups, .at (.bool y.Den.Negative), slT (iC .u32) y.Den.Groups]] : List AV) = [.agg [.at (.bool x'_.Num.Negative), slT (iC .u32) x'_.Num.Groups, .at (.bool x'_.Den.Negative), slT (iC .u32) x'_.Den.Groups], .agg [.at (.bool y_.Num.Negative), slT (iC .u32) y_.Num.Groups, .at (.bool y_.Den.Negative), slT (iC .u32) y_.Den.Groups]]) : x' = x'_ /\ y = y_ := by
 obtain ⟨⟨_, _⟩, ⟨_, _⟩⟩ := x'
 obtain ⟨⟨_, _⟩, ⟨_, _⟩⟩ := x'_
 obtain ⟨⟨_, _⟩, ⟨_, _⟩⟩ := y
 obtain ⟨⟨_, _⟩, ⟨_, _⟩⟩ := y_
 simp only [List.cons.injEq, AV.agg.injEq, AV.at.injEq, Value.int.injEq, Value.bool.injEq, AV.fn.injEq, AV.pp.injEq, true_and, and_true, eU] at h
 simp_all
theorem mm (n : Nat) {x' : ak} {y : ak} {x'_ : ak} {y_ : ak} (h : ([.agg [.at (.bool x'.Num.Negative), slT (iC .u32) x'.Num.Groups, .at (.bool x'.Den.Negative), slT (iC .u32) x'.Den.Groups], .agg [.at (.bool y.Num.Negative), slT (iC .u32) y.Num.Groups, .at (.bool y.Den.Negative), slT (iC .u32) y.Den.Groups]] : List AV) = [.agg [.at (.bool x'_.Num.Negative), slT (iC .u32) x'_.Num.Groups, .at (.bool x'_.Den.Negative), slT (iC .u32) x'_.Den.Groups], .agg [.at (.bool y_.Num.Negative), slT (iC .u32) y_.Num.Groups, .at (.bool y_.Den.Negative), slT (iC .u32) y_.Den.Groups]]) : eI n x' y = eI n x'_ y_ := by
 obtain ⟨rfl, rfl⟩ := gw h
 rfl
theorem fm (n : Nat) (x' : ak) (y : ak) (r : ak) (hr : eI n x' y = some r) : aN Tryz.prog 75 [.agg (ak.c x'), .agg (ak.c y)] (.agg (ak.c r)) := by
 unfold eI at hr
 refine aN.bd G Tryz.func75 [.cell 4 42] ?_
 unfold Tryz.f75
 simp only [gS]
 refine .seq (.r2 G 9 [(2, .hp 0 0), (3, .hp 1 0), (4, .hp 2 0)] [.own (ak.c x'), .own (ak.c y), .own [aB false, nS, aB false, nS]] (.seq ?_))
 obtain ⟨v1, hc2, v3, hc4, hr⟩ := bd2 hr
 refine .tn G (ca1 (ok0 (tK n y v1 hc2)) (ca3 (ok0 (gR n x' v1 v3 hc4)))) (.mu 2 (.ca cf0 (.ca (cfF cf0) (.mu 1 ?_))))
 refine .done ⟨by kernel_rfl, ?_⟩
 refine .nh [4] [.own (ak.c x'), .own (ak.c y), .own (ak.c v3)] (.ret ?_)
 obtain rfl := oi hr
 exact aJ.r1 [.agg (ak.c v3)]

theorem na (n : Nat) (p : ak) (p' : ak) (p'' : ak) (tip : ak) (r : ak) (hr : kb n p p' p'' tip = some r) : aN Tryz.prog 74 [.agg (ak.c p), .agg (ak.c p'), .agg (ak.c p''), .agg (ak.c tip)] (.agg (ak.c r)) := by
 unfold kb at hr
 refine aN.bd G Tryz.func74 [.cell 8 42] ?_
 unfold Tryz.f74
 simp only [gS]
 refine .seq (.r2 G 12 [(7, .hp 3 0), (8, .hp 4 0)] [.own (ak.c p), .own (ak.c p'), .own (ak.c p''), .own (ak.c tip), .own [aB false, nS, aB false, nS]] (.seq ?_))
 obtain ⟨v1, hc2, v3, hc4, hr⟩ := bd2 hr
 refine .tn G (ca1 (ok0 (dG n 1 v1 hc2)) (ca3 (ok0 (fm n v1 tip v3 hc4)))) (.ca cf0 (.mu 1 (.ca (cfF cf0) (.mu 1 ?_))))
 refine .done ⟨by kernel_rfl, ?_⟩
 refine .nh [8] [.own (ak.c p), .own (ak.c p'), .own (ak.c p''), .own (ak.c tip), .own (ak.c v3)] (.ret ?_)
 obtain rfl := oi hr
 exact aJ.r1 [.agg (ak.c v3)]

theorem mq (n : Nat) {x' : ak} {y : ak} {x'_ : ak} {y_ : ak} (h : ([.agg [.at (.bool x'.Num.Negative), slT (iC .u32) x'.Num.Groups, .at (.bool x'.Den.Negative), slT (iC .u32) x'.Den.Groups], .agg [.at (.bool y.Num.Negative), slT (iC .u32) y.Num.Groups, .at (.bool y.Den.Negative), slT (iC .u32) y.Den.Groups]] : List AV) = [.agg [.at (.bool x'_.Num.Negative), slT (iC .u32) x'_.Num.Groups, .at (.bool x'_.Den.Negative), slT (iC .u32) x'_.Den.Groups], .agg [.at (.bool y_.Num.Negative), slT (iC .u32) y_.Num.Groups, .at (.bool y_.Den.Negative), slT (iC .u32) y_.Den.Groups]]) : dH n x' y = dH n x'_ y_ := by
 obtain ⟨rfl, rfl⟩ := gw h
 rfl
theorem fo (n : Nat) (x' : ak) (y : ak) (r : ak) (hr : dH n x' y = some r) : aN Tryz.prog 78 [.agg (ak.c x'), .agg (ak.c y)] (.agg (ak.c r)) := by
 unfold dH at hr
 refine aN.bd G Tryz.func78 [.cell 4 42] ?_
 unfold Tryz.f78
 simp only [gS]
 refine .seq (.r2 G 20 [(2, .hp 0 0), (3, .hp 1 0), (4, .hp 2 0)] [.own (ak.c x'), .own (ak.c y), .own [aB false, nS, aB false, nS]] (.seq ?_))
 obtain ⟨v1, hc2, v3, hc4, hr⟩ := bd2 hr
 refine .tn G (ca1 (ok0 (dd n x' v1 hc2)) (ca3 (ok0 (dd n y v3 hc4)))) (.mu 1 (.ca cf0 (.mu 1 (.ca (cfA (fun h => by rw [sv hc4 hc2 (jC n h)]) cf0) (.mu 2 ?_)))))
 refine .done ⟨by kernel_rfl, ?_⟩
 refine .nh [2, 3, 4] [.own (ak.c v1), .own (ak.c v3), .own [aB false, nS, aB false, nS]] (.seq ?_)
 obtain ⟨v5, hc6, v7, hc8, v9, hc10, hr⟩ := bd3 hr
 refine .tn G (ca1 (ok0 (fi n v1.Num v3.Num v5 hc6)) (ca1 (ok0 (fi n v1.Den v3.Den v7 hc8)) (ca3 (ok0 (iA n v5 v7 v9 hc10))))) (.mu 4 (.ca cf0 (.mu 4 (.ca (cfA (fun h => by rw [sv hc8 hc6 (iI n h)]) cf0) (.ca (cfF (cfF cf0)) (.mu 1 ?_))))))
 refine .done ⟨by kernel_rfl, ?_⟩
 refine .nh [4] [.own (ak.c v1), .own (ak.c v3), .own (ak.c v9)] (.ret ?_)
 obtain rfl := oi hr
 exact aJ.r1 [.agg (ak.c v9)]

theorem rk (n : Nat) (x' : ak) (y : ak) (r : ak × Int) (hr : mz n x' y = some r) : aN Tryz.prog 119 [.agg (ak.c x'), .agg (ak.c y)] (.tup [.agg (ak.c r.1), ae r.2]) := by
 unfold mz at hr
 refine aN.bd G Tryz.func119 [.cell 4 42, .tmp 5] ?_
 unfold Tryz.f119
 simp only [gS]
 refine .seq (.r2 G 26 [(2, .hp 0 0), (3, .hp 1 0), (4, .hp 2 0)] [.own (ak.c x'), .own (ak.c y), .own [aB false, nS, aB false, nS]] (.seq ?_))
 obtain ⟨v1, hc2, v3, hc4, hr⟩ := bd2 hr
 refine .tn G (ca1 (ok0 (dd n x' v1 hc2)) (ca3 (ok0 (dd n y v3 hc4)))) (.mu 1 (.ca cf0 (.mu 1 (.ca (cfA (fun h => by rw [sv hc4 hc2 (jC n h)]) cf0) (.mu 2 ?_)))))
 refine .done ⟨by kernel_rfl, ?_⟩
 refine .nh [2, 3, 4] [.own (ak.c v1), .own (ak.c v3), .own [aB false, nS, aB false, nS]] (.seq (.seq ?_))
 obtain ⟨v5, hc6, hr⟩ := bd hr
 refine .g1 G (ok0 (fW n v3.Num v5 hc6)) (.mu 2 (.ca cf0 (.mu 1 (.done (.nh [2, 3, 4, 13] [.own (ak.c v1), .own (ak.c v3), .own [aB false, nS, aB false, nS]] ?_)))))
 refine .cd hr ?_ ?_ <;> intro hb7 hr
 ·refine .seq (.r4 G [4] [(5, ae 14)] (.ret ?_))
  obtain rfl := oi hr
  exact aJ.ret (vs := [.agg [aB false, nS, aB false, nS], ae 14]) (by kernel_rfl) (Sn.tup (SnL.cons (Sn.agg (Sp (SnL.cons Sn.cX (Sp (SnL.cons Sn.cX SnL.nil))))) (Sp SnL.nil)))
 refine .skip (.seq ?_)
 obtain ⟨v8, hc9, v10, hc11, v12, hc13, hr⟩ := bd3 hr
 refine .tn G (ca1 (ok0 (fi n v1.Num v3.Den v8 hc9)) (ca1 (ok0 (fi n v1.Den v3.Num v10 hc11)) (ca3 (ok0 (iA n v8 v10 v12 hc13))))) (.mu 4 (.ca cf0 (.mu 4 (.ca (cfA (fun h => by rw [sv hc11 hc9 (iI n h)]) cf0) (.ca (cfF (cfF cf0)) (.mu 2 ?_))))))
 refine .done ⟨by kernel_rfl, ?_⟩
 refine .nh [4, 5] [.own (ak.c v1), .own (ak.c v3), .own (ak.c v12)] (.ret ?_)
 obtain rfl := oi hr
 exact aJ.ret (vs := [.agg (ak.c v12), ae 0]) (by kernel_rfl) (Sn.tup (Sp (Sp SnL.nil)))

theorem s9 (n : Nat) (a : ak) (b : ak) (c : ak) (r : ak) (hr : nV n a b c = some r) : aN Tryz.prog 73 [.agg (ak.c a), .agg (ak.c b), .agg (ak.c c)] (.agg (ak.c r)) := by
 unfold nV at hr
 refine aN.bd G Tryz.func73 [.cell 6 42] ?_
 unfold Tryz.f73
 simp only [gS]
 refine .seq (.r2 G 24 [(3, .hp 0 0), (4, .hp 1 0), (5, .hp 2 0), (6, .hp 3 0)] [.own (ak.c a), .own (ak.c b), .own (ak.c c), .own [aB false, nS, aB false, nS]] (.seq ?_))
 obtain ⟨v1, hc2, v3, hc4, v5, hc6, hr⟩ := bd3 hr
 obtain ⟨v7, hc8, v9, hc10, hr⟩ := bd2 hr
 refine .tn G (ca1 (ok0 (fo n a a v1 hc2)) (ca1 (ok0 (fm n a b v3 hc4)) (ca1 (ok0 (fm n a c v5 hc6)) (ca1 (ok0 (fo n v3 v5 v7 hc8)) (ca3 (ok0 (rk n v1 v7 v9 hc10))))))) (.mu 2 (.ca cf0 (.mu 2 (.ca (cfF cf0) (.mu 2 (.ca (cfF (cfA (fun h => by rw [sv hc6 hc4 (mm n h)]) cf0)) (.ca (cfA (fun h => by rw [sv hc8 hc2 (mq n h)]) (cfF (cfF cf0))) (.ca (cfF (cfF (cfF (cfF cf0)))) (.mu 6 ?_)))))))))
 refine .done ⟨by kernel_rfl, ?_⟩
 refine .nh [6, 7] [.own (ak.c a), .own (ak.c b), .own (ak.c c), .own [aB false, nS, aB false, nS], .own (ak.c v9.1)] (.seq (.r5 G [6] [] [.own (ak.c a), .own (ak.c b), .own (ak.c c), .own (ak.c v9.1), .own (ak.c v9.1)] (.ret ?_)))
 obtain rfl := oi hr
 exact aJ.r1 [.agg (ak.c v9.1)]

theorem qb (n : Nat) (t : A3 Int) (p : Int) (p' : Int) (p'' : Int) (cU : Int) (bx : Int) (aP : List Int) (aR : Int) (aV : Bool) (aG : List Int) (aE : Bool) (aT : List Int) (r : Bool × List Int × Bool × List Int) (hr : kN n t p p' p'' cU bx aP aR aV aG aE aT = some r) : ef 5 Tryz.prog 117 [.agg [ae t.e0, ae t.e1, ae t.e2], .hp 0 0, .hp 1 0, .hp 2 0, .hp 3 0, .hp 4 0] [.own [ae p, ae p', ae p'', ae cU, ae bx, bG aP], .own [ae aR], .own [aB aV, au aG, aB aE, au aT], .own [.fn 74 [] []], .own [.fn 73 [] []]] (.tup []) [.own [ae p, ae p', ae p'', ae cU, ae bx, bG aP], .own [ae aR], .own [aB r.1, au r.2.1, aB r.2.2.1, au r.2.2.2], .own [.fn 74 [] []], .own [.fn 73 [] []]] := by
 unfold kN at hr
 refine ef.kE G Tryz.func117 (c := (Tryz.f117.body).getD .skip) rfl (us := []) (s := mkS 104 0 [(0, .agg [ae t.e0, ae t.e1, ae t.e2]), (1, .hp 0 0), (2, .hp 1 0), (3, .hp 2 0), (4, .hp 3 0), (5, .hp 4 0)]) (by kernel_rfl) (rs := []) rfl ?_
 unfold Tryz.f117
 simp only [gS]
 refine .seq (.r5 G [1, 2, 3, 4, 5] [(6, .hp 5 0)] [.own [ae p, ae p', ae p'', ae cU, ae bx, bG aP], .own [ae aR], .own [aB aV, au aG, aB aE, au aT], .own [.fn 74 [] []], .own [.fn 73 [] []], .own [ae t.e0, ae t.e1, ae t.e2]] (.seq (.r5 G [1, 2, 3, 4, 5, 6] [(7, .hp 6 0)] [.own [ae p, ae p', ae p'', ae cU, ae bx, bG aP], .own [ae aR], .own [aB aV, au aG, aB aE, au aT], .own [.fn 74 [] []], .own [.fn 73 [] []], .own [ae t.e0, ae t.e1, ae t.e2], .own [aB false, nS, aB false, nS, aB false, nS, aB false, nS, aB false, nS, aB false, nS]] (.seq (.r4 G [1, 2, 3, 4, 5, 6, 7] [(8, ae 0)] (.seq (.seq (.r4 G [1, 2, 3, 4, 5, 7, 8] [(12, .agg [ae t.e0, ae t.e1, ae t.e2]), (13, ae 0)] ?_))))))))
 replace hr := bd hr; obtain ⟨o266, hL267, hr⟩ := hr
 refine .zU (Q := fun x st' => match (generalizing := false) o266 with | (h_211, h_212, h_213, h_214, h_215, h_216, h_217, h_218, h_219, h_220, h_221, h_222, u_223) => x = .normal /\ Wk 5 st' ⟨mkS 104 0 [(3, .hp 2 0), (4, .hp 3 0), (5, .hp 4 0), (7, .hp 5 0), (8, ae u_223)], [.own [ae p, ae p', ae p'', ae cU, ae bx, bG aP], .own [ae aR], .own [aB aV, au aG, aB aE, au aT], .own [.fn 74 [] []], .own [.fn 73 [] []], .own [aB h_211, au h_212, aB h_213, au h_214, aB h_215, au h_216, aB h_217, au h_218, aB h_219, au h_220, aB h_221, au h_222]]⟩) ?_ ?_
 ·clear hr
  have hr := hL267
  clear hL267
  refine .block ?_
  refine .Bu 4 (UNR.one ?_)
  refine .seq (.r4 G [1, 2, 3, 4, 5, 7, 8, 12, 13] [(14, aB true)] (.seq (.cT (by kernel_rfl) (.skip (.seq (.block (.seq (.r4 G [1, 2, 3, 4, 5, 7, 8, 12, 13] [(9, ae 0), (10, ae t.e0)] (.seq ?_)))))))))
  obtain ⟨hg224, hr⟩ := gd hr
  obtain ⟨v225, hc226, hr⟩ := bd hr
  refine .t1 G (ok0 (fh n (CT ((CT (2 * (gt aP t.e0))) - aR)) 2 v225 hc226)) (.mu 4 (.pure (v := .pp (aP.flatMap (iC .i64)) (t.e0.toNat * 1)) (by kernel_rfl) (tr (ar hg224)) (by kernel_rfl) (.pure (v := ae (gt aP t.e0)) (by kernel_rfl) (tr (aH (aK (aI .i64) (aD hg224) z1 (by omega : t.e0.toNat * 1 = t.e0.toNat * 1 + 0) (by kernel_rfl)))) (by kernel_rfl) (.mu 3 (.ca cf0 (.mu 5 ?_))))))
  refine .done ⟨by kernel_rfl, ?_⟩
  refine .nh [1, 2, 3, 4, 5, 7, 8, 9, 12, 13] [.own [ae p, ae p', ae p'', ae cU, ae bx, bG aP], .own [ae aR], .own [aB aV, au aG, aB aE, au aT], .own [.fn 74 [] []], .own [.fn 73 [] []], .own [ae t.e0, ae t.e1, ae t.e2], .own [aB v225.1.Num.Negative, au v225.1.Num.Groups, aB v225.1.Den.Negative, au v225.1.Den.Groups, aB false, nS, aB false, nS, aB false, nS, aB false, nS]] (.seq ?_)
  obtain ⟨v227, hc228, hr⟩ := bd hr
  refine .g1 G (ok0 (bF n v225.1 v227 hc228)) (.mu 3 (.ca cf0 (.mu 1 (.done (.nh [1, 2, 3, 4, 5, 7, 8, 12, 13, 35] [.own [ae p, ae p', ae p'', ae cU, ae bx, bG aP], .own [ae aR], .own [aB aV, au aG, aB aE, au aT], .own [.fn 74 [] []], .own [.fn 73 [] []], .own [ae t.e0, ae t.e1, ae t.e2], .own [aB v225.1.Num.Negative, au v225.1.Num.Groups, aB v225.1.Den.Negative, au v225.1.Den.Groups, aB false, nS, aB false, nS, aB false, nS, aB false, nS]] ?_)))))
  refine .cd hr ?_ ?_ <;> intro hb229 hr
  ·refine .ru G (.pop (.ru G (UNR.next (.n2 104 [(1, .hp 0 0), (2, .hp 1 0), (3, .hp 2 0), (4, .hp 3 0), (5, .hp 4 0), (7, .hp 6 0), (8, ae 1), (12, .agg [ae t.e0, ae t.e1, ae t.e2]), (13, ae 1)] [.own [ae p, ae p', ae p'', ae cU, ae bx, bG aP], .own [ae aR], .own [aB aV, au aG, aB aE, au aT], .own [.fn 74 [] []], .own [.fn 73 [] []], .own [ae t.e0, ae t.e1, ae t.e2], .own [aB v225.1.Num.Negative, au v225.1.Num.Groups, aB v225.1.Den.Negative, au v225.1.Den.Groups, aB false, nS, aB false, nS, aB false, nS, aB false, nS]] (.seq (.r4 G [1, 2, 3, 4, 5, 7, 8, 12, 13] [(14, aB true)] (.seq (.cT (by kernel_rfl) (.skip (.seq (.block (.seq (.r4 G [1, 2, 3, 4, 5, 7, 8, 12, 13] [(9, ae 1), (10, ae t.e1)] (.seq ?_))))))))))))))
   obtain ⟨hg230, hr⟩ := gd hr
   obtain ⟨v231, hc232, hr⟩ := bd hr
   refine .t1 G (ok0 (fh n (CT ((CT (2 * (gt aP t.e1))) - aR)) 2 v231 hc232)) (.mu 4 (.pure (v := .pp (aP.flatMap (iC .i64)) (t.e1.toNat * 1)) (by kernel_rfl) (tr (ar hg230)) (by kernel_rfl) (.pure (v := ae (gt aP t.e1)) (by kernel_rfl) (tr (aH (aK (aI .i64) (aD hg230) z1 (by omega : t.e1.toNat * 1 = t.e1.toNat * 1 + 0) (by kernel_rfl)))) (by kernel_rfl) (.mu 3 (.ca cf0 (.mu 5 ?_))))))
   refine .done ⟨by kernel_rfl, ?_⟩
   refine .nh [1, 2, 3, 4, 5, 7, 8, 9, 12, 13] [.own [ae p, ae p', ae p'', ae cU, ae bx, bG aP], .own [ae aR], .own [aB aV, au aG, aB aE, au aT], .own [.fn 74 [] []], .own [.fn 73 [] []], .own [ae t.e0, ae t.e1, ae t.e2], .own [aB v225.1.Num.Negative, au v225.1.Num.Groups, aB v225.1.Den.Negative, au v225.1.Den.Groups, aB v231.1.Num.Negative, au v231.1.Num.Groups, aB v231.1.Den.Negative, au v231.1.Den.Groups, aB false, nS, aB false, nS]] (.seq ?_)
   obtain ⟨v233, hc234, hr⟩ := bd hr
   refine .g1 G (ok0 (bF n v231.1 v233 hc234)) (.mu 3 (.ca cf0 (.mu 1 (.done (.nh [1, 2, 3, 4, 5, 7, 8, 12, 13, 35] [.own [ae p, ae p', ae p'', ae cU, ae bx, bG aP], .own [ae aR], .own [aB aV, au aG, aB aE, au aT], .own [.fn 74 [] []], .own [.fn 73 [] []], .own [ae t.e0, ae t.e1, ae t.e2], .own [aB v225.1.Num.Negative, au v225.1.Num.Groups, aB v225.1.Den.Negative, au v225.1.Den.Groups, aB v231.1.Num.Negative, au v231.1.Num.Groups, aB v231.1.Den.Negative, au v231.1.Den.Groups, aB false, nS, aB false, nS]] ?_)))))
   refine .cd hr ?_ ?_ <;> intro hb235 hr
   ·refine .ru G (.pop (.ru G (UNR.next (.n2 104 [(1, .hp 0 0), (2, .hp 1 0), (3, .hp 2 0), (4, .hp 3 0), (5, .hp 4 0), (7, .hp 6 0), (8, ae 2), (12, .agg [ae t.e0, ae t.e1, ae t.e2]), (13, ae 2)] [.own [ae p, ae p', ae p'', ae cU, ae bx, bG aP], .own [ae aR], .own [aB aV, au aG, aB aE, au aT], .own [.fn 74 [] []], .own [.fn 73 [] []], .own [ae t.e0, ae t.e1, ae t.e2], .own [aB v225.1.Num.Negative, au v225.1.Num.Groups, aB v225.1.Den.Negative, au v225.1.Den.Groups, aB v231.1.Num.Negative, au v231.1.Num.Groups, aB v231.1.Den.Negative, au v231.1.Den.Groups, aB false, nS, aB false, nS]] (.seq (.r4 G [1, 2, 3, 4, 5, 7, 8, 12, 13] [(14, aB true)] (.seq (.cT (by kernel_rfl) (.skip (.seq (.block (.seq (.r4 G [1, 2, 3, 4, 5, 7, 8, 12, 13] [(9, ae 2), (10, ae t.e2)] (.seq ?_))))))))))))))
    obtain ⟨hg236, hr⟩ := gd hr
    obtain ⟨v237, hc238, hr⟩ := bd hr
    refine .t1 G (ok0 (fh n (CT ((CT (2 * (gt aP t.e2))) - aR)) 2 v237 hc238)) (.mu 4 (.pure (v := .pp (aP.flatMap (iC .i64)) (t.e2.toNat * 1)) (by kernel_rfl) (tr (ar hg236)) (by kernel_rfl) (.pure (v := ae (gt aP t.e2)) (by kernel_rfl) (tr (aH (aK (aI .i64) (aD hg236) z1 (by omega : t.e2.toNat * 1 = t.e2.toNat * 1 + 0) (by kernel_rfl)))) (by kernel_rfl) (.mu 3 (.ca cf0 (.mu 5 ?_))))))
    refine .done ⟨by kernel_rfl, ?_⟩
    refine .nh [1, 2, 3, 4, 5, 7, 8, 9, 12, 13] [.own [ae p, ae p', ae p'', ae cU, ae bx, bG aP], .own [ae aR], .own [aB aV, au aG, aB aE, au aT], .own [.fn 74 [] []], .own [.fn 73 [] []], .own [ae t.e0, ae t.e1, ae t.e2], .own [aB v225.1.Num.Negative, au v225.1.Num.Groups, aB v225.1.Den.Negative, au v225.1.Den.Groups, aB v231.1.Num.Negative, au v231.1.Num.Groups, aB v231.1.Den.Negative, au v231.1.Den.Groups, aB v237.1.Num.Negative, au v237.1.Num.Groups, aB v237.1.Den.Negative, au v237.1.Den.Groups]] (.seq ?_)
    obtain ⟨v239, hc240, hr⟩ := bd hr
    refine .g1 G (ok0 (bF n v237.1 v239 hc240)) (.mu 3 (.ca cf0 (.mu 1 (.done (.nh [1, 2, 3, 4, 5, 7, 8, 12, 13, 35] [.own [ae p, ae p', ae p'', ae cU, ae bx, bG aP], .own [ae aR], .own [aB aV, au aG, aB aE, au aT], .own [.fn 74 [] []], .own [.fn 73 [] []], .own [ae t.e0, ae t.e1, ae t.e2], .own [aB v225.1.Num.Negative, au v225.1.Num.Groups, aB v225.1.Den.Negative, au v225.1.Den.Groups, aB v231.1.Num.Negative, au v231.1.Num.Groups, aB v231.1.Den.Negative, au v231.1.Den.Groups, aB v237.1.Num.Negative, au v237.1.Num.Groups, aB v237.1.Den.Negative, au v237.1.Den.Groups]] ?_)))))
    refine .cd hr ?_ ?_ <;> intro hb241 hr
    ·refine .ru G (.pop (.ru G (UNR.next (.n2 104 [(1, .hp 0 0), (2, .hp 1 0), (3, .hp 2 0), (4, .hp 3 0), (5, .hp 4 0), (7, .hp 6 0), (8, ae 3), (12, .agg [ae t.e0, ae t.e1, ae t.e2]), (13, ae 3)] [.own [ae p, ae p', ae p'', ae cU, ae bx, bG aP], .own [ae aR], .own [aB aV, au aG, aB aE, au aT], .own [.fn 74 [] []], .own [.fn 73 [] []], .own [ae t.e0, ae t.e1, ae t.e2], .own [aB v225.1.Num.Negative, au v225.1.Num.Groups, aB v225.1.Den.Negative, au v225.1.Den.Groups, aB v231.1.Num.Negative, au v231.1.Num.Groups, aB v231.1.Den.Negative, au v231.1.Den.Groups, aB v237.1.Num.Negative, au v237.1.Num.Groups, aB v237.1.Den.Negative, au v237.1.Den.Groups]] (.seq (.r4 G [1, 2, 3, 4, 5, 7, 8, 12, 13] [(14, aB false)] (.seq (.cF (by kernel_rfl) (.leave rfl (unF.exit rfl ?_))))))))))
     obtain rfl := oi hr
     exact ⟨rfl, ((Wk.gc [3, 4, 5, 7, 8] [(0, true), (1, true), (2, true), (3, true), (4, true), (6, true)] rfl trivial).to)⟩
    refine .skip (.pop (.ru G (UNR.next (.n2 104 [(1, .hp 0 0), (2, .hp 1 0), (3, .hp 2 0), (4, .hp 3 0), (5, .hp 4 0), (7, .hp 6 0), (8, ae 2), (12, .agg [ae t.e0, ae t.e1, ae t.e2]), (13, ae 3)] [.own [ae p, ae p', ae p'', ae cU, ae bx, bG aP], .own [ae aR], .own [aB aV, au aG, aB aE, au aT], .own [.fn 74 [] []], .own [.fn 73 [] []], .own [ae t.e0, ae t.e1, ae t.e2], .own [aB v225.1.Num.Negative, au v225.1.Num.Groups, aB v225.1.Den.Negative, au v225.1.Den.Groups, aB v231.1.Num.Negative, au v231.1.Num.Groups, aB v231.1.Den.Negative, au v231.1.Den.Groups, aB v237.1.Num.Negative, au v237.1.Num.Groups, aB v237.1.Den.Negative, au v237.1.Den.Groups]] (.seq (.r4 G [1, 2, 3, 4, 5, 7, 8, 12, 13] [(14, aB false)] (.seq (.cF (by kernel_rfl) (.leave rfl (unF.exit rfl ?_))))))))))
    obtain rfl := oi hr
    exact ⟨rfl, ((Wk.gc [3, 4, 5, 7, 8] [(0, true), (1, true), (2, true), (3, true), (4, true), (6, true)] rfl trivial).to)⟩
   refine .skip (.pop (.ru G (UNR.next (.n2 104 [(1, .hp 0 0), (2, .hp 1 0), (3, .hp 2 0), (4, .hp 3 0), (5, .hp 4 0), (7, .hp 6 0), (8, ae 1), (12, .agg [ae t.e0, ae t.e1, ae t.e2]), (13, ae 2)] [.own [ae p, ae p', ae p'', ae cU, ae bx, bG aP], .own [ae aR], .own [aB aV, au aG, aB aE, au aT], .own [.fn 74 [] []], .own [.fn 73 [] []], .own [ae t.e0, ae t.e1, ae t.e2], .own [aB v225.1.Num.Negative, au v225.1.Num.Groups, aB v225.1.Den.Negative, au v225.1.Den.Groups, aB v231.1.Num.Negative, au v231.1.Num.Groups, aB v231.1.Den.Negative, au v231.1.Den.Groups, aB false, nS, aB false, nS]] (.seq (.r4 G [1, 2, 3, 4, 5, 7, 8, 12, 13] [(14, aB true)] (.seq (.cT (by kernel_rfl) (.skip (.seq (.block (.seq (.r4 G [1, 2, 3, 4, 5, 7, 8, 12, 13] [(9, ae 2), (10, ae t.e2)] (.seq ?_))))))))))))))
   obtain ⟨hg242, hr⟩ := gd hr
   obtain ⟨v243, hc244, hr⟩ := bd hr
   refine .t1 G (ok0 (fh n (CT ((CT (2 * (gt aP t.e2))) - aR)) 2 v243 hc244)) (.mu 4 (.pure (v := .pp (aP.flatMap (iC .i64)) (t.e2.toNat * 1)) (by kernel_rfl) (tr (ar hg242)) (by kernel_rfl) (.pure (v := ae (gt aP t.e2)) (by kernel_rfl) (tr (aH (aK (aI .i64) (aD hg242) z1 (by omega : t.e2.toNat * 1 = t.e2.toNat * 1 + 0) (by kernel_rfl)))) (by kernel_rfl) (.mu 3 (.ca cf0 (.mu 5 ?_))))))
   refine .done ⟨by kernel_rfl, ?_⟩
   refine .nh [1, 2, 3, 4, 5, 7, 8, 9, 12, 13] [.own [ae p, ae p', ae p'', ae cU, ae bx, bG aP], .own [ae aR], .own [aB aV, au aG, aB aE, au aT], .own [.fn 74 [] []], .own [.fn 73 [] []], .own [ae t.e0, ae t.e1, ae t.e2], .own [aB v225.1.Num.Negative, au v225.1.Num.Groups, aB v225.1.Den.Negative, au v225.1.Den.Groups, aB v231.1.Num.Negative, au v231.1.Num.Groups, aB v231.1.Den.Negative, au v231.1.Den.Groups, aB v243.1.Num.Negative, au v243.1.Num.Groups, aB v243.1.Den.Negative, au v243.1.Den.Groups]] (.seq ?_)
   obtain ⟨v245, hc246, hr⟩ := bd hr
   refine .g1 G (ok0 (bF n v243.1 v245 hc246)) (.mu 3 (.ca cf0 (.mu 1 (.done (.nh [1, 2, 3, 4, 5, 7, 8, 12, 13, 35] [.own [ae p, ae p', ae p'', ae cU, ae bx, bG aP], .own [ae aR], .own [aB aV, au aG, aB aE, au aT], .own [.fn 74 [] []], .own [.fn 73 [] []], .own [ae t.e0, ae t.e1, ae t.e2], .own [aB v225.1.Num.Negative, au v225.1.Num.Groups, aB v225.1.Den.Negative, au v225.1.Den.Groups, aB v231.1.Num.Negative, au v231.1.Num.Groups, aB v231.1.Den.Negative, au v231.1.Den.Groups, aB v243.1.Num.Negative, au v243.1.Num.Groups, aB v243.1.Den.Negative, au v243.1.Den.Groups]] ?_)))))
   refine .cd hr ?_ ?_ <;> intro hb247 hr
   ·refine .ru G (.pop (.ru G (UNR.next (.n2 104 [(1, .hp 0 0), (2, .hp 1 0), (3, .hp 2 0), (4, .hp 3 0), (5, .hp 4 0), (7, .hp 6 0), (8, ae 2), (12, .agg [ae t.e0, ae t.e1, ae t.e2]), (13, ae 3)] [.own [ae p, ae p', ae p'', ae cU, ae bx, bG aP], .own [ae aR], .own [aB aV, au aG, aB aE, au aT], .own [.fn 74 [] []], .own [.fn 73 [] []], .own [ae t.e0, ae t.e1, ae t.e2], .own [aB v225.1.Num.Negative, au v225.1.Num.Groups, aB v225.1.Den.Negative, au v225.1.Den.Groups, aB v231.1.Num.Negative, au v231.1.Num.Groups, aB v231.1.Den.Negative, au v231.1.Den.Groups, aB v243.1.Num.Negative, au v243.1.Num.Groups, aB v243.1.Den.Negative, au v243.1.Den.Groups]] (.seq (.r4 G [1, 2, 3, 4, 5, 7, 8, 12, 13] [(14, aB false)] (.seq (.cF (by kernel_rfl) (.leave rfl (unF.exit rfl ?_))))))))))
    obtain rfl := oi hr
    exact ⟨rfl, ((Wk.gc [3, 4, 5, 7, 8] [(0, true), (1, true), (2, true), (3, true), (4, true), (6, true)] rfl trivial).to)⟩
   refine .skip (.pop (.ru G (UNR.next (.n2 104 [(1, .hp 0 0), (2, .hp 1 0), (3, .hp 2 0), (4, .hp 3 0), (5, .hp 4 0), (7, .hp 6 0), (8, ae 1), (12, .agg [ae t.e0, ae t.e1, ae t.e2]), (13, ae 3)] [.own [ae p, ae p', ae p'', ae cU, ae bx, bG aP], .own [ae aR], .own [aB aV, au aG, aB aE, au aT], .own [.fn 74 [] []], .own [.fn 73 [] []], .own [ae t.e0, ae t.e1, ae t.e2], .own [aB v225.1.Num.Negative, au v225.1.Num.Groups, aB v225.1.Den.Negative, au v225.1.Den.Groups, aB v231.1.Num.Negative, au v231.1.Num.Groups, aB v231.1.Den.Negative, au v231.1.Den.Groups, aB v243.1.Num.Negative, au v243.1.Num.Groups, aB v243.1.Den.Negative, au v243.1.Den.Groups]] (.seq (.r4 G [1, 2, 3, 4, 5, 7, 8, 12, 13] [(14, aB false)] (.seq (.cF (by kernel_rfl) (.leave rfl (unF.exit rfl ?_))))))))))
   obtain rfl := oi hr
   exact ⟨rfl, ((Wk.gc [3, 4, 5, 7, 8] [(0, true), (1, true), (2, true), (3, true), (4, true), (6, true)] rfl trivial).to)⟩
  refine .skip (.pop (.ru G (UNR.next (.n2 104 [(1, .hp 0 0), (2, .hp 1 0), (3, .hp 2 0), (4, .hp 3 0), (5, .hp 4 0), (7, .hp 6 0), (8, ae 0), (12, .agg [ae t.e0, ae t.e1, ae t.e2]), (13, ae 1)] [.own [ae p, ae p', ae p'', ae cU, ae bx, bG aP], .own [ae aR], .own [aB aV, au aG, aB aE, au aT], .own [.fn 74 [] []], .own [.fn 73 [] []], .own [ae t.e0, ae t.e1, ae t.e2], .own [aB v225.1.Num.Negative, au v225.1.Num.Groups, aB v225.1.Den.Negative, au v225.1.Den.Groups, aB false, nS, aB false, nS, aB false, nS, aB false, nS]] (.seq (.r4 G [1, 2, 3, 4, 5, 7, 8, 12, 13] [(14, aB true)] (.seq (.cT (by kernel_rfl) (.skip (.seq (.block (.seq (.r4 G [1, 2, 3, 4, 5, 7, 8, 12, 13] [(9, ae 1), (10, ae t.e1)] (.seq ?_))))))))))))))
  obtain ⟨hg248, hr⟩ := gd hr
  obtain ⟨v249, hc250, hr⟩ := bd hr
  refine .t1 G (ok0 (fh n (CT ((CT (2 * (gt aP t.e1))) - aR)) 2 v249 hc250)) (.mu 4 (.pure (v := .pp (aP.flatMap (iC .i64)) (t.e1.toNat * 1)) (by kernel_rfl) (tr (ar hg248)) (by kernel_rfl) (.pure (v := ae (gt aP t.e1)) (by kernel_rfl) (tr (aH (aK (aI .i64) (aD hg248) z1 (by omega : t.e1.toNat * 1 = t.e1.toNat * 1 + 0) (by kernel_rfl)))) (by kernel_rfl) (.mu 3 (.ca cf0 (.mu 5 ?_))))))
  refine .done ⟨by kernel_rfl, ?_⟩
  refine .nh [1, 2, 3, 4, 5, 7, 8, 9, 12, 13] [.own [ae p, ae p', ae p'', ae cU, ae bx, bG aP], .own [ae aR], .own [aB aV, au aG, aB aE, au aT], .own [.fn 74 [] []], .own [.fn 73 [] []], .own [ae t.e0, ae t.e1, ae t.e2], .own [aB v225.1.Num.Negative, au v225.1.Num.Groups, aB v225.1.Den.Negative, au v225.1.Den.Groups, aB v249.1.Num.Negative, au v249.1.Num.Groups, aB v249.1.Den.Negative, au v249.1.Den.Groups, aB false, nS, aB false, nS]] (.seq ?_)
  obtain ⟨v251, hc252, hr⟩ := bd hr
  refine .g1 G (ok0 (bF n v249.1 v251 hc252)) (.mu 3 (.ca cf0 (.mu 1 (.done (.nh [1, 2, 3, 4, 5, 7, 8, 12, 13, 35] [.own [ae p, ae p', ae p'', ae cU, ae bx, bG aP], .own [ae aR], .own [aB aV, au aG, aB aE, au aT], .own [.fn 74 [] []], .own [.fn 73 [] []], .own [ae t.e0, ae t.e1, ae t.e2], .own [aB v225.1.Num.Negative, au v225.1.Num.Groups, aB v225.1.Den.Negative, au v225.1.Den.Groups, aB v249.1.Num.Negative, au v249.1.Num.Groups, aB v249.1.Den.Negative, au v249.1.Den.Groups, aB false, nS, aB false, nS]] ?_)))))
  refine .cd hr ?_ ?_ <;> intro hb253 hr
  ·refine .ru G (.pop (.ru G (UNR.next (.n2 104 [(1, .hp 0 0), (2, .hp 1 0), (3, .hp 2 0), (4, .hp 3 0), (5, .hp 4 0), (7, .hp 6 0), (8, ae 1), (12, .agg [ae t.e0, ae t.e1, ae t.e2]), (13, ae 2)] [.own [ae p, ae p', ae p'', ae cU, ae bx, bG aP], .own [ae aR], .own [aB aV, au aG, aB aE, au aT], .own [.fn 74 [] []], .own [.fn 73 [] []], .own [ae t.e0, ae t.e1, ae t.e2], .own [aB v225.1.Num.Negative, au v225.1.Num.Groups, aB v225.1.Den.Negative, au v225.1.Den.Groups, aB v249.1.Num.Negative, au v249.1.Num.Groups, aB v249.1.Den.Negative, au v249.1.Den.Groups, aB false, nS, aB false, nS]] (.seq (.r4 G [1, 2, 3, 4, 5, 7, 8, 12, 13] [(14, aB true)] (.seq (.cT (by kernel_rfl) (.skip (.seq (.block (.seq (.r4 G [1, 2, 3, 4, 5, 7, 8, 12, 13] [(9, ae 2), (10, ae t.e2)] (.seq ?_))))))))))))))
   obtain ⟨hg254, hr⟩ := gd hr
   obtain ⟨v255, hc256, hr⟩ := bd hr
   refine .t1 G (ok0 (fh n (CT ((CT (2 * (gt aP t.e2))) - aR)) 2 v255 hc256)) (.mu 4 (.pure (v := .pp (aP.flatMap (iC .i64)) (t.e2.toNat * 1)) (by kernel_rfl) (tr (ar hg254)) (by kernel_rfl) (.pure (v := ae (gt aP t.e2)) (by kernel_rfl) (tr (aH (aK (aI .i64) (aD hg254) z1 (by omega : t.e2.toNat * 1 = t.e2.toNat * 1 + 0) (by kernel_rfl)))) (by kernel_rfl) (.mu 3 (.ca cf0 (.mu 5 ?_))))))
   refine .done ⟨by kernel_rfl, ?_⟩
   refine .nh [1, 2, 3, 4, 5, 7, 8, 9, 12, 13] [.own [ae p, ae p', ae p'', ae cU, ae bx, bG aP], .own [ae aR], .own [aB aV, au aG, aB aE, au aT], .own [.fn 74 [] []], .own [.fn 73 [] []], .own [ae t.e0, ae t.e1, ae t.e2], .own [aB v225.1.Num.Negative, au v225.1.Num.Groups, aB v225.1.Den.Negative, au v225.1.Den.Groups, aB v249.1.Num.Negative, au v249.1.Num.Groups, aB v249.1.Den.Negative, au v249.1.Den.Groups, aB v255.1.Num.Negative, au v255.1.Num.Groups, aB v255.1.Den.Negative, au v255.1.Den.Groups]] (.seq ?_)
   obtain ⟨v257, hc258, hr⟩ := bd hr
   refine .g1 G (ok0 (bF n v255.1 v257 hc258)) (.mu 3 (.ca cf0 (.mu 1 (.done (.nh [1, 2, 3, 4, 5, 7, 8, 12, 13, 35] [.own [ae p, ae p', ae p'', ae cU, ae bx, bG aP], .own [ae aR], .own [aB aV, au aG, aB aE, au aT], .own [.fn 74 [] []], .own [.fn 73 [] []], .own [ae t.e0, ae t.e1, ae t.e2], .own [aB v225.1.Num.Negative, au v225.1.Num.Groups, aB v225.1.Den.Negative, au v225.1.Den.Groups, aB v249.1.Num.Negative, au v249.1.Num.Groups, aB v249.1.Den.Negative, au v249.1.Den.Groups, aB v255.1.Num.Negative, au v255.1.Num.Groups, aB v255.1.Den.Negative, au v255.1.Den.Groups]] ?_)))))
   refine .cd hr ?_ ?_ <;> intro hb259 hr
   ·refine .ru G (.pop (.ru G (UNR.next (.n2 104 [(1, .hp 0 0), (2, .hp 1 0), (3, .hp 2 0), (4, .hp 3 0), (5, .hp 4 0), (7, .hp 6 0), (8, ae 2), (12, .agg [ae t.e0, ae t.e1, ae t.e2]), (13, ae 3)] [.own [ae p, ae p', ae p'', ae cU, ae bx, bG aP], .own [ae aR], .own [aB aV, au aG, aB aE, au aT], .own [.fn 74 [] []], .own [.fn 73 [] []], .own [ae t.e0, ae t.e1, ae t.e2], .own [aB v225.1.Num.Negative, au v225.1.Num.Groups, aB v225.1.Den.Negative, au v225.1.Den.Groups, aB v249.1.Num.Negative, au v249.1.Num.Groups, aB v249.1.Den.Negative, au v249.1.Den.Groups, aB v255.1.Num.Negative, au v255.1.Num.Groups, aB v255.1.Den.Negative, au v255.1.Den.Groups]] (.seq (.r4 G [1, 2, 3, 4, 5, 7, 8, 12, 13] [(14, aB false)] (.seq (.cF (by kernel_rfl) (.leave rfl (unF.exit rfl ?_))))))))))
    obtain rfl := oi hr
    exact ⟨rfl, ((Wk.gc [3, 4, 5, 7, 8] [(0, true), (1, true), (2, true), (3, true), (4, true), (6, true)] rfl trivial).to)⟩
   refine .skip (.pop (.ru G (UNR.next (.n2 104 [(1, .hp 0 0), (2, .hp 1 0), (3, .hp 2 0), (4, .hp 3 0), (5, .hp 4 0), (7, .hp 6 0), (8, ae 1), (12, .agg [ae t.e0, ae t.e1, ae t.e2]), (13, ae 3)] [.own [ae p, ae p', ae p'', ae cU, ae bx, bG aP], .own [ae aR], .own [aB aV, au aG, aB aE, au aT], .own [.fn 74 [] []], .own [.fn 73 [] []], .own [ae t.e0, ae t.e1, ae t.e2], .own [aB v225.1.Num.Negative, au v225.1.Num.Groups, aB v225.1.Den.Negative, au v225.1.Den.Groups, aB v249.1.Num.Negative, au v249.1.Num.Groups, aB v249.1.Den.Negative, au v249.1.Den.Groups, aB v255.1.Num.Negative, au v255.1.Num.Groups, aB v255.1.Den.Negative, au v255.1.Den.Groups]] (.seq (.r4 G [1, 2, 3, 4, 5, 7, 8, 12, 13] [(14, aB false)] (.seq (.cF (by kernel_rfl) (.leave rfl (unF.exit rfl ?_))))))))))
   obtain rfl := oi hr
   exact ⟨rfl, ((Wk.gc [3, 4, 5, 7, 8] [(0, true), (1, true), (2, true), (3, true), (4, true), (6, true)] rfl trivial).to)⟩
  refine .skip (.pop (.ru G (UNR.next (.n2 104 [(1, .hp 0 0), (2, .hp 1 0), (3, .hp 2 0), (4, .hp 3 0), (5, .hp 4 0), (7, .hp 6 0), (8, ae 0), (12, .agg [ae t.e0, ae t.e1, ae t.e2]), (13, ae 2)] [.own [ae p, ae p', ae p'', ae cU, ae bx, bG aP], .own [ae aR], .own [aB aV, au aG, aB aE, au aT], .own [.fn 74 [] []], .own [.fn 73 [] []], .own [ae t.e0, ae t.e1, ae t.e2], .own [aB v225.1.Num.Negative, au v225.1.Num.Groups, aB v225.1.Den.Negative, au v225.1.Den.Groups, aB v249.1.Num.Negative, au v249.1.Num.Groups, aB v249.1.Den.Negative, au v249.1.Den.Groups, aB false, nS, aB false, nS]] (.seq (.r4 G [1, 2, 3, 4, 5, 7, 8, 12, 13] [(14, aB true)] (.seq (.cT (by kernel_rfl) (.skip (.seq (.block (.seq (.r4 G [1, 2, 3, 4, 5, 7, 8, 12, 13] [(9, ae 2), (10, ae t.e2)] (.seq ?_))))))))))))))
  obtain ⟨hg260, hr⟩ := gd hr
  obtain ⟨v261, hc262, hr⟩ := bd hr
  refine .t1 G (ok0 (fh n (CT ((CT (2 * (gt aP t.e2))) - aR)) 2 v261 hc262)) (.mu 4 (.pure (v := .pp (aP.flatMap (iC .i64)) (t.e2.toNat * 1)) (by kernel_rfl) (tr (ar hg260)) (by kernel_rfl) (.pure (v := ae (gt aP t.e2)) (by kernel_rfl) (tr (aH (aK (aI .i64) (aD hg260) z1 (by omega : t.e2.toNat * 1 = t.e2.toNat * 1 + 0) (by kernel_rfl)))) (by kernel_rfl) (.mu 3 (.ca cf0 (.mu 5 ?_))))))
  refine .done ⟨by kernel_rfl, ?_⟩
  refine .nh [1, 2, 3, 4, 5, 7, 8, 9, 12, 13] [.own [ae p, ae p', ae p'', ae cU, ae bx, bG aP], .own [ae aR], .own [aB aV, au aG, aB aE, au aT], .own [.fn 74 [] []], .own [.fn 73 [] []], .own [ae t.e0, ae t.e1, ae t.e2], .own [aB v225.1.Num.Negative, au v225.1.Num.Groups, aB v225.1.Den.Negative, au v225.1.Den.Groups, aB v249.1.Num.Negative, au v249.1.Num.Groups, aB v249.1.Den.Negative, au v249.1.Den.Groups, aB v261.1.Num.Negative, au v261.1.Num.Groups, aB v261.1.Den.Negative, au v261.1.Den.Groups]] (.seq ?_)
  obtain ⟨v263, hc264, hr⟩ := bd hr
  refine .g1 G (ok0 (bF n v261.1 v263 hc264)) (.mu 3 (.ca cf0 (.mu 1 (.done (.nh [1, 2, 3, 4, 5, 7, 8, 12, 13, 35] [.own [ae p, ae p', ae p'', ae cU, ae bx, bG aP], .own [ae aR], .own [aB aV, au aG, aB aE, au aT], .own [.fn 74 [] []], .own [.fn 73 [] []], .own [ae t.e0, ae t.e1, ae t.e2], .own [aB v225.1.Num.Negative, au v225.1.Num.Groups, aB v225.1.Den.Negative, au v225.1.Den.Groups, aB v249.1.Num.Negative, au v249.1.Num.Groups, aB v249.1.Den.Negative, au v249.1.Den.Groups, aB v261.1.Num.Negative, au v261.1.Num.Groups, aB v261.1.Den.Negative, au v261.1.Den.Groups]] ?_)))))
  refine .cd hr ?_ ?_ <;> intro hb265 hr
  ·refine .ru G (.pop (.ru G (UNR.next (.n2 104 [(1, .hp 0 0), (2, .hp 1 0), (3, .hp 2 0), (4, .hp 3 0), (5, .hp 4 0), (7, .hp 6 0), (8, ae 1), (12, .agg [ae t.e0, ae t.e1, ae t.e2]), (13, ae 3)] [.own [ae p, ae p', ae p'', ae cU, ae bx, bG aP], .own [ae aR], .own [aB aV, au aG, aB aE, au aT], .own [.fn 74 [] []], .own [.fn 73 [] []], .own [ae t.e0, ae t.e1, ae t.e2], .own [aB v225.1.Num.Negative, au v225.1.Num.Groups, aB v225.1.Den.Negative, au v225.1.Den.Groups, aB v249.1.Num.Negative, au v249.1.Num.Groups, aB v249.1.Den.Negative, au v249.1.Den.Groups, aB v261.1.Num.Negative, au v261.1.Num.Groups, aB v261.1.Den.Negative, au v261.1.Den.Groups]] (.seq (.r4 G [1, 2, 3, 4, 5, 7, 8, 12, 13] [(14, aB false)] (.seq (.cF (by kernel_rfl) (.leave rfl (unF.exit rfl ?_))))))))))
   obtain rfl := oi hr
   exact ⟨rfl, ((Wk.gc [3, 4, 5, 7, 8] [(0, true), (1, true), (2, true), (3, true), (4, true), (6, true)] rfl trivial).to)⟩
  refine .skip (.pop (.ru G (UNR.next (.n2 104 [(1, .hp 0 0), (2, .hp 1 0), (3, .hp 2 0), (4, .hp 3 0), (5, .hp 4 0), (7, .hp 6 0), (8, ae 0), (12, .agg [ae t.e0, ae t.e1, ae t.e2]), (13, ae 3)] [.own [ae p, ae p', ae p'', ae cU, ae bx, bG aP], .own [ae aR], .own [aB aV, au aG, aB aE, au aT], .own [.fn 74 [] []], .own [.fn 73 [] []], .own [ae t.e0, ae t.e1, ae t.e2], .own [aB v225.1.Num.Negative, au v225.1.Num.Groups, aB v225.1.Den.Negative, au v225.1.Den.Groups, aB v249.1.Num.Negative, au v249.1.Num.Groups, aB v249.1.Den.Negative, au v249.1.Den.Groups, aB v261.1.Num.Negative, au v261.1.Num.Groups, aB v261.1.Den.Negative, au v261.1.Den.Groups]] (.seq (.r4 G [1, 2, 3, 4, 5, 7, 8, 12, 13] [(14, aB false)] (.seq (.cF (by kernel_rfl) (.leave rfl (unF.exit rfl ?_))))))))))
  obtain rfl := oi hr
  exact ⟨rfl, ((Wk.gc [3, 4, 5, 7, 8] [(0, true), (1, true), (2, true), (3, true), (4, true), (6, true)] rfl trivial).to)⟩
 rcases o266 with ⟨h_211, h_212, h_213, h_214, h_215, h_216, h_217, h_218, h_219, h_220, h_221, h_222, u_223⟩
 rintro x st' hq268
 clear hL267
 obtain ⟨rfl, hq268⟩ := hq268
 refine .wk hq268 (.seq (.seq (.r4 G [3, 4, 5, 7, 8] [(39, ae u_223)] (.block (.seq (.r4 G [3, 4, 5, 7, 8, 39] [(40, aB ((u_223 : Int) == 0))] ?_))))))
 refine .cd hr ?_ ?_ <;> intro hb285 hr
 ·refine .ret ?_
  obtain rfl := oi hr
  exact eE.ret [] ((Wk.gc [] kT5 rfl trivial).to)
 refine .seq (.r4 G [3, 4, 5, 7, 8] [(42, aB ((u_223 : Int) == 3))] ?_)
 refine .cd hr ?_ ?_ <;> intro hb293 hr
 ·refine .seq ?_
  obtain ⟨v294, hc295, v296, hc297, v298, hc299, hr⟩ := bd3 hr
  refine .tn G (ca1 (ok0 (dG n 0 v294 hc295)) (ca1 (ok0 (na n (ak.mk (ai.mk h_211 h_212) (ai.mk h_213 h_214)) (ak.mk (ai.mk h_215 h_216) (ai.mk h_217 h_218)) (ak.mk (ai.mk h_219 h_220) (ai.mk h_221 h_222)) v294 v296 hc297)) (ca3 (ok0 (gR n (ak.mk (ai.mk aV aG) (ai.mk aE aT)) v296 v298 hc299))))) (.mu 8 (.ca cf0 (.ca (cfF cf0) (.ca (cfF (cfF cf0)) (.mu 1 ?_)))))
  refine .done ⟨by kernel_rfl, ?_⟩
  refine .nh [] [.own [ae p, ae p', ae p'', ae cU, ae bx, bG aP], .own [ae aR], .own (ak.c v298), .own [.fn 74 [] []], .own [.fn 73 [] []], .own [aB h_211, au h_212, aB h_213, au h_214, aB h_215, au h_216, aB h_217, au h_218, aB h_219, au h_220, aB h_221, au h_222]] (.ret ?_)
  obtain rfl := oi hr
  exact eE.ret [] ((Wk.gc [] kT5 rfl trivial).to)
 refine .skip (.pop (.seq (.block ?_)))
 replace hr := bd hr; obtain ⟨o405, hL406, hr⟩ := hr
 refine .aO (σ := fun z0 => match z0 with | (h_354, h_355, h_356, h_357, h_358, h_359, h_360, h_361, h_362, h_363, h_364, h_365) => ⟨mkS 104 0 [(3, .hp 2 0), (4, .hp 3 0), (5, .hp 4 0), (7, .hp 5 0), (8, ae u_223)], [.own [ae p, ae p', ae p'', ae cU, ae bx, bG aP], .own [ae aR], .own [aB aV, au aG, aB aE, au aT], .own [.fn 74 [] []], .own [.fn 73 [] []], .own [aB h_354, au h_355, aB h_356, au h_357, aB h_358, au h_359, aB h_360, au h_361, aB h_362, au h_363, aB h_364, au h_365]]⟩) (Q := fun x st' => match (generalizing := false) o405 with | (h_379, h_380, h_381, h_382, h_383, h_384, h_385, h_386, h_387, h_388, h_389, h_390) => x = .exit 3 /\ Wk 5 st' ⟨mkS 104 0 [(3, .hp 2 0), (4, .hp 3 0), (5, .hp 4 0), (7, .hp 5 0), (8, ae u_223)], [.own [ae p, ae p', ae p'', ae cU, ae bx, bG aP], .own [ae aR], .own [aB aV, au aG, aB aE, au aT], .own [.fn 74 [] []], .own [.fn 73 [] []], .own [aB h_379, au h_380, aB h_381, au h_382, aB h_383, au h_384, aB h_385, au h_386, aB h_387, au h_388, aB h_389, au h_390]]⟩) hL406 ((Wk.gc [3, 4, 5, 7, 8] kT6 rfl trivial).to) ?_ ?_
 ·clear hr
  rintro m ⟨h_354, h_355, h_356, h_357, h_358, h_359, h_360, h_361, h_362, h_363, h_364, h_365⟩ hr
  show CQ _ _ _ _ _ ⟨_, _⟩
  refine .seq (.seq ?_)
  replace hr := bd hr; obtain ⟨o402, hL403, hr⟩ := hr
  refine .Cn (Q := fun x st' => match (generalizing := false) o402 with | .inl _ => x = .exit 3 /\ Wk 5 st' ⟨mkS 104 0 [(3, .hp 2 0), (4, .hp 3 0), (5, .hp 4 0), (7, .hp 5 0), (8, ae u_223)], [.own [ae p, ae p', ae p'', ae cU, ae bx, bG aP], .own [ae aR], .own [aB aV, au aG, aB aE, au aT], .own [.fn 74 [] []], .own [.fn 73 [] []], .own [aB h_354, au h_355, aB h_356, au h_357, aB h_358, au h_359, aB h_360, au h_361, aB h_362, au h_363, aB h_364, au h_365]]⟩ | .inr (_) => x = .normal /\ Wk 5 st' ⟨mkS 104 0 [(3, .hp 2 0), (4, .hp 3 0), (5, .hp 4 0), (7, .hp 5 0), (8, ae u_223)], [.own [ae p, ae p', ae p'', ae cU, ae bx, bG aP], .own [ae aR], .own [aB aV, au aG, aB aE, au aT], .own [.fn 74 [] []], .own [.fn 73 [] []], .own [aB h_354, au h_355, aB h_356, au h_357, aB h_358, au h_359, aB h_360, au h_361, aB h_362, au h_363, aB h_364, au h_365]]⟩) ?_ ?_
  ·clear hr
   have hr := hL403
   clear hL403
   obtain ⟨v394, hc395, hr⟩ := bd hr
   rcases bT ((decide (v394 > 0)) != ((u_223 : Int) == 1)) with hb396 | hb396
   ·replace hr := cy hb396 hr
    refine .t1 G (ok0 (bF n (ak.mk (ai.mk h_354 h_355) (ai.mk h_356 h_357)) v394 hc395)) (.mu 2 (.ca cf0 (.mu 3 (.pure (v := aB true) (by kernel_rfl) (eB hb396) (by kernel_rfl) (.mu 11 ?_)))))
    refine .done ⟨by kernel_rfl, ?_⟩
    refine .nh [3, 4, 5, 7, 8, 72] [.own [ae p, ae p', ae p'', ae cU, ae bx, bG aP], .own [ae aR], .own [aB aV, au aG, aB aE, au aT], .own [.fn 74 [] []], .own [.fn 73 [] []], .own [aB h_354, au h_355, aB h_356, au h_357, aB h_358, au h_359, aB h_360, au h_361, aB h_362, au h_363, aB h_364, au h_365]] (.cT (by kernel_rfl) (.skip ?_))
    obtain rfl := oi hr
    exact ⟨rfl, ((Wk.gc [3, 4, 5, 7, 8] kT6 rfl trivial).to)⟩
   replace hr := cA hb396 hr
   obtain ⟨v397, hc398, v399, hc400, hr⟩ := bd2 hr
   refine .tn G (ca1 (ok0 (bF n (ak.mk (ai.mk h_354 h_355) (ai.mk h_356 h_357)) v394 hc395)) (ca1 (ok0 (bF n (ak.mk (ai.mk h_358 h_359) (ai.mk h_360 h_361)) v397 hc398)) (ca3 (ok0 (bF n (ak.mk (ai.mk h_362 h_363) (ai.mk h_364 h_365)) v399 hc400))))) (.mu 2 (.ca cf0 (.mu 3 (.pure (v := aB false) (by kernel_rfl) (eB hb396) (by kernel_rfl) (.mu 3 (.ca (cfA (fun h => by rw [sv hc398 hc395 (jX n h)]) cf0) (.mu 3 (.ca (cfA (fun h => by rw [sv hc400 hc395 (jX n h)]) (cfA (fun h => by rw [sv hc400 hc398 (jX n h)]) cf0)) (.mu 3 ?_)))))))))
   refine .done ⟨by kernel_rfl, ?_⟩
   refine .nh [3, 4, 5, 7, 8, 72] [.own [ae p, ae p', ae p'', ae cU, ae bx, bG aP], .own [ae aR], .own [aB aV, au aG, aB aE, au aT], .own [.fn 74 [] []], .own [.fn 73 [] []], .own [aB h_354, au h_355, aB h_356, au h_357, aB h_358, au h_359, aB h_360, au h_361, aB h_362, au h_363, aB h_364, au h_365]] ?_
   refine .cd hr ?_ ?_ <;> intro hb401 hr
   ·refine .skip ?_
    obtain rfl := oi hr
    exact ⟨rfl, ((Wk.gc [3, 4, 5, 7, 8] kT6 rfl trivial).to)⟩
   refine .leave rfl ?_
   obtain rfl := oi hr
   exact ⟨rfl, ((Wk.gc [3, 4, 5, 7, 8] kT6 rfl trivial).to)⟩
  rcases o402 with ⟨⟩ | ⟨⟩
  ·rintro x st' hq404
   clear hL403
   obtain ⟨rfl, hq404⟩ := hq404
   refine we _ rfl ?_
   obtain rfl := oi hr
   exact ⟨rfl, (hq404.trans ((Wk.gc [3, 4, 5, 7, 8] kT6 rfl trivial).to))⟩
  rintro x st' hq404
  clear hL403
  obtain ⟨rfl, hq404⟩ := hq404
  refine .wk hq404 (.block (.ru G (.pop ?_)))
  exact aA (h_358, h_359, h_360, h_361, h_362, h_363, h_364, h_365, h_354, h_355, h_356, h_357) hr ((Wk.gc [3, 4, 5, 7, 8] kT6 rfl trivial).to)
 rcases o405 with ⟨h_379, h_380, h_381, h_382, h_383, h_384, h_385, h_386, h_387, h_388, h_389, h_390⟩
 rintro x st' hq407
 clear hL406
 obtain ⟨rfl, hq407⟩ := hq407
 refine a9 _ rfl (.wk hq407 (.seq ?_))
 obtain ⟨v408, hc409, hr⟩ := bd hr
 refine .g1 G (ok0 (s9 n (ak.mk (ai.mk h_379 h_380) (ai.mk h_381 h_382)) (ak.mk (ai.mk h_383 h_384) (ai.mk h_385 h_386)) (ak.mk (ai.mk h_387 h_388) (ai.mk h_389 h_390)) v408 hc409)) (.mu 7 (.ca cf0 (.mu 2 (.done (.nh [3, 4, 7, 8, 11] [.own [ae p, ae p', ae p'', ae cU, ae bx, bG aP], .own [ae aR], .own [aB aV, au aG, aB aE, au aT], .own [.fn 74 [] []], .own [.fn 73 [] []], .own [aB h_379, au h_380, aB h_381, au h_382, aB h_383, au h_384, aB h_385, au h_386, aB h_387, au h_388, aB h_389, au h_390], .own (ak.c v408)] (.seq (.seq (.r4 G [3, 4, 7, 11] [(91, aB ((u_223 : Int) == 2))] ?_))))))))
 refine .cd hr ?_ ?_ <;> intro hb410 hr
 ·obtain ⟨v411, hc412, hr⟩ := bd hr
  refine .g1 G (ok0 (na n (ak.mk (ai.mk h_379 h_380) (ai.mk h_381 h_382)) (ak.mk (ai.mk h_383 h_384) (ai.mk h_385 h_386)) (ak.mk (ai.mk h_387 h_388) (ai.mk h_389 h_390)) v408 v411 hc412)) (.mu 8 (.ca cf0 (.mu 1 (.done (.nh [3, 11] [.own [ae p, ae p', ae p'', ae cU, ae bx, bG aP], .own [ae aR], .own [aB aV, au aG, aB aE, au aT], .own [.fn 74 [] []], .own [.fn 73 [] []], .own [aB h_379, au h_380, aB h_381, au h_382, aB h_383, au h_384, aB h_385, au h_386, aB h_387, au h_388, aB h_389, au h_390], .own (ak.c v411)] ?_)))))
  obtain ⟨v413, hc414, hr⟩ := bd hr
  refine .g1 G (ok0 (gR n (ak.mk (ai.mk aV aG) (ai.mk aE aT)) v411 v413 hc414)) (.mu 2 (.ca cf0 (.mu 1 (.done ?_))))
  obtain rfl := oi hr
  exact eE.normal [] ((Wk.gc [] kT5 rfl trivial).to)
 refine .skip ?_
 obtain ⟨v415, hc416, hr⟩ := bd hr
 refine .g1 G (ok0 (gR n (ak.mk (ai.mk aV aG) (ai.mk aE aT)) v408 v415 hc416)) (.mu 2 (.ca cf0 (.mu 1 (.done ?_))))
 obtain rfl := oi hr
 exact eE.normal [] ((Wk.gc [] kT5 rfl trivial).to)

theorem jf (n : Nat) (g : an) (c : Int) (c' : Int) (c'' : Int) (c8 : Int) (bH : Int) (bg : List Int) (aW : Int) (jg : Bool) (gP : List Int) (nq : Bool) (mb : List Int) (r : Bool × List Int × Bool × List Int) (hr : dP n g c c' c'' c8 bH bg aW jg gP nq mb = some r) : ef 5 Tryz.prog 89 [.agg (an.c g), .fn 117 [] [.hp 0 0, .hp 1 0, .hp 2 0, .hp 3 0, .hp 4 0]] [.own [ae c, ae c', ae c'', ae c8, ae bH, bG bg], .own [ae aW], .own [aB jg, au gP, aB nq, au mb], .own [.fn 74 [] []], .own [.fn 73 [] []]] (.tup []) [.own [ae c, ae c', ae c'', ae c8, ae bH, bG bg], .own [ae aW], .own [aB r.1, au r.2.1, aB r.2.2.1, au r.2.2.2], .own [.fn 74 [] []], .own [.fn 73 [] []]] := by
 unfold dP at hr
 refine ef.kE G Tryz.func89 (c := (Tryz.f89.body).getD .skip) rfl (us := []) (s := mkS 82 0 [(0, .agg (an.c g)), (1, .fn 117 [] [.hp 0 0, .hp 1 0, .hp 2 0, .hp 3 0, .hp 4 0])]) (by kernel_rfl) (rs := []) rfl ?_
 unfold Tryz.f89
 simp only [gS]
 refine .seq (.r5 G [1] [(2, .hp 5 0)] [.own [ae c, ae c', ae c'', ae c8, ae bH, bG bg], .own [ae aW], .own [aB jg, au gP, aB nq, au mb], .own [.fn 74 [] []], .own [.fn 73 [] []], .own (an.c g)] (.seq (.r4 G [1, 2] [(4, ae g.Width)] (.seq (.r4 G [1, 2, 4] [(14, ae (CT (g.Height - 1))), (15, ae 0)] (.block ?_))))))
 replace hr := bd hr; obtain ⟨o416, hL417, hr⟩ := hr
 refine .aO (σ := fun z0 => match z0 with | (c_212, c_213, c_214, c_215, x_216) => ⟨mkS 82 0 [(1, .fn 117 [] [.hp 0 0, .hp 1 0, .hp 2 0, .hp 3 0, .hp 4 0]), (2, .hp 5 0), (4, ae g.Width), (14, ae (CT (g.Height - 1))), (15, ae x_216)], [.own [ae c, ae c', ae c'', ae c8, ae bH, bG bg], .own [ae aW], .own [aB c_212, au c_213, aB c_214, au c_215], .own [.fn 74 [] []], .own [.fn 73 [] []], .own (an.c g)]⟩) (Q := fun x st' => match (generalizing := false) o416 with | (c_314, c_315, c_316, c_317) => x = .exit 0 /\ Wk 5 st' ⟨mkS 82 0 [], [.own [ae c, ae c', ae c'', ae c8, ae bH, bG bg], .own [ae aW], .own [aB c_314, au c_315, aB c_316, au c_317], .own [.fn 74 [] []], .own [.fn 73 [] []]]⟩) hL417 ((Wk.gc [1, 2, 4, 14, 15] kT6 rfl trivial).to) ?_ ?_
 ·clear hr
  rintro m ⟨c_212, c_213, c_214, c_215, x_216⟩ hr
  show CQ _ _ _ _ _ ⟨_, _⟩
  refine .seq (.r4 G [1, 2, 4, 14, 15] [(16, aB (decide (x_216 < (CT (g.Height - 1)))))] (.seq ?_))
  refine .cd hr ?_ ?_ <;> intro hb320 hr
  ·refine .skip (.seq (.block (.seq (.r4 G [1, 2, 4, 14, 15] [(5, ae x_216)] (.seq (.r4 G [1, 2, 4, 5, 14, 15] [(19, ae (CT (g.Width - 1))), (20, ae 0)] (.block ?_)))))))
   replace hr := bd hr; obtain ⟨o413, hL414, hr⟩ := hr
   refine .aO (σ := fun z0 => match z0 with | (c_321, c_322, c_323, c_324, x_325) => ⟨mkS 82 0 [(1, .fn 117 [] [.hp 0 0, .hp 1 0, .hp 2 0, .hp 3 0, .hp 4 0]), (2, .hp 5 0), (4, ae g.Width), (5, ae x_216), (14, ae (CT (g.Height - 1))), (15, ae x_216), (19, ae (CT (g.Width - 1))), (20, ae x_325)], [.own [ae c, ae c', ae c'', ae c8, ae bH, bG bg], .own [ae aW], .own [aB c_321, au c_322, aB c_323, au c_324], .own [.fn 74 [] []], .own [.fn 73 [] []], .own (an.c g)]⟩) (Q := fun x st' => match (generalizing := false) o413 with | (c_367, c_368, c_369, c_370) => x = .exit 2 /\ Wk 5 st' ⟨mkS 82 0 [(1, .fn 117 [] [.hp 0 0, .hp 1 0, .hp 2 0, .hp 3 0, .hp 4 0]), (2, .hp 5 0), (4, ae g.Width), (14, ae (CT (g.Height - 1))), (15, ae x_216)], [.own [ae c, ae c', ae c'', ae c8, ae bH, bG bg], .own [ae aW], .own [aB c_367, au c_368, aB c_369, au c_370], .own [.fn 74 [] []], .own [.fn 73 [] []], .own (an.c g)]⟩) hL414 ((Wk.gc [1, 2, 4, 5, 14, 15, 19, 20] kT6 rfl trivial).to) ?_ ?_
   ·clear hr
    rintro m ⟨c_321, c_322, c_323, c_324, x_325⟩ hr
    show CQ _ _ _ _ _ ⟨_, _⟩
    refine .seq (.r4 G [1, 2, 4, 5, 14, 15, 19, 20] [(21, aB (decide (x_325 < (CT (g.Width - 1)))))] (.seq ?_))
    refine .cd hr ?_ ?_ <;> intro hb373 hr
    ·refine .skip (.seq (.block (.seq (.r4 G [1, 2, 4, 5, 14, 15, 19, 20] [(6, ae x_325)] (.seq (.r4 G [1, 2, 4, 5, 14, 15, 19, 20] [(7, ae (CT ((CT (x_216 * g.Width)) + x_325)))] ?_))))))
     obtain ⟨w374, hw375, hr⟩ := bd hr
     refine .wk ((Wk.refl _).to (c := ⟨mkS 82 0 [(1, .fn 117 [] [.hp 0 0, .hp 1 0, .hp 2 0, .hp 3 0, .hp 4 0]), (2, .hp 5 0), (4, ae g.Width), (5, ae x_216), (7, ae w374), (14, ae (CT (g.Height - 1))), (15, ae x_216), (19, ae (CT (g.Width - 1))), (20, ae x_325)], [.own [ae c, ae c', ae c'', ae c8, ae bH, bG bg], .own [ae aW], .own [aB c_321, au c_322, aB c_323, au c_324], .own [.fn 74 [] []], .own [.fn 73 [] []], .own (an.c g)]⟩) (by rw [oi hw375]; first | done | kernel_rfl)) <| .seq <| .r5 G [1, 2, 4, 5, 14, 15, 19, 20] [(45, .hs 6 0 2 3), (46, ae 2), (47, ae 0)] [.own [ae c, ae c', ae c'', ae c8, ae bH, bG bg], .own [ae aW], .own [aB c_321, au c_322, aB c_323, au c_324], .own [.fn 74 [] []], .own [.fn 73 [] []], .own (an.c g), .own [ae w374, ae (CT (w374 + 1)), ae (CT ((CT (w374 + g.Width)) + 1)), ae w374, ae (CT ((CT (w374 + g.Width)) + 1)), ae (CT (w374 + g.Width))]] <| .block ?_
     obtain ⟨w376, hw377, hr⟩ := bd hr
     refine .wk ((Wk.refl _).to (c := ⟨mkS 82 0 [(1, .fn 117 [] [.hp 0 0, .hp 1 0, .hp 2 0, .hp 3 0, .hp 4 0]), (2, .hp 5 0), (4, ae g.Width), (5, ae x_216), (14, ae (CT (g.Height - 1))), (15, ae x_216), (19, ae (CT (g.Width - 1))), (20, ae x_325), (45, .hs 6 0 w376.length 3), (46, ae 2), (47, ae 0)], [.own [ae c, ae c', ae c'', ae c8, ae bH, bG bg], .own [ae aW], .own [aB c_321, au c_322, aB c_323, au c_324], .own [.fn 74 [] []], .own [.fn 73 [] []], .own (an.c g), .own (w376.flatMap aC.c)]⟩) (by rw [<- oi hw377]; kernel_rfl)) ?_
     replace hr := bd hr; obtain ⟨o410, hL411, hr⟩ := hr
     refine .aO (σ := fun z0 => match z0 with | (c_378, c_379, c_380, c_381, x_382) => ⟨mkS 82 0 [(1, .fn 117 [] [.hp 0 0, .hp 1 0, .hp 2 0, .hp 3 0, .hp 4 0]), (2, .hp 5 0), (4, ae g.Width), (5, ae x_216), (14, ae (CT (g.Height - 1))), (15, ae x_216), (19, ae (CT (g.Width - 1))), (20, ae x_325), (45, .hs 6 0 w376.length 3), (46, ae 2), (47, ae x_382)], [.own [ae c, ae c', ae c'', ae c8, ae bH, bG bg], .own [ae aW], .own [aB c_378, au c_379, aB c_380, au c_381], .own [.fn 74 [] []], .own [.fn 73 [] []], .own (an.c g), .own (w376.flatMap aC.c)]⟩) (Q := fun x st' => match (generalizing := false) o410 with | (c_394, c_395, c_396, c_397) => x = .exit 4 /\ Wk 5 st' ⟨mkS 82 0 [(1, .fn 117 [] [.hp 0 0, .hp 1 0, .hp 2 0, .hp 3 0, .hp 4 0]), (2, .hp 5 0), (4, ae g.Width), (5, ae x_216), (14, ae (CT (g.Height - 1))), (15, ae x_216), (19, ae (CT (g.Width - 1))), (20, ae x_325)], [.own [ae c, ae c', ae c'', ae c8, ae bH, bG bg], .own [ae aW], .own [aB c_394, au c_395, aB c_396, au c_397], .own [.fn 74 [] []], .own [.fn 73 [] []], .own (an.c g)]⟩) hL411 ((Wk.gc [1, 2, 4, 5, 14, 15, 19, 20, 45, 46, 47] [(0, true), (1, true), (2, true), (3, true), (4, true), (5, true), (6, false)] rfl (pKt (pKt (pKt (pKt (pKt (pKt (pKo aC.c aC.pure w376 trivial)))))))).to) ?_ ?_
     ·clear hr
      rintro m ⟨c_378, c_379, c_380, c_381, x_382⟩ hr
      show CQ _ _ _ _ _ ⟨_, _⟩
      refine .seq (.r4 G [1, 2, 4, 5, 14, 15, 19, 20, 45, 46, 47] [(48, aB (decide (x_382 < 2)))] (.seq ?_))
      refine .cd hr ?_ ?_ <;> intro hb400 hr
      ·refine .skip (.seq (.block (.seq ?_)))
       obtain ⟨hg401, hr⟩ := gd hr
       refine .r0 G (.p0 (v := .hp 6 (0 + x_382.toNat * 3)) (tr (ar hg401)) (.p0 (v := .agg [ae (gt w376 x_382).e0, ae (gt w376 x_382).e1, ae (gt w376 x_382).e2]) (tr (y := bI.ofP (eG (decide (3 <= ((w376.flatMap aC.c).drop (0 + x_382.toNat * 3)).length)) (.agg (((w376.flatMap aC.c).drop (0 + x_382.toNat * 3)).take 3)))) (ch aC.len (aD hg401) (by decide) (by omega : 0 + x_382.toNat * 3 = x_382.toNat * 3 + 0) (by kernel_rfl))) (.mu 2 (.done (.nh [1, 2, 4, 5, 9, 14, 15, 19, 20, 45, 46, 47] [.own [ae c, ae c', ae c'', ae c8, ae bH, bG bg], .own [ae aW], .own [aB c_378, au c_379, aB c_380, au c_381], .own [.fn 74 [] []], .own [.fn 73 [] []], .own (an.c g), .own (w376.flatMap aC.c), .own [ae (gt w376 x_382).e0, ae (gt w376 x_382).e1, ae (gt w376 x_382).e2]] (.seq ?_))))))
       obtain ⟨hg402, hr⟩ := gd hr
       rcases bT (((gt g.Z (gt w376 x_382).e0) : Int) != (-2147483648)) with hb403 | hb403
       ·replace hr := cy hb403 hr
        obtain ⟨hg404, hr⟩ := gd hr
        rcases bT (((gt g.Z (gt w376 x_382).e1) : Int) != (-2147483648)) with hb405 | hb405
        ·replace hr := cy hb405 hr
         obtain ⟨hg406, hr⟩ := gd hr
         refine .r0 G (.mu 4 (.p0 (v := .pp (g.Z.flatMap (iC .i64)) ((gt w376 x_382).e0.toNat * 1)) (tr (ar hg402)) (.p0 (v := ae (gt g.Z (gt w376 x_382).e0)) (tr (aH (aK (aI .i64) (aD hg402) z1 (by omega : (gt w376 x_382).e0.toNat * 1 = (gt w376 x_382).e0.toNat * 1 + 0) (by kernel_rfl)))) (.p0 (v := aB true) (eB hb403) (.mu 5 (.pure (v := .pp (g.Z.flatMap (iC .i64)) ((gt w376 x_382).e1.toNat * 1)) (by kernel_rfl) (tr (ar hg404)) (.pure (v := ae (gt g.Z (gt w376 x_382).e1)) (by kernel_rfl) (tr (aH (aK (aI .i64) (aD hg404) z1 (by omega : (gt w376 x_382).e1.toNat * 1 = (gt w376 x_382).e1.toNat * 1 + 0) (by kernel_rfl)))) (.pure (v := aB true) (by kernel_rfl) (eB hb405) (.mu 6 (.pure (v := .pp (g.Z.flatMap (iC .i64)) ((gt w376 x_382).e2.toNat * 1)) (by kernel_rfl) (tr (ar hg406)) (.pure (v := ae (gt g.Z (gt w376 x_382).e2)) (by kernel_rfl) (tr (aH (aK (aI .i64) (aD hg406) z1 (by omega : (gt w376 x_382).e2.toNat * 1 = (gt w376 x_382).e2.toNat * 1 + 0) (by kernel_rfl)))) (.mu 2 (.done (.nh [1, 2, 4, 5, 9, 14, 15, 19, 20, 45, 46, 47, 75] [.own [ae c, ae c', ae c'', ae c8, ae bH, bG bg], .own [ae aW], .own [aB c_378, au c_379, aB c_380, au c_381], .own [.fn 74 [] []], .own [.fn 73 [] []], .own (an.c g), .own (w376.flatMap aC.c), .own [ae (gt w376 x_382).e0, ae (gt w376 x_382).e1, ae (gt w376 x_382).e2]] ?_))))))))))))))
         refine .cd hr ?_ ?_ <;> intro hb407 hr
         ·obtain ⟨v408, hc409, hr⟩ := bd hr
          refine .g1 G (cC (args := [.agg [ae (gt w376 x_382).e0, ae (gt w376 x_382).e1, ae (gt w376 x_382).e2], .hp 0 0, .hp 1 0, .hp 2 0, .hp 3 0, .hp 4 0]) 5 0 kT5 [true, true, true, true, true] (qb n (gt w376 x_382) c c' c'' c8 bH bg aW c_378 c_379 c_380 c_381 v408 hc409) trivial trivial rfl rfl (by kernel_rfl) (by kernel_rfl)) (.mu 2 (.ca cf0 (.done (.pop (.ru G ?_)))))
          exact aA (v408.1, v408.2.1, v408.2.2.1, v408.2.2.2, CT (x_382 + 1)) hr ((Wk.gc [1, 2, 4, 5, 14, 15, 19, 20, 45, 46, 47] [(0, true), (1, true), (2, true), (3, true), (4, true), (5, true), (6, false)] rfl (pKt (pKt (pKt (pKt (pKt (pKt (pKo aC.c aC.pure w376 trivial)))))))).to)
         refine .skip (.pop (.ru G ?_))
         exact aA (c_378, c_379, c_380, c_381, CT (x_382 + 1)) hr ((Wk.gc [1, 2, 4, 5, 14, 15, 19, 20, 45, 46, 47] [(0, true), (1, true), (2, true), (3, true), (4, true), (5, true), (6, false)] rfl (pKt (pKt (pKt (pKt (pKt (pKt (pKo aC.c aC.pure w376 trivial)))))))).to)
        replace hr := cA hb405 hr
        refine .r0 G (.mu 4 (.p0 (v := .pp (g.Z.flatMap (iC .i64)) ((gt w376 x_382).e0.toNat * 1)) (tr (ar hg402)) (.p0 (v := ae (gt g.Z (gt w376 x_382).e0)) (tr (aH (aK (aI .i64) (aD hg402) z1 (by omega : (gt w376 x_382).e0.toNat * 1 = (gt w376 x_382).e0.toNat * 1 + 0) (by kernel_rfl)))) (.p0 (v := aB true) (eB hb403) (.mu 5 (.pure (v := .pp (g.Z.flatMap (iC .i64)) ((gt w376 x_382).e1.toNat * 1)) (by kernel_rfl) (tr (ar hg404)) (.pure (v := ae (gt g.Z (gt w376 x_382).e1)) (by kernel_rfl) (tr (aH (aK (aI .i64) (aD hg404) z1 (by omega : (gt w376 x_382).e1.toNat * 1 = (gt w376 x_382).e1.toNat * 1 + 0) (by kernel_rfl)))) (.pure (v := aB false) (by kernel_rfl) (eB hb405) (.mu 10 (.done (.nh [1, 2, 4, 5, 9, 14, 15, 19, 20, 45, 46, 47, 75] [.own [ae c, ae c', ae c'', ae c8, ae bH, bG bg], .own [ae aW], .own [aB c_378, au c_379, aB c_380, au c_381], .own [.fn 74 [] []], .own [.fn 73 [] []], .own (an.c g), .own (w376.flatMap aC.c), .own [ae (gt w376 x_382).e0, ae (gt w376 x_382).e1, ae (gt w376 x_382).e2]] (.cF (by kernel_rfl) (.skip (.pop (.ru G ?_)))))))))))))))
        exact aA (c_378, c_379, c_380, c_381, CT (x_382 + 1)) hr ((Wk.gc [1, 2, 4, 5, 14, 15, 19, 20, 45, 46, 47] [(0, true), (1, true), (2, true), (3, true), (4, true), (5, true), (6, false)] rfl (pKt (pKt (pKt (pKt (pKt (pKt (pKo aC.c aC.pure w376 trivial)))))))).to)
       replace hr := cA hb403 hr
       refine .r0 G (.mu 4 (.p0 (v := .pp (g.Z.flatMap (iC .i64)) ((gt w376 x_382).e0.toNat * 1)) (tr (ar hg402)) (.p0 (v := ae (gt g.Z (gt w376 x_382).e0)) (tr (aH (aK (aI .i64) (aD hg402) z1 (by omega : (gt w376 x_382).e0.toNat * 1 = (gt w376 x_382).e0.toNat * 1 + 0) (by kernel_rfl)))) (.p0 (v := aB false) (eB hb403) (.mu 18 (.done (.nh [1, 2, 4, 5, 9, 14, 15, 19, 20, 45, 46, 47, 75] [.own [ae c, ae c', ae c'', ae c8, ae bH, bG bg], .own [ae aW], .own [aB c_378, au c_379, aB c_380, au c_381], .own [.fn 74 [] []], .own [.fn 73 [] []], .own (an.c g), .own (w376.flatMap aC.c), .own [ae (gt w376 x_382).e0, ae (gt w376 x_382).e1, ae (gt w376 x_382).e2]] (.cF (by kernel_rfl) (.skip (.pop (.ru G ?_)))))))))))
       exact aA (c_378, c_379, c_380, c_381, CT (x_382 + 1)) hr ((Wk.gc [1, 2, 4, 5, 14, 15, 19, 20, 45, 46, 47] [(0, true), (1, true), (2, true), (3, true), (4, true), (5, true), (6, false)] rfl (pKt (pKt (pKt (pKt (pKt (pKt (pKo aC.c aC.pure w376 trivial)))))))).to)
      refine .leave rfl ?_
      obtain rfl := oi hr
      exact ⟨rfl, ((Wk.gc [1, 2, 4, 5, 14, 15, 19, 20] kT6 rfl trivial).to)⟩
     rcases o410 with ⟨c_394, c_395, c_396, c_397⟩
     rintro x st' hq412
     clear hL411
     obtain ⟨rfl, hq412⟩ := hq412
     refine a9 _ rfl (.pop (.wk hq412 (.ru G ?_)))
     exact aA (c_394, c_395, c_396, c_397, CT (x_325 + 1)) hr ((Wk.gc [1, 2, 4, 5, 14, 15, 19, 20] kT6 rfl trivial).to)
    refine .leave rfl ?_
    obtain rfl := oi hr
    exact ⟨rfl, ((Wk.gc [1, 2, 4, 14, 15] kT6 rfl trivial).to)⟩
   rcases o413 with ⟨c_367, c_368, c_369, c_370⟩
   rintro x st' hq415
   clear hL414
   obtain ⟨rfl, hq415⟩ := hq415
   refine a9 _ rfl (.pop (.wk hq415 (.ru G ?_)))
   exact aA (c_367, c_368, c_369, c_370, CT (x_216 + 1)) hr ((Wk.gc [1, 2, 4, 14, 15] kT6 rfl trivial).to)
  refine .leave rfl ?_
  obtain rfl := oi hr
  exact ⟨rfl, ((Wk.gc [] kT5 rfl trivial).to)⟩
 rcases o416 with ⟨c_314, c_315, c_316, c_317⟩
 rintro x st' hq418
 clear hL417
 obtain ⟨rfl, hq418⟩ := hq418
 refine a9 _ rfl ?_
 obtain rfl := oi hr
 exact eE.wk hq418 (eE.normal [] ((Wk.gc [] kT5 rfl trivial).to))

theorem gj (n : Nat) (g : an) (level : Int) (r : ak) (hr : cK n g level = some r) : aN Tryz.prog 72 [.agg (an.c g), ae level, .fn 73 [] [], .fn 74 [] []] (.agg (ak.c r)) := by
 unfold cK at hr
 refine aN.bd G Tryz.func72 [.cell 8 42] ?_
 unfold Tryz.f72
 simp only [gS]
 refine .seq (.r2 G 28 [(4, .hp 0 0), (5, .hp 1 0), (6, .hp 2 0), (7, .hp 3 0), (8, .hp 4 0)] [.own (an.c g), .own [ae level], .own [.fn 73 [] []], .own [.fn 74 [] []], .own [aB false, nS, aB false, nS]] (.seq ?_))
 obtain ⟨v1, hc2, hr⟩ := bd hr
 refine .g1 G (ok0 (dG n 0 v1 hc2)) (.ca cf0 (.mu 2 (.done (.nh [4, 5, 6, 7, 8, 9] [.own (an.c g), .own [ae level], .own [.fn 73 [] []], .own [.fn 74 [] []], .own [aB false, nS, aB false, nS], .own (ak.c v1)] (.seq ?_)))))
 obtain ⟨v3, hc4, hr⟩ := bd hr
 refine .g1 G (cC (args := [.agg (an.c g), .fn 117 [] [.hp 0 0, .hp 1 0, .hp 5 0, .hp 3 0, .hp 2 0]]) 5 0 [(0, true), (1, true), (5, true), (3, true), (2, true)] [true, true, true, true, true] (jf n g g.X0 g.Y0 g.Step g.Width g.Height g.Z level v1.Num.Negative v1.Num.Groups v1.Den.Negative v1.Den.Groups v3 hc4) trivial trivial rfl rfl (by kernel_rfl) (by kernel_rfl)) (.mu 2 (.ca cf0 (.done (.nh [4, 8, 9] [.own (an.c g), .own [ae level], .own [.fn 73 [] []], .own [.fn 74 [] []], .own [aB false, nS, aB false, nS], .own [aB v3.1, au v3.2.1, aB v3.2.2.1, au v3.2.2.2]] (.seq ?_)))))
 obtain ⟨v5, hc6, hr⟩ := bd hr
 refine .g1 G (ok0 (fh n (CT (g.Step * g.Step)) 2 v5 hc6)) (.mu 5 (.ca cf0 (.mu 6 (.done (.nh [8, 9, 10] [.own (an.c g), .own [ae level], .own [.fn 73 [] []], .own [.fn 74 [] []], .own [aB false, nS, aB false, nS], .own [aB v3.1, au v3.2.1, aB v3.2.2.1, au v3.2.2.2], .own (ak.c v5.1)] (.seq ?_))))))
 obtain ⟨v7, hc8, hr⟩ := bd hr
 refine .g1 G (ok0 (fo n (ak.mk (ai.mk v3.1 v3.2.1) (ai.mk v3.2.2.1 v3.2.2.2)) v5.1 v7 hc8)) (.mu 2 (.ca cf0 (.mu 1 (.done (.nh [8] [.own (an.c g), .own [ae level], .own [.fn 73 [] []], .own [.fn 74 [] []], .own (ak.c v7), .own [aB v3.1, au v3.2.1, aB v3.2.2.1, au v3.2.2.2], .own (ak.c v5.1)] (.ret ?_))))))
 obtain rfl := oi hr
 exact aJ.r1 [.agg (ak.c v7)]

theorem tb (n : Nat) (g : an) (level : Int) (r : ak × Int) (hr : nQ n g level = some r) : aN Tryz.prog 33 [.agg (an.c g), ae level] (.tup [.agg (ak.c r.1), ae r.2]) := by
 unfold nQ at hr
 refine aN.bd G Tryz.func33 [.cell 4 42, .tmp 5] ?_
 unfold Tryz.f33
 simp only [gS]
 refine .seq (.r5 G [1] [(2, .hp 0 0), (4, .hp 1 0)] [.own (an.c g), .own [aB false, nS, aB false, nS]] (.seq (.seq ?_)))
 obtain ⟨v1, hc2, hr⟩ := bd hr
 refine .g1 G (ok0 (jv n g level v1 hc2)) (.mu 2 (.ca cf0 (.mu 1 (.done (.nh [1, 2, 4, 6] [.own (an.c g), .own [aB false, nS, aB false, nS]] (.seq (.r4 G [1, 2, 4, 6] [(11, aB ((v1 : Int) != 0))] ?_)))))))
 refine .cd hr ?_ ?_ <;> intro hb3 hr
 ·refine .seq (.r4 G [4] [(5, ae v1)] (.ret ?_))
  obtain rfl := oi hr
  exact aJ.ret (vs := [.agg [aB false, nS, aB false, nS], ae v1]) (by kernel_rfl) (Sn.tup (SnL.cons (Sn.agg (Sp (SnL.cons Sn.cX (Sp (SnL.cons Sn.cX SnL.nil))))) (Sp SnL.nil)))
 refine .skip (.seq ?_)
 obtain ⟨v4, hc5, hr⟩ := bd hr
 refine .g1 G (ok0 (gj n g level v4 hc5)) (.mu 2 (.ca cf0 (.mu 2 (.done (.nh [4, 5] [.own (an.c g), .own (ak.c v4)] (.ret ?_))))))
 obtain rfl := oi hr
 exact aJ.ret (vs := [.agg (ak.c v4), ae 0]) (by kernel_rfl) (Sn.tup (Sp (Sp SnL.nil)))

theorem oA (n : Nat) (s : List Int) (v : Int) (r : Int) (hr : ia n s v = some r) : aN Tryz.prog 185 [bG s, ae v] (ae r) := by
 unfold ia at hr
 refine aN.bd G Tryz.func185 [.tmp 4] ?_
 unfold Tryz.f185
 simp only [gS]
 refine .seq (.r4 G [0, 1] [] (.seq (.seq (.r4 G [0, 1] [(7, ae (s.length : Int)), (8, ae 0)] (.block ?_)))))
 replace hr := bd hr; obtain ⟨o9, hL10, hr⟩ := hr
 refine .aO (σ := fun z0 => match z0 with | x_1 => ⟨mkS 19 0 [(0, bG s), (1, ae v), (7, ae (s.length : Int)), (8, ae x_1)], []⟩) (Q := fun x st' => match (generalizing := false) o9 with | .inl _ => x = .exit 0 /\ Wk 0 st' ⟨mkS 19 0 [], []⟩ | .inr (r0) => x = .ret /\ aJ Tryz.prog [.tmp 4] (ae r0) .ret st') hL10 ((Wk.gc [0, 1, 7, 8] [] rfl pK0).to) ?_ ?_
 ·clear hr
  rintro m x_1 hr
  show CQ _ _ _ _ _ ⟨_, _⟩
  refine .seq (.r4 G [0, 1, 7, 8] [(9, aB (decide (x_1 < (s.length : Int))))] (.seq ?_))
  refine .cd hr ?_ ?_ <;> intro hb6 hr
  ·refine .skip (.seq (.block (.seq (.r4 G [0, 1, 7, 8] [(5, ae x_1)] (.seq ?_)))))
   obtain ⟨hg7, hr⟩ := gd hr
   refine .r0 G (.mu 3 (.p0 (v := .pp (s.flatMap (iC .i64)) (x_1.toNat * 1)) (tr (ar hg7)) (.p0 (v := ae (gt s x_1)) (tr (aH (aK (aI .i64) (aD hg7) z1 (by omega : x_1.toNat * 1 = x_1.toNat * 1 + 0) (by kernel_rfl)))) (.mu 1 (.done (.nh [0, 1, 5, 7, 8, 16] [] ?_))))))
   refine .cd hr ?_ ?_ <;> intro hb8 hr
   ·refine .seq (.ru G (.ret ?_))
    obtain rfl := oi hr
    exact ⟨rfl, aJ.ret (vs := [ae x_1]) (by kernel_rfl) (Sn.pure rfl)⟩
   refine .skip (.pop (.ru G ?_))
   exact aA (CT (x_1 + 1)) hr ((Wk.gc [0, 1, 7, 8] [] rfl pK0).to)
  refine .leave rfl ?_
  obtain rfl := oi hr
  exact ⟨rfl, ((Wk.gc [] [] rfl pK0).to)⟩
 rcases o9 with ⟨⟩ | r0
 ·rintro x st' hq11
  clear hL10
  obtain ⟨rfl, hq11⟩ := hq11
  refine a9 _ rfl (.wk hq11 (.seq (.ru G (.ret ?_))))
  obtain rfl := oi hr
  exact aJ.r1 [ae (-1)]
 rintro x st' hq11
 clear hL10
 obtain ⟨rfl, hq11⟩ := hq11
 obtain rfl := oi hr
 exact iK _ hq11

theorem mG {s : List Int} {v : Int} {s_ : List Int} {v_ : Int} (h : ([slT (iC .i64) s, .at (.int .i64 v)] : List AV) = [slT (iC .i64) s_, .at (.int .i64 v_)]) : s = s_ /\ v = v_ := by
 simp only [List.cons.injEq, AV.agg.injEq, AV.at.injEq, Value.int.injEq, Value.bool.injEq, AV.fn.injEq, AV.pp.injEq, true_and, and_true, eU] at h
 simp_all
theorem nd (n : Nat) {s : List Int} {v : Int} {s_ : List Int} {v_ : Int} (h : ([slT (iC .i64) s, .at (.int .i64 v)] : List AV) = [slT (iC .i64) s_, .at (.int .i64 v_)]) : cl n s v = cl n s_ v_ := by
 obtain ⟨rfl, rfl⟩ := mG h
 rfl
theorem gB (n : Nat) (s : List Int) (v : Int) (r : Bool) (hr : cl n s v = some r) : aN Tryz.prog 150 [bG s, ae v] (aB r) := by
 unfold cl at hr
 refine aN.bd G Tryz.func150 [.tmp 4] ?_
 unfold Tryz.f150
 simp only [gS]
 refine .seq (.r4 G [0, 1] [] (.seq ?_))
 obtain ⟨v1, hc2, hr⟩ := bd hr
 refine .g1 G (ok0 (oA n s v v1 hc2)) (.mu 2 (.ca cf0 (.mu 2 (.done (.ret ?_)))))
 obtain rfl := oi hr
 exact aJ.r1 [aB (decide (v1 >= 0))]

theorem pD (n : Nat) (t : A3 Int) (p : Bool) (p' : Int) (p'' : Int) (r : Bool) (hr : fz n t p p' p'' = some r) : ef 3 Tryz.prog 149 [.agg [ae t.e0, ae t.e1, ae t.e2], .hp 0 0, .hp 1 0, .hp 2 0] [.own [aB p], .own [ae p'], .own [ae p'']] (.tup []) [.own [aB r], .own [ae p'], .own [ae p'']] := by
 unfold fz at hr
 refine ef.kE G Tryz.func149 (c := (Tryz.f149.body).getD .skip) rfl (us := []) (s := mkS 16 0 [(0, .agg [ae t.e0, ae t.e1, ae t.e2]), (1, .hp 0 0), (2, .hp 1 0), (3, .hp 2 0)]) (by kernel_rfl) (rs := []) rfl ?_
 unfold Tryz.f149
 simp only [gS]
 refine .seq (.r5 G [1, 2, 3] [(4, .hp 3 0)] [.own [aB p], .own [ae p'], .own [ae p''], .own [ae t.e0, ae t.e1, ae t.e2]] ?_)
 rcases bT p with hb8 | hb8
 ·replace hr := cy hb8 hr
  refine .eK G bW (.pure (v := aB true) (by kernel_rfl) (eB hb8) (by kernel_rfl) (.mu 11 ?_))
  refine .done ⟨by kernel_rfl, ?_⟩
  obtain rfl := oi hr
  exact eE.normal [] ((Wk.gc [] kT3 rfl trivial).to)
 replace hr := cA hb8 hr
 obtain ⟨v9, hc10, hr⟩ := bd hr
 rcases bT v9 with hb11 | hb11
 ·subst hb11
  replace hr := cy rfl hr
  obtain ⟨v12, hc13, hr⟩ := bd hr
  refine .tn G (ca1 (dQ (args := [.hs 3 0 3 1, ae p']) (l := [3]) rfl (SnL.cons (Sn.hs rfl (.inl rfl) (SnC.cons (Sn.pure rfl) (SnC.cons (Sn.pure rfl) (SnC.cons (Sn.pure rfl) SnC.nil))) (fun h => nomatch h)) (Sp SnL.nil)) (gB n [t.e0, t.e1, t.e2] p' true hc10)) (ca3 (dQ (args := [.hs 3 0 3 1, ae p'']) (l := [3]) rfl (SnL.cons (Sn.hs rfl (.inl rfl) (SnC.cons (Sn.pure rfl) (SnC.cons (Sn.pure rfl) (SnC.cons (Sn.pure rfl) SnC.nil))) (fun h => nomatch h)) (Sp SnL.nil)) (gB n [t.e0, t.e1, t.e2] p'' v12 hc13)))) (.pure (v := aB false) (by kernel_rfl) (eB hb8) (by kernel_rfl) (.mu 3 (.ca cf0 (.mu 3 (.ca (cfA (fun h => by rw [sv hc13 hc10 (nd n (show ([bG [t.e0, t.e1, t.e2], ae p''] : List AV) = [bG [t.e0, t.e1, t.e2], ae p'] from (congr (congrArg List.cons rfl) (congr (congrArg List.cons (List.cons.inj (List.cons.inj h).2).1) rfl))))]) cf0) (.mu 3 ?_))))))
  refine .done ⟨by kernel_rfl, ?_⟩
  obtain rfl := oi hr
  exact eE.normal [] ((Wk.gc [] kT3 rfl trivial).to)
 subst hb11
 replace hr := cA rfl hr
 refine .t1 G (dQ (args := [.hs 3 0 3 1, ae p']) (l := [3]) rfl (SnL.cons (Sn.hs rfl (.inl rfl) (SnC.cons (Sn.pure rfl) (SnC.cons (Sn.pure rfl) (SnC.cons (Sn.pure rfl) SnC.nil))) (fun h => nomatch h)) (Sp SnL.nil)) (gB n [t.e0, t.e1, t.e2] p' false hc10)) (.pure (v := aB false) (by kernel_rfl) (eB hb8) (by kernel_rfl) (.mu 3 (.ca cf0 (.mu 7 ?_))))
 refine .done ⟨by kernel_rfl, ?_⟩
 obtain rfl := oi hr
 exact eE.normal [] ((Wk.gc [] kT3 rfl trivial).to)

theorem iU (n : Nat) (g : an) (c : Bool) (c' : Int) (c'' : Int) (r : Bool) (hr : cO n g c c' c'' = some r) : ef 3 Tryz.prog 89 [.agg (an.c g), .fn 149 [] [.hp 0 0, .hp 1 0, .hp 2 0]] [.own [aB c], .own [ae c'], .own [ae c'']] (.tup []) [.own [aB r], .own [ae c'], .own [ae c'']] := by
 unfold cO at hr
 refine ef.kE G Tryz.func89 (c := (Tryz.f89.body).getD .skip) rfl (us := []) (s := mkS 82 0 [(0, .agg (an.c g)), (1, .fn 149 [] [.hp 0 0, .hp 1 0, .hp 2 0])]) (by kernel_rfl) (rs := []) rfl ?_
 unfold Tryz.f89
 simp only [gS]
 refine .seq (.r5 G [1] [(2, .hp 3 0)] [.own [aB c], .own [ae c'], .own [ae c''], .own (an.c g)] (.seq (.r4 G [1, 2] [(4, ae g.Width)] (.seq (.r4 G [1, 2, 4] [(14, ae (CT (g.Height - 1))), (15, ae 0)] (.block ?_))))))
 replace hr := bd hr; obtain ⟨c_248, hL330, hr⟩ := hr
 refine .aO (σ := fun z0 => match z0 with | (c_167, x_168) => ⟨mkS 82 0 [(1, .fn 149 [] [.hp 0 0, .hp 1 0, .hp 2 0]), (2, .hp 3 0), (4, ae g.Width), (14, ae (CT (g.Height - 1))), (15, ae x_168)], [.own [aB c_167], .own [ae c'], .own [ae c''], .own (an.c g)]⟩) (Q := fun x st' => x = .exit 0 /\ Wk 3 st' ⟨mkS 82 0 [], [.own [aB c_248], .own [ae c'], .own [ae c'']]⟩) hL330 ((Wk.gc [1, 2, 4, 14, 15] kT4 rfl trivial).to) ?_ ?_
 ·clear hr
  rintro m ⟨c_167, x_168⟩ hr
  show CQ _ _ _ _ _ ⟨_, _⟩
  refine .seq (.r4 G [1, 2, 4, 14, 15] [(16, aB (decide (x_168 < (CT (g.Height - 1)))))] (.seq ?_))
  refine .cd hr ?_ ?_ <;> intro hb251 hr
  ·refine .skip (.seq (.block (.seq (.r4 G [1, 2, 4, 14, 15] [(5, ae x_168)] (.seq (.r4 G [1, 2, 4, 5, 14, 15] [(19, ae (CT (g.Width - 1))), (20, ae 0)] (.block ?_)))))))
   replace hr := bd hr; obtain ⟨c_289, hL327, hr⟩ := hr
   refine .aO (σ := fun z0 => match z0 with | (c_252, x_253) => ⟨mkS 82 0 [(1, .fn 149 [] [.hp 0 0, .hp 1 0, .hp 2 0]), (2, .hp 3 0), (4, ae g.Width), (5, ae x_168), (14, ae (CT (g.Height - 1))), (15, ae x_168), (19, ae (CT (g.Width - 1))), (20, ae x_253)], [.own [aB c_252], .own [ae c'], .own [ae c''], .own (an.c g)]⟩) (Q := fun x st' => x = .exit 2 /\ Wk 3 st' ⟨mkS 82 0 [(1, .fn 149 [] [.hp 0 0, .hp 1 0, .hp 2 0]), (2, .hp 3 0), (4, ae g.Width), (14, ae (CT (g.Height - 1))), (15, ae x_168)], [.own [aB c_289], .own [ae c'], .own [ae c''], .own (an.c g)]⟩) hL327 ((Wk.gc [1, 2, 4, 5, 14, 15, 19, 20] kT4 rfl trivial).to) ?_ ?_
   ·clear hr
    rintro m ⟨c_252, x_253⟩ hr
    show CQ _ _ _ _ _ ⟨_, _⟩
    refine .seq (.r4 G [1, 2, 4, 5, 14, 15, 19, 20] [(21, aB (decide (x_253 < (CT (g.Width - 1)))))] (.seq ?_))
    refine .cd hr ?_ ?_ <;> intro hb292 hr
    ·refine .skip (.seq (.block (.seq (.r4 G [1, 2, 4, 5, 14, 15, 19, 20] [(6, ae x_253)] (.seq (.r4 G [1, 2, 4, 5, 14, 15, 19, 20] [(7, ae (CT ((CT (x_168 * g.Width)) + x_253)))] ?_))))))
     obtain ⟨w293, hw294, hr⟩ := bd hr
     refine .wk ((Wk.refl _).to (c := ⟨mkS 82 0 [(1, .fn 149 [] [.hp 0 0, .hp 1 0, .hp 2 0]), (2, .hp 3 0), (4, ae g.Width), (5, ae x_168), (7, ae w293), (14, ae (CT (g.Height - 1))), (15, ae x_168), (19, ae (CT (g.Width - 1))), (20, ae x_253)], [.own [aB c_252], .own [ae c'], .own [ae c''], .own (an.c g)]⟩) (by rw [oi hw294]; first | done | kernel_rfl)) <| .seq <| .r5 G [1, 2, 4, 5, 14, 15, 19, 20] [(45, .hs 4 0 2 3), (46, ae 2), (47, ae 0)] [.own [aB c_252], .own [ae c'], .own [ae c''], .own (an.c g), .own [ae w293, ae (CT (w293 + 1)), ae (CT ((CT (w293 + g.Width)) + 1)), ae w293, ae (CT ((CT (w293 + g.Width)) + 1)), ae (CT (w293 + g.Width))]] <| .block ?_
     obtain ⟨w295, hw296, hr⟩ := bd hr
     refine .wk ((Wk.refl _).to (c := ⟨mkS 82 0 [(1, .fn 149 [] [.hp 0 0, .hp 1 0, .hp 2 0]), (2, .hp 3 0), (4, ae g.Width), (5, ae x_168), (14, ae (CT (g.Height - 1))), (15, ae x_168), (19, ae (CT (g.Width - 1))), (20, ae x_253), (45, .hs 4 0 w295.length 3), (46, ae 2), (47, ae 0)], [.own [aB c_252], .own [ae c'], .own [ae c''], .own (an.c g), .own (w295.flatMap aC.c)]⟩) (by rw [<- oi hw296]; kernel_rfl)) ?_
     replace hr := bd hr; obtain ⟨c_310, hL324, hr⟩ := hr
     refine .aO (σ := fun z0 => match z0 with | (c_297, x_298) => ⟨mkS 82 0 [(1, .fn 149 [] [.hp 0 0, .hp 1 0, .hp 2 0]), (2, .hp 3 0), (4, ae g.Width), (5, ae x_168), (14, ae (CT (g.Height - 1))), (15, ae x_168), (19, ae (CT (g.Width - 1))), (20, ae x_253), (45, .hs 4 0 w295.length 3), (46, ae 2), (47, ae x_298)], [.own [aB c_297], .own [ae c'], .own [ae c''], .own (an.c g), .own (w295.flatMap aC.c)]⟩) (Q := fun x st' => x = .exit 4 /\ Wk 3 st' ⟨mkS 82 0 [(1, .fn 149 [] [.hp 0 0, .hp 1 0, .hp 2 0]), (2, .hp 3 0), (4, ae g.Width), (5, ae x_168), (14, ae (CT (g.Height - 1))), (15, ae x_168), (19, ae (CT (g.Width - 1))), (20, ae x_253)], [.own [aB c_310], .own [ae c'], .own [ae c''], .own (an.c g)]⟩) hL324 ((Wk.gc [1, 2, 4, 5, 14, 15, 19, 20, 45, 46, 47] [(0, true), (1, true), (2, true), (3, true), (4, false)] rfl (pKt (pKt (pKt (pKt (pKo aC.c aC.pure w295 trivial)))))).to) ?_ ?_
     ·clear hr
      rintro m ⟨c_297, x_298⟩ hr
      show CQ _ _ _ _ _ ⟨_, _⟩
      refine .seq (.r4 G [1, 2, 4, 5, 14, 15, 19, 20, 45, 46, 47] [(48, aB (decide (x_298 < 2)))] (.seq ?_))
      refine .cd hr ?_ ?_ <;> intro hb313 hr
      ·refine .skip (.seq (.block (.seq ?_)))
       obtain ⟨hg314, hr⟩ := gd hr
       refine .r0 G (.p0 (v := .hp 4 (0 + x_298.toNat * 3)) (tr (ar hg314)) (.p0 (v := .agg [ae (gt w295 x_298).e0, ae (gt w295 x_298).e1, ae (gt w295 x_298).e2]) (tr (y := bI.ofP (eG (decide (3 <= ((w295.flatMap aC.c).drop (0 + x_298.toNat * 3)).length)) (.agg (((w295.flatMap aC.c).drop (0 + x_298.toNat * 3)).take 3)))) (ch aC.len (aD hg314) (by decide) (by omega : 0 + x_298.toNat * 3 = x_298.toNat * 3 + 0) (by kernel_rfl))) (.mu 2 (.done (.nh [1, 2, 4, 5, 9, 14, 15, 19, 20, 45, 46, 47] [.own [aB c_297], .own [ae c'], .own [ae c''], .own (an.c g), .own (w295.flatMap aC.c), .own [ae (gt w295 x_298).e0, ae (gt w295 x_298).e1, ae (gt w295 x_298).e2]] (.seq ?_))))))
       obtain ⟨hg315, hr⟩ := gd hr
       rcases bT (((gt g.Z (gt w295 x_298).e0) : Int) != (-2147483648)) with hb316 | hb316
       ·replace hr := cy hb316 hr
        obtain ⟨hg317, hr⟩ := gd hr
        rcases bT (((gt g.Z (gt w295 x_298).e1) : Int) != (-2147483648)) with hb318 | hb318
        ·replace hr := cy hb318 hr
         obtain ⟨hg319, hr⟩ := gd hr
         refine .r0 G (.mu 4 (.p0 (v := .pp (g.Z.flatMap (iC .i64)) ((gt w295 x_298).e0.toNat * 1)) (tr (ar hg315)) (.p0 (v := ae (gt g.Z (gt w295 x_298).e0)) (tr (aH (aK (aI .i64) (aD hg315) z1 (by omega : (gt w295 x_298).e0.toNat * 1 = (gt w295 x_298).e0.toNat * 1 + 0) (by kernel_rfl)))) (.p0 (v := aB true) (eB hb316) (.mu 5 (.pure (v := .pp (g.Z.flatMap (iC .i64)) ((gt w295 x_298).e1.toNat * 1)) (by kernel_rfl) (tr (ar hg317)) (.pure (v := ae (gt g.Z (gt w295 x_298).e1)) (by kernel_rfl) (tr (aH (aK (aI .i64) (aD hg317) z1 (by omega : (gt w295 x_298).e1.toNat * 1 = (gt w295 x_298).e1.toNat * 1 + 0) (by kernel_rfl)))) (.pure (v := aB true) (by kernel_rfl) (eB hb318) (.mu 6 (.pure (v := .pp (g.Z.flatMap (iC .i64)) ((gt w295 x_298).e2.toNat * 1)) (by kernel_rfl) (tr (ar hg319)) (.pure (v := ae (gt g.Z (gt w295 x_298).e2)) (by kernel_rfl) (tr (aH (aK (aI .i64) (aD hg319) z1 (by omega : (gt w295 x_298).e2.toNat * 1 = (gt w295 x_298).e2.toNat * 1 + 0) (by kernel_rfl)))) (.mu 2 (.done (.nh [1, 2, 4, 5, 9, 14, 15, 19, 20, 45, 46, 47, 75] [.own [aB c_297], .own [ae c'], .own [ae c''], .own (an.c g), .own (w295.flatMap aC.c), .own [ae (gt w295 x_298).e0, ae (gt w295 x_298).e1, ae (gt w295 x_298).e2]] ?_))))))))))))))
         refine .cd hr ?_ ?_ <;> intro hb320 hr
         ·obtain ⟨v321, hc322, hr⟩ := bd hr
          refine .g1 G (cC (args := [.agg [ae (gt w295 x_298).e0, ae (gt w295 x_298).e1, ae (gt w295 x_298).e2], .hp 0 0, .hp 1 0, .hp 2 0]) 3 0 kT3 [true, true, true] (pD n (gt w295 x_298) c_297 c' c'' v321 hc322) trivial trivial rfl rfl (by kernel_rfl) (by kernel_rfl)) (.mu 2 (.ca cf0 (.done (.pop (.ru G ?_)))))
          exact aA (v321, CT (x_298 + 1)) hr ((Wk.gc [1, 2, 4, 5, 14, 15, 19, 20, 45, 46, 47] [(0, true), (1, true), (2, true), (3, true), (4, false)] rfl (pKt (pKt (pKt (pKt (pKo aC.c aC.pure w295 trivial)))))).to)
         refine .skip (.pop (.ru G ?_))
         exact aA (c_297, CT (x_298 + 1)) hr ((Wk.gc [1, 2, 4, 5, 14, 15, 19, 20, 45, 46, 47] [(0, true), (1, true), (2, true), (3, true), (4, false)] rfl (pKt (pKt (pKt (pKt (pKo aC.c aC.pure w295 trivial)))))).to)
        replace hr := cA hb318 hr
        refine .r0 G (.mu 4 (.p0 (v := .pp (g.Z.flatMap (iC .i64)) ((gt w295 x_298).e0.toNat * 1)) (tr (ar hg315)) (.p0 (v := ae (gt g.Z (gt w295 x_298).e0)) (tr (aH (aK (aI .i64) (aD hg315) z1 (by omega : (gt w295 x_298).e0.toNat * 1 = (gt w295 x_298).e0.toNat * 1 + 0) (by kernel_rfl)))) (.p0 (v := aB true) (eB hb316) (.mu 5 (.pure (v := .pp (g.Z.flatMap (iC .i64)) ((gt w295 x_298).e1.toNat * 1)) (by kernel_rfl) (tr (ar hg317)) (.pure (v := ae (gt g.Z (gt w295 x_298).e1)) (by kernel_rfl) (tr (aH (aK (aI .i64) (aD hg317) z1 (by omega : (gt w295 x_298).e1.toNat * 1 = (gt w295 x_298).e1.toNat * 1 + 0) (by kernel_rfl)))) (.pure (v := aB false) (by kernel_rfl) (eB hb318) (.mu 10 (.done (.nh [1, 2, 4, 5, 9, 14, 15, 19, 20, 45, 46, 47, 75] [.own [aB c_297], .own [ae c'], .own [ae c''], .own (an.c g), .own (w295.flatMap aC.c), .own [ae (gt w295 x_298).e0, ae (gt w295 x_298).e1, ae (gt w295 x_298).e2]] (.cF (by kernel_rfl) (.skip (.pop (.ru G ?_)))))))))))))))
        exact aA (c_297, CT (x_298 + 1)) hr ((Wk.gc [1, 2, 4, 5, 14, 15, 19, 20, 45, 46, 47] [(0, true), (1, true), (2, true), (3, true), (4, false)] rfl (pKt (pKt (pKt (pKt (pKo aC.c aC.pure w295 trivial)))))).to)
       replace hr := cA hb316 hr
       refine .r0 G (.mu 4 (.p0 (v := .pp (g.Z.flatMap (iC .i64)) ((gt w295 x_298).e0.toNat * 1)) (tr (ar hg315)) (.p0 (v := ae (gt g.Z (gt w295 x_298).e0)) (tr (aH (aK (aI .i64) (aD hg315) z1 (by omega : (gt w295 x_298).e0.toNat * 1 = (gt w295 x_298).e0.toNat * 1 + 0) (by kernel_rfl)))) (.p0 (v := aB false) (eB hb316) (.mu 18 (.done (.nh [1, 2, 4, 5, 9, 14, 15, 19, 20, 45, 46, 47, 75] [.own [aB c_297], .own [ae c'], .own [ae c''], .own (an.c g), .own (w295.flatMap aC.c), .own [ae (gt w295 x_298).e0, ae (gt w295 x_298).e1, ae (gt w295 x_298).e2]] (.cF (by kernel_rfl) (.skip (.pop (.ru G ?_)))))))))))
       exact aA (c_297, CT (x_298 + 1)) hr ((Wk.gc [1, 2, 4, 5, 14, 15, 19, 20, 45, 46, 47] [(0, true), (1, true), (2, true), (3, true), (4, false)] rfl (pKt (pKt (pKt (pKt (pKo aC.c aC.pure w295 trivial)))))).to)
      refine .leave rfl ?_
      obtain rfl := oi hr
      exact ⟨rfl, ((Wk.gc [1, 2, 4, 5, 14, 15, 19, 20] kT4 rfl trivial).to)⟩
     rintro x st' hq325
     clear hL324
     obtain ⟨rfl, hq325⟩ := hq325
     refine a9 _ rfl (.pop (.wk hq325 (.ru G ?_)))
     exact aA (c_310, CT (x_253 + 1)) hr ((Wk.gc [1, 2, 4, 5, 14, 15, 19, 20] kT4 rfl trivial).to)
    refine .leave rfl ?_
    obtain rfl := oi hr
    exact ⟨rfl, ((Wk.gc [1, 2, 4, 14, 15] kT4 rfl trivial).to)⟩
   rintro x st' hq328
   clear hL327
   obtain ⟨rfl, hq328⟩ := hq328
   refine a9 _ rfl (.pop (.wk hq328 (.ru G ?_)))
   exact aA (c_289, CT (x_168 + 1)) hr ((Wk.gc [1, 2, 4, 14, 15] kT4 rfl trivial).to)
  refine .leave rfl ?_
  obtain rfl := oi hr
  exact ⟨rfl, ((Wk.gc [] kT3 rfl trivial).to)⟩
 rintro x st' hq331
 clear hL330
 obtain ⟨rfl, hq331⟩ := hq331
 refine a9 _ rfl ?_
 obtain rfl := oi hr
 exact eE.wk hq331 (eE.normal [] ((Wk.gc [] kT3 rfl trivial).to))

theorem sh (n : Nat) (g : an) (a : Int) (b : Int) (r : Bool) (hr : jG n g a b = some r) : aN Tryz.prog 110 [.agg (an.c g), ae a, ae b] (aB r) := by
 unfold jG at hr
 refine aN.bd G Tryz.func110 [.tmp 6] ?_
 unfold Tryz.f110
 simp only [gS]
 refine .seq (.r2 G 26 [(3, .hp 0 0), (4, .hp 1 0), (5, .hp 2 0)] [.own (an.c g), .own [ae a], .own [ae b]] (.seq (.seq ?_)))
 rcases bT (decide (a < 0)) with hb1 | hb1
 ·replace hr := cy hb1 hr
  refine .r0 G (.mu 1 (.p0 (v := aB true) (eB hb1) (.mu 12 (.done (.nh [3, 4, 5, 21] [.own (an.c g), .own [ae a], .own [ae b]] (.cT (by kernel_rfl) (.seq (.ru G (.ret ?_)))))))))
  obtain rfl := oi hr
  exact aJ.r1 [aB false]
 replace hr := cA hb1 hr
 rcases bT (decide (a >= b)) with hb2 | hb2
 ·replace hr := cy hb2 hr
  refine .r0 G (.mu 1 (.p0 (v := aB false) (eB hb1) (.mu 3 (.pure (v := aB true) (by kernel_rfl) (eB hb2) (.mu 8 (.done (.nh [3, 4, 5, 21] [.own (an.c g), .own [ae a], .own [ae b]] (.cT (by kernel_rfl) (.seq (.ru G (.ret ?_)))))))))))
  obtain rfl := oi hr
  exact aJ.r1 [aB false]
 replace hr := cA hb2 hr
 refine .r0 G (.mu 1 (.p0 (v := aB false) (eB hb1) (.mu 3 (.pure (v := aB false) (by kernel_rfl) (eB hb2) (.mu 8 (.done (.nh [3, 4, 5, 21] [.own (an.c g), .own [ae a], .own [ae b]] ?_)))))))
 refine .cd hr ?_ ?_ <;> intro hb3 hr
 ·refine .seq (.ru G (.ret ?_))
  obtain rfl := oi hr
  exact aJ.r1 [aB false]
 refine .skip (.seq (.r5 G [3, 4, 5] [(7, .hp 3 0)] [.own (an.c g), .own [ae a], .own [ae b], .own [aB false]] (.seq ?_)))
 obtain ⟨v4, hc5, hr⟩ := bd hr
 refine .g1 G (cC (args := [.agg (an.c g), .fn 149 [] [.hp 3 0, .hp 1 0, .hp 2 0]]) 3 0 [(3, true), (1, true), (2, true)] [true, true, true] (iU n g false a b v4 hc5) trivial trivial rfl rfl (by kernel_rfl) (by kernel_rfl)) (.mu 2 (.ca cf0 (.done (.nh [7] [.own (an.c g), .own [ae a], .own [ae b], .own [aB v4]] (.seq (.ru G (.ret ?_)))))))
 obtain rfl := oi hr
 exact aJ.r1 [aB v4]

theorem mF (n : Nat) (x' : ak) (y : ak) (r : Int) (hr : eS n x' y = some r) : aN Tryz.prog 102 [.agg (ak.c x'), .agg (ak.c y)] (ae r) := by
 unfold eS at hr
 refine aN.bd G Tryz.func102 [.tmp 4] ?_
 unfold Tryz.f102
 simp only [gS]
 refine .seq (.r2 G 20 [(2, .hp 0 0), (3, .hp 1 0)] [.own (ak.c x'), .own (ak.c y)] (.seq ?_))
 obtain ⟨v1, hc2, v3, hc4, hr⟩ := bd2 hr
 refine .tn G (ca1 (ok0 (dd n x' v1 hc2)) (ca3 (ok0 (dd n y v3 hc4)))) (.mu 1 (.ca cf0 (.mu 1 (.ca (cfA (fun h => by rw [sv hc4 hc2 (jC n h)]) cf0) (.mu 2 ?_)))))
 refine .done ⟨by kernel_rfl, ?_⟩
 refine .nh [2, 3] [.own (ak.c v1), .own (ak.c v3)] (.seq ?_)
 obtain ⟨v5, hc6, v7, hc8, v9, hc10, hr⟩ := bd3 hr
 refine .tn G (ca1 (ok0 (fi n v1.Num v3.Den v5 hc6)) (ca1 (ok0 (fi n v3.Num v1.Den v7 hc8)) (ca3 (ok0 (m7 n v5 v7 v9 hc10))))) (.mu 4 (.ca cf0 (.mu 4 (.ca (cfA (fun h => by rw [sv hc8 hc6 (iI n h)]) cf0) (.ca (cfF (cfF cf0)) (.mu 1 ?_))))))
 refine .done ⟨by kernel_rfl, ?_⟩
 refine .ret ?_
 obtain rfl := oi hr
 exact aJ.r1 [ae v9]

theorem qB {a : Int} {b : Int} {p : Int} {p' : Int} {p'' : Bool} {cU : List Int} {bx : Bool} {aP : List Int} {a_ : Int} {b_ : Int} {p_ : Int} {p'_ : Int} {p''_ : Bool} {p'''_ : List Int} {p''''_ : Bool} {p'''''_ : List Int} (h : ([.at (.int .i64 a), .at (.int .i64 b), .pp [.at (.int .i64 p), .at (.int .i64 p'), .at (.bool p''), slT (iC .u32) cU, .at (.bool bx), slT (iC .u32) aP] 0] : List AV) = [.at (.int .i64 a_), .at (.int .i64 b_), .pp [.at (.int .i64 p_), .at (.int .i64 p'_), .at (.bool p''_), slT (iC .u32) p'''_, .at (.bool p''''_), slT (iC .u32) p'''''_] 0]) : a = a_ /\ b = b_ /\ p = p_ /\ p' = p'_ /\ p'' = p''_ /\ cU = p'''_ /\ bx = p''''_ /\ aP = p'''''_ := by
 simp only [List.cons.injEq, AV.agg.injEq, AV.at.injEq, Value.int.injEq, Value.bool.injEq, AV.fn.injEq, AV.pp.injEq, true_and, and_true, eU] at h
 simp_all
theorem rp (n : Nat) {a : Int} {b : Int} {p : Int} {p' : Int} {p'' : Bool} {cU : List Int} {bx : Bool} {aP : List Int} {a_ : Int} {b_ : Int} {p_ : Int} {p'_ : Int} {p''_ : Bool} {p'''_ : List Int} {p''''_ : Bool} {p'''''_ : List Int} (h : ([.at (.int .i64 a), .at (.int .i64 b), .pp [.at (.int .i64 p), .at (.int .i64 p'), .at (.bool p''), slT (iC .u32) cU, .at (.bool bx), slT (iC .u32) aP] 0] : List AV) = [.at (.int .i64 a_), .at (.int .i64 b_), .pp [.at (.int .i64 p_), .at (.int .i64 p'_), .at (.bool p''_), slT (iC .u32) p'''_, .at (.bool p''''_), slT (iC .u32) p'''''_] 0]) : dS n a b p p' p'' cU bx aP = dS n a_ b_ p_ p'_ p''_ p'''_ p''''_ p'''''_ := by
 obtain ⟨rfl, rfl, rfl, rfl, rfl, rfl, rfl, rfl⟩ := qB h
 rfl
theorem m6 (n : Nat) (a : Int) (b : Int) (p : Int) (p' : Int) (p'' : Bool) (cU : List Int) (bx : Bool) (aP : List Int) (r : ak) (hr : dS n a b p p' p'' cU bx aP = some r) : aN Tryz.prog 111 [ae a, ae b, .pp [ae p, ae p', aB p'', au cU, aB bx, au aP] 0] (.agg (ak.c r)) := by
 unfold dS at hr
 refine aN.bd G Tryz.func111 [.cell 5 42] ?_
 unfold Tryz.f111
 simp only [gS]
 refine .seq (.r5 G [0, 1, 2] [(5, .hp 0 0)] [.own [aB false, nS, aB false, nS]] (.seq ?_))
 obtain ⟨v1, hc2, v3, hc4, v5, hc6, hr⟩ := bd3 hr
 obtain ⟨v7, hc8, hr⟩ := bd hr
 refine .tn G (ca1 (ok0 (dG n a v1 hc2)) (ca1 (ok0 (dG n (CT (b - a)) v3 hc4)) (ca1 (ok0 (fo n (ak.mk (ai.mk p'' cU) (ai.mk bx aP)) v3 v5 hc6)) (ca3 (ok0 (gR n v1 v5 v7 hc8)))))) (.mu 1 (.ca cf0 (.mu 5 (.ca (cfA (fun h => by rw [sv hc4 hc2 (ns n h)]) cf0) (.ca (cfF (cfF cf0)) (.ca (cfF (cfF (cfF cf0))) (.mu 1 ?_)))))))
 refine .done ⟨by kernel_rfl, ?_⟩
 refine .nh [5] [.own (ak.c v7)] (.ret ?_)
 obtain rfl := oi hr
 exact aJ.r1 [.agg (ak.c v7)]

theorem oE (n : Nat) (g : an) (c : al) (r : az × Int) (hr : ir n g c = some r) : aN Tryz.prog 66 [.agg (an.c g), .agg (al.c c)] (.tup [.agg (az.c r.1), ae r.2]) := by
 unfold ir at hr
 refine aN.bd G Tryz.func66 [.cell 4 59, .tmp 5] ?_
 unfold Tryz.f66
 simp only [gS]
 refine .seq (.r2 G 81 [(2, .hp 0 0), (3, .hp 1 0), (4, .hp 2 0)] [.own (an.c g), .own (al.c c), .own [aB false, nS, aB false, nS, aB false, nS, aB false, nS]] (.seq (.seq ?_)))
 obtain ⟨v1, hc2, hr⟩ := bd hr
 refine .g1 G (ok0 (sh n g c.A c.B v1 hc2)) (.mu 5 (.ca cf0 (.mu 1 (.done (.nh [2, 3, 4, 14] [.own (an.c g), .own (al.c c), .own [aB false, nS, aB false, nS, aB false, nS, aB false, nS]] ?_)))))
 refine .cd hr ?_ ?_ <;> intro hb4 hr
 ·refine .seq (.r4 G [4] [(5, ae 6)] (.ret ?_))
  obtain rfl := oi hr
  exact aJ.ret (vs := [.agg [aB false, nS, aB false, nS, aB false, nS, aB false, nS], ae 6]) (by kernel_rfl) (Sn.tup (SnL.cons (Sn.agg (Sp (SnL.cons Sn.cX (Sp (SnL.cons Sn.cX (Sp (SnL.cons Sn.cX (Sp (SnL.cons Sn.cX SnL.nil))))))))) (Sp SnL.nil)))
 refine .skip (.seq (.seq ?_))
 obtain ⟨v5, hc6, hr⟩ := bd hr
 refine .g1 G (ok0 (e9 n c.At v5 hc6)) (.mu 2 (.ca cf0 (.mu 1 (.done (.nh [2, 3, 4, 19] [.own (an.c g), .own (al.c c), .own [aB false, nS, aB false, nS, aB false, nS, aB false, nS]] ?_)))))
 refine .cd hr ?_ ?_ <;> intro hb8 hr
 ·refine .seq (.r4 G [4] [(5, ae 1)] (.ret ?_))
  obtain rfl := oi hr
  exact aJ.ret (vs := [.agg [aB false, nS, aB false, nS, aB false, nS, aB false, nS], ae 1]) (by kernel_rfl) (Sn.tup (SnL.cons (Sn.agg (Sp (SnL.cons Sn.cX (Sp (SnL.cons Sn.cX (Sp (SnL.cons Sn.cX (Sp (SnL.cons Sn.cX SnL.nil))))))))) (Sp SnL.nil)))
 refine .skip (.seq (.seq ?_))
 replace hr := bd hr; obtain ⟨x_11, hL20, hr⟩ := hr
 refine .zU (Q := fun x st' => x = .normal /\ Wk 0 st' ⟨mkS 81 0 [(2, .hp 0 0), (3, .hp 1 0), (4, .hp 2 0), (31, aB x_11)], [.own (an.c g), .own (al.c c), .own [aB false, nS, aB false, nS, aB false, nS, aB false, nS]]⟩) ?_ ?_
 ·clear hr
  have hr := hL20
  clear hL20
  obtain ⟨v12, hc13, hr⟩ := bd hr
  rcases bT (decide (v12 < 0)) with hb14 | hb14
  ·replace hr := cy hb14 hr
   refine .t1 G (ok0 (bF n c.At v12 hc13)) (.mu 2 (.ca cf0 (.pure (v := aB true) (by kernel_rfl) (eB hb14) (by kernel_rfl) (.mu 7 ?_))))
   refine .done ⟨by kernel_rfl, ?_⟩
   obtain rfl := oi hr
   exact ⟨rfl, ((Wk.gc [2, 3, 4, 31] kT3 rfl trivial).to)⟩
  replace hr := cA hb14 hr
  obtain ⟨v15, hc16, v17, hc18, hr⟩ := bd2 hr
  refine .tn G (ca1 (ok0 (bF n c.At v12 hc13)) (ca1 (ok0 (dG n 1 v15 hc16)) (ca3 (ok0 (mF n c.At v15 v17 hc18))))) (.mu 2 (.ca cf0 (.pure (v := aB false) (by kernel_rfl) (eB hb14) (by kernel_rfl) (.mu 3 (.ca (cfF cf0) (.ca (cfF (cfF cf0)) (.mu 2 ?_)))))))
  refine .done ⟨by kernel_rfl, ?_⟩
  obtain rfl := oi hr
  exact ⟨rfl, ((Wk.gc [2, 3, 4, 31] kT3 rfl trivial).to)⟩
 rintro x st' hq21
 clear hL20
 obtain ⟨rfl, hq21⟩ := hq21
 refine .wk hq21 ?_
 refine .cd hr ?_ ?_ <;> intro hb23 hr
 ·refine .seq (.r4 G [4] [(5, ae 2)] (.ret ?_))
  obtain rfl := oi hr
  exact aJ.ret (vs := [.agg [aB false, nS, aB false, nS, aB false, nS, aB false, nS], ae 2]) (by kernel_rfl) (Sn.tup (SnL.cons (Sn.agg (Sp (SnL.cons Sn.cX (Sp (SnL.cons Sn.cX (Sp (SnL.cons Sn.cX (Sp (SnL.cons Sn.cX SnL.nil))))))))) (Sp SnL.nil)))
 refine .skip (.seq (.r4 G [2, 3, 4] [(6, .fn 111 [] [.hp 1 0])] (.seq (.r4 G [2, 3, 4, 6] [(7, ae g.Width)] (.seq (.wk ((Wk.fix 1 (cs := (al.c c)) (by kernel_rfl)).to (c := ⟨mkS 81 0 [(2, .hp 0 0), (3, .hp 1 0), (4, .hp 2 0), (6, .fn 111 [] [.hp 1 0]), (7, ae g.Width)], [.own (an.c g), .fix (al.c c), .own [aB false, nS, aB false, nS, aB false, nS, aB false, nS]]⟩) (by kernel_rfl)) ?_))))))
 obtain ⟨hg24, hr⟩ := gd hr
 obtain ⟨v25, hc26, v27, hc28, hr⟩ := bd2 hr
 refine .tn G (ca1 (cR (args := [ae (CT (g.X0 + (CT ((c.A.tmod g.Width) * g.Step)))), ae (CT (g.X0 + (CT ((c.B.tmod g.Width) * g.Step)))), .hp 1 0]) (l := [1]) (Sp (Sp (SnL.cons (Sn.hp rfl (.inr rfl) (SnC.cons (Sn.pure rfl) (SnC.cons (Sn.pure rfl) (SnC.cons (Sn.pure rfl) (SnC.cons (Sn.pure rfl) (SnC.cons (Sn.pure rfl) (SnC.cons (Sn.pure rfl) SnC.nil))))))) SnL.nil))) (m6 n (CT (g.X0 + (CT ((c.A.tmod g.Width) * g.Step)))) (CT (g.X0 + (CT ((c.B.tmod g.Width) * g.Step)))) c.A c.B c.At.Num.Negative c.At.Num.Groups c.At.Den.Negative c.At.Den.Groups v25 hc26)) (ca3 (cR (args := [ae (CT (g.Y0 + (CT ((CT (c.A.tdiv g.Width)) * g.Step)))), ae (CT (g.Y0 + (CT ((CT (c.B.tdiv g.Width)) * g.Step)))), .hp 1 0]) (l := [1]) (Sp (Sp (SnL.cons (Sn.hp rfl (.inr rfl) (SnC.cons (Sn.pure rfl) (SnC.cons (Sn.pure rfl) (SnC.cons (Sn.pure rfl) (SnC.cons (Sn.pure rfl) (SnC.cons (Sn.pure rfl) (SnC.cons (Sn.pure rfl) SnC.nil))))))) SnL.nil))) (m6 n (CT (g.Y0 + (CT ((CT (c.A.tdiv g.Width)) * g.Step)))) (CT (g.Y0 + (CT ((CT (c.B.tdiv g.Width)) * g.Step)))) c.A c.B c.At.Num.Negative c.At.Num.Groups c.At.Den.Negative c.At.Den.Groups v27 hc28)))) (.mu 6 (.pure (v := ae (c.A.tmod g.Width)) (by kernel_rfl) (oM (x := c.A) (y := g.Width) (by kernel_rfl) (by kernel_rfl) hg24) (by kernel_rfl) (.mu 9 (.pure (v := ae (c.B.tmod g.Width)) (by kernel_rfl) (oM (x := c.B) (y := g.Width) (by kernel_rfl) (by kernel_rfl) hg24) (by kernel_rfl) (.mu 4 (.ca cf0 (.mu 6 (.pure (v := ae (CT (c.A.tdiv g.Width))) (by kernel_rfl) (pd (x := c.A) (y := g.Width) (by kernel_rfl) (by kernel_rfl) hg24) (by kernel_rfl) (.mu 9 (.pure (v := ae (CT (c.B.tdiv g.Width))) (by kernel_rfl) (pd (x := c.B) (y := g.Width) (by kernel_rfl) (by kernel_rfl) hg24) (by kernel_rfl) (.mu 4 (.ca (cfA (fun h => by rw [sv hc28 hc26 (rp n (show ([ae (CT (g.Y0 + (CT ((CT (c.A.tdiv g.Width)) * g.Step)))), ae (CT (g.Y0 + (CT ((CT (c.B.tdiv g.Width)) * g.Step)))), .pp (al.c c) 0] : List AV) = [ae (CT (g.X0 + (CT ((c.A.tmod g.Width) * g.Step)))), ae (CT (g.X0 + (CT ((c.B.tmod g.Width) * g.Step)))), .pp (al.c c) 0] from (congr (congrArg List.cons (List.cons.inj h).1) (congr (congrArg List.cons (List.cons.inj (List.cons.inj h).2).1) (congr (congrArg List.cons rfl) rfl)))))]) cf0) (.mu 3 ?_)))))))))))))
 refine .done ⟨by kernel_rfl, ?_⟩
 refine .nh [4, 5] [.own (an.c g), .fix (al.c c), .own [aB v25.Num.Negative, au v25.Num.Groups, aB v25.Den.Negative, au v25.Den.Groups, aB v27.Num.Negative, au v27.Num.Groups, aB v27.Den.Negative, au v27.Den.Groups]] (.ret ?_)
 obtain rfl := oi hr
 exact aJ.ret (vs := [.agg [aB v25.Num.Negative, au v25.Num.Groups, aB v25.Den.Negative, au v25.Den.Groups, aB v27.Num.Negative, au v27.Num.Groups, aB v27.Den.Negative, au v27.Den.Groups], ae 0]) (by kernel_rfl) (Sn.tup (Sp (Sp SnL.nil)))

theorem rP (n : Nat) (g : an) (c : ah) (r : List az × Int) (hr : m8 n g c = some r) : aN Tryz.prog 59 [.agg (an.c g), .agg (ah.c c)] (.tup [slT az.c r.1, ae r.2]) := by
 unfold m8 at hr
 refine aN.bd G Tryz.func59 [.tmp 4, .tmp 5] ?_
 unfold Tryz.f59
 simp only [gS]
 refine .seq (.r2 G 33 [(2, .hp 0 0), (3, .hp 1 0)] [.own (an.c g), .own (ah.c c)] (.seq (.r4 G [2, 3] [(6, nS)] (.seq (.seq (.r4 G [2, 6] [(12, slT al.c c.Points), (13, ae (c.Points.length : Int)), (14, ae 0)] (.block ?_)))))))
 replace hr := bd hr; obtain ⟨o21, hL22, hr⟩ := hr
 refine .aO (σ := fun z0 => match z0 with | (o_1, x_2) => ⟨mkS 33 0 [(2, .hp 0 0), (6, .hs 1 0 o_1.length 8), (12, slT al.c c.Points), (13, ae (c.Points.length : Int)), (14, ae x_2)], [.own (an.c g), .own (o_1.flatMap az.c)]⟩) (Q := fun x st' => match (generalizing := false) o21 with | .inl o_11 => x = .exit 0 /\ Wk 0 st' ⟨mkS 33 0 [(6, .hs 0 0 o_11.length 8)], [.own (o_11.flatMap az.c)]⟩ | .inr (r0) => x = .ret /\ aJ Tryz.prog [.tmp 4, .tmp 5] (.tup [slT az.c r0.1, ae r0.2]) .ret st') hL22 ((Wk.nil 6 8 (by kernel_rfl)).trans ((Wk.gc [2, 6, 12, 13, 14] [(0, true), (2, false)] rfl (pKt (pKc trivial))).to)) ?_ ?_
 ·clear hr
  rintro m ⟨o_1, x_2⟩ hr
  show CQ _ _ _ _ _ ⟨_, _⟩
  refine .seq (.r4 G [2, 6, 12, 13, 14] [(15, aB (decide (x_2 < (c.Points.length : Int))))] (.seq ?_))
  refine .cd hr ?_ ?_ <;> intro hb14 hr
  ·refine .skip (.seq (.block (.seq ?_)))
   obtain ⟨hg15, hr⟩ := gd hr
   refine .r0 G (.p0 (v := .pp (c.Points.flatMap al.c) (x_2.toNat * 6)) (tr (ar hg15)) (.p0 (v := .agg (al.c (gt c.Points x_2))) (tr (y := bI.ofP (eG (decide (6 <= ((c.Points.flatMap al.c).drop (x_2.toNat * 6)).length)) (.agg (((c.Points.flatMap al.c).drop (x_2.toNat * 6)).take 6)))) (ch al.len (aD hg15) (by decide) (by omega : x_2.toNat * 6 = x_2.toNat * 6 + 0) (by kernel_rfl))) (.mu 2 (.done (.nh [2, 6, 8, 12, 13, 14] [.own (an.c g), .own (o_1.flatMap az.c), .own (al.c (gt c.Points x_2))] (.seq ?_))))))
   obtain ⟨v16, hc17, hr⟩ := bd hr
   refine .g1 G (ok0 (oE n g (gt c.Points x_2) v16 hc17)) (.mu 2 (.ca cf0 (.mu 6 (.done (.nh [2, 6, 9, 10, 12, 13, 14] [.own (an.c g), .own (o_1.flatMap az.c), .own (al.c (gt c.Points x_2)), .own (az.c v16.1)] (.seq (.seq (.r4 G [2, 6, 9, 10, 12, 13, 14] [(25, aB ((v16.2 : Int) != 0))] ?_))))))))
   refine .cd hr ?_ ?_ <;> intro hb18 hr
   ·refine .seq (.r3 G 33 [(4, nS), (5, ae v16.2)] (.ret ?_))
    obtain rfl := oi hr
    exact ⟨rfl, aJ.ret (vs := [nS, ae v16.2]) (by kernel_rfl) (Sn.tup (SnL.cons Sn.cX (Sp SnL.nil)))⟩
   refine .skip ?_
   obtain ⟨hg19, hg20, hr⟩ := gd2 hr
   refine .r0 G (.mu 3 (.e0 (v := .hs 5 0 (o_1 ++ [v16.1]).length 8) (ws := [(1, .dead), (5, .own ((o_1 ++ [v16.1]).flatMap az.c))]) (tr (fc (new := (az.c v16.1)) (l := o_1) (xs := [v16.1]) az.len rfl rfl (by kernel_rfl) hg19 hg20)) (.mu 1 (.done (.pop (.ru G ?_))))))
   exact aA (o_1 ++ [v16.1], CT (x_2 + 1)) hr ((Wk.gc [2, 6, 12, 13, 14] [(0, true), (5, false)] rfl (pKt (pKo az.c az.pure (o_1 ++ [v16.1]) trivial))).to)
  refine .leave rfl ?_
  obtain rfl := oi hr
  exact ⟨rfl, ((Wk.gc [6] [(1, false)] rfl (pKo az.c az.pure o_1 trivial)).to)⟩
 rcases o21 with o_11 | r0
 ·rintro x st' hq23
  clear hL22
  obtain ⟨rfl, hq23⟩ := hq23
  refine a9 _ rfl (.wk hq23 (.seq (.r3 G 33 [(4, .hs 0 0 o_11.length 8), (5, ae 0)] (.ret ?_))))
  obtain rfl := oi hr
  exact aJ.ret (vs := [.hs 0 0 o_11.length 8, ae 0]) (by kernel_rfl) (Sn.tup (SnL.cons (Sn.hs rfl (.inl rfl) (SnC.pure (bc az.pure _)) (fun h => cP h)) (Sp SnL.nil)))
 rintro x st' hq23
 clear hL22
 obtain ⟨rfl, hq23⟩ := hq23
 obtain rfl := oi hr
 exact iK _ hq23
end Go.L
