
import Derived.Test.YtecdcgfclgmbpaaGreatPlcLP3
import Derived.Test.YtecdcgfclgmbpaaGreatL0Plcs
import Derived.Test.YtecdcgfclgmbpaaGreatChecked
import Derived.KernelRfl
set_option linter.all false
set_option maxRecDepth 100000
set_option maxHeartbeats 4000000
namespace Go.L
open Go Go.Eng Go.Proofs
theorem pe (n : Nat) (g : an) (r : Int) (hr : fY n g = some r) : aN Tryz.prog 23 [.agg (an.c g)] (ae r) := by
 unfold fY at hr
 refine aN.bd G Tryz.func23 [.tmp 2] ?_
 unfold Tryz.f23
 simp only [gS]
 refine .seq (.r2 G 72 [(1, .hp 0 0)] [.own (an.c g)] (.seq (.seq ?_)))
 rcases bT (decide (g.Width < 2)) with hb1 | hb1
 ·replace hr := cy hb1 hr
  refine .r0 G (.mu 2 (.p0 (v := aB true) (eB hb1) (.mu 41 (.done (.nh [1, 48] [.own (an.c g)] (.cT (by kernel_rfl) (.seq (.ru G (.ret ?_)))))))))
  obtain rfl := oi hr
  exact aJ.r1 [ae 2]
 replace hr := cA hb1 hr
 rcases bT (decide (g.Width > 64)) with hb2 | hb2
 ·replace hr := cy hb2 hr
  refine .r0 G (.mu 2 (.p0 (v := aB false) (eB hb1) (.mu 3 (.pure (v := aB true) (by kernel_rfl) (eB hb2) (.mu 37 (.done (.nh [1, 48] [.own (an.c g)] (.cT (by kernel_rfl) (.seq (.ru G (.ret ?_)))))))))))
  obtain rfl := oi hr
  exact aJ.r1 [ae 2]
 replace hr := cA hb2 hr
 rcases bT (decide (g.Height < 2)) with hb3 | hb3
 ·replace hr := cy hb3 hr
  refine .r0 G (.mu 2 (.p0 (v := aB false) (eB hb1) (.mu 3 (.pure (v := aB false) (by kernel_rfl) (eB hb2) (.mu 4 (.pure (v := aB true) (by kernel_rfl) (eB hb3) (.mu 32 (.done (.nh [1, 48] [.own (an.c g)] (.cT (by kernel_rfl) (.seq (.ru G (.ret ?_)))))))))))))
  obtain rfl := oi hr
  exact aJ.r1 [ae 2]
 replace hr := cA hb3 hr
 rcases bT (decide (g.Height > 64)) with hb4 | hb4
 ·replace hr := cy hb4 hr
  refine .r0 G (.mu 2 (.p0 (v := aB false) (eB hb1) (.mu 3 (.pure (v := aB false) (by kernel_rfl) (eB hb2) (.mu 4 (.pure (v := aB false) (by kernel_rfl) (eB hb3) (.mu 4 (.pure (v := aB true) (by kernel_rfl) (eB hb4) (.mu 27 (.done (.nh [1, 48] [.own (an.c g)] (.cT (by kernel_rfl) (.seq (.ru G (.ret ?_)))))))))))))))
  obtain rfl := oi hr
  exact aJ.r1 [ae 2]
 replace hr := cA hb4 hr
 rcases bT (decide (g.Step < 2)) with hb5 | hb5
 ·replace hr := cy hb5 hr
  refine .r0 G (.mu 2 (.p0 (v := aB false) (eB hb1) (.mu 3 (.pure (v := aB false) (by kernel_rfl) (eB hb2) (.mu 4 (.pure (v := aB false) (by kernel_rfl) (eB hb3) (.mu 4 (.pure (v := aB false) (by kernel_rfl) (eB hb4) (.mu 4 (.pure (v := aB true) (by kernel_rfl) (eB hb5) (.mu 22 (.done (.nh [1, 48] [.own (an.c g)] (.cT (by kernel_rfl) (.seq (.ru G (.ret ?_)))))))))))))))))
  obtain rfl := oi hr
  exact aJ.r1 [ae 2]
 replace hr := cA hb5 hr
 rcases bT (decide (g.Step > 65536)) with hb6 | hb6
 ·replace hr := cy hb6 hr
  refine .r0 G (.mu 2 (.p0 (v := aB false) (eB hb1) (.mu 3 (.pure (v := aB false) (by kernel_rfl) (eB hb2) (.mu 4 (.pure (v := aB false) (by kernel_rfl) (eB hb3) (.mu 4 (.pure (v := aB false) (by kernel_rfl) (eB hb4) (.mu 4 (.pure (v := aB false) (by kernel_rfl) (eB hb5) (.mu 4 (.pure (v := aB true) (by kernel_rfl) (eB hb6) (.mu 17 (.done (.nh [1, 48] [.own (an.c g)] (.cT (by kernel_rfl) (.seq (.ru G (.ret ?_)))))))))))))))))))
  obtain rfl := oi hr
  exact aJ.r1 [ae 2]
 replace hr := cA hb6 hr
 rcases bT (((g.Step.tmod 2) : Int) != 0) with hb7 | hb7
 ·replace hr := cy hb7 hr
  refine .r0 G (.mu 2 (.p0 (v := aB false) (eB hb1) (.mu 3 (.pure (v := aB false) (by kernel_rfl) (eB hb2) (.mu 4 (.pure (v := aB false) (by kernel_rfl) (eB hb3) (.mu 4 (.pure (v := aB false) (by kernel_rfl) (eB hb4) (.mu 4 (.pure (v := aB false) (by kernel_rfl) (eB hb5) (.mu 4 (.pure (v := aB false) (by kernel_rfl) (eB hb6) (.mu 5 (.pure (v := aB true) (by kernel_rfl) (eB hb7) (.mu 11 (.done (.nh [1, 48] [.own (an.c g)] (.cT (by kernel_rfl) (.seq (.ru G (.ret ?_)))))))))))))))))))))
  obtain rfl := oi hr
  exact aJ.r1 [ae 2]
 replace hr := cA hb7 hr
 obtain ⟨v8, hc9, hr⟩ := bd hr
 rcases bT v8 with hb10 | hb10
 ·subst hb10
  replace hr := cy rfl hr
  refine .g1 G (ok0 (gX n g.X0 true hc9)) (.mu 2 (.p0 (v := aB false) (eB hb1) (.mu 3 (.pure (v := aB false) (by kernel_rfl) (eB hb2) (.mu 4 (.pure (v := aB false) (by kernel_rfl) (eB hb3) (.mu 4 (.pure (v := aB false) (by kernel_rfl) (eB hb4) (.mu 4 (.pure (v := aB false) (by kernel_rfl) (eB hb5) (.mu 4 (.pure (v := aB false) (by kernel_rfl) (eB hb6) (.mu 5 (.pure (v := aB false) (by kernel_rfl) (eB hb7) (.mu 4 (.ca cf0 (.mu 6 (.done (.nh [1, 48] [.own (an.c g)] (.cT (by kernel_rfl) (.seq (.ru G (.ret ?_)))))))))))))))))))))))
  obtain rfl := oi hr
  exact aJ.r1 [ae 2]
 subst hb10
 replace hr := cA rfl hr
 obtain ⟨v11, hc12, hr⟩ := bd hr
 refine .gn G (ca1 (ok0 (gX n g.X0 false hc9)) (ca3 (ok0 (gX n g.Y0 v11 hc12)))) (.mu 2 (.p0 (v := aB false) (eB hb1) (.mu 3 (.pure (v := aB false) (by kernel_rfl) (eB hb2) (.mu 4 (.pure (v := aB false) (by kernel_rfl) (eB hb3) (.mu 4 (.pure (v := aB false) (by kernel_rfl) (eB hb4) (.mu 4 (.pure (v := aB false) (by kernel_rfl) (eB hb5) (.mu 4 (.pure (v := aB false) (by kernel_rfl) (eB hb6) (.mu 5 (.pure (v := aB false) (by kernel_rfl) (eB hb7) (.mu 4 (.ca cf0 (.mu 4 (.ca (cfA (fun h => by rw [sv hc12 hc9 (pU n h)]) cf0) (.mu 1 (.done (.nh [1, 48] [.own (an.c g)] ?_)))))))))))))))))))))
 refine .cd hr ?_ ?_ <;> intro hb13 hr
 ·refine .seq (.ru G (.ret ?_))
  obtain rfl := oi hr
  exact aJ.r1 [ae 2]
 refine .skip (.seq (.seq (.r4 G [1] [(57, aB (((g.Z.length : Int) : Int) != (CT (g.Width * g.Height))))] ?_)))
 refine .cd hr ?_ ?_ <;> intro hb14 hr
 ·refine .seq (.ru G (.ret ?_))
  obtain rfl := oi hr
  exact aJ.r1 [ae 4]
 refine .skip (.seq (.seq (.r3 G 72 [(59, bG g.Z), (60, ae (g.Z.length : Int)), (61, ae 0)] (.block ?_))))
 replace hr := bd hr; obtain ⟨o29, hL30, hr⟩ := hr
 refine .aO (σ := fun z0 => match z0 with | x_15 => ⟨mkS 72 0 [(59, bG g.Z), (60, ae (g.Z.length : Int)), (61, ae x_15)], []⟩) (Q := fun x st' => match (generalizing := false) o29 with | .inl _ => x = .exit 0 /\ Wk 0 st' ⟨mkS 72 0 [], []⟩ | .inr (r0) => x = .ret /\ aJ Tryz.prog [.tmp 2] (ae r0) .ret st') hL30 ((Wk.gc [59, 60, 61] [] rfl pK0).to) ?_ ?_
 ·clear hr
  rintro m x_15 hr
  show CQ _ _ _ _ _ ⟨_, _⟩
  refine .seq (.r4 G [59, 60, 61] [(62, aB (decide (x_15 < (g.Z.length : Int))))] (.seq ?_))
  refine .cd hr ?_ ?_ <;> intro hb23 hr
  ·refine .skip (.seq (.block (.seq ?_)))
   obtain ⟨hg24, hr⟩ := gd hr
   refine .r0 G (.p0 (v := .pp (g.Z.flatMap (iC .i64)) (x_15.toNat * 1)) (tr (ar hg24)) (.p0 (v := ae (gt g.Z x_15)) (tr (aH (aK (aI .i64) (aD hg24) z1 (by omega : x_15.toNat * 1 = x_15.toNat * 1 + 0) (by kernel_rfl)))) (.mu 1 (.done (.nh [4, 59, 60, 61] [] (.seq ?_))))))
   rcases bT (((gt g.Z x_15) : Int) != (-2147483648)) with hb25 | hb25
   ·replace hr := cy hb25 hr
    obtain ⟨v26, hc27, hr⟩ := bd hr
    refine .g1 G (ok0 (gX n (gt g.Z x_15) v26 hc27)) (.mu 1 (.p0 (v := aB true) (eB hb25) (.mu 2 (.ca cf0 (.mu 1 (.done (.nh [59, 60, 61, 70] [] ?_)))))))
    refine .cd hr ?_ ?_ <;> intro hb28 hr
    ·refine .seq (.ru G (.ret ?_))
     obtain rfl := oi hr
     exact ⟨rfl, aJ.ret (vs := [ae 2]) (by kernel_rfl) (Sn.pure rfl)⟩
    refine .skip (.pop (.ru G ?_))
    exact aA (CT (x_15 + 1)) hr ((Wk.gc [59, 60, 61] [] rfl pK0).to)
   replace hr := cA hb25 hr
   refine .r0 G (.mu 1 (.p0 (v := aB false) (eB hb25) (.mu 4 (.done (.nh [59, 60, 61, 70] [] (.cF (by kernel_rfl) (.skip (.pop (.ru G ?_)))))))))
   exact aA (CT (x_15 + 1)) hr ((Wk.gc [59, 60, 61] [] rfl pK0).to)
  refine .leave rfl ?_
  obtain rfl := oi hr
  exact ⟨rfl, ((Wk.gc [] [] rfl pK0).to)⟩
 rcases o29 with ⟨⟩ | r0
 ·rintro x st' hq31
  clear hL30
  obtain ⟨rfl, hq31⟩ := hq31
  refine a9 _ rfl (.wk hq31 (.seq (.ru G (.ret ?_))))
  obtain rfl := oi hr
  exact aJ.r1 [ae 0]
 rintro x st' hq31
 clear hL30
 obtain ⟨rfl, hq31⟩ := hq31
 obtain rfl := oi hr
 exact iK _ hq31

theorem nm (n : Nat) (g : an) (r : List (A3 Int)) (hr : eO n g = some r) : aN Tryz.prog 67 [.agg (an.c g)] (slT aC.c r) := by
 unfold eO at hr
 refine aN.bd G Tryz.func67 [.tmp 2] ?_
 unfold Tryz.f67
 simp only [gS]
 refine .seq (.r2 G 87 [(1, .hp 0 0)] [.own (an.c g)] (.seq (.r5 G [1] [(3, .hs 1 0 0 3)] [.own (an.c g), .own []] (.seq (.seq (.r4 G [1, 3] [(12, ae (CT (g.Height - 1))), (13, ae 0)] (.block ?_)))))))
 replace hr := bd hr; obtain ⟨l_75, hL150, hr⟩ := hr
 refine .aO (σ := fun z0 => match z0 with | (l_1, x_2) => ⟨mkS 87 0 [(1, .hp 0 0), (3, .hs 1 0 l_1.length 3), (12, ae (CT (g.Height - 1))), (13, ae x_2)], [.own (an.c g), .own (l_1.flatMap aC.c)]⟩) (Q := fun x st' => x = .exit 0 /\ Wk 0 st' ⟨mkS 87 0 [(3, .hs 0 0 l_75.length 3)], [.own (l_75.flatMap aC.c)]⟩) hL150 ((Wk.gc [1, 3, 12, 13] [(0, true), (1, false)] rfl (pKt (pKc trivial))).to) ?_ ?_
 ·clear hr
  rintro m ⟨l_1, x_2⟩ hr
  show CQ _ _ _ _ _ ⟨_, _⟩
  refine .seq (.r4 G [1, 3, 12, 13] [(14, aB (decide (x_2 < (CT (g.Height - 1)))))] (.seq ?_))
  refine .cd hr ?_ ?_ <;> intro hb77 hr
  ·refine .skip (.seq (.block (.seq (.r4 G [1, 3, 12, 13] [(4, ae x_2)] (.seq (.r4 G [1, 3, 4, 12, 13] [(18, ae (CT (g.Width - 1))), (19, ae 0)] (.block ?_)))))))
   replace hr := bd hr; obtain ⟨l_112, hL147, hr⟩ := hr
   refine .aO (σ := fun z0 => match z0 with | (l_78, x_79) => ⟨mkS 87 0 [(1, .hp 0 0), (3, .hs 1 0 l_78.length 3), (4, ae x_2), (12, ae (CT (g.Height - 1))), (13, ae x_2), (18, ae (CT (g.Width - 1))), (19, ae x_79)], [.own (an.c g), .own (l_78.flatMap aC.c)]⟩) (Q := fun x st' => x = .exit 2 /\ Wk 0 st' ⟨mkS 87 0 [(1, .hp 0 0), (3, .hs 1 0 l_112.length 3), (12, ae (CT (g.Height - 1))), (13, ae x_2)], [.own (an.c g), .own (l_112.flatMap aC.c)]⟩) hL147 ((Wk.gc [1, 3, 4, 12, 13, 18, 19] [(0, true), (1, false)] rfl (pKt (pKo aC.c aC.pure l_1 trivial))).to) ?_ ?_
   ·clear hr
    rintro m ⟨l_78, x_79⟩ hr
    show CQ _ _ _ _ _ ⟨_, _⟩
    refine .seq (.r4 G [1, 3, 4, 12, 13, 18, 19] [(20, aB (decide (x_79 < (CT (g.Width - 1)))))] (.seq ?_))
    refine .cd hr ?_ ?_ <;> intro hb114 hr
    ·refine .skip (.seq (.block (.seq (.r4 G [1, 3, 4, 12, 13, 18, 19] [(5, ae x_79)] (.seq (.r4 G [1, 3, 4, 12, 13, 18, 19] [(6, ae (CT ((CT (x_2 * g.Width)) + x_79)))] ?_))))))
     obtain ⟨w115, hw116, hr⟩ := bd hr
     refine .wk ((Wk.refl _).to (c := ⟨mkS 87 0 [(1, .hp 0 0), (3, .hs 1 0 l_78.length 3), (4, ae x_2), (6, ae w115), (12, ae (CT (g.Height - 1))), (13, ae x_2), (18, ae (CT (g.Width - 1))), (19, ae x_79)], [.own (an.c g), .own (l_78.flatMap aC.c)]⟩) (by rw [oi hw116]; first | done | kernel_rfl)) <| .seq <| .r5 G [1, 3, 4, 12, 13, 18, 19] [(48, .hs 2 0 2 3), (49, ae 2), (50, ae 0)] [.own (an.c g), .own (l_78.flatMap aC.c), .own [ae w115, ae (CT (w115 + 1)), ae (CT ((CT (w115 + g.Width)) + 1)), ae w115, ae (CT ((CT (w115 + g.Width)) + 1)), ae (CT (w115 + g.Width))]] <| .block ?_
     obtain ⟨w117, hw118, hr⟩ := bd hr
     refine .wk ((Wk.refl _).to (c := ⟨mkS 87 0 [(1, .hp 0 0), (3, .hs 1 0 l_78.length 3), (4, ae x_2), (12, ae (CT (g.Height - 1))), (13, ae x_2), (18, ae (CT (g.Width - 1))), (19, ae x_79), (48, .hs 2 0 w117.length 3), (49, ae 2), (50, ae 0)], [.own (an.c g), .own (l_78.flatMap aC.c), .own (w117.flatMap aC.c)]⟩) (by rw [<- oi hw118]; kernel_rfl)) ?_
     replace hr := bd hr; obtain ⟨l_131, hL144, hr⟩ := hr
     refine .aO (σ := fun z0 => match z0 with | (l_119, x_120) => ⟨mkS 87 0 [(1, .hp 0 0), (3, .hs 1 0 l_119.length 3), (4, ae x_2), (12, ae (CT (g.Height - 1))), (13, ae x_2), (18, ae (CT (g.Width - 1))), (19, ae x_79), (48, .hs 2 0 w117.length 3), (49, ae 2), (50, ae x_120)], [.own (an.c g), .own (l_119.flatMap aC.c), .own (w117.flatMap aC.c)]⟩) (Q := fun x st' => x = .exit 4 /\ Wk 0 st' ⟨mkS 87 0 [(1, .hp 0 0), (3, .hs 1 0 l_131.length 3), (4, ae x_2), (12, ae (CT (g.Height - 1))), (13, ae x_2), (18, ae (CT (g.Width - 1))), (19, ae x_79)], [.own (an.c g), .own (l_131.flatMap aC.c)]⟩) hL144 ((Wk.gc [1, 3, 4, 12, 13, 18, 19, 48, 49, 50] [(0, true), (1, false), (2, false)] rfl (pKt (pKo aC.c aC.pure l_78 (pKo aC.c aC.pure w117 trivial)))).to) ?_ ?_
     ·clear hr
      rintro m ⟨l_119, x_120⟩ hr
      show CQ _ _ _ _ _ ⟨_, _⟩
      refine .seq (.r4 G [1, 3, 4, 12, 13, 18, 19, 48, 49, 50] [(51, aB (decide (x_120 < 2)))] (.seq ?_))
      refine .cd hr ?_ ?_ <;> intro hb133 hr
      ·refine .skip (.seq (.block (.seq ?_)))
       obtain ⟨hg134, hr⟩ := gd hr
       refine .r0 G (.p0 (v := .hp 2 (0 + x_120.toNat * 3)) (tr (ar hg134)) (.p0 (v := .agg [ae (gt w117 x_120).e0, ae (gt w117 x_120).e1, ae (gt w117 x_120).e2]) (tr (y := bI.ofP (eG (decide (3 <= ((w117.flatMap aC.c).drop (0 + x_120.toNat * 3)).length)) (.agg (((w117.flatMap aC.c).drop (0 + x_120.toNat * 3)).take 3)))) (ch aC.len (aD hg134) (by decide) (by omega : 0 + x_120.toNat * 3 = x_120.toNat * 3 + 0) (by kernel_rfl))) (.mu 2 (.done (.nh [1, 3, 4, 8, 12, 13, 18, 19, 48, 49, 50] [.own (an.c g), .own (l_119.flatMap aC.c), .own (w117.flatMap aC.c), .own [ae (gt w117 x_120).e0, ae (gt w117 x_120).e1, ae (gt w117 x_120).e2]] (.seq ?_))))))
       obtain ⟨hg135, hr⟩ := gd hr
       rcases bT (((gt g.Z (gt w117 x_120).e0) : Int) != (-2147483648)) with hb136 | hb136
       ·replace hr := cy hb136 hr
        obtain ⟨hg137, hr⟩ := gd hr
        rcases bT (((gt g.Z (gt w117 x_120).e1) : Int) != (-2147483648)) with hb138 | hb138
        ·replace hr := cy hb138 hr
         obtain ⟨hg139, hr⟩ := gd hr
         refine .r0 G (.mu 4 (.p0 (v := .pp (g.Z.flatMap (iC .i64)) ((gt w117 x_120).e0.toNat * 1)) (tr (ar hg135)) (.p0 (v := ae (gt g.Z (gt w117 x_120).e0)) (tr (aH (aK (aI .i64) (aD hg135) z1 (by omega : (gt w117 x_120).e0.toNat * 1 = (gt w117 x_120).e0.toNat * 1 + 0) (by kernel_rfl)))) (.p0 (v := aB true) (eB hb136) (.mu 5 (.pure (v := .pp (g.Z.flatMap (iC .i64)) ((gt w117 x_120).e1.toNat * 1)) (by kernel_rfl) (tr (ar hg137)) (.pure (v := ae (gt g.Z (gt w117 x_120).e1)) (by kernel_rfl) (tr (aH (aK (aI .i64) (aD hg137) z1 (by omega : (gt w117 x_120).e1.toNat * 1 = (gt w117 x_120).e1.toNat * 1 + 0) (by kernel_rfl)))) (.pure (v := aB true) (by kernel_rfl) (eB hb138) (.mu 6 (.pure (v := .pp (g.Z.flatMap (iC .i64)) ((gt w117 x_120).e2.toNat * 1)) (by kernel_rfl) (tr (ar hg139)) (.pure (v := ae (gt g.Z (gt w117 x_120).e2)) (by kernel_rfl) (tr (aH (aK (aI .i64) (aD hg139) z1 (by omega : (gt w117 x_120).e2.toNat * 1 = (gt w117 x_120).e2.toNat * 1 + 0) (by kernel_rfl)))) (.mu 2 (.done (.nh [1, 3, 4, 8, 12, 13, 18, 19, 48, 49, 50, 78] [.own (an.c g), .own (l_119.flatMap aC.c), .own (w117.flatMap aC.c), .own [ae (gt w117 x_120).e0, ae (gt w117 x_120).e1, ae (gt w117 x_120).e2]] ?_))))))))))))))
         refine .cd hr ?_ ?_ <;> intro hb140 hr
         ·obtain ⟨hg141, hg142, hr⟩ := gd2 hr
          refine .r0 G (.mu 3 (.e0 (v := .hs 5 0 (l_119 ++ [(gt w117 x_120)]).length 3) (ws := [(1, .dead), (5, .own ((l_119 ++ [(gt w117 x_120)]).flatMap aC.c))]) (tr (fc (new := [ae (gt w117 x_120).e0, ae (gt w117 x_120).e1, ae (gt w117 x_120).e2]) (l := l_119) (xs := [(gt w117 x_120)]) aC.len rfl rfl (by kernel_rfl) hg141 hg142)) (.mu 1 (.done (.pop (.ru G ?_))))))
          exact aA (l_119 ++ [(gt w117 x_120)], CT (x_120 + 1)) hr ((Wk.gc [1, 3, 4, 12, 13, 18, 19, 48, 49, 50] [(0, true), (5, false), (2, false)] rfl (pKt (pKo aC.c aC.pure (l_119 ++ [(gt w117 x_120)]) (pKo aC.c aC.pure w117 trivial)))).to)
         refine .skip (.pop (.ru G ?_))
         exact aA (l_119, CT (x_120 + 1)) hr ((Wk.gc [1, 3, 4, 12, 13, 18, 19, 48, 49, 50] [(0, true), (1, false), (2, false)] rfl (pKt (pKo aC.c aC.pure l_119 (pKo aC.c aC.pure w117 trivial)))).to)
        replace hr := cA hb138 hr
        refine .r0 G (.mu 4 (.p0 (v := .pp (g.Z.flatMap (iC .i64)) ((gt w117 x_120).e0.toNat * 1)) (tr (ar hg135)) (.p0 (v := ae (gt g.Z (gt w117 x_120).e0)) (tr (aH (aK (aI .i64) (aD hg135) z1 (by omega : (gt w117 x_120).e0.toNat * 1 = (gt w117 x_120).e0.toNat * 1 + 0) (by kernel_rfl)))) (.p0 (v := aB true) (eB hb136) (.mu 5 (.pure (v := .pp (g.Z.flatMap (iC .i64)) ((gt w117 x_120).e1.toNat * 1)) (by kernel_rfl) (tr (ar hg137)) (.pure (v := ae (gt g.Z (gt w117 x_120).e1)) (by kernel_rfl) (tr (aH (aK (aI .i64) (aD hg137) z1 (by omega : (gt w117 x_120).e1.toNat * 1 = (gt w117 x_120).e1.toNat * 1 + 0) (by kernel_rfl)))) (.pure (v := aB false) (by kernel_rfl) (eB hb138) (.mu 10 (.done (.nh [1, 3, 4, 8, 12, 13, 18, 19, 48, 49, 50, 78] [.own (an.c g), .own (l_119.flatMap aC.c), .own (w117.flatMap aC.c), .own [ae (gt w117 x_120).e0, ae (gt w117 x_120).e1, ae (gt w117 x_120).e2]] (.cF (by kernel_rfl) (.skip (.pop (.ru G ?_)))))))))))))))
        exact aA (l_119, CT (x_120 + 1)) hr ((Wk.gc [1, 3, 4, 12, 13, 18, 19, 48, 49, 50] [(0, true), (1, false), (2, false)] rfl (pKt (pKo aC.c aC.pure l_119 (pKo aC.c aC.pure w117 trivial)))).to)
       replace hr := cA hb136 hr
       refine .r0 G (.mu 4 (.p0 (v := .pp (g.Z.flatMap (iC .i64)) ((gt w117 x_120).e0.toNat * 1)) (tr (ar hg135)) (.p0 (v := ae (gt g.Z (gt w117 x_120).e0)) (tr (aH (aK (aI .i64) (aD hg135) z1 (by omega : (gt w117 x_120).e0.toNat * 1 = (gt w117 x_120).e0.toNat * 1 + 0) (by kernel_rfl)))) (.p0 (v := aB false) (eB hb136) (.mu 18 (.done (.nh [1, 3, 4, 8, 12, 13, 18, 19, 48, 49, 50, 78] [.own (an.c g), .own (l_119.flatMap aC.c), .own (w117.flatMap aC.c), .own [ae (gt w117 x_120).e0, ae (gt w117 x_120).e1, ae (gt w117 x_120).e2]] (.cF (by kernel_rfl) (.skip (.pop (.ru G ?_)))))))))))
       exact aA (l_119, CT (x_120 + 1)) hr ((Wk.gc [1, 3, 4, 12, 13, 18, 19, 48, 49, 50] [(0, true), (1, false), (2, false)] rfl (pKt (pKo aC.c aC.pure l_119 (pKo aC.c aC.pure w117 trivial)))).to)
      refine .leave rfl ?_
      obtain rfl := oi hr
      exact ⟨rfl, ((Wk.gc [1, 3, 4, 12, 13, 18, 19] [(0, true), (1, false)] rfl (pKt (pKo aC.c aC.pure l_119 trivial))).to)⟩
     rintro x st' hq145
     clear hL144
     obtain ⟨rfl, hq145⟩ := hq145
     refine a9 _ rfl (.pop (.wk hq145 (.ru G ?_)))
     exact aA (l_131, CT (x_79 + 1)) hr ((Wk.gc [1, 3, 4, 12, 13, 18, 19] [(0, true), (1, false)] rfl (pKt (pKo aC.c aC.pure l_131 trivial))).to)
    refine .leave rfl ?_
    obtain rfl := oi hr
    exact ⟨rfl, ((Wk.gc [1, 3, 12, 13] [(0, true), (1, false)] rfl (pKt (pKo aC.c aC.pure l_78 trivial))).to)⟩
   rintro x st' hq148
   clear hL147
   obtain ⟨rfl, hq148⟩ := hq148
   refine a9 _ rfl (.pop (.wk hq148 (.ru G ?_)))
   exact aA (l_112, CT (x_2 + 1)) hr ((Wk.gc [1, 3, 12, 13] [(0, true), (1, false)] rfl (pKt (pKo aC.c aC.pure l_112 trivial))).to)
  refine .leave rfl ?_
  obtain rfl := oi hr
  exact ⟨rfl, ((Wk.gc [3] [(1, false)] rfl (pKo aC.c aC.pure l_1 trivial)).to)⟩
 rintro x st' hq151
 clear hL150
 obtain ⟨rfl, hq151⟩ := hq151
 refine a9 _ rfl (.wk hq151 (.seq (.r3 G 87 [(2, .hs 0 0 l_75.length 3)] (.ret ?_))))
 obtain rfl := oi hr
 exact aJ.ret (vs := [.hs 0 0 l_75.length 3]) (by kernel_rfl) (Sn.hs rfl (.inl rfl) (SnC.pure (bc aC.pure _)) (fun h => cP h))

theorem py (n : Nat) (a : Int) (b : Int) (r : A2 Int) (hr : gC n a b = some r) : aN Tryz.prog 68 [ae a, ae b] (.agg [ae r.e0, ae r.e1]) := by
 unfold gC at hr
 refine aN.bd G Tryz.func68 [.cell 4 49] ?_
 unfold Tryz.f68
 simp only [gS]
 refine .seq (.r5 G [0, 1] [(4, .hp 0 0)] [.own [ae 0, ae 0]] (.seq (.r5 G [4] [] [.own [ae (mn a b), ae (mx a b)]] (.ret ?_))))
 obtain rfl := oi hr
 exact aJ.r1 [.agg [ae (mn a b), ae (mx a b)]]

theorem n9 {g : an} {k : Int} {g_ : an} {k_ : Int} (h : ([.agg [.at (.int .i64 g.X0), .at (.int .i64 g.Y0), .at (.int .i64 g.Step), .at (.int .i64 g.Width), .at (.int .i64 g.Height), slT (iC .i64) g.Z], .at (.int .i64 k)] : List AV) = [.agg [.at (.int .i64 g_.X0), .at (.int .i64 g_.Y0), .at (.int .i64 g_.Step), .at (.int .i64 g_.Width), .at (.int .i64 g_.Height), slT (iC .i64) g_.Z], .at (.int .i64 k_)]) : g = g_ /\ k = k_ := by
 obtain ⟨_, _, _, _, _, _⟩ := g
 obtain ⟨_, _, _, _, _, _⟩ := g_
 simp only [List.cons.injEq, AV.agg.injEq, AV.at.injEq, Value.int.injEq, Value.bool.injEq, AV.fn.injEq, AV.pp.injEq, true_and, and_true, eU] at h
 simp_all
theorem oR (n : Nat) {g : an} {k : Int} {g_ : an} {k_ : Int} (h : ([.agg [.at (.int .i64 g.X0), .at (.int .i64 g.Y0), .at (.int .i64 g.Step), .at (.int .i64 g.Width), .at (.int .i64 g.Height), slT (iC .i64) g.Z], .at (.int .i64 k)] : List AV) = [.agg [.at (.int .i64 g_.X0), .at (.int .i64 g_.Y0), .at (.int .i64 g_.Step), .at (.int .i64 g_.Width), .at (.int .i64 g_.Height), slT (iC .i64) g_.Z], .at (.int .i64 k_)]) : b8 n g k = b8 n g_ k_ := by
 obtain ⟨rfl, rfl⟩ := n9 h
 rfl
theorem kF (n : Nat) (g : an) (k : Int) (r : az) (hr : b8 n g k = some r) : aN Tryz.prog 26 [.agg (an.c g), ae k] (.agg (az.c r)) := by
 unfold b8 at hr
 refine aN.bd G Tryz.func26 [.cell 4 59] ?_
 unfold Tryz.f26
 simp only [gS]
 refine .seq (.r5 G [1] [(2, .hp 0 0), (4, .hp 1 0)] [.own (an.c g), .own [aB false, nS, aB false, nS, aB false, nS, aB false, nS]] (.seq ?_))
 obtain ⟨hg1, hr⟩ := gd hr
 obtain ⟨v2, hc3, v4, hc5, hr⟩ := bd2 hr
 refine .tn G (ca1 (ok0 (gb n (CT (g.X0 + (CT ((k.tmod g.Width) * g.Step)))) v2 hc3)) (ca3 (ok0 (gb n (CT (g.Y0 + (CT ((CT (k.tdiv g.Width)) * g.Step)))) v4 hc5)))) (.mu 5 (.pure (v := ae (k.tmod g.Width)) (by kernel_rfl) (oM (x := k) (y := g.Width) (by kernel_rfl) (by kernel_rfl) hg1) (by kernel_rfl) (.mu 4 (.ca cf0 (.mu 5 (.pure (v := ae (CT (k.tdiv g.Width))) (by kernel_rfl) (pd (x := k) (y := g.Width) (by kernel_rfl) (by kernel_rfl) hg1) (by kernel_rfl) (.mu 4 (.ca (cfA (fun h => by rw [sv hc5 hc3 (ph n h)]) cf0) (.mu 2 ?_)))))))))
 refine .done ⟨by kernel_rfl, ?_⟩
 refine .nh [4] [.own (an.c g), .own [aB v2.Num.Negative, au v2.Num.Groups, aB v2.Den.Negative, au v2.Den.Groups, aB v4.Num.Negative, au v4.Num.Groups, aB v4.Den.Negative, au v4.Den.Groups]] (.ret ?_)
 obtain rfl := oi hr
 exact aJ.r1 [.agg [aB v2.Num.Negative, au v2.Num.Groups, aB v2.Den.Negative, au v2.Den.Groups, aB v4.Num.Negative, au v4.Num.Groups, aB v4.Den.Negative, au v4.Den.Groups]]

theorem p6 (n : Nat) {x' : ak} {y : ak} {x'_ : ak} {y_ : ak} (h : ([.agg [.at (.bool x'.Num.Negative), slT (iC .u32) x'.Num.Groups, .at (.bool x'.Den.Negative), slT (iC .u32) x'.Den.Groups], .agg [.at (.bool y.Num.Negative), slT (iC .u32) y.Num.Groups, .at (.bool y.Den.Negative), slT (iC .u32) y.Den.Groups]] : List AV) = [.agg [.at (.bool x'_.Num.Negative), slT (iC .u32) x'_.Num.Groups, .at (.bool x'_.Den.Negative), slT (iC .u32) x'_.Den.Groups], .agg [.at (.bool y_.Num.Negative), slT (iC .u32) y_.Num.Groups, .at (.bool y_.Den.Negative), slT (iC .u32) y_.Den.Groups]]) : cm n x' y = cm n x'_ y_ := by
 obtain ⟨rfl, rfl⟩ := gw h
 rfl
theorem me (n : Nat) (x' : ak) (y : ak) (r : ak) (hr : cm n x' y = some r) : aN Tryz.prog 39 [.agg (ak.c x'), .agg (ak.c y)] (.agg (ak.c r)) := by
 unfold cm at hr
 refine aN.bd G Tryz.func39 [.cell 4 42] ?_
 unfold Tryz.f39
 simp only [gS]
 refine .seq (.r2 G 22 [(2, .hp 0 0), (3, .hp 1 0), (4, .hp 2 0)] [.own (ak.c x'), .own (ak.c y), .own [aB false, nS, aB false, nS]] (.seq ?_))
 obtain ⟨v1, hc2, hr⟩ := bd hr
 refine .g1 G (ok0 (dY n x' v1 hc2)) (.mu 1 (.ca cf0 (.mu 2 (.done (.nh [3, 4, 5] [.own (ak.c x'), .own (ak.c y), .own [aB false, nS, aB false, nS], .own (ak.c v1)] (.seq ?_))))))
 obtain ⟨v3, hc4, hr⟩ := bd hr
 refine .g1 G (ok0 (dY n y v3 hc4)) (.mu 1 (.ca cf0 (.mu 2 (.done (.nh [4, 5, 6] [.own (ak.c x'), .own (ak.c y), .own [aB false, nS, aB false, nS], .own (ak.c v1), .own (ak.c v3)] (.seq ?_))))))
 obtain ⟨v5, hc6, v7, hc8, v9, hc10, hr⟩ := bd3 hr
 refine .tn G (ca1 (ok0 (df n v1.Num v3.Num v5 hc6)) (ca1 (ok0 (df n v1.Den v3.Den v7 hc8)) (ca3 (ok0 (ik n v5 v7 v9 hc10))))) (.mu 4 (.ca cf0 (.mu 4 (.ca (cfA (fun h => by rw [sv hc8 hc6 (hU n h)]) cf0) (.ca (cfF (cfF cf0)) (.mu 1 ?_))))))
 refine .done ⟨by kernel_rfl, ?_⟩
 refine .nh [4] [.own (ak.c x'), .own (ak.c y), .own (ak.c v9), .own (ak.c v1), .own (ak.c v3)] (.ret ?_)
 obtain rfl := oi hr
 exact aJ.r1 [.agg (ak.c v9)]

theorem oW (n : Nat) (g : an) (c : al) (r : az × Int) (hr : fj n g c = some r) : aN Tryz.prog 30 [.agg (an.c g), .agg (al.c c)] (.tup [.agg (az.c r.1), ae r.2]) := by
 unfold fj at hr
 refine aN.bd G Tryz.func30 [.cell 4 59, .tmp 5] ?_
 unfold Tryz.f30
 simp only [gS]
 refine .seq (.r2 G 97 [(2, .hp 0 0), (3, .hp 1 0), (4, .hp 2 0)] [.own (an.c g), .own (al.c c), .own [aB false, nS, aB false, nS, aB false, nS, aB false, nS]] (.seq (.r4 G [2, 3, 4] [(6, aB false)] (.seq (.seq ?_)))))
 obtain ⟨v1, hc2, hr⟩ := bd hr
 refine .g1 G (ok0 (nm n g v1 hc2)) (.mu 1 (.ca cf0 (.mu 2 (.done (.nh [2, 3, 4, 6, 13, 14, 15] [.own (an.c g), .own (al.c c), .own [aB false, nS, aB false, nS, aB false, nS, aB false, nS]] (.block ?_))))))
 replace hr := bd hr; obtain ⟨f_28, hL54, hr⟩ := hr
 refine .aO (σ := fun z0 => match z0 with | (f_3, x_4) => ⟨mkS 97 0 [(2, .hp 0 0), (3, .hp 1 0), (4, .hp 2 0), (6, aB f_3), (13, slT aC.c v1), (14, ae (v1.length : Int)), (15, ae x_4)], [.own (an.c g), .own (al.c c), .own [aB false, nS, aB false, nS, aB false, nS, aB false, nS]]⟩) (Q := fun x st' => x = .exit 0 /\ Wk 0 st' ⟨mkS 97 0 [(2, .hp 0 0), (3, .hp 1 0), (4, .hp 2 0), (6, aB f_28)], [.own (an.c g), .own (al.c c), .own [aB false, nS, aB false, nS, aB false, nS, aB false, nS]]⟩) hL54 ((Wk.gc [2, 3, 4, 6, 13, 14, 15] kT3 rfl trivial).to) ?_ ?_
 ·clear hr
  rintro m ⟨f_3, x_4⟩ hr
  show CQ _ _ _ _ _ ⟨_, _⟩
  refine .seq (.r4 G [2, 3, 4, 6, 13, 14, 15] [(16, aB (decide (x_4 < (v1.length : Int))))] (.seq ?_))
  refine .cd hr ?_ ?_ <;> intro hb30 hr
  ·refine .skip (.seq (.block (.seq ?_)))
   obtain ⟨hg31, hr⟩ := gd hr
   refine .r0 G (.p0 (v := .pp (v1.flatMap aC.c) (x_4.toNat * 3)) (tr (ar hg31)) (.p0 (v := .agg [ae (gt v1 x_4).e0, ae (gt v1 x_4).e1, ae (gt v1 x_4).e2]) (tr (y := bI.ofP (eG (decide (3 <= ((v1.flatMap aC.c).drop (x_4.toNat * 3)).length)) (.agg (((v1.flatMap aC.c).drop (x_4.toNat * 3)).take 3)))) (ch aC.len (aD hg31) (by decide) (by omega : x_4.toNat * 3 = x_4.toNat * 3 + 0) (by kernel_rfl))) (.mu 2 (.done (.nh [2, 3, 4, 6, 8, 13, 14, 15] [.own (an.c g), .own (al.c c), .own [aB false, nS, aB false, nS, aB false, nS, aB false, nS], .own [ae (gt v1 x_4).e0, ae (gt v1 x_4).e1, ae (gt v1 x_4).e2]] (.seq (.r4 G [2, 3, 4, 6, 8, 13, 14, 15] [(19, ae 0)] (.block ?_))))))))
   replace hr := bd hr; obtain ⟨f_41, hL51, hr⟩ := hr
   refine .aO (σ := fun z0 => match z0 with | (f_32, x_33) => ⟨mkS 97 0 [(2, .hp 0 0), (3, .hp 1 0), (4, .hp 2 0), (6, aB f_32), (8, .hp 3 0), (13, slT aC.c v1), (14, ae (v1.length : Int)), (15, ae x_4), (19, ae x_33)], [.own (an.c g), .own (al.c c), .own [aB false, nS, aB false, nS, aB false, nS, aB false, nS], .own [ae (gt v1 x_4).e0, ae (gt v1 x_4).e1, ae (gt v1 x_4).e2]]⟩) (Q := fun x st' => x = .exit 2 /\ Wk 0 st' ⟨mkS 97 0 [(2, .hp 0 0), (3, .hp 1 0), (4, .hp 2 0), (6, aB f_41), (13, slT aC.c v1), (14, ae (v1.length : Int)), (15, ae x_4)], [.own (an.c g), .own (al.c c), .own [aB false, nS, aB false, nS, aB false, nS, aB false, nS]]⟩) hL51 ((Wk.gc [2, 3, 4, 6, 8, 13, 14, 15, 19] kT4 rfl trivial).to) ?_ ?_
   ·clear hr
    rintro m ⟨f_32, x_33⟩ hr
    show CQ _ _ _ _ _ ⟨_, _⟩
    refine .seq (.r4 G [2, 3, 4, 6, 8, 13, 14, 15, 19] [(20, aB (decide (x_33 < 3)))] (.seq ?_))
    refine .cd hr ?_ ?_ <;> intro hb43 hr
    ·refine .skip (.seq (.block (.seq (.r4 G [2, 3, 4, 6, 8, 13, 14, 15, 19] [(9, ae x_33)] (.seq ?_)))))
     rcases bT (decide (c.A < c.B)) with hb44 | hb44
     ·replace hr := cy hb44 hr
      obtain ⟨hg45, hg46, hr⟩ := gd2 hr
      obtain ⟨v47, hc48, hr⟩ := bd hr
      refine .t1 G (ok0 (py n (A3.get (gt v1 x_4) x_33) (A3.get (gt v1 x_4) ((CT (x_33 + 1)).tmod 3)) v47 hc48)) (.mu 4 (.pure (v := aB true) (by kernel_rfl) (eB hb44) (by kernel_rfl) (.mu 2 (.pure (v := .hp 3 (0 + x_33.toNat * 1)) (by kernel_rfl) (tr (ar hg45)) (by kernel_rfl) (.pure (v := ae (A3.get (gt v1 x_4) x_33)) (by kernel_rfl) (tr (y := bI.ofP ([ae (gt v1 x_4).e0, ae (gt v1 x_4).e1, ae (gt v1 x_4).e2][0 + x_33.toNat * 1]?)) (aH (rL (k := .i64) (kk := 0) (xs := [(gt v1 x_4).e0, (gt v1 x_4).e1, (gt v1 x_4).e2]) hg45 rfl (by kernel_rfl)))) (by kernel_rfl) (.mu 3 (.pure (v := .hp 3 (0 + ((CT (x_33 + 1)).tmod 3).toNat * 1)) (by kernel_rfl) (tr (ar hg46)) (by kernel_rfl) (.pure (v := ae (A3.get (gt v1 x_4) ((CT (x_33 + 1)).tmod 3))) (by kernel_rfl) (tr (y := bI.ofP ([ae (gt v1 x_4).e0, ae (gt v1 x_4).e1, ae (gt v1 x_4).e2][0 + ((CT (x_33 + 1)).tmod 3).toNat * 1]?)) (aH (rL (k := .i64) (kk := 0) (xs := [(gt v1 x_4).e0, (gt v1 x_4).e1, (gt v1 x_4).e2]) hg46 rfl (by kernel_rfl)))) (by kernel_rfl) (.ca cf0 (.mu 7 ?_))))))))))
      refine .done ⟨by kernel_rfl, ?_⟩
      refine .nh [2, 3, 4, 6, 8, 13, 14, 15, 19, 43] [.own (an.c g), .own (al.c c), .own [aB false, nS, aB false, nS, aB false, nS, aB false, nS], .own [ae (gt v1 x_4).e0, ae (gt v1 x_4).e1, ae (gt v1 x_4).e2]] ?_
      refine .cd hr ?_ ?_ <;> intro hb49 hr
      ·refine .ru G (.pop (.ru G ?_))
       exact aA (true, CT (x_33 + 1)) hr ((Wk.gc [2, 3, 4, 6, 8, 13, 14, 15, 19] kT4 rfl trivial).to)
      refine .skip (.pop (.ru G ?_))
      exact aA (f_32, CT (x_33 + 1)) hr ((Wk.gc [2, 3, 4, 6, 8, 13, 14, 15, 19] kT4 rfl trivial).to)
     replace hr := cA hb44 hr
     refine .eK G bW (.mu 4 (.pure (v := aB false) (by kernel_rfl) (eB hb44) (by kernel_rfl) (.mu 17 ?_)))
     refine .done ⟨by kernel_rfl, ?_⟩
     refine .nh [2, 3, 4, 6, 8, 13, 14, 15, 19, 43] [.own (an.c g), .own (al.c c), .own [aB false, nS, aB false, nS, aB false, nS, aB false, nS], .own [ae (gt v1 x_4).e0, ae (gt v1 x_4).e1, ae (gt v1 x_4).e2]] (.cF (by kernel_rfl) (.skip (.pop (.ru G ?_))))
     exact aA (f_32, CT (x_33 + 1)) hr ((Wk.gc [2, 3, 4, 6, 8, 13, 14, 15, 19] kT4 rfl trivial).to)
    refine .leave rfl ?_
    obtain rfl := oi hr
    exact ⟨rfl, ((Wk.gc [2, 3, 4, 6, 13, 14, 15] kT3 rfl trivial).to)⟩
   rintro x st' hq52
   clear hL51
   obtain ⟨rfl, hq52⟩ := hq52
   refine a9 _ rfl (.pop (.wk hq52 (.ru G ?_)))
   exact aA (f_41, CT (x_4 + 1)) hr ((Wk.gc [2, 3, 4, 6, 13, 14, 15] kT3 rfl trivial).to)
  refine .leave rfl ?_
  obtain rfl := oi hr
  exact ⟨rfl, ((Wk.gc [2, 3, 4, 6] kT3 rfl trivial).to)⟩
 rintro x st' hq55
 clear hL54
 obtain ⟨rfl, hq55⟩ := hq55
 refine a9 _ rfl (.wk hq55 (.seq (.seq (.r4 G [2, 3, 4] [(47, aB (!f_28))] ?_))))
 refine .cd hr ?_ ?_ <;> intro hb56 hr
 ·refine .seq (.r4 G [4] [(5, ae 6)] (.ret ?_))
  obtain rfl := oi hr
  exact aJ.ret (vs := [.agg [aB false, nS, aB false, nS, aB false, nS, aB false, nS], ae 6]) (by kernel_rfl) (Sn.tup (SnL.cons (Sn.agg (Sp (SnL.cons Sn.cX (Sp (SnL.cons Sn.cX (Sp (SnL.cons Sn.cX (Sp (SnL.cons Sn.cX SnL.nil))))))))) (Sp SnL.nil)))
 refine .skip (.seq (.seq ?_))
 obtain ⟨v57, hc58, hr⟩ := bd hr
 refine .g1 G (ok0 (dj n c.At v57 hc58)) (.mu 2 (.ca cf0 (.mu 1 (.done (.nh [2, 3, 4, 52] [.own (an.c g), .own (al.c c), .own [aB false, nS, aB false, nS, aB false, nS, aB false, nS]] ?_)))))
 refine .cd hr ?_ ?_ <;> intro hb59 hr
 ·refine .seq (.r4 G [4] [(5, ae 1)] (.ret ?_))
  obtain rfl := oi hr
  exact aJ.ret (vs := [.agg [aB false, nS, aB false, nS, aB false, nS, aB false, nS], ae 1]) (by kernel_rfl) (Sn.tup (SnL.cons (Sn.agg (Sp (SnL.cons Sn.cX (Sp (SnL.cons Sn.cX (Sp (SnL.cons Sn.cX (Sp (SnL.cons Sn.cX SnL.nil))))))))) (Sp SnL.nil)))
 refine .skip (.seq (.seq ?_))
 obtain ⟨v60, hc61, hr⟩ := bd hr
 rcases bT (decide (v60 < 0)) with hb62 | hb62
 ·replace hr := cy hb62 hr
  refine .t1 G (ok0 (jw n c.At v60 hc61)) (.mu 2 (.ca cf0 (.pure (v := aB true) (by kernel_rfl) (eB hb62) (by kernel_rfl) (.mu 7 ?_))))
  refine .done ⟨by kernel_rfl, ?_⟩
  refine .nh [2, 3, 4, 64] [.own (an.c g), .own (al.c c), .own [aB false, nS, aB false, nS, aB false, nS, aB false, nS]] (.cT (by kernel_rfl) (.seq (.r4 G [4] [(5, ae 2)] (.ret ?_))))
  obtain rfl := oi hr
  exact aJ.ret (vs := [.agg [aB false, nS, aB false, nS, aB false, nS, aB false, nS], ae 2]) (by kernel_rfl) (Sn.tup (SnL.cons (Sn.agg (Sp (SnL.cons Sn.cX (Sp (SnL.cons Sn.cX (Sp (SnL.cons Sn.cX (Sp (SnL.cons Sn.cX SnL.nil))))))))) (Sp SnL.nil)))
 replace hr := cA hb62 hr
 obtain ⟨v63, hc64, v65, hc66, hr⟩ := bd2 hr
 refine .tn G (ca1 (ok0 (jw n c.At v60 hc61)) (ca1 (ok0 (gb n 1 v63 hc64)) (ca3 (ok0 (j1 n c.At v63 v65 hc66))))) (.mu 2 (.ca cf0 (.pure (v := aB false) (by kernel_rfl) (eB hb62) (by kernel_rfl) (.mu 3 (.ca (cfF cf0) (.ca (cfF (cfF cf0)) (.mu 2 ?_)))))))
 refine .done ⟨by kernel_rfl, ?_⟩
 refine .nh [2, 3, 4, 64] [.own (an.c g), .own (al.c c), .own [aB false, nS, aB false, nS, aB false, nS, aB false, nS]] ?_
 refine .cd hr ?_ ?_ <;> intro hb67 hr
 ·refine .seq (.r4 G [4] [(5, ae 2)] (.ret ?_))
  obtain rfl := oi hr
  exact aJ.ret (vs := [.agg [aB false, nS, aB false, nS, aB false, nS, aB false, nS], ae 2]) (by kernel_rfl) (Sn.tup (SnL.cons (Sn.agg (Sp (SnL.cons Sn.cX (Sp (SnL.cons Sn.cX (Sp (SnL.cons Sn.cX (Sp (SnL.cons Sn.cX SnL.nil))))))))) (Sp SnL.nil)))
 refine .skip (.seq ?_)
 obtain ⟨v68, hc69, v70, hc71, hr⟩ := bd2 hr
 refine .tn G (ca1 (ok0 (kF n g c.A v68 hc69)) (ca3 (ok0 (kF n g c.B v70 hc71)))) (.mu 3 (.ca cf0 (.mu 3 (.ca (cfA (fun h => by rw [sv hc71 hc69 (oR n h)]) cf0) (.mu 4 ?_)))))
 refine .done ⟨by kernel_rfl, ?_⟩
 refine .nh [3, 4, 10, 11] [.own (an.c g), .own (al.c c), .own [aB false, nS, aB false, nS, aB false, nS, aB false, nS], .own (az.c v68), .own (az.c v70)] (.seq ?_)
 obtain ⟨v72, hc73, v74, hc75, v76, hc77, hr⟩ := bd3 hr
 obtain ⟨v78, hc79, v80, hc81, v82, hc83, hr⟩ := bd3 hr
 refine .tn G (ca1 (ok0 (jN n v70.X v68.X v72 hc73)) (ca1 (ok0 (me n c.At v72 v74 hc75)) (ca1 (ok0 (jO n v68.X v74 v76 hc77)) (ca1 (ok0 (jN n v70.Y v68.Y v78 hc79)) (ca1 (ok0 (me n c.At v78 v80 hc81)) (ca3 (ok0 (jO n v68.Y v80 v82 hc83)))))))) (.mu 8 (.ca cf0 (.ca (cfF cf0) (.ca (cfF (cfF cf0)) (.mu 8 (.ca (cfA (fun h => by rw [sv hc79 hc73 (qc n h)]) (cfF (cfF cf0))) (.ca (cfF (cfA (fun h => by rw [sv hc81 hc75 (p6 n h)]) (cfF (cfF cf0)))) (.ca (cfF (cfF (cfA (fun h => by rw [sv hc83 hc77 (pV n h)]) (cfF (cfF cf0))))) (.mu 3 ?_)))))))))
 refine .done ⟨by kernel_rfl, ?_⟩
 refine .nh [4, 5] [.own (an.c g), .own (al.c c), .own [aB v76.Num.Negative, au v76.Num.Groups, aB v76.Den.Negative, au v76.Den.Groups, aB v82.Num.Negative, au v82.Num.Groups, aB v82.Den.Negative, au v82.Den.Groups], .own (az.c v68), .own (az.c v70)] (.ret ?_)
 obtain rfl := oi hr
 exact aJ.ret (vs := [.agg [aB v76.Num.Negative, au v76.Num.Groups, aB v76.Den.Negative, au v76.Den.Groups, aB v82.Num.Negative, au v82.Num.Groups, aB v82.Den.Negative, au v82.Den.Groups], ae 0]) (by kernel_rfl) (Sn.tup (Sp (Sp SnL.nil)))

theorem lf (n : Nat) {x' : ak} {x'_ : ak} (h : ([.agg [.at (.bool x'.Num.Negative), slT (iC .u32) x'.Num.Groups, .at (.bool x'.Den.Negative), slT (iC .u32) x'.Den.Groups]] : List AV) = [.agg [.at (.bool x'_.Num.Negative), slT (iC .u32) x'_.Num.Groups, .at (.bool x'_.Den.Negative), slT (iC .u32) x'_.Den.Groups]]) : dm n x' = dm n x'_ := by
 obtain rfl := gD h
 rfl
theorem eC (n : Nat) (x' : ak) (r : Bool) (hr : dm n x' = some r) : aN Tryz.prog 31 [.agg (ak.c x')] (aB r) := by
 unfold dm at hr
 refine aN.bd G Tryz.func31 [.tmp 2] ?_
 unfold Tryz.f31
 simp only [gS]
 refine .seq (.r2 G 27 [(1, .hp 0 0)] [.own (ak.c x')] (.seq ?_))
 rcases bT (!x'.Num.Negative) with hb1 | hb1
 ·replace hr := cy hb1 hr
  rcases bT (!x'.Den.Negative) with hb2 | hb2
  ·replace hr := cy hb2 hr
   rcases bT (((x'.Num.Groups.length : Int) : Int) == 0) with hb3 | hb3
   ·replace hr := cy hb3 hr
    refine .r0 G (.mu 3 (.p0 (v := aB true) (eB hb1) (.mu 4 (.pure (v := aB true) (by kernel_rfl) (eB hb2) (.mu 6 (.pure (v := aB true) (by kernel_rfl) (eB hb3) (.mu 9 (.done (.ret ?_)))))))))
    obtain rfl := oi hr
    exact aJ.r1 [aB (((x'.Den.Groups.length : Int) : Int) == 0)]
   replace hr := cA hb3 hr
   refine .r0 G (.mu 3 (.p0 (v := aB true) (eB hb1) (.mu 4 (.pure (v := aB true) (by kernel_rfl) (eB hb2) (.mu 6 (.pure (v := aB false) (by kernel_rfl) (eB hb3) (.mu 9 (.done (.ret ?_)))))))))
   obtain rfl := oi hr
   exact aJ.r1 [aB false]
  replace hr := cA hb2 hr
  refine .r0 G (.mu 3 (.p0 (v := aB true) (eB hb1) (.mu 4 (.pure (v := aB false) (by kernel_rfl) (eB hb2) (.mu 16 (.done (.ret ?_)))))))
  obtain rfl := oi hr
  exact aJ.r1 [aB false]
 replace hr := cA hb1 hr
 refine .r0 G (.mu 3 (.p0 (v := aB false) (eB hb1) (.mu 21 (.done (.ret ?_)))))
 obtain rfl := oi hr
 exact aJ.r1 [aB false]

theorem lF (n : Nat) (g : an) (c : al) (r : Bool) (hr : dF n g c = some r) : aN Tryz.prog 8 [.agg (an.c g), .agg (al.c c)] (aB r) := by
 unfold dF at hr
 refine aN.bd G Tryz.func8 [.tmp 4] ?_
 unfold Tryz.f8
 simp only [gS]
 refine .seq (.r2 G 68 [(2, .hp 0 0), (3, .hp 1 0)] [.own (an.c g), .own (al.c c)] (.seq (.seq ?_)))
 obtain ⟨v1, hc2, hr⟩ := bd hr
 refine .g1 G (ok0 (o5 n v1 hc2)) (.ca cf0 (.mu 1 (.done (.nh [2, 3, 10] [.own (an.c g), .own (al.c c)] ?_))))
 refine .cd hr ?_ ?_ <;> intro hb3 hr
 ·refine .seq (.ru G (.ret ?_))
  obtain rfl := oi hr
  exact aJ.r1 [aB false]
 refine .skip (.seq (.seq ?_))
 obtain ⟨v4, hc5, hr⟩ := bd hr
 rcases bT (!v4) with hb6 | hb6
 ·replace hr := cy hb6 hr
  refine .g1 G (ok0 (l6 n g 40 v4 hc5)) (.mu 1 (.ca cf0 (.p0 (v := aB true) (eB hb6) (.mu 6 (.done (.nh [2, 3, 19] [.own (an.c g), .own (al.c c)] (.cT (by kernel_rfl) (.seq (.ru G (.ret ?_))))))))))
  obtain rfl := oi hr
  exact aJ.r1 [aB true]
 replace hr := cA hb6 hr
 obtain ⟨v7, hc8, hr⟩ := bd hr
 refine .gn G (ca1 (ok0 (l6 n g 40 v4 hc5)) (ca3 (ok0 (oa n c.At v7 hc8)))) (.mu 1 (.ca cf0 (.p0 (v := aB false) (eB hb6) (.mu 3 (.ca (cfF cf0) (.mu 2 (.done (.nh [2, 3, 19] [.own (an.c g), .own (al.c c)] ?_))))))))
 refine .cd hr ?_ ?_ <;> intro hb9 hr
 ·refine .seq (.ru G (.ret ?_))
  obtain rfl := oi hr
  exact aJ.r1 [aB true]
 refine .skip (.seq ?_)
 obtain ⟨v10, hc11, hr⟩ := bd hr
 refine .g1 G (ok0 (ti n g c v10 hc11)) (.mu 2 (.ca cf0 (.mu 6 (.done (.nh [2, 3, 5, 6] [.own (an.c g), .own (al.c c), .own (az.c v10.1)] (.seq ?_))))))
 obtain ⟨v12, hc13, hr⟩ := bd hr
 refine .g1 G (ok0 (pe n g v12 hc13)) (.mu 1 (.ca cf0 (.mu 1 (.done (.nh [2, 3, 5, 6, 7] [.own (an.c g), .own (al.c c), .own (az.c v10.1)] (.seq (.r5 G [2, 3, 5, 6, 7] [(8, .hp 3 0)] [.own (an.c g), .own (al.c c), .own (az.c v10.1), .own [aB false, nS, aB false, nS, aB false, nS, aB false, nS]] (.seq (.seq (.r4 G [2, 3, 5, 6, 7, 8] [(30, aB ((v12 : Int) == 0))] ?_))))))))))
 refine .cd hr ?_ ?_ <;> intro hb14 hr
 ·obtain ⟨v15, hc16, hr⟩ := bd hr
  refine .g1 G (ok0 (oW n g c v15 hc16)) (.mu 2 (.ca cf0 (.mu 5 (.done (.nh [5, 6, 7, 8] [.own (an.c g), .own (al.c c), .own (az.c v10.1), .own (az.c v15.1)] (.seq (.seq (.r4 G [5, 6, 7, 8] [(38, aB ((v15.2 : Int) != 0))] ?_))))))))
  refine .cd hr ?_ ?_ <;> intro hb17 hr
  ·refine .seq ?_
   rcases bT ((v10.2 : Int) == v15.2) with hb18 | hb18
   ·replace hr := cy hb18 hr
    obtain ⟨v19, hc20, hr⟩ := bd hr
    rcases bT v19 with hb21 | hb21
    ·subst hb21
     replace hr := cy rfl hr
     obtain ⟨v22, hc23, hr⟩ := bd hr
     refine .gn G (ca1 (ok0 (eC n v10.1.X true hc20)) (ca3 (ok0 (eC n v10.1.Y v22 hc23)))) (.mu 2 (.p0 (v := aB true) (eB hb18) (.mu 3 (.ca cf0 (.mu 4 (.ca (cfA (fun h => by rw [sv hc23 hc20 (lf n h)]) cf0) (.mu 2 (.done (.ret ?_)))))))))
     obtain rfl := oi hr
     exact aJ.r1 [aB v22]
    subst hb21
    replace hr := cA rfl hr
    refine .g1 G (ok0 (eC n v10.1.X false hc20)) (.mu 2 (.p0 (v := aB true) (eB hb18) (.mu 3 (.ca cf0 (.mu 7 (.done (.ret ?_)))))))
    obtain rfl := oi hr
    exact aJ.r1 [aB false]
   replace hr := cA hb18 hr
   refine .r0 G (.mu 2 (.p0 (v := aB false) (eB hb18) (.mu 11 (.done (.ret ?_)))))
   obtain rfl := oi hr
   exact aJ.r1 [aB false]
  refine .skip (.seq ?_)
  rcases bT ((v10.2 : Int) == 0) with hb24 | hb24
  ·replace hr := cy hb24 hr
   obtain ⟨v25, hc26, hr⟩ := bd hr
   rcases bT v25 with hb27 | hb27
   ·subst hb27
    replace hr := cy rfl hr
    obtain ⟨v28, hc29, hr⟩ := bd hr
    refine .gn G (ca1 (ok0 (c5 n v10.1.X v15.1.X true hc26)) (ca3 (ok0 (c5 n v10.1.Y v15.1.Y v28 hc29)))) (.mu 1 (.p0 (v := aB true) (eB hb24) (.mu 5 (.ca cf0 (.mu 6 (.ca (cfA (fun h => by rw [sv hc29 hc26 (ln n h)]) cf0) (.mu 2 (.done (.ret ?_)))))))))
    obtain rfl := oi hr
    exact aJ.r1 [aB v28]
   subst hb27
   replace hr := cA rfl hr
   refine .g1 G (ok0 (c5 n v10.1.X v15.1.X false hc26)) (.mu 1 (.p0 (v := aB true) (eB hb24) (.mu 5 (.ca cf0 (.mu 9 (.done (.ret ?_)))))))
   obtain rfl := oi hr
   exact aJ.r1 [aB false]
  replace hr := cA hb24 hr
  refine .r0 G (.mu 1 (.p0 (v := aB false) (eB hb24) (.mu 15 (.done (.ret ?_)))))
  obtain rfl := oi hr
  exact aJ.r1 [aB false]
 refine .skip (.seq (.seq (.r4 G [5, 6, 7, 8] [(38, aB ((v12 : Int) != 0))] ?_)))
 refine .cd hr ?_ ?_ <;> intro hb30 hr
 ·refine .seq ?_
  rcases bT ((v10.2 : Int) == v12) with hb31 | hb31
  ·replace hr := cy hb31 hr
   obtain ⟨v32, hc33, hr⟩ := bd hr
   rcases bT v32 with hb34 | hb34
   ·subst hb34
    replace hr := cy rfl hr
    obtain ⟨v35, hc36, hr⟩ := bd hr
    refine .gn G (ca1 (ok0 (eC n v10.1.X true hc33)) (ca3 (ok0 (eC n v10.1.Y v35 hc36)))) (.mu 2 (.p0 (v := aB true) (eB hb31) (.mu 3 (.ca cf0 (.mu 4 (.ca (cfA (fun h => by rw [sv hc36 hc33 (lf n h)]) cf0) (.mu 2 (.done (.ret ?_)))))))))
    obtain rfl := oi hr
    exact aJ.r1 [aB v35]
   subst hb34
   replace hr := cA rfl hr
   refine .g1 G (ok0 (eC n v10.1.X false hc33)) (.mu 2 (.p0 (v := aB true) (eB hb31) (.mu 3 (.ca cf0 (.mu 7 (.done (.ret ?_)))))))
   obtain rfl := oi hr
   exact aJ.r1 [aB false]
  replace hr := cA hb31 hr
  refine .r0 G (.mu 2 (.p0 (v := aB false) (eB hb31) (.mu 11 (.done (.ret ?_)))))
  obtain rfl := oi hr
  exact aJ.r1 [aB false]
 refine .skip (.seq ?_)
 rcases bT ((v10.2 : Int) == 0) with hb37 | hb37
 ·replace hr := cy hb37 hr
  obtain ⟨v38, hc39, hr⟩ := bd hr
  rcases bT v38 with hb40 | hb40
  ·subst hb40
   replace hr := cy rfl hr
   obtain ⟨v41, hc42, hr⟩ := bd hr
   refine .gn G (ca1 (dQ (args := [.agg (ak.c v10.1.X), .agg [aB false, nS, aB false, nS]]) (l := []) rfl (Sp (SnL.cons (Sn.agg (Sp (SnL.cons Sn.cX (Sp (SnL.cons Sn.cX SnL.nil))))) SnL.nil)) (c5 n v10.1.X (ak.mk (ai.mk false []) (ai.mk false [])) true hc39)) (ca3 (dQ (args := [.agg (ak.c v10.1.Y), .agg [aB false, nS, aB false, nS]]) (l := []) rfl (Sp (SnL.cons (Sn.agg (Sp (SnL.cons Sn.cX (Sp (SnL.cons Sn.cX SnL.nil))))) SnL.nil)) (c5 n v10.1.Y (ak.mk (ai.mk false []) (ai.mk false [])) v41 hc42)))) (.mu 1 (.p0 (v := aB true) (eB hb37) (.mu 5 (.ca cf0 (.mu 6 (.ca (cfA (fun h => by rw [sv hc42 hc39 (ln n (show ([.agg (ak.c v10.1.Y), .agg (ak.c (ak.mk (ai.mk false []) (ai.mk false [])))] : List AV) = [.agg (ak.c v10.1.X), .agg (ak.c (ak.mk (ai.mk false []) (ai.mk false [])))] from (congr (congrArg List.cons (List.cons.inj h).1) (congr (congrArg List.cons rfl) rfl))))]) cf0) (.mu 2 (.done (.ret ?_)))))))))
   obtain rfl := oi hr
   exact aJ.r1 [aB v41]
  subst hb40
  replace hr := cA rfl hr
  refine .g1 G (dQ (args := [.agg (ak.c v10.1.X), .agg [aB false, nS, aB false, nS]]) (l := []) rfl (Sp (SnL.cons (Sn.agg (Sp (SnL.cons Sn.cX (Sp (SnL.cons Sn.cX SnL.nil))))) SnL.nil)) (c5 n v10.1.X (ak.mk (ai.mk false []) (ai.mk false [])) false hc39)) (.mu 1 (.p0 (v := aB true) (eB hb37) (.mu 5 (.ca cf0 (.mu 9 (.done (.ret ?_)))))))
  obtain rfl := oi hr
  exact aJ.r1 [aB false]
 replace hr := cA hb37 hr
 refine .r0 G (.mu 1 (.p0 (v := aB false) (eB hb37) (.mu 15 (.done (.ret ?_)))))
 obtain rfl := oi hr
 exact aJ.r1 [aB false]
end Go.L
