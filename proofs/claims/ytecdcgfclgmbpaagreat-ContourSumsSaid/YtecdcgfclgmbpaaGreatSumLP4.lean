
import Derived.Test.YtecdcgfclgmbpaaGreatSumLP3
import Derived.Test.YtecdcgfclgmbpaaGreatL0Sums
import Derived.Test.YtecdcgfclgmbpaaGreatChecked
import Derived.KernelRfl
set_option linter.all false
set_option maxRecDepth 100000
set_option maxHeartbeats 4000000
namespace Go.L
open Go Go.Eng Go.Proofs
theorem iU (n : Nat) (g : al) (c : Int) (L : Int) (t : Int) (i : Int) (f : Int) (e : List Int) (d : Int) (z : Bool) (w : List Int) (u : Bool) (q : List Int) (r : Bool × List Int × Bool × List Int) (hr : bK n g c L t i f e d z w u q = some r) : dm 5 Tryz.prog 89 [.agg (al.c g), .fn 117 [] [.hp 0 0, .hp 1 0, .hp 2 0, .hp 3 0, .hp 4 0]] [.own [ae c, ae L, ae t, ae i, ae f, bf e], .own [ae d], .own [aB z, au w, aB u, au q], .own [.fn 79 [] []], .own [.fn 76 [] []]] (.tup []) [.own [ae c, ae L, ae t, ae i, ae f, bf e], .own [ae d], .own [aB r.1, au r.2.1, aB r.2.2.1, au r.2.2.2], .own [.fn 79 [] []], .own [.fn 76 [] []]] := by
 unfold bK at hr
 refine dm.kF G Tryz.func89 (c := (Tryz.f89.body).getD .skip) rfl (us := []) (s := mkS 82 0 [(0, .agg (al.c g)), (1, .fn 117 [] [.hp 0 0, .hp 1 0, .hp 2 0, .hp 3 0, .hp 4 0])]) (by kernel_rfl) (rs := []) rfl ?_
 unfold Tryz.f89
 simp only [gS]
 refine .seq (.r5 G [1] [(2, .hp 5 0)] [.own [ae c, ae L, ae t, ae i, ae f, bf e], .own [ae d], .own [aB z, au w, aB u, au q], .own [.fn 79 [] []], .own [.fn 76 [] []], .own (al.c g)] (.seq (.r4 G [1, 2] [(4, ae g.Width)] (.seq (.r4 G [1, 2, 4] [(14, ae (Fc (g.Height - 1))), (15, ae 0)] (.block ?_))))))
 replace hr := bd hr; obtain ⟨ky, iV, hr⟩ := hr
 refine .aH (σ := fun z0 => match z0 with | (jS, kb, jW, ki, h) => ⟨mkS 82 0 [(1, .fn 117 [] [.hp 0 0, .hp 1 0, .hp 2 0, .hp 3 0, .hp 4 0]), (2, .hp 5 0), (4, ae g.Width), (14, ae (Fc (g.Height - 1))), (15, ae h)], [.own [ae c, ae L, ae t, ae i, ae f, bf e], .own [ae d], .own [aB jS, au kb, aB jW, au ki], .own [.fn 79 [] []], .own [.fn 76 [] []], .own (al.c g)]⟩) (Q := fun x st' => match (generalizing := false) ky with | (kE, lP, lE, mM) => x = .exit 0 /\ Wk 5 st' ⟨mkS 82 0 [], [.own [ae c, ae L, ae t, ae i, ae f, bf e], .own [ae d], .own [aB kE, au lP, aB lE, au mM], .own [.fn 79 [] []], .own [.fn 76 [] []]]⟩) iV ((Wk.gc [1, 2, 4, 14, 15] kT6 rfl trivial).to) ?_ ?_
 ·clear hr
  rintro m ⟨jS, kb, jW, ki, h⟩ hr
  show CQ _ _ _ _ _ ⟨_, _⟩
  refine .seq (.r4 G [1, 2, 4, 14, 15] [(16, aB (decide (h < (Fc (g.Height - 1)))))] (.seq ?_))
  refine .cd hr ?_ ?_ <;> intro p7 hr
  ·refine .skip (.seq (.block (.seq (.r4 G [1, 2, 4, 14, 15] [(5, ae h)] (.seq (.r4 G [1, 2, 4, 5, 14, 15] [(19, ae (Fc (g.Width - 1))), (20, ae 0)] (.block ?_)))))))
   replace hr := bd hr; obtain ⟨kZ, iZ, hr⟩ := hr
   refine .aH (σ := fun z0 => match z0 with | (C, D, E, F, j) => ⟨mkS 82 0 [(1, .fn 117 [] [.hp 0 0, .hp 1 0, .hp 2 0, .hp 3 0, .hp 4 0]), (2, .hp 5 0), (4, ae g.Width), (5, ae h), (14, ae (Fc (g.Height - 1))), (15, ae h), (19, ae (Fc (g.Width - 1))), (20, ae j)], [.own [ae c, ae L, ae t, ae i, ae f, bf e], .own [ae d], .own [aB C, au D, aB E, au F], .own [.fn 79 [] []], .own [.fn 76 [] []], .own (al.c g)]⟩) (Q := fun x st' => match (generalizing := false) kZ with | (N, O, R, S) => x = .exit 2 /\ Wk 5 st' ⟨mkS 82 0 [(1, .fn 117 [] [.hp 0 0, .hp 1 0, .hp 2 0, .hp 3 0, .hp 4 0]), (2, .hp 5 0), (4, ae g.Width), (14, ae (Fc (g.Height - 1))), (15, ae h)], [.own [ae c, ae L, ae t, ae i, ae f, bf e], .own [ae d], .own [aB N, au O, aB R, au S], .own [.fn 79 [] []], .own [.fn 76 [] []], .own (al.c g)]⟩) iZ ((Wk.gc [1, 2, 4, 5, 14, 15, 19, 20] kT6 rfl trivial).to) ?_ ?_
   ·clear hr
    rintro m ⟨C, D, E, F, j⟩ hr
    show CQ _ _ _ _ _ ⟨_, _⟩
    refine .seq (.r4 G [1, 2, 4, 5, 14, 15, 19, 20] [(21, aB (decide (j < (Fc (g.Width - 1)))))] (.seq ?_))
    refine .cd hr ?_ ?_ <;> intro q8 hr
    ·refine .skip (.seq (.block (.seq (.r4 G [1, 2, 4, 5, 14, 15, 19, 20] [(6, ae j)] (.seq (.r4 G [1, 2, 4, 5, 14, 15, 19, 20] [(7, ae (Fc ((Fc (h * g.Width)) + j)))] ?_))))))
     obtain ⟨H, nE, hr⟩ := bd hr
     refine .wk ((Wk.refl _).to (c := ⟨mkS 82 0 [(1, .fn 117 [] [.hp 0 0, .hp 1 0, .hp 2 0, .hp 3 0, .hp 4 0]), (2, .hp 5 0), (4, ae g.Width), (5, ae h), (7, ae H), (14, ae (Fc (g.Height - 1))), (15, ae h), (19, ae (Fc (g.Width - 1))), (20, ae j)], [.own [ae c, ae L, ae t, ae i, ae f, bf e], .own [ae d], .own [aB C, au D, aB E, au F], .own [.fn 79 [] []], .own [.fn 76 [] []], .own (al.c g)]⟩) (by rw [oi nE]; first | done | kernel_rfl)) <| .seq <| .r5 G [1, 2, 4, 5, 14, 15, 19, 20] [(45, .hs 6 0 2 3), (46, ae 2), (47, ae 0)] [.own [ae c, ae L, ae t, ae i, ae f, bf e], .own [ae d], .own [aB C, au D, aB E, au F], .own [.fn 79 [] []], .own [.fn 76 [] []], .own (al.c g), .own [ae H, ae (Fc (H + 1)), ae (Fc ((Fc (H + g.Width)) + 1)), ae H, ae (Fc ((Fc (H + g.Width)) + 1)), ae (Fc (H + g.Width))]] <| .block ?_
     obtain ⟨b, nO, hr⟩ := bd hr
     refine .wk ((Wk.refl _).to (c := ⟨mkS 82 0 [(1, .fn 117 [] [.hp 0 0, .hp 1 0, .hp 2 0, .hp 3 0, .hp 4 0]), (2, .hp 5 0), (4, ae g.Width), (5, ae h), (14, ae (Fc (g.Height - 1))), (15, ae h), (19, ae (Fc (g.Width - 1))), (20, ae j), (45, .hs 6 0 b.length 3), (46, ae 2), (47, ae 0)], [.own [ae c, ae L, ae t, ae i, ae f, bf e], .own [ae d], .own [aB C, au D, aB E, au F], .own [.fn 79 [] []], .own [.fn 76 [] []], .own (al.c g), .own (b.flatMap an.c)]⟩) (by rw [<- oi nO]; kernel_rfl)) ?_
     replace hr := bd hr; obtain ⟨l5, jQ, hr⟩ := hr
     refine .aH (σ := fun z0 => match z0 with | (k, l, o, p, a) => ⟨mkS 82 0 [(1, .fn 117 [] [.hp 0 0, .hp 1 0, .hp 2 0, .hp 3 0, .hp 4 0]), (2, .hp 5 0), (4, ae g.Width), (5, ae h), (14, ae (Fc (g.Height - 1))), (15, ae h), (19, ae (Fc (g.Width - 1))), (20, ae j), (45, .hs 6 0 b.length 3), (46, ae 2), (47, ae a)], [.own [ae c, ae L, ae t, ae i, ae f, bf e], .own [ae d], .own [aB k, au l, aB o, au p], .own [.fn 79 [] []], .own [.fn 76 [] []], .own (al.c g), .own (b.flatMap an.c)]⟩) (Q := fun x st' => match (generalizing := false) l5 with | (T, U, V, W) => x = .exit 4 /\ Wk 5 st' ⟨mkS 82 0 [(1, .fn 117 [] [.hp 0 0, .hp 1 0, .hp 2 0, .hp 3 0, .hp 4 0]), (2, .hp 5 0), (4, ae g.Width), (5, ae h), (14, ae (Fc (g.Height - 1))), (15, ae h), (19, ae (Fc (g.Width - 1))), (20, ae j)], [.own [ae c, ae L, ae t, ae i, ae f, bf e], .own [ae d], .own [aB T, au U, aB V, au W], .own [.fn 79 [] []], .own [.fn 76 [] []], .own (al.c g)]⟩) jQ ((Wk.gc [1, 2, 4, 5, 14, 15, 19, 20, 45, 46, 47] [(0, true), (1, true), (2, true), (3, true), (4, true), (5, true), (6, false)] rfl (pKt (pKt (pKt (pKt (pKt (pKt (pKo an.c an.pure b trivial)))))))).to) ?_ ?_
     ·clear hr
      rintro m ⟨k, l, o, p, a⟩ hr
      show CQ _ _ _ _ _ ⟨_, _⟩
      refine .seq (.r4 G [1, 2, 4, 5, 14, 15, 19, 20, 45, 46, 47] [(48, aB (decide (a < 2)))] (.seq ?_))
      refine .cd hr ?_ ?_ <;> intro qy hr
      ·refine .skip (.seq (.block (.seq ?_)))
       obtain ⟨jN, hr⟩ := gd hr
       refine .r0 G (.p0 (v := .hp 6 (0 + a.toNat * 3)) (tr (ar jN)) (.p0 (v := .agg (an.c (gt b a))) (tr (y := bu.ofP (dR (decide (3 <= ((b.flatMap an.c).drop (0 + a.toNat * 3)).length)) (.agg (((b.flatMap an.c).drop (0 + a.toNat * 3)).take 3)))) (bO an.len (aA jN) (by decide) (by omega : 0 + a.toNat * 3 = a.toNat * 3 + 0) (by kernel_rfl))) (.mu 2 (.done (.nh [1, 2, 4, 5, 9, 14, 15, 19, 20, 45, 46, 47] [.own [ae c, ae L, ae t, ae i, ae f, bf e], .own [ae d], .own [aB k, au l, aB o, au p], .own [.fn 79 [] []], .own [.fn 76 [] []], .own (al.c g), .own (b.flatMap an.c), .own (an.c (gt b a))] (.seq ?_))))))
       obtain ⟨A, hr⟩ := gd hr
       rcases bT (((gt g.Z (gt b a).e0) : Int) != (-2147483648)) with B | B
       ·replace hr := cy B hr
        obtain ⟨J, hr⟩ := gd hr
        rcases bT (((gt g.Z (gt b a).e1) : Int) != (-2147483648)) with I | I
        ·replace hr := cy I hr
         obtain ⟨ko, hr⟩ := gd hr
         refine .r0 G (.mu 4 (.p0 (v := .pp (g.Z.flatMap (iC .i64)) ((gt b a).e0.toNat * 1)) (tr (ar A)) (.p0 (v := ae (gt g.Z (gt b a).e0)) (tr (aD (aE (aF .i64) (aA A) z1 (by omega : (gt b a).e0.toNat * 1 = (gt b a).e0.toNat * 1 + 0) (by kernel_rfl)))) (.p0 (v := aB true) (eB B) (.mu 5 (.pure (v := .pp (g.Z.flatMap (iC .i64)) ((gt b a).e1.toNat * 1)) (by kernel_rfl) (tr (ar J)) (.pure (v := ae (gt g.Z (gt b a).e1)) (by kernel_rfl) (tr (aD (aE (aF .i64) (aA J) z1 (by omega : (gt b a).e1.toNat * 1 = (gt b a).e1.toNat * 1 + 0) (by kernel_rfl)))) (.pure (v := aB true) (by kernel_rfl) (eB I) (.mu 6 (.pure (v := .pp (g.Z.flatMap (iC .i64)) ((gt b a).e2.toNat * 1)) (by kernel_rfl) (tr (ar ko)) (.pure (v := ae (gt g.Z (gt b a).e2)) (by kernel_rfl) (tr (aD (aE (aF .i64) (aA ko) z1 (by omega : (gt b a).e2.toNat * 1 = (gt b a).e2.toNat * 1 + 0) (by kernel_rfl)))) (.mu 2 (.done (.nh [1, 2, 4, 5, 9, 14, 15, 19, 20, 45, 46, 47, 75] [.own [ae c, ae L, ae t, ae i, ae f, bf e], .own [ae d], .own [aB k, au l, aB o, au p], .own [.fn 79 [] []], .own [.fn 76 [] []], .own (al.c g), .own (b.flatMap an.c), .own (an.c (gt b a))] ?_))))))))))))))
         refine .cd hr ?_ ?_ <;> intro qg hr
         ·obtain ⟨M, ov, hr⟩ := bd hr
          refine .g1 G (bZ (args := [.agg (an.c (gt b a)), .hp 0 0, .hp 1 0, .hp 2 0, .hp 3 0, .hp 4 0]) 5 0 kT5 [true, true, true, true, true] (pK n (gt b a) c L t i f e d k l o p M ov) trivial trivial rfl rfl (by kernel_rfl) (by kernel_rfl)) (.mu 2 (.ca cf0 (.done (.pop (.ru G ?_)))))
          exact az (M.1, M.2.1, M.2.2.1, M.2.2.2, Fc (a + 1)) hr ((Wk.gc [1, 2, 4, 5, 14, 15, 19, 20, 45, 46, 47] [(0, true), (1, true), (2, true), (3, true), (4, true), (5, true), (6, false)] rfl (pKt (pKt (pKt (pKt (pKt (pKt (pKo an.c an.pure b trivial)))))))).to)
         refine .skip (.pop (.ru G ?_))
         exact az (k, l, o, p, Fc (a + 1)) hr ((Wk.gc [1, 2, 4, 5, 14, 15, 19, 20, 45, 46, 47] [(0, true), (1, true), (2, true), (3, true), (4, true), (5, true), (6, false)] rfl (pKt (pKt (pKt (pKt (pKt (pKt (pKo an.c an.pure b trivial)))))))).to)
        replace hr := cz I hr
        refine .r0 G (.mu 4 (.p0 (v := .pp (g.Z.flatMap (iC .i64)) ((gt b a).e0.toNat * 1)) (tr (ar A)) (.p0 (v := ae (gt g.Z (gt b a).e0)) (tr (aD (aE (aF .i64) (aA A) z1 (by omega : (gt b a).e0.toNat * 1 = (gt b a).e0.toNat * 1 + 0) (by kernel_rfl)))) (.p0 (v := aB true) (eB B) (.mu 5 (.pure (v := .pp (g.Z.flatMap (iC .i64)) ((gt b a).e1.toNat * 1)) (by kernel_rfl) (tr (ar J)) (.pure (v := ae (gt g.Z (gt b a).e1)) (by kernel_rfl) (tr (aD (aE (aF .i64) (aA J) z1 (by omega : (gt b a).e1.toNat * 1 = (gt b a).e1.toNat * 1 + 0) (by kernel_rfl)))) (.pure (v := aB false) (by kernel_rfl) (eB I) (.mu 10 (.done (.nh [1, 2, 4, 5, 9, 14, 15, 19, 20, 45, 46, 47, 75] [.own [ae c, ae L, ae t, ae i, ae f, bf e], .own [ae d], .own [aB k, au l, aB o, au p], .own [.fn 79 [] []], .own [.fn 76 [] []], .own (al.c g), .own (b.flatMap an.c), .own (an.c (gt b a))] (.cF (by kernel_rfl) (.skip (.pop (.ru G ?_)))))))))))))))
        exact az (k, l, o, p, Fc (a + 1)) hr ((Wk.gc [1, 2, 4, 5, 14, 15, 19, 20, 45, 46, 47] [(0, true), (1, true), (2, true), (3, true), (4, true), (5, true), (6, false)] rfl (pKt (pKt (pKt (pKt (pKt (pKt (pKo an.c an.pure b trivial)))))))).to)
       replace hr := cz B hr
       refine .r0 G (.mu 4 (.p0 (v := .pp (g.Z.flatMap (iC .i64)) ((gt b a).e0.toNat * 1)) (tr (ar A)) (.p0 (v := ae (gt g.Z (gt b a).e0)) (tr (aD (aE (aF .i64) (aA A) z1 (by omega : (gt b a).e0.toNat * 1 = (gt b a).e0.toNat * 1 + 0) (by kernel_rfl)))) (.p0 (v := aB false) (eB B) (.mu 18 (.done (.nh [1, 2, 4, 5, 9, 14, 15, 19, 20, 45, 46, 47, 75] [.own [ae c, ae L, ae t, ae i, ae f, bf e], .own [ae d], .own [aB k, au l, aB o, au p], .own [.fn 79 [] []], .own [.fn 76 [] []], .own (al.c g), .own (b.flatMap an.c), .own (an.c (gt b a))] (.cF (by kernel_rfl) (.skip (.pop (.ru G ?_)))))))))))
       exact az (k, l, o, p, Fc (a + 1)) hr ((Wk.gc [1, 2, 4, 5, 14, 15, 19, 20, 45, 46, 47] [(0, true), (1, true), (2, true), (3, true), (4, true), (5, true), (6, false)] rfl (pKt (pKt (pKt (pKt (pKt (pKt (pKo an.c an.pure b trivial)))))))).to)
      refine .leave rfl ?_
      obtain rfl := oi hr
      exact ⟨rfl, ((Wk.gc [1, 2, 4, 5, 14, 15, 19, 20] kT6 rfl trivial).to)⟩
     rcases l5 with ⟨T, U, V, W⟩
     rintro x st' X
     clear jQ
     obtain ⟨rfl, X⟩ := X
     refine aQ _ rfl (.pop (.wk X (.ru G ?_)))
     exact az (T, U, V, W, Fc (j + 1)) hr ((Wk.gc [1, 2, 4, 5, 14, 15, 19, 20] kT6 rfl trivial).to)
    refine .leave rfl ?_
    obtain rfl := oi hr
    exact ⟨rfl, ((Wk.gc [1, 2, 4, 14, 15] kT6 rfl trivial).to)⟩
   rcases kZ with ⟨N, O, R, S⟩
   rintro x st' Y
   clear iZ
   obtain ⟨rfl, Y⟩ := Y
   refine aQ _ rfl (.pop (.wk Y (.ru G ?_)))
   exact az (N, O, R, S, Fc (h + 1)) hr ((Wk.gc [1, 2, 4, 14, 15] kT6 rfl trivial).to)
  refine .leave rfl ?_
  obtain rfl := oi hr
  exact ⟨rfl, ((Wk.gc [] kT5 rfl trivial).to)⟩
 rcases ky with ⟨kE, lP, lE, mM⟩
 rintro x st' gU
 clear iV
 obtain ⟨rfl, gU⟩ := gU
 refine aQ _ rfl ?_
 obtain rfl := oi hr
 exact dk.wk gU (dk.normal [] ((Wk.gc [] kT5 rfl trivial).to))

theorem fD (n : Nat) (g : al) (level : Int) (r : ag) (hr : a7 n g level = some r) : aL Tryz.prog 72 [.agg (al.c g), ae level, .fn 76 [] [], .fn 79 [] []] (.agg (ag.c r)) := by
 unfold a7 at hr
 refine aL.bd G Tryz.func72 [.cell 8 42] ?_
 unfold Tryz.f72
 simp only [gS]
 refine .seq (.r2 G 28 [(4, .hp 0 0), (5, .hp 1 0), (6, .hp 2 0), (7, .hp 3 0), (8, .hp 4 0)] [.own (al.c g), .own [ae level], .own [.fn 76 [] []], .own [.fn 79 [] []], .own zN2] (.seq ?_))
 obtain ⟨b, e, hr⟩ := bd hr
 refine .g1 G (ok0 (cu n 0 b e)) (.ca cf0 (.mu 2 (.done (.nh [4, 5, 6, 7, 8, 9] [.own (al.c g), .own [ae level], .own [.fn 76 [] []], .own [.fn 79 [] []], .own zN2, .own (ag.c b)] (.seq ?_)))))
 obtain ⟨a, f, hr⟩ := bd hr
 refine .g1 G (bZ (args := [.agg (al.c g), .fn 117 [] [.hp 0 0, .hp 1 0, .hp 5 0, .hp 3 0, .hp 2 0]]) 5 0 [(0, true), (1, true), (5, true), (3, true), (2, true)] [true, true, true, true, true] (iU n g g.X0 g.Y0 g.Step g.Width g.Height g.Z level b.Num.Negative b.Num.Groups b.Den.Negative b.Den.Groups a f) trivial trivial rfl rfl (by kernel_rfl) (by kernel_rfl)) (.mu 2 (.ca cf0 (.done (.nh [4, 8, 9] [.own (al.c g), .own [ae level], .own [.fn 76 [] []], .own [.fn 79 [] []], .own zN2, .own [aB a.1, au a.2.1, aB a.2.2.1, au a.2.2.2]] (.seq ?_)))))
 obtain ⟨d, h, hr⟩ := bd hr
 refine .g1 G (ok0 (eW n (Fc (g.Step * g.Step)) 2 d h)) (.mu 5 (.ca cf0 (.mu 6 (.done (.nh [8, 9, 10] [.own (al.c g), .own [ae level], .own [.fn 76 [] []], .own [.fn 79 [] []], .own zN2, .own [aB a.1, au a.2.1, aB a.2.2.1, au a.2.2.2], .own (ag.c d.1)] (.seq ?_))))))
 obtain ⟨i, j, hr⟩ := bd hr
 refine .g1 G (ok0 (dG n (ag.mk (ah.mk a.1 a.2.1) (ah.mk a.2.2.1 a.2.2.2)) d.1 i j)) (.mu 2 (.ca cf0 (.mu 1 (.done (.nh [8] [.own (al.c g), .own [ae level], .own [.fn 76 [] []], .own [.fn 79 [] []], .own (ag.c i), .own [aB a.1, au a.2.1, aB a.2.2.1, au a.2.2.2], .own (ag.c d.1)] (.ret ?_))))))
 obtain rfl := oi hr
 exact aG.r1 [.agg (ag.c i)]

theorem sX (n : Nat) (g : al) (level : Int) (r : ag × Int) (hr : gK n g level = some r) : aL Tryz.prog 34 [.agg (al.c g), ae level] (.tup [.agg (ag.c r.1), ae r.2]) := by
 unfold gK at hr
 refine aL.bd G Tryz.func34 [.cell 4 42, .tmp 5] ?_
 unfold Tryz.f34
 simp only [gS]
 refine .seq (.r5 G [1] [(2, .hp 0 0), (4, .hp 1 0)] [.own (al.c g), .own zN2] (.seq (.seq ?_)))
 obtain ⟨a, b, hr⟩ := bd hr
 refine .g1 G (ok0 (gN n g level a b)) (.mu 2 (.ca cf0 (.mu 1 (.done (.nh [1, 2, 4, 6] [.own (al.c g), .own zN2] (.seq (.r4 G [1, 2, 4, 6] [(13, aB ((a : Int) != 0))] ?_)))))))
 refine .cd hr ?_ ?_ <;> intro f hr
 ·refine .seq (.r4 G [4] [(5, ae a)] (.ret ?_))
  obtain rfl := oi hr
  exact aG.ret (vs := [.agg zN2, ae a]) (by kernel_rfl) (Sn.tup (SnL.cons (Sn.agg (Sp (SnL.cons Sn.fZ (Sp (SnL.cons Sn.fZ SnL.nil))))) (Sp SnL.nil)))
 refine .skip (.seq (.r4 G [1, 2, 4] [(7, .fn 76 [] [])] (.seq (.r4 G [1, 2, 4, 7] [(8, .fn 79 [] [])] (.seq ?_)))))
 obtain ⟨d, e, hr⟩ := bd hr
 refine .g1 G (ok0 (fD n g level d e)) (.mu 4 (.ca cf0 (.mu 2 (.done (.nh [4, 5] [.own (al.c g), .own (ag.c d)] (.ret ?_))))))
 obtain rfl := oi hr
 exact aG.ret (vs := [.agg (ag.c d), ae 0]) (by kernel_rfl) (Sn.tup (Sp (Sp SnL.nil)))

theorem qO (n : Nat) {b : Int} {a : Int} (h : ([.at (.int .i64 b)] : List AV) = [.at (.int .i64 a)]) : dX n b = dX n a := by
 obtain rfl := dS h
 rfl
theorem ia (n : Nat) (b : Int) (r : Bool) (hr : dX n b = some r) : aL Tryz.prog 62 [ae b] (aB r) := by
 unfold dX at hr
 refine aL.bd G Tryz.func62 [.tmp 2] ?_
 unfold Tryz.f62
 simp only [gS]
 refine .seq (.r4 G [0] [] (.seq ?_))
 rcases bT (decide (b < (-1048576))) with a | a
 ·replace hr := cy a hr
  refine .r0 G (.mu 1 (.p0 (v := aB true) (eB a) (.mu 5 (.done (.ret ?_)))))
  obtain rfl := oi hr
  exact aG.r1 [aB true]
 replace hr := cz a hr
 refine .r0 G (.mu 1 (.p0 (v := aB false) (eB a) (.mu 5 (.done (.ret ?_)))))
 obtain rfl := oi hr
 exact aG.r1 [aB (decide (b > 1048576))]

theorem pV (n : Nat) (g : al) (r : Int) (hr : ga n g = some r) : aL Tryz.prog 23 [.agg (al.c g)] (ae r) := by
 unfold ga at hr
 refine aL.bd G Tryz.func23 [.tmp 2] ?_
 unfold Tryz.f23
 simp only [gS]
 refine .seq (.r2 G 72 [(1, .hp 0 0)] [.own (al.c g)] (.seq (.seq ?_)))
 rcases bT (decide (g.Width < 2)) with b | b
 ·replace hr := cy b hr
  refine .r0 G (.mu 2 (.p0 (v := aB true) (eB b) (.mu 41 (.done (.nh [1, 48] [.own (al.c g)] (.cT (by kernel_rfl) (.seq (.ru G (.ret ?_)))))))))
  obtain rfl := oi hr
  exact aG.r1 [ae 2]
 replace hr := cz b hr
 rcases bT (decide (g.Width > 64)) with d | d
 ·replace hr := cy d hr
  refine .r0 G (.mu 2 (.p0 (v := aB false) (eB b) (.mu 3 (.pure (v := aB true) (by kernel_rfl) (eB d) (.mu 37 (.done (.nh [1, 48] [.own (al.c g)] (.cT (by kernel_rfl) (.seq (.ru G (.ret ?_)))))))))))
  obtain rfl := oi hr
  exact aG.r1 [ae 2]
 replace hr := cz d hr
 rcases bT (decide (g.Height < 2)) with f | f
 ·replace hr := cy f hr
  refine .r0 G (.mu 2 (.p0 (v := aB false) (eB b) (.mu 3 (.pure (v := aB false) (by kernel_rfl) (eB d) (.mu 4 (.pure (v := aB true) (by kernel_rfl) (eB f) (.mu 32 (.done (.nh [1, 48] [.own (al.c g)] (.cT (by kernel_rfl) (.seq (.ru G (.ret ?_)))))))))))))
  obtain rfl := oi hr
  exact aG.r1 [ae 2]
 replace hr := cz f hr
 rcases bT (decide (g.Height > 64)) with i | i
 ·replace hr := cy i hr
  refine .r0 G (.mu 2 (.p0 (v := aB false) (eB b) (.mu 3 (.pure (v := aB false) (by kernel_rfl) (eB d) (.mu 4 (.pure (v := aB false) (by kernel_rfl) (eB f) (.mu 4 (.pure (v := aB true) (by kernel_rfl) (eB i) (.mu 27 (.done (.nh [1, 48] [.own (al.c g)] (.cT (by kernel_rfl) (.seq (.ru G (.ret ?_)))))))))))))))
  obtain rfl := oi hr
  exact aG.r1 [ae 2]
 replace hr := cz i hr
 rcases bT (decide (g.Step < 2)) with j | j
 ·replace hr := cy j hr
  refine .r0 G (.mu 2 (.p0 (v := aB false) (eB b) (.mu 3 (.pure (v := aB false) (by kernel_rfl) (eB d) (.mu 4 (.pure (v := aB false) (by kernel_rfl) (eB f) (.mu 4 (.pure (v := aB false) (by kernel_rfl) (eB i) (.mu 4 (.pure (v := aB true) (by kernel_rfl) (eB j) (.mu 22 (.done (.nh [1, 48] [.own (al.c g)] (.cT (by kernel_rfl) (.seq (.ru G (.ret ?_)))))))))))))))))
  obtain rfl := oi hr
  exact aG.r1 [ae 2]
 replace hr := cz j hr
 rcases bT (decide (g.Step > 65536)) with l | l
 ·replace hr := cy l hr
  refine .r0 G (.mu 2 (.p0 (v := aB false) (eB b) (.mu 3 (.pure (v := aB false) (by kernel_rfl) (eB d) (.mu 4 (.pure (v := aB false) (by kernel_rfl) (eB f) (.mu 4 (.pure (v := aB false) (by kernel_rfl) (eB i) (.mu 4 (.pure (v := aB false) (by kernel_rfl) (eB j) (.mu 4 (.pure (v := aB true) (by kernel_rfl) (eB l) (.mu 17 (.done (.nh [1, 48] [.own (al.c g)] (.cT (by kernel_rfl) (.seq (.ru G (.ret ?_)))))))))))))))))))
  obtain rfl := oi hr
  exact aG.r1 [ae 2]
 replace hr := cz l hr
 rcases bT (((g.Step.tmod 2) : Int) != 0) with o | o
 ·replace hr := cy o hr
  refine .r0 G (.mu 2 (.p0 (v := aB false) (eB b) (.mu 3 (.pure (v := aB false) (by kernel_rfl) (eB d) (.mu 4 (.pure (v := aB false) (by kernel_rfl) (eB f) (.mu 4 (.pure (v := aB false) (by kernel_rfl) (eB i) (.mu 4 (.pure (v := aB false) (by kernel_rfl) (eB j) (.mu 4 (.pure (v := aB false) (by kernel_rfl) (eB l) (.mu 5 (.pure (v := aB true) (by kernel_rfl) (eB o) (.mu 11 (.done (.nh [1, 48] [.own (al.c g)] (.cT (by kernel_rfl) (.seq (.ru G (.ret ?_)))))))))))))))))))))
  obtain rfl := oi hr
  exact aG.r1 [ae 2]
 replace hr := cz o hr
 obtain ⟨F, u, hr⟩ := bd hr
 rcases bT F with p | p
 ·subst p
  replace hr := cy rfl hr
  refine .g1 G (ok0 (ia n g.X0 true u)) (.mu 2 (.p0 (v := aB false) (eB b) (.mu 3 (.pure (v := aB false) (by kernel_rfl) (eB d) (.mu 4 (.pure (v := aB false) (by kernel_rfl) (eB f) (.mu 4 (.pure (v := aB false) (by kernel_rfl) (eB i) (.mu 4 (.pure (v := aB false) (by kernel_rfl) (eB j) (.mu 4 (.pure (v := aB false) (by kernel_rfl) (eB l) (.mu 5 (.pure (v := aB false) (by kernel_rfl) (eB o) (.mu 4 (.ca cf0 (.mu 6 (.done (.nh [1, 48] [.own (al.c g)] (.cT (by kernel_rfl) (.seq (.ru G (.ret ?_)))))))))))))))))))))))
  obtain rfl := oi hr
  exact aG.r1 [ae 2]
 subst p
 replace hr := cz rfl hr
 obtain ⟨z, s, hr⟩ := bd hr
 refine .gn G (ca1 (ok0 (ia n g.X0 false u)) (ca3 (ok0 (ia n g.Y0 z s)))) (.mu 2 (.p0 (v := aB false) (eB b) (.mu 3 (.pure (v := aB false) (by kernel_rfl) (eB d) (.mu 4 (.pure (v := aB false) (by kernel_rfl) (eB f) (.mu 4 (.pure (v := aB false) (by kernel_rfl) (eB i) (.mu 4 (.pure (v := aB false) (by kernel_rfl) (eB j) (.mu 4 (.pure (v := aB false) (by kernel_rfl) (eB l) (.mu 5 (.pure (v := aB false) (by kernel_rfl) (eB o) (.mu 4 (.ca cf0 (.mu 4 (.ca (cfA (fun h => by rw [sv s u (qO n h)]) cf0) (.mu 1 (.done (.nh [1, 48] [.own (al.c g)] ?_)))))))))))))))))))))
 refine .cd hr ?_ ?_ <;> intro B hr
 ·refine .seq (.ru G (.ret ?_))
  obtain rfl := oi hr
  exact aG.r1 [ae 2]
 refine .skip (.seq (.seq (.r4 G [1] [(57, aB (((g.Z.length : Int) : Int) != (Fc (g.Width * g.Height))))] ?_)))
 refine .cd hr ?_ ?_ <;> intro C hr
 ·refine .seq (.ru G (.ret ?_))
  obtain rfl := oi hr
  exact aG.r1 [ae 4]
 refine .skip (.seq (.seq (.r3 G 72 [(59, bf g.Z), (60, ae (g.Z.length : Int)), (61, ae 0)] (.block ?_))))
 replace hr := bd hr; obtain ⟨w, q, hr⟩ := hr
 refine .aH (σ := fun H => match H with | a => ⟨mkS 72 0 [(59, bf g.Z), (60, ae (g.Z.length : Int)), (61, ae a)], []⟩) (Q := fun x st' => match (generalizing := false) w with | .inl _ => x = .exit 0 /\ Wk 0 st' ⟨mkS 72 0 [], []⟩ | .inr (r0) => x = .ret /\ aG Tryz.prog [.tmp 2] (ae r0) .ret st') q ((Wk.gc [59, 60, 61] [] rfl pK0).to) ?_ ?_
 ·clear hr
  rintro m a hr
  show CQ _ _ _ _ _ ⟨_, _⟩
  refine .seq (.r4 G [59, 60, 61] [(62, aB (decide (a < (g.Z.length : Int))))] (.seq ?_))
  refine .cd hr ?_ ?_ <;> intro D hr
  ·refine .skip (.seq (.block (.seq ?_)))
   obtain ⟨t, hr⟩ := gd hr
   refine .r0 G (.p0 (v := .pp (g.Z.flatMap (iC .i64)) (a.toNat * 1)) (tr (ar t)) (.p0 (v := ae (gt g.Z a)) (tr (aD (aE (aF .i64) (aA t) z1 (by omega : a.toNat * 1 = a.toNat * 1 + 0) (by kernel_rfl)))) (.mu 1 (.done (.nh [4, 59, 60, 61] [] (.seq ?_))))))
   rcases bT (((gt g.Z a) : Int) != (-2147483648)) with k | k
   ·replace hr := cy k hr
    obtain ⟨A, y, hr⟩ := bd hr
    refine .g1 G (ok0 (ia n (gt g.Z a) A y)) (.mu 1 (.p0 (v := aB true) (eB k) (.mu 2 (.ca cf0 (.mu 1 (.done (.nh [59, 60, 61, 70] [] ?_)))))))
    refine .cd hr ?_ ?_ <;> intro E hr
    ·refine .seq (.ru G (.ret ?_))
     obtain rfl := oi hr
     exact ⟨rfl, aG.ret (vs := [ae 2]) (by kernel_rfl) (Sn.pure rfl)⟩
    refine .skip (.pop (.ru G ?_))
    exact az (Fc (a + 1)) hr ((Wk.gc [59, 60, 61] [] rfl pK0).to)
   replace hr := cz k hr
   refine .r0 G (.mu 1 (.p0 (v := aB false) (eB k) (.mu 4 (.done (.nh [59, 60, 61, 70] [] (.cF (by kernel_rfl) (.skip (.pop (.ru G ?_)))))))))
   exact az (Fc (a + 1)) hr ((Wk.gc [59, 60, 61] [] rfl pK0).to)
  refine .leave rfl ?_
  obtain rfl := oi hr
  exact ⟨rfl, ((Wk.gc [] [] rfl pK0).to)⟩
 rcases w with ⟨⟩ | r0
 ·rintro x st' e
  clear q
  obtain ⟨rfl, e⟩ := e
  refine aQ _ rfl (.wk e (.seq (.ru G (.ret ?_))))
  obtain rfl := oi hr
  exact aG.r1 [ae 0]
 rintro x st' e
 clear q
 obtain ⟨rfl, e⟩ := e
 obtain rfl := oi hr
 exact iT _ e

theorem oG (n : Nat) (g : al) (level : Int) (r : Int) (hr : fj n g level = some r) : aL Tryz.prog 15 [.agg (al.c g), ae level] (ae r) := by
 unfold fj at hr
 refine aL.bd G Tryz.func15 [.tmp 4] ?_
 unfold Tryz.f15
 simp only [gS]
 refine .seq (.r5 G [1] [(2, .hp 0 0)] [.own (al.c g)] (.seq (.seq ?_)))
 obtain ⟨b, d, hr⟩ := bd hr
 refine .g1 G (ok0 (pV n g b d)) (.mu 1 (.ca cf0 (.mu 1 (.done (.nh [1, 5] [.own (al.c g)] (.seq (.r4 G [1, 5] [(9, aB ((b : Int) != 0))] ?_)))))))
 refine .cd hr ?_ ?_ <;> intro e hr
 ·refine .seq (.ru G (.ret ?_))
  obtain rfl := oi hr
  exact aG.r1 [ae b]
 refine .skip (.seq (.seq (.r4 G [1] [(13, aB (((level.tmod 2) : Int) == 0))] ?_)))
 refine .cd hr ?_ ?_ <;> intro f hr
 ·refine .seq (.ru G (.ret ?_))
  obtain rfl := oi hr
  exact aG.r1 [ae 1]
 refine .skip (.seq (.seq ?_))
 rcases bT (decide (level < (-2097153))) with a | a
 ·replace hr := cy a hr
  refine .r0 G (.mu 1 (.p0 (v := aB true) (eB a) (.mu 4 (.done (.nh [19] [.own (al.c g)] (.cT (by kernel_rfl) (.seq (.ru G (.ret ?_)))))))))
  obtain rfl := oi hr
  exact aG.r1 [ae 2]
 replace hr := cz a hr
 refine .r0 G (.mu 1 (.p0 (v := aB false) (eB a) (.mu 4 (.done (.nh [19] [.own (al.c g)] ?_)))))
 refine .cd hr ?_ ?_ <;> intro h hr
 ·refine .seq (.ru G (.ret ?_))
  obtain rfl := oi hr
  exact aG.r1 [ae 2]
 refine .skip (.seq (.ru G (.ret ?_)))
 obtain rfl := oi hr
 exact aG.r1 [ae 0]

theorem qh (n : Nat) {b : ag} {a : ag} (h : ([.agg (ag.c b)] : List AV) = [.agg (ag.c a)]) : fm n b = fm n a := by
 obtain rfl := gD h
 rfl
theorem jJ (n : Nat) (e : ag) (r : Bool) (hr : fm n e = some r) : aL Tryz.prog 31 [.agg (ag.c e)] (aB r) := by
 unfold fm at hr
 refine aL.bd G Tryz.func31 [.tmp 2] ?_
 unfold Tryz.f31
 simp only [gS]
 refine .seq (.r2 G 27 [(1, .hp 0 0)] [.own (ag.c e)] (.seq ?_))
 rcases bT (!e.Num.Negative) with a | a
 ·replace hr := cy a hr
  rcases bT (!e.Den.Negative) with b | b
  ·replace hr := cy b hr
   rcases bT (((e.Num.Groups.length : Int) : Int) == 0) with d | d
   ·replace hr := cy d hr
    refine .r0 G (.mu 3 (.p0 (v := aB true) (eB a) (.mu 4 (.pure (v := aB true) (by kernel_rfl) (eB b) (.mu 6 (.pure (v := aB true) (by kernel_rfl) (eB d) (.mu 9 (.done (.ret ?_)))))))))
    obtain rfl := oi hr
    exact aG.r1 [aB (((e.Den.Groups.length : Int) : Int) == 0)]
   replace hr := cz d hr
   refine .r0 G (.mu 3 (.p0 (v := aB true) (eB a) (.mu 4 (.pure (v := aB true) (by kernel_rfl) (eB b) (.mu 6 (.pure (v := aB false) (by kernel_rfl) (eB d) (.mu 9 (.done (.ret ?_)))))))))
   obtain rfl := oi hr
   exact aG.r1 [aB false]
  replace hr := cz b hr
  refine .r0 G (.mu 3 (.p0 (v := aB true) (eB a) (.mu 4 (.pure (v := aB false) (by kernel_rfl) (eB b) (.mu 16 (.done (.ret ?_)))))))
  obtain rfl := oi hr
  exact aG.r1 [aB false]
 replace hr := cz a hr
 refine .r0 G (.mu 3 (.p0 (v := aB false) (eB a) (.mu 21 (.done (.ret ?_)))))
 obtain rfl := oi hr
 exact aG.r1 [aB false]

theorem nX (n : Nat) (g : al) (r : List (A3 Int)) (hr : eG n g = some r) : aL Tryz.prog 67 [.agg (al.c g)] (slT an.c r) := by
 unfold eG at hr
 refine aL.bd G Tryz.func67 [.tmp 2] ?_
 unfold Tryz.f67
 simp only [gS]
 refine .seq (.r2 G 87 [(1, .hp 0 0)] [.own (al.c g)] (.seq (.r5 G [1] [(3, .hs 1 0 0 3)] [.own (al.c g), .own []] (.seq (.seq (.r4 G [1, 3] [(12, ae (Fc (g.Height - 1))), (13, ae 0)] (.block ?_)))))))
 replace hr := bd hr; obtain ⟨A, B, hr⟩ := hr
 refine .aH (σ := fun N => match N with | (C, e) => ⟨mkS 87 0 [(1, .hp 0 0), (3, .hs 1 0 C.length 3), (12, ae (Fc (g.Height - 1))), (13, ae e)], [.own (al.c g), .own (C.flatMap an.c)]⟩) (Q := fun x st' => x = .exit 0 /\ Wk 0 st' ⟨mkS 87 0 [(3, .hs 0 0 A.length 3)], [.own (A.flatMap an.c)]⟩) B ((Wk.gc [1, 3, 12, 13] [(0, true), (1, false)] rfl (pKt (pKc trivial))).to) ?_ ?_
 ·clear hr
  rintro m ⟨C, e⟩ hr
  show CQ _ _ _ _ _ ⟨_, _⟩
  refine .seq (.r4 G [1, 3, 12, 13] [(14, aB (decide (e < (Fc (g.Height - 1)))))] (.seq ?_))
  refine .cd hr ?_ ?_ <;> intro T hr
  ·refine .skip (.seq (.block (.seq (.r4 G [1, 3, 12, 13] [(4, ae e)] (.seq (.r4 G [1, 3, 4, 12, 13] [(18, ae (Fc (g.Width - 1))), (19, ae 0)] (.block ?_)))))))
   replace hr := bd hr; obtain ⟨q, D, hr⟩ := hr
   refine .aH (σ := fun N => match N with | (f, i) => ⟨mkS 87 0 [(1, .hp 0 0), (3, .hs 1 0 f.length 3), (4, ae e), (12, ae (Fc (g.Height - 1))), (13, ae e), (18, ae (Fc (g.Width - 1))), (19, ae i)], [.own (al.c g), .own (f.flatMap an.c)]⟩) (Q := fun x st' => x = .exit 2 /\ Wk 0 st' ⟨mkS 87 0 [(1, .hp 0 0), (3, .hs 1 0 q.length 3), (12, ae (Fc (g.Height - 1))), (13, ae e)], [.own (al.c g), .own (q.flatMap an.c)]⟩) D ((Wk.gc [1, 3, 4, 12, 13, 18, 19] [(0, true), (1, false)] rfl (pKt (pKo an.c an.pure C trivial))).to) ?_ ?_
   ·clear hr
    rintro m ⟨f, i⟩ hr
    show CQ _ _ _ _ _ ⟨_, _⟩
    refine .seq (.r4 G [1, 3, 4, 12, 13, 18, 19] [(20, aB (decide (i < (Fc (g.Width - 1)))))] (.seq ?_))
    refine .cd hr ?_ ?_ <;> intro O hr
    ·refine .skip (.seq (.block (.seq (.r4 G [1, 3, 4, 12, 13, 18, 19] [(5, ae i)] (.seq (.r4 G [1, 3, 4, 12, 13, 18, 19] [(6, ae (Fc ((Fc (e * g.Width)) + i)))] ?_))))))
     obtain ⟨o, I, hr⟩ := bd hr
     refine .wk ((Wk.refl _).to (c := ⟨mkS 87 0 [(1, .hp 0 0), (3, .hs 1 0 f.length 3), (4, ae e), (6, ae o), (12, ae (Fc (g.Height - 1))), (13, ae e), (18, ae (Fc (g.Width - 1))), (19, ae i)], [.own (al.c g), .own (f.flatMap an.c)]⟩) (by rw [oi I]; first | done | kernel_rfl)) <| .seq <| .r5 G [1, 3, 4, 12, 13, 18, 19] [(48, .hs 2 0 2 3), (49, ae 2), (50, ae 0)] [.own (al.c g), .own (f.flatMap an.c), .own [ae o, ae (Fc (o + 1)), ae (Fc ((Fc (o + g.Width)) + 1)), ae o, ae (Fc ((Fc (o + g.Width)) + 1)), ae (Fc (o + g.Width))]] <| .block ?_
     obtain ⟨b, J, hr⟩ := bd hr
     refine .wk ((Wk.refl _).to (c := ⟨mkS 87 0 [(1, .hp 0 0), (3, .hs 1 0 f.length 3), (4, ae e), (12, ae (Fc (g.Height - 1))), (13, ae e), (18, ae (Fc (g.Width - 1))), (19, ae i), (48, .hs 2 0 b.length 3), (49, ae 2), (50, ae 0)], [.own (al.c g), .own (f.flatMap an.c), .own (b.flatMap an.c)]⟩) (by rw [<- oi J]; kernel_rfl)) ?_
     replace hr := bd hr; obtain ⟨s, E, hr⟩ := hr
     refine .aH (σ := fun N => match N with | (d, a) => ⟨mkS 87 0 [(1, .hp 0 0), (3, .hs 1 0 d.length 3), (4, ae e), (12, ae (Fc (g.Height - 1))), (13, ae e), (18, ae (Fc (g.Width - 1))), (19, ae i), (48, .hs 2 0 b.length 3), (49, ae 2), (50, ae a)], [.own (al.c g), .own (d.flatMap an.c), .own (b.flatMap an.c)]⟩) (Q := fun x st' => x = .exit 4 /\ Wk 0 st' ⟨mkS 87 0 [(1, .hp 0 0), (3, .hs 1 0 s.length 3), (4, ae e), (12, ae (Fc (g.Height - 1))), (13, ae e), (18, ae (Fc (g.Width - 1))), (19, ae i)], [.own (al.c g), .own (s.flatMap an.c)]⟩) E ((Wk.gc [1, 3, 4, 12, 13, 18, 19, 48, 49, 50] [(0, true), (1, false), (2, false)] rfl (pKt (pKo an.c an.pure f (pKo an.c an.pure b trivial)))).to) ?_ ?_
     ·clear hr
      rintro m ⟨d, a⟩ hr
      show CQ _ _ _ _ _ ⟨_, _⟩
      refine .seq (.r4 G [1, 3, 4, 12, 13, 18, 19, 48, 49, 50] [(51, aB (decide (a < 2)))] (.seq ?_))
      refine .cd hr ?_ ?_ <;> intro R hr
      ·refine .skip (.seq (.block (.seq ?_)))
       obtain ⟨F, hr⟩ := gd hr
       refine .r0 G (.p0 (v := .hp 2 (0 + a.toNat * 3)) (tr (ar F)) (.p0 (v := .agg (an.c (gt b a))) (tr (y := bu.ofP (dR (decide (3 <= ((b.flatMap an.c).drop (0 + a.toNat * 3)).length)) (.agg (((b.flatMap an.c).drop (0 + a.toNat * 3)).take 3)))) (bO an.len (aA F) (by decide) (by omega : 0 + a.toNat * 3 = a.toNat * 3 + 0) (by kernel_rfl))) (.mu 2 (.done (.nh [1, 3, 4, 8, 12, 13, 18, 19, 48, 49, 50] [.own (al.c g), .own (d.flatMap an.c), .own (b.flatMap an.c), .own (an.c (gt b a))] (.seq ?_))))))
       obtain ⟨j, hr⟩ := gd hr
       rcases bT (((gt g.Z (gt b a).e0) : Int) != (-2147483648)) with k | k
       ·replace hr := cy k hr
        obtain ⟨t, hr⟩ := gd hr
        rcases bT (((gt g.Z (gt b a).e1) : Int) != (-2147483648)) with p | p
        ·replace hr := cy p hr
         obtain ⟨H, hr⟩ := gd hr
         refine .r0 G (.mu 4 (.p0 (v := .pp (g.Z.flatMap (iC .i64)) ((gt b a).e0.toNat * 1)) (tr (ar j)) (.p0 (v := ae (gt g.Z (gt b a).e0)) (tr (aD (aE (aF .i64) (aA j) z1 (by omega : (gt b a).e0.toNat * 1 = (gt b a).e0.toNat * 1 + 0) (by kernel_rfl)))) (.p0 (v := aB true) (eB k) (.mu 5 (.pure (v := .pp (g.Z.flatMap (iC .i64)) ((gt b a).e1.toNat * 1)) (by kernel_rfl) (tr (ar t)) (.pure (v := ae (gt g.Z (gt b a).e1)) (by kernel_rfl) (tr (aD (aE (aF .i64) (aA t) z1 (by omega : (gt b a).e1.toNat * 1 = (gt b a).e1.toNat * 1 + 0) (by kernel_rfl)))) (.pure (v := aB true) (by kernel_rfl) (eB p) (.mu 6 (.pure (v := .pp (g.Z.flatMap (iC .i64)) ((gt b a).e2.toNat * 1)) (by kernel_rfl) (tr (ar H)) (.pure (v := ae (gt g.Z (gt b a).e2)) (by kernel_rfl) (tr (aD (aE (aF .i64) (aA H) z1 (by omega : (gt b a).e2.toNat * 1 = (gt b a).e2.toNat * 1 + 0) (by kernel_rfl)))) (.mu 2 (.done (.nh [1, 3, 4, 8, 12, 13, 18, 19, 48, 49, 50, 78] [.own (al.c g), .own (d.flatMap an.c), .own (b.flatMap an.c), .own (an.c (gt b a))] ?_))))))))))))))
         refine .cd hr ?_ ?_ <;> intro S hr
         ·obtain ⟨L, M, hr⟩ := gd2 hr
          refine .r0 G (.mu 3 (.e0 (v := .hs 5 0 (d ++ [(gt b a)]).length 3) (ws := [(1, .dead), (5, .own ((d ++ [(gt b a)]).flatMap an.c))]) (tr (eM (new := (an.c (gt b a))) (l := d) (xs := [(gt b a)]) an.len rfl rfl (by kernel_rfl) L M)) (.mu 1 (.done (.pop (.ru G ?_))))))
          exact az (d ++ [(gt b a)], Fc (a + 1)) hr ((Wk.gc [1, 3, 4, 12, 13, 18, 19, 48, 49, 50] [(0, true), (5, false), (2, false)] rfl (pKt (pKo an.c an.pure (d ++ [(gt b a)]) (pKo an.c an.pure b trivial)))).to)
         refine .skip (.pop (.ru G ?_))
         exact az (d, Fc (a + 1)) hr ((Wk.gc [1, 3, 4, 12, 13, 18, 19, 48, 49, 50] [(0, true), (1, false), (2, false)] rfl (pKt (pKo an.c an.pure d (pKo an.c an.pure b trivial)))).to)
        replace hr := cz p hr
        refine .r0 G (.mu 4 (.p0 (v := .pp (g.Z.flatMap (iC .i64)) ((gt b a).e0.toNat * 1)) (tr (ar j)) (.p0 (v := ae (gt g.Z (gt b a).e0)) (tr (aD (aE (aF .i64) (aA j) z1 (by omega : (gt b a).e0.toNat * 1 = (gt b a).e0.toNat * 1 + 0) (by kernel_rfl)))) (.p0 (v := aB true) (eB k) (.mu 5 (.pure (v := .pp (g.Z.flatMap (iC .i64)) ((gt b a).e1.toNat * 1)) (by kernel_rfl) (tr (ar t)) (.pure (v := ae (gt g.Z (gt b a).e1)) (by kernel_rfl) (tr (aD (aE (aF .i64) (aA t) z1 (by omega : (gt b a).e1.toNat * 1 = (gt b a).e1.toNat * 1 + 0) (by kernel_rfl)))) (.pure (v := aB false) (by kernel_rfl) (eB p) (.mu 10 (.done (.nh [1, 3, 4, 8, 12, 13, 18, 19, 48, 49, 50, 78] [.own (al.c g), .own (d.flatMap an.c), .own (b.flatMap an.c), .own (an.c (gt b a))] (.cF (by kernel_rfl) (.skip (.pop (.ru G ?_)))))))))))))))
        exact az (d, Fc (a + 1)) hr ((Wk.gc [1, 3, 4, 12, 13, 18, 19, 48, 49, 50] [(0, true), (1, false), (2, false)] rfl (pKt (pKo an.c an.pure d (pKo an.c an.pure b trivial)))).to)
       replace hr := cz k hr
       refine .r0 G (.mu 4 (.p0 (v := .pp (g.Z.flatMap (iC .i64)) ((gt b a).e0.toNat * 1)) (tr (ar j)) (.p0 (v := ae (gt g.Z (gt b a).e0)) (tr (aD (aE (aF .i64) (aA j) z1 (by omega : (gt b a).e0.toNat * 1 = (gt b a).e0.toNat * 1 + 0) (by kernel_rfl)))) (.p0 (v := aB false) (eB k) (.mu 18 (.done (.nh [1, 3, 4, 8, 12, 13, 18, 19, 48, 49, 50, 78] [.own (al.c g), .own (d.flatMap an.c), .own (b.flatMap an.c), .own (an.c (gt b a))] (.cF (by kernel_rfl) (.skip (.pop (.ru G ?_)))))))))))
       exact az (d, Fc (a + 1)) hr ((Wk.gc [1, 3, 4, 12, 13, 18, 19, 48, 49, 50] [(0, true), (1, false), (2, false)] rfl (pKt (pKo an.c an.pure d (pKo an.c an.pure b trivial)))).to)
      refine .leave rfl ?_
      obtain rfl := oi hr
      exact ⟨rfl, ((Wk.gc [1, 3, 4, 12, 13, 18, 19] [(0, true), (1, false)] rfl (pKt (pKo an.c an.pure d trivial))).to)⟩
     rintro x st' u
     clear E
     obtain ⟨rfl, u⟩ := u
     refine aQ _ rfl (.pop (.wk u (.ru G ?_)))
     exact az (s, Fc (i + 1)) hr ((Wk.gc [1, 3, 4, 12, 13, 18, 19] [(0, true), (1, false)] rfl (pKt (pKo an.c an.pure s trivial))).to)
    refine .leave rfl ?_
    obtain rfl := oi hr
    exact ⟨rfl, ((Wk.gc [1, 3, 12, 13] [(0, true), (1, false)] rfl (pKt (pKo an.c an.pure f trivial))).to)⟩
   rintro x st' w
   clear D
   obtain ⟨rfl, w⟩ := w
   refine aQ _ rfl (.pop (.wk w (.ru G ?_)))
   exact az (q, Fc (e + 1)) hr ((Wk.gc [1, 3, 12, 13] [(0, true), (1, false)] rfl (pKt (pKo an.c an.pure q trivial))).to)
  refine .leave rfl ?_
  obtain rfl := oi hr
  exact ⟨rfl, ((Wk.gc [3] [(1, false)] rfl (pKo an.c an.pure C trivial)).to)⟩
 rintro x st' z
 clear B
 obtain ⟨rfl, z⟩ := z
 refine aQ _ rfl (.wk z (.seq (.r3 G 87 [(2, .hs 0 0 A.length 3)] (.ret ?_))))
 obtain rfl := oi hr
 exact aG.ret (vs := [.hs 0 0 A.length 3]) (by kernel_rfl) (Sn.hs rfl (.inl rfl) (SnC.pure (aW an.pure _)) (fun h => cG h))

theorem oZ (n : Nat) (a : Int) (b : Int) (c : Int) (r : ag × ag) (hr : jY n a b c = some r) : aL Tryz.prog 81 [ae a, ae b, ae c] (.tup [.agg (ag.c r.1), .agg (ag.c r.2)]) := by cases hr

theorem eE (n : Nat) (a : ag) (y : ag) (r : ag) (hr : cw n a y = some r) : aL Tryz.prog 39 [.agg (ag.c a), .agg (ag.c y)] (.agg (ag.c r)) := by
 unfold cw at hr
 refine aL.bd G Tryz.func39 [.cell 4 42] ?_
 unfold Tryz.f39
 simp only [gS]
 refine .seq (.r2 G 22 [(2, .hp 0 0), (3, .hp 1 0), (4, .hp 2 0)] [.own (ag.c a), .own (ag.c y), .own zN2] (.seq ?_))
 obtain ⟨b, i, hr⟩ := bd hr
 refine .g1 G (ok0 (dK n a b i)) (.mu 1 (.ca cf0 (.mu 2 (.done (.nh [3, 4, 5] [.own (ag.c a), .own (ag.c y), .own zN2, .own (ag.c b)] (.seq ?_))))))
 obtain ⟨d, j, hr⟩ := bd hr
 refine .g1 G (ok0 (dK n y d j)) (.mu 1 (.ca cf0 (.mu 2 (.done (.nh [4, 5, 6] [.own (ag.c a), .own (ag.c y), .own zN2, .own (ag.c b), .own (ag.c d)] (.seq ?_))))))
 obtain ⟨l, e, m, f, k, g, hr⟩ := bd3 hr
 refine .tn G (ca1 (ok0 (cZ n b.Num d.Num l e)) (ca1 (ok0 (cZ n b.Den d.Den m f)) (ca3 (ok0 (iy n l m k g))))) (.mu 4 (.ca cf0 (.mu 4 (.ca (cfA (fun h => by rw [sv f e (hU n h)]) cf0) (.ca (cfF (cfF cf0)) (.mu 1 ?_))))))
 refine .done ⟨by kernel_rfl, ?_⟩
 refine .nh [4] [.own (ag.c a), .own (ag.c y), .own (ag.c k), .own (ag.c b), .own (ag.c d)] (.ret ?_)
 obtain rfl := oi hr
 exact aG.r1 [.agg (ag.c k)]

theorem oX (n : Nat) (a : Int) (b : Int) (c : Int) (r : ag × ag) (hr : fF n a b c = some r) : aL Tryz.prog 81 [ae a, ae b, ae c] (.tup [.agg (ag.c r.1), .agg (ag.c r.2)]) := by
 unfold fF at hr
 refine aL.bd G Tryz.func81 [.cell 6 42, .cell 7 42] ?_
 unfold Tryz.f81
 simp only [gS]
 refine .seq (.r5 G [0, 1, 2] [(6, .hp 0 0), (7, .hp 1 0)] [.own zN2, .own zN2] (.seq (.r4 G [0, 1, 2, 6, 7] [(8, ae 0)] (.seq (.seq (.r5 G [0, 1, 2, 6, 7, 8] [(25, .hs 2 0 3 1), (26, ae 3), (27, ae 0)] [.own zN2, .own zN2, .own [ae a, ae b, ae c]] (.block ?_)))))))
 replace hr := bd hr; obtain ⟨E, A, hr⟩ := hr
 refine .aH (σ := fun z0 => match z0 with | (u, e) => ⟨mkS 100 0 [(0, ae a), (1, ae b), (2, ae c), (6, .hp 0 0), (7, .hp 1 0), (8, ae u), (25, .hs 2 0 ([a, b, c].length) 1), (26, ae 3), (27, ae e)], [.own zN2, .own zN2, .own ([a, b, c].flatMap (iC .i64))]⟩) (Q := fun x st' => x = .exit 0 /\ Wk 0 st' ⟨mkS 100 0 [(0, ae a), (1, ae b), (2, ae c), (6, .hp 0 0), (7, .hp 1 0), (8, ae E)], [.own zN2, .own zN2]⟩) A ((Wk.gc [0, 1, 2, 6, 7, 8, 25, 26, 27] [(0, true), (1, true), (2, false)] rfl (pKt (pKt (pKc trivial)))).to) ?_ ?_
 ·clear hr
  rintro m ⟨u, e⟩ hr
  show CQ _ _ _ _ _ ⟨_, _⟩
  refine .seq (.r4 G [0, 1, 2, 6, 7, 8, 25, 26, 27] [(28, aB (decide (e < 3)))] (.seq ?_))
  refine .cd hr ?_ ?_ <;> intro ki hr
  ·refine .skip (.seq (.block (.seq ?_)))
   obtain ⟨M, hr⟩ := gd hr
   refine .r0 G (.p0 (v := .hp 2 (0 + e.toNat * 1)) (tr (ar M)) (.p0 (v := ae (gt [a, b, c] e)) (tr (aD (aE (aF .i64) (aA M) z1 (by omega : 0 + e.toNat * 1 = e.toNat * 1 + 0) (by kernel_rfl)))) (.mu 1 (.done (.nh [0, 1, 2, 6, 7, 8, 10, 25, 26, 27] [.own zN2, .own zN2, .own ([a, b, c].flatMap (iC .i64))] (.seq (.r4 G [0, 1, 2, 6, 7, 8, 25, 26, 27] [(32, aB (decide ((gt [a, b, c] e) > 0)))] ?_)))))))
   refine .cd hr ?_ ?_ <;> intro iV hr
   ·refine .ru G (.pop (.ru G ?_))
    exact az (Fc (u + 1), Fc (e + 1)) hr ((Wk.gc [0, 1, 2, 6, 7, 8, 25, 26, 27] [(0, true), (1, true), (2, false)] rfl (pKt (pKt (pKo (iC .i64) (aC _) [a, b, c] trivial)))).to)
   refine .skip (.pop (.ru G ?_))
   exact az (u, Fc (e + 1)) hr ((Wk.gc [0, 1, 2, 6, 7, 8, 25, 26, 27] [(0, true), (1, true), (2, false)] rfl (pKt (pKt (pKo (iC .i64) (aC _) [a, b, c] trivial)))).to)
  refine .leave rfl ?_
  obtain rfl := oi hr
  exact ⟨rfl, ((Wk.gc [0, 1, 2, 6, 7, 8] [(0, true), (1, true)] rfl trivial).to)⟩
 rintro x st' l
 clear A
 obtain ⟨rfl, l⟩ := l
 refine aQ _ rfl (.wk l (.seq (.seq (.r4 G [0, 1, 2, 6, 7, 8] [(37, aB ((E : Int) == 0))] ?_))))
 refine .cd hr ?_ ?_ <;> intro jS hr
 ·refine .seq ?_
  obtain ⟨F, B, H, C, hr⟩ := bd2 hr
  refine .gn G (ca1 (ok0 (ck n 0 F B)) (ca3 (ok0 (ck n 0 H C)))) (.ca cf0 (.ca (cfA (fun h => by rw [sv C B (jj n h)]) cf0) (.mu 2 (.done (.nh [6, 7] [.own (ag.c F), .own (ag.c H)] (.ret ?_))))))
  obtain rfl := oi hr
  exact aG.ret (vs := [.agg (ag.c F), .agg (ag.c H)]) (by kernel_rfl) (Sn.tup (Sp (Sp SnL.nil)))
 refine .skip (.seq (.seq (.r4 G [0, 1, 2, 6, 7] [(41, aB (decide (E >= 2)))] ?_)))
 refine .cd hr ?_ ?_ <;> intro kb hr
 ·refine .seq ?_
  obtain ⟨f, N, hr⟩ := bd hr
  refine .g1 G (ok0 (oZ n (Fc (0 - a)) (Fc (0 - b)) (Fc (0 - c)) f N)) (.mu 1 (.p0 (v := ae (Fc (0 - a))) (tr (y := some (.pure (ae (IntKind.wrap .i64 (0 - a))))) ni) (.mu 1 (.p0 (v := ae (Fc (0 - b))) (tr (y := some (.pure (ae (IntKind.wrap .i64 (0 - b))))) ni) (.mu 1 (.p0 (v := ae (Fc (0 - c))) (tr (y := some (.pure (ae (IntKind.wrap .i64 (0 - c))))) ni) (.ca cf0 (.mu 7 (.done (.nh [0, 1, 2, 6, 7, 11, 12] [.own zN2, .own zN2, .own (ag.c f.1), .own (ag.c f.2)] (.seq ?_)))))))))))
  obtain ⟨w, O, hr⟩ := bd hr
  refine .g1 G (ok0 (cE n (Fc ((Fc (a + b)) + c)) 6 w O)) (.mu 5 (.ca cf0 (.mu 6 (.done (.nh [6, 7, 11, 12, 13] [.own zN2, .own zN2, .own (ag.c f.1), .own (ag.c f.2), .own (ag.c w.1)] (.seq ?_))))))
  obtain ⟨R, S, I, T, J, U, hr⟩ := bd3 hr
  refine .tn G (ca1 (ok0 (ck n 1 R S)) (ca1 (ok0 (j6 n R f.1 I T)) (ca3 (ok0 (fC n w.1 f.2 J U))))) (.ca cf0 (.mu 1 (.ca (cfF cf0) (.mu 2 (.ca (cfF (cfF cf0)) (.mu 2 ?_))))))
  refine .done ⟨by kernel_rfl, ?_⟩
  refine .nh [6, 7] [.own (ag.c I), .own (ag.c J), .own (ag.c f.1), .own (ag.c f.2), .own (ag.c w.1)] (.ret ?_)
  obtain rfl := oi hr
  exact aG.ret (vs := [.agg (ag.c I), .agg (ag.c J)]) (by kernel_rfl) (Sn.tup (Sp (Sp SnL.nil)))
 refine .skip (.seq (.block ?_))
 replace hr := bd hr; obtain ⟨V, D, hr⟩ := hr
 refine .aH (σ := fun z0 => match z0 with | (j, o, p) => ⟨mkS 100 0 [(0, ae j), (1, ae o), (2, ae p), (6, .hp 0 0), (7, .hp 1 0)], [.own zN2, .own zN2]⟩) (Q := fun x st' => match (generalizing := false) V with | (d, q, s) => x = .exit 2 /\ Wk 0 st' ⟨mkS 100 0 [(0, ae d), (1, ae q), (2, ae s), (6, .hp 0 0), (7, .hp 1 0)], [.own zN2, .own zN2]⟩) D ((Wk.gc [0, 1, 2, 6, 7] [(0, true), (1, true)] rfl trivial).to) ?_ ?_
 ·clear hr
  rintro m ⟨j, o, p⟩ hr
  show CQ _ _ _ _ _ ⟨_, _⟩
  refine .seq (.seq (.r4 G [0, 1, 2, 6, 7] [(68, aB (decide (j <= 0)))] ?_))
  refine .cd hr ?_ ?_ <;> intro jW hr
  ·refine .skip (.block (.ru G (.pop ?_)))
   exact az (o, p, j) hr ((Wk.gc [0, 1, 2, 6, 7] [(0, true), (1, true)] rfl trivial).to)
  refine .leave rfl ?_
  obtain rfl := oi hr
  exact ⟨rfl, ((Wk.gc [0, 1, 2, 6, 7] [(0, true), (1, true)] rfl trivial).to)⟩
 rcases V with ⟨d, q, s⟩
 rintro x st' t
 clear D
 obtain ⟨rfl, t⟩ := t
 refine aQ _ rfl (.wk t (.seq ?_))
 obtain ⟨g, W, hr⟩ := bd hr
 refine .g1 G (ok0 (cE n d (Fc (d - q)) g W)) (.mu 4 (.ca cf0 (.mu 6 (.done (.nh [0, 2, 6, 7, 15] [.own zN2, .own zN2, .own (ag.c g.1)] (.seq ?_))))))
 obtain ⟨k, X, hr⟩ := bd hr
 refine .g1 G (ok0 (cE n d (Fc (d - s)) k X)) (.mu 4 (.ca cf0 (.mu 6 (.done (.nh [0, 6, 7, 15, 17] [.own zN2, .own zN2, .own (ag.c g.1), .own (ag.c k.1)] (.seq ?_))))))
 obtain ⟨i, Y, hr⟩ := bd hr
 refine .g1 G (ok0 (eE n g.1 k.1 i Y)) (.mu 2 (.ca cf0 (.mu 2 (.done (.nh [0, 6, 7, 19] [.own zN2, .own zN2, .own (ag.c g.1), .own (ag.c k.1), .own (ag.c i)] (.seq ?_))))))
 obtain ⟨z, Z, hr⟩ := bd hr
 refine .g1 G (ok0 (cE n d 6 z Z)) (.mu 1 (.ca cf0 (.mu 6 (.done (.nh [6, 7, 19, 20] [.own zN2, .own zN2, .own (ag.c g.1), .own (ag.c k.1), .own (ag.c i), .own (ag.c z.1)] (.seq ?_))))))
 obtain ⟨L, gU, hr⟩ := bd hr
 refine .t1 G (ok0 (eE n i z.1 L gU)) (.mu 3 (.ca cf0 (.mu 2 ?_)))
 refine .done ⟨by kernel_rfl, ?_⟩
 refine .nh [6, 7] [.own (ag.c i), .own (ag.c L), .own (ag.c g.1), .own (ag.c k.1), .own (ag.c i), .own (ag.c z.1)] (.ret ?_)
 obtain rfl := oi hr
 exact aG.ret (vs := [.agg (ag.c i), .agg (ag.c L)]) (by kernel_rfl) (Sn.tup (Sp (Sp SnL.nil)))

theorem qj (n : Nat) (a : Int) (b : Int) (c : Int) (r : ag × ag) (hr : gJ n a b c = some r) : aL Tryz.prog 81 [ae a, ae b, ae c] (.tup [.agg (ag.c r.1), .agg (ag.c r.2)]) := by
 unfold gJ at hr
 refine aL.bd G Tryz.func81 [.cell 6 42, .cell 7 42] ?_
 unfold Tryz.f81
 simp only [gS]
 refine .seq (.r5 G [0, 1, 2] [(6, .hp 0 0), (7, .hp 1 0)] [.own zN2, .own zN2] (.seq (.r4 G [0, 1, 2, 6, 7] [(8, ae 0)] (.seq (.seq (.r5 G [0, 1, 2, 6, 7, 8] [(25, .hs 2 0 3 1), (26, ae 3), (27, ae 0)] [.own zN2, .own zN2, .own [ae a, ae b, ae c]] (.block ?_)))))))
 replace hr := bd hr; obtain ⟨E, A, hr⟩ := hr
 refine .aH (σ := fun z0 => match z0 with | (u, e) => ⟨mkS 100 0 [(0, ae a), (1, ae b), (2, ae c), (6, .hp 0 0), (7, .hp 1 0), (8, ae u), (25, .hs 2 0 ([a, b, c].length) 1), (26, ae 3), (27, ae e)], [.own zN2, .own zN2, .own ([a, b, c].flatMap (iC .i64))]⟩) (Q := fun x st' => x = .exit 0 /\ Wk 0 st' ⟨mkS 100 0 [(0, ae a), (1, ae b), (2, ae c), (6, .hp 0 0), (7, .hp 1 0), (8, ae E)], [.own zN2, .own zN2]⟩) A ((Wk.gc [0, 1, 2, 6, 7, 8, 25, 26, 27] [(0, true), (1, true), (2, false)] rfl (pKt (pKt (pKc trivial)))).to) ?_ ?_
 ·clear hr
  rintro m ⟨u, e⟩ hr
  show CQ _ _ _ _ _ ⟨_, _⟩
  refine .seq (.r4 G [0, 1, 2, 6, 7, 8, 25, 26, 27] [(28, aB (decide (e < 3)))] (.seq ?_))
  refine .cd hr ?_ ?_ <;> intro ki hr
  ·refine .skip (.seq (.block (.seq ?_)))
   obtain ⟨M, hr⟩ := gd hr
   refine .r0 G (.p0 (v := .hp 2 (0 + e.toNat * 1)) (tr (ar M)) (.p0 (v := ae (gt [a, b, c] e)) (tr (aD (aE (aF .i64) (aA M) z1 (by omega : 0 + e.toNat * 1 = e.toNat * 1 + 0) (by kernel_rfl)))) (.mu 1 (.done (.nh [0, 1, 2, 6, 7, 8, 10, 25, 26, 27] [.own zN2, .own zN2, .own ([a, b, c].flatMap (iC .i64))] (.seq (.r4 G [0, 1, 2, 6, 7, 8, 25, 26, 27] [(32, aB (decide ((gt [a, b, c] e) > 0)))] ?_)))))))
   refine .cd hr ?_ ?_ <;> intro iV hr
   ·refine .ru G (.pop (.ru G ?_))
    exact az (Fc (u + 1), Fc (e + 1)) hr ((Wk.gc [0, 1, 2, 6, 7, 8, 25, 26, 27] [(0, true), (1, true), (2, false)] rfl (pKt (pKt (pKo (iC .i64) (aC _) [a, b, c] trivial)))).to)
   refine .skip (.pop (.ru G ?_))
   exact az (u, Fc (e + 1)) hr ((Wk.gc [0, 1, 2, 6, 7, 8, 25, 26, 27] [(0, true), (1, true), (2, false)] rfl (pKt (pKt (pKo (iC .i64) (aC _) [a, b, c] trivial)))).to)
  refine .leave rfl ?_
  obtain rfl := oi hr
  exact ⟨rfl, ((Wk.gc [0, 1, 2, 6, 7, 8] [(0, true), (1, true)] rfl trivial).to)⟩
 rintro x st' l
 clear A
 obtain ⟨rfl, l⟩ := l
 refine aQ _ rfl (.wk l (.seq (.seq (.r4 G [0, 1, 2, 6, 7, 8] [(37, aB ((E : Int) == 0))] ?_))))
 refine .cd hr ?_ ?_ <;> intro jS hr
 ·refine .seq ?_
  obtain ⟨F, B, H, C, hr⟩ := bd2 hr
  refine .gn G (ca1 (ok0 (ck n 0 F B)) (ca3 (ok0 (ck n 0 H C)))) (.ca cf0 (.ca (cfA (fun h => by rw [sv C B (jj n h)]) cf0) (.mu 2 (.done (.nh [6, 7] [.own (ag.c F), .own (ag.c H)] (.ret ?_))))))
  obtain rfl := oi hr
  exact aG.ret (vs := [.agg (ag.c F), .agg (ag.c H)]) (by kernel_rfl) (Sn.tup (Sp (Sp SnL.nil)))
 refine .skip (.seq (.seq (.r4 G [0, 1, 2, 6, 7] [(41, aB (decide (E >= 2)))] ?_)))
 refine .cd hr ?_ ?_ <;> intro kb hr
 ·refine .seq ?_
  obtain ⟨f, N, hr⟩ := bd hr
  refine .g1 G (ok0 (oX n (Fc (0 - a)) (Fc (0 - b)) (Fc (0 - c)) f N)) (.mu 1 (.p0 (v := ae (Fc (0 - a))) (tr (y := some (.pure (ae (IntKind.wrap .i64 (0 - a))))) ni) (.mu 1 (.p0 (v := ae (Fc (0 - b))) (tr (y := some (.pure (ae (IntKind.wrap .i64 (0 - b))))) ni) (.mu 1 (.p0 (v := ae (Fc (0 - c))) (tr (y := some (.pure (ae (IntKind.wrap .i64 (0 - c))))) ni) (.ca cf0 (.mu 7 (.done (.nh [0, 1, 2, 6, 7, 11, 12] [.own zN2, .own zN2, .own (ag.c f.1), .own (ag.c f.2)] (.seq ?_)))))))))))
  obtain ⟨w, O, hr⟩ := bd hr
  refine .g1 G (ok0 (cE n (Fc ((Fc (a + b)) + c)) 6 w O)) (.mu 5 (.ca cf0 (.mu 6 (.done (.nh [6, 7, 11, 12, 13] [.own zN2, .own zN2, .own (ag.c f.1), .own (ag.c f.2), .own (ag.c w.1)] (.seq ?_))))))
  obtain ⟨R, S, I, T, J, U, hr⟩ := bd3 hr
  refine .tn G (ca1 (ok0 (ck n 1 R S)) (ca1 (ok0 (j6 n R f.1 I T)) (ca3 (ok0 (fC n w.1 f.2 J U))))) (.ca cf0 (.mu 1 (.ca (cfF cf0) (.mu 2 (.ca (cfF (cfF cf0)) (.mu 2 ?_))))))
  refine .done ⟨by kernel_rfl, ?_⟩
  refine .nh [6, 7] [.own (ag.c I), .own (ag.c J), .own (ag.c f.1), .own (ag.c f.2), .own (ag.c w.1)] (.ret ?_)
  obtain rfl := oi hr
  exact aG.ret (vs := [.agg (ag.c I), .agg (ag.c J)]) (by kernel_rfl) (Sn.tup (Sp (Sp SnL.nil)))
 refine .skip (.seq (.block ?_))
 replace hr := bd hr; obtain ⟨V, D, hr⟩ := hr
 refine .aH (σ := fun z0 => match z0 with | (j, o, p) => ⟨mkS 100 0 [(0, ae j), (1, ae o), (2, ae p), (6, .hp 0 0), (7, .hp 1 0)], [.own zN2, .own zN2]⟩) (Q := fun x st' => match (generalizing := false) V with | (d, q, s) => x = .exit 2 /\ Wk 0 st' ⟨mkS 100 0 [(0, ae d), (1, ae q), (2, ae s), (6, .hp 0 0), (7, .hp 1 0)], [.own zN2, .own zN2]⟩) D ((Wk.gc [0, 1, 2, 6, 7] [(0, true), (1, true)] rfl trivial).to) ?_ ?_
 ·clear hr
  rintro m ⟨j, o, p⟩ hr
  show CQ _ _ _ _ _ ⟨_, _⟩
  refine .seq (.seq (.r4 G [0, 1, 2, 6, 7] [(68, aB (decide (j <= 0)))] ?_))
  refine .cd hr ?_ ?_ <;> intro jW hr
  ·refine .skip (.block (.ru G (.pop ?_)))
   exact az (o, p, j) hr ((Wk.gc [0, 1, 2, 6, 7] [(0, true), (1, true)] rfl trivial).to)
  refine .leave rfl ?_
  obtain rfl := oi hr
  exact ⟨rfl, ((Wk.gc [0, 1, 2, 6, 7] [(0, true), (1, true)] rfl trivial).to)⟩
 rcases V with ⟨d, q, s⟩
 rintro x st' t
 clear D
 obtain ⟨rfl, t⟩ := t
 refine aQ _ rfl (.wk t (.seq ?_))
 obtain ⟨g, W, hr⟩ := bd hr
 refine .g1 G (ok0 (cE n d (Fc (d - q)) g W)) (.mu 4 (.ca cf0 (.mu 6 (.done (.nh [0, 2, 6, 7, 15] [.own zN2, .own zN2, .own (ag.c g.1)] (.seq ?_))))))
 obtain ⟨k, X, hr⟩ := bd hr
 refine .g1 G (ok0 (cE n d (Fc (d - s)) k X)) (.mu 4 (.ca cf0 (.mu 6 (.done (.nh [0, 6, 7, 15, 17] [.own zN2, .own zN2, .own (ag.c g.1), .own (ag.c k.1)] (.seq ?_))))))
 obtain ⟨i, Y, hr⟩ := bd hr
 refine .g1 G (ok0 (eE n g.1 k.1 i Y)) (.mu 2 (.ca cf0 (.mu 2 (.done (.nh [0, 6, 7, 19] [.own zN2, .own zN2, .own (ag.c g.1), .own (ag.c k.1), .own (ag.c i)] (.seq ?_))))))
 obtain ⟨z, Z, hr⟩ := bd hr
 refine .g1 G (ok0 (cE n d 6 z Z)) (.mu 1 (.ca cf0 (.mu 6 (.done (.nh [6, 7, 19, 20] [.own zN2, .own zN2, .own (ag.c g.1), .own (ag.c k.1), .own (ag.c i), .own (ag.c z.1)] (.seq ?_))))))
 obtain ⟨L, gU, hr⟩ := bd hr
 refine .t1 G (ok0 (eE n i z.1 L gU)) (.mu 3 (.ca cf0 (.mu 2 ?_)))
 refine .done ⟨by kernel_rfl, ?_⟩
 refine .nh [6, 7] [.own (ag.c i), .own (ag.c L), .own (ag.c g.1), .own (ag.c k.1), .own (ag.c i), .own (ag.c z.1)] (.ret ?_)
 obtain rfl := oi hr
 exact aG.ret (vs := [.agg (ag.c i), .agg (ag.c L)]) (by kernel_rfl) (Sn.tup (Sp (Sp SnL.nil)))

theorem ql (n : Nat) (g : al) (level : Int) (r : ag × ag) (hr : gC n g level = some r) : aL Tryz.prog 35 [.agg (al.c g), ae level] (.tup [.agg (ag.c r.1), .agg (ag.c r.2)]) := by
 unfold gC at hr
 refine aL.bd G Tryz.func35 [.cell 4 42, .cell 5 42] ?_
 unfold Tryz.f35
 simp only [gS]
 refine .seq (.r5 G [1] [(2, .hp 0 0), (4, .hp 1 0), (5, .hp 2 0)] [.own (al.c g), .own zN2, .own zN2] (.seq ?_))
 obtain ⟨v1, N, v3, O, hr⟩ := bd2 hr
 refine .gn G (ca1 (ok0 (ck n 0 v1 N)) (ca3 (ok0 (ck n 0 v3 O)))) (.ca cf0 (.ca (cfA (fun h => by rw [sv O N (jj n h)]) cf0) (.mu 4 (.done (.nh [1, 2, 4, 5, 6, 7] [.own (al.c g), .own zN2, .own zN2, .own (ag.c v1), .own (ag.c v3)] (.seq ?_))))))
 obtain ⟨F, gU, hr⟩ := bd hr
 refine .g1 G (ok0 (cE n (Fc (g.Step * g.Step)) 2 F gU)) (.mu 5 (.ca cf0 (.mu 6 (.done (.nh [1, 2, 4, 5, 6, 7, 8] [.own (al.c g), .own zN2, .own zN2, .own (ag.c v1), .own (ag.c v3), .own (ag.c F.1)] (.seq (.seq ?_)))))))
 obtain ⟨b, iV, hr⟩ := bd hr
 refine .g1 G (ok0 (nX n g b iV)) (.mu 1 (.ca cf0 (.mu 2 (.done (.nh [1, 2, 4, 5, 6, 7, 8, 26, 27, 28] [.own (al.c g), .own zN2, .own zN2, .own (ag.c v1), .own (ag.c v3), .own (ag.c F.1)] (.block ?_))))))
 replace hr := bd hr; obtain ⟨R, H, hr⟩ := hr
 refine .aH (σ := fun z0 => match z0 with | (C, j, k, l, d, e, f, i, a) => ⟨mkS 76 0 [(1, ae level), (2, .hp 0 0), (4, .hp 1 0), (5, .hp 2 0), (6, .hp 3 0), (7, .hp 4 0), (8, .hp 5 0), (26, slT an.c b), (27, ae (b.length : Int)), (28, ae a)], [.own (al.c g), .own zN2, .own zN2, .own [aB C, au j, aB k, au l], .own [aB d, au e, aB f, au i], .own (ag.c F.1)]⟩) (Q := fun x st' => match (generalizing := false) R with | (o, p, q, s, t, u, w, z) => x = .exit 0 /\ Wk 0 st' ⟨mkS 76 0 [(4, .hp 0 0), (5, .hp 1 0), (6, .hp 2 0), (7, .hp 3 0)], [.own zN2, .own zN2, .own [aB o, au p, aB q, au s], .own [aB t, au u, aB w, au z]]⟩) H ((Wk.gc [1, 2, 4, 5, 6, 7, 8, 26, 27, 28] kT6 rfl trivial).to) ?_ ?_
 ·clear hr
  rintro m ⟨C, j, k, l, d, e, f, i, a⟩ hr
  show CQ _ _ _ _ _ ⟨_, _⟩
  refine .seq (.r4 G [1, 2, 4, 5, 6, 7, 8, 26, 27, 28] [(29, aB (decide (a < (b.length : Int))))] (.seq ?_))
  refine .cd hr ?_ ?_ <;> intro jS hr
  ·refine .skip (.seq (.block (.seq ?_)))
   obtain ⟨I, hr⟩ := gd hr
   refine .r0 G (.p0 (v := .pp (b.flatMap an.c) (a.toNat * 3)) (tr (ar I)) (.p0 (v := .agg (an.c (gt b a))) (tr (y := bu.ofP (dR (decide (3 <= ((b.flatMap an.c).drop (a.toNat * 3)).length)) (.agg (((b.flatMap an.c).drop (a.toNat * 3)).take 3)))) (bO an.len (aA I) (by decide) (by omega : a.toNat * 3 = a.toNat * 3 + 0) (by kernel_rfl))) (.mu 2 (.done (.nh [1, 2, 4, 5, 6, 7, 8, 11, 26, 27, 28] [.own (al.c g), .own zN2, .own zN2, .own [aB C, au j, aB k, au l], .own [aB d, au e, aB f, au i], .own (ag.c F.1), .own (an.c (gt b a))] (.seq ?_))))))
   obtain ⟨J, L, M, hr⟩ := gd3 hr
   obtain ⟨A, S, hr⟩ := bd hr
   refine .t1 G (ok0 (qj n (Fc ((Fc (2 * (gt g.Z (gt b a).e0))) - level)) (Fc ((Fc (2 * (gt g.Z (gt b a).e1))) - level)) (Fc ((Fc (2 * (gt g.Z (gt b a).e2))) - level)) A S)) (.mu 4 (.pk (v := .pp (g.Z.flatMap (iC .i64)) ((gt b a).e0.toNat * 1)) (tr (ar J)) (.pk (v := ae (gt g.Z (gt b a).e0)) (tr (aD (aE (aF .i64) (aA J) z1 (by omega : (gt b a).e0.toNat * 1 = (gt b a).e0.toNat * 1 + 0) (by kernel_rfl)))) (.mu 7 (.pk (v := .pp (g.Z.flatMap (iC .i64)) ((gt b a).e1.toNat * 1)) (tr (ar L)) (.pk (v := ae (gt g.Z (gt b a).e1)) (tr (aD (aE (aF .i64) (aA L) z1 (by omega : (gt b a).e1.toNat * 1 = (gt b a).e1.toNat * 1 + 0) (by kernel_rfl)))) (.mu 7 (.pk (v := .pp (g.Z.flatMap (iC .i64)) ((gt b a).e2.toNat * 1)) (tr (ar M)) (.pk (v := ae (gt g.Z (gt b a).e2)) (tr (aD (aE (aF .i64) (aA M) z1 (by omega : (gt b a).e2.toNat * 1 = (gt b a).e2.toNat * 1 + 0) (by kernel_rfl)))) (.mu 3 (.ca cf0 (.mu 7 ?_))))))))))))
   refine .done ⟨by kernel_rfl, ?_⟩
   refine .nh [1, 2, 4, 5, 6, 7, 8, 12, 13, 26, 27, 28] [.own (al.c g), .own zN2, .own zN2, .own [aB C, au j, aB k, au l], .own [aB d, au e, aB f, au i], .own (ag.c F.1), .own (an.c (gt b a)), .own (ag.c A.1), .own (ag.c A.2)] (.seq ?_)
   obtain ⟨T, U, B, V, hr⟩ := bd2 hr
   refine .tn G (ca1 (ok0 (eE n F.1 A.1 T U)) (ca3 (ok0 (fC n (ag.mk (ah.mk C j) (ah.mk k l)) T B V)))) (.mu 3 (.ca cf0 (.ca (cfF cf0) (.mu 1 ?_))))
   refine .done ⟨by kernel_rfl, ?_⟩
   refine .nh [1, 2, 4, 5, 6, 7, 8, 13, 26, 27, 28] [.own (al.c g), .own zN2, .own zN2, .own (ag.c B), .own [aB d, au e, aB f, au i], .own (ag.c F.1), .own (an.c (gt b a)), .own (ag.c A.1), .own (ag.c A.2)] ?_
   obtain ⟨W, X, D, Y, hr⟩ := bd2 hr
   refine .tn G (ca1 (ok0 (eE n F.1 A.2 W X)) (ca3 (ok0 (fC n (ag.mk (ah.mk d e) (ah.mk f i)) W D Y)))) (.mu 3 (.ca cf0 (.ca (cfF cf0) (.mu 1 ?_))))
   refine .done ⟨by kernel_rfl, ?_⟩
   refine .pop (.ru G ?_)
   exact az (B.Num.Negative, B.Num.Groups, B.Den.Negative, B.Den.Groups, D.Num.Negative, D.Num.Groups, D.Den.Negative, D.Den.Groups, Fc (a + 1)) hr ((Wk.gc [1, 2, 4, 5, 6, 7, 8, 26, 27, 28] kT6 rfl trivial).to)
  refine .leave rfl ?_
  obtain rfl := oi hr
  exact ⟨rfl, ((Wk.gc [4, 5, 6, 7] [(1, true), (2, true), (3, true), (4, true)] rfl trivial).to)⟩
 rcases R with ⟨o, p, q, s, t, u, w, z⟩
 rintro x st' E
 clear H
 obtain ⟨rfl, E⟩ := E
 refine aQ _ rfl (.wk E (.seq (.eu G bJ (.mu 4 ?_))))
 refine .done ⟨by kernel_rfl, ?_⟩
 refine .nh [4, 5] [.own [aB o, au p, aB q, au s], .own [aB t, au u, aB w, au z], .own [aB o, au p, aB q, au s], .own [aB t, au u, aB w, au z]] (.ret ?_)
 obtain rfl := oi hr
 exact aG.ret (vs := [.agg [aB o, au p, aB q, au s], .agg [aB t, au u, aB w, au z]]) (by kernel_rfl) (Sn.tup (Sp (Sp SnL.nil)))

theorem mW (n : Nat) (g : al) (level : Int) (r : Bool) (hr : dQ n g level = some r) : aL Tryz.prog 9 [.agg (al.c g), ae level] (aB r) := by
 unfold dQ at hr
 refine aL.bd G Tryz.func9 [.tmp 4] ?_
 unfold Tryz.f9
 simp only [gS]
 refine .seq (.r5 G [1] [(2, .hp 0 0)] [.own (al.c g)] (.seq (.seq ?_)))
 obtain ⟨F, z, hr⟩ := bd hr
 refine .g1 G (ok0 (pJ n F z)) (.ca cf0 (.mu 1 (.done (.nh [1, 2, 13] [.own (al.c g)] ?_))))
 refine .cd hr ?_ ?_ <;> intro H hr
 ·refine .seq (.ru G (.ret ?_))
  obtain rfl := oi hr
  exact aG.r1 [aB false]
 refine .skip (.seq (.seq ?_))
 obtain ⟨I, A, hr⟩ := bd hr
 refine .g1 G (ok0 (qM n g 40 I A)) (.mu 1 (.ca cf0 (.mu 1 (.done (.nh [1, 2, 16] [.own (al.c g)] ?_)))))
 refine .cd hr ?_ ?_ <;> intro J hr
 ·refine .seq (.ru G (.ret ?_))
  obtain rfl := oi hr
  exact aG.r1 [aB true]
 refine .skip (.seq ?_)
 obtain ⟨i, B, hr⟩ := bd hr
 refine .g1 G (ok0 (oP n g level i B)) (.mu 2 (.ca cf0 (.mu 6 (.done (.nh [1, 2, 5, 6] [.own (al.c g), .own (ag.c i.1)] (.seq ?_))))))
 obtain ⟨p, t, hr⟩ := bd hr
 refine .g1 G (ok0 (sX n g level p t)) (.mu 2 (.ca cf0 (.mu 6 (.done (.nh [1, 2, 5, 6, 7, 8] [.own (al.c g), .own (ag.c i.1), .own (ag.c p.1)] (.seq (.seq ?_)))))))
 obtain ⟨o, u, hr⟩ := bd hr
 refine .g1 G (ok0 (oG n g level o u)) (.mu 2 (.ca cf0 (.mu 1 (.done (.nh [1, 2, 5, 6, 7, 8, 9] [.own (al.c g), .own (ag.c i.1), .own (ag.c p.1)] (.seq (.r4 G [1, 2, 5, 6, 7, 8, 9] [(33, aB ((o : Int) != 0))] ?_)))))))
 refine .cd hr ?_ ?_ <;> intro E hr
 ·refine .seq ?_
  rcases bT ((i.2 : Int) == o) with a | a
  ·replace hr := cy a hr
   rcases bT ((p.2 : Int) == o) with d | d
   ·replace hr := cy d hr
    obtain ⟨C, j, hr⟩ := bd hr
    rcases bT C with k | k
    ·subst k
     replace hr := cy rfl hr
     obtain ⟨w, q, hr⟩ := bd hr
     refine .gn G (ca1 (ok0 (jJ n i.1 true j)) (ca3 (ok0 (jJ n p.1 w q)))) (.mu 2 (.p0 (v := aB true) (eB a) (.mu 3 (.pure (v := aB true) (by kernel_rfl) (eB d) (.mu 3 (.ca cf0 (.mu 3 (.ca (cfA (fun h => by rw [sv q j (qh n h)]) cf0) (.mu 2 (.done (.ret ?_)))))))))))
     obtain rfl := oi hr
     exact aG.r1 [aB w]
    subst k
    replace hr := cz rfl hr
    refine .g1 G (ok0 (jJ n i.1 false j)) (.mu 2 (.p0 (v := aB true) (eB a) (.mu 3 (.pure (v := aB true) (by kernel_rfl) (eB d) (.mu 3 (.ca cf0 (.mu 6 (.done (.ret ?_)))))))))
    obtain rfl := oi hr
    exact aG.r1 [aB false]
   replace hr := cz d hr
   refine .r0 G (.mu 2 (.p0 (v := aB true) (eB a) (.mu 3 (.pure (v := aB false) (by kernel_rfl) (eB d) (.mu 10 (.done (.ret ?_)))))))
   obtain rfl := oi hr
   exact aG.r1 [aB false]
  replace hr := cz a hr
  refine .r0 G (.mu 2 (.p0 (v := aB false) (eB a) (.mu 14 (.done (.ret ?_)))))
  obtain rfl := oi hr
  exact aG.r1 [aB false]
 refine .skip (.seq ?_)
 obtain ⟨f, x, hr⟩ := bd hr
 refine .g1 G (ok0 (ql n g level f x)) (.mu 2 (.ca cf0 (.mu 7 (.done (.nh [5, 6, 7, 8, 10, 11] [.own (al.c g), .own (ag.c i.1), .own (ag.c p.1), .own (ag.c f.1), .own (ag.c f.2)] (.seq ?_))))))
 rcases bT ((i.2 : Int) == 0) with b | b
 ·replace hr := cy b hr
  rcases bT ((p.2 : Int) == 0) with e | e
  ·replace hr := cy e hr
   obtain ⟨D, l, hr⟩ := bd hr
   rcases bT D with m | m
   ·subst m
    replace hr := cy rfl hr
    obtain ⟨y, s, hr⟩ := bd hr
    refine .gn G (ca1 (ok0 (ff n i.1 f.1 true l)) (ca3 (ok0 (ff n p.1 f.2 y s)))) (.mu 1 (.p0 (v := aB true) (eB b) (.mu 2 (.pure (v := aB true) (by kernel_rfl) (eB e) (.mu 4 (.ca cf0 (.mu 4 (.ca (cfA (fun h => by rw [sv s l (qi n h)]) cf0) (.mu 2 (.done (.ret ?_)))))))))))
    obtain rfl := oi hr
    exact aG.r1 [aB y]
   subst m
   replace hr := cz rfl hr
   refine .g1 G (ok0 (ff n i.1 f.1 false l)) (.mu 1 (.p0 (v := aB true) (eB b) (.mu 2 (.pure (v := aB true) (by kernel_rfl) (eB e) (.mu 4 (.ca cf0 (.mu 7 (.done (.ret ?_)))))))))
   obtain rfl := oi hr
   exact aG.r1 [aB false]
  replace hr := cz e hr
  refine .r0 G (.mu 1 (.p0 (v := aB true) (eB b) (.mu 2 (.pure (v := aB false) (by kernel_rfl) (eB e) (.mu 12 (.done (.ret ?_)))))))
  obtain rfl := oi hr
  exact aG.r1 [aB false]
 replace hr := cz b hr
 refine .r0 G (.mu 1 (.p0 (v := aB false) (eB b) (.mu 15 (.done (.ret ?_)))))
 obtain rfl := oi hr
 exact aG.r1 [aB false]
end Go.L
