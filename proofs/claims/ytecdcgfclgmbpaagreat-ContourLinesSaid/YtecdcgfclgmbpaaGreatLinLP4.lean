
import Derived.Test.YtecdcgfclgmbpaaGreatLinLP3
import Derived.Test.YtecdcgfclgmbpaaGreatL0Lins
import Derived.Test.YtecdcgfclgmbpaaGreatSortCLins
import Derived.Test.YtecdcgfclgmbpaaGreatSortKLins
import Derived.Test.YtecdcgfclgmbpaaGreatChecked
import Derived.KernelRfl
set_option linter.all false
set_option maxRecDepth 100000
set_option maxHeartbeats 4000000
namespace Go.L
open Go Go.Eng Go.Proofs
theorem pn (n : Nat) (g : al) (level : Int) (r : List ae) (hr : eM n g level = some r) : aO Tryz.prog 17 [.agg (al.c g), ag level] (slT ae.c r) := by
 unfold eM at hr
 refine aO.bd G Tryz.func17 [.tmp 4] ?_
 unfold Tryz.f17
 simp only [gS]
 refine .seq (.r5 G [] [(2, .hp 0 0), (3, .hp 1 0)] [.own (al.c g), .own [ag level]] (.seq ?_))
 obtain ⟨s, uh, hr⟩ := bd hr
 refine .g1 G (ok0 (nA n g level s uh)) (.mu 2 (.ca cf0 (.mu 1 (.done (.nh [2, 3, 5] [.own (al.c g), .own [ag level]] (.seq (.r5 G [2, 3, 5] [(6, .hp 4 0), (7, .mp 3)] [.own (al.c g), .own [ag level], .map (([] : List (A2 Int × A2 Int)).map (mpK an.K (gA aT.c))), .map (([] : List (A2 Int × Bool)).map (mpK an.K bA)), .own [.mp 2]] (.seq (.seq (.r4 G [2, 3, 5, 6, 7] [(27, slT aI.c s), (28, ag (s.length : Int)), (29, ag 0)] (.block ?_)))))))))))
 replace hr := bd hr; obtain ⟨pK, jS, hr⟩ := hr
 refine .aN (σ := fun Y => match Y with | (F, H, o) => ⟨mkS 138 0 [(2, .hp 0 0), (3, .hp 1 0), (5, slT aI.c s), (6, .hp 2 0), (7, .mp 4), (27, slT aI.c s), (28, ag (s.length : Int)), (29, ag o)], [.own (al.c g), .own [ag level], .own [.mp 3], .map (F.map (mpK an.K (gA aT.c))), .map (H.map (mpK an.K bA))]⟩) (Q := fun x st' => match (generalizing := false) pK with | (j, C) => x = .exit 0 /\ Wk 0 st' ⟨mkS 138 0 [(2, .hp 0 0), (3, .hp 1 0), (5, slT aI.c s), (6, .hp 2 0), (7, .mp 4)], [.own (al.c g), .own [ag level], .own [.mp 3], .map (j.map (mpK an.K (gA aT.c))), .map (C.map (mpK an.K bA))]⟩) jS ((Wk.gc [2, 3, 5, 6, 7, 27, 28, 29] [(0, true), (1, true), (4, true), (2, false), (3, false)] rfl (pKt (pKt (pKt (pKM an.K (gA aT.c) (fun _ => rfl) ([] : List (A2 Int × A2 Int)) (pKM an.K bA (fun _ => rfl) ([] : List (A2 Int × Bool)) trivial)))))).to) ?_ ?_
 ·clear hr
  rintro m ⟨F, H, o⟩ hr
  refine CQ.sh ?_
  refine .seq (.r4 G [2, 3, 5, 6, 7, 27, 28, 29] [(30, aB (decide (o < (s.length : Int))))] (.seq ?_))
  refine .cd hr ?_ ?_ <;> intro yJ hr
  ·refine .skip (.seq (.block (.seq ?_)))
   obtain ⟨ki, hr⟩ := gd hr
   refine .r0 G (.p0 (v := .pp (s.flatMap aI.c) (o.toNat * 4)) (tr (au ki)) (.p0 (v := .agg (aI.c (gt s o))) (tr (y := br.ofP (ei (decide (4 <= ((s.flatMap aI.c).drop (o.toNat * 4)).length)) (.agg (((s.flatMap aI.c).drop (o.toNat * 4)).take 4)))) (b6 aI.len (aC ki) (by decide) (by omega : o.toNat * 4 = o.toNat * 4 + 0) kRf)) (.mu 2 (.done (.nh [2, 3, 5, 6, 7, 9, 27, 28, 29] [.own (al.c g), .own [ag level], .own [.mp 3], .map (F.map (mpK an.K (gA aT.c))), .map (H.map (mpK an.K bA)), .own (aI.c (gt s o))] (.seq (.r0 G (.mu 5 (.e0 (v := .unk) (ws := [(3, .map ((cV F (gt s o).e0 (gt s o).e1).map (mpK an.K (gA aT.c))))]) (tr (y := fI Tryz.prog [.own (al.c g), .own [ag level], .own [.mp 3], .map (F.map (mpK an.K (gA aT.c))), .map (H.map (mpK an.K bA)), .own (aI.c (gt s o))] 91 (.mp 3) (.agg [ag (gt s o).e0.e0, ag (gt s o).e0.e1]) (.agg [ag (gt s o).e1.e0, ag (gt s o).e1.e1])) (xj (kt := 49) (e := 49) (l := F) (f := (gA aT.c)) (v := (gt s o).e1) (K := an.K) (x := (gt s o).e0) an.key kRf kRf kRf kRf)) (.done (.nh [2, 3, 5, 6, 7, 9, 27, 28, 29] [.own (al.c g), .own [ag level], .own [.mp 3], .map ((cV F (gt s o).e0 (gt s o).e1).map (mpK an.K (gA aT.c))), .map (H.map (mpK an.K bA)), .own (aI.c (gt s o))] (.r0 G (.mu 3 (.e0 (v := .unk) (ws := [(4, .map ((cV H (gt s o).e1 true).map (mpK an.K bA)))]) (tr (y := fI Tryz.prog [.own (al.c g), .own [ag level], .own [.mp 3], .map ((cV F (gt s o).e0 (gt s o).e1).map (mpK an.K (gA aT.c))), .map (H.map (mpK an.K bA)), .own (aI.c (gt s o))] 92 (.mp 4) (.agg [ag (gt s o).e1.e0, ag (gt s o).e1.e1]) (aB true)) (xj (kt := 49) (e := 4) (l := H) (f := bA) (v := true) (K := an.K) (x := (gt s o).e1) an.key kRf kRf kRf kRf)) (.done (.pop (.ru G ?_)))))))))))))))))
   exact av (cV F (gt s o).e0 (gt s o).e1, cV H (gt s o).e1 true, FK (o + 1)) hr ((Wk.gc [2, 3, 5, 6, 7, 27, 28, 29] [(0, true), (1, true), (2, true), (3, false), (4, false)] rfl (pKt (pKt (pKt (pKM an.K (gA aT.c) (fun _ => rfl) (cV F (gt s o).e0 (gt s o).e1) (pKM an.K bA (fun _ => rfl) (cV H (gt s o).e1 true) trivial)))))).to)
  refine .leave rfl ?_
  obtain rfl := oi hr
  exact ⟨rfl, ((Wk.gc [2, 3, 5, 6, 7] [(0, true), (1, true), (2, true), (3, false), (4, false)] rfl (pKt (pKt (pKt (pKM an.K (gA aT.c) (fun _ => rfl) F (pKM an.K bA (fun _ => rfl) H trivial)))))).to)⟩
 rcases pK with ⟨j, C⟩
 rintro x st' jB
 clear jS
 obtain ⟨rfl, jB⟩ := jB
 refine aW _ rfl (.wk jB (.seq (.r5 G [2, 3, 5, 6, 7] [(10, .hp 6 0)] [.own (al.c g), .own [ag level], .own [.mp 3], .map (j.map (mpK an.K (gA aT.c))), .map (C.map (mpK an.K bA)), .map (([] : List (A2 Int × Bool)).map (mpK an.K bA)), .own [.mp 5]] (.seq (.r5 G [2, 3, 5, 6, 7, 10] [(11, .hp 8 0)] [.own (al.c g), .own [ag level], .own [.mp 3], .map (j.map (mpK an.K (gA aT.c))), .map (C.map (mpK an.K bA)), .map (([] : List (A2 Int × Bool)).map (mpK an.K bA)), .own [.mp 5], .own [], .own [.hs 7 0 0 2]] (.seq (.r4 G [2, 5, 6, 7, 10, 11] [(12, .fn 47 [] [.hp 6 0, .hp 2 0, .hp 0 0, .hp 1 0, .hp 8 0])] (.seq (.seq (.r4 G [2, 6, 7, 10, 11, 12] [(45, slT aI.c s), (46, ag (s.length : Int)), (47, ag 0)] (.block ?_)))))))))))
 replace hr := bd hr; obtain ⟨qd, kp, hr⟩ := hr
 refine .aN (σ := fun Y => match Y with | (B, u, p) => ⟨mkS 138 0 [(2, .hp 0 0), (6, .hp 1 0), (7, .mp 3), (10, .hp 4 0), (11, .hp 6 0), (12, .fn 47 [] [.hp 4 0, .hp 1 0, .hp 0 0, .hp 8 0, .hp 6 0]), (45, slT aI.c s), (46, ag (s.length : Int)), (47, ag p)], [.own (al.c g), .own [.mp 2], .map (j.map (mpK an.K (gA aT.c))), .map (C.map (mpK an.K bA)), .own [.mp 5], .map (B.map (mpK an.K bA)), .own [.hs 7 0 u.length 2], .own (u.flatMap ae.c), .own [ag level]]⟩) (Q := fun x st' => match (generalizing := false) qd with | (jQ, W) => x = .exit 2 /\ Wk 0 st' ⟨mkS 138 0 [(2, .hp 0 0), (6, .hp 1 0), (10, .hp 3 0), (11, .hp 5 0), (12, .fn 47 [] [.hp 3 0, .hp 1 0, .hp 0 0, .hp 7 0, .hp 5 0])], [.own (al.c g), .own [.mp 2], .map (j.map (mpK an.K (gA aT.c))), .own [.mp 4], .map (jQ.map (mpK an.K bA)), .own [.hs 6 0 W.length 2], .own (W.flatMap ae.c), .own [ag level]]⟩) kp ((Wk.gc [2, 6, 7, 10, 11, 12, 45, 46, 47] [(0, true), (2, true), (3, false), (4, false), (6, true), (5, false), (8, true), (7, false), (1, true)] rfl (pKt (pKt (pKM an.K (gA aT.c) (fun _ => rfl) j (pKM an.K bA (fun _ => rfl) C (pKt (pKM an.K bA (fun _ => rfl) ([] : List (A2 Int × Bool)) (pKt (pKc trivial))))))))).to) ?_ ?_
 ·clear hr
  rintro m ⟨B, u, p⟩ hr
  refine CQ.sh ?_
  refine .seq (.r4 G [2, 6, 7, 10, 11, 12, 45, 46, 47] [(48, aB (decide (p < (s.length : Int))))] (.seq ?_))
  refine .cd hr ?_ ?_ <;> intro yb hr
  ·refine .skip (.seq (.block (.seq ?_)))
   obtain ⟨kX, hr⟩ := gd hr
   refine .r0 G (.p0 (v := .pp (s.flatMap aI.c) (p.toNat * 4)) (tr (au kX)) (.p0 (v := .agg (aI.c (gt s p))) (tr (y := br.ofP (ei (decide (4 <= ((s.flatMap aI.c).drop (p.toNat * 4)).length)) (.agg (((s.flatMap aI.c).drop (p.toNat * 4)).take 4)))) (b6 aI.len (aC kX) (by decide) (by omega : p.toNat * 4 = p.toNat * 4 + 0) kRf)) (.mu 2 (.done (.nh [2, 6, 7, 10, 11, 12, 14, 45, 46, 47] [.own (al.c g), .own [.mp 2], .map (j.map (mpK an.K (gA aT.c))), .map (C.map (mpK an.K bA)), .own [.mp 5], .map (B.map (mpK an.K bA)), .own [.hs 7 0 u.length 2], .own (u.flatMap ae.c), .own [ag level], .own (aI.c (gt s p))] (.seq (.r0 G (.mu 3 (.p0 (v := aB (getM false C (gt s p).e0)) (tr (y := br.ofP (dF Tryz.prog [.own (al.c g), .own [.mp 2], .map (j.map (mpK an.K (gA aT.c))), .map (C.map (mpK an.K bA)), .own [.mp 5], .map (B.map (mpK an.K bA)), .own [.hs 7 0 u.length 2], .own (u.flatMap ae.c), .own [ag level], .own (aI.c (gt s p))] 92 (.mp 3) (.agg [ag (gt s p).e0.e0, ag (gt s p).e0.e1]) false)) (tu (kt := 49) (e := 4) (l := C) (f := bA) (z := false) (K := an.K) (x := (gt s p).e0) an.key kRf kRf kRf kRf kRf)) (.mu 1 (.done (.nh [2, 6, 7, 10, 11, 12, 14, 45, 46, 47, 55] [.own (al.c g), .own [.mp 2], .map (j.map (mpK an.K (gA aT.c))), .map (C.map (mpK an.K bA)), .own [.mp 5], .map (B.map (mpK an.K bA)), .own [.hs 7 0 u.length 2], .own (u.flatMap ae.c), .own [ag level], .own (aI.c (gt s p))] ?_))))))))))))
   refine .cd hr ?_ ?_ <;> intro yv hr
   ·obtain ⟨I, so, hr⟩ := bd hr
    refine .g1 G (fT 8 (.own [ag level]) [(4, .own [.mp 10]), (1, .own [.mp 11])] [(6, .own [.hs 12 0 I.2.length 2]), (10, .map (I.1.map (mpK an.K bA))), (11, .map (j.map (mpK an.K (gA aT.c)))), (12, .own (I.2.flatMap ae.c)), (5, .dead), (2, .dead), (7, .dead)] (fT 0 (.own (al.c g)) [(4, .own [.mp 10]), (1, .own [.mp 11])] [(8, .own [ag level]), (6, .own [.hs 12 0 I.2.length 2]), (10, .map (I.1.map (mpK an.K bA))), (11, .map (j.map (mpK an.K (gA aT.c)))), (12, .own (I.2.flatMap ae.c)), (5, .dead), (2, .dead), (7, .dead)] (cL (args := [.agg [ag (gt s p).e0.e0, ag (gt s p).e0.e1], aB false, .hp 4 0, .hp 1 0, .hp 0 0, .hp 8 0, .hp 6 0]) 5 3 [(4, true), (1, true), (0, true), (8, true), (6, true), (5, false), (2, false), (7, false)] [true, true, true, true, true, false, false, false] (jz n (gt s p).e0 false B j g.X0 g.Y0 g.Step g.Width g.Height g.Z level u I so) (by exact ⟨dz (fun _ => rfl) _, ⟨dz (fun _ => rfl) _, ⟨a7 ae.pure _, trivial⟩⟩⟩) (by exact ⟨dz (fun _ => rfl) _, ⟨dz (fun _ => rfl) _, ⟨a7 ae.pure _, trivial⟩⟩⟩) rfl rfl kRf kRf))) (.mu 3 (.ca cf0 (.done (.pop (.ru G ?_)))))
    exact av (I.1, I.2, FK (p + 1)) hr ((Wk.gc [2, 6, 7, 10, 11, 12, 45, 46, 47] [(0, true), (1, true), (11, false), (3, false), (4, true), (10, false), (6, true), (12, false), (8, true)] rfl (pKt (pKt (pKM an.K (gA aT.c) (fun _ => rfl) j (pKM an.K bA (fun _ => rfl) C (pKt (pKM an.K bA (fun _ => rfl) I.1 (pKt (pKo ae.c ae.pure I.2 trivial))))))))).to)
   refine .skip (.pop (.ru G ?_))
   exact av (B, u, FK (p + 1)) hr ((Wk.gc [2, 6, 7, 10, 11, 12, 45, 46, 47] [(0, true), (1, true), (2, false), (3, false), (4, true), (5, false), (6, true), (7, false), (8, true)] rfl (pKt (pKt (pKM an.K (gA aT.c) (fun _ => rfl) j (pKM an.K bA (fun _ => rfl) C (pKt (pKM an.K bA (fun _ => rfl) B (pKt (pKo ae.c ae.pure u trivial))))))))).to)
  refine .leave rfl ?_
  obtain rfl := oi hr
  exact ⟨rfl, ((Wk.gc [2, 6, 10, 11, 12] [(0, true), (1, true), (2, false), (4, true), (5, false), (6, true), (7, false), (8, true)] rfl (pKt (pKt (pKM an.K (gA aT.c) (fun _ => rfl) j (pKt (pKM an.K bA (fun _ => rfl) B (pKt (pKo ae.c ae.pure u trivial)))))))).to)⟩
 rcases qd with ⟨jQ, W⟩
 rintro x st' j8
 clear kp
 obtain ⟨rfl, j8⟩ := j8
 refine aW _ rfl (.wk j8 (.seq (.seq (.r4 G [2, 6, 10, 11, 12] [(63, ag (g.Z.length : Int)), (64, ag 0)] (.block ?_)))))
 replace hr := bd hr; obtain ⟨D, kV, hr⟩ := hr
 refine .aN (σ := fun Y => match Y with | (kB, O, i) => ⟨mkS 138 0 [(2, .hp 0 0), (6, .hp 1 0), (10, .hp 3 0), (11, .hp 5 0), (12, .fn 47 [] [.hp 3 0, .hp 1 0, .hp 0 0, .hp 7 0, .hp 5 0]), (63, ag (g.Z.length : Int)), (64, ag i)], [.own (al.c g), .own [.mp 2], .map (j.map (mpK an.K (gA aT.c))), .own [.mp 4], .map (kB.map (mpK an.K bA)), .own [.hs 6 0 O.length 2], .own (O.flatMap ae.c), .own [ag level]]⟩) (Q := fun x st' => x = .exit 4 /\ Wk 0 st' ⟨mkS 138 0 [(11, .hp 0 0)], [.own [.hs 1 0 D.length 2], .own (D.flatMap ae.c)]⟩) kV ((Wk.gc [2, 6, 10, 11, 12, 63, 64] [(0, true), (1, true), (2, false), (3, true), (4, false), (5, true), (6, false), (7, true)] rfl (pKt (pKt (pKM an.K (gA aT.c) (fun _ => rfl) j (pKt (pKM an.K bA (fun _ => rfl) jQ (pKt (pKo ae.c ae.pure W trivial)))))))).to) ?_ ?_
 ·clear hr
  rintro m ⟨kB, O, i⟩ hr
  refine CQ.sh ?_
  refine .seq (.r4 G [2, 6, 10, 11, 12, 63, 64] [(65, aB (decide (i < (g.Z.length : Int))))] (.seq ?_))
  refine .cd hr ?_ ?_ <;> intro wN hr
  ·refine .skip (.seq (.block (.seq (.r4 G [2, 6, 10, 11, 12, 63, 64] [(15, ag i)] (.seq (.r4 G [2, 6, 10, 11, 12, 15, 63, 64] [(16, ag (FK (i + 1)))] (.block ?_)))))))
   replace hr := bd hr; obtain ⟨rz, mA, hr⟩ := hr
   refine .aN (σ := fun Y => match Y with | (t, q, k) => ⟨mkS 138 0 [(2, .hp 0 0), (6, .hp 1 0), (10, .hp 3 0), (11, .hp 5 0), (12, .fn 47 [] [.hp 3 0, .hp 1 0, .hp 0 0, .hp 7 0, .hp 5 0]), (15, ag i), (16, ag k), (63, ag (g.Z.length : Int)), (64, ag i)], [.own (al.c g), .own [.mp 2], .map (j.map (mpK an.K (gA aT.c))), .own [.mp 4], .map (t.map (mpK an.K bA)), .own [.hs 6 0 q.length 2], .own (q.flatMap ae.c), .own [ag level]]⟩) (Q := fun x st' => match (generalizing := false) rz with | (X, R) => x = .exit 6 /\ Wk 0 st' ⟨mkS 138 0 [(2, .hp 0 0), (6, .hp 1 0), (10, .hp 3 0), (11, .hp 5 0), (12, .fn 47 [] [.hp 3 0, .hp 1 0, .hp 0 0, .hp 7 0, .hp 5 0]), (63, ag (g.Z.length : Int)), (64, ag i)], [.own (al.c g), .own [.mp 2], .map (j.map (mpK an.K (gA aT.c))), .own [.mp 4], .map (X.map (mpK an.K bA)), .own [.hs 6 0 R.length 2], .own (R.flatMap ae.c), .own [ag level]]⟩) mA ((Wk.gc [2, 6, 10, 11, 12, 15, 16, 63, 64] [(0, true), (1, true), (2, false), (3, true), (4, false), (5, true), (6, false), (7, true)] rfl (pKt (pKt (pKM an.K (gA aT.c) (fun _ => rfl) j (pKt (pKM an.K bA (fun _ => rfl) kB (pKt (pKo ae.c ae.pure O trivial)))))))).to) ?_ ?_
   ·clear hr
    rintro m ⟨t, q, k⟩ hr
    refine CQ.sh ?_
    refine .seq (.seq (.r4 G [2, 6, 10, 11, 12, 15, 16, 63, 64] [(73, aB (decide (k < (g.Z.length : Int))))] ?_))
    refine .cd hr ?_ ?_ <;> intro wJ hr
    ·refine .skip (.seq (.block (.seq (.r5 G [2, 6, 10, 11, 12, 15, 16, 63, 64] [(17, .hp 8 0)] [.own (al.c g), .own [.mp 2], .map (j.map (mpK an.K (gA aT.c))), .own [.mp 4], .map (t.map (mpK an.K bA)), .own [.hs 6 0 q.length 2], .own (q.flatMap ae.c), .own [ag level], .own [ag i, ag k]] (.seq (.r0 G (.mu 2 (.p0 (v := .tup [.agg (aj.c (getM (A2.mk 0 0 : A2 Int) j (A2.mk i k))), aB (dG j (A2.mk i k))]) (tr (y := br.ofP (dF Tryz.prog [.own (al.c g), .own [.mp 2], .map (j.map (mpK an.K (gA aT.c))), .own [.mp 4], .map (t.map (mpK an.K bA)), .own [.hs 6 0 q.length 2], .own (q.flatMap ae.c), .own [ag level], .own [ag i, ag k]] 91 (.mp 2) (.agg [ag i, ag k]) true)) (xF (kt := 49) (e := 49) (l := j) (f := (gA aT.c)) (z := (A2.mk 0 0 : A2 Int)) (K := an.K) (x := A2.mk i k) an.key kRf kRf kRf kRf kRf)) (.mu 6 (.done (.nh [2, 6, 10, 11, 12, 15, 16, 17, 19, 63, 64] [.own (al.c g), .own [.mp 2], .map (j.map (mpK an.K (gA aT.c))), .own [.mp 4], .map (t.map (mpK an.K bA)), .own [.hs 6 0 q.length 2], .own (q.flatMap ae.c), .own [ag level], .own [ag i, ag k], .own (aj.c (getM (A2.mk 0 0 : A2 Int) j (A2.mk i k)))] (.seq ?_))))))))))))
     rcases bT (dG j (A2.mk i k)) with S | S
     ·replace hr := cg S hr
      refine .r0 G (.p0 (v := aB true) (eB S) (.mu 3 (.pure (v := aB (getM false t (A2.mk i k))) kRf (tr (y := br.ofP (dF Tryz.prog [.own (al.c g), .own [.mp 2], .map (j.map (mpK an.K (gA aT.c))), .own [.mp 4], .map (t.map (mpK an.K bA)), .own [.hs 6 0 q.length 2], .own (q.flatMap ae.c), .own [ag level], .own [ag i, ag k], .own (aj.c (getM (A2.mk 0 0 : A2 Int) j (A2.mk i k)))] 92 (.mp 4) (.agg [ag i, ag k]) false)) (tu (kt := 49) (e := 4) (l := t) (f := bA) (z := false) (K := an.K) (x := A2.mk i k) an.key kRf kRf kRf kRf kRf)) (.mu 2 (.done (.nh [2, 6, 10, 11, 12, 15, 16, 17, 63, 64, 91] [.own (al.c g), .own [.mp 2], .map (j.map (mpK an.K (gA aT.c))), .own [.mp 4], .map (t.map (mpK an.K bA)), .own [.hs 6 0 q.length 2], .own (q.flatMap ae.c), .own [ag level], .own [ag i, ag k], .own (aj.c (getM (A2.mk 0 0 : A2 Int) j (A2.mk i k)))] ?_))))))
      refine .cd hr ?_ ?_ <;> intro yB hr
      ·obtain ⟨J, rC, hr⟩ := bd hr
       refine .g1 G (fT 7 (.own [ag level]) [(3, .own [.mp 10]), (1, .own [.mp 11])] [(5, .own [.hs 12 0 J.2.length 2]), (10, .map (J.1.map (mpK an.K bA))), (11, .map (j.map (mpK an.K (gA aT.c)))), (12, .own (J.2.flatMap ae.c)), (4, .dead), (2, .dead), (6, .dead)] (fT 0 (.own (al.c g)) [(3, .own [.mp 10]), (1, .own [.mp 11])] [(7, .own [ag level]), (5, .own [.hs 12 0 J.2.length 2]), (10, .map (J.1.map (mpK an.K bA))), (11, .map (j.map (mpK an.K (gA aT.c)))), (12, .own (J.2.flatMap ae.c)), (4, .dead), (2, .dead), (6, .dead)] (cL (args := [.agg [ag i, ag k], aB true, .hp 3 0, .hp 1 0, .hp 0 0, .hp 7 0, .hp 5 0]) 5 3 [(3, true), (1, true), (0, true), (7, true), (5, true), (4, false), (2, false), (6, false)] [true, true, true, true, true, false, false, false] (jz n (A2.mk i k) true t j g.X0 g.Y0 g.Step g.Width g.Height g.Z level q J rC) (by exact ⟨dz (fun _ => rfl) _, ⟨dz (fun _ => rfl) _, ⟨a7 ae.pure _, trivial⟩⟩⟩) (by exact ⟨dz (fun _ => rfl) _, ⟨dz (fun _ => rfl) _, ⟨a7 ae.pure _, trivial⟩⟩⟩) rfl rfl kRf kRf))) (.mu 2 (.ca cf0 (.done (.pop (.ru G ?_)))))
       exact av (J.1, J.2, FK (k + 1)) hr ((Wk.gc [2, 6, 10, 11, 12, 15, 16, 63, 64] [(0, true), (1, true), (11, false), (3, true), (10, false), (5, true), (12, false), (7, true)] rfl (pKt (pKt (pKM an.K (gA aT.c) (fun _ => rfl) j (pKt (pKM an.K bA (fun _ => rfl) J.1 (pKt (pKo ae.c ae.pure J.2 trivial)))))))).to)
      refine .skip (.pop (.ru G ?_))
      exact av (t, q, FK (k + 1)) hr ((Wk.gc [2, 6, 10, 11, 12, 15, 16, 63, 64] [(0, true), (1, true), (2, false), (3, true), (4, false), (5, true), (6, false), (7, true)] rfl (pKt (pKt (pKM an.K (gA aT.c) (fun _ => rfl) j (pKt (pKM an.K bA (fun _ => rfl) t (pKt (pKo ae.c ae.pure q trivial)))))))).to)
     replace hr := ch S hr
     refine .r0 G (.p0 (v := aB false) (eB S) (.mu 6 (.done (.nh [2, 6, 10, 11, 12, 15, 16, 17, 63, 64, 91] [.own (al.c g), .own [.mp 2], .map (j.map (mpK an.K (gA aT.c))), .own [.mp 4], .map (t.map (mpK an.K bA)), .own [.hs 6 0 q.length 2], .own (q.flatMap ae.c), .own [ag level], .own [ag i, ag k], .own (aj.c (getM (A2.mk 0 0 : A2 Int) j (A2.mk i k)))] (.cF kRf (.skip (.pop (.ru G ?_))))))))
     exact av (t, q, FK (k + 1)) hr ((Wk.gc [2, 6, 10, 11, 12, 15, 16, 63, 64] [(0, true), (1, true), (2, false), (3, true), (4, false), (5, true), (6, false), (7, true)] rfl (pKt (pKt (pKM an.K (gA aT.c) (fun _ => rfl) j (pKt (pKM an.K bA (fun _ => rfl) t (pKt (pKo ae.c ae.pure q trivial)))))))).to)
    refine .leave rfl ?_
    obtain rfl := oi hr
    exact ⟨rfl, ((Wk.gc [2, 6, 10, 11, 12, 63, 64] [(0, true), (1, true), (2, false), (3, true), (4, false), (5, true), (6, false), (7, true)] rfl (pKt (pKt (pKM an.K (gA aT.c) (fun _ => rfl) j (pKt (pKM an.K bA (fun _ => rfl) t (pKt (pKo ae.c ae.pure q trivial)))))))).to)⟩
   rcases rz with ⟨X, R⟩
   rintro x st' j9
   clear mA
   obtain ⟨rfl, j9⟩ := j9
   refine aW _ rfl (.pop (.wk j9 (.ru G ?_)))
   exact av (X, R, FK (i + 1)) hr ((Wk.gc [2, 6, 10, 11, 12, 63, 64] [(0, true), (1, true), (2, false), (3, true), (4, false), (5, true), (6, false), (7, true)] rfl (pKt (pKt (pKM an.K (gA aT.c) (fun _ => rfl) j (pKt (pKM an.K bA (fun _ => rfl) X (pKt (pKo ae.c ae.pure R trivial)))))))).to)
  refine .leave rfl ?_
  obtain rfl := oi hr
  exact ⟨rfl, ((Wk.gc [11] [(5, true), (6, false)] rfl (pKt (pKo ae.c ae.pure O trivial))).to)⟩
 rintro x st' kO
 clear kV
 obtain ⟨rfl, kO⟩ := kO
 refine aW _ rfl (.wk kO (.seq (.seq (.r4 G [11] [(97, ag (D.length : Int)), (98, ag 0)] (.block ?_)))))
 replace hr := bd hr; obtain ⟨M, lH, hr⟩ := hr
 refine .aN (σ := fun Y => match Y with | (T, E) => ⟨mkS 138 0 [(11, .hp 0 0), (97, ag (D.length : Int)), (98, ag E)], [.own [.hs 1 0 T.length 2], .own (T.flatMap ae.c)]⟩) (Q := fun x st' => x = .exit 8 /\ Wk 0 st' ⟨mkS 138 0 [(11, .hp 0 0)], [.own [.hs 1 0 M.length 2], .own (M.flatMap ae.c)]⟩) lH ((Wk.gc [11, 97, 98] [(0, true), (1, false)] rfl (pKt (pKo ae.c ae.pure D trivial))).to) ?_ ?_
 ·clear hr
  rintro m ⟨T, E⟩ hr
  refine CQ.sh ?_
  refine .seq (.r4 G [11, 97, 98] [(99, aB (decide (E < (D.length : Int))))] (.seq ?_))
  refine .cd hr ?_ ?_ <;> intro we hr
  ·refine .skip (.seq (.block (.seq (.r4 G [11, 97, 98] [(20, ag E)] (.seq (.r4 G [11, 97, 98] [(21, ag E)] (.block ?_)))))))
   replace hr := bd hr; obtain ⟨N, mN, hr⟩ := hr
   refine .aN (σ := fun Y => match Y with | (d, a) => ⟨mkS 138 0 [(11, .hp 0 0), (21, ag a), (97, ag (D.length : Int)), (98, ag E)], [.own [.hs 1 0 d.length 2], .own (d.flatMap ae.c)]⟩) (Q := fun x st' => x = .exit 10 /\ Wk 0 st' ⟨mkS 138 0 [(11, .hp 0 0), (97, ag (D.length : Int)), (98, ag E)], [.own [.hs 1 0 N.length 2], .own (N.flatMap ae.c)]⟩) mN ((Wk.gc [11, 21, 97, 98] [(0, true), (1, false)] rfl (pKt (pKo ae.c ae.pure T trivial))).to) ?_ ?_
   ·clear hr
    rintro m ⟨d, a⟩ hr
    refine CQ.sh ?_
    refine .seq (.seq ?_)
    rcases bT (decide (a > 0)) with L | L
    ·replace hr := cg L hr
     obtain ⟨w, hr⟩ := gd hr
     obtain ⟨mw, mF, hr⟩ := bd hr
     obtain ⟨A, hr⟩ := gd hr
     obtain ⟨nH, nw, uq, oD, hr⟩ := bd2 hr
     refine .tn G (ca1 (ok0 (kr n (gt d a) mw mF)) (ca1 (ok0 (kr n (gt d (FK (a - 1))) nH nw)) (ca3 (ok0 (pR n mw nH uq oD))))) (.mu 1 (.pk (v := aB true) (eB L) (.mu 3 (.pk (v := .hp 1 (0 + a.toNat * 2)) (tr (au w)) (.pk (v := .agg (ae.c (gt d a))) (tr (y := br.ofP (ei (decide (2 <= ((d.flatMap ae.c).drop (0 + a.toNat * 2)).length)) (.agg (((d.flatMap ae.c).drop (0 + a.toNat * 2)).take 2)))) (b6 ae.len (aC w) (by decide) (by omega : 0 + a.toNat * 2 = a.toNat * 2 + 0) kRf)) (.ca cf0 (.mu 3 (.pk (v := .hp 1 (0 + (FK (a - 1)).toNat * 2)) (tr (au A)) (.pk (v := .agg (ae.c (gt d (FK (a - 1))))) (tr (y := br.ofP (ei (decide (2 <= ((d.flatMap ae.c).drop (0 + (FK (a - 1)).toNat * 2)).length)) (.agg (((d.flatMap ae.c).drop (0 + (FK (a - 1)).toNat * 2)).take 2)))) (b6 ae.len (aC A) (by decide) (by omega : 0 + (FK (a - 1)).toNat * 2 = (FK (a - 1)).toNat * 2 + 0) kRf)) (.ca (cfA (fun h => by rw [sv nw mF (pD n h)]) cf0) (.ca (cfF (cfF cf0)) (.mu 1 ?_))))))))))))
     refine .done (kRa ?_)
     refine .nh [11, 21, 97, 98, 117] [.own [.hs 1 0 d.length 2], .own (d.flatMap ae.c)] ?_
     refine .cd hr ?_ ?_ <;> intro yo hr
     ·refine .skip (.seq (.block (.dS G bF (.mu 8 (.pk (v := .hp 1 (0 + (FK (a - 1)).toNat * 2)) (tr (au A)) (.pk (v := .agg (ae.c (gt d (FK (a - 1))))) (tr (y := br.ofP (ei (decide (2 <= ((d.flatMap ae.c).drop (0 + (FK (a - 1)).toNat * 2)).length)) (.agg (((d.flatMap ae.c).drop (0 + (FK (a - 1)).toNat * 2)).take 2)))) (b6 ae.len (aC A) (by decide) (by omega : 0 + (FK (a - 1)).toNat * 2 = (FK (a - 1)).toNat * 2 + 0) kRf)) (.mu 2 (.pk (v := .hp 1 (0 + a.toNat * 2)) (tr (au w)) (.pk (v := .agg (ae.c (gt d a))) (tr (y := br.ofP (ei (decide (2 <= ((d.flatMap ae.c).drop (0 + a.toNat * 2)).length)) (.agg (((d.flatMap ae.c).drop (0 + a.toNat * 2)).take 2)))) (b6 ae.len (aC w) (by decide) (by omega : 0 + a.toNat * 2 = a.toNat * 2 + 0) kRf)) (.pk (v := .hp 1 (0 + a.toNat * 2)) (tr (au w)) (.ek (v := .unk) (ws := [(1, .own ((d.set a.toNat (gt d (FK (a - 1)))).flatMap ae.c))]) (tr (jC (jA (cD (n := 2) ae.len (aC w) (lbT rfl) (by omega : 0 + a.toNat * 2 = a.toNat * 2 + 0))) (congrArg Blk.own (c9 (xs := (ae.c (gt d (FK (a - 1))))) ae.len (aC w) (lbT rfl) (by omega : 0 + a.toNat * 2 = a.toNat * 2 + 0) kRf)))) (.pk (v := .hp 1 (0 + (FK (a - 1)).toNat * 2)) (tr (au A)) (.ek (v := .unk) (ws := [(1, .own (((d.set a.toNat (gt d (FK (a - 1)))).set (FK (a - 1)).toNat (gt d a)).flatMap ae.c))]) (tr (y := stO (decide ((0 + (FK (a - 1)).toNat * 2) + 2 <= ((d.set a.toNat (gt d (FK (a - 1)))).flatMap ae.c).length) && true) [(1, .own (setCells ((d.set a.toNat (gt d (FK (a - 1)))).flatMap ae.c) (0 + (FK (a - 1)).toNat * 2) (ae.c (gt d a))))]) (jC (jA (cD ae.len (aC (Az A)) (lbT rfl) (by omega : 0 + (FK (a - 1)).toNat * 2 = (FK (a - 1)).toNat * 2 + 0))) (congrArg Blk.own (c9 ae.len (aC (Az A)) (lbT rfl) (by omega : 0 + (FK (a - 1)).toNat * 2 = (FK (a - 1)).toNat * 2 + 0) kRf)))) ?_)))))))))))))
      refine .done (kRa ?_)
      refine .pop (.ru G ?_)
      exact av ((d.set a.toNat (gt d (FK (a - 1)))).set (FK (a - 1)).toNat (gt d a), FK (a - 1)) hr ((Wk.D3 0 0 (b := 1) (es := 2) (len := d.length) (cs := [.hs 1 0 d.length 2]) ((d.set a.toNat (gt d (FK (a - 1)))).set (FK (a - 1)).toNat (gt d a)).length kRf kRf (by simp)).trans ((Wk.gc [11, 21, 97, 98] [(0, true), (1, false)] rfl (pKt (pKo ae.c ae.pure ((d.set a.toNat (gt d (FK (a - 1)))).set (FK (a - 1)).toNat (gt d a)) trivial))).to))
     refine .leave rfl ?_
     obtain rfl := oi hr
     exact ⟨rfl, ((Wk.gc [11, 97, 98] [(0, true), (1, false)] rfl (pKt (pKo ae.c ae.pure d trivial))).to)⟩
    replace hr := ch L hr
    refine .dS G bF (.mu 1 (.pk (v := aB false) (eB L) (.mu 14 ?_)))
    refine .done (kRa ?_)
    refine .nh [11, 21, 97, 98, 117] [.own [.hs 1 0 d.length 2], .own (d.flatMap ae.c)] (.cF kRf (.leave rfl ?_))
    obtain rfl := oi hr
    exact ⟨rfl, ((Wk.gc [11, 97, 98] [(0, true), (1, false)] rfl (pKt (pKo ae.c ae.pure d trivial))).to)⟩
   rintro x st' U
   clear mN
   obtain ⟨rfl, U⟩ := U
   refine aW _ rfl (.pop (.wk U (.ru G ?_)))
   exact av (N, FK (E + 1)) hr ((Wk.gc [11, 97, 98] [(0, true), (1, false)] rfl (pKt (pKo ae.c ae.pure N trivial))).to)
  refine .leave rfl ?_
  obtain rfl := oi hr
  exact ⟨rfl, ((Wk.gc [11] [(0, true), (1, false)] rfl (pKt (pKo ae.c ae.pure T trivial))).to)⟩
 rintro x st' V
 clear lH
 obtain ⟨rfl, V⟩ := V
 refine aW _ rfl (.wk V (.seq (.r4 G [] [(4, .hs 1 0 M.length 2)] (.ret ?_))))
 obtain rfl := oi hr
 exact aK.ret (vs := [.hs 1 0 M.length 2]) kRf (Sn.hs rfl (.inl rfl) (SnC.pure (a7 ae.pure _)) (fun h => bZ h))

theorem pW (n : Nat) (a : ae) (b : ae) (r : Bool) (hr : gi n a b = some r) : aO Tryz.prog 18 [.agg (ae.c a), .agg (ae.c b)] (aB r) := by
 unfold gi at hr
 refine aO.bd G Tryz.func18 [.tmp 4] ?_
 unfold Tryz.f18
 simp only [gS]
 refine .seq (.r2 G 62 [(2, .hp 0 0), (3, .hp 1 0)] [.own (ae.c a), .own (ae.c b)] (.seq (.seq ?_)))
 rcases bT (a.Closed != b.Closed) with i | i
 ·replace hr := cg i hr
  refine .r0 G (.mu 4 (.p0 (v := aB true) (eB i) (.mu 9 (.done (.nh [2, 3, 20] [.own (ae.c a), .own (ae.c b)] (.cT kRf (.seq (.ru G (.ret ?_)))))))))
  obtain rfl := oi hr
  exact aK.r1 [aB false]
 replace hr := ch i hr
 refine .r0 G (.mu 4 (.p0 (v := aB false) (eB i) (.mu 9 (.done (.nh [2, 3, 20] [.own (ae.c a), .own (ae.c b)] ?_)))))
 refine .cd hr ?_ ?_ <;> intro t hr
 ·refine .seq (.ru G (.ret ?_))
  obtain rfl := oi hr
  exact aK.r1 [aB false]
 refine .skip (.seq (.seq (.r4 G [3] [(22, slT ai.c a.Points), (23, ag (a.Points.length : Int)), (24, ag 0)] (.block ?_))))
 replace hr := bd hr; obtain ⟨l, j, hr⟩ := hr
 refine .aN (σ := fun u => match u with | d => ⟨mkS 62 0 [(3, .hp 0 0), (22, slT ai.c a.Points), (23, ag (a.Points.length : Int)), (24, ag d)], [.own (ae.c b)]⟩) (Q := fun x st' => match (generalizing := false) l with | .inl _ => x = .exit 0 /\ Wk 0 st' ⟨mkS 62 0 [], []⟩ | .inr (r0) => x = .ret /\ aK Tryz.prog [.tmp 4] (aB r0) .ret st') j ((Wk.gc [3, 22, 23, 24] [(1, true)] rfl trivial).to) ?_ ?_
 ·clear hr
  rintro m d hr
  refine CQ.sh ?_
  refine .seq (.r4 G [3, 22, 23, 24] [(25, aB (decide (d < (a.Points.length : Int))))] (.seq ?_))
  refine .cd hr ?_ ?_ <;> intro q hr
  ·refine .skip (.seq (.block (.seq ?_)))
   obtain ⟨k, hr⟩ := gd hr
   refine .r0 G (.mu 1 (.p0 (v := .pp (a.Points.flatMap ai.c) (d.toNat * 6)) (tr (au k)) (.p0 (v := .agg (ai.c (gt a.Points d))) (tr (y := br.ofP (ei (decide (6 <= ((a.Points.flatMap ai.c).drop (d.toNat * 6)).length)) (.agg (((a.Points.flatMap ai.c).drop (d.toNat * 6)).take 6)))) (b6 ai.len (aC k) (by decide) (by omega : d.toNat * 6 = d.toNat * 6 + 0) kRf)) (.mu 3 (.done (.nh [3, 5, 6, 22, 23, 24] [.own (ae.c b), .own (ai.c (gt a.Points d))] (.seq ?_)))))))
   obtain ⟨e, hr⟩ := gd hr
   rcases bT (((gt a.Points d).A : Int) != (gt b.Points d).A) with g | g
   ·replace hr := cg g hr
    refine .dS G bF (.mu 5 (.pk (v := .pp (b.Points.flatMap ai.c) (d.toNat * 6)) (tr (au e)) (.mu 1 (.pk (v := ag (gt b.Points d).A) (tr (aE (aF ai.len (aC e) (by decide : 0 < 6) (by omega : d.toNat * 6 + 0 = d.toNat * 6 + 0) kRf))) (.pk (v := aB true) (eB g) (.mu 23 ?_))))))
    refine .done (kRa ?_)
    refine .nh [3, 22, 23, 24, 60] [.own (ae.c b), .own (ai.c (gt a.Points d))] (.cT kRf (.seq (.ru G (.ret ?_))))
    obtain rfl := oi hr
    exact ⟨rfl, aK.ret (vs := [aB false]) kRf (Sn.pure rfl)⟩
   replace hr := ch g hr
   rcases bT (((gt a.Points d).B : Int) != (gt b.Points d).B) with h | h
   ·replace hr := cg h hr
    refine .dS G bF (.mu 5 (.pk (v := .pp (b.Points.flatMap ai.c) (d.toNat * 6)) (tr (au e)) (.mu 1 (.pk (v := ag (gt b.Points d).A) (tr (aE (aF ai.len (aC e) (by decide : 0 < 6) (by omega : d.toNat * 6 + 0 = d.toNat * 6 + 0) kRf))) (.pk (v := aB false) (eB g) (.mu 6 (.pk (v := .pp (b.Points.flatMap ai.c) (d.toNat * 6)) (tr (au e)) (.mu 1 (.pk (v := ag (gt b.Points d).B) (tr (aE (aF ai.len (aC e) (by decide : 1 < 6) (by omega : d.toNat * 6 + 1 = d.toNat * 6 + 1) kRf))) (.pk (v := aB true) (eB h) (.mu 13 ?_)))))))))))
    refine .done (kRa ?_)
    refine .nh [3, 22, 23, 24, 60] [.own (ae.c b), .own (ai.c (gt a.Points d))] (.cT kRf (.seq (.ru G (.ret ?_))))
    obtain rfl := oi hr
    exact ⟨rfl, aK.ret (vs := [aB false]) kRf (Sn.pure rfl)⟩
   replace hr := ch h hr
   obtain ⟨p, o, hr⟩ := bd hr
   refine .t1 G (ok0 (jg n (gt a.Points d).At (gt b.Points d).At p o)) (.mu 5 (.pk (v := .pp (b.Points.flatMap ai.c) (d.toNat * 6)) (tr (au e)) (.mu 1 (.pk (v := ag (gt b.Points d).A) (tr (aE (aF ai.len (aC e) (by decide : 0 < 6) (by omega : d.toNat * 6 + 0 = d.toNat * 6 + 0) kRf))) (.pk (v := aB false) (eB g) (.mu 6 (.pk (v := .pp (b.Points.flatMap ai.c) (d.toNat * 6)) (tr (au e)) (.mu 1 (.pk (v := ag (gt b.Points d).B) (tr (aE (aF ai.len (aC e) (by decide : 1 < 6) (by omega : d.toNat * 6 + 1 = d.toNat * 6 + 1) kRf))) (.pk (v := aB false) (eB h) (.mu 7 (.pk (v := .pp (b.Points.flatMap ai.c) (d.toNat * 6)) (tr (au e)) (.mu 1 (.pk (v := .agg (ak.c (gt b.Points d).At)) (tr (y := br.ofP (ei (decide (4 <= ((b.Points.flatMap ai.c).drop (d.toNat * 6 + 2)).length)) (.agg (((b.Points.flatMap ai.c).drop (d.toNat * 6 + 2)).take 4)))) (b6 ai.len (aC e) (by decide) (by omega : d.toNat * 6 + 2 = d.toNat * 6 + 2) kRf)) (.ca cf0 (.mu 2 ?_))))))))))))))))
   refine .done (kRa ?_)
   refine .nh [3, 22, 23, 24, 60] [.own (ae.c b), .own (ai.c (gt a.Points d))] ?_
   refine .cd hr ?_ ?_ <;> intro s hr
   ·refine .seq (.ru G (.ret ?_))
    obtain rfl := oi hr
    exact ⟨rfl, aK.ret (vs := [aB false]) kRf (Sn.pure rfl)⟩
   refine .skip (.pop (.ru G ?_))
   exact av (FK (d + 1)) hr ((Wk.gc [3, 22, 23, 24] [(0, true)] rfl trivial).to)
  refine .leave rfl ?_
  obtain rfl := oi hr
  exact ⟨rfl, ((Wk.gc [] [] rfl pK0).to)⟩
 rcases l with ⟨⟩ | r0
 ·rintro x st' f
  clear j
  obtain ⟨rfl, f⟩ := f
  refine aW _ rfl (.wk f (.seq (.ru G (.ret ?_))))
  obtain rfl := oi hr
  exact aK.r1 [aB true]
 rintro x st' f
 clear j
 obtain ⟨rfl, f⟩ := f
 obtain rfl := oi hr
 exact iM _ f

theorem bu (n : Nat) (d : List ae) (e : List ae) (r : Bool) (hr : aM n d e = some r) : aO Tryz.prog 16 [slT ae.c d, slT ae.c e, .fn 18 [] []] (aB r) := by
 unfold aM at hr
 refine aO.bd G Tryz.func16 [.tmp 6] ?_
 unfold Tryz.f16
 simp only [gS]
 refine .seq (.r4 G [0, 1, 2] [] (.seq (.seq (.r4 G [0, 1, 2] [(14, aB (((d.length : Int) : Int) != (e.length : Int)))] ?_))))
 refine .cd hr ?_ ?_ <;> intro p hr
 ·refine .seq (.ru G (.ret ?_))
  obtain rfl := oi hr
  exact aK.r1 [aB false]
 refine .skip (.seq (.seq (.r4 G [1, 2] [(15, slT ae.c d), (16, ag (d.length : Int)), (17, ag 0)] (.block ?_))))
 replace hr := bd hr; obtain ⟨i, f, hr⟩ := hr
 refine .aN (σ := fun q => match q with | a => ⟨mkS 32 0 [(1, slT ae.c e), (2, .fn 18 [] []), (15, slT ae.c d), (16, ag (d.length : Int)), (17, ag a)], []⟩) (Q := fun x st' => match (generalizing := false) i with | .inl _ => x = .exit 0 /\ Wk 0 st' ⟨mkS 32 0 [], []⟩ | .inr (r0) => x = .ret /\ aK Tryz.prog [.tmp 6] (aB r0) .ret st') f ((Wk.gc [1, 2, 15, 16, 17] [] rfl pK0).to) ?_ ?_
 ·clear hr
  rintro m a hr
  refine CQ.sh ?_
  refine .seq (.r4 G [1, 2, 15, 16, 17] [(18, aB (decide (a < (d.length : Int))))] (.seq ?_))
  refine .cd hr ?_ ?_ <;> intro l hr
  ·refine .skip (.seq (.block (.seq ?_)))
   obtain ⟨g, hr⟩ := gd hr
   refine .r0 G (.mu 1 (.p0 (v := .pp (d.flatMap ae.c) (a.toNat * 2)) (tr (au g)) (.p0 (v := .agg (ae.c (gt d a))) (tr (y := br.ofP (ei (decide (2 <= ((d.flatMap ae.c).drop (a.toNat * 2)).length)) (.agg (((d.flatMap ae.c).drop (a.toNat * 2)).take 2)))) (b6 ae.len (aC g) (by decide) (by omega : a.toNat * 2 = a.toNat * 2 + 0) kRf)) (.mu 3 (.done (.nh [1, 2, 7, 8, 15, 16, 17] [.own (ae.c (gt d a))] (.seq ?_)))))))
   obtain ⟨h, hr⟩ := gd hr
   refine .r0 G (.mu 2 (.p0 (v := .pp (e.flatMap ae.c) (a.toNat * 2)) (tr (au h)) (.p0 (v := .agg (ae.c (gt e a))) (tr (y := br.ofP (ei (decide (2 <= ((e.flatMap ae.c).drop (a.toNat * 2)).length)) (.agg (((e.flatMap ae.c).drop (a.toNat * 2)).take 2)))) (b6 ae.len (aC h) (by decide) (by omega : a.toNat * 2 = a.toNat * 2 + 0) kRf)) (.mu 2 (.done (.nh [1, 2, 8, 9, 15, 16, 17] [.own (ae.c (gt d a)), .own (ae.c (gt e a))] (.seq ?_)))))))
   obtain ⟨k, j, hr⟩ := bd hr
   refine .g1 G (ok0 (pW n (gt d a) (gt e a) k j)) (.mu 3 (.ca cf0 (.mu 1 (.done (.nh [1, 2, 15, 16, 17, 30] [.own (ae.c (gt d a)), .own (ae.c (gt e a))] ?_)))))
   refine .cd hr ?_ ?_ <;> intro o hr
   ·refine .seq (.ru G (.ret ?_))
    obtain rfl := oi hr
    exact ⟨rfl, aK.ret (vs := [aB false]) kRf (Sn.pure rfl)⟩
   refine .skip (.pop (.ru G ?_))
   exact av (FK (a + 1)) hr ((Wk.gc [1, 2, 15, 16, 17] [] rfl pK0).to)
  refine .leave rfl ?_
  obtain rfl := oi hr
  exact ⟨rfl, ((Wk.gc [] [] rfl pK0).to)⟩
 rcases i with ⟨⟩ | r0
 ·rintro x st' b
  clear f
  obtain ⟨rfl, b⟩ := b
  refine aW _ rfl (.wk b (.seq (.ru G (.ret ?_))))
  obtain rfl := oi hr
  exact aK.r1 [aB true]
 rintro x st' b
 clear f
 obtain ⟨rfl, b⟩ := b
 obtain rfl := oi hr
 exact iM _ b

theorem lY (n : Nat) (g : al) (level : Int) (r : Bool) (hr : c8 n g level = some r) : aO Tryz.prog 3 [.agg (al.c g), ag level] (aB r) := by
 unfold c8 at hr
 refine aO.bd G Tryz.func3 [.tmp 4] ?_
 unfold Tryz.f3
 simp only [gS]
 refine .seq (.r5 G [1] [(2, .hp 0 0)] [.own (al.c g)] (.seq (.seq ?_)))
 obtain ⟨q, k, hr⟩ := bd hr
 refine .g1 G (ok0 (oY n q k)) (.ca cf0 (.mu 1 (.done (.nh [1, 2, 9] [.own (al.c g)] ?_))))
 refine .cd hr ?_ ?_ <;> intro s hr
 ·refine .seq (.ru G (.ret ?_))
  obtain rfl := oi hr
  exact aK.r1 [aB false]
 refine .skip (.seq (.seq ?_))
 obtain ⟨t, l, hr⟩ := bd hr
 refine .g1 G (ok0 (ql n g 40 t l)) (.mu 1 (.ca cf0 (.mu 1 (.done (.nh [1, 2, 12] [.own (al.c g)] ?_)))))
 refine .cd hr ?_ ?_ <;> intro u hr
 ·refine .seq (.ru G (.ret ?_))
  obtain rfl := oi hr
  exact aK.r1 [aB true]
 refine .skip (.seq ?_)
 obtain ⟨d, m, hr⟩ := bd hr
 refine .g1 G (ok0 (ou n g level d m)) (.mu 2 (.ca cf0 (.mu 5 (.done (.nh [1, 2, 5, 6] [.own (al.c g)] (.seq (.seq ?_)))))))
 obtain ⟨o, e, hr⟩ := bd hr
 refine .g1 G (ok0 (oa n g level o e)) (.mu 2 (.ca cf0 (.mu 1 (.done (.nh [1, 2, 5, 6, 7] [.own (al.c g)] (.seq (.r4 G [1, 2, 5, 6, 7] [(23, aB ((o : Int) != 0))] ?_)))))))
 refine .cd hr ?_ ?_ <;> intro p hr
 ·refine .seq ?_
  rcases bT ((d.2 : Int) == o) with a | a
  ·replace hr := cg a hr
   refine .r0 G (.mu 2 (.p0 (v := aB true) (eB a) (.mu 6 (.done (.ret ?_)))))
   obtain rfl := oi hr
   exact aK.r1 [aB (((d.1.length : Int) : Int) == 0)]
  replace hr := ch a hr
  refine .r0 G (.mu 2 (.p0 (v := aB false) (eB a) (.mu 6 (.done (.ret ?_)))))
  obtain rfl := oi hr
  exact aK.r1 [aB false]
 refine .skip (.seq ?_)
 rcases bT ((d.2 : Int) == 0) with b | b
 ·replace hr := cg b hr
  obtain ⟨f, h, i, j, hr⟩ := bd2 hr
  refine .gn G (ca1 (ok0 (pn n g level f h)) (ca3 (ok0 (bu n d.1 f i j)))) (.mu 1 (.p0 (v := aB true) (eB b) (.mu 4 (.ca cf0 (.ca (cfF cf0) (.mu 2 (.done (.ret ?_))))))))
  obtain rfl := oi hr
  exact aK.r1 [aB i]
 replace hr := ch b hr
 refine .r0 G (.mu 1 (.p0 (v := aB false) (eB b) (.mu 8 (.done (.ret ?_)))))
 obtain rfl := oi hr
 exact aK.r1 [aB false]
end Go.L
