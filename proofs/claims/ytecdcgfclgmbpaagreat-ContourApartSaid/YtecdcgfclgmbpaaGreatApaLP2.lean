
import Derived.Test.YtecdcgfclgmbpaaGreatApaLP1
import Derived.Test.YtecdcgfclgmbpaaGreatL0Apas
import Derived.Test.YtecdcgfclgmbpaaGreatScEApas
import Derived.Test.YtecdcgfclgmbpaaGreatApaL51p
import Derived.Test.YtecdcgfclgmbpaaGreatSortCApas
import Derived.Test.YtecdcgfclgmbpaaGreatSortKApas
import Derived.Test.YtecdcgfclgmbpaaGreatChecked
import Derived.KernelRfl
set_option linter.all false
set_option maxRecDepth 100000
set_option maxHeartbeats 4000000
namespace Go.L
open Go Go.Eng Go.Proofs
theorem ov (n : Nat) (g : al) (level : Int) (r : List ak) (hr : gB n g level = some r) : aN Tryz.prog 45 [.agg (al.c g), aj level] (slT ak.c r) := by
 unfold gB at hr
 refine aN.bd G Tryz.func45 [.tmp 4] ?_
 unfold Tryz.f45
 simp only [gS]
 refine .seq (.r2 G 68 [(2, .hp 0 0), (3, .hp 1 0)] [.own (al.c g), .own [aj level]] (.seq (.r5 G [2, 3] [(5, .hp 2 0)] [.own (al.c g), .own [aj level], .own [.fn 88 [] [.hp 0 0, .hp 1 0]]] (.seq (.r5 G [2, 3, 5] [(6, .hp 5 0), (7, .hp 6 0)] [.own (al.c g), .own [aj level], .own [.fn 88 [] [.hp 0 0, .hp 1 0]], .map (([] : List (A2 Int × A2 Int)).map (mpK au.K (gA ag.c))), .map (([] : List (A2 Int × Bool)).map (mpK au.K bA)), .own [.mp 3], .own [.mp 4]] (.seq ?_))))))
 obtain ⟨d, mA, hr⟩ := bd hr
 refine .g1 G (jb 2 (.own [.fn 88 [] [.hp 0 0, .hp 1 0]]) [] [(0, .own (al.c g)), (1, .own [aj level]), (5, .own [.mp 7]), (6, .own [.mp 8]), (7, .map (d.1.map (mpK au.K (gA ag.c)))), (8, .map (d.2.map (mpK au.K bA))), (3, .dead), (4, .dead)] (gg (args := [.agg (al.c g), .fn 90 [] [.hp 2 0, .hp 5 0, .hp 6 0]]) 5 2 [(2, true), (0, true), (1, true), (5, true), (6, true), (3, false), (4, false)] [true, true, true, true, true, false, false] (ir n g g.X0 g.Y0 g.Step g.Width g.Height g.Z level ([] : List (A2 Int × A2 Int)) ([] : List (A2 Int × Bool)) d mA) (by exact ⟨fO (fun _ => rfl) _, ⟨fO (fun _ => rfl) _, trivial⟩⟩) (by exact ⟨fO (fun _ => rfl) _, ⟨fO (fun _ => rfl) _, trivial⟩⟩) rfl rfl kRf kRf)) (.mu 2 (.ca cf0 (.done (.nh [2, 3, 6, 7] [.own (al.c g), .own [aj level], .own [.fn 88 [] [.hp 0 0, .hp 1 0]], .dead, .dead, .own [.mp 7], .own [.mp 8], .map (d.1.map (mpK au.K (gA ag.c))), .map (d.2.map (mpK au.K bA))] (.seq (.r4 G [2, 3, 6, 7] [(8, nS)] (.seq (.seq (.r0 G (.mu 1 (.e0 (v := .hp 9 0) (ws := [(9, .iter 7 d.1.length [])]) (tr (y := my Tryz.prog [.own (al.c g), .own [aj level], .own [.fn 88 [] [.hp 0 0, .hp 1 0]], .dead, .dead, .own [.mp 7], .own [.mp 8], .map (d.1.map (mpK au.K (gA ag.c))), .map (d.2.map (mpK au.K bA))] 9 124 (.mp 7)) (Fc (kt := 101) (e := 101) (es := d.1) (mk := (mpK au.K (gA ag.c))) kRf kRf)) (.done (.nh [2, 3, 6, 7, 8, 24] [.own (al.c g), .own [aj level], .own [.fn 88 [] [.hp 0 0, .hp 1 0]], .dead, .dead, .own [.mp 7], .own [.mp 8], .map (d.1.map (mpK au.K (gA ag.c))), .map (d.2.map (mpK au.K bA)), .iter 7 d.1.length []] (.block ?_))))))))))))))
 refine .GN (mk := (mpK au.K (gA ag.c))) hr (fun N sn => match N with | i => ⟨mkS 68 0 [(2, .hp 0 0), (3, .hp 1 0), (6, .hp 2 0), (7, .hp 4 0), (8, .hs 6 0 i.length 2), (24, .hp 7 0)], [.own (al.c g), .own [aj level], .own [.mp 3], .map (d.1.map (mpK au.K (gA ag.c))), .own [.mp 5], .map (d.2.map (mpK au.K bA)), .own (i.flatMap ag.c), .iter 3 d.1.length sn]⟩) 7 3 ((Wk.nil 8 2 kRf).trans ((Wk.gc [2, 3, 6, 7, 8, 24] [(0, true), (1, true), (5, true), (7, false), (6, true), (8, false), (10, false), (9, true)] rfl (pKt (pKt (pKt (pKM au.K (gA ag.c) (fun _ => rfl) d.1 (pKt (pKM au.K bA (fun _ => rfl) d.2 (pKc trivial)))))))).to)) ?_ ?_
 ·clear hr
  rintro i sn M t z' G' O hr R
  refine .wk ((Wk.refl _).to (c := ⟨mkS 68 0 [(2, .hp 0 0), (3, .hp 1 0), (6, .hp 2 0), (7, .hp 4 0), (8, .hs 6 0 i.length 2), (24, .hp 7 0), (26, aB true)], [.own (al.c g), .own [aj level], .own [.mp 3], .map (d.1.map (mpK au.K (gA ag.c))), .own [.mp 5], .map (d.2.map (mpK au.K bA)), .own (i.flatMap ag.c), .iter 3 d.1.length (sn ++ [M])]⟩)) (.block (.seq (.r0 G (.p0 (v := .tup [.agg [aj t.1.e0, aj t.1.e1], .agg [aj t.2.e0, aj t.2.e1]]) (tr (y := hU [.own (al.c g), .own [aj level], .own [.mp 3], .map (d.1.map (mpK au.K (gA ag.c))), .own [.mp 5], .map (d.2.map (mpK au.K bA)), .own (i.flatMap ag.c), .iter 3 d.1.length (sn ++ [M])] (.hp 7 0)) (Eq.trans (EU (P := Tryz.prog) (m := 3) (sn := sn) (es := d.1) (mk := (mpK au.K (gA ag.c))) (e := t) kRf kRf O) kRf)) (.mu 3 (.done (.nh [2, 3, 6, 7, 8, 9, 24] [.own (al.c g), .own [aj level], .own [.mp 3], .map (d.1.map (mpK au.K (gA ag.c))), .own [.mp 5], .map (d.2.map (mpK au.K bA)), .own (i.flatMap ag.c), .iter 3 d.1.length (sn ++ [M]), .own [aj t.1.e0, aj t.1.e1]] ?_)))))))
  obtain ⟨S, T, hr⟩ := gd2 hr
  refine .r0 G (.mu 3 (.e0 (v := .hs 10 0 (i ++ [t.1]).length 2) (ws := [(6, .dead), (10, .own ((i ++ [t.1]).flatMap ag.c))]) (tr (dN (new := [aj t.1.e0, aj t.1.e1]) (l := i) (xs := [t.1]) ag.len rfl rfl kRf S T)) (.mu 1 (.done (.pop ?_)))))
  obtain rfl := oi hr
  exact R _ ((Wk.gc [2, 3, 6, 7, 8, 24] [(0, true), (1, true), (2, true), (3, false), (4, true), (5, false), (10, false), (7, true)] rfl (pKt (pKt (pKt (pKM au.K (gA ag.c) (fun _ => rfl) d.1 (pKt (pKM au.K bA (fun _ => rfl) d.2 (pKo ag.c ag.pure (i ++ [t.1]) trivial)))))))).to)
 clear hr
 rintro i sn hr
 refine bb _ rfl (.wk ((Wk.refl _).to (c := ⟨mkS 68 0 [(2, .hp 0 0), (3, .hp 1 0), (6, .hp 2 0), (7, .hp 4 0), (8, .hs 6 0 i.length 2), (24, .hp 7 0), (26, aB false)], [.own (al.c g), .own [aj level], .own [.mp 3], .map (d.1.map (mpK au.K (gA ag.c))), .own [.mp 5], .map (d.2.map (mpK au.K bA)), .own (i.flatMap ag.c), .iter 3 d.1.length sn]⟩)) (.seq ?_))
 obtain ⟨a, U, hr⟩ := bd hr
 obtain ⟨F, hr⟩ := gd hr
 refine .g1 G (gg (args := [.hs 6 0 i.length 2, .fn 54 [] []]) 1 0 [(6, false)] [false] (cR n i a U) (by exact ⟨bm ag.pure _, trivial⟩) (by exact ⟨bm ag.pure _, trivial⟩) rfl rfl kRf kRf) (.mu 1 (.ca cf0 (.done (.nh [2, 3, 6, 7, 8] [.own (al.c g), .own [aj level], .own [.mp 3], .map (d.1.map (mpK au.K (gA ag.c))), .own [.mp 5], .map (d.2.map (mpK au.K bA)), .own (a.flatMap ag.c), .iter 3 d.1.length sn] (.seq (.r5 G [2, 3, 6, 7, 8] [(10, .hp 9 0)] [.own (al.c g), .own [aj level], .own [.mp 3], .map (d.1.map (mpK au.K (gA ag.c))), .own [.mp 5], .map (d.2.map (mpK au.K bA)), .own (a.flatMap ag.c), .iter 3 d.1.length sn, .map (([] : List (A2 Int × Bool)).map (mpK au.K bA)), .own [.mp 8]] (.seq (.r5 G [2, 3, 6, 7, 8, 10] [(11, .hp 10 0)] [.own (al.c g), .own [aj level], .own [.mp 3], .map (d.1.map (mpK au.K (gA ag.c))), .own [.mp 5], .map (d.2.map (mpK au.K bA)), .own (a.flatMap ag.c), .iter 3 d.1.length sn, .map (([] : List (A2 Int × Bool)).map (mpK au.K bA)), .own [.mp 8], .own [nS]] (.seq (.r4 G [7, 8, 10, 11] [(12, .fn 93 [] [.hp 9 0, .hp 0 0, .hp 1 0, .hp 2 0, .hp 10 0])] (.seq (.seq (.r4 G [7, 8, 10, 11, 12] [(37, .hs 6 0 i.length 2), (38, aj (i.length : Int)), (39, aj 0)] (.block ?_))))))))))))))
 replace hr := bd hr; obtain ⟨V, H, hr⟩ := hr
 refine .aP (σ := fun N => match N with | (s, o, j) => ⟨mkS 68 0 [(7, .hp 0 0), (8, .hs 2 0 a.length 2), (10, .hp 3 0), (11, .hp 5 0), (12, .fn 93 [] [.hp 3 0, .hp 7 0, .hp 8 0, .hp 9 0, .hp 5 0]), (37, .hs 2 0 a.length 2), (38, aj (i.length : Int)), (39, aj j)], [.own [.mp 1], .map (d.2.map (mpK au.K bA)), .own (a.flatMap ag.c), .own [.mp 4], .map (s.map (mpK au.K bA)), .own [.hs 6 0 o.length 2], .own (o.flatMap ak.c), .own (al.c g), .own [aj level], .own [.mp 10], .map (d.1.map (mpK au.K (gA ag.c)))]⟩) (Q := fun x st' => match (generalizing := false) V with | (C, B) => x = .exit 2 /\ Wk 0 st' ⟨mkS 68 0 [(8, .hs 0 0 a.length 2), (10, .hp 1 0), (11, .hp 3 0), (12, .fn 93 [] [.hp 1 0, .hp 5 0, .hp 6 0, .hp 7 0, .hp 3 0])], [.own (a.flatMap ag.c), .own [.mp 2], .map (C.map (mpK au.K bA)), .own [.hs 4 0 B.length 2], .own (B.flatMap ak.c), .own (al.c g), .own [aj level], .own [.mp 8], .map (d.1.map (mpK au.K (gA ag.c)))]⟩) H ((Wk.iO 8 (b := 6) (es := 2) (len := i.length) a.length kRf (Eq.symm (dcT F))).trans ((Wk.uV 10 0 2 (cs := [nS]) kRf kRf).trans ((Wk.iO 37 (b := 6) (es := 2) (len := i.length) a.length kRf (Eq.symm (dcT F))).trans ((Wk.gc [7, 8, 10, 11, 12, 37, 38, 39] [(4, true), (5, false), (6, false), (9, true), (8, false), (10, true), (11, false), (0, true), (1, true), (2, true), (3, false)] rfl (pKt (pKM au.K bA (fun _ => rfl) d.2 (pKo ag.c ag.pure a (pKt (pKM au.K bA (fun _ => rfl) ([] : List (A2 Int × Bool)) (pKt (pKc (pKt (pKt (pKt (pKM au.K (gA ag.c) (fun _ => rfl) d.1 trivial)))))))))))).to)))) ?_ ?_
 ·clear hr
  rintro m ⟨s, o, j⟩ hr
  refine CQ.sh ?_
  refine .seq (.r4 G [7, 8, 10, 11, 12, 37, 38, 39] [(40, aB (decide (j < (i.length : Int))))] (.seq ?_))
  refine .cd hr ?_ ?_ <;> intro nI hr
  ·refine .skip (.seq (.block (.seq ?_)))
   obtain ⟨I, hr⟩ := gd hr
   refine .r0 G (.p0 (v := .hp 2 (0 + j.toNat * 2)) (tr (aw I)) (.p0 (v := .agg (ag.c (gt a j))) (tr (y := bs.ofP (eA (decide (2 <= ((a.flatMap ag.c).drop (0 + j.toNat * 2)).length)) (.agg (((a.flatMap ag.c).drop (0 + j.toNat * 2)).take 2)))) (ch ag.len (aI I) (by decide) (by omega : 0 + j.toNat * 2 = j.toNat * 2 + 0) kRf)) (.mu 2 (.done (.nh [7, 8, 10, 11, 12, 14, 37, 38, 39] [.own [.mp 1], .map (d.2.map (mpK au.K bA)), .own (a.flatMap ag.c), .own [.mp 4], .map (s.map (mpK au.K bA)), .own [.hs 6 0 o.length 2], .own (o.flatMap ak.c), .own (al.c g), .own [aj level], .own [.mp 10], .map (d.1.map (mpK au.K (gA ag.c))), .own (ag.c (gt a j))] (.seq (.r0 G (.mu 2 (.p0 (v := aB (getM false d.2 (gt a j))) (tr (y := bs.ofP (eN Tryz.prog [.own [.mp 1], .map (d.2.map (mpK au.K bA)), .own (a.flatMap ag.c), .own [.mp 4], .map (s.map (mpK au.K bA)), .own [.hs 6 0 o.length 2], .own (o.flatMap ak.c), .own (al.c g), .own [aj level], .own [.mp 10], .map (d.1.map (mpK au.K (gA ag.c))), .own (ag.c (gt a j))] 125 (.mp 1) (.agg (ag.c (gt a j))) false)) (Bc (kt := 101) (e := 4) (l := d.2) (f := bA) (z := false) (K := au.K) (x := (gt a j)) au.key kRf kRf kRf kRf kRf)) (.mu 1 (.done (.nh [7, 8, 10, 11, 12, 14, 37, 38, 39, 46] [.own [.mp 1], .map (d.2.map (mpK au.K bA)), .own (a.flatMap ag.c), .own [.mp 4], .map (s.map (mpK au.K bA)), .own [.hs 6 0 o.length 2], .own (o.flatMap ak.c), .own (al.c g), .own [aj level], .own [.mp 10], .map (d.1.map (mpK au.K (gA ag.c))), .own (ag.c (gt a j))] ?_))))))))))))
   refine .cd hr ?_ ?_ <;> intro pn hr
   ·obtain ⟨u, W, hr⟩ := bd hr
    refine .g1 G (jb 8 (.own [aj level]) [(3, .own [.mp 12])] [(9, .own [.mp 13]), (5, .own [.hs 14 0 u.2.length 2]), (12, .map (u.1.map (mpK au.K bA))), (13, .map (d.1.map (mpK au.K (gA ag.c)))), (14, .own (u.2.flatMap ak.c)), (4, .dead), (10, .dead), (6, .dead)] (jb 7 (.own (al.c g)) [(3, .own [.mp 12])] [(8, .own [aj level]), (9, .own [.mp 13]), (5, .own [.hs 14 0 u.2.length 2]), (12, .map (u.1.map (mpK au.K bA))), (13, .map (d.1.map (mpK au.K (gA ag.c)))), (14, .own (u.2.flatMap ak.c)), (4, .dead), (10, .dead), (6, .dead)] (gg (args := [.agg (ag.c (gt a j)), aB false, .hp 3 0, .hp 7 0, .hp 8 0, .hp 9 0, .hp 5 0]) 5 3 [(3, true), (7, true), (8, true), (9, true), (5, true), (4, false), (10, false), (6, false)] [true, true, true, true, true, false, false, false] (lF n (gt a j) false s g.X0 g.Y0 g.Step g.Width g.Height g.Z level d.1 o u W) (by exact ⟨fO (fun _ => rfl) _, ⟨fO (fun _ => rfl) _, ⟨bm ak.pure _, trivial⟩⟩⟩) (by exact ⟨fO (fun _ => rfl) _, ⟨fO (fun _ => rfl) _, ⟨bm ak.pure _, trivial⟩⟩⟩) rfl rfl kRf kRf))) (.mu 2 (.ca cf0 (.done (.pop (.ru G ?_)))))
    exact aE (u.1, u.2, IE (j + 1)) hr ((Wk.gc [7, 8, 10, 11, 12, 37, 38, 39] [(0, true), (1, false), (2, false), (3, true), (12, false), (5, true), (14, false), (7, true), (8, true), (9, true), (13, false)] rfl (pKt (pKM au.K bA (fun _ => rfl) d.2 (pKo ag.c ag.pure a (pKt (pKM au.K bA (fun _ => rfl) u.1 (pKt (pKo ak.c ak.pure u.2 (pKt (pKt (pKt (pKM au.K (gA ag.c) (fun _ => rfl) d.1 trivial)))))))))))).to)
   refine .skip (.pop (.ru G ?_))
   exact aE (s, o, IE (j + 1)) hr ((Wk.gc [7, 8, 10, 11, 12, 37, 38, 39] [(0, true), (1, false), (2, false), (3, true), (4, false), (5, true), (6, false), (7, true), (8, true), (9, true), (10, false)] rfl (pKt (pKM au.K bA (fun _ => rfl) d.2 (pKo ag.c ag.pure a (pKt (pKM au.K bA (fun _ => rfl) s (pKt (pKo ak.c ak.pure o (pKt (pKt (pKt (pKM au.K (gA ag.c) (fun _ => rfl) d.1 trivial)))))))))))).to)
  refine .leave rfl ?_
  obtain rfl := oi hr
  exact ⟨rfl, ((Wk.gc [8, 10, 11, 12] [(2, false), (3, true), (4, false), (5, true), (6, false), (7, true), (8, true), (9, true), (10, false)] rfl (pKo ag.c ag.pure a (pKt (pKM au.K bA (fun _ => rfl) s (pKt (pKo ak.c ak.pure o (pKt (pKt (pKt (pKM au.K (gA ag.c) (fun _ => rfl) d.1 trivial)))))))))).to)⟩
 rcases V with ⟨C, B⟩
 rintro x st' D
 clear H
 obtain ⟨rfl, D⟩ := D
 refine bb _ rfl (.wk D (.seq (.seq (.r4 G [10, 11, 12] [(51, .hs 0 0 a.length 2), (52, aj (a.length : Int)), (53, aj 0)] (.block ?_)))))
 replace hr := bd hr; obtain ⟨w, J, hr⟩ := hr
 refine .aP (σ := fun N => match N with | (q, p, k) => ⟨mkS 68 0 [(10, .hp 0 0), (11, .hp 2 0), (12, .fn 93 [] [.hp 0 0, .hp 4 0, .hp 5 0, .hp 6 0, .hp 2 0]), (51, .hs 8 0 a.length 2), (52, aj (a.length : Int)), (53, aj k)], [.own [.mp 1], .map (q.map (mpK au.K bA)), .own [.hs 3 0 p.length 2], .own (p.flatMap ak.c), .own (al.c g), .own [aj level], .own [.mp 7], .map (d.1.map (mpK au.K (gA ag.c))), .own (a.flatMap ag.c)]⟩) (Q := fun x st' => x = .exit 4 /\ Wk 0 st' ⟨mkS 68 0 [(11, .hp 0 0)], [.own [.hs 1 0 w.length 2], .own (w.flatMap ak.c)]⟩) J ((Wk.gc [10, 11, 12, 51, 52, 53] [(1, true), (2, false), (3, true), (4, false), (5, true), (6, true), (7, true), (8, false), (0, false)] rfl (pKt (pKM au.K bA (fun _ => rfl) C (pKt (pKo ak.c ak.pure B (pKt (pKt (pKt (pKM au.K (gA ag.c) (fun _ => rfl) d.1 (pKo ag.c ag.pure a trivial)))))))))).to) ?_ ?_
 ·clear hr
  rintro m ⟨q, p, k⟩ hr
  refine CQ.sh ?_
  refine .seq (.r4 G [10, 11, 12, 51, 52, 53] [(54, aB (decide (k < (a.length : Int))))] (.seq ?_))
  refine .cd hr ?_ ?_ <;> intro qz hr
  ·refine .skip (.seq (.block (.seq ?_)))
   obtain ⟨L, hr⟩ := gd hr
   refine .r0 G (.p0 (v := .hp 8 (0 + k.toNat * 2)) (tr (aw L)) (.p0 (v := .agg (ag.c (gt a k))) (tr (y := bs.ofP (eA (decide (2 <= ((a.flatMap ag.c).drop (0 + k.toNat * 2)).length)) (.agg (((a.flatMap ag.c).drop (0 + k.toNat * 2)).take 2)))) (ch ag.len (aI L) (by decide) (by omega : 0 + k.toNat * 2 = k.toNat * 2 + 0) kRf)) (.mu 2 (.done (.nh [10, 11, 12, 16, 51, 52, 53] [.own [.mp 1], .map (q.map (mpK au.K bA)), .own [.hs 3 0 p.length 2], .own (p.flatMap ak.c), .own (al.c g), .own [aj level], .own [.mp 7], .map (d.1.map (mpK au.K (gA ag.c))), .own (a.flatMap ag.c), .own (ag.c (gt a k))] (.seq (.r0 G (.mu 2 (.p0 (v := aB (getM false q (gt a k))) (tr (y := bs.ofP (eN Tryz.prog [.own [.mp 1], .map (q.map (mpK au.K bA)), .own [.hs 3 0 p.length 2], .own (p.flatMap ak.c), .own (al.c g), .own [aj level], .own [.mp 7], .map (d.1.map (mpK au.K (gA ag.c))), .own (a.flatMap ag.c), .own (ag.c (gt a k))] 125 (.mp 1) (.agg (ag.c (gt a k))) false)) (Bc (kt := 101) (e := 4) (l := q) (f := bA) (z := false) (K := au.K) (x := (gt a k)) au.key kRf kRf kRf kRf kRf)) (.mu 1 (.done (.nh [10, 11, 12, 16, 51, 52, 53, 60] [.own [.mp 1], .map (q.map (mpK au.K bA)), .own [.hs 3 0 p.length 2], .own (p.flatMap ak.c), .own (al.c g), .own [aj level], .own [.mp 7], .map (d.1.map (mpK au.K (gA ag.c))), .own (a.flatMap ag.c), .own (ag.c (gt a k))] ?_))))))))))))
   refine .cd hr ?_ ?_ <;> intro p7 hr
   ·obtain ⟨A, X, hr⟩ := bd hr
    refine .g1 G (jb 5 (.own [aj level]) [(0, .own [.mp 10])] [(6, .own [.mp 11]), (2, .own [.hs 12 0 A.2.length 2]), (10, .map (A.1.map (mpK au.K bA))), (11, .map (d.1.map (mpK au.K (gA ag.c)))), (12, .own (A.2.flatMap ak.c)), (1, .dead), (7, .dead), (3, .dead)] (jb 4 (.own (al.c g)) [(0, .own [.mp 10])] [(5, .own [aj level]), (6, .own [.mp 11]), (2, .own [.hs 12 0 A.2.length 2]), (10, .map (A.1.map (mpK au.K bA))), (11, .map (d.1.map (mpK au.K (gA ag.c)))), (12, .own (A.2.flatMap ak.c)), (1, .dead), (7, .dead), (3, .dead)] (gg (args := [.agg (ag.c (gt a k)), aB true, .hp 0 0, .hp 4 0, .hp 5 0, .hp 6 0, .hp 2 0]) 5 3 [(0, true), (4, true), (5, true), (6, true), (2, true), (1, false), (7, false), (3, false)] [true, true, true, true, true, false, false, false] (lF n (gt a k) true q g.X0 g.Y0 g.Step g.Width g.Height g.Z level d.1 p A X) (by exact ⟨fO (fun _ => rfl) _, ⟨fO (fun _ => rfl) _, ⟨bm ak.pure _, trivial⟩⟩⟩) (by exact ⟨fO (fun _ => rfl) _, ⟨fO (fun _ => rfl) _, ⟨bm ak.pure _, trivial⟩⟩⟩) rfl rfl kRf kRf))) (.mu 2 (.ca cf0 (.done (.pop (.ru G ?_)))))
    exact aE (A.1, A.2, IE (k + 1)) hr ((Wk.gc [10, 11, 12, 51, 52, 53] [(0, true), (10, false), (2, true), (12, false), (4, true), (5, true), (6, true), (11, false), (8, false)] rfl (pKt (pKM au.K bA (fun _ => rfl) A.1 (pKt (pKo ak.c ak.pure A.2 (pKt (pKt (pKt (pKM au.K (gA ag.c) (fun _ => rfl) d.1 (pKo ag.c ag.pure a trivial)))))))))).to)
   refine .skip (.pop (.ru G ?_))
   exact aE (q, p, IE (k + 1)) hr ((Wk.gc [10, 11, 12, 51, 52, 53] [(0, true), (1, false), (2, true), (3, false), (4, true), (5, true), (6, true), (7, false), (8, false)] rfl (pKt (pKM au.K bA (fun _ => rfl) q (pKt (pKo ak.c ak.pure p (pKt (pKt (pKt (pKM au.K (gA ag.c) (fun _ => rfl) d.1 (pKo ag.c ag.pure a trivial)))))))))).to)
  refine .leave rfl ?_
  obtain rfl := oi hr
  exact ⟨rfl, ((Wk.gc [11] [(2, true), (3, false)] rfl (pKt (pKo ak.c ak.pure p trivial))).to)⟩
 rintro x st' E
 clear J
 obtain ⟨rfl, E⟩ := E
 refine bb _ rfl (.wk E (.seq ?_))
 obtain ⟨Y, lY, hr⟩ := bd hr
 obtain ⟨kV, hr⟩ := gd hr
 refine .g1 G (gg (args := [.hs 1 0 w.length 2, .fn 95 [] []]) 1 0 [(1, false)] [false] (cQ n w Y lY) (by exact ⟨bm ak.pure _, trivial⟩) (by exact ⟨bm ak.pure _, trivial⟩) rfl rfl kRf kRf) (.mu 1 (.ca cf0 (.done (.nh [11] [.own [.hs 1 0 w.length 2], .own (Y.flatMap ak.c)] (.seq (.r3 G 68 [(4, .hs 1 0 w.length 2)] (.ret ?_)))))))
 obtain rfl := oi hr
 exact aL.ret (vs := [.hs 1 0 w.length 2]) kRf (Sn.hse (dcT kV) rfl (.inl rfl) (SnC.pure (bm ak.pure _)) (fun h => cB h))

theorem oG (n : Nat) (a : Int) (r : Bool) (hr : lj n a = some r) : aN Tryz.prog 198 [aj a] (aB r) := by
 unfold lj at hr
 refine aN.bd G Tryz.func198 [.tmp 2] ?_
 unfold Tryz.f198
 simp only [gS]
 refine .seq (.r4 G [0] [] (.seq (.ru G (.ret ?_))))
 obtain rfl := oi hr
 exact aL.r1 [aB ((a : Int) != a)]

theorem sd (n : Nat) (a : Int) (y : Int) (r : Int) (hr : lT n a y = some r) : aN Tryz.prog 179 [aj a, aj y] (aj r) := by
 unfold lT at hr
 refine aN.bd G Tryz.func179 [.tmp 4] ?_
 unfold Tryz.f179
 simp only [gS]
 refine .seq (.r4 G [0, 1] [] (.seq ?_))
 obtain ⟨e, b, hr⟩ := bd hr
 refine .g1 G (ok0 (oG n a e b)) (.mu 1 (.ca cf0 (.mu 1 (.done (.nh [0, 1, 5] [] (.seq ?_))))))
 obtain ⟨c, d, hr⟩ := bd hr
 refine .g1 G (ok0 (oG n y c d)) (.mu 1 (.ca cf0 (.mu 1 (.done (.nh [0, 1, 5, 6] [] (.seq (.seq (.r4 G [0, 1, 6] [(11, aB e)] ?_))))))))
 refine .cd hr ?_ ?_ <;> intro f hr
 ·refine .seq (.seq (.r3 G 20 [(12, aB c)] ?_))
  refine .cd hr ?_ ?_ <;> intro g hr
  ·refine .seq (.ru G (.ret ?_))
   obtain rfl := oi hr
   exact aL.r1 [aj 0]
  refine .skip (.seq (.ru G (.ret ?_)))
  obtain rfl := oi hr
  exact aL.r1 [aj (-1)]
 refine .skip (.seq (.seq (.r4 G [0, 1] [(13, aB c)] ?_)))
 refine .cd hr ?_ ?_ <;> intro h hr
 ·refine .seq (.ru G (.ret ?_))
  obtain rfl := oi hr
  exact aL.r1 [aj 1]
 refine .skip (.seq (.seq (.r4 G [0, 1] [(16, aB (decide (a < y)))] ?_)))
 refine .cd hr ?_ ?_ <;> intro i hr
 ·refine .seq (.ru G (.ret ?_))
  obtain rfl := oi hr
  exact aL.r1 [aj (-1)]
 refine .skip (.seq (.seq (.r3 G 20 [(19, aB (decide (a > y)))] ?_)))
 refine .cd hr ?_ ?_ <;> intro j hr
 ·refine .seq (.ru G (.ret ?_))
  obtain rfl := oi hr
  exact aL.r1 [aj 1]
 refine .skip (.seq (.ru G (.ret ?_)))
 obtain rfl := oi hr
 exact aL.r1 [aj 0]

theorem nc (n : Nat) (b : ah) (y : ah) (r : Int) (hr : jE n b y = some r) : aN Tryz.prog 144 [.agg (ah.c b), .agg (ah.c y)] (aj r) := by
 unfold jE at hr
 refine aN.bd G Tryz.func144 [.tmp 4] ?_
 unfold Tryz.f144
 simp only [gS]
 refine .seq (.r2 G 28 [(2, .hp 0 0), (3, .hp 1 0)] [.own (ah.c b), .own (ah.c y)] (.seq (.seq ?_)))
 obtain ⟨k, e, l, f, hr⟩ := bd2 hr
 refine .tn G (ca1 (ok0 (fl n b k e)) (ca3 (ok0 (fl n y l f)))) (.mu 1 (.ca cf0 (.mu 1 (.ca (cfA (fun h => by rw [sv f e (uL n h)]) cf0) (.mu 2 ?_)))))
 refine .done (kRa ?_)
 refine .nh [2, 3, 5, 6] [.own (ah.c b), .own (ah.c y)] (.seq (.r4 G [2, 3, 5, 6] [(14, aB ((k : Int) != l))] ?_))
 refine .cd hr ?_ ?_ <;> intro s hr
 ·refine .seq ?_
  obtain ⟨o, m, hr⟩ := bd hr
  refine .g1 G (ok0 (sd n k l o m)) (.mu 2 (.ca cf0 (.mu 1 (.done (.ret ?_)))))
  obtain rfl := oi hr
  exact aL.r1 [aj o]
 refine .skip (.seq ?_)
 obtain ⟨p, g, i, d, a, j, hr⟩ := bd3 hr
 refine .tn G (ca1 (ok0 (bY n b p g)) (ca1 (ok0 (bY n y i d)) (ca3 (ok0 (jJ n p i a j))))) (.mu 1 (.ca cf0 (.mu 1 (.ca (cfA (fun h => by rw [sv d g (gl n h)]) cf0) (.ca (cfF (cfF cf0)) (.mu 1 ?_))))))
 refine .done (kRa ?_)
 refine .nh [2, 7] [.own (ah.c b), .own (ah.c y)] (.seq (.seq (.r4 G [7] [(24, aB b.Negative)] ?_)))
 refine .cd hr ?_ ?_ <;> intro q hr
 ·refine .seq (.r0 G (.mu 1 (.p0 (v := aj (IE (0 - a))) (tr (y := some (.pure (aj (IntKind.wrap .i64 (0 - a))))) xW) (.mu 1 (.done (.ret ?_))))))
  obtain rfl := oi hr
  exact aL.r1 [aj (IE (0 - a))]
 refine .skip (.seq (.ru G (.ret ?_)))
 obtain rfl := oi hr
 exact aL.r1 [aj a]

theorem nr (n : Nat) (a : ai) (r : Bool) (hr : jV n a = some r) : aN Tryz.prog 101 [.agg (ai.c a)] (aB r) := by
 unfold jV at hr
 refine aN.bd G Tryz.func101 [.tmp 2] ?_
 unfold Tryz.f101
 simp only [gS]
 refine .seq (.r2 G 27 [(1, .hp 0 0)] [.own (ai.c a)] (.seq (.seq ?_)))
 obtain ⟨o, d, hr⟩ := bd hr
 rcases bT (!o) with b | b
 ·replace hr := cI b hr
  refine .g1 G (ok0 (eM n a.Num o d)) (.mu 2 (.ca cf0 (.p0 (v := aB true) (eB b) (.mu 12 (.done (.nh [1, 18] [.own (ai.c a)] (.cT kRf (.seq (.ru G (.ret ?_))))))))))
  obtain rfl := oi hr
  exact aL.r1 [aB false]
 replace hr := cJ b hr
 obtain ⟨p, f, hr⟩ := bd hr
 rcases bT (!p) with e | e
 ·replace hr := cI e hr
  refine .gn G (ca1 (ok0 (eM n a.Num o d)) (ca3 (ok0 (eM n a.Den p f)))) (.mu 2 (.ca cf0 (.p0 (v := aB false) (eB b) (.mu 3 (.ca (cfA (fun h => by rw [sv f d (oh n h)]) cf0) (.pure (v := aB true) kRf (eB e) (.mu 7 (.done (.nh [1, 18] [.own (ai.c a)] (.cT kRf (.seq (.ru G (.ret ?_)))))))))))))
  obtain rfl := oi hr
  exact aL.r1 [aB false]
 replace hr := cJ e hr
 obtain ⟨s, q, hr⟩ := bd hr
 refine .gn G (ca1 (ok0 (eM n a.Num o d)) (ca1 (ok0 (eM n a.Den p f)) (ca3 (ok0 (fl n a.Den s q))))) (.mu 2 (.ca cf0 (.p0 (v := aB false) (eB b) (.mu 3 (.ca (cfA (fun h => by rw [sv f d (oh n h)]) cf0) (.pure (v := aB false) kRf (eB e) (.mu 4 (.ca (cfF (cfF cf0)) (.mu 2 (.done (.nh [1, 18] [.own (ai.c a)] ?_)))))))))))
 refine .cd hr ?_ ?_ <;> intro t hr
 ·refine .seq (.ru G (.ret ?_))
  obtain rfl := oi hr
  exact aL.r1 [aB false]
 refine .skip (.seq ?_)
 obtain ⟨g, i, j, k, l, m, hr⟩ := bd3 hr
 refine .gn G (ca1 (ok0 (mV n a.Num a.Den g i)) (ca1 (ok0 (iF n 1 j k)) (ca3 (ok0 (nc n g j l m))))) (.mu 4 (.ca cf0 (.ca (cfF cf0) (.ca (cfF (cfF cf0)) (.mu 2 (.done (.ret ?_)))))))
 obtain rfl := oi hr
 exact aL.r1 [aB ((l : Int) == 0)]

theorem rG (n : Nat) (f : ai) (r : ai) (hr : lV n f = some r) : aN Tryz.prog 159 [.agg (ai.c f)] (.agg (ai.c r)) := by
 unfold lV at hr
 refine aN.bd G Tryz.func159 [.cell 2 42] ?_
 unfold Tryz.f159
 simp only [gS]
 refine .seq (.r2 G 12 [(1, .hp 0 0), (2, .hp 1 0)] [.own (ai.c f), .own zN2] (.seq ?_))
 obtain ⟨j, a, g, b, k, d, hr⟩ := bd3 hr
 obtain ⟨i, e, hr⟩ := bd hr
 refine .tn G (ca1 (ok0 (fF n f.Num j a)) (ca1 (ok0 (fF n j g b)) (ca1 (ok0 (fF n f.Den k d)) (ca3 (ok0 (fF n k i e)))))) (.mu 2 (.ca cf0 (.ca (cfA (fun h => by rw [sv b a (fM n h)]) cf0) (.mu 2 (.ca (cfA (fun h => by rw [sv d a (fM n h)]) (cfA (fun h => by rw [sv d b (fM n h)]) cf0)) (.ca (cfA (fun h => by rw [sv e a (fM n h)]) (cfA (fun h => by rw [sv e b (fM n h)]) (cfA (fun h => by rw [sv e d (fM n h)]) cf0))) (.mu 2 ?_)))))))
 refine .done (kRa ?_)
 refine .nh [2] [.own (ai.c f), .own [aB g.Negative, aO g.Groups, aB i.Negative, aO i.Groups]] (.ret ?_)
 obtain rfl := oi hr
 exact aL.r1 [.agg [aB g.Negative, aO g.Groups, aB i.Negative, aO i.Groups]]

theorem ns (n : Nat) (f : Int) (r : ai) (hr : kr n f = some r) : aN Tryz.prog 61 [aj f] (.agg (ai.c r)) := by
 unfold kr at hr
 refine aN.bd G Tryz.func61 [.cell 2 42] ?_
 unfold Tryz.f61
 simp only [gS]
 refine .seq (.r5 G [0] [(2, .hp 0 0)] [.own zN2] (.seq ?_))
 obtain ⟨a, b, d, e, hr⟩ := bd2 hr
 refine .gn G (ca1 (ok0 (iF n f a b)) (ca3 (ok0 (iF n 1 d e)))) (.mu 1 (.ca cf0 (.ca (cfA (fun h => by rw [sv e b (rq n h)]) cf0) (.mu 2 (.done (.nh [2] [.own [aB a.Negative, aO a.Groups, aB d.Negative, aO d.Groups]] (.ret ?_)))))))
 obtain rfl := oi hr
 exact aL.r1 [.agg [aB a.Negative, aO a.Groups, aB d.Negative, aO d.Groups]]

theorem mU {b : ai} {a : ai} (h : ([.agg [.at (.bool b.Num.Negative), slT iCu b.Num.Groups, .at (.bool b.Den.Negative), slT iCu b.Den.Groups]] : List AV) = [.agg [.at (.bool a.Num.Negative), slT iCu a.Num.Groups, .at (.bool a.Den.Negative), slT iCu a.Den.Groups]]) : b = a := by
 obtain ⟨⟨_, _⟩, ⟨_, _⟩⟩ := b
 obtain ⟨⟨_, _⟩, ⟨_, _⟩⟩ := a
 simp only [List.cons.injEq, AV.agg.injEq, AV.at.injEq, Value.int.injEq, Value.bool.injEq, AV.fn.injEq, AV.pp.injEq, true_and, and_true, dR] at h
 simp_all
theorem iM (n : Nat) {b : ai} {a : ai} (h : ([.agg (ai.c b)] : List AV) = [.agg (ai.c a)]) : cq n b = cq n a := by
 obtain rfl := mU h
 rfl
theorem cE (n : Nat) (a : ai) (r : ai) (hr : cq n a = some r) : aN Tryz.prog 121 [.agg (ai.c a)] (.agg (ai.c r)) := by
 unfold cq at hr
 refine aN.bd G Tryz.func121 [.cell 2 42] ?_
 unfold Tryz.f121
 simp only [gS]
 refine .seq (.r2 G 8 [(1, .hp 0 0), (2, .hp 1 0)] [.own (ai.c a), .own zN2] (.seq (.seq ?_)))
 obtain ⟨h, b, hr⟩ := bd hr
 refine .g1 G (ok0 (nr n a h b)) (.mu 1 (.ca cf0 (.done (.nh [1, 2, 4] [.own (ai.c a), .own zN2] ?_))))
 refine .cd hr ?_ ?_ <;> intro i hr
 ·refine .seq ?_
  obtain ⟨d, e, hr⟩ := bd hr
  refine .g1 G (ok0 (rG n a d e)) (.mu 1 (.ca cf0 (.mu 1 (.done (.nh [2] [.own (ai.c a), .own (ai.c d)] (.ret ?_))))))
  obtain rfl := oi hr
  exact aL.r1 [.agg (ai.c d)]
 refine .skip (.seq ?_)
 obtain ⟨f, g, hr⟩ := bd hr
 refine .g1 G (ok0 (ns n 0 f g)) (.ca cf0 (.mu 1 (.done (.nh [2] [.own (ai.c a), .own (ai.c f)] (.ret ?_)))))
 obtain rfl := oi hr
 exact aL.r1 [.agg (ai.c f)]

theorem pS {b : ah} {y : ah} {a : ah} {c : ah} (h : ([.agg [.at (.bool b.Negative), slT iCu b.Groups], .agg [.at (.bool y.Negative), slT iCu y.Groups]] : List AV) = [.agg [.at (.bool a.Negative), slT iCu a.Groups], .agg [.at (.bool c.Negative), slT iCu c.Groups]]) : b = a /\ y = c := by
 obtain ⟨_, _⟩ := b
 obtain ⟨_, _⟩ := a
 obtain ⟨_, _⟩ := y
 obtain ⟨_, _⟩ := c
 simp only [List.cons.injEq, AV.agg.injEq, AV.at.injEq, Value.int.injEq, Value.bool.injEq, AV.fn.injEq, AV.pp.injEq, true_and, and_true, dR] at h
 simp_all
theorem gU (n : Nat) {b : ah} {y : ah} {a : ah} {d : ah} (h : ([.agg (ah.c b), .agg (ah.c y)] : List AV) = [.agg (ah.c a), .agg (ah.c d)]) : dP n b y = dP n a d := by
 obtain ⟨rfl, rfl⟩ := pS h
 rfl
theorem ef (n : Nat) (a : ah) (y : ah) (r : ah) (hr : dP n a y = some r) : aN Tryz.prog 123 [.agg (ah.c a), .agg (ah.c y)] (.agg (ah.c r)) := by
 unfold dP at hr
 refine aN.bd G Tryz.func123 [.cell 4 40] ?_
 unfold Tryz.f123
 simp only [gS]
 refine .seq (.r2 G 16 [(2, .hp 0 0), (3, .hp 1 0), (4, .hp 2 0)] [.own (ah.c a), .own (ah.c y), .own [aB false, nS]] (.seq ?_))
 obtain ⟨i, b, j, d, k, e, hr⟩ := bd3 hr
 obtain ⟨f, g, hr⟩ := bd hr
 refine .tn G (ca1 (ok0 (bY n a i b)) (ca1 (ok0 (bY n y j d)) (ca1 (ok0 (tX n i j k e)) (ca3 (ok0 (bP n (a.Negative != y.Negative) k f g)))))) (.mu 6 (.ca cf0 (.mu 1 (.ca (cfA (fun h => by rw [sv d b (gl n h)]) cf0) (.ca (cfF (cfF cf0)) (.ca (cfF (cfF (cfF cf0))) (.mu 1 ?_)))))))
 refine .done (kRa ?_)
 refine .nh [4] [.own (ah.c a), .own (ah.c y), .own (ah.c f)] (.ret ?_)
 obtain rfl := oi hr
 exact aL.r1 [.agg (ah.c f)]

theorem vF (n : Nat) (negative : Bool) (a : List Int) (other : Bool) (b : List Int) (r : ah) (hr : qy n negative a other b = some r) : aN Tryz.prog 163 [aB negative, aO a, aB other, aO b] (.agg (ah.c r)) := by
 unfold qy at hr
 refine aN.bd G Tryz.func163 [.cell 8 40] ?_
 unfold Tryz.f163
 simp only [gS]
 refine .seq (.r5 G [0, 1, 2, 3] [(8, .hp 0 0)] [.own [aB false, nS]] (.seq (.block (.seq (.r4 G [0, 1, 2, 3, 8] [(9, aB (negative == other))] ?_)))))
 refine .cd hr ?_ ?_ <;> intro s hr
 ·refine .seq ?_
  obtain ⟨p, k, l, m, hr⟩ := bd2 hr
  refine .gn G (ca1 (ok0 (pL n a b p k)) (ca3 (ok0 (bP n negative p l m)))) (.mu 3 (.ca cf0 (.ca (cfF cf0) (.mu 1 (.done (.nh [8] [.own (ah.c l)] (.ret ?_)))))))
  obtain rfl := oi hr
  exact aL.r1 [.agg (ah.c l)]
 refine .seq ?_
 obtain ⟨t, o, hr⟩ := bd hr
 refine .g1 G (ok0 (jJ n a b t o)) (.mu 2 (.ca cf0 (.mu 2 (.done (.nh [0, 1, 2, 3, 8, 18] [.own [aB false, nS]] ?_)))))
 refine .cd hr ?_ ?_ <;> intro u hr
 ·refine .seq ?_
  obtain ⟨q, f, d, g, hr⟩ := bd2 hr
  refine .gn G (ca1 (ok0 (kK n a b q f)) (ca3 (ok0 (bP n negative q d g)))) (.mu 3 (.ca cf0 (.ca (cfF cf0) (.mu 1 (.done (.nh [8] [.own (ah.c d)] (.ret ?_)))))))
  obtain rfl := oi hr
  exact aL.r1 [.agg (ah.c d)]
 refine .skip (.pop (.seq ?_))
 obtain ⟨h, i, e, j, hr⟩ := bd2 hr
 refine .gn G (ca1 (ok0 (kK n b a h i)) (ca3 (ok0 (bP n other h e j)))) (.mu 3 (.ca cf0 (.ca (cfF cf0) (.mu 1 (.done (.nh [8] [.own (ah.c e)] (.ret ?_)))))))
 obtain rfl := oi hr
 exact aL.r1 [.agg (ah.c e)]

theorem vA (n : Nat) (a : ah) (y : ah) (r : ah) (hr : qq n a y = some r) : aN Tryz.prog 124 [.agg (ah.c a), .agg (ah.c y)] (.agg (ah.c r)) := by
 unfold qq at hr
 refine aN.bd G Tryz.func124 [.cell 4 40] ?_
 unfold Tryz.f124
 simp only [gS]
 refine .seq (.r2 G 14 [(2, .hp 0 0), (3, .hp 1 0), (4, .hp 2 0)] [.own (ah.c a), .own (ah.c y), .own [aB false, nS]] (.seq ?_))
 obtain ⟨g, b, i, d, e, f, hr⟩ := bd3 hr
 refine .tn G (ca1 (ok0 (bY n a g b)) (ca1 (ok0 (bY n y i d)) (ca3 (ok0 (vF n a.Negative g y.Negative i e f))))) (.mu 3 (.ca cf0 (.mu 3 (.ca (cfA (fun h => by rw [sv d b (gl n h)]) cf0) (.ca (cfF (cfF cf0)) (.mu 1 ?_))))))
 refine .done (kRa ?_)
 refine .nh [4] [.own (ah.c a), .own (ah.c y), .own (ah.c e)] (.ret ?_)
 obtain rfl := oi hr
 exact aL.r1 [.agg (ah.c e)]

theorem pP (n : Nat) (o : ai) (y : ai) (r : ai) (hr : mr n o y = some r) : aN Tryz.prog 80 [.agg (ai.c o), .agg (ai.c y)] (.agg (ai.c r)) := by
 unfold mr at hr
 refine aN.bd G Tryz.func80 [.cell 4 42] ?_
 unfold Tryz.f80
 simp only [gS]
 refine .seq (.r2 G 26 [(2, .hp 0 0), (3, .hp 1 0), (4, .hp 2 0)] [.own (ai.c o), .own (ai.c y), .own zN2] (.seq ?_))
 obtain ⟨f, i, g, j, hr⟩ := bd2 hr
 refine .tn G (ca1 (ok0 (cE n o f i)) (ca3 (ok0 (cE n y g j)))) (.mu 1 (.ca cf0 (.mu 1 (.ca (cfA (fun h => by rw [sv j i (iM n h)]) cf0) (.mu 2 ?_)))))
 refine .done (kRa ?_)
 refine .nh [2, 3, 4] [.own (ai.c f), .own (ai.c g), .own zN2] (.seq ?_)
 obtain ⟨p, b, q, d, s, k, hr⟩ := bd3 hr
 obtain ⟨l, a, e, m, hr⟩ := bd2 hr
 refine .tn G (ca1 (ok0 (ef n f.Num g.Den p b)) (ca1 (ok0 (ef n g.Num f.Den q d)) (ca1 (ok0 (vA n p q s k)) (ca1 (ok0 (ef n f.Den g.Den l a)) (ca3 (ok0 (gE n s l e m))))))) (.mu 4 (.ca cf0 (.mu 4 (.ca (cfA (fun h => by rw [sv d b (gU n h)]) cf0) (.ca (cfF (cfF cf0)) (.mu 4 (.ca (cfA (fun h => by rw [sv a b (gU n h)]) (cfA (fun h => by rw [sv a d (gU n h)]) (cfF cf0))) (.ca (cfF (cfF (cfF (cfF cf0)))) (.mu 1 ?_)))))))))
 refine .done (kRa ?_)
 refine .nh [4] [.own (ai.c f), .own (ai.c g), .own (ai.c e)] (.ret ?_)
 obtain rfl := oi hr
 exact aL.r1 [.agg (ai.c e)]

theorem uS (n : Nat) (d : ai) (r : ai) (hr : pE n d = some r) : aN Tryz.prog 120 [.agg (ai.c d)] (.agg (ai.c r)) := by
 unfold pE at hr
 refine aN.bd G Tryz.func120 [.cell 2 42] ?_
 unfold Tryz.f120
 simp only [gS]
 refine .seq (.r2 G 11 [(1, .hp 0 0), (2, .hp 1 0)] [.own (ai.c d), .own zN2] (.seq ?_))
 obtain ⟨a, e, hr⟩ := bd hr
 refine .g1 G (ok0 (cE n d a e)) (.mu 1 (.ca cf0 (.mu 1 (.done (.nh [1, 2] [.own (ai.c a), .own zN2] (.seq ?_))))))
 obtain ⟨b, f, hr⟩ := bd hr
 refine .t1 G (ok0 (fF n a.Num b f)) (.mu 2 (.ca cf0 (.mu 4 ?_)))
 refine .done (kRa ?_)
 refine .nh [2] [.own (ai.c a), .own [aB b.Negative, aO b.Groups, aB a.Den.Negative, aO a.Den.Groups]] (.ret ?_)
 obtain rfl := oi hr
 exact aL.r1 [.agg [aB b.Negative, aO b.Groups, aB a.Den.Negative, aO a.Den.Groups]]

theorem uJ (n : Nat) (a : ai) (y : ai) (r : ai) (hr : oQ n a y = some r) : aN Tryz.prog 75 [.agg (ai.c a), .agg (ai.c y)] (.agg (ai.c r)) := by
 unfold oQ at hr
 refine aN.bd G Tryz.func75 [.cell 4 42] ?_
 unfold Tryz.f75
 simp only [gS]
 refine .seq (.r2 G 9 [(2, .hp 0 0), (3, .hp 1 0), (4, .hp 2 0)] [.own (ai.c a), .own (ai.c y), .own zN2] (.seq ?_))
 obtain ⟨f, b, d, e, hr⟩ := bd2 hr
 refine .tn G (ca1 (ok0 (uS n y f b)) (ca3 (ok0 (pP n a f d e)))) (.mu 2 (.ca cf0 (.ca (cfF cf0) (.mu 1 ?_))))
 refine .done (kRa ?_)
 refine .nh [4] [.own (ai.c a), .own (ai.c y), .own (ai.c d)] (.ret ?_)
 obtain rfl := oi hr
 exact aL.r1 [.agg (ai.c d)]

theorem uN (n : Nat) (j : ai) (y : ai) (r : ai) (hr : pz n j y = some r) : aN Tryz.prog 78 [.agg (ai.c j), .agg (ai.c y)] (.agg (ai.c r)) := by
 unfold pz at hr
 refine aN.bd G Tryz.func78 [.cell 4 42] ?_
 unfold Tryz.f78
 simp only [gS]
 refine .seq (.r2 G 20 [(2, .hp 0 0), (3, .hp 1 0), (4, .hp 2 0)] [.own (ai.c j), .own (ai.c y), .own zN2] (.seq ?_))
 obtain ⟨a, b, d, e, hr⟩ := bd2 hr
 refine .tn G (ca1 (ok0 (cE n j a b)) (ca3 (ok0 (cE n y d e)))) (.mu 1 (.ca cf0 (.mu 1 (.ca (cfA (fun h => by rw [sv e b (iM n h)]) cf0) (.mu 2 ?_)))))
 refine .done (kRa ?_)
 refine .nh [2, 3, 4] [.own (ai.c a), .own (ai.c d), .own zN2] (.seq ?_)
 obtain ⟨l, f, m, g, k, i, hr⟩ := bd3 hr
 refine .tn G (ca1 (ok0 (ef n a.Num d.Num l f)) (ca1 (ok0 (ef n a.Den d.Den m g)) (ca3 (ok0 (gE n l m k i))))) (.mu 4 (.ca cf0 (.mu 4 (.ca (cfA (fun h => by rw [sv g f (gU n h)]) cf0) (.ca (cfF (cfF cf0)) (.mu 1 ?_))))))
 refine .done (kRa ?_)
 refine .nh [4] [.own (ai.c a), .own (ai.c d), .own (ai.c k)] (.ret ?_)
 obtain rfl := oi hr
 exact aL.r1 [.agg (ai.c k)]

theorem rS (n : Nat) (l : ai) (y : ai) (r : ai × Int) (hr : lX n l y = some r) : aN Tryz.prog 119 [.agg (ai.c l), .agg (ai.c y)] (.tup [.agg (ai.c r.1), aj r.2]) := by
 unfold lX at hr
 refine aN.bd G Tryz.func119 [.cell 4 42, .tmp 5] ?_
 unfold Tryz.f119
 simp only [gS]
 refine .seq (.r2 G 26 [(2, .hp 0 0), (3, .hp 1 0), (4, .hp 2 0)] [.own (ai.c l), .own (ai.c y), .own zN2] (.seq ?_))
 obtain ⟨e, f, b, g, hr⟩ := bd2 hr
 refine .tn G (ca1 (ok0 (cE n l e f)) (ca3 (ok0 (cE n y b g)))) (.mu 1 (.ca cf0 (.mu 1 (.ca (cfA (fun h => by rw [sv g f (iM n h)]) cf0) (.mu 2 ?_)))))
 refine .done (kRa ?_)
 refine .nh [2, 3, 4] [.own (ai.c e), .own (ai.c b), .own zN2] (.seq (.seq ?_))
 obtain ⟨p, m, hr⟩ := bd hr
 refine .g1 G (ok0 (fl n b.Num p m)) (.mu 2 (.ca cf0 (.mu 1 (.done (.nh [2, 3, 4, 13] [.own (ai.c e), .own (ai.c b), .own zN2] ?_)))))
 refine .cd hr ?_ ?_ <;> intro q hr
 ·refine .seq (.r4 G [4] [(5, aj 14)] (.ret ?_))
  obtain rfl := oi hr
  exact aL.ret (vs := [.agg zN2, aj 14]) kRf (Sn.tup (SnL.cons (Sn.agg (Sp (SnL.cons Sn.fp (Sp (SnL.cons Sn.fp SnL.nil))))) (Sp SnL.nil)))
 refine .skip (.seq ?_)
 obtain ⟨o, i, j, a, d, k, hr⟩ := bd3 hr
 refine .tn G (ca1 (ok0 (ef n e.Num b.Den o i)) (ca1 (ok0 (ef n e.Den b.Num j a)) (ca3 (ok0 (gE n o j d k))))) (.mu 4 (.ca cf0 (.mu 4 (.ca (cfA (fun h => by rw [sv a i (gU n h)]) cf0) (.ca (cfF (cfF cf0)) (.mu 2 ?_))))))
 refine .done (kRa ?_)
 refine .nh [4, 5] [.own (ai.c e), .own (ai.c b), .own (ai.c d)] (.ret ?_)
 obtain rfl := oi hr
 exact aL.ret (vs := [.agg (ai.c d), aj 0]) kRf (Sn.tup (Sp (Sp SnL.nil)))

theorem rj (n : Nat) (g : ai) (y : ai) (r : Int) (hr : kF n g y = some r) : aN Tryz.prog 102 [.agg (ai.c g), .agg (ai.c y)] (aj r) := by
 unfold kF at hr
 refine aN.bd G Tryz.func102 [.tmp 4] ?_
 unfold Tryz.f102
 simp only [gS]
 refine .seq (.r2 G 20 [(2, .hp 0 0), (3, .hp 1 0)] [.own (ai.c g), .own (ai.c y)] (.seq ?_))
 obtain ⟨i, a, j, b, hr⟩ := bd2 hr
 refine .tn G (ca1 (ok0 (cE n g i a)) (ca3 (ok0 (cE n y j b)))) (.mu 1 (.ca cf0 (.mu 1 (.ca (cfA (fun h => by rw [sv b a (iM n h)]) cf0) (.mu 2 ?_)))))
 refine .done (kRa ?_)
 refine .nh [2, 3] [.own (ai.c i), .own (ai.c j)] (.seq ?_)
 obtain ⟨k, d, l, e, m, f, hr⟩ := bd3 hr
 refine .tn G (ca1 (ok0 (ef n i.Num j.Den k d)) (ca1 (ok0 (ef n j.Num i.Den l e)) (ca3 (ok0 (nc n k l m f))))) (.mu 4 (.ca cf0 (.mu 4 (.ca (cfA (fun h => by rw [sv e d (gU n h)]) cf0) (.ca (cfF (cfF cf0)) (.mu 1 ?_))))))
 refine .done (kRa ?_)
 refine .ret ?_
 obtain rfl := oi hr
 exact aL.r1 [aj m]

theorem tT (n : Nat) (a : ai) (r : Int) (hr : nH n a = some r) : aN Tryz.prog 107 [.agg (ai.c a)] (aj r) := by
 unfold nH at hr
 refine aN.bd G Tryz.func107 [.tmp 2] ?_
 unfold Tryz.f107
 simp only [gS]
 refine .seq (.r2 G 7 [(1, .hp 0 0)] [.own (ai.c a)] (.seq ?_))
 obtain ⟨e, b, f, d, hr⟩ := bd2 hr
 refine .gn G (ca1 (ok0 (cE n a e b)) (ca3 (ok0 (fl n e.Num f d)))) (.mu 1 (.ca cf0 (.mu 1 (.ca (cfF cf0) (.mu 1 (.done (.ret ?_)))))))
 obtain rfl := oi hr
 exact aL.r1 [aj f]

theorem aV (n : Nat) (negative : Bool) (l : List Int) (r : ah) (hr : aU n negative l = some r) : aN Tryz.prog 129 [aB negative, aO l] (.agg (ah.c r)) := by
 unfold aU at hr
 refine aN.bd G Tryz.func129 [.cell 4 40] ?_
 unfold Tryz.f129
 simp only [gS]
 refine .seq (.r5 G [0, 1] [(4, .hp 0 0)] [.own [aB false, nS]] (.seq (.r4 G [0, 1, 4] [(5, aj (l.length : Int))] (.seq (.block ?_)))))
 replace hr := bd hr; obtain ⟨a, i, hr⟩ := hr
 refine .aP (σ := fun u => match u with | b => ⟨mkS 31 0 [(0, aB negative), (1, aO l), (4, .hp 0 0), (5, aj b)], [.own [aB false, nS]]⟩) (Q := fun x st' => x = .exit 0 /\ Wk 0 st' ⟨mkS 31 0 [(0, aB negative), (1, aO l), (4, .hp 0 0), (5, aj a)], [.own [aB false, nS]]⟩) i ((Wk.gc [0, 1, 4, 5] [(0, true)] rfl trivial).to) ?_ ?_
 ·clear hr
  rintro m b hr
  refine CQ.sh ?_
  refine .seq (.seq ?_)
  rcases bT (decide (b > 0)) with f | f
  ·replace hr := cI f hr
   obtain ⟨o, hr⟩ := gd hr
   refine .r0 G (.mu 1 (.p0 (v := aB true) (eB f) (.mu 4 (.pure (v := .pp (l.flatMap iCu) ((IE (b - 1)).toNat * 1)) kRf (tr (aw o)) (.pure (v := bl (gt l (IE (b - 1)))) kRf (tr (aR (aS (aK .u32) (aI o) z1 (by omega : (IE (b - 1)).toNat * 1 = (IE (b - 1)).toNat * 1 + 0) kRf))) (.mu 2 (.done (.nh [0, 1, 4, 5, 17] [.own [aB false, nS]] ?_))))))))
   refine .cd hr ?_ ?_ <;> intro w hr
   ·refine .skip (.block (.ru G (.pop ?_)))
    exact aE (IE (b - 1)) hr ((Wk.gc [0, 1, 4, 5] [(0, true)] rfl trivial).to)
   refine .leave rfl ?_
   obtain rfl := oi hr
   exact ⟨rfl, ((Wk.gc [0, 1, 4, 5] [(0, true)] rfl trivial).to)⟩
  replace hr := cJ f hr
  refine .r0 G (.mu 1 (.p0 (v := aB false) (eB f) (.mu 8 (.done (.nh [0, 1, 4, 5, 17] [.own [aB false, nS]] (.cF kRf (.leave rfl ?_)))))))
  obtain rfl := oi hr
  exact ⟨rfl, ((Wk.gc [0, 1, 4, 5] [(0, true)] rfl trivial).to)⟩
 rintro x st' g
 clear i
 obtain ⟨rfl, g⟩ := g
 refine bb _ rfl (.wk g (.seq ?_))
 rcases bT negative with d | d
 ·replace hr := cI d hr
  obtain ⟨j, p, q, hr⟩ := gd3 hr
  refine .r0 G (.p0 (v := aB true) (eB d) (.mu 7 (.p0 (v := aO ((l.drop (0 : Int).toNat).take (a.toNat - (0 : Int).toNat))) (tr (y := slO (inS 0 a l.length) (0 : Int).toNat a.toNat (fun z1 e => .sl true (((l.flatMap iCu).drop (z1 * 1)).take ((e - z1) * 1)) (e - z1))) (BD j (xT (aK _) (tw j)))) (.e0 (v := .hs 2 0 ((l.drop (0 : Int).toNat).take (a.toNat - (0 : Int).toNat)).length 1) (ws := [(1, .dead), (2, .own (((l.drop (0 : Int).toNat).take (a.toNat - (0 : Int).toNat)).flatMap iCu))]) (tr (y := CF (decide (((((l.drop (0 : Int).toNat).take (a.toNat - (0 : Int).toNat)).flatMap iCu)).length = ((l.drop (0 : Int).toNat).take (a.toNat - (0 : Int).toNat)).length * 1)) (((l.drop (0 : Int).toNat).take (a.toNat - (0 : Int).toNat)).flatMap iCu) ((l.drop (0 : Int).toNat).take (a.toNat - (0 : Int).toNat)).length (fun z1 e => sb (decide (0 + 0 * 1 <= (([] : List Int).flatMap iCu).length) && decide ((0 + e) * 4 <= 140737488355328) && decide (0 + e <= 4611686018427387904)) (some (.eff (.hs 2 0 (0 + e) 1) [(1, .dead), (2, .own (((([] : List Int).flatMap iCu).drop 0).take (0 * 1) ++ z1))])))) (vN (oa (aK _)) rfl (dN (l := ([] : List Int)) (xs := (l.drop (0 : Int).toNat).take (a.toNat - (0 : Int).toNat)) (aK _) rfl rfl rfl p q))) (.mu 2 (.done (.nh [4] [.own [aB (decide (a > 0)), .hs 2 0 ((l.drop (0 : Int).toNat).take (a.toNat - (0 : Int).toNat)).length 1], .dead, .own (((l.drop (0 : Int).toNat).take (a.toNat - (0 : Int).toNat)).flatMap iCu)] (.ret ?_))))))))
  obtain rfl := oi hr
  exact aL.ret (vs := [.agg [aB (decide (a > 0)), .hs 2 0 ((l.drop (0 : Int).toNat).take (a.toNat - (0 : Int).toNat)).length 1]]) kRf (Sn.agg (Sp (SnL.cons (Sn.hs rfl (.inl rfl) (SnC.pure (bm (aC _) _)) (fun h => cB h)) SnL.nil)))
 replace hr := cJ d hr
 obtain ⟨k, s, t, hr⟩ := gd3 hr
 refine .r0 G (.p0 (v := aB false) (eB d) (.mu 7 (.p0 (v := aO ((l.drop (0 : Int).toNat).take (a.toNat - (0 : Int).toNat))) (tr (y := slO (inS 0 a l.length) (0 : Int).toNat a.toNat (fun z1 e => .sl true (((l.flatMap iCu).drop (z1 * 1)).take ((e - z1) * 1)) (e - z1))) (BD k (xT (aK _) (tw k)))) (.e0 (v := .hs 2 0 ((l.drop (0 : Int).toNat).take (a.toNat - (0 : Int).toNat)).length 1) (ws := [(1, .dead), (2, .own (((l.drop (0 : Int).toNat).take (a.toNat - (0 : Int).toNat)).flatMap iCu))]) (tr (y := CF (decide (((((l.drop (0 : Int).toNat).take (a.toNat - (0 : Int).toNat)).flatMap iCu)).length = ((l.drop (0 : Int).toNat).take (a.toNat - (0 : Int).toNat)).length * 1)) (((l.drop (0 : Int).toNat).take (a.toNat - (0 : Int).toNat)).flatMap iCu) ((l.drop (0 : Int).toNat).take (a.toNat - (0 : Int).toNat)).length (fun z1 e => sb (decide (0 + 0 * 1 <= (([] : List Int).flatMap iCu).length) && decide ((0 + e) * 4 <= 140737488355328) && decide (0 + e <= 4611686018427387904)) (some (.eff (.hs 2 0 (0 + e) 1) [(1, .dead), (2, .own (((([] : List Int).flatMap iCu).drop 0).take (0 * 1) ++ z1))])))) (vN (oa (aK _)) rfl (dN (l := ([] : List Int)) (xs := (l.drop (0 : Int).toNat).take (a.toNat - (0 : Int).toNat)) (aK _) rfl rfl rfl s t))) (.mu 2 (.done (.nh [4] [.own [aB false, .hs 2 0 ((l.drop (0 : Int).toNat).take (a.toNat - (0 : Int).toNat)).length 1], .dead, .own (((l.drop (0 : Int).toNat).take (a.toNat - (0 : Int).toNat)).flatMap iCu)] (.ret ?_))))))))
 obtain rfl := oi hr
 exact aL.ret (vs := [.agg [aB false, .hs 2 0 ((l.drop (0 : Int).toNat).take (a.toNat - (0 : Int).toNat)).length 1]]) kRf (Sn.agg (Sp (SnL.cons (Sn.hs rfl (.inl rfl) (SnC.pure (bm (aC _) _)) (fun h => cB h)) SnL.nil)))

theorem mc (n : Nat) (k : Int) (r : ah) (hr : fD n k = some r) : aN Tryz.prog 125 [aj k] (.agg (ah.c r)) := by
 unfold fD at hr
 refine aN.bd G Tryz.func125 [.cell 2 40] ?_
 unfold Tryz.f125
 simp only [gS]
 refine .seq (.r5 G [0] [(2, .hp 0 0)] [.own [aB false, nS]] (.seq (.r4 G [0, 2] [(3, cV (wFu k))] (.seq (.seq (.r4 G [0, 2, 3] [(8, aB (decide (k < 0)))] ?_))))))
 refine .cd hr ?_ ?_ <;> intro t hr
 ·refine .r0 G (.mu 2 (.p0 (v := aj (IE (0 - (IE (k + 1))))) (tr (y := some (.pure (aj (IntKind.wrap .i64 (0 - (IE (k + 1))))))) xW) (.mu 3 (.done (.nh [0, 2, 3] [.own [aB false, nS]] (.seq (.r5 G [0, 2, 3] [(4, .hs 1 0 0 1)] [.own [aB false, nS], .own []] (.seq (.block ?_)))))))))
  replace hr := bd hr; obtain ⟨g, o, hr⟩ := hr
  refine .aP (σ := fun D => match D with | (d, e) => ⟨mkS 29 0 [(0, aj k), (2, .hp 0 0), (3, cV d), (4, .hs 1 0 e.length 1)], [.own [aB false, nS], .own (e.flatMap iCu)]⟩) (Q := fun x st' => x = .exit 0 /\ Wk 0 st' ⟨mkS 29 0 [(0, aj k), (2, .hp 0 0), (4, .hs 1 0 g.length 1)], [.own [aB false, nS], .own (g.flatMap iCu)]⟩) o ((Wk.gc [0, 2, 3, 4] [(0, true), (1, false)] rfl (pKt (pKc trivial))).to) ?_ ?_
  ·clear hr
   rintro m ⟨d, e⟩ hr
   refine CQ.sh ?_
   refine .seq (.seq (.r4 G [0, 2, 3, 4] [(16, aB (decide (d > 0)))] ?_))
   refine .cd hr ?_ ?_ <;> intro F hr
   ·refine .skip (.block (.seq ?_))
    obtain ⟨u, w, hr⟩ := gd2 hr
    refine .r0 G (.mu 5 (.e0 (v := .hs 3 0 (e ++ [aa .u32 (d.tmod 1000000000)]).length 1) (ws := [(1, .dead), (3, .own ((e ++ [aa .u32 (d.tmod 1000000000)]).flatMap iCu))]) (tr (dN (new := [bl (aa .u32 (d.tmod 1000000000))]) (l := e) (xs := [aa .u32 (d.tmod 1000000000)]) (aK .u32) rfl rfl kRf u w)) (.mu 1 (.done (.nh [0, 2, 3, 4] [.own [aB false, nS], .dead, .own [bl (aa .u32 (d.tmod 1000000000))], .own ((e ++ [aa .u32 (d.tmod 1000000000)]).flatMap iCu)] (.ru G (.pop ?_)))))))
    exact aE (wFu (d.tdiv 1000000000), e ++ [aa .u32 (d.tmod 1000000000)]) hr ((Wk.gc [0, 2, 3, 4] [(0, true), (3, false)] rfl (pKt (pKo iCu (aC _) (e ++ [aa .u32 (d.tmod 1000000000)]) trivial))).to)
   refine .leave rfl ?_
   obtain rfl := oi hr
   exact ⟨rfl, ((Wk.gc [0, 2, 4] [(0, true), (1, false)] rfl (pKt (pKo iCu (aC _) e trivial))).to)⟩
  rintro x st' i
  clear o
  obtain ⟨rfl, i⟩ := i
  refine bb _ rfl (.wk i (.seq ?_))
  obtain ⟨q, z, hr⟩ := bd hr
  refine .g1 G (cY (args := [aB true, .hs 1 0 g.length 1]) (l := [1]) (Sp (SnL.cons (Sn.hs rfl (.inl rfl) (SnC.pure (bm (aC _) _)) (fun h => cB h)) SnL.nil)) (aV n true g q z)) (.mu 1 (.p0 (v := aB true) (eB t) (.mu 1 (.ca cf0 (.mu 1 (.done (.nh [2] [.own (ah.c q), .fix (g.flatMap iCu)] (.ret ?_))))))))
  obtain rfl := oi hr
  exact aL.r1 [.agg (ah.c q)]
 refine .skip (.seq (.r5 G [0, 2, 3] [(4, .hs 1 0 0 1)] [.own [aB false, nS], .own []] (.seq (.block ?_))))
 replace hr := bd hr; obtain ⟨f, p, hr⟩ := hr
 refine .aP (σ := fun D => match D with | (a, b) => ⟨mkS 29 0 [(0, aj k), (2, .hp 0 0), (3, cV a), (4, .hs 1 0 b.length 1)], [.own [aB false, nS], .own (b.flatMap iCu)]⟩) (Q := fun x st' => x = .exit 0 /\ Wk 0 st' ⟨mkS 29 0 [(0, aj k), (2, .hp 0 0), (4, .hs 1 0 f.length 1)], [.own [aB false, nS], .own (f.flatMap iCu)]⟩) p ((Wk.gc [0, 2, 3, 4] [(0, true), (1, false)] rfl (pKt (pKc trivial))).to) ?_ ?_
 ·clear hr
  rintro m ⟨a, b⟩ hr
  refine CQ.sh ?_
  refine .seq (.seq (.r4 G [0, 2, 3, 4] [(16, aB (decide (a > 0)))] ?_))
  refine .cd hr ?_ ?_ <;> intro E hr
  ·refine .skip (.block (.seq ?_))
   obtain ⟨A, B, hr⟩ := gd2 hr
   refine .r0 G (.mu 5 (.e0 (v := .hs 3 0 (b ++ [aa .u32 (a.tmod 1000000000)]).length 1) (ws := [(1, .dead), (3, .own ((b ++ [aa .u32 (a.tmod 1000000000)]).flatMap iCu))]) (tr (dN (new := [bl (aa .u32 (a.tmod 1000000000))]) (l := b) (xs := [aa .u32 (a.tmod 1000000000)]) (aK .u32) rfl rfl kRf A B)) (.mu 1 (.done (.nh [0, 2, 3, 4] [.own [aB false, nS], .dead, .own [bl (aa .u32 (a.tmod 1000000000))], .own ((b ++ [aa .u32 (a.tmod 1000000000)]).flatMap iCu)] (.ru G (.pop ?_)))))))
   exact aE (wFu (a.tdiv 1000000000), b ++ [aa .u32 (a.tmod 1000000000)]) hr ((Wk.gc [0, 2, 3, 4] [(0, true), (3, false)] rfl (pKt (pKo iCu (aC _) (b ++ [aa .u32 (a.tmod 1000000000)]) trivial))).to)
  refine .leave rfl ?_
  obtain rfl := oi hr
  exact ⟨rfl, ((Wk.gc [0, 2, 4] [(0, true), (1, false)] rfl (pKt (pKo iCu (aC _) b trivial))).to)⟩
 rintro x st' j
 clear p
 obtain ⟨rfl, j⟩ := j
 refine bb _ rfl (.wk j (.seq ?_))
 obtain ⟨s, C, hr⟩ := bd hr
 refine .g1 G (cY (args := [aB false, .hs 1 0 f.length 1]) (l := [1]) (Sp (SnL.cons (Sn.hs rfl (.inl rfl) (SnC.pure (bm (aC _) _)) (fun h => cB h)) SnL.nil)) (aV n false f s C)) (.mu 1 (.p0 (v := aB false) (eB t) (.mu 1 (.ca cf0 (.mu 1 (.done (.nh [2] [.own (ah.c s), .fix (f.flatMap iCu)] (.ret ?_))))))))
 obtain rfl := oi hr
 exact aL.r1 [.agg (ah.c s)]

theorem jY (n : Nat) {b : Int} {a : Int} (h : ([.at (.int .i64 b)] : List AV) = [.at (.int .i64 a)]) : bW n b = bW n a := by
 obtain rfl := gT h
 rfl
theorem dZ (n : Nat) (a : Int) (r : ah) (hr : bW n a = some r) : aN Tryz.prog 83 [aj a] (.agg (ah.c r)) := by
 unfold bW at hr
 refine aN.bd G Tryz.func83 [.cell 2 40] ?_
 unfold Tryz.f83
 simp only [gS]
 refine .seq (.r5 G [0] [(2, .hp 0 0)] [.own [aB false, nS]] (.seq ?_))
 obtain ⟨b, d, hr⟩ := bd hr
 refine .g1 G (ok0 (mc n a b d)) (.mu 1 (.ca cf0 (.mu 1 (.done (.nh [2] [.own (ah.c b)] (.ret ?_))))))
 obtain rfl := oi hr
 exact aL.r1 [.agg (ah.c b)]

theorem kd (n : Nat) {b : ah} {a : ah} (h : ([.agg (ah.c b)] : List AV) = [.agg (ah.c a)]) : cz n b = cz n a := by
 obtain rfl := ee h
 rfl
theorem dw (n : Nat) (b : ah) (r : Bool) (hr : cz n b = some r) : aN Tryz.prog 112 [.agg (ah.c b)] (aB r) := by
 unfold cz at hr
 refine aN.bd G Tryz.func112 [.tmp 2] ?_
 unfold Tryz.f112
 simp only [gS]
 refine .seq (.r2 G 31 [(1, .hp 0 0)] [.own (ah.c b)] (.seq (.r4 G [1] [(3, aj (b.Groups.length : Int))] (.seq (.seq (.r4 G [1, 3] [(4, aj 0)] (.block ?_)))))))
 replace hr := bd hr; obtain ⟨h, e, hr⟩ := hr
 refine .aP (σ := fun j => match j with | d => ⟨mkS 31 0 [(1, .hp 0 0), (3, aj (b.Groups.length : Int)), (4, aj d)], [.own (ah.c b)]⟩) (Q := fun x st' => match (generalizing := false) h with | .inl _ => x = .exit 0 /\ Wk 0 st' ⟨mkS 31 0 [(1, .hp 0 0), (3, aj (b.Groups.length : Int))], [.own (ah.c b)]⟩ | .inr (r0) => x = .ret /\ aL Tryz.prog [.tmp 2] (aB r0) .ret st') e ((Wk.gc [1, 3, 4] [(0, true)] rfl trivial).to) ?_ ?_
 ·clear hr
  rintro m d hr
  refine CQ.sh ?_
  refine .seq (.seq (.r4 G [1, 3, 4] [(10, aB (decide (d < (b.Groups.length : Int))))] ?_))
  refine .cd hr ?_ ?_ <;> intro k hr
  ·refine .skip (.seq (.block (.seq ?_)))
   obtain ⟨g, hr⟩ := gd hr
   refine .r0 G (.mu 3 (.p0 (v := .pp (b.Groups.flatMap iCu) (d.toNat * 1)) (tr (aw g)) (.p0 (v := bl (gt b.Groups d)) (tr (aR (aS (aK .u32) (aI g) z1 (by omega : d.toNat * 1 = d.toNat * 1 + 0) kRf))) (.mu 1 (.done (.nh [1, 3, 4, 18] [.own (ah.c b)] ?_))))))
   refine .cd hr ?_ ?_ <;> intro l hr
   ·refine .seq (.ru G (.ret ?_))
    obtain rfl := oi hr
    exact ⟨rfl, aL.ret (vs := [aB false]) kRf (Sn.pure rfl)⟩
   refine .skip (.pop (.ru G ?_))
   exact aE (IE (d + 1)) hr ((Wk.gc [1, 3, 4] [(0, true)] rfl trivial).to)
  refine .leave rfl ?_
  obtain rfl := oi hr
  exact ⟨rfl, ((Wk.gc [1, 3] [(0, true)] rfl trivial).to)⟩
 rcases h with ⟨⟩ | r0
 ·rintro x st' a
  clear e
  obtain ⟨rfl, a⟩ := a
  refine bb _ rfl (.wk a (.seq (.seq (.r4 G [1, 3] [(20, aB (((b.Groups.length : Int) : Int) == 0))] ?_))))
  refine .cd hr ?_ ?_ <;> intro i hr
  ·refine .seq (.ru G (.ret ?_))
   obtain rfl := oi hr
   exact aL.r1 [aB (!b.Negative)]
  refine .skip (.seq ?_)
  obtain ⟨f, hr⟩ := gd hr
  refine .r0 G (.mu 4 (.p0 (v := .pp (b.Groups.flatMap iCu) ((IE ((b.Groups.length : Int) - 1)).toNat * 1)) (tr (aw f)) (.p0 (v := bl (gt b.Groups (IE ((b.Groups.length : Int) - 1)))) (tr (aR (aS (aK .u32) (aI f) z1 (by omega : (IE ((b.Groups.length : Int) - 1)).toNat * 1 = (IE ((b.Groups.length : Int) - 1)).toNat * 1 + 0) kRf))) (.mu 2 (.done (.ret ?_))))))
  obtain rfl := oi hr
  exact aL.r1 [aB (((gt b.Groups (IE ((b.Groups.length : Int) - 1))) : Int) != 0)]
 rintro x st' a
 clear e
 obtain ⟨rfl, a⟩ := a
 obtain rfl := oi hr
 exact jm _ a

theorem fw (n : Nat) {b : ah} {a : ah} (h : ([.agg (ah.c b)] : List AV) = [.agg (ah.c a)]) : bc n b = bc n a := by
 obtain rfl := ee h
 rfl
theorem bL (n : Nat) (a : ah) (r : ah) (hr : bc n a = some r) : aN Tryz.prog 128 [.agg (ah.c a)] (.agg (ah.c r)) := by
 unfold bc at hr
 refine aN.bd G Tryz.func128 [.cell 2 40] ?_
 unfold Tryz.f128
 simp only [gS]
 refine .seq (.r2 G 14 [(1, .hp 0 0), (2, .hp 1 0)] [.own (ah.c a), .own [aB false, nS]] (.seq (.seq ?_)))
 obtain ⟨g, b, hr⟩ := bd hr
 refine .g1 G (ok0 (dw n a g b)) (.mu 1 (.ca cf0 (.mu 1 (.done (.nh [1, 2, 5] [.own (ah.c a), .own [aB false, nS]] ?_)))))
 refine .cd hr ?_ ?_ <;> intro i hr
 ·refine .seq (.r4 G [2] [] (.ret ?_))
  obtain rfl := oi hr
  exact aL.ret (vs := [.agg [aB false, nS]]) kRf (Sn.agg (Sp (SnL.cons Sn.fp SnL.nil)))
 refine .skip (.seq ?_)
 obtain ⟨d, e, hr⟩ := gd2 hr
 refine .dM G bz (.mu 5 (.ek (v := .hs 3 0 a.Groups.length 1) (ws := [(2, .dead), (3, .own (a.Groups.flatMap iCu))]) (tr (y := CF (decide (((a.Groups.flatMap iCu)).length = a.Groups.length * 1)) (a.Groups.flatMap iCu) a.Groups.length (fun z1 f => sb (decide (0 + 0 * 1 <= (([] : List Int).flatMap iCu).length) && decide ((0 + f) * 4 <= 140737488355328) && decide (0 + f <= 4611686018427387904)) (some (.eff (.hs 3 0 (0 + f) 1) [(2, .dead), (3, .own (((([] : List Int).flatMap iCu).drop 0).take (0 * 1) ++ z1))])))) (vN (oa (aK _)) rfl (dN (l := ([] : List Int)) (xs := a.Groups) (aK _) rfl rfl rfl d e))) (.mu 2 ?_)))
 refine .done (kRa ?_)
 refine .nh [2] [.own (ah.c a), .own [aB a.Negative, .hs 3 0 a.Groups.length 1], .dead, .own (a.Groups.flatMap iCu)] (.ret ?_)
 obtain rfl := oi hr
 exact aL.ret (vs := [.agg [aB a.Negative, .hs 3 0 a.Groups.length 1]]) kRf (Sn.agg (Sp (SnL.cons (Sn.hs rfl (.inl rfl) (SnC.pure (bm (aC _) _)) (fun h => cB h)) SnL.nil)))

theorem eF (n : Nat) (a : ah) (r : Int) (hr : cv n a = some r) : aN Tryz.prog 113 [.agg (ah.c a)] (aj r) := by
 unfold cv at hr
 refine aN.bd G Tryz.func113 [.tmp 2] ?_
 unfold Tryz.f113
 simp only [gS]
 refine .seq (.r2 G 11 [(1, .hp 0 0)] [.own (ah.c a)] (.seq ?_))
 obtain ⟨b, d, hr⟩ := bd hr
 refine .g1 G (ok0 (bL n a b d)) (.mu 1 (.ca cf0 (.mu 1 (.done (.nh [1] [.own (ah.c b)] (.seq (.seq (.r4 G [1] [(8, aB (((b.Groups.length : Int) : Int) == 0))] ?_))))))))
 refine .cd hr ?_ ?_ <;> intro e hr
 ·refine .seq (.ru G (.ret ?_))
  obtain rfl := oi hr
  exact aL.r1 [aj 0]
 refine .skip (.seq (.seq (.r3 G 11 [(10, aB b.Negative)] ?_)))
 refine .cd hr ?_ ?_ <;> intro f hr
 ·refine .seq (.ru G (.ret ?_))
  obtain rfl := oi hr
  exact aL.r1 [aj (-1)]
 refine .skip (.seq (.ru G (.ret ?_)))
 obtain rfl := oi hr
 exact aL.r1 [aj 1]

theorem ky (n : Nat) (a : List Int) (d : Int) (r : List Int × Int) (hr : ei n a d = some r) : aN Tryz.prog 186 [aO a, cV d] (.tup [aO r.1, cV r.2]) := by
 unfold ei at hr
 refine aN.bd G Tryz.func186 [.tmp 4, .tmp 5] ?_
 unfold Tryz.f186
 simp only [gS]
 refine .seq (.r4 G [0, 1] [] (.seq ?_))
 obtain ⟨A, B, C, hr⟩ := gd3 hr
 refine .r0 G (.mu 2 (.e0 (v := .hs 0 0 (List.replicate (a.length : Int).toNat ((0 : Int) : Int)).length 1) (ws := [(0, .own ((List.replicate (a.length : Int).toNat ((0 : Int) : Int)).flatMap iCu))]) (tr (lO (c := iCu) (z := (0 : Int)) (n := (a.length : Int)) (by_ := 4) rfl A B C)) (.mu 1 (.done (.nh [0, 1, 6] [.own ((List.replicate (a.length : Int).toNat ((0 : Int) : Int)).flatMap iCu)] (.seq (.r4 G [0, 1, 6] [(7, cV 0)] (.seq (.seq (.r4 G [0, 1, 6, 7] [(8, aj (IE ((a.length : Int) - 1)))] (.block ?_)))))))))))
 replace hr := bd hr; obtain ⟨t, p, hr⟩ := hr
 refine .aP (σ := fun E => match E with | (g, f, e) => ⟨mkS 42 0 [(0, aO a), (1, cV d), (6, .hs 0 0 g.length 1), (7, cV f), (8, aj e)], [.own (g.flatMap iCu)]⟩) (Q := fun x st' => match (generalizing := false) t with | (i, j) => x = .exit 0 /\ Wk 0 st' ⟨mkS 42 0 [(6, .hs 0 0 i.length 1), (7, cV j)], [.own (i.flatMap iCu)]⟩) p ((Wk.gc [0, 1, 6, 7, 8] [(0, false)] rfl (pKo iCu (aC _) (List.replicate (a.length : Int).toNat ((0 : Int) : Int)) trivial)).to) ?_ ?_
 ·clear hr
  rintro m ⟨g, f, e⟩ hr
  refine CQ.sh ?_
  refine .seq (.seq (.r4 G [0, 1, 6, 7, 8] [(17, aB (decide (e >= 0)))] ?_))
  refine .cd hr ?_ ?_ <;> intro D hr
  ·refine .skip (.seq (.block (.seq ?_)))
   obtain ⟨q, hr⟩ := gd hr
   refine .r0 G (.mu 4 (.p0 (v := .pp (a.flatMap iCu) (e.toNat * 1)) (tr (aw q)) (.p0 (v := bl (gt a e)) (tr (aR (aS (aK .u32) (aI q) z1 (by omega : e.toNat * 1 = e.toNat * 1 + 0) kRf))) (.mu 3 (.done (.nh [0, 1, 6, 8, 9] [.own (g.flatMap iCu)] (.seq ?_)))))))
   obtain ⟨s, k, hr⟩ := gd2 hr
   refine .r0 G (.mu 4 (.p0 (v := cV (wFu ((wFu ((wFu (f * 1000000000)) + (wFu (gt a e)))).tdiv d))) (rN (x := wFu ((wFu (f * 1000000000)) + (wFu (gt a e)))) (y := d) kRf kRf s) (.mu 1 (.p0 (v := .hp 0 (0 + e.toNat * 1)) (tr (aw k)) (.e0 (v := .unk) (ws := [(0, .own ((g.set e.toNat (aa .u32 (wFu ((wFu ((wFu (f * 1000000000)) + (wFu (gt a e)))).tdiv d)))).flatMap iCu))]) (tr (ju (jo (cU (n := 1) (aK .u32) (aI k) (lbT rfl) (by omega : 0 + e.toNat * 1 = e.toNat * 1 + 0))) (congrArg Blk.own (dH (xs := [bl (aa .u32 (wFu ((wFu ((wFu (f * 1000000000)) + (wFu (gt a e)))).tdiv d)))]) (aK .u32) (aI k) (lbT rfl) (by omega : 0 + e.toNat * 1 = e.toNat * 1 + 0) kRf)))) (.done (.nh [0, 1, 6, 8, 9] [.own ((g.set e.toNat (aa .u32 (wFu ((wFu ((wFu (f * 1000000000)) + (wFu (gt a e)))).tdiv d)))).flatMap iCu)] (.r0 G (.mu 2 (.p0 (v := cV ((wFu ((wFu (f * 1000000000)) + (wFu (gt a e)))).tmod d)) (qw (x := wFu ((wFu (f * 1000000000)) + (wFu (gt a e)))) (y := d) kRf kRf s) (.mu 1 (.done (.pop (.ru G ?_))))))))))))))
   exact aE (g.set e.toNat (aa .u32 (wFu ((wFu ((wFu (f * 1000000000)) + (wFu (gt a e)))).tdiv d))), (wFu ((wFu (f * 1000000000)) + (wFu (gt a e)))).tmod d, IE (e - 1)) hr ((Wk.iO 6 (b := 0) (es := 1) (len := g.length) (g.set e.toNat (aa .u32 (wFu ((wFu ((wFu (f * 1000000000)) + (wFu (gt a e)))).tdiv d)))).length kRf (Eq.symm (List.length_set.trans rfl))).trans ((Wk.gc [0, 1, 6, 7, 8] [(0, false)] rfl (pKo iCu (aC _) (g.set e.toNat (aa .u32 (wFu ((wFu ((wFu (f * 1000000000)) + (wFu (gt a e)))).tdiv d)))) trivial)).to))
  refine .leave rfl ?_
  obtain rfl := oi hr
  exact ⟨rfl, ((Wk.gc [6, 7] [(0, false)] rfl (pKo iCu (aC _) g trivial)).to)⟩
 rcases t with ⟨i, j⟩
 rintro x st' o
 clear p
 obtain ⟨rfl, o⟩ := o
 refine bb _ rfl (.wk o (.seq ?_))
 obtain ⟨u, w, hr⟩ := bd hr
 refine .g1 G (cY (args := [aB false, .hs 0 0 i.length 1]) (l := [0]) (Sp (SnL.cons (Sn.hs rfl (.inl rfl) (SnC.pure (bm (aC _) _)) (fun h => cB h)) SnL.nil)) (aV n false i u w)) (.mu 1 (.ca cf0 (.mu 4 (.done (.ret ?_)))))
 obtain rfl := oi hr
 exact aL.ret (vs := [aO u.Groups, cV j]) kRf (Sn.tup (Sp (Sp SnL.nil)))

theorem iK (n : Nat) (a : List Int) (b : List Int) (r : Int) (hr : cN n a b = some r) : aN Tryz.prog 155 [aO a, aO b] (aj r) := by
 unfold cN at hr
 refine aN.bd G Tryz.func155 [.tmp 4] ?_
 unfold Tryz.f155
 simp only [gS]
 refine .seq (.r4 G [0, 1] [] (.seq (.seq (.r4 G [0, 1] [(10, aB (((a.length : Int) : Int) != (b.length : Int)))] ?_))))
 refine .cd hr ?_ ?_ <;> intro l hr
 ·refine .seq (.seq (.r3 G 41 [(15, aB (decide ((a.length : Int) < (b.length : Int))))] ?_))
  refine .cd hr ?_ ?_ <;> intro o hr
  ·refine .seq (.ru G (.ret ?_))
   obtain rfl := oi hr
   exact aL.r1 [aj (-1)]
  refine .skip (.seq (.ru G (.ret ?_)))
  obtain rfl := oi hr
  exact aL.r1 [aj 1]
 refine .skip (.seq (.seq (.r4 G [0, 1] [(5, aj (IE ((a.length : Int) - 1)))] (.block ?_))))
 replace hr := bd hr; obtain ⟨h, g, hr⟩ := hr
 refine .aP (σ := fun p => match p with | c => ⟨mkS 41 0 [(0, aO a), (1, aO b), (5, aj c)], []⟩) (Q := fun x st' => match (generalizing := false) h with | .inl _ => x = .exit 0 /\ Wk 0 st' ⟨mkS 41 0 [], []⟩ | .inr (r0) => x = .ret /\ aL Tryz.prog [.tmp 4] (aj r0) .ret st') g ((Wk.gc [0, 1, 5] [] rfl pK0).to) ?_ ?_
 ·clear hr
  rintro m c hr
  refine CQ.sh ?_
  refine .seq (.seq (.r4 G [0, 1, 5] [(20, aB (decide (c >= 0)))] ?_))
  refine .cd hr ?_ ?_ <;> intro i hr
  ·refine .skip (.seq (.block (.seq (.seq ?_))))
   obtain ⟨e, f, hr⟩ := gd2 hr
   refine .dM G bz (.mu 2 (.pk (v := .pp (a.flatMap iCu) (c.toNat * 1)) (tr (aw e)) (.pk (v := bl (gt a c)) (tr (aR (aS (aK .u32) (aI e) z1 (by omega : c.toNat * 1 = c.toNat * 1 + 0) kRf))) (.mu 2 (.pk (v := .pp (b.flatMap iCu) (c.toNat * 1)) (tr (aw f)) (.pk (v := bl (gt b c)) (tr (aR (aS (aK .u32) (aI f) z1 (by omega : c.toNat * 1 = c.toNat * 1 + 0) kRf))) (.mu 1 ?_)))))))
   refine .done (kRa ?_)
   refine .nh [0, 1, 5, 31] [] ?_
   refine .cd hr ?_ ?_ <;> intro j hr
   ·refine .seq (.ru G (.ret ?_))
    obtain rfl := oi hr
    exact ⟨rfl, aL.ret (vs := [aj (-1)]) kRf (Sn.pure rfl)⟩
   refine .skip (.seq (.dM G bz (.mu 2 (.pk (v := .pp (a.flatMap iCu) (c.toNat * 1)) (tr (aw e)) (.pk (v := bl (gt a c)) (tr (aR (aS (aK .u32) (aI e) z1 (by omega : c.toNat * 1 = c.toNat * 1 + 0) kRf))) (.mu 2 (.pk (v := .pp (b.flatMap iCu) (c.toNat * 1)) (tr (aw f)) (.pk (v := bl (gt b c)) (tr (aR (aS (aK .u32) (aI f) z1 (by omega : c.toNat * 1 = c.toNat * 1 + 0) kRf))) (.mu 1 ?_)))))))))
   refine .done (kRa ?_)
   refine .nh [0, 1, 5, 40] [] ?_
   refine .cd hr ?_ ?_ <;> intro k hr
   ·refine .seq (.ru G (.ret ?_))
    obtain rfl := oi hr
    exact ⟨rfl, aL.ret (vs := [aj 1]) kRf (Sn.pure rfl)⟩
   refine .skip (.pop (.ru G ?_))
   exact aE (IE (c - 1)) hr ((Wk.gc [0, 1, 5] [] rfl pK0).to)
  refine .leave rfl ?_
  obtain rfl := oi hr
  exact ⟨rfl, ((Wk.gc [] [] rfl pK0).to)⟩
 rcases h with ⟨⟩ | r0
 ·rintro x st' d
  clear g
  obtain ⟨rfl, d⟩ := d
  refine bb _ rfl (.wk d (.seq (.ru G (.ret ?_))))
  obtain rfl := oi hr
  exact aL.r1 [aj 0]
 rintro x st' d
 clear g
 obtain ⟨rfl, d⟩ := d
 obtain rfl := oi hr
 exact jm _ d

theorem nG {a : List Int} {d : Int} {b : List Int} {c : Int} (h : ([slT iCu a, .at (.int .u64 d)] : List AV) = [slT iCu b, .at (.int .u64 c)]) : a = b /\ d = c := by
 simp only [List.cons.injEq, AV.agg.injEq, AV.at.injEq, Value.int.injEq, Value.bool.injEq, AV.fn.injEq, AV.pp.injEq, true_and, and_true, dR] at h
 simp_all
theorem oM (n : Nat) {a : List Int} {d : Int} {b : List Int} {c : Int} (h : ([slT iCu a, .at (.int .u64 d)] : List AV) = [slT iCu b, .at (.int .u64 c)]) : bX n a d = bX n b c := by
 obtain ⟨rfl, rfl⟩ := nG h
 rfl
theorem gK (n : Nat) (a : List Int) (d : Int) (r : List Int) (hr : bX n a d = some r) : aN Tryz.prog 187 [aO a, cV d] (aO r) := by
 unfold bX at hr
 refine aN.bd G Tryz.func187 [.tmp 4] ?_
 unfold Tryz.f187
 simp only [gS]
 refine .seq (.r4 G [0, 1] [] (.seq (.r5 G [0, 1] [(5, .hs 0 0 0 1)] [.own []] (.seq (.r4 G [0, 1, 5] [(6, cV 0)] (.seq (.seq (.r4 G [0, 1, 5, 6] [(7, aj 0)] (.block ?_)))))))))
 replace hr := bd hr; obtain ⟨o, j, hr⟩ := hr
 refine .aP (σ := fun z => match z with | (c, e, b) => ⟨mkS 40 0 [(0, aO a), (1, cV d), (5, .hs 0 0 c.length 1), (6, cV e), (7, aj b)], [.own (c.flatMap iCu)]⟩) (Q := fun x st' => match (generalizing := false) o with | (g, f) => x = .exit 0 /\ Wk 0 st' ⟨mkS 40 0 [(5, .hs 0 0 g.length 1), (6, cV f)], [.own (g.flatMap iCu)]⟩) j ((Wk.gc [0, 1, 5, 6, 7] [(0, false)] rfl (pKc trivial)).to) ?_ ?_
 ·clear hr
  rintro m ⟨c, e, b⟩ hr
  refine CQ.sh ?_
  refine .seq (.seq (.r4 G [0, 1, 5, 6, 7] [(13, aB (decide (b < (a.length : Int))))] ?_))
  refine .cd hr ?_ ?_ <;> intro y hr
  ·refine .skip (.seq (.block (.seq ?_)))
   obtain ⟨k, hr⟩ := gd hr
   refine .r0 G (.mu 2 (.p0 (v := .pp (a.flatMap iCu) (b.toNat * 1)) (tr (aw k)) (.p0 (v := bl (gt a b)) (tr (aR (aS (aK .u32) (aI k) z1 (by omega : b.toNat * 1 = b.toNat * 1 + 0) kRf))) (.mu 6 (.done (.nh [0, 1, 5, 7, 8] [.own (c.flatMap iCu)] (.seq ?_)))))))
   obtain ⟨p, q, hr⟩ := gd2 hr
   refine .r0 G (.mu 5 (.e0 (v := .hs 2 0 (c ++ [aa .u32 ((wFu ((wFu ((wFu (gt a b)) * d)) + e)).tmod 1000000000)]).length 1) (ws := [(0, .dead), (2, .own ((c ++ [aa .u32 ((wFu ((wFu ((wFu (gt a b)) * d)) + e)).tmod 1000000000)]).flatMap iCu))]) (tr (dN (new := [bl (aa .u32 ((wFu ((wFu ((wFu (gt a b)) * d)) + e)).tmod 1000000000))]) (l := c) (xs := [aa .u32 ((wFu ((wFu ((wFu (gt a b)) * d)) + e)).tmod 1000000000)]) (aK .u32) rfl rfl kRf p q)) (.mu 1 (.done (.nh [0, 1, 5, 7, 8] [.dead, .own [bl (aa .u32 ((wFu ((wFu ((wFu (gt a b)) * d)) + e)).tmod 1000000000))], .own ((c ++ [aa .u32 ((wFu ((wFu ((wFu (gt a b)) * d)) + e)).tmod 1000000000)]).flatMap iCu)] (.ru G (.pop (.ru G ?_))))))))
   exact aE (c ++ [aa .u32 ((wFu ((wFu ((wFu (gt a b)) * d)) + e)).tmod 1000000000)], wFu ((wFu ((wFu ((wFu (gt a b)) * d)) + e)).tdiv 1000000000), IE (b + 1)) hr ((Wk.gc [0, 1, 5, 6, 7] [(2, false)] rfl (pKo iCu (aC _) (c ++ [aa .u32 ((wFu ((wFu ((wFu (gt a b)) * d)) + e)).tmod 1000000000)]) trivial)).to)
  refine .leave rfl ?_
  obtain rfl := oi hr
  exact ⟨rfl, ((Wk.gc [5, 6] [(0, false)] rfl (pKo iCu (aC _) c trivial)).to)⟩
 rcases o with ⟨g, f⟩
 rintro x st' i
 clear j
 obtain ⟨rfl, i⟩ := i
 refine bb _ rfl (.wk i (.seq ?_))
 obtain ⟨s, t, hr⟩ := gd2 hr
 obtain ⟨u, w, hr⟩ := bd hr
 refine .gn G (ca4 [.dead, .own [bl (aa .u32 f)], .own ((g ++ [aa .u32 f]).flatMap iCu)] (cY (args := [aB false, .hs 2 0 (g ++ [aa .u32 f]).length 1]) (l := [2]) (Sp (SnL.cons (Sn.hs rfl (.inl rfl) (SnC.pure (bm (aC _) _)) (fun h => cB h)) SnL.nil)) (aV n false (g ++ [aa .u32 f]) u w))) (.mu 4 (.e0 (v := .hs 2 0 (g ++ [aa .u32 f]).length 1) (ws := [(0, .dead), (2, .own ((g ++ [aa .u32 f]).flatMap iCu))]) (tr (dN (new := [bl (aa .u32 f)]) (l := g) (xs := [aa .u32 f]) (aK .u32) rfl rfl kRf s t)) (.ca cf0 (.mu 2 (.done (.ret ?_))))))
 obtain rfl := oi hr
 exact aL.r1 [aO u.Groups]

theorem nZ (n : Nat) (a : List Int) (d : Int) (r : List Int) (hr : dD n a d = some r) : aN Tryz.prog 188 [aO a, bl d] (aO r) := by
 unfold dD at hr
 refine aN.bd G Tryz.func188 [.tmp 4] ?_
 unfold Tryz.f188
 simp only [gS]
 refine .seq (.r4 G [0, 1] [] (.seq ?_))
 obtain ⟨b, c, hr⟩ := gd2 hr
 obtain ⟨g, e, hr⟩ := bd hr
 refine .gn G (ca4 [.dead, .own (([d] ++ a).flatMap iCu)] (cY (args := [aB false, .hs 1 0 ([d] ++ a).length 1]) (l := [1]) (Sp (SnL.cons (Sn.hs rfl (.inl rfl) (SnC.pure (bm (aC _) _)) (fun h => cB h)) SnL.nil)) (aV n false ([d] ++ a) g e))) (.mu 3 (.e0 (v := .hs 1 0 ([d] ++ a).length 1) (ws := [(0, .dead), (1, .own (([d] ++ a).flatMap iCu))]) (tr (y := CF (decide (((a.flatMap iCu)).length = a.length * 1)) (a.flatMap iCu) a.length (fun z1 f => sb (decide (0 + 1 * 1 <= ([d].flatMap iCu).length) && decide ((1 + f) * 4 <= 140737488355328) && decide (1 + f <= 4611686018427387904)) (some (.eff (.hs 1 0 (1 + f) 1) [(0, .dead), (1, .own ((([d].flatMap iCu).drop 0).take (1 * 1) ++ z1))])))) (vN (oa (aK _)) rfl (dN (l := [d]) (xs := a) (aK _) rfl rfl rfl b c))) (.ca cf0 (.mu 2 (.done (.ret ?_))))))
 obtain rfl := oi hr
 exact aL.r1 [aO g.Groups]

theorem eh (n : Nat) {l : List Int} {i : Int} {a : List Int} {b : Int} (h : ([slT iCu l, .at (.int .i64 i)] : List AV) = [slT iCu a, .at (.int .i64 b)]) : aX n l i = aX n a b := by
 obtain ⟨rfl, rfl⟩ := qH h
 rfl
theorem bK (n : Nat) (l : List Int) (i : Int) (r : Int) (hr : aX n l i = some r) : aN Tryz.prog 189 [aO l, aj i] (cV r) := by
 unfold aX at hr
 refine aN.bd G Tryz.func189 [.tmp 4] ?_
 unfold Tryz.f189
 simp only [gS]
 refine .seq (.r4 G [0, 1] [] (.seq (.seq (.r4 G [0, 1] [(8, aB (decide (i < (l.length : Int))))] ?_))))
 refine .cd hr ?_ ?_ <;> intro b hr
 ·refine .seq ?_
  obtain ⟨a, hr⟩ := gd hr
  refine .r0 G (.mu 2 (.p0 (v := .pp (l.flatMap iCu) (i.toNat * 1)) (tr (aw a)) (.p0 (v := bl (gt l i)) (tr (aR (aS (aK .u32) (aI a) z1 (by omega : i.toNat * 1 = i.toNat * 1 + 0) kRf))) (.mu 2 (.done (.ret ?_))))))
  obtain rfl := oi hr
  exact aL.r1 [cV (wFu (gt l i))]
 refine .skip (.seq (.ru G (.ret ?_)))
 obtain rfl := oi hr
 exact aL.r1 [cV 0]

theorem fr (n : Nat) (a : List Int) (b : List Int) (r : List Int) (hr : bV n a b = some r) : aN Tryz.prog 156 [aO a, aO b] (aO r) := by
 unfold bV at hr
 refine aN.bd G Tryz.func156 [.tmp 4] ?_
 unfold Tryz.f156
 simp only [gS]
 refine .seq (.r4 G [0, 1] [] (.seq (.r5 G [0, 1] [(5, .hs 0 0 0 1)] [.own []] (.seq (.r4 G [0, 1, 5] [(6, cV 0)] (.seq (.seq (.r4 G [0, 1, 5, 6] [(7, aj 0)] (.block ?_)))))))))
 replace hr := bd hr; obtain ⟨g, k, hr⟩ := hr
 refine .aP (σ := fun y => match y with | (c, d, i) => ⟨mkS 38 0 [(0, aO a), (1, aO b), (5, .hs 0 0 c.length 1), (6, cV d), (7, aj i)], [.own (c.flatMap iCu)]⟩) (Q := fun x st' => x = .exit 0 /\ Wk 0 st' ⟨mkS 38 0 [(5, .hs 0 0 g.length 1)], [.own (g.flatMap iCu)]⟩) k ((Wk.gc [0, 1, 5, 6, 7] [(0, false)] rfl (pKc trivial)).to) ?_ ?_
 ·clear hr
  rintro m ⟨c, d, i⟩ hr
  refine CQ.sh ?_
  refine .seq (.seq (.r4 G [0, 1, 5, 6, 7] [(13, aB (decide (i < (a.length : Int))))] ?_))
  refine .cd hr ?_ ?_ <;> intro w hr
  ·refine .skip (.seq (.block (.seq ?_)))
   obtain ⟨e, o, f, p, hr⟩ := bd2 hr
   refine .gn G (ca1 (ok0 (bK n a i e o)) (ca3 (ok0 (bK n b i f p)))) (.mu 2 (.ca cf0 (.mu 3 (.ca (cfA (fun h => by rw [sv p o (eh n h)]) cf0) (.mu 4 (.done (.nh [0, 1, 5, 7, 8] [.own (c.flatMap iCu)] (.seq ?_))))))))
   obtain ⟨q, s, hr⟩ := gd2 hr
   refine .r0 G (.mu 5 (.e0 (v := .hs 2 0 (c ++ [aa .u32 ((wFu ((wFu ((wFu (1000000000 + e)) - f)) - d)).tmod 1000000000)]).length 1) (ws := [(0, .dead), (2, .own ((c ++ [aa .u32 ((wFu ((wFu ((wFu (1000000000 + e)) - f)) - d)).tmod 1000000000)]).flatMap iCu))]) (tr (dN (new := [bl (aa .u32 ((wFu ((wFu ((wFu (1000000000 + e)) - f)) - d)).tmod 1000000000))]) (l := c) (xs := [aa .u32 ((wFu ((wFu ((wFu (1000000000 + e)) - f)) - d)).tmod 1000000000)]) (aK .u32) rfl rfl kRf q s)) (.mu 1 (.done (.nh [0, 1, 5, 7, 8] [.dead, .own [bl (aa .u32 ((wFu ((wFu ((wFu (1000000000 + e)) - f)) - d)).tmod 1000000000))], .own ((c ++ [aa .u32 ((wFu ((wFu ((wFu (1000000000 + e)) - f)) - d)).tmod 1000000000)]).flatMap iCu)] (.ru G (.pop (.ru G ?_))))))))
   exact aE (c ++ [aa .u32 ((wFu ((wFu ((wFu (1000000000 + e)) - f)) - d)).tmod 1000000000)], wFu (1 - (wFu ((wFu ((wFu ((wFu (1000000000 + e)) - f)) - d)).tdiv 1000000000))), IE (i + 1)) hr ((Wk.gc [0, 1, 5, 6, 7] [(2, false)] rfl (pKo iCu (aC _) (c ++ [aa .u32 ((wFu ((wFu ((wFu (1000000000 + e)) - f)) - d)).tmod 1000000000)]) trivial)).to)
  refine .leave rfl ?_
  obtain rfl := oi hr
  exact ⟨rfl, ((Wk.gc [5] [(0, false)] rfl (pKo iCu (aC _) c trivial)).to)⟩
 rintro x st' j
 clear k
 obtain ⟨rfl, j⟩ := j
 refine bb _ rfl (.wk j (.seq ?_))
 obtain ⟨t, u, hr⟩ := bd hr
 refine .g1 G (cY (args := [aB false, .hs 0 0 g.length 1]) (l := [0]) (Sp (SnL.cons (Sn.hs rfl (.inl rfl) (SnC.pure (bm (aC _) _)) (fun h => cB h)) SnL.nil)) (aV n false g t u)) (.mu 1 (.ca cf0 (.mu 2 (.done (.ret ?_)))))
 obtain rfl := oi hr
 exact aL.r1 [aO t.Groups]

theorem ib (n : Nat) (a : List Int) (b : List Int) (r : List Int × List Int) (hr : cW n a b = some r) : aN Tryz.prog 152 [aO a, aO b] (.tup [aO r.1, aO r.2]) := by
 unfold cW at hr
 refine aN.bd G Tryz.func152 [.tmp 4, .tmp 5] ?_
 unfold Tryz.f152
 simp only [gS]
 refine .seq (.r4 G [0, 1] [] (.seq (.r4 G [0, 1] [(6, aj (b.length : Int))] (.seq (.seq (.r4 G [0, 1, 6] [(19, aB (((b.length : Int) : Int) == 1))] ?_))))))
 refine .cd hr ?_ ?_ <;> intro wj hr
 ·refine .seq ?_
  obtain ⟨S, hr⟩ := gd hr
  obtain ⟨v3, pQ, hr⟩ := bd hr
  refine .g1 G (ok0 (ky n a (wFu (gt b 0)) v3 pQ)) (.mu 2 (.p0 (v := .pp (b.flatMap iCu) ((0 : Int).toNat * 1)) (tr (aw S)) (.p0 (v := bl (gt b 0)) (tr (aR (aS (aK .u32) (aI S) z1 (by omega : (0 : Int).toNat * 1 = (0 : Int).toNat * 1 + 0) kRf))) (.mu 1 (.ca cf0 (.mu 5 (.done (.nh [7, 8] [] (.seq ?_)))))))))
  obtain ⟨v5, pJ, hr⟩ := bd hr
  refine .gn G (ca4 [.own [bl (aa .u32 v3.2)]] (cY (args := [aB false, .hs 0 0 1 1]) (l := [0]) (Sp (SnL.cons (Sn.hs rfl (.inl rfl) (SnC.cons (Sn.pure rfl) SnC.nil) (fun h => nomatch h)) SnL.nil)) (aV n false [(aa .u32 v3.2)] v5 pJ))) (.mu 4 (.ca cf0 (.mu 3 (.done (.ret ?_)))))
  obtain rfl := oi hr
  exact aL.ret (vs := [aO v3.1, aO v5.Groups]) kRf (Sn.tup (Sp (Sp SnL.nil)))
 refine .skip (.seq (.seq ?_))
 obtain ⟨v7, qD, hr⟩ := bd hr
 refine .g1 G (ok0 (iK n a b v7 qD)) (.mu 2 (.ca cf0 (.mu 1 (.done (.nh [0, 1, 6, 38] [] ?_)))))
 refine .cd hr ?_ ?_ <;> intro vZ hr
 ·refine .seq (.r5 G [] [(4, .hs 0 0 0 1), (5, aO a)] [.own []] (.ret ?_))
  obtain rfl := oi hr
  exact aL.ret (vs := [.hs 0 0 0 1, aO a]) kRf (Sn.tup (SnL.cons (Sn.hs rfl (.inl rfl) SnC.nil (fun _ => rfl)) (Sp SnL.nil)))
 refine .skip (.seq ?_)
 obtain ⟨D, T, hr⟩ := gd2 hr
 refine .r0 G (.mu 3 (.p0 (v := .pp (b.flatMap iCu) ((IE ((b.length : Int) - 1)).toNat * 1)) (tr (aw D)) (.p0 (v := bl (gt b (IE ((b.length : Int) - 1)))) (tr (aR (aS (aK .u32) (aI D) z1 (by omega : (IE ((b.length : Int) - 1)).toNat * 1 = (IE ((b.length : Int) - 1)).toNat * 1 + 0) kRf))) (.mu 2 (.p0 (v := cV (wFu ((1000000000 : Int).tdiv (wFu ((wFu (gt b (IE ((b.length : Int) - 1)))) + 1))))) (rN (x := 1000000000) (y := wFu ((wFu (gt b (IE ((b.length : Int) - 1)))) + 1)) kRf kRf T) (.mu 1 (.done (.nh [0, 1, 6, 9] [] (.seq ?_)))))))))
 obtain ⟨f, E, g, F, hr⟩ := bd2 hr
 refine .gn G (ca1 (ok0 (gK n a (wFu ((1000000000 : Int).tdiv (wFu ((wFu (gt b (IE ((b.length : Int) - 1)))) + 1)))) f E)) (ca3 (ok0 (gK n b (wFu ((1000000000 : Int).tdiv (wFu ((wFu (gt b (IE ((b.length : Int) - 1)))) + 1)))) g F)))) (.mu 2 (.ca cf0 (.mu 2 (.ca (cfA (fun h => by rw [sv F E (oM n h)]) cf0) (.mu 2 (.done (.nh [0, 1, 6, 9] [] (.seq ?_))))))))
 obtain ⟨H, hr⟩ := gd hr
 obtain ⟨rr, U, hr⟩ := bd hr
 refine .g1 G (ok0 (aV n false ((f.drop (IE ((IE ((f.length : Int) - (b.length : Int))) + 1)).toNat).take ((f.length : Int).toNat - (IE ((IE ((f.length : Int) - (b.length : Int))) + 1)).toNat)) rr U)) (.mu 6 (.p0 (v := aO ((f.drop (IE ((IE ((f.length : Int) - (b.length : Int))) + 1)).toNat).take ((f.length : Int).toNat - (IE ((IE ((f.length : Int) - (b.length : Int))) + 1)).toNat))) (tr (y := slO (inS (IE ((IE ((f.length : Int) - (b.length : Int))) + 1)) (f.length : Int) f.length) (IE ((IE ((f.length : Int) - (b.length : Int))) + 1)).toNat (f.length : Int).toNat (fun z1 z2 => .sl true (((f.flatMap iCu).drop (z1 * 1)).take ((z2 - z1) * 1)) (z2 - z1))) (BD H (xT (aK _) (tw H)))) (.ca cf0 (.mu 2 (.done (.nh [0, 1, 6, 9, 10] [] (.seq ?_)))))))
 obtain ⟨V, W, X, hr⟩ := gd3 hr
 refine .r0 G (.mu 5 (.e0 (v := .hs 0 0 (List.replicate (IE ((IE ((f.length : Int) - (b.length : Int))) + 1)).toNat ((0 : Int) : Int)).length 1) (ws := [(0, .own ((List.replicate (IE ((IE ((f.length : Int) - (b.length : Int))) + 1)).toNat ((0 : Int) : Int)).flatMap iCu))]) (tr (lO (c := iCu) (z := (0 : Int)) (n := IE ((IE ((f.length : Int) - (b.length : Int))) + 1)) (by_ := 4) rfl V W X)) (.mu 1 (.done (.nh [0, 1, 6, 9, 10, 11] [.own ((List.replicate (IE ((IE ((f.length : Int) - (b.length : Int))) + 1)).toNat ((0 : Int) : Int)).flatMap iCu)] (.seq (.seq (.r4 G [0, 1, 6, 9, 10, 11] [(12, aj (IE ((f.length : Int) - (b.length : Int))))] (.block ?_)))))))))
 replace hr := bd hr; obtain ⟨Y, I, hr⟩ := hr
 refine .aP (σ := fun z0 => match z0 with | (o, d, e) => ⟨mkS 130 0 [(0, aO f), (1, aO g), (6, aj (b.length : Int)), (9, cV (wFu ((1000000000 : Int).tdiv (wFu ((wFu (gt b (IE ((b.length : Int) - 1)))) + 1))))), (10, aO o), (11, .hs 0 0 d.length 1), (12, aj e)], [.own (d.flatMap iCu)]⟩) (Q := fun x st' => match (generalizing := false) Y with | (p, j) => x = .exit 0 /\ Wk 0 st' ⟨mkS 130 0 [(9, cV (wFu ((1000000000 : Int).tdiv (wFu ((wFu (gt b (IE ((b.length : Int) - 1)))) + 1))))), (10, aO p), (11, .hs 0 0 j.length 1)], [.own (j.flatMap iCu)]⟩) I ((Wk.gc [0, 1, 6, 9, 10, 11, 12] [(0, false)] rfl (pKo iCu (aC _) (List.replicate (IE ((IE ((f.length : Int) - (b.length : Int))) + 1)).toNat ((0 : Int) : Int)) trivial)).to) ?_ ?_
 ·clear hr
  rintro m ⟨o, d, e⟩ hr
  refine CQ.sh ?_
  refine .seq (.seq (.r4 G [0, 1, 6, 9, 10, 11, 12] [(75, aB (decide (e >= 0)))] ?_))
  refine .cd hr ?_ ?_ <;> intro uD hr
  ·refine .skip (.seq (.block (.seq ?_)))
   obtain ⟨J, hr⟩ := gd hr
   obtain ⟨A, Z, hr⟩ := bd hr
   refine .g1 G (ok0 (nZ n o (gt f e) A Z)) (.mu 3 (.p0 (v := .pp (f.flatMap iCu) (e.toNat * 1)) (tr (aw J)) (.p0 (v := bl (gt f e)) (tr (aR (aS (aK .u32) (aI J) z1 (by omega : e.toNat * 1 = e.toNat * 1 + 0) kRf))) (.ca cf0 (.mu 1 (.done (.nh [0, 1, 6, 9, 10, 11, 12] [.own (d.flatMap iCu)] (.seq ?_))))))))
   obtain ⟨B, L, C, M, hr⟩ := bd2 hr
   obtain ⟨N, lY, hr⟩ := gd2 hr
   refine .tn G (ca1 (ok0 (bK n A (b.length : Int) B L)) (ca3 (ok0 (bK n A (IE ((b.length : Int) - 1)) C M)))) (.mu 2 (.ca cf0 (.mu 4 (.ca (cfA (fun h => by rw [sv M L (eh n h)]) cf0) (.mu 4 (.pk (v := .pp (g.flatMap iCu) ((IE ((b.length : Int) - 1)).toNat * 1)) (tr (aw N)) (.pk (v := bl (gt g (IE ((b.length : Int) - 1)))) (tr (aR (aS (aK .u32) (aI N) z1 (by omega : (IE ((b.length : Int) - 1)).toNat * 1 = (IE ((b.length : Int) - 1)).toNat * 1 + 0) kRf))) (.mu 2 (.pk (v := cV (wFu ((wFu ((wFu (B * 1000000000)) + C)).tdiv (wFu ((wFu (gt g (IE ((b.length : Int) - 1)))) + 1))))) (rN (x := wFu ((wFu (B * 1000000000)) + C)) (y := wFu ((wFu (gt g (IE ((b.length : Int) - 1)))) + 1)) kRf kRf lY) (.mu 1 ?_))))))))))
   refine .done (kRa ?_)
   refine .nh [0, 1, 6, 9, 10, 11, 12, 13] [.own (d.flatMap iCu)] (.seq ?_)
   obtain ⟨kV, mA, s9, nI, hr⟩ := bd2 hr
   refine .gn G (ca1 (ok0 (gK n g (wFu ((wFu ((wFu (B * 1000000000)) + C)).tdiv (wFu ((wFu (gt g (IE ((b.length : Int) - 1)))) + 1)))) kV mA)) (ca3 (ok0 (fr n A kV s9 nI)))) (.mu 3 (.ca cf0 (.ca (cfF cf0) (.mu 1 (.done (.nh [0, 1, 6, 9, 10, 11, 12, 13] [.own (d.flatMap iCu)] (.seq (.block ?_))))))))
   replace hr := bd hr; obtain ⟨pn, O, hr⟩ := hr
   refine .aP (σ := fun z0 => match z0 with | (k, q) => ⟨mkS 130 0 [(0, aO f), (1, aO g), (6, aj (b.length : Int)), (9, cV (wFu ((1000000000 : Int).tdiv (wFu ((wFu (gt b (IE ((b.length : Int) - 1)))) + 1))))), (10, aO k), (11, .hs 0 0 d.length 1), (12, aj e), (13, cV q)], [.own (d.flatMap iCu)]⟩) (Q := fun x st' => match (generalizing := false) pn with | (s, i) => x = .exit 2 /\ Wk 0 st' ⟨mkS 130 0 [(0, aO f), (1, aO g), (6, aj (b.length : Int)), (9, cV (wFu ((1000000000 : Int).tdiv (wFu ((wFu (gt b (IE ((b.length : Int) - 1)))) + 1))))), (10, aO s), (11, .hs 0 0 d.length 1), (12, aj e), (13, cV i)], [.own (d.flatMap iCu)]⟩) O ((Wk.gc [0, 1, 6, 9, 10, 11, 12, 13] [(0, false)] rfl (pKo iCu (aC _) d trivial)).to) ?_ ?_
   ·clear hr
    rintro m ⟨k, q⟩ hr
    refine CQ.sh ?_
    refine .seq (.seq ?_)
    obtain ⟨tf, qz, hr⟩ := bd hr
    refine .g1 G (ok0 (iK n k g tf qz)) (.mu 2 (.ca cf0 (.mu 1 (.done (.nh [0, 1, 6, 9, 10, 11, 12, 13, 109] [.own (d.flatMap iCu)] ?_)))))
    refine .cd hr ?_ ?_ <;> intro uG hr
    ·refine .skip (.block (.seq ?_))
     obtain ⟨p7, sa, hr⟩ := bd hr
     refine .g1 G (ok0 (fr n k g p7 sa)) (.mu 2 (.ca cf0 (.mu 1 (.done (.nh [0, 1, 6, 9, 10, 11, 12, 13] [.own (d.flatMap iCu)] (.ru G (.pop ?_)))))))
     exact aE (p7, wFu (q + 1)) hr ((Wk.gc [0, 1, 6, 9, 10, 11, 12, 13] [(0, false)] rfl (pKo iCu (aC _) d trivial)).to)
    refine .leave rfl ?_
    obtain rfl := oi hr
    exact ⟨rfl, ((Wk.gc [0, 1, 6, 9, 10, 11, 12, 13] [(0, false)] rfl (pKo iCu (aC _) d trivial)).to)⟩
   rcases pn with ⟨s, i⟩
   rintro x st' t
   clear O
   obtain ⟨rfl, t⟩ := t
   refine bb _ rfl (.wk t ?_)
   obtain ⟨u, hr⟩ := gd hr
   refine .r0 G (.mu 4 (.p0 (v := .hp 0 (0 + e.toNat * 1)) (tr (aw u)) (.e0 (v := .unk) (ws := [(0, .own ((d.set e.toNat (aa .u32 i)).flatMap iCu))]) (tr (ju (jo (cU (n := 1) (aK .u32) (aI u) (lbT rfl) (by omega : 0 + e.toNat * 1 = e.toNat * 1 + 0))) (congrArg Blk.own (dH (xs := [bl (aa .u32 i)]) (aK .u32) (aI u) (lbT rfl) (by omega : 0 + e.toNat * 1 = e.toNat * 1 + 0) kRf)))) (.done (.pop (.ru G ?_))))))
   exact aE (s, d.set e.toNat (aa .u32 i), IE (e - 1)) hr ((Wk.iO 11 (b := 0) (es := 1) (len := d.length) (d.set e.toNat (aa .u32 i)).length kRf (Eq.symm (List.length_set.trans rfl))).trans ((Wk.gc [0, 1, 6, 9, 10, 11, 12] [(0, false)] rfl (pKo iCu (aC _) (d.set e.toNat (aa .u32 i)) trivial)).to))
  refine .leave rfl ?_
  obtain rfl := oi hr
  exact ⟨rfl, ((Wk.gc [9, 10, 11] [(0, false)] rfl (pKo iCu (aC _) d trivial)).to)⟩
 rcases Y with ⟨p, j⟩
 rintro x st' w
 clear I
 obtain ⟨rfl, w⟩ := w
 refine bb _ rfl (.wk w (.seq ?_))
 obtain ⟨rf, tV, hr⟩ := bd hr
 refine .g1 G (ok0 (ky n p (wFu ((1000000000 : Int).tdiv (wFu ((wFu (gt b (IE ((b.length : Int) - 1)))) + 1)))) rf tV)) (.mu 2 (.ca cf0 (.mu 5 (.done (.nh [11, 14] [.own (j.flatMap iCu)] (.seq ?_))))))
 obtain ⟨ot, R, hr⟩ := bd hr
 refine .g1 G (cY (args := [aB false, .hs 0 0 j.length 1]) (l := [0]) (Sp (SnL.cons (Sn.hs rfl (.inl rfl) (SnC.pure (bm (aC _) _)) (fun h => cB h)) SnL.nil)) (aV n false j ot R)) (.mu 1 (.ca cf0 (.mu 4 (.done (.ret ?_)))))
 obtain rfl := oi hr
 exact aL.ret (vs := [aO ot.Groups, aO rf.1]) kRf (Sn.tup (Sp (Sp SnL.nil)))

theorem pC {a : List Int} {b : List Int} (h : ([slT iCu a] : List AV) = [slT iCu b]) : a = b := by
 simp only [List.cons.injEq, AV.agg.injEq, AV.at.injEq, Value.int.injEq, Value.bool.injEq, AV.fn.injEq, AV.pp.injEq, true_and, and_true, dR] at h
 simp_all
theorem pZ (n : Nat) {a : List Int} {b : List Int} (h : ([slT iCu a] : List AV) = [slT iCu b]) : dj n a = dj n b := by
 obtain rfl := pC h
 rfl
theorem kA (n : Nat) (a : List Int) (r : Int) (hr : dj n a = some r) : aN Tryz.prog 153 [aO a] (cV r) := by
 unfold dj at hr
 refine aN.bd G Tryz.func153 [.tmp 2] ?_
 unfold Tryz.f153
 simp only [gS]
 refine .seq (.r4 G [0] [] (.seq ?_))
 obtain ⟨d, b, e, c, hr⟩ := bd2 hr
 refine .gn G (ca1 (ok0 (bK n a 1 d b)) (ca3 (ok0 (bK n a 0 e c)))) (.mu 1 (.ca cf0 (.mu 2 (.ca (cfA (fun h => by rw [sv c b (eh n h)]) cf0) (.mu 2 (.done (.ret ?_)))))))
 obtain rfl := oi hr
 exact aL.r1 [cV (wFu ((wFu (d * 1000000000)) + e))]

theorem lN (n : Nat) (A : ah) (y : ah) (r : ah) (hr : eX n A y = some r) : aN Tryz.prog 115 [.agg (ah.c A), .agg (ah.c y)] (.agg (ah.c r)) := by
 unfold eX at hr
 refine aN.bd G Tryz.func115 [.cell 4 40] ?_
 unfold Tryz.f115
 simp only [gS]
 refine .seq (.r2 G 61 [(2, .hp 0 0), (3, .hp 1 0), (4, .hp 2 0)] [.own (ah.c A), .own (ah.c y), .own [aB false, nS]] (.seq ?_))
 obtain ⟨V, B, W, C, hr⟩ := bd2 hr
 refine .tn G (ca1 (ok0 (bL n A V B)) (ca3 (ok0 (bL n y W C)))) (.mu 1 (.ca cf0 (.mu 2 (.ca (cfA (fun h => by rw [sv C B (fw n h)]) cf0) (.mu 3 ?_)))))
 refine .done (kRa ?_)
 refine .nh [4, 5, 6] [.own (ah.c A), .own (ah.c y), .own [aB false, nS]] (.seq (.block ?_))
 replace hr := bd hr; obtain ⟨D, q, hr⟩ := hr
 refine .aP (σ := fun N => match N with | (k, g) => ⟨mkS 61 0 [(4, .hp 0 0), (5, aO k), (6, aO g)], [.own [aB false, nS]]⟩) (Q := fun x st' => match (generalizing := false) D with | (i, j) => x = .exit 0 /\ Wk 0 st' ⟨mkS 61 0 [(4, .hp 0 0), (5, aO i), (6, aO j)], [.own [aB false, nS]]⟩) q ((Wk.gc [4, 5, 6] [(2, true)] rfl trivial).to) ?_ ?_
 ·clear hr
  rintro m ⟨k, g⟩ hr
  refine CQ.sh ?_
  refine .seq (.seq ?_)
  rcases bT (decide ((g.length : Int) > 0)) with d | d
  ·replace hr := cI d hr
   rcases bT (decide ((k.length : Int) > 2)) with e | e
   ·replace hr := cI e hr
    refine .r0 G (.mu 2 (.p0 (v := aB true) (eB d) (.mu 3 (.pure (v := aB true) kRf (eB e) (.mu 6 (.done (.nh [4, 5, 6, 29] [.own [aB false, nS]] (.cT kRf (.skip (.block (.seq ?_)))))))))))
    obtain ⟨E, F, hr⟩ := bd hr
    refine .g1 G (ok0 (ib n k g E F)) (.mu 2 (.ca cf0 (.mu 5 (.done (.nh [4, 6, 8] [.own [aB false, nS]] (.ru G (.pop ?_)))))))
    exact aE (g, E.2) hr ((Wk.gc [4, 5, 6] [(0, true)] rfl trivial).to)
   replace hr := cJ e hr
   refine .r0 G (.mu 2 (.p0 (v := aB true) (eB d) (.mu 3 (.pure (v := aB false) kRf (eB e) (.mu 6 (.done (.nh [4, 5, 6, 29] [.own [aB false, nS]] ?_)))))))
   refine .cd hr ?_ ?_ <;> intro S hr
   ·refine .skip (.block (.seq ?_))
    obtain ⟨H, I, hr⟩ := bd hr
    refine .g1 G (ok0 (ib n k g H I)) (.mu 2 (.ca cf0 (.mu 5 (.done (.nh [4, 6, 8] [.own [aB false, nS]] (.ru G (.pop ?_)))))))
    exact aE (g, H.2) hr ((Wk.gc [4, 5, 6] [(0, true)] rfl trivial).to)
   refine .leave rfl ?_
   obtain rfl := oi hr
   exact ⟨rfl, ((Wk.gc [4, 5, 6] [(0, true)] rfl trivial).to)⟩
  replace hr := cJ d hr
  refine .r0 G (.mu 2 (.p0 (v := aB false) (eB d) (.mu 10 (.done (.nh [4, 5, 6, 29] [.own [aB false, nS]] (.cF kRf (.leave rfl ?_)))))))
  obtain rfl := oi hr
  exact ⟨rfl, ((Wk.gc [4, 5, 6] [(0, true)] rfl trivial).to)⟩
 rcases D with ⟨i, j⟩
 rintro x st' o
 clear q
 obtain ⟨rfl, o⟩ := o
 refine bb _ rfl (.wk o (.seq (.seq (.r4 G [4, 5, 6] [(40, aB (((j.length : Int) : Int) == 0))] ?_))))
 refine .cd hr ?_ ?_ <;> intro T hr
 ·refine .seq ?_
  obtain ⟨w, J, hr⟩ := bd hr
  refine .g1 G (ok0 (aV n false i w J)) (.mu 1 (.ca cf0 (.mu 1 (.done (.nh [4] [.own (ah.c w)] (.ret ?_))))))
  obtain rfl := oi hr
  exact aL.r1 [.agg (ah.c w)]
 refine .skip (.seq ?_)
 obtain ⟨O, s, R, t, hr⟩ := bd2 hr
 refine .gn G (ca1 (ok0 (kA n i O s)) (ca3 (ok0 (kA n j R t)))) (.mu 1 (.ca cf0 (.mu 1 (.ca (cfA (fun h => by rw [sv t s (pZ n h)]) cf0) (.mu 2 (.done (.nh [4, 9, 10] [.own [aB false, nS]] (.seq (.block ?_)))))))))
 replace hr := bd hr; obtain ⟨a, u, hr⟩ := hr
 refine .aP (σ := fun N => match N with | (f, b) => ⟨mkS 61 0 [(4, .hp 0 0), (9, cV f), (10, cV b)], [.own [aB false, nS]]⟩) (Q := fun x st' => x = .exit 2 /\ Wk 0 st' ⟨mkS 61 0 [(4, .hp 0 0), (9, cV a)], [.own [aB false, nS]]⟩) u ((Wk.gc [4, 9, 10] [(0, true)] rfl trivial).to) ?_ ?_
 ·clear hr
  rintro m ⟨f, b⟩ hr
  refine CQ.sh ?_
  refine .seq (.seq (.r4 G [4, 9, 10] [(48, aB (decide (b > 0)))] ?_))
  refine .cd hr ?_ ?_ <;> intro U hr
  ·refine .skip (.block ?_)
   obtain ⟨L, hr⟩ := gd hr
   refine .dM G bz (.mu 3 (.pk (v := cV (f.tmod b)) (qw (x := f) (y := b) kRf kRf L) (.mu 2 ?_)))
   refine .done (kRa ?_)
   refine .pop ?_
   exact aE (b, f.tmod b) hr ((Wk.gc [4, 9, 10] [(0, true)] rfl trivial).to)
  refine .leave rfl ?_
  obtain rfl := oi hr
  exact ⟨rfl, ((Wk.gc [4, 9] [(0, true)] rfl trivial).to)⟩
 rintro x st' p
 clear u
 obtain ⟨rfl, p⟩ := p
 refine bb _ rfl (.wk p (.seq ?_))
 obtain ⟨z, M, hr⟩ := bd hr
 refine .gn G (ca4 [.own [aB false, nS], .own [bl (aa .u32 (a.tmod 1000000000)), bl (aa .u32 (wFu (a.tdiv 1000000000)))]] (cY (args := [aB false, .hs 1 0 2 1]) (l := [1]) (Sp (SnL.cons (Sn.hs rfl (.inl rfl) (SnC.cons (Sn.pure rfl) (SnC.cons (Sn.pure rfl) SnC.nil)) (fun h => nomatch h)) SnL.nil)) (aV n false [(aa .u32 (a.tmod 1000000000)), (aa .u32 (wFu (a.tdiv 1000000000)))] z M))) (.mu 7 (.ca cf0 (.mu 1 (.done (.nh [4] [.own (ah.c z), .fix [bl (aa .u32 (a.tmod 1000000000)), bl (aa .u32 (wFu (a.tdiv 1000000000)))]] (.ret ?_))))))
 obtain rfl := oi hr
 exact aL.r1 [.agg (ah.c z)]

theorem iV (n : Nat) (b : ah) (r : ah) (hr : ec n b = some r) : aN Tryz.prog 126 [.agg (ah.c b)] (.agg (ah.c r)) := by
 unfold ec at hr
 refine aN.bd G Tryz.func126 [.cell 2 40] ?_
 unfold Tryz.f126
 simp only [gS]
 refine .seq (.r2 G 11 [(1, .hp 0 0), (2, .hp 1 0)] [.own (ah.c b), .own [aB false, nS]] (.seq ?_))
 obtain ⟨a, d, hr⟩ := bd hr
 refine .g1 G (ok0 (bL n b a d)) (.mu 1 (.ca cf0 (.mu 1 (.done (.nh [1, 2] [.own (ah.c a), .own [aB false, nS]] (.seq ?_))))))
 obtain ⟨e, f, hr⟩ := bd hr
 refine .g1 G (ok0 (aV n (!a.Negative) a.Groups e f)) (.mu 5 (.ca cf0 (.mu 1 (.done (.nh [2] [.own (ah.c a), .own (ah.c e)] (.ret ?_))))))
 obtain rfl := oi hr
 exact aL.r1 [.agg (ah.c e)]

theorem pU (n : Nat) (a : List Int) (b : List Int) (r : List Int) (hr : fE n a b = some r) : aN Tryz.prog 154 [aO a, aO b] (aO r) := by
 unfold fE at hr
 refine aN.bd G Tryz.func154 [.tmp 4] ?_
 unfold Tryz.f154
 simp only [gS]
 refine .seq (.r4 G [0, 1] [] (.seq (.r5 G [0, 1] [(5, .hs 0 0 0 1)] [.own []] (.seq (.r4 G [0, 1, 5] [(6, cV 0)] (.seq (.seq (.r4 G [0, 1, 5, 6] [(7, aj 0)] (.block ?_)))))))))
 replace hr := bd hr; obtain ⟨z, s, hr⟩ := hr
 refine .aP (σ := fun L => match L with | (c, d, o) => ⟨mkS 46 0 [(0, aO a), (1, aO b), (5, .hs 0 0 c.length 1), (6, cV d), (7, aj o)], [.own (c.flatMap iCu)]⟩) (Q := fun x st' => match (generalizing := false) z with | (f, e) => x = .exit 0 /\ Wk 0 st' ⟨mkS 46 0 [(5, .hs 0 0 f.length 1), (6, cV e)], [.own (f.flatMap iCu)]⟩) s ((Wk.gc [0, 1, 5, 6, 7] [(0, false)] rfl (pKc trivial)).to) ?_ ?_
 ·clear hr
  rintro m ⟨c, d, o⟩ hr
  refine CQ.sh ?_
  refine .seq (.seq ?_)
  rcases bT (decide (o < (a.length : Int))) with p | p
  ·replace hr := cI p hr
   refine .r0 G (.mu 3 (.p0 (v := aB true) (eB p) (.mu 6 (.done (.nh [0, 1, 5, 6, 7, 19] [.own (c.flatMap iCu)] (.cT kRf (.skip (.seq (.block (.seq ?_))))))))))
   obtain ⟨g, t, i, u, hr⟩ := bd2 hr
   refine .gn G (ca1 (ok0 (bK n a o g t)) (ca3 (ok0 (bK n b o i u)))) (.mu 2 (.ca cf0 (.mu 2 (.ca (cfA (fun h => by rw [sv u t (eh n h)]) cf0) (.mu 4 (.done (.nh [0, 1, 5, 7, 8] [.own (c.flatMap iCu)] (.seq ?_))))))))
   obtain ⟨A, B, hr⟩ := gd2 hr
   refine .r0 G (.mu 5 (.e0 (v := .hs 2 0 (c ++ [aa .u32 ((wFu ((wFu (g + i)) + d)).tmod 1000000000)]).length 1) (ws := [(0, .dead), (2, .own ((c ++ [aa .u32 ((wFu ((wFu (g + i)) + d)).tmod 1000000000)]).flatMap iCu))]) (tr (dN (new := [bl (aa .u32 ((wFu ((wFu (g + i)) + d)).tmod 1000000000))]) (l := c) (xs := [aa .u32 ((wFu ((wFu (g + i)) + d)).tmod 1000000000)]) (aK .u32) rfl rfl kRf A B)) (.mu 1 (.done (.nh [0, 1, 5, 7, 8] [.dead, .own [bl (aa .u32 ((wFu ((wFu (g + i)) + d)).tmod 1000000000))], .own ((c ++ [aa .u32 ((wFu ((wFu (g + i)) + d)).tmod 1000000000)]).flatMap iCu)] (.ru G (.pop (.ru G ?_))))))))
   exact aE (c ++ [aa .u32 ((wFu ((wFu (g + i)) + d)).tmod 1000000000)], wFu ((wFu ((wFu (g + i)) + d)).tdiv 1000000000), IE (o + 1)) hr ((Wk.gc [0, 1, 5, 6, 7] [(2, false)] rfl (pKo iCu (aC _) (c ++ [aa .u32 ((wFu ((wFu (g + i)) + d)).tmod 1000000000)]) trivial)).to)
  replace hr := cJ p hr
  refine .r0 G (.mu 3 (.p0 (v := aB false) (eB p) (.mu 6 (.done (.nh [0, 1, 5, 6, 7, 19] [.own (c.flatMap iCu)] ?_)))))
  refine .cd hr ?_ ?_ <;> intro J hr
  ·refine .skip (.seq (.block (.seq ?_)))
   obtain ⟨j, w, k, y, hr⟩ := bd2 hr
   refine .gn G (ca1 (ok0 (bK n a o j w)) (ca3 (ok0 (bK n b o k y)))) (.mu 2 (.ca cf0 (.mu 2 (.ca (cfA (fun h => by rw [sv y w (eh n h)]) cf0) (.mu 4 (.done (.nh [0, 1, 5, 7, 8] [.own (c.flatMap iCu)] (.seq ?_))))))))
   obtain ⟨C, D, hr⟩ := gd2 hr
   refine .r0 G (.mu 5 (.e0 (v := .hs 2 0 (c ++ [aa .u32 ((wFu ((wFu (j + k)) + d)).tmod 1000000000)]).length 1) (ws := [(0, .dead), (2, .own ((c ++ [aa .u32 ((wFu ((wFu (j + k)) + d)).tmod 1000000000)]).flatMap iCu))]) (tr (dN (new := [bl (aa .u32 ((wFu ((wFu (j + k)) + d)).tmod 1000000000))]) (l := c) (xs := [aa .u32 ((wFu ((wFu (j + k)) + d)).tmod 1000000000)]) (aK .u32) rfl rfl kRf C D)) (.mu 1 (.done (.nh [0, 1, 5, 7, 8] [.dead, .own [bl (aa .u32 ((wFu ((wFu (j + k)) + d)).tmod 1000000000))], .own ((c ++ [aa .u32 ((wFu ((wFu (j + k)) + d)).tmod 1000000000)]).flatMap iCu)] (.ru G (.pop (.ru G ?_))))))))
   exact aE (c ++ [aa .u32 ((wFu ((wFu (j + k)) + d)).tmod 1000000000)], wFu ((wFu ((wFu (j + k)) + d)).tdiv 1000000000), IE (o + 1)) hr ((Wk.gc [0, 1, 5, 6, 7] [(2, false)] rfl (pKo iCu (aC _) (c ++ [aa .u32 ((wFu ((wFu (j + k)) + d)).tmod 1000000000)]) trivial)).to)
  refine .leave rfl ?_
  obtain rfl := oi hr
  exact ⟨rfl, ((Wk.gc [5, 6] [(0, false)] rfl (pKo iCu (aC _) c trivial)).to)⟩
 rcases z with ⟨f, e⟩
 rintro x st' q
 clear s
 obtain ⟨rfl, q⟩ := q
 refine bb _ rfl (.wk q (.seq ?_))
 obtain ⟨E, F, hr⟩ := gd2 hr
 obtain ⟨H, I, hr⟩ := bd hr
 refine .gn G (ca4 [.dead, .own [bl (aa .u32 e)], .own ((f ++ [aa .u32 e]).flatMap iCu)] (cY (args := [aB false, .hs 2 0 (f ++ [aa .u32 e]).length 1]) (l := [2]) (Sp (SnL.cons (Sn.hs rfl (.inl rfl) (SnC.pure (bm (aC _) _)) (fun h => cB h)) SnL.nil)) (aV n false (f ++ [aa .u32 e]) H I))) (.mu 4 (.e0 (v := .hs 2 0 (f ++ [aa .u32 e]).length 1) (ws := [(0, .dead), (2, .own ((f ++ [aa .u32 e]).flatMap iCu))]) (tr (dN (new := [bl (aa .u32 e)]) (l := f) (xs := [aa .u32 e]) (aK .u32) rfl rfl kRf E F)) (.ca cf0 (.mu 2 (.done (.ret ?_))))))
 obtain rfl := oi hr
 exact aL.r1 [aO H.Groups]

theorem lL (n : Nat) (q : ah) (y : ah) (r : ah) (hr : fg n q y = some r) : aN Tryz.prog 116 [.agg (ah.c q), .agg (ah.c y)] (.agg (ah.c r)) := by
 unfold fg at hr
 refine aN.bd G Tryz.func116 [.cell 4 40] ?_
 unfold Tryz.f116
 simp only [gS]
 refine .seq (.r2 G 44 [(2, .hp 0 0), (3, .hp 1 0), (4, .hp 2 0)] [.own (ah.c q), .own (ah.c y), .own [aB false, nS]] (.seq ?_))
 obtain ⟨a, f, b, g, hr⟩ := bd2 hr
 refine .tn G (ca1 (ok0 (bL n q a f)) (ca3 (ok0 (bL n y b g)))) (.mu 1 (.ca cf0 (.mu 1 (.ca (cfA (fun h => by rw [sv g f (fw n h)]) cf0) (.mu 2 ?_)))))
 refine .done (kRa ?_)
 refine .nh [2, 3, 4] [.own (ah.c a), .own (ah.c b), .own [aB false, nS]] (.seq (.seq (.r4 G [2, 3, 4] [(13, aB (a.Negative == b.Negative))] ?_)))
 refine .cd hr ?_ ?_ <;> intro z hr
 ·refine .seq ?_
  obtain ⟨w, s, t, u, hr⟩ := bd2 hr
  refine .tn G (ca1 (ok0 (pU n a.Groups b.Groups w s)) (ca3 (ok0 (aV n a.Negative w t u)))) (.mu 6 (.ca cf0 (.ca (cfF cf0) (.mu 1 ?_))))
  refine .done (kRa ?_)
  refine .nh [4] [.own (ah.c a), .own (ah.c b), .own (ah.c t)] (.ret ?_)
  obtain rfl := oi hr
  exact aL.r1 [.agg (ah.c t)]
 refine .skip (.seq (.seq ?_))
 obtain ⟨v, i, hr⟩ := bd hr
 refine .g1 G (ok0 (iK n a.Groups b.Groups v i)) (.mu 4 (.ca cf0 (.mu 1 (.done (.nh [2, 3, 4, 27] [.own (ah.c a), .own (ah.c b), .own [aB false, nS]] ?_)))))
 refine .cd hr ?_ ?_ <;> intro x hr
 ·refine .seq ?_
  obtain ⟨j, k, d, l, hr⟩ := bd2 hr
  refine .tn G (ca1 (ok0 (fr n a.Groups b.Groups j k)) (ca3 (ok0 (aV n a.Negative j d l)))) (.mu 6 (.ca cf0 (.ca (cfF cf0) (.mu 1 ?_))))
  refine .done (kRa ?_)
  refine .nh [4] [.own (ah.c a), .own (ah.c b), .own (ah.c d)] (.ret ?_)
  obtain rfl := oi hr
  exact aL.r1 [.agg (ah.c d)]
 refine .skip (.seq ?_)
 obtain ⟨m, o, e, p, hr⟩ := bd2 hr
 refine .tn G (ca1 (ok0 (fr n b.Groups a.Groups m o)) (ca3 (ok0 (aV n b.Negative m e p)))) (.mu 6 (.ca cf0 (.ca (cfF cf0) (.mu 1 ?_))))
 refine .done (kRa ?_)
 refine .nh [4] [.own (ah.c a), .own (ah.c b), .own (ah.c e)] (.ret ?_)
 obtain rfl := oi hr
 exact aL.r1 [.agg (ah.c e)]

theorem eQ (n : Nat) (a : ah) (y : ah) (r : ah) (hr : cG n a y = some r) : aN Tryz.prog 151 [.agg (ah.c a), .agg (ah.c y)] (.agg (ah.c r)) := by
 unfold cG at hr
 refine aN.bd G Tryz.func151 [.cell 4 40] ?_
 unfold Tryz.f151
 simp only [gS]
 refine .seq (.r2 G 9 [(2, .hp 0 0), (3, .hp 1 0), (4, .hp 2 0)] [.own (ah.c a), .own (ah.c y), .own [aB false, nS]] (.seq ?_))
 obtain ⟨f, b, d, e, hr⟩ := bd2 hr
 refine .tn G (ca1 (ok0 (iV n y f b)) (ca3 (ok0 (lL n a f d e)))) (.mu 2 (.ca cf0 (.ca (cfF cf0) (.mu 1 ?_))))
 refine .done (kRa ?_)
 refine .nh [4] [.own (ah.c a), .own (ah.c y), .own (ah.c d)] (.ret ?_)
 obtain rfl := oi hr
 exact aL.r1 [.agg (ah.c d)]

theorem gp (n : Nat) {b : ah} {y : ah} {a : ah} {d : ah} (h : ([.agg (ah.c b), .agg (ah.c y)] : List AV) = [.agg (ah.c a), .agg (ah.c d)]) : br n b y = br n a d := by
 obtain ⟨rfl, rfl⟩ := pS h
 rfl
theorem cK (n : Nat) (J : ah) (y : ah) (r : ah) (hr : br n J y = some r) : aN Tryz.prog 87 [.agg (ah.c J), .agg (ah.c y)] (.agg (ah.c r)) := by
 unfold br at hr
 refine aN.bd G Tryz.func87 [.cell 4 40] ?_
 unfold Tryz.f87
 simp only [gS]
 refine .seq (.r2 G 85 [(2, .hp 0 0), (3, .hp 1 0), (4, .hp 2 0)] [.own (ah.c J), .own (ah.c y), .own [aB false, nS]] (.seq ?_))
 obtain ⟨i, E, f, F, hr⟩ := bd2 hr
 refine .tn G (ca1 (ok0 (bL n J i E)) (ca3 (ok0 (bL n y f F)))) (.mu 1 (.ca cf0 (.mu 1 (.ca (cfA (fun h => by rw [sv F E (fw n h)]) cf0) (.mu 2 ?_)))))
 refine .done (kRa ?_)
 refine .nh [2, 3, 4] [.own (ah.c i), .own (ah.c f), .own [aB false, nS]] (.seq ?_)
 obtain ⟨L, M, N, hr⟩ := gd3 hr
 refine .r0 G (.mu 7 (.e0 (v := .hs 3 0 (List.replicate (IE ((i.Groups.length : Int) + (f.Groups.length : Int))).toNat ((0 : Int) : Int)).length 1) (ws := [(3, .own ((List.replicate (IE ((i.Groups.length : Int) + (f.Groups.length : Int))).toNat ((0 : Int) : Int)).flatMap iCu))]) (tr (lO (c := iCu) (z := (0 : Int)) (n := IE ((i.Groups.length : Int) + (f.Groups.length : Int))) (by_ := 4) rfl L M N)) (.mu 1 (.done (.nh [2, 3, 4, 5] [.own (ah.c i), .own (ah.c f), .own [aB false, nS], .own ((List.replicate (IE ((i.Groups.length : Int) + (f.Groups.length : Int))).toNat ((0 : Int) : Int)).flatMap iCu)] (.seq (.seq (.r4 G [2, 3, 4, 5] [(6, aj 0)] (.block ?_)))))))))
 replace hr := bd hr; obtain ⟨o, w, hr⟩ := hr
 refine .aP (σ := fun O => match O with | (q, d) => ⟨mkS 85 0 [(2, .hp 0 0), (3, .hp 1 0), (4, .hp 2 0), (5, .hs 3 0 q.length 1), (6, aj d)], [.own (ah.c i), .own (ah.c f), .own [aB false, nS], .own (q.flatMap iCu)]⟩) (Q := fun x st' => x = .exit 0 /\ Wk 0 st' ⟨mkS 85 0 [(2, .hp 0 0), (3, .hp 1 0), (4, .hp 2 0), (5, .hs 3 0 o.length 1)], [.own (ah.c i), .own (ah.c f), .own [aB false, nS], .own (o.flatMap iCu)]⟩) w ((Wk.gc [2, 3, 4, 5, 6] [(0, true), (1, true), (2, true), (3, false)] rfl (pKt (pKt (pKt (pKo iCu (aC _) (List.replicate (IE ((i.Groups.length : Int) + (f.Groups.length : Int))).toNat ((0 : Int) : Int)) trivial))))).to) ?_ ?_
 ·clear hr
  rintro m ⟨q, d⟩ hr
  refine CQ.sh ?_
  refine .seq (.seq (.r4 G [2, 3, 4, 5, 6] [(26, aB (decide (d < (i.Groups.length : Int))))] ?_))
  refine .cd hr ?_ ?_ <;> intro R hr
  ·refine .skip (.seq (.block (.seq (.r4 G [2, 3, 4, 5, 6] [(7, cV 0)] (.seq (.seq (.r4 G [2, 3, 4, 5, 6, 7] [(8, aj 0)] (.block ?_))))))))
   replace hr := bd hr; obtain ⟨H, A, hr⟩ := hr
   refine .aP (σ := fun O => match O with | (e, g, a) => ⟨mkS 85 0 [(2, .hp 0 0), (3, .hp 1 0), (4, .hp 2 0), (5, .hs 3 0 e.length 1), (6, aj d), (7, cV g), (8, aj a)], [.own (ah.c i), .own (ah.c f), .own [aB false, nS], .own (e.flatMap iCu)]⟩) (Q := fun x st' => match (generalizing := false) H with | (j, k) => x = .exit 2 /\ Wk 0 st' ⟨mkS 85 0 [(2, .hp 0 0), (3, .hp 1 0), (4, .hp 2 0), (5, .hs 3 0 j.length 1), (6, aj d), (7, cV k)], [.own (ah.c i), .own (ah.c f), .own [aB false, nS], .own (j.flatMap iCu)]⟩) A ((Wk.gc [2, 3, 4, 5, 6, 7, 8] [(0, true), (1, true), (2, true), (3, false)] rfl (pKt (pKt (pKt (pKo iCu (aC _) q trivial))))).to) ?_ ?_
   ·clear hr
    rintro m ⟨e, g, a⟩ hr
    refine CQ.sh ?_
    refine .seq (.seq (.r4 G [2, 3, 4, 5, 6, 7, 8] [(33, aB (decide (a < (f.Groups.length : Int))))] ?_))
    refine .cd hr ?_ ?_ <;> intro S hr
    ·refine .skip (.seq (.block (.seq ?_)))
     obtain ⟨p, B, C, hr⟩ := gd3 hr
     refine .dM G bz (.mu 4 (.pk (v := .hp 3 (0 + (IE (d + a)).toNat * 1)) (tr (aw p)) (.pk (v := bl (gt e (IE (d + a)))) (tr (aR (aS (aK .u32) (aI p) z1 (by omega : 0 + (IE (d + a)).toNat * 1 = (IE (d + a)).toNat * 1 + 0) kRf))) (.mu 4 (.pk (v := .pp (i.Groups.flatMap iCu) (d.toNat * 1)) (tr (aw B)) (.pk (v := bl (gt i.Groups d)) (tr (aR (aS (aK .u32) (aI B) z1 (by omega : d.toNat * 1 = d.toNat * 1 + 0) kRf))) (.mu 4 (.pk (v := .pp (f.Groups.flatMap iCu) (a.toNat * 1)) (tr (aw C)) (.pk (v := bl (gt f.Groups a)) (tr (aR (aS (aK .u32) (aI C) z1 (by omega : a.toNat * 1 = a.toNat * 1 + 0) kRf))) (.mu 6 ?_))))))))))
     refine .done (kRa ?_)
     refine .nh [2, 3, 4, 5, 6, 8, 9] [.own (ah.c i), .own (ah.c f), .own [aB false, nS], .own (e.flatMap iCu)] (.seq (.r0 G (.mu 7 (.p0 (v := .hp 3 (0 + (IE (d + a)).toNat * 1)) (tr (aw p)) (.e0 (v := .unk) (ws := [(3, .own ((e.set (IE (d + a)).toNat (aa .u32 ((wFu ((wFu ((wFu (gt e (IE (d + a)))) + (wFu ((wFu (gt i.Groups d)) * (wFu (gt f.Groups a)))))) + g)).tmod 1000000000))).flatMap iCu))]) (tr (ju (jo (cU (n := 1) (aK .u32) (aI p) (lbT rfl) (by omega : 0 + (IE (d + a)).toNat * 1 = (IE (d + a)).toNat * 1 + 0))) (congrArg Blk.own (dH (xs := [bl (aa .u32 ((wFu ((wFu ((wFu (gt e (IE (d + a)))) + (wFu ((wFu (gt i.Groups d)) * (wFu (gt f.Groups a)))))) + g)).tmod 1000000000))]) (aK .u32) (aI p) (lbT rfl) (by omega : 0 + (IE (d + a)).toNat * 1 = (IE (d + a)).toNat * 1 + 0) kRf)))) (.done (.nh [2, 3, 4, 5, 6, 8, 9] [.own (ah.c i), .own (ah.c f), .own [aB false, nS], .own ((e.set (IE (d + a)).toNat (aa .u32 ((wFu ((wFu ((wFu (gt e (IE (d + a)))) + (wFu ((wFu (gt i.Groups d)) * (wFu (gt f.Groups a)))))) + g)).tmod 1000000000))).flatMap iCu)] (.ru G (.pop (.ru G ?_))))))))))
     exact aE (e.set (IE (d + a)).toNat (aa .u32 ((wFu ((wFu ((wFu (gt e (IE (d + a)))) + (wFu ((wFu (gt i.Groups d)) * (wFu (gt f.Groups a)))))) + g)).tmod 1000000000)), wFu ((wFu ((wFu ((wFu (gt e (IE (d + a)))) + (wFu ((wFu (gt i.Groups d)) * (wFu (gt f.Groups a)))))) + g)).tdiv 1000000000), IE (a + 1)) hr ((Wk.iO 5 (b := 3) (es := 1) (len := e.length) (e.set (IE (d + a)).toNat (aa .u32 ((wFu ((wFu ((wFu (gt e (IE (d + a)))) + (wFu ((wFu (gt i.Groups d)) * (wFu (gt f.Groups a)))))) + g)).tmod 1000000000))).length kRf (Eq.symm (List.length_set.trans rfl))).trans ((Wk.gc [2, 3, 4, 5, 6, 7, 8] [(0, true), (1, true), (2, true), (3, false)] rfl (pKt (pKt (pKt (pKo iCu (aC _) (e.set (IE (d + a)).toNat (aa .u32 ((wFu ((wFu ((wFu (gt e (IE (d + a)))) + (wFu ((wFu (gt i.Groups d)) * (wFu (gt f.Groups a)))))) + g)).tmod 1000000000))) trivial))))).to))
    refine .leave rfl ?_
    obtain rfl := oi hr
    exact ⟨rfl, ((Wk.gc [2, 3, 4, 5, 6, 7] [(0, true), (1, true), (2, true), (3, false)] rfl (pKt (pKt (pKt (pKo iCu (aC _) e trivial))))).to)⟩
   rcases H with ⟨j, k⟩
   rintro x st' s
   clear A
   obtain ⟨rfl, s⟩ := s
   refine bb _ rfl (.wk s ?_)
   obtain ⟨t, hr⟩ := gd hr
   refine .r0 G (.mu 8 (.p0 (v := .hp 3 (0 + (IE (d + (f.Groups.length : Int))).toNat * 1)) (tr (aw t)) (.e0 (v := .unk) (ws := [(3, .own ((j.set (IE (d + (f.Groups.length : Int))).toNat (aa .u32 k)).flatMap iCu))]) (tr (ju (jo (cU (n := 1) (aK .u32) (aI t) (lbT rfl) (by omega : 0 + (IE (d + (f.Groups.length : Int))).toNat * 1 = (IE (d + (f.Groups.length : Int))).toNat * 1 + 0))) (congrArg Blk.own (dH (xs := [bl (aa .u32 k)]) (aK .u32) (aI t) (lbT rfl) (by omega : 0 + (IE (d + (f.Groups.length : Int))).toNat * 1 = (IE (d + (f.Groups.length : Int))).toNat * 1 + 0) kRf)))) (.done (.pop (.ru G ?_))))))
   exact aE (j.set (IE (d + (f.Groups.length : Int))).toNat (aa .u32 k), IE (d + 1)) hr ((Wk.iO 5 (b := 3) (es := 1) (len := j.length) (j.set (IE (d + (f.Groups.length : Int))).toNat (aa .u32 k)).length kRf (Eq.symm (List.length_set.trans rfl))).trans ((Wk.gc [2, 3, 4, 5, 6] [(0, true), (1, true), (2, true), (3, false)] rfl (pKt (pKt (pKt (pKo iCu (aC _) (j.set (IE (d + (f.Groups.length : Int))).toNat (aa .u32 k)) trivial))))).to))
  refine .leave rfl ?_
  obtain rfl := oi hr
  exact ⟨rfl, ((Wk.gc [2, 3, 4, 5] [(0, true), (1, true), (2, true), (3, false)] rfl (pKt (pKt (pKt (pKo iCu (aC _) q trivial))))).to)⟩
 rintro x st' u
 clear w
 obtain ⟨rfl, u⟩ := u
 refine bb _ rfl (.wk u (.seq ?_))
 obtain ⟨D, I, hr⟩ := bd hr
 refine .g1 G (cY (args := [aB (i.Negative != f.Negative), .hs 3 0 o.length 1]) (l := [3]) (Sp (SnL.cons (Sn.hs rfl (.inl rfl) (SnC.pure (bm (aC _) _)) (fun h => cB h)) SnL.nil)) (aV n (i.Negative != f.Negative) o D I)) (.mu 6 (.ca cf0 (.mu 1 (.done (.nh [4] [.own (ah.c i), .own (ah.c f), .own (ah.c D), .fix (o.flatMap iCu)] (.ret ?_))))))
 obtain rfl := oi hr
 exact aL.r1 [.agg (ah.c D)]

theorem ff (n : Nat) (C : ah) (y : ah) (r : ah × ah × Int) (hr : cM n C y = some r) : aN Tryz.prog 127 [.agg (ah.c C), .agg (ah.c y)] (.tup [.agg (ah.c r.1), .agg (ah.c r.2.1), aj r.2.2]) := by
 unfold cM at hr
 refine aN.bd G Tryz.func127 [.cell 4 40, .cell 5 40, .tmp 6] ?_
 unfold Tryz.f127
 simp only [gS]
 refine .seq (.r2 G 54 [(2, .hp 0 0), (3, .hp 1 0), (4, .hp 2 0), (5, .hp 3 0)] [.own (ah.c C), .own (ah.c y), .own [aB false, nS], .own [aB false, nS]] (.seq ?_))
 obtain ⟨d, k, a, l, hr⟩ := bd2 hr
 refine .tn G (ca1 (ok0 (bL n C d k)) (ca3 (ok0 (bL n y a l)))) (.mu 1 (.ca cf0 (.mu 1 (.ca (cfA (fun h => by rw [sv l k (fw n h)]) cf0) (.mu 2 ?_)))))
 refine .done (kRa ?_)
 refine .nh [2, 3, 4, 5] [.own (ah.c d), .own (ah.c a), .own [aB false, nS], .own [aB false, nS]] (.seq (.seq (.r4 G [2, 3, 4, 5] [(17, aB (((a.Groups.length : Int) : Int) == 0))] ?_)))
 refine .cd hr ?_ ?_ <;> intro I hr
 ·refine .seq (.r4 G [4, 5] [(6, aj 14)] (.ret ?_))
  obtain rfl := oi hr
  exact aL.ret (vs := [.agg [aB false, nS], .agg [aB false, nS], aj 14]) kRf (Sn.tup (SnL.cons (Sn.agg (Sp (SnL.cons Sn.fp SnL.nil))) (SnL.cons (Sn.agg (Sp (SnL.cons Sn.fp SnL.nil))) (Sp SnL.nil))))
 refine .skip (.seq ?_)
 obtain ⟨F, D, hr⟩ := bd hr
 refine .g1 G (ok0 (ib n d.Groups a.Groups F D)) (.mu 4 (.ca cf0 (.mu 5 (.done (.nh [2, 3, 4, 5, 7, 8] [.own (ah.c d), .own (ah.c a), .own [aB false, nS], .own [aB false, nS]] (.seq ?_))))))
 obtain ⟨e, E, hr⟩ := bd hr
 refine .g1 G (ok0 (aV n (d.Negative != a.Negative) F.1 e E)) (.mu 6 (.ca cf0 (.mu 2 (.done (.nh [2, 3, 4, 5, 8, 9] [.own (ah.c d), .own (ah.c a), .own [aB false, nS], .own [aB false, nS], .own (ah.c e)] (.seq (.seq ?_)))))))
 rcases bT (d.Negative != a.Negative) with b | b
 ·replace hr := cI b hr
  refine .r0 G (.mu 4 (.p0 (v := aB true) (eB b) (.mu 5 (.done (.nh [2, 3, 4, 5, 9, 44] [.own (ah.c d), .own (ah.c a), .own [aB false, nS], .own [aB false, nS], .own (ah.c e)] ?_)))))
  refine .cd hr ?_ ?_ <;> intro H hr
  ·obtain ⟨m, o, f, p, hr⟩ := bd2 hr
   refine .tn G (ca1 (ok0 (mc n 1 m o)) (ca3 (ok0 (eQ n e m f p)))) (.mu 1 (.ca cf0 (.ca (cfF cf0) (.mu 1 ?_))))
   refine .done (kRa ?_)
   refine .nh [2, 3, 4, 5, 9] [.own (ah.c d), .own (ah.c a), .own [aB false, nS], .own [aB false, nS], .own (ah.c f)] (.seq ?_)
   obtain ⟨q, s, g, t, hr⟩ := bd2 hr
   refine .tn G (ca1 (ok0 (cK n f a q s)) (ca3 (ok0 (eQ n d q g t)))) (.mu 4 (.ca cf0 (.ca (cfF cf0) (.mu 3 ?_))))
   refine .done (kRa ?_)
   refine .nh [4, 5, 6] [.own (ah.c d), .own (ah.c a), .own (ah.c f), .own (ah.c g), .own (ah.c f)] (.ret ?_)
   obtain rfl := oi hr
   exact aL.ret (vs := [.agg (ah.c f), .agg (ah.c g), aj 0]) kRf (Sn.tup (Sp (Sp (Sp SnL.nil))))
  refine .skip (.seq ?_)
  obtain ⟨u, w, i, x, hr⟩ := bd2 hr
  refine .tn G (ca1 (ok0 (cK n e a u w)) (ca3 (ok0 (eQ n d u i x)))) (.mu 4 (.ca cf0 (.ca (cfF cf0) (.mu 3 ?_))))
  refine .done (kRa ?_)
  refine .nh [4, 5, 6] [.own (ah.c d), .own (ah.c a), .own (ah.c e), .own (ah.c i), .own (ah.c e)] (.ret ?_)
  obtain rfl := oi hr
  exact aL.ret (vs := [.agg (ah.c e), .agg (ah.c i), aj 0]) kRf (Sn.tup (Sp (Sp (Sp SnL.nil))))
 replace hr := cJ b hr
 refine .r0 G (.mu 4 (.p0 (v := aB false) (eB b) (.mu 5 (.done (.nh [2, 3, 4, 5, 9, 44] [.own (ah.c d), .own (ah.c a), .own [aB false, nS], .own [aB false, nS], .own (ah.c e)] (.cF kRf (.skip (.seq ?_))))))))
 obtain ⟨z, A, j, B, hr⟩ := bd2 hr
 refine .tn G (ca1 (ok0 (cK n e a z A)) (ca3 (ok0 (eQ n d z j B)))) (.mu 4 (.ca cf0 (.ca (cfF cf0) (.mu 3 ?_))))
 refine .done (kRa ?_)
 refine .nh [4, 5, 6] [.own (ah.c d), .own (ah.c a), .own (ah.c e), .own (ah.c j), .own (ah.c e)] (.ret ?_)
 obtain rfl := oi hr
 exact aL.ret (vs := [.agg (ah.c e), .agg (ah.c j), aj 0]) kRf (Sn.tup (Sp (Sp (Sp SnL.nil))))

theorem gD (n : Nat) (num : ah) (den : ah) (r : ai) (hr : cX n num den = some r) : aN Tryz.prog 86 [.agg (ah.c num), .agg (ah.c den)] (.agg (ai.c r)) := by
 unfold cX at hr
 refine aN.bd G Tryz.func86 [.cell 4 42] ?_
 unfold Tryz.f86
 simp only [gS]
 refine .seq (.r2 G 37 [(2, .hp 0 0), (3, .hp 1 0), (4, .hp 2 0)] [.own (ah.c num), .own (ah.c den), .own zN2] (.seq ?_))
 obtain ⟨f, k, hr⟩ := bd hr
 refine .g1 G (ok0 (lN n num den f k)) (.mu 2 (.ca cf0 (.mu 2 (.done (.nh [2, 3, 4, 5] [.own (ah.c num), .own (ah.c den), .own zN2, .own (ah.c f)] (.seq (.seq ?_)))))))
 obtain ⟨p, l, hr⟩ := bd hr
 refine .g1 G (ok0 (eF n den p l)) (.mu 1 (.ca cf0 (.mu 1 (.done (.nh [2, 3, 4, 5, 17] [.own (ah.c num), .own (ah.c den), .own zN2, .own (ah.c f)] ?_)))))
 refine .cd hr ?_ ?_ <;> intro q hr
 ·obtain ⟨g, m, hr⟩ := bd hr
  refine .g1 G (ok0 (iV n f g m)) (.mu 1 (.ca cf0 (.mu 1 (.done (.nh [2, 3, 4, 5] [.own (ah.c num), .own (ah.c den), .own zN2, .own (ah.c g)] (.seq ?_))))))
  obtain ⟨e, o, hr⟩ := bd hr
  refine .g1 G (ok0 (ff n num g e o)) (.mu 2 (.ca cf0 (.mu 9 (.done (.nh [3, 4, 5, 6] [.own (ah.c num), .own (ah.c den), .own zN2, .own (ah.c g), .own (ah.c e.1), .own (ah.c e.2.1)] (.seq ?_))))))
  obtain ⟨b, h, hr⟩ := bd hr
  refine .g1 G (ok0 (ff n den g b h)) (.mu 2 (.ca cf0 (.mu 9 (.done (.nh [4, 6, 9] [.own (ah.c num), .own (ah.c den), .own zN2, .own (ah.c g), .own (ah.c e.1), .own (ah.c e.2.1), .own (ah.c b.1), .own (ah.c b.2.1)] (.seq (.r5 G [4] [] [.own (ah.c num), .own (ah.c den), .own [aB e.1.Negative, aO e.1.Groups, aB b.1.Negative, aO b.1.Groups], .own (ah.c g), .own (ah.c e.1), .own (ah.c e.2.1), .own (ah.c b.1), .own (ah.c b.2.1)] (.ret ?_))))))))
  obtain rfl := oi hr
  exact aL.r1 [.agg [aB e.1.Negative, aO e.1.Groups, aB b.1.Negative, aO b.1.Groups]]
 refine .skip (.seq ?_)
 obtain ⟨a, i, hr⟩ := bd hr
 refine .g1 G (ok0 (ff n num f a i)) (.mu 2 (.ca cf0 (.mu 9 (.done (.nh [3, 4, 5, 6] [.own (ah.c num), .own (ah.c den), .own zN2, .own (ah.c f), .own (ah.c a.1), .own (ah.c a.2.1)] (.seq ?_))))))
 obtain ⟨d, j, hr⟩ := bd hr
 refine .g1 G (ok0 (ff n den f d j)) (.mu 2 (.ca cf0 (.mu 9 (.done (.nh [4, 6, 9] [.own (ah.c num), .own (ah.c den), .own zN2, .own (ah.c f), .own (ah.c a.1), .own (ah.c a.2.1), .own (ah.c d.1), .own (ah.c d.2.1)] (.seq (.r5 G [4] [] [.own (ah.c num), .own (ah.c den), .own [aB a.1.Negative, aO a.1.Groups, aB d.1.Negative, aO d.1.Groups], .own (ah.c f), .own (ah.c a.1), .own (ah.c a.2.1), .own (ah.c d.1), .own (ah.c d.2.1)] (.ret ?_))))))))
 obtain rfl := oi hr
 exact aL.r1 [.agg [aB a.1.Negative, aO a.1.Groups, aB d.1.Negative, aO d.1.Groups]]

theorem p6 (n : Nat) (num : ah) (den : ah) (r : ai × Int) (hr : kx n num den = some r) : aN Tryz.prog 82 [.agg (ah.c num), .agg (ah.c den)] (.tup [.agg (ai.c r.1), aj r.2]) := by
 unfold kx at hr
 refine aN.bd G Tryz.func82 [.cell 4 42, .tmp 5] ?_
 unfold Tryz.f82
 simp only [gS]
 refine .seq (.r2 G 13 [(2, .hp 0 0), (3, .hp 1 0), (4, .hp 2 0)] [.own (ah.c num), .own (ah.c den), .own zN2] (.seq (.seq ?_)))
 obtain ⟨e, a, hr⟩ := bd hr
 refine .g1 G (ok0 (eF n den e a)) (.mu 1 (.ca cf0 (.mu 1 (.done (.nh [2, 3, 4, 8] [.own (ah.c num), .own (ah.c den), .own zN2] ?_)))))
 refine .cd hr ?_ ?_ <;> intro f hr
 ·refine .seq (.r4 G [4] [(5, aj 14)] (.ret ?_))
  obtain rfl := oi hr
  exact aL.ret (vs := [.agg zN2, aj 14]) kRf (Sn.tup (SnL.cons (Sn.agg (Sp (SnL.cons Sn.fp (Sp (SnL.cons Sn.fp SnL.nil))))) (Sp SnL.nil)))
 refine .skip (.seq ?_)
 obtain ⟨b, d, hr⟩ := bd hr
 refine .g1 G (ok0 (gD n num den b d)) (.mu 2 (.ca cf0 (.mu 2 (.done (.nh [4, 5] [.own (ah.c num), .own (ah.c den), .own (ai.c b)] (.ret ?_))))))
 obtain rfl := oi hr
 exact aL.ret (vs := [.agg (ai.c b), aj 0]) kRf (Sn.tup (Sp (Sp SnL.nil)))

theorem ri (n : Nat) (f : Int) (d : Int) (r : ai × Int) (hr : kW n f d = some r) : aN Tryz.prog 36 [aj f, aj d] (.tup [.agg (ai.c r.1), aj r.2]) := by
 unfold kW at hr
 refine aN.bd G Tryz.func36 [.cell 4 42, .tmp 5] ?_
 unfold Tryz.f36
 simp only [gS]
 refine .seq (.r5 G [0, 1] [(4, .hp 0 0)] [.own zN2] (.seq ?_))
 obtain ⟨i, a, j, b, e, g, hr⟩ := bd3 hr
 refine .gn G (ca1 (ok0 (dZ n f i a)) (ca1 (ok0 (dZ n d j b)) (ca3 (ok0 (p6 n i j e g))))) (.mu 1 (.ca cf0 (.mu 1 (.ca (cfA (fun h => by rw [sv b a (jY n h)]) cf0) (.ca (cfF (cfF cf0)) (.mu 4 (.done (.nh [4, 5] [.own (ai.c e.1)] (.ret ?_)))))))))
 obtain rfl := oi hr
 exact aL.ret (vs := [.agg (ai.c e.1), aj e.2]) kRf (Sn.tup (Sp (Sp SnL.nil)))

theorem nJ (n : Nat) (a : ah) (y : ah) (r : Int) (hr : eE n a y = some r) : aN Tryz.prog 114 [.agg (ah.c a), .agg (ah.c y)] (aj r) := by
 unfold eE at hr
 refine aN.bd G Tryz.func114 [.tmp 4] ?_
 unfold Tryz.f114
 simp only [gS]
 refine .seq (.r2 G 9 [(2, .hp 0 0), (3, .hp 1 0)] [.own (ah.c a), .own (ah.c y)] (.seq ?_))
 obtain ⟨e, b, f, d, hr⟩ := bd2 hr
 refine .gn G (ca1 (ok0 (eQ n a y e b)) (ca3 (ok0 (eF n e f d)))) (.mu 2 (.ca cf0 (.ca (cfF cf0) (.mu 1 (.done (.ret ?_))))))
 obtain rfl := oi hr
 exact aL.r1 [aj f]

theorem jW (n : Nat) {b : ai} {a : ai} (h : ([.agg (ai.c b)] : List AV) = [.agg (ai.c a)]) : bI n b = bI n a := by
 obtain rfl := mU h
 rfl
theorem cP (n : Nat) (a : ai) (r : Bool) (hr : bI n a = some r) : aN Tryz.prog 69 [.agg (ai.c a)] (aB r) := by
 unfold bI at hr
 refine aN.bd G Tryz.func69 [.tmp 2] ?_
 unfold Tryz.f69
 simp only [gS]
 refine .seq (.r2 G 27 [(1, .hp 0 0)] [.own (ai.c a)] (.seq (.seq ?_)))
 obtain ⟨o, d, hr⟩ := bd hr
 rcases bT (!o) with b | b
 ·replace hr := cI b hr
  refine .g1 G (ok0 (dw n a.Num o d)) (.mu 2 (.ca cf0 (.p0 (v := aB true) (eB b) (.mu 12 (.done (.nh [1, 18] [.own (ai.c a)] (.cT kRf (.seq (.ru G (.ret ?_))))))))))
  obtain rfl := oi hr
  exact aL.r1 [aB false]
 replace hr := cJ b hr
 obtain ⟨p, f, hr⟩ := bd hr
 rcases bT (!p) with e | e
 ·replace hr := cI e hr
  refine .gn G (ca1 (ok0 (dw n a.Num o d)) (ca3 (ok0 (dw n a.Den p f)))) (.mu 2 (.ca cf0 (.p0 (v := aB false) (eB b) (.mu 3 (.ca (cfA (fun h => by rw [sv f d (kd n h)]) cf0) (.pure (v := aB true) kRf (eB e) (.mu 7 (.done (.nh [1, 18] [.own (ai.c a)] (.cT kRf (.seq (.ru G (.ret ?_)))))))))))))
  obtain rfl := oi hr
  exact aL.r1 [aB false]
 replace hr := cJ e hr
 obtain ⟨s, q, hr⟩ := bd hr
 refine .gn G (ca1 (ok0 (dw n a.Num o d)) (ca1 (ok0 (dw n a.Den p f)) (ca3 (ok0 (eF n a.Den s q))))) (.mu 2 (.ca cf0 (.p0 (v := aB false) (eB b) (.mu 3 (.ca (cfA (fun h => by rw [sv f d (kd n h)]) cf0) (.pure (v := aB false) kRf (eB e) (.mu 4 (.ca (cfF (cfF cf0)) (.mu 2 (.done (.nh [1, 18] [.own (ai.c a)] ?_)))))))))))
 refine .cd hr ?_ ?_ <;> intro t hr
 ·refine .seq (.ru G (.ret ?_))
  obtain rfl := oi hr
  exact aL.r1 [aB false]
 refine .skip (.seq ?_)
 obtain ⟨g, i, j, k, l, m, hr⟩ := bd3 hr
 refine .gn G (ca1 (ok0 (lN n a.Num a.Den g i)) (ca1 (ok0 (dZ n 1 j k)) (ca3 (ok0 (nJ n g j l m))))) (.mu 4 (.ca cf0 (.ca (cfF cf0) (.ca (cfF (cfF cf0)) (.mu 2 (.done (.ret ?_)))))))
 obtain rfl := oi hr
 exact aL.r1 [aB ((l : Int) == 0)]

theorem oW (n : Nat) {b : Int} {a : Int} (h : ([.at (.int .i64 b)] : List AV) = [.at (.int .i64 a)]) : bH n b = bH n a := by
 obtain rfl := gT h
 rfl
theorem ft (n : Nat) (f : Int) (r : ai) (hr : bH n f = some r) : aN Tryz.prog 65 [aj f] (.agg (ai.c r)) := by
 unfold bH at hr
 refine aN.bd G Tryz.func65 [.cell 2 42] ?_
 unfold Tryz.f65
 simp only [gS]
 refine .seq (.r5 G [0] [(2, .hp 0 0)] [.own zN2] (.seq ?_))
 obtain ⟨a, b, d, e, hr⟩ := bd2 hr
 refine .gn G (ca1 (ok0 (dZ n f a b)) (ca3 (ok0 (dZ n 1 d e)))) (.mu 1 (.ca cf0 (.ca (cfA (fun h => by rw [sv e b (jY n h)]) cf0) (.mu 2 (.done (.nh [2] [.own [aB a.Negative, aO a.Groups, aB d.Negative, aO d.Groups]] (.ret ?_)))))))
 obtain rfl := oi hr
 exact aL.r1 [.agg [aB a.Negative, aO a.Groups, aB d.Negative, aO d.Groups]]

theorem dr (n : Nat) (a : ai) (r : ai) (hr : ck n a = some r) : aN Tryz.prog 85 [.agg (ai.c a)] (.agg (ai.c r)) := by
 unfold ck at hr
 refine aN.bd G Tryz.func85 [.cell 2 42] ?_
 unfold Tryz.f85
 simp only [gS]
 refine .seq (.r2 G 7 [(1, .hp 0 0), (2, .hp 1 0)] [.own (ai.c a), .own zN2] (.seq (.seq ?_)))
 obtain ⟨f, b, hr⟩ := bd hr
 refine .g1 G (ok0 (cP n a f b)) (.mu 1 (.ca cf0 (.done (.nh [1, 2, 4] [.own (ai.c a), .own zN2] ?_))))
 refine .cd hr ?_ ?_ <;> intro g hr
 ·refine .seq (.r5 G [2] [] [.own (ai.c a), .own (ai.c a)] (.ret ?_))
  obtain rfl := oi hr
  exact aL.r1 [.agg (ai.c a)]
 refine .skip (.seq ?_)
 obtain ⟨d, e, hr⟩ := bd hr
 refine .g1 G (ok0 (ft n 0 d e)) (.ca cf0 (.mu 1 (.done (.nh [2] [.own (ai.c a), .own (ai.c d)] (.ret ?_)))))
 obtain rfl := oi hr
 exact aL.r1 [.agg (ai.c d)]

theorem qC (n : Nat) (b : ai) (r : ai) (hr : fY n b = some r) : aN Tryz.prog 84 [.agg (ai.c b)] (.agg (ai.c r)) := by
 unfold fY at hr
 refine aN.bd G Tryz.func84 [.cell 2 42] ?_
 unfold Tryz.f84
 simp only [gS]
 refine .seq (.r2 G 12 [(1, .hp 0 0), (2, .hp 1 0)] [.own (ai.c b), .own zN2] (.seq ?_))
 obtain ⟨a, e, hr⟩ := bd hr
 refine .g1 G (ok0 (dr n b a e)) (.mu 1 (.ca cf0 (.mu 2 (.done (.nh [2, 3] [.own (ai.c b), .own zN2, .own (ai.c a)] (.seq ?_))))))
 obtain ⟨d, f, hr⟩ := bd hr
 refine .t1 G (ok0 (iV n a.Num d f)) (.mu 2 (.ca cf0 (.mu 4 ?_)))
 refine .done (kRa ?_)
 refine .nh [2] [.own (ai.c b), .own [aB d.Negative, aO d.Groups, aB a.Den.Negative, aO a.Den.Groups], .own (ai.c a)] (.ret ?_)
 obtain rfl := oi hr
 exact aL.r1 [.agg [aB d.Negative, aO d.Groups, aB a.Den.Negative, aO a.Den.Groups]]

theorem fN {b : ai} {y : ai} {a : ai} {c : ai} (h : ([.agg [.at (.bool b.Num.Negative), slT iCu b.Num.Groups, .at (.bool b.Den.Negative), slT iCu b.Den.Groups], .agg [.at (.bool y.Num.Negative), slT iCu y.Num.Groups, .at (.bool y.Den.Negative), slT iCu y.Den.Groups]] : List AV) = [.agg [.at (.bool a.Num.Negative), slT iCu a.Num.Groups, .at (.bool a.Den.Negative), slT iCu a.Den.Groups], .agg [.at (.bool c.Num.Negative), slT iCu c.Num.Groups, .at (.bool c.Den.Negative), slT iCu c.Den.Groups]]) : b = a /\ y = c := by
 obtain ⟨⟨_, _⟩, ⟨_, _⟩⟩ := b
 obtain ⟨⟨_, _⟩, ⟨_, _⟩⟩ := a
 obtain ⟨⟨_, _⟩, ⟨_, _⟩⟩ := y
 obtain ⟨⟨_, _⟩, ⟨_, _⟩⟩ := c
 simp only [List.cons.injEq, AV.agg.injEq, AV.at.injEq, Value.int.injEq, Value.bool.injEq, AV.fn.injEq, AV.pp.injEq, true_and, and_true, dR] at h
 simp_all
theorem ql (n : Nat) {b : ai} {y : ai} {a : ai} {d : ai} (h : ([.agg (ai.c b), .agg (ai.c y)] : List AV) = [.agg (ai.c a), .agg (ai.c d)]) : bE n b y = bE n a d := by
 obtain ⟨rfl, rfl⟩ := fN h
 rfl
theorem iY (n : Nat) (b : ai) (y : ai) (r : ai) (hr : bE n b y = some r) : aN Tryz.prog 71 [.agg (ai.c b), .agg (ai.c y)] (.agg (ai.c r)) := by
 unfold bE at hr
 refine aN.bd G Tryz.func71 [.cell 4 42] ?_
 unfold Tryz.f71
 simp only [gS]
 refine .seq (.r2 G 28 [(2, .hp 0 0), (3, .hp 1 0), (4, .hp 2 0)] [.own (ai.c b), .own (ai.c y), .own zN2] (.seq ?_))
 obtain ⟨d, m, hr⟩ := bd hr
 refine .g1 G (ok0 (dr n b d m)) (.mu 1 (.ca cf0 (.mu 2 (.done (.nh [3, 4, 5] [.own (ai.c b), .own (ai.c y), .own zN2, .own (ai.c d)] (.seq ?_))))))
 obtain ⟨i, o, hr⟩ := bd hr
 refine .g1 G (ok0 (dr n y i o)) (.mu 1 (.ca cf0 (.mu 2 (.done (.nh [4, 5, 6] [.own (ai.c b), .own (ai.c y), .own zN2, .own (ai.c d), .own (ai.c i)] (.seq ?_))))))
 obtain ⟨p, e, q, f, s, j, hr⟩ := bd3 hr
 obtain ⟨k, a, g, l, hr⟩ := bd2 hr
 refine .tn G (ca1 (ok0 (cK n d.Num i.Den p e)) (ca1 (ok0 (cK n i.Num d.Den q f)) (ca1 (ok0 (lL n p q s j)) (ca1 (ok0 (cK n d.Den i.Den k a)) (ca3 (ok0 (gD n s k g l))))))) (.mu 4 (.ca cf0 (.mu 4 (.ca (cfA (fun h => by rw [sv f e (gp n h)]) cf0) (.ca (cfF (cfF cf0)) (.mu 4 (.ca (cfA (fun h => by rw [sv a e (gp n h)]) (cfA (fun h => by rw [sv a f (gp n h)]) (cfF cf0))) (.ca (cfF (cfF (cfF (cfF cf0)))) (.mu 1 ?_)))))))))
 refine .done (kRa ?_)
 refine .nh [4] [.own (ai.c b), .own (ai.c y), .own (ai.c g), .own (ai.c d), .own (ai.c i)] (.ret ?_)
 obtain rfl := oi hr
 exact aL.r1 [.agg (ai.c g)]

theorem iS (n : Nat) {b : ai} {y : ai} {a : ai} {d : ai} (h : ([.agg (ai.c b), .agg (ai.c y)] : List AV) = [.agg (ai.c a), .agg (ai.c d)]) : bf n b y = bf n a d := by
 obtain ⟨rfl, rfl⟩ := fN h
 rfl
theorem dh (n : Nat) (a : ai) (y : ai) (r : ai) (hr : bf n a y = some r) : aN Tryz.prog 37 [.agg (ai.c a), .agg (ai.c y)] (.agg (ai.c r)) := by
 unfold bf at hr
 refine aN.bd G Tryz.func37 [.cell 4 42] ?_
 unfold Tryz.f37
 simp only [gS]
 refine .seq (.r2 G 9 [(2, .hp 0 0), (3, .hp 1 0), (4, .hp 2 0)] [.own (ai.c a), .own (ai.c y), .own zN2] (.seq ?_))
 obtain ⟨f, b, d, e, hr⟩ := bd2 hr
 refine .tn G (ca1 (ok0 (qC n y f b)) (ca3 (ok0 (iY n a f d e)))) (.mu 2 (.ca cf0 (.ca (cfF cf0) (.mu 1 ?_))))
 refine .done (kRa ?_)
 refine .nh [4] [.own (ai.c a), .own (ai.c y), .own (ai.c d)] (.ret ?_)
 obtain rfl := oi hr
 exact aL.r1 [.agg (ai.c d)]

theorem iJ (n : Nat) (a : ai) (r : Int) (hr : di n a = some r) : aN Tryz.prog 70 [.agg (ai.c a)] (aj r) := by
 unfold di at hr
 refine aN.bd G Tryz.func70 [.tmp 2] ?_
 unfold Tryz.f70
 simp only [gS]
 refine .seq (.r2 G 7 [(1, .hp 0 0)] [.own (ai.c a)] (.seq ?_))
 obtain ⟨e, b, f, d, hr⟩ := bd2 hr
 refine .gn G (ca1 (ok0 (dr n a e b)) (ca3 (ok0 (eF n e.Num f d)))) (.mu 1 (.ca cf0 (.mu 1 (.ca (cfF cf0) (.mu 1 (.done (.ret ?_)))))))
 obtain rfl := oi hr
 exact aL.r1 [aj f]

theorem nQ (n : Nat) {b : ai} {y : ai} {a : ai} {d : ai} (h : ([.agg (ai.c b), .agg (ai.c y)] : List AV) = [.agg (ai.c a), .agg (ai.c d)]) : bh n b y = bh n a d := by
 obtain ⟨rfl, rfl⟩ := fN h
 rfl
theorem dJ (n : Nat) (a : ai) (y : ai) (r : Int) (hr : bh n a y = some r) : aN Tryz.prog 38 [.agg (ai.c a), .agg (ai.c y)] (aj r) := by
 unfold bh at hr
 refine aN.bd G Tryz.func38 [.tmp 4] ?_
 unfold Tryz.f38
 simp only [gS]
 refine .seq (.r2 G 9 [(2, .hp 0 0), (3, .hp 1 0)] [.own (ai.c a), .own (ai.c y)] (.seq ?_))
 obtain ⟨e, b, f, d, hr⟩ := bd2 hr
 refine .gn G (ca1 (ok0 (dh n a y e b)) (ca3 (ok0 (iJ n e f d)))) (.mu 2 (.ca cf0 (.ca (cfF cf0) (.mu 1 (.done (.ret ?_))))))
 obtain rfl := oi hr
 exact aL.r1 [aj f]

theorem pV (n : Nat) (d : ai) (y : ai) (r : Bool) (hr : jG n d y = some r) : aN Tryz.prog 32 [.agg (ai.c d), .agg (ai.c y)] (aB r) := by
 unfold jG at hr
 refine aN.bd G Tryz.func32 [.tmp 4] ?_
 unfold Tryz.f32
 simp only [gS]
 refine .seq (.r2 G 17 [(2, .hp 0 0), (3, .hp 1 0)] [.own (ai.c d), .own (ai.c y)] (.seq ?_))
 obtain ⟨j, a, hr⟩ := bd hr
 rcases bT j with e | e
 ·subst e
  replace hr := cI rfl hr
  obtain ⟨k, b, hr⟩ := bd hr
  rcases bT k with f | f
  ·subst f
   replace hr := cI rfl hr
   obtain ⟨i, g, hr⟩ := bd hr
   refine .gn G (ca1 (ok0 (cP n d true a)) (ca1 (ok0 (cP n y true b)) (ca3 (ok0 (dJ n d y i g))))) (.mu 1 (.ca cf0 (.mu 2 (.ca (cfA (fun h => by rw [sv b a (jW n h)]) cf0) (.mu 4 (.ca (cfF (cfF cf0)) (.mu 3 (.done (.ret ?_)))))))))
   obtain rfl := oi hr
   exact aL.r1 [aB ((i : Int) == 0)]
  subst f
  replace hr := cJ rfl hr
  refine .gn G (ca1 (ok0 (cP n d true a)) (ca3 (ok0 (cP n y false b)))) (.mu 1 (.ca cf0 (.mu 2 (.ca (cfA (fun h => by rw [sv b a (jW n h)]) cf0) (.mu 8 (.done (.ret ?_)))))))
  obtain rfl := oi hr
  exact aL.r1 [aB false]
 subst e
 replace hr := cJ rfl hr
 refine .g1 G (ok0 (cP n d false a)) (.mu 1 (.ca cf0 (.mu 11 (.done (.ret ?_)))))
 obtain rfl := oi hr
 exact aL.r1 [aB false]

def kU : List AV -> Option (List Int)
  | [] => some []
  | .at (.int .u32 n) :: l => (match kU l with | some r => some (n :: r) | none => none)
  | _ => none
theorem FF : ∀ (cs : List AV) (g : List Int), kU cs = some g -> cs = g.flatMap iCu
  | [], g, h => by cases h; rfl
  | c :: l, g, h => by
    unfold kU at h
    split at h
    · rename_i e; cases e
    · rename_i n a e
      cases e
      split at h
      · rename_i r hr
        cases h
        rw [FF _ r hr]; rfl
      · cases h
    · cases h
def kS : AV -> Option (List Int)
  | .at (.slice none 0 0) => some []
  | .sl _ cs len => (match kU cs with | some g => (match Nat.beq len g.length with | true => some g | false => none) | none => none)
  | _ => none
theorem FW {x : AV} {g : List Int} (h : kS x = some g) : rZ x (slT iCu g) := by
  unfold kS at h
  split at h
  ·cases h
   exact fun _ _ _ _ hv => .inl ⟨rfl, rfl, rfl, hv⟩
  ·rename_i nl cs len
   split at h
   ·rename_i d hg
    split at h
    ·rename_i hl
     cases h
     have e := FF _ _ hg
     have hl := Nat.eq_of_beq_eq_true hl
     subst hl
     rw [e]
     rintro w mu π v (⟨_, a, b, c⟩ | hv)
     ·exact .inl ⟨rfl, a, b, c⟩
     exact .inr hv
    cases h
   cases h
  cases h
def kQ : AV -> Option ai
  | .agg [.at (.bool a), x, .at (.bool b), y] => (match kS x, kS y with | some g, some h => some (ai.mk (ah.mk a g) (ah.mk b h)) | _, _ => none)
  | _ => none
theorem Eh {x : AV} {r : ai} (h : kQ x = some r) : rZ x (.agg (ai.c r)) := by
  unfold kQ at h
  split at h
  ·rename_i a x b y
   split at h
   ·rename_i g A hg hh
    cases h
    rintro w mu π v ⟨vs, rfl, j, d, e1, k, l, e, m, n, o, f, p, q, s, i, t, u, z⟩
    exact ⟨vs, rfl, j, d, e1, k, l, e, m, FW hg _ _ _ _ n, o, f, p, q, s, i, t, FW hh _ _ _ _ u, z⟩
   cases h
  cases h
noncomputable def kF2 {ρ : Type} (op : ai -> ai -> Option ρ) (c : ρ -> AV) : List AV -> Option AV
  | [x, y] => (match kQ x, kQ y with | some a, some b => (match op a b with | some r => some (c r) | none => none) | _, _ => none)
  | _ => none
noncomputable def kF1 {ρ : Type} (op : ai -> Option ρ) (c : ρ -> AV) : List AV -> Option AV
  | [x] => (match kQ x with | some a => (match op a with | some r => some (c r) | none => none) | _ => none)
  | _ => none
noncomputable def kI2 {ρ : Type} (op : Int -> Int -> Option ρ) (c : ρ -> AV) : List AV -> Option AV
  | [.at (.int .i64 a), .at (.int .i64 b)] => (match op a b with | some r => some (c r) | none => none)
  | _ => none
noncomputable def kI1 {ρ : Type} (op : Int -> Option ρ) (c : ρ -> AV) : List AV -> Option AV
  | [.at (.int .i64 a)] => (match op a with | some r => some (c r) | none => none)
  | _ => none
theorem tq {P : Program} {f : FuncId} {ρ : Type} {op : ai -> ai -> Option ρ} {c : ρ -> AV} (h : ∀ a b r, op a b = some r -> aN P f [.agg (ai.c a), .agg (ai.c b)] (c r)) : mZ P f (kF2 op c) := by
  intro args r hr out w vs ho ha
  unfold kF2 at hr
  split at hr
  ·split at hr
   ·rename_i a b d h2
    split at hr
    ·rename_i q hq
     cases hr
     obtain ⟨g, i, rfl, j, k, l, rfl, m, e⟩ := ha
     exact h a b q hq out w _ ho ⟨g, _, rfl, Eh d _ _ _ _ j, k, _, rfl, Eh h2 _ _ _ _ m, e⟩
    cases hr
   cases hr
  cases hr
theorem Ee {P : Program} {f : FuncId} {ρ : Type} {op : ai -> Option ρ} {c : ρ -> AV} (h : ∀ a r, op a = some r -> aN P f [.agg (ai.c a)] (c r)) : mZ P f (kF1 op c) := by
  intro args r hr out w vs ho ha
  unfold kF1 at hr
  split at hr
  ·split at hr
   ·rename_i a b
    split at hr
    ·rename_i q hq
     cases hr
     obtain ⟨d, g, rfl, i, e⟩ := ha
     exact h a q hq out w _ ho ⟨d, _, rfl, Eh b _ _ _ _ i, e⟩
    cases hr
   cases hr
  cases hr
theorem Eg {P : Program} {f : FuncId} {ρ : Type} {op : Int -> Int -> Option ρ} {c : ρ -> AV} (h : ∀ a b r, op a b = some r -> aN P f [aj a, aj b] (c r)) : mZ P f (kI2 op c) := by
  intro args r hr out w vs ho ha
  unfold kI2 at hr
  split at hr
  ·split at hr
   ·rename_i q hq
    cases hr
    exact h _ _ q hq out w vs ho ha
   cases hr
  cases hr
theorem GH {P : Program} {f : FuncId} {ρ : Type} {op : Int -> Option ρ} {c : ρ -> AV} (h : ∀ a r, op a = some r -> aN P f [aj a] (c r)) : mZ P f (kI1 op c) := by
  intro args r hr out w vs ho ha
  unfold kI1 at hr
  split at hr
  ·split at hr
   ·rename_i q hq
    cases hr
    exact h _ q hq out w vs ho ha
   cases hr
  cases hr
noncomputable def kLr : List AV -> Option AV
  | [.agg [a, b, c, d, e, .sl _ cs len], l] => (match tR [a, b, c, d, e, .sl true cs len, l] (al.c exG ++ [aj 1]) with | true => some (slT ak.c exL) | false => none)
  | _ => none
theorem Gz : mZ Tryz.prog 45 kLr := by
  intro args r hr out w vs ho ha
  unfold kLr at hr
  split at hr
  ·rename_i a b c d e nl cs len l
   split at hr
   ·rename_i hq
    cases hr
    have hq := mv _ _ hq
    refine ov 20000 exG 1 exL DL out w vs ho ?_
    have e0 : al.c exG ++ [aj 1] = [aj exG.X0, aj exG.Y0, aj exG.Step, aj exG.Width, aj exG.Height, slT (iC .i64) exG.Z, aj 1] := rfl
    rw [e0] at hq
    simp only [List.cons.injEq, and_true] at hq
    obtain ⟨rfl, rfl, rfl, rfl, rfl, hz, rfl⟩ := hq
    obtain ⟨I, f, rfl, ⟨ws, rfl, n, g, e1, o, p, h, q, s, t, i, u, v, x, j, y, z, A, k, B, C, D, m, E, F, H⟩, hrest⟩ := ha
    refine ⟨_, f, rfl, ⟨ws, rfl, n, g, e1, o, p, h, q, s, t, i, u, v, x, j, y, z, A, k, B, C, D, m, E, ?_, H⟩, hrest⟩
    rw [<- hz]
    rcases F with ⟨_, a, b, c⟩ | hv
    ·exact .inl ⟨rfl, a, b, c⟩
    exact .inr hv
   cases hr
  cases hr
noncomputable def kT : List (Nat × (List AV -> Option AV)) := [
  (45, kLr),
  (80, kF2 (mr 20000) fun r => .agg (ai.c r)),
  (75, kF2 (oQ 20000) fun r => .agg (ai.c r)),
  (78, kF2 (pz 20000) fun r => .agg (ai.c r)),
  (119, kF2 (lX 20000) fun r => .tup [.agg (ai.c r.1), aj r.2]),
  (102, kF2 (kF 20000) fun r => aj r),
  (107, kF1 (nH 20000) fun r => aj r),
  (101, kF1 (jV 20000) fun r => .at (.bool r)),
  (61, kI1 (kr 20000) fun r => .agg (ai.c r)),
  (118, kI2 (jL 20000) fun r => .tup [.agg (ai.c r.1), aj r.2]),
  (36, kI2 (kW 20000) fun r => .tup [.agg (ai.c r.1), aj r.2]),
  (32, kF2 (jG 20000) fun r => .at (.bool r))]
theorem Hl : ∀ q ∈ kT, mZ Tryz.prog q.1 q.2 := by
  unfold kT
  simp only [List.forall_mem_cons]
  exact ⟨Gz, tq fun a b r h => pP 20000 a b r h, tq fun a b r h => uJ 20000 a b r h, tq fun a b r h => uN 20000 a b r h, tq fun a b r h => rS 20000 a b r h, tq fun a b r h => rj 20000 a b r h, Ee fun a r h => tT 20000 a r h, Ee fun a r h => nr 20000 a r h, GH fun a r h => ns 20000 a r h, Eg fun a b r h => qg 20000 a b r h, Eg fun a b r h => ri 20000 a b r h, tq fun a b r h => pV 20000 a b r h, fun _ h => (by cases h)⟩
noncomputable def kX (f : Nat) : List (Nat × (List AV -> Option AV)) -> Option (List AV -> Option AV)
  | [] => none
  | (g, F) :: l => match Nat.beq f g with | true => some F | false => kX f l
theorem FH {P : Program} {f : Nat} {F : List AV -> Option AV} : ∀ l : List (Nat × (List AV -> Option AV)), (∀ q ∈ l, mZ P q.1 q.2) -> kX f l = some F -> mZ P f F
  | [], _, h => by cases h
  | (g, F') :: l, hl, h => by
    unfold kX at h
    split at h
    · rename_i e
      cases h
      rw [Nat.eq_of_beq_eq_true e]; exact hl (g, F) (by simp)
    · exact FH l (fun q hq => hl q (List.mem_cons_of_mem _ hq)) h
def kN (l : List Nat) (f : Nat) : Bool := match l with | [] => false | x :: xs => (match Nat.beq x f with | true => true | false => kN xs f)
def kM (f : Nat) : Md := match kN [89, 72, 117, 110, 149, 52, 97, 132] f with | true => .inl | false => (match kN [111] f with | true => .mut | false => .loc)
theorem HZ : ∃ fn, Tryz.prog.funcs[12]? = some fn /\ vf Tryz.prog (jO Tryz.prog kM (fun f => kX f kT) 40) 60 fn [] = some (.at (.bool true)) := ⟨_, rfl, by kernel_rfl⟩
theorem pt (n : Nat) (r : Bool) (hr : jn n = some r) : aN Tryz.prog 12 [] (.at (.bool r)) := by
  cases hr
  obtain ⟨fn, a, h2⟩ := HZ
  exact aN.Gg G.ng G.mo (fun f F h => FH kT Hl h) a h2

theorem jc (n : Nat) (g : al) (a : Int) (r : Bool) (hr : kg n g a = some r) : aN Tryz.prog 13 [.agg (al.c g), aj a] (aB r) := by
 unfold kg at hr
 refine aN.bd G Tryz.func13 [.tmp 4] ?_
 unfold Tryz.f13
 simp only [gS]
 refine .seq (.r5 G [1] [(2, .hp 0 0)] [.own (al.c g)] (.seq (.ru G (.ret ?_))))
 obtain rfl := oi hr
 exact aL.r1 [aB (decide ((g.Z.length : Int) <= a))]

theorem p9 (n : Nat) {b : Int} {a : Int} (h : ([.at (.int .i64 b)] : List AV) = [.at (.int .i64 a)]) : dC n b = dC n a := by
 obtain rfl := gT h
 rfl
theorem gb (n : Nat) (b : Int) (r : Bool) (hr : dC n b = some r) : aN Tryz.prog 62 [aj b] (aB r) := by
 unfold dC at hr
 refine aN.bd G Tryz.func62 [.tmp 2] ?_
 unfold Tryz.f62
 simp only [gS]
 refine .seq (.r4 G [0] [] (.seq ?_))
 rcases bT (decide (b < (-1048576))) with a | a
 ·replace hr := cI a hr
  refine .r0 G (.mu 1 (.p0 (v := aB true) (eB a) (.mu 5 (.done (.ret ?_)))))
  obtain rfl := oi hr
  exact aL.r1 [aB true]
 replace hr := cJ a hr
 refine .r0 G (.mu 1 (.p0 (v := aB false) (eB a) (.mu 5 (.done (.ret ?_)))))
 obtain rfl := oi hr
 exact aL.r1 [aB (decide (b > 1048576))]

theorem pH (n : Nat) (g : al) (r : Int) (hr : fo n g = some r) : aN Tryz.prog 23 [.agg (al.c g)] (aj r) := by
 unfold fo at hr
 refine aN.bd G Tryz.func23 [.tmp 2] ?_
 unfold Tryz.f23
 simp only [gS]
 refine .seq (.r2 G 72 [(1, .hp 0 0)] [.own (al.c g)] (.seq (.seq ?_)))
 rcases bT (decide (g.Width < 2)) with b | b
 ·replace hr := cI b hr
  refine .r0 G (.mu 2 (.p0 (v := aB true) (eB b) (.mu 41 (.done (.nh [1, 48] [.own (al.c g)] (.cT kRf (.seq (.ru G (.ret ?_)))))))))
  obtain rfl := oi hr
  exact aL.r1 [aj 2]
 replace hr := cJ b hr
 rcases bT (decide (g.Width > 64)) with d | d
 ·replace hr := cI d hr
  refine .r0 G (.mu 2 (.p0 (v := aB false) (eB b) (.mu 3 (.pure (v := aB true) kRf (eB d) (.mu 37 (.done (.nh [1, 48] [.own (al.c g)] (.cT kRf (.seq (.ru G (.ret ?_)))))))))))
  obtain rfl := oi hr
  exact aL.r1 [aj 2]
 replace hr := cJ d hr
 rcases bT (decide (g.Height < 2)) with f | f
 ·replace hr := cI f hr
  refine .r0 G (.mu 2 (.p0 (v := aB false) (eB b) (.mu 3 (.pure (v := aB false) kRf (eB d) (.mu 4 (.pure (v := aB true) kRf (eB f) (.mu 32 (.done (.nh [1, 48] [.own (al.c g)] (.cT kRf (.seq (.ru G (.ret ?_)))))))))))))
  obtain rfl := oi hr
  exact aL.r1 [aj 2]
 replace hr := cJ f hr
 rcases bT (decide (g.Height > 64)) with i | i
 ·replace hr := cI i hr
  refine .r0 G (.mu 2 (.p0 (v := aB false) (eB b) (.mu 3 (.pure (v := aB false) kRf (eB d) (.mu 4 (.pure (v := aB false) kRf (eB f) (.mu 4 (.pure (v := aB true) kRf (eB i) (.mu 27 (.done (.nh [1, 48] [.own (al.c g)] (.cT kRf (.seq (.ru G (.ret ?_)))))))))))))))
  obtain rfl := oi hr
  exact aL.r1 [aj 2]
 replace hr := cJ i hr
 rcases bT (decide (g.Step < 2)) with j | j
 ·replace hr := cI j hr
  refine .r0 G (.mu 2 (.p0 (v := aB false) (eB b) (.mu 3 (.pure (v := aB false) kRf (eB d) (.mu 4 (.pure (v := aB false) kRf (eB f) (.mu 4 (.pure (v := aB false) kRf (eB i) (.mu 4 (.pure (v := aB true) kRf (eB j) (.mu 22 (.done (.nh [1, 48] [.own (al.c g)] (.cT kRf (.seq (.ru G (.ret ?_)))))))))))))))))
  obtain rfl := oi hr
  exact aL.r1 [aj 2]
 replace hr := cJ j hr
 rcases bT (decide (g.Step > 65536)) with l | l
 ·replace hr := cI l hr
  refine .r0 G (.mu 2 (.p0 (v := aB false) (eB b) (.mu 3 (.pure (v := aB false) kRf (eB d) (.mu 4 (.pure (v := aB false) kRf (eB f) (.mu 4 (.pure (v := aB false) kRf (eB i) (.mu 4 (.pure (v := aB false) kRf (eB j) (.mu 4 (.pure (v := aB true) kRf (eB l) (.mu 17 (.done (.nh [1, 48] [.own (al.c g)] (.cT kRf (.seq (.ru G (.ret ?_)))))))))))))))))))
  obtain rfl := oi hr
  exact aL.r1 [aj 2]
 replace hr := cJ l hr
 rcases bT (((g.Step.tmod 2) : Int) != 0) with o | o
 ·replace hr := cI o hr
  refine .r0 G (.mu 2 (.p0 (v := aB false) (eB b) (.mu 3 (.pure (v := aB false) kRf (eB d) (.mu 4 (.pure (v := aB false) kRf (eB f) (.mu 4 (.pure (v := aB false) kRf (eB i) (.mu 4 (.pure (v := aB false) kRf (eB j) (.mu 4 (.pure (v := aB false) kRf (eB l) (.mu 5 (.pure (v := aB true) kRf (eB o) (.mu 11 (.done (.nh [1, 48] [.own (al.c g)] (.cT kRf (.seq (.ru G (.ret ?_)))))))))))))))))))))
  obtain rfl := oi hr
  exact aL.r1 [aj 2]
 replace hr := cJ o hr
 obtain ⟨F, u, hr⟩ := bd hr
 rcases bT F with p | p
 ·subst p
  replace hr := cI rfl hr
  refine .g1 G (ok0 (gb n g.X0 true u)) (.mu 2 (.p0 (v := aB false) (eB b) (.mu 3 (.pure (v := aB false) kRf (eB d) (.mu 4 (.pure (v := aB false) kRf (eB f) (.mu 4 (.pure (v := aB false) kRf (eB i) (.mu 4 (.pure (v := aB false) kRf (eB j) (.mu 4 (.pure (v := aB false) kRf (eB l) (.mu 5 (.pure (v := aB false) kRf (eB o) (.mu 4 (.ca cf0 (.mu 6 (.done (.nh [1, 48] [.own (al.c g)] (.cT kRf (.seq (.ru G (.ret ?_)))))))))))))))))))))))
  obtain rfl := oi hr
  exact aL.r1 [aj 2]
 subst p
 replace hr := cJ rfl hr
 obtain ⟨z, s, hr⟩ := bd hr
 refine .gn G (ca1 (ok0 (gb n g.X0 false u)) (ca3 (ok0 (gb n g.Y0 z s)))) (.mu 2 (.p0 (v := aB false) (eB b) (.mu 3 (.pure (v := aB false) kRf (eB d) (.mu 4 (.pure (v := aB false) kRf (eB f) (.mu 4 (.pure (v := aB false) kRf (eB i) (.mu 4 (.pure (v := aB false) kRf (eB j) (.mu 4 (.pure (v := aB false) kRf (eB l) (.mu 5 (.pure (v := aB false) kRf (eB o) (.mu 4 (.ca cf0 (.mu 4 (.ca (cfA (fun h => by rw [sv s u (p9 n h)]) cf0) (.mu 1 (.done (.nh [1, 48] [.own (al.c g)] ?_)))))))))))))))))))))
 refine .cd hr ?_ ?_ <;> intro B hr
 ·refine .seq (.ru G (.ret ?_))
  obtain rfl := oi hr
  exact aL.r1 [aj 2]
 refine .skip (.seq (.seq (.r4 G [1] [(57, aB (((g.Z.length : Int) : Int) != (IE (g.Width * g.Height))))] ?_)))
 refine .cd hr ?_ ?_ <;> intro C hr
 ·refine .seq (.ru G (.ret ?_))
  obtain rfl := oi hr
  exact aL.r1 [aj 4]
 refine .skip (.seq (.seq (.r3 G 72 [(59, eC g.Z), (60, aj (g.Z.length : Int)), (61, aj 0)] (.block ?_))))
 replace hr := bd hr; obtain ⟨w, q, hr⟩ := hr
 refine .aP (σ := fun H => match H with | a => ⟨mkS 72 0 [(59, eC g.Z), (60, aj (g.Z.length : Int)), (61, aj a)], []⟩) (Q := fun x st' => match (generalizing := false) w with | .inl _ => x = .exit 0 /\ Wk 0 st' ⟨mkS 72 0 [], []⟩ | .inr (r0) => x = .ret /\ aL Tryz.prog [.tmp 2] (aj r0) .ret st') q ((Wk.gc [59, 60, 61] [] rfl pK0).to) ?_ ?_
 ·clear hr
  rintro m a hr
  refine CQ.sh ?_
  refine .seq (.r4 G [59, 60, 61] [(62, aB (decide (a < (g.Z.length : Int))))] (.seq ?_))
  refine .cd hr ?_ ?_ <;> intro D hr
  ·refine .skip (.seq (.block (.seq ?_)))
   obtain ⟨t, hr⟩ := gd hr
   refine .r0 G (.p0 (v := .pp (g.Z.flatMap (iC .i64)) (a.toNat * 1)) (tr (aw t)) (.p0 (v := aj (gt g.Z a)) (tr (aR (aS (aK .i64) (aI t) z1 (by omega : a.toNat * 1 = a.toNat * 1 + 0) kRf))) (.mu 1 (.done (.nh [4, 59, 60, 61] [] (.seq ?_))))))
   rcases bT (((gt g.Z a) : Int) != (-2147483648)) with k | k
   ·replace hr := cI k hr
    obtain ⟨A, y, hr⟩ := bd hr
    refine .g1 G (ok0 (gb n (gt g.Z a) A y)) (.mu 1 (.p0 (v := aB true) (eB k) (.mu 2 (.ca cf0 (.mu 1 (.done (.nh [59, 60, 61, 70] [] ?_)))))))
    refine .cd hr ?_ ?_ <;> intro E hr
    ·refine .seq (.ru G (.ret ?_))
     obtain rfl := oi hr
     exact ⟨rfl, aL.ret (vs := [aj 2]) kRf (Sn.pure rfl)⟩
    refine .skip (.pop (.ru G ?_))
    exact aE (IE (a + 1)) hr ((Wk.gc [59, 60, 61] [] rfl pK0).to)
   replace hr := cJ k hr
   refine .r0 G (.mu 1 (.p0 (v := aB false) (eB k) (.mu 4 (.done (.nh [59, 60, 61, 70] [] (.cF kRf (.skip (.pop (.ru G ?_)))))))))
   exact aE (IE (a + 1)) hr ((Wk.gc [59, 60, 61] [] rfl pK0).to)
  refine .leave rfl ?_
  obtain rfl := oi hr
  exact ⟨rfl, ((Wk.gc [] [] rfl pK0).to)⟩
 rcases w with ⟨⟩ | r0
 ·rintro x st' e
  clear q
  obtain ⟨rfl, e⟩ := e
  refine bb _ rfl (.wk e (.seq (.ru G (.ret ?_))))
  obtain rfl := oi hr
  exact aL.r1 [aj 0]
 rintro x st' e
 clear q
 obtain ⟨rfl, e⟩ := e
 obtain rfl := oi hr
 exact jm _ e

theorem jl {g : al} {level : Int} {a : al} {level_ : Int} (h : ([.agg [.at (.int .i64 g.X0), .at (.int .i64 g.Y0), .at (.int .i64 g.Step), .at (.int .i64 g.Width), .at (.int .i64 g.Height), slT (iC .i64) g.Z], .at (.int .i64 level)] : List AV) = [.agg [.at (.int .i64 a.X0), .at (.int .i64 a.Y0), .at (.int .i64 a.Step), .at (.int .i64 a.Width), .at (.int .i64 a.Height), slT (iC .i64) a.Z], .at (.int .i64 level_)]) : g = a /\ level = level_ := by
 obtain ⟨_, _, _, _, _, _⟩ := g
 obtain ⟨_, _, _, _, _, _⟩ := a
 simp only [List.cons.injEq, AV.agg.injEq, AV.at.injEq, Value.int.injEq, Value.bool.injEq, AV.fn.injEq, AV.pp.injEq, true_and, and_true, dR] at h
 simp_all
theorem nU (n : Nat) {g : al} {level : Int} {a : al} {level_ : Int} (h : ([.agg [.at (.int .i64 g.X0), .at (.int .i64 g.Y0), .at (.int .i64 g.Step), .at (.int .i64 g.Width), .at (.int .i64 g.Height), slT (iC .i64) g.Z], .at (.int .i64 level)] : List AV) = [.agg [.at (.int .i64 a.X0), .at (.int .i64 a.Y0), .at (.int .i64 a.Step), .at (.int .i64 a.Width), .at (.int .i64 a.Height), slT (iC .i64) a.Z], .at (.int .i64 level_)]) : cx n g level = cx n a level_ := by
 obtain ⟨rfl, rfl⟩ := jl h
 rfl
theorem gv (n : Nat) (g : al) (level : Int) (r : Int) (hr : cx n g level = some r) : aN Tryz.prog 15 [.agg (al.c g), aj level] (aj r) := by
 unfold cx at hr
 refine aN.bd G Tryz.func15 [.tmp 4] ?_
 unfold Tryz.f15
 simp only [gS]
 refine .seq (.r5 G [1] [(2, .hp 0 0)] [.own (al.c g)] (.seq (.seq ?_)))
 obtain ⟨b, d, hr⟩ := bd hr
 refine .g1 G (ok0 (pH n g b d)) (.mu 1 (.ca cf0 (.mu 1 (.done (.nh [1, 5] [.own (al.c g)] (.seq (.r4 G [1, 5] [(9, aB ((b : Int) != 0))] ?_)))))))
 refine .cd hr ?_ ?_ <;> intro e hr
 ·refine .seq (.ru G (.ret ?_))
  obtain rfl := oi hr
  exact aL.r1 [aj b]
 refine .skip (.seq (.seq (.r4 G [1] [(13, aB (((level.tmod 2) : Int) == 0))] ?_)))
 refine .cd hr ?_ ?_ <;> intro f hr
 ·refine .seq (.ru G (.ret ?_))
  obtain rfl := oi hr
  exact aL.r1 [aj 1]
 refine .skip (.seq (.seq ?_))
 rcases bT (decide (level < (-2097153))) with a | a
 ·replace hr := cI a hr
  refine .r0 G (.mu 1 (.p0 (v := aB true) (eB a) (.mu 4 (.done (.nh [19] [.own (al.c g)] (.cT kRf (.seq (.ru G (.ret ?_)))))))))
  obtain rfl := oi hr
  exact aL.r1 [aj 2]
 replace hr := cJ a hr
 refine .r0 G (.mu 1 (.p0 (v := aB false) (eB a) (.mu 4 (.done (.nh [19] [.own (al.c g)] ?_)))))
 refine .cd hr ?_ ?_ <;> intro h hr
 ·refine .seq (.ru G (.ret ?_))
  obtain rfl := oi hr
  exact aL.r1 [aj 2]
 refine .skip (.seq (.ru G (.ret ?_)))
 obtain rfl := oi hr
 exact aL.r1 [aj 0]

theorem eL (n : Nat) {b : Int} {a : Int} (h : ([.at (.int .i64 b)] : List AV) = [.at (.int .i64 a)]) : eu n b = eu n a := by
 obtain rfl := gT h
 rfl
theorem bG (n : Nat) (b : Int) (r : Bool) (hr : eu n b = some r) : aN Tryz.prog 103 [aj b] (aB r) := by
 unfold eu at hr
 refine aN.bd G Tryz.func103 [.tmp 2] ?_
 unfold Tryz.f103
 simp only [gS]
 refine .seq (.r4 G [0] [] (.seq ?_))
 rcases bT (decide (b >= 2)) with a | a
 ·replace hr := cI a hr
  refine .r0 G (.mu 1 (.p0 (v := aB true) (eB a) (.mu 5 (.done (.ret ?_)))))
  obtain rfl := oi hr
  exact aL.r1 [aB (decide (b <= 64))]
 replace hr := cJ a hr
 refine .r0 G (.mu 1 (.p0 (v := aB false) (eB a) (.mu 5 (.done (.ret ?_)))))
 obtain rfl := oi hr
 exact aL.r1 [aB false]

theorem vP (n : Nat) {b : Int} {a : Int} (h : ([.at (.int .i64 b)] : List AV) = [.at (.int .i64 a)]) : gW n b = gW n a := by
 obtain rfl := gT h
 rfl
theorem kp (n : Nat) (b : Int) (r : Bool) (hr : gW n b = some r) : aN Tryz.prog 104 [aj b] (aB r) := by
 unfold gW at hr
 refine aN.bd G Tryz.func104 [.tmp 2] ?_
 unfold Tryz.f104
 simp only [gS]
 refine .seq (.r4 G [0] [] (.seq ?_))
 rcases bT (decide (b < (-1048576))) with a | a
 ·replace hr := cI a hr
  refine .r0 G (.mu 1 (.p0 (v := aB true) (eB a) (.mu 5 (.done (.ret ?_)))))
  obtain rfl := oi hr
  exact aL.r1 [aB true]
 replace hr := cJ a hr
 refine .r0 G (.mu 1 (.p0 (v := aB false) (eB a) (.mu 5 (.done (.ret ?_)))))
 obtain rfl := oi hr
 exact aL.r1 [aB (decide (b > 1048576))]

theorem sg (n : Nat) (z : Int) (r : Bool) (hr : im n z = some r) : aN Tryz.prog 106 [aj z] (aB r) := by
 unfold im at hr
 refine aN.bd G Tryz.func106 [.tmp 2] ?_
 unfold Tryz.f106
 simp only [gS]
 refine .seq (.r4 G [0] [] (.seq ?_))
 rcases bT ((z : Int) != (-2147483648)) with a | a
 ·replace hr := cI a hr
  obtain ⟨c, b, hr⟩ := bd hr
  refine .g1 G (ok0 (kp n z c b)) (.mu 1 (.p0 (v := aB true) (eB a) (.mu 2 (.ca cf0 (.mu 2 (.done (.ret ?_)))))))
  obtain rfl := oi hr
  exact aL.r1 [aB c]
 replace hr := cJ a hr
 refine .r0 G (.mu 1 (.p0 (v := aB false) (eB a) (.mu 5 (.done (.ret ?_)))))
 obtain rfl := oi hr
 exact aL.r1 [aB false]

theorem gC (n : Nat) (s : List Int) (r : Int) (hr : bU n s = some r) : aN Tryz.prog 146 [eC s, .fn 106 [] []] (aj r) := by
 unfold bU at hr
 refine aN.bd G Tryz.func146 [.tmp 4] ?_
 unfold Tryz.f146
 simp only [gS]
 refine .seq (.r4 G [0, 1] [] (.seq (.seq (.r4 G [0, 1] [(7, aj (s.length : Int)), (8, aj 0)] (.block ?_)))))
 replace hr := bd hr; obtain ⟨d, c, hr⟩ := hr
 refine .aP (σ := fun i => match i with | a => ⟨mkS 19 0 [(0, eC s), (1, .fn 106 [] []), (7, aj (s.length : Int)), (8, aj a)], []⟩) (Q := fun x st' => match (generalizing := false) d with | .inl _ => x = .exit 0 /\ Wk 0 st' ⟨mkS 19 0 [], []⟩ | .inr (r0) => x = .ret /\ aL Tryz.prog [.tmp 4] (aj r0) .ret st') c ((Wk.gc [0, 1, 7, 8] [] rfl pK0).to) ?_ ?_
 ·clear hr
  rintro m a hr
  refine CQ.sh ?_
  refine .seq (.r4 G [0, 1, 7, 8] [(9, aB (decide (a < (s.length : Int))))] (.seq ?_))
  refine .cd hr ?_ ?_ <;> intro j hr
  ·refine .skip (.seq (.block (.seq (.r4 G [0, 1, 7, 8] [(5, aj a)] (.seq ?_)))))
   obtain ⟨e, hr⟩ := gd hr
   obtain ⟨g, f, hr⟩ := bd hr
   refine .g1 G (ok0 (sg n (gt s a) g f)) (.mu 3 (.p0 (v := .pp (s.flatMap (iC .i64)) (a.toNat * 1)) (tr (aw e)) (.p0 (v := aj (gt s a)) (tr (aR (aS (aK .i64) (aI e) z1 (by omega : a.toNat * 1 = a.toNat * 1 + 0) kRf))) (.ca cf0 (.done (.nh [0, 1, 5, 7, 8, 16] [] ?_))))))
   refine .cd hr ?_ ?_ <;> intro h hr
   ·refine .seq (.ru G (.ret ?_))
    obtain rfl := oi hr
    exact ⟨rfl, aL.ret (vs := [aj a]) kRf (Sn.pure rfl)⟩
   refine .skip (.pop (.ru G ?_))
   exact aE (IE (a + 1)) hr ((Wk.gc [0, 1, 7, 8] [] rfl pK0).to)
  refine .leave rfl ?_
  obtain rfl := oi hr
  exact ⟨rfl, ((Wk.gc [] [] rfl pK0).to)⟩
 rcases d with ⟨⟩ | r0
 ·rintro x st' b
  clear c
  obtain ⟨rfl, b⟩ := b
  refine bb _ rfl (.wk b (.seq (.ru G (.ret ?_))))
  obtain rfl := oi hr
  exact aL.r1 [aj (-1)]
 rintro x st' b
 clear c
 obtain ⟨rfl, b⟩ := b
 obtain rfl := oi hr
 exact jm _ b

theorem fR (n : Nat) (s : List Int) (r : Bool) (hr : bj n s = some r) : aN Tryz.prog 105 [eC s, .fn 106 [] []] (aB r) := by
 unfold bj at hr
 refine aN.bd G Tryz.func105 [.tmp 4] ?_
 unfold Tryz.f105
 simp only [gS]
 refine .seq (.r4 G [0, 1] [] (.seq ?_))
 obtain ⟨b, a, hr⟩ := bd hr
 refine .g1 G (ok0 (gC n s b a)) (.mu 2 (.ca cf0 (.mu 2 (.done (.ret ?_)))))
 obtain rfl := oi hr
 exact aL.r1 [aB (decide (b >= 0))]

theorem tx (n : Nat) (g : al) (r : Int) (hr : jq n g = some r) : aN Tryz.prog 58 [.agg (al.c g)] (aj r) := by
 unfold jq at hr
 refine aN.bd G Tryz.func58 [.tmp 2] ?_
 unfold Tryz.f58
 simp only [gS]
 refine .seq (.r2 G 54 [(1, .hp 0 0)] [.own (al.c g)] (.seq (.r4 G [1] [(3, .fn 103 [] [])] (.seq (.seq ?_)))))
 obtain ⟨m, a, hr⟩ := bd hr
 rcases bT (!m) with d | d
 ·replace hr := cI d hr
  refine .g1 G (ok0 (bG n g.Width m a)) (.mu 3 (.ca cf0 (.p0 (v := aB true) (eB d) (.mu 33 (.done (.nh [1, 41] [.own (al.c g)] (.cT kRf (.seq (.ru G (.ret ?_))))))))))
  obtain rfl := oi hr
  exact aL.r1 [aj 2]
 replace hr := cJ d hr
 obtain ⟨p, b, hr⟩ := bd hr
 rcases bT (!p) with e | e
 ·replace hr := cI e hr
  refine .gn G (ca1 (ok0 (bG n g.Width m a)) (ca3 (ok0 (bG n g.Height p b)))) (.mu 3 (.ca cf0 (.p0 (v := aB false) (eB d) (.mu 4 (.ca (cfA (fun h => by rw [sv b a (eL n h)]) cf0) (.pure (v := aB true) kRf (eB e) (.mu 27 (.done (.nh [1, 41] [.own (al.c g)] (.cT kRf (.seq (.ru G (.ret ?_)))))))))))))
  obtain rfl := oi hr
  exact aL.r1 [aj 2]
 replace hr := cJ e hr
 rcases bT (decide (g.Step < 2)) with f | f
 ·replace hr := cI f hr
  refine .gn G (ca1 (ok0 (bG n g.Width m a)) (ca3 (ok0 (bG n g.Height p b)))) (.mu 3 (.ca cf0 (.p0 (v := aB false) (eB d) (.mu 4 (.ca (cfA (fun h => by rw [sv b a (eL n h)]) cf0) (.pure (v := aB false) kRf (eB e) (.mu 4 (.pure (v := aB true) kRf (eB f) (.mu 22 (.done (.nh [1, 41] [.own (al.c g)] (.cT kRf (.seq (.ru G (.ret ?_)))))))))))))))
  obtain rfl := oi hr
  exact aL.r1 [aj 2]
 replace hr := cJ f hr
 rcases bT (decide (g.Step > 65536)) with i | i
 ·replace hr := cI i hr
  refine .gn G (ca1 (ok0 (bG n g.Width m a)) (ca3 (ok0 (bG n g.Height p b)))) (.mu 3 (.ca cf0 (.p0 (v := aB false) (eB d) (.mu 4 (.ca (cfA (fun h => by rw [sv b a (eL n h)]) cf0) (.pure (v := aB false) kRf (eB e) (.mu 4 (.pure (v := aB false) kRf (eB f) (.mu 4 (.pure (v := aB true) kRf (eB i) (.mu 17 (.done (.nh [1, 41] [.own (al.c g)] (.cT kRf (.seq (.ru G (.ret ?_)))))))))))))))))
  obtain rfl := oi hr
  exact aL.r1 [aj 2]
 replace hr := cJ i hr
 rcases bT (((g.Step.tmod 2) : Int) != 0) with j | j
 ·replace hr := cI j hr
  refine .gn G (ca1 (ok0 (bG n g.Width m a)) (ca3 (ok0 (bG n g.Height p b)))) (.mu 3 (.ca cf0 (.p0 (v := aB false) (eB d) (.mu 4 (.ca (cfA (fun h => by rw [sv b a (eL n h)]) cf0) (.pure (v := aB false) kRf (eB e) (.mu 4 (.pure (v := aB false) kRf (eB f) (.mu 4 (.pure (v := aB false) kRf (eB i) (.mu 5 (.pure (v := aB true) kRf (eB j) (.mu 11 (.done (.nh [1, 41] [.own (al.c g)] (.cT kRf (.seq (.ru G (.ret ?_)))))))))))))))))))
  obtain rfl := oi hr
  exact aL.r1 [aj 2]
 replace hr := cJ j hr
 obtain ⟨s, k, hr⟩ := bd hr
 rcases bT s with l | l
 ·subst l
  replace hr := cI rfl hr
  refine .gn G (ca1 (ok0 (bG n g.Width m a)) (ca1 (ok0 (bG n g.Height p b)) (ca3 (ok0 (kp n g.X0 true k))))) (.mu 3 (.ca cf0 (.p0 (v := aB false) (eB d) (.mu 4 (.ca (cfA (fun h => by rw [sv b a (eL n h)]) cf0) (.pure (v := aB false) kRf (eB e) (.mu 4 (.pure (v := aB false) kRf (eB f) (.mu 4 (.pure (v := aB false) kRf (eB i) (.mu 5 (.pure (v := aB false) kRf (eB j) (.mu 4 (.ca (cfF (cfF cf0)) (.mu 6 (.done (.nh [1, 41] [.own (al.c g)] (.cT kRf (.seq (.ru G (.ret ?_)))))))))))))))))))))
  obtain rfl := oi hr
  exact aL.r1 [aj 2]
 subst l
 replace hr := cJ rfl hr
 obtain ⟨t, o, hr⟩ := bd hr
 refine .gn G (ca1 (ok0 (bG n g.Width m a)) (ca1 (ok0 (bG n g.Height p b)) (ca1 (ok0 (kp n g.X0 false k)) (ca3 (ok0 (kp n g.Y0 t o)))))) (.mu 3 (.ca cf0 (.p0 (v := aB false) (eB d) (.mu 4 (.ca (cfA (fun h => by rw [sv b a (eL n h)]) cf0) (.pure (v := aB false) kRf (eB e) (.mu 4 (.pure (v := aB false) kRf (eB f) (.mu 4 (.pure (v := aB false) kRf (eB i) (.mu 5 (.pure (v := aB false) kRf (eB j) (.mu 4 (.ca (cfF (cfF cf0)) (.mu 4 (.ca (cfF (cfF (cfA (fun h => by rw [sv o k (vP n h)]) cf0))) (.mu 1 (.done (.nh [1, 41] [.own (al.c g)] ?_)))))))))))))))))))
 refine .cd hr ?_ ?_ <;> intro w hr
 ·refine .seq (.ru G (.ret ?_))
  obtain rfl := oi hr
  exact aL.r1 [aj 2]
 refine .skip (.seq (.seq (.r4 G [1] [(50, aB (((g.Z.length : Int) : Int) != (IE (g.Width * g.Height))))] ?_)))
 refine .cd hr ?_ ?_ <;> intro x hr
 ·refine .seq (.ru G (.ret ?_))
  obtain rfl := oi hr
  exact aL.r1 [aj 4]
 refine .skip (.seq (.seq ?_))
 obtain ⟨u, q, hr⟩ := bd hr
 refine .g1 G (ok0 (fR n g.Z u q)) (.mu 2 (.ca cf0 (.done (.nh [53] [.own (al.c g)] ?_))))
 refine .cd hr ?_ ?_ <;> intro y hr
 ·refine .seq (.ru G (.ret ?_))
  obtain rfl := oi hr
  exact aL.r1 [aj 2]
 refine .skip (.seq (.ru G (.ret ?_)))
 obtain rfl := oi hr
 exact aL.r1 [aj 0]

theorem pX (n : Nat) (g : al) (level : Int) (r : Int) (hr : fG n g level = some r) : aN Tryz.prog 44 [.agg (al.c g), aj level] (aj r) := by
 unfold fG at hr
 refine aN.bd G Tryz.func44 [.tmp 4] ?_
 unfold Tryz.f44
 simp only [gS]
 refine .seq (.r5 G [1] [(2, .hp 0 0)] [.own (al.c g)] (.seq (.seq ?_)))
 obtain ⟨b, d, hr⟩ := bd hr
 refine .g1 G (ok0 (tx n g b d)) (.mu 1 (.ca cf0 (.mu 1 (.done (.nh [1, 5] [.own (al.c g)] (.seq (.r4 G [1, 5] [(9, aB ((b : Int) != 0))] ?_)))))))
 refine .cd hr ?_ ?_ <;> intro e hr
 ·refine .seq (.ru G (.ret ?_))
  obtain rfl := oi hr
  exact aL.r1 [aj b]
 refine .skip (.seq (.seq (.r4 G [1] [(13, aB (((level.tmod 2) : Int) == 0))] ?_)))
 refine .cd hr ?_ ?_ <;> intro f hr
 ·refine .seq (.ru G (.ret ?_))
  obtain rfl := oi hr
  exact aL.r1 [aj 1]
 refine .skip (.seq (.seq ?_))
 rcases bT (decide (level < (-2097153))) with a | a
 ·replace hr := cI a hr
  refine .r0 G (.mu 1 (.p0 (v := aB true) (eB a) (.mu 4 (.done (.nh [19] [.own (al.c g)] (.cT kRf (.seq (.ru G (.ret ?_)))))))))
  obtain rfl := oi hr
  exact aL.r1 [aj 2]
 replace hr := cJ a hr
 refine .r0 G (.mu 1 (.p0 (v := aB false) (eB a) (.mu 4 (.done (.nh [19] [.own (al.c g)] ?_)))))
 refine .cd hr ?_ ?_ <;> intro h hr
 ·refine .seq (.ru G (.ret ?_))
  obtain rfl := oi hr
  exact aL.r1 [aj 2]
 refine .skip (.seq (.ru G (.ret ?_)))
 obtain rfl := oi hr
 exact aL.r1 [aj 0]

theorem ou (n : Nat) (g : al) (level : Int) (r : List ak × Int) (hr : fz n g level = some r) : aN Tryz.prog 14 [.agg (al.c g), aj level] (.tup [slT ak.c r.1, aj r.2]) := by
 unfold fz at hr
 refine aN.bd G Tryz.func14 [.tmp 4, .tmp 5] ?_
 unfold Tryz.f14
 simp only [gS]
 refine .seq (.r5 G [1] [(2, .hp 0 0)] [.own (al.c g)] (.seq (.seq ?_)))
 obtain ⟨a, b, hr⟩ := bd hr
 refine .g1 G (ok0 (pX n g level a b)) (.mu 2 (.ca cf0 (.mu 1 (.done (.nh [1, 2, 6] [.own (al.c g)] (.seq (.r4 G [1, 2, 6] [(11, aB ((a : Int) != 0))] ?_)))))))
 refine .cd hr ?_ ?_ <;> intro f hr
 ·refine .seq (.r3 G 16 [(4, nS), (5, aj a)] (.ret ?_))
  obtain rfl := oi hr
  exact aL.ret (vs := [nS, aj a]) kRf (Sn.tup (SnL.cons Sn.fp (Sp SnL.nil)))
 refine .skip (.seq ?_)
 obtain ⟨e, d, hr⟩ := bd hr
 refine .g1 G (ok0 (ov n g level e d)) (.mu 2 (.ca cf0 (.mu 2 (.done (.ret ?_)))))
 obtain rfl := oi hr
 exact aL.ret (vs := [slT ak.c e, aj 0]) kRf (Sn.tup (Sp (Sp SnL.nil)))
end Go.L
