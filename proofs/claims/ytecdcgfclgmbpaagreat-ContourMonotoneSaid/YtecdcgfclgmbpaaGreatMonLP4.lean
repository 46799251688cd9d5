
import Derived.Test.YtecdcgfclgmbpaaGreatMonLP3
import Derived.Test.YtecdcgfclgmbpaaGreatL0Mons
import Derived.Test.YtecdcgfclgmbpaaGreatChecked
import Derived.KernelRfl
set_option linter.all false
set_option maxRecDepth 100000
set_option maxHeartbeats 4000000
namespace Go.L
open Go Go.Eng Go.Proofs
theorem pQ (n : Nat) (t : A3 Int) (p : Int) (p' : Int) (u : Int) (j : Int) (i : Int) (f : List Int) (g : Int) (e : Bool) (d : List Int) (b : Bool) (a : List Int) (r : Bool × List Int × Bool × List Int) (hr : fU n t p p' u j i f g e d b a = some r) : dk 5 Tryz.prog 117 [.agg (aw.c t), .hp 0 0, .hp 1 0, .hp 2 0, .hp 3 0, .hp 4 0] [.own [ae p, ae p', ae u, ae j, ae i, bf f], .own [ae g], .own [aB e, an d, aB b, an a], .own [.fn 79 [] []], .own [.fn 76 [] []]] (.tup []) [.own [ae p, ae p', ae u, ae j, ae i, bf f], .own [ae g], .own [aB r.1, an r.2.1, aB r.2.2.1, an r.2.2.2], .own [.fn 79 [] []], .own [.fn 76 [] []]] := by
 unfold fU at hr
 refine dk.kp G Tryz.func117 (c := (Tryz.f117.body).getD .skip) rfl (us := []) (s := mkS 104 0 [(0, .agg (aw.c t)), (1, .hp 0 0), (2, .hp 1 0), (3, .hp 2 0), (4, .hp 3 0), (5, .hp 4 0)]) (by kernel_rfl) (rs := []) rfl ?_
 unfold Tryz.f117
 simp only [gS]
 refine .seq (.r5 G [1, 2, 3, 4, 5] [(6, .hp 5 0)] [.own [ae p, ae p', ae u, ae j, ae i, bf f], .own [ae g], .own [aB e, an d, aB b, an a], .own [.fn 79 [] []], .own [.fn 76 [] []], .own (aw.c t)] (.seq (.r5 G [1, 2, 3, 4, 5, 6] [(7, .hp 6 0)] [.own [ae p, ae p', ae u, ae j, ae i, bf f], .own [ae g], .own [aB e, an d, aB b, an a], .own [.fn 79 [] []], .own [.fn 76 [] []], .own (aw.c t), .own [aB false, nS, aB false, nS, aB false, nS, aB false, nS, aB false, nS, aB false, nS]] (.seq (.r4 G [1, 2, 3, 4, 5, 6, 7] [(8, ae 0)] (.seq (.seq (.r4 G [1, 2, 3, 4, 5, 7, 8] [(12, .agg (aw.c t)), (13, ae 0)] (.block ?_)))))))))
 refine .Bf 4 (UNR.one ?_)
 refine .seq (.r4 G [1, 2, 3, 4, 5, 7, 8, 12, 13] [(14, aB true)] (.seq (.cT (by kernel_rfl) (.skip (.seq ?_)))))
 replace hr := bd hr; obtain ⟨vS, l6, hr⟩ := hr
 refine .vD (Q := fun x st' => match (generalizing := false) vS with | (k, l, o, q, mJ) => x = .normal /\ Wk 5 st' ⟨mkS 104 0 [(1, .hp 0 0), (2, .hp 1 0), (3, .hp 2 0), (4, .hp 3 0), (5, .hp 4 0), (7, .hp 5 0), (8, ae mJ), (12, .agg (aw.c t)), (13, ae 0)], [.own [ae p, ae p', ae u, ae j, ae i, bf f], .own [ae g], .own [aB e, an d, aB b, an a], .own [.fn 79 [] []], .own [.fn 76 [] []], .own [aB k, an l, aB o, an q, aB false, nS, aB false, nS, aB false, nS, aB false, nS]]⟩) ?_ ?_
 ·clear hr
  have hr := l6
  clear l6
  refine .block (.seq (.r4 G [1, 2, 3, 4, 5, 7, 8, 12, 13] [(9, ae 0), (10, ae t.e0)] (.seq ?_)))
  obtain ⟨vU, hr⟩ := gd hr
  obtain ⟨S, An, hr⟩ := bd hr
  refine .t1 G (ok0 (eJ n (Fj ((Fj (2 * (gt f t.e0))) - g)) 2 S An)) (.mu 4 (.pk (v := .pp (f.flatMap (iC .i64)) (t.e0.toNat * 1)) (tr (au vU)) (.pk (v := ae (gt f t.e0)) (tr (aG (aH (aE .i64) (aC vU) z1 (by omega : t.e0.toNat * 1 = t.e0.toNat * 1 + 0) (by kernel_rfl)))) (.mu 3 (.ca cf0 (.mu 5 ?_))))))
  refine .done ⟨by kernel_rfl, ?_⟩
  refine .nh [1, 2, 3, 4, 5, 7, 8, 9, 12, 13] [.own [ae p, ae p', ae u, ae j, ae i, bf f], .own [ae g], .own [aB e, an d, aB b, an a], .own [.fn 79 [] []], .own [.fn 76 [] []], .own (aw.c t), .own [aB S.1.Num.Negative, an S.1.Num.Groups, aB S.1.Den.Negative, an S.1.Den.Groups, aB false, nS, aB false, nS, aB false, nS, aB false, nS]] (.seq ?_)
  obtain ⟨Ca, Au, hr⟩ := bd hr
  refine .g1 G (ok0 (bc n S.1 Ca Au)) (.mu 3 (.ca cf0 (.mu 1 (.done (.nh [1, 2, 3, 4, 5, 7, 8, 12, 13, 35] [.own [ae p, ae p', ae u, ae j, ae i, bf f], .own [ae g], .own [aB e, an d, aB b, an a], .own [.fn 79 [] []], .own [.fn 76 [] []], .own (aw.c t), .own [aB S.1.Num.Negative, an S.1.Num.Groups, aB S.1.Den.Negative, an S.1.Den.Groups, aB false, nS, aB false, nS, aB false, nS, aB false, nS]] ?_)))))
  refine .cd hr ?_ ?_ <;> intro Ez hr
  ·refine .ru G (.pop ?_)
   obtain rfl := oi hr
   exact ⟨rfl, ((Wk.gc [1, 2, 3, 4, 5, 7, 8, 12, 13] [(0, true), (1, true), (2, true), (3, true), (4, true), (6, true)] rfl trivial).to)⟩
  refine .skip (.pop ?_)
  obtain rfl := oi hr
  exact ⟨rfl, ((Wk.gc [1, 2, 3, 4, 5, 7, 8, 12, 13] [(0, true), (1, true), (2, true), (3, true), (4, true), (6, true)] rfl trivial).to)⟩
 rcases vS with ⟨k, l, o, q, mJ⟩
 rintro x st' nz
 clear l6
 obtain ⟨rfl, nz⟩ := nz
 refine .wk nz (.ru G (UNR.next (.n2 104 [(1, .hp 0 0), (2, .hp 1 0), (3, .hp 2 0), (4, .hp 3 0), (5, .hp 4 0), (7, .hp 5 0), (8, ae mJ), (12, .agg (aw.c t)), (13, ae 1)] [.own [ae p, ae p', ae u, ae j, ae i, bf f], .own [ae g], .own [aB e, an d, aB b, an a], .own [.fn 79 [] []], .own [.fn 76 [] []], .own [aB k, an l, aB o, an q, aB false, nS, aB false, nS, aB false, nS, aB false, nS]] (.seq (.r4 G [1, 2, 3, 4, 5, 7, 8, 12, 13] [(14, aB true)] (.seq (.cT (by kernel_rfl) (.skip (.seq ?_)))))))))
 replace hr := bd hr; obtain ⟨xf, nG, hr⟩ := hr
 refine .vD (Q := fun x st' => match (generalizing := false) xf with | (y, z, A, B, n7) => x = .normal /\ Wk 5 st' ⟨mkS 104 0 [(1, .hp 0 0), (2, .hp 1 0), (3, .hp 2 0), (4, .hp 3 0), (5, .hp 4 0), (7, .hp 5 0), (8, ae n7), (12, .agg (aw.c t)), (13, ae 1)], [.own [ae p, ae p', ae u, ae j, ae i, bf f], .own [ae g], .own [aB e, an d, aB b, an a], .own [.fn 79 [] []], .own [.fn 76 [] []], .own [aB k, an l, aB o, an q, aB y, an z, aB A, an B, aB false, nS, aB false, nS]]⟩) ?_ ?_
 ·clear hr
  have hr := nG
  clear nG
  refine .block (.seq (.r4 G [1, 2, 3, 4, 5, 7, 8, 12, 13] [(9, ae 1), (10, ae t.e1)] (.seq ?_)))
  obtain ⟨vg, hr⟩ := gd hr
  obtain ⟨T, z9, hr⟩ := bd hr
  refine .t1 G (ok0 (eJ n (Fj ((Fj (2 * (gt f t.e1))) - g)) 2 T z9)) (.mu 4 (.pk (v := .pp (f.flatMap (iC .i64)) (t.e1.toNat * 1)) (tr (au vg)) (.pk (v := ae (gt f t.e1)) (tr (aG (aH (aE .i64) (aC vg) z1 (by omega : t.e1.toNat * 1 = t.e1.toNat * 1 + 0) (by kernel_rfl)))) (.mu 3 (.ca cf0 (.mu 5 ?_))))))
  refine .done ⟨by kernel_rfl, ?_⟩
  refine .nh [1, 2, 3, 4, 5, 7, 8, 9, 12, 13] [.own [ae p, ae p', ae u, ae j, ae i, bf f], .own [ae g], .own [aB e, an d, aB b, an a], .own [.fn 79 [] []], .own [.fn 76 [] []], .own [aB k, an l, aB o, an q, aB T.1.Num.Negative, an T.1.Num.Groups, aB T.1.Den.Negative, an T.1.Den.Groups, aB false, nS, aB false, nS]] (.seq ?_)
  obtain ⟨Co, By, hr⟩ := bd hr
  refine .g1 G (ok0 (bc n T.1 Co By)) (.mu 3 (.ca cf0 (.mu 1 (.done (.nh [1, 2, 3, 4, 5, 7, 8, 12, 13, 35] [.own [ae p, ae p', ae u, ae j, ae i, bf f], .own [ae g], .own [aB e, an d, aB b, an a], .own [.fn 79 [] []], .own [.fn 76 [] []], .own [aB k, an l, aB o, an q, aB T.1.Num.Negative, an T.1.Num.Groups, aB T.1.Den.Negative, an T.1.Den.Groups, aB false, nS, aB false, nS]] ?_)))))
  refine .cd hr ?_ ?_ <;> intro EF hr
  ·refine .ru G (.pop ?_)
   obtain rfl := oi hr
   exact ⟨rfl, ((Wk.gc [1, 2, 3, 4, 5, 7, 8, 12, 13] kT6 rfl trivial).to)⟩
  refine .skip (.pop ?_)
  obtain rfl := oi hr
  exact ⟨rfl, ((Wk.gc [1, 2, 3, 4, 5, 7, 8, 12, 13] kT6 rfl trivial).to)⟩
 rcases xf with ⟨y, z, A, B, n7⟩
 rintro x st' q9
 clear nG
 obtain ⟨rfl, q9⟩ := q9
 refine .wk q9 (.ru G (UNR.next (.n2 104 [(1, .hp 0 0), (2, .hp 1 0), (3, .hp 2 0), (4, .hp 3 0), (5, .hp 4 0), (7, .hp 5 0), (8, ae n7), (12, .agg (aw.c t)), (13, ae 2)] [.own [ae p, ae p', ae u, ae j, ae i, bf f], .own [ae g], .own [aB e, an d, aB b, an a], .own [.fn 79 [] []], .own [.fn 76 [] []], .own [aB k, an l, aB o, an q, aB y, an z, aB A, an B, aB false, nS, aB false, nS]] (.seq (.r4 G [1, 2, 3, 4, 5, 7, 8, 12, 13] [(14, aB true)] (.seq (.cT (by kernel_rfl) (.skip (.seq ?_)))))))))
 replace hr := bd hr; obtain ⟨xh, qq, hr⟩ := hr
 refine .vD (Q := fun x st' => match (generalizing := false) xh with | (ml, mc, jo, jJ, w) => x = .normal /\ Wk 5 st' ⟨mkS 104 0 [(1, .hp 0 0), (2, .hp 1 0), (3, .hp 2 0), (4, .hp 3 0), (5, .hp 4 0), (7, .hp 5 0), (8, ae w), (12, .agg (aw.c t)), (13, ae 2)], [.own [ae p, ae p', ae u, ae j, ae i, bf f], .own [ae g], .own [aB e, an d, aB b, an a], .own [.fn 79 [] []], .own [.fn 76 [] []], .own [aB k, an l, aB o, an q, aB y, an z, aB A, an B, aB ml, an mc, aB jo, an jJ]]⟩) ?_ ?_
 ·clear hr
  have hr := qq
  clear qq
  refine .block (.seq (.r4 G [1, 2, 3, 4, 5, 7, 8, 12, 13] [(9, ae 2), (10, ae t.e2)] (.seq ?_)))
  obtain ⟨wq, hr⟩ := gd hr
  obtain ⟨U, BX, hr⟩ := bd hr
  refine .t1 G (ok0 (eJ n (Fj ((Fj (2 * (gt f t.e2))) - g)) 2 U BX)) (.mu 4 (.pk (v := .pp (f.flatMap (iC .i64)) (t.e2.toNat * 1)) (tr (au wq)) (.pk (v := ae (gt f t.e2)) (tr (aG (aH (aE .i64) (aC wq) z1 (by omega : t.e2.toNat * 1 = t.e2.toNat * 1 + 0) (by kernel_rfl)))) (.mu 3 (.ca cf0 (.mu 5 ?_))))))
  refine .done ⟨by kernel_rfl, ?_⟩
  refine .nh [1, 2, 3, 4, 5, 7, 8, 9, 12, 13] [.own [ae p, ae p', ae u, ae j, ae i, bf f], .own [ae g], .own [aB e, an d, aB b, an a], .own [.fn 79 [] []], .own [.fn 76 [] []], .own [aB k, an l, aB o, an q, aB y, an z, aB A, an B, aB U.1.Num.Negative, an U.1.Num.Groups, aB U.1.Den.Negative, an U.1.Den.Groups]] (.seq ?_)
  obtain ⟨Cc, Ci, hr⟩ := bd hr
  refine .g1 G (ok0 (bc n U.1 Cc Ci)) (.mu 3 (.ca cf0 (.mu 1 (.done (.nh [1, 2, 3, 4, 5, 7, 8, 12, 13, 35] [.own [ae p, ae p', ae u, ae j, ae i, bf f], .own [ae g], .own [aB e, an d, aB b, an a], .own [.fn 79 [] []], .own [.fn 76 [] []], .own [aB k, an l, aB o, an q, aB y, an z, aB A, an B, aB U.1.Num.Negative, an U.1.Num.Groups, aB U.1.Den.Negative, an U.1.Den.Groups]] ?_)))))
  refine .cd hr ?_ ?_ <;> intro Eu hr
  ·refine .ru G (.pop ?_)
   obtain rfl := oi hr
   exact ⟨rfl, ((Wk.gc [1, 2, 3, 4, 5, 7, 8, 12, 13] kT6 rfl trivial).to)⟩
  refine .skip (.pop ?_)
  obtain rfl := oi hr
  exact ⟨rfl, ((Wk.gc [1, 2, 3, 4, 5, 7, 8, 12, 13] kT6 rfl trivial).to)⟩
 rcases xh with ⟨ml, mc, jo, jJ, w⟩
 rintro x st' qx
 clear qq
 obtain ⟨rfl, qx⟩ := qx
 refine .wk qx (.ru G (UNR.next (.n2 104 [(1, .hp 0 0), (2, .hp 1 0), (3, .hp 2 0), (4, .hp 3 0), (5, .hp 4 0), (7, .hp 5 0), (8, ae w), (12, .agg (aw.c t)), (13, ae 3)] [.own [ae p, ae p', ae u, ae j, ae i, bf f], .own [ae g], .own [aB e, an d, aB b, an a], .own [.fn 79 [] []], .own [.fn 76 [] []], .own [aB k, an l, aB o, an q, aB y, an z, aB A, an B, aB ml, an mc, aB jo, an jJ]] (.seq (.r4 G [1, 2, 3, 4, 5, 7, 8, 12, 13] [(14, aB false)] (.seq (.cF (by kernel_rfl) (.leave rfl (unF.exit rfl (.seq (.seq (.r4 G [3, 4, 5, 7, 8] [(39, ae w)] (.block (.seq (.r4 G [3, 4, 5, 7, 8, 39] [(40, aB ((w : Int) == 0))] ?_)))))))))))))))
 refine .cd hr ?_ ?_ <;> intro Ed hr
 ·refine .ret ?_
  obtain rfl := oi hr
  exact dm.ret [] ((Wk.gc [] kT5 rfl trivial).to)
 refine .seq (.r4 G [3, 4, 5, 7, 8] [(42, aB ((w : Int) == 3))] ?_)
 refine .cd hr ?_ ?_ <;> intro Ei hr
 ·refine .seq ?_
  obtain ⟨xd, BT, xl, BW, wN, B8, hr⟩ := bd3 hr
  refine .tn G (ca1 (ok0 (ct n 0 xd BT)) (ca1 (ok0 (nf n (ai.mk (ah.mk k l) (ah.mk o q)) (ai.mk (ah.mk y z) (ah.mk A B)) (ai.mk (ah.mk ml mc) (ah.mk jo jJ)) xd xl BW)) (ca3 (ok0 (dc n (ai.mk (ah.mk e d) (ah.mk b a)) xl wN B8))))) (.mu 8 (.ca cf0 (.ca (cfF cf0) (.ca (cfF (cfF cf0)) (.mu 1 ?_)))))
  refine .done ⟨by kernel_rfl, ?_⟩
  refine .nh [] [.own [ae p, ae p', ae u, ae j, ae i, bf f], .own [ae g], .own (ai.c wN), .own [.fn 79 [] []], .own [.fn 76 [] []], .own [aB k, an l, aB o, an q, aB y, an z, aB A, an B, aB ml, an mc, aB jo, an jJ]] (.ret ?_)
  obtain rfl := oi hr
  exact dm.ret [] ((Wk.gc [] kT5 rfl trivial).to)
 refine .skip (.pop (.seq (.block ?_)))
 replace hr := bd hr; obtain ⟨wZ, vC, hr⟩ := hr
 refine .aM (σ := fun z0 => match z0 with | (C, D, E, F, H, I, J, L, M, N, O, R) => ⟨mkS 104 0 [(3, .hp 2 0), (4, .hp 3 0), (5, .hp 4 0), (7, .hp 5 0), (8, ae w)], [.own [ae p, ae p', ae u, ae j, ae i, bf f], .own [ae g], .own [aB e, an d, aB b, an a], .own [.fn 79 [] []], .own [.fn 76 [] []], .own [aB C, an D, aB E, an F, aB H, an I, aB J, an L, aB M, an N, aB O, an R]]⟩) (Q := fun x st' => match (generalizing := false) wZ with | (W, X, Y, Z, iP, j4, ko, kj, kz, ki, kO, lj) => x = .exit 3 /\ Wk 5 st' ⟨mkS 104 0 [(3, .hp 2 0), (4, .hp 3 0), (5, .hp 4 0), (7, .hp 5 0), (8, ae w)], [.own [ae p, ae p', ae u, ae j, ae i, bf f], .own [ae g], .own [aB e, an d, aB b, an a], .own [.fn 79 [] []], .own [.fn 76 [] []], .own [aB W, an X, aB Y, an Z, aB iP, an j4, aB ko, an kj, aB kz, an ki, aB kO, an lj]]⟩) vC ((Wk.gc [3, 4, 5, 7, 8] kT6 rfl trivial).to) ?_ ?_
 ·clear hr
  rintro m ⟨C, D, E, F, H, I, J, L, M, N, O, R⟩ hr
  show CQ _ _ _ _ _ ⟨_, _⟩
  refine .seq (.seq ?_)
  replace hr := bd hr; obtain ⟨wW, kq, hr⟩ := hr
  refine .DX (Q := fun x st' => match (generalizing := false) wW with | .inl _ => x = .exit 3 /\ Wk 5 st' ⟨mkS 104 0 [(3, .hp 2 0), (4, .hp 3 0), (5, .hp 4 0), (7, .hp 5 0), (8, ae w)], [.own [ae p, ae p', ae u, ae j, ae i, bf f], .own [ae g], .own [aB e, an d, aB b, an a], .own [.fn 79 [] []], .own [.fn 76 [] []], .own [aB C, an D, aB E, an F, aB H, an I, aB J, an L, aB M, an N, aB O, an R]]⟩ | .inr (_) => x = .normal /\ Wk 5 st' ⟨mkS 104 0 [(3, .hp 2 0), (4, .hp 3 0), (5, .hp 4 0), (7, .hp 5 0), (8, ae w)], [.own [ae p, ae p', ae u, ae j, ae i, bf f], .own [ae g], .own [aB e, an d, aB b, an a], .own [.fn 79 [] []], .own [.fn 76 [] []], .own [aB C, an D, aB E, an F, aB H, an I, aB J, an L, aB M, an N, aB O, an R]]⟩) ?_ ?_
  ·clear hr
   have hr := kq
   clear kq
   obtain ⟨sW, kD, hr⟩ := bd hr
   rcases bT ((decide (sW > 0)) != ((w : Int) == 1)) with jL | jL
   ·replace hr := cC jL hr
    refine .t1 G (ok0 (bc n (ai.mk (ah.mk C D) (ah.mk E F)) sW kD)) (.mu 2 (.ca cf0 (.mu 3 (.pk (v := aB true) (eB jL) (.mu 11 ?_)))))
    refine .done ⟨by kernel_rfl, ?_⟩
    refine .nh [3, 4, 5, 7, 8, 72] [.own [ae p, ae p', ae u, ae j, ae i, bf f], .own [ae g], .own [aB e, an d, aB b, an a], .own [.fn 79 [] []], .own [.fn 76 [] []], .own [aB C, an D, aB E, an F, aB H, an I, aB J, an L, aB M, an N, aB O, an R]] (.cT (by kernel_rfl) (.skip ?_))
    obtain rfl := oi hr
    exact ⟨rfl, ((Wk.gc [3, 4, 5, 7, 8] kT6 rfl trivial).to)⟩
   replace hr := cB jL hr
   obtain ⟨BG, qg, Bz, sR, hr⟩ := bd2 hr
   refine .tn G (ca1 (ok0 (bc n (ai.mk (ah.mk C D) (ah.mk E F)) sW kD)) (ca1 (ok0 (bc n (ai.mk (ah.mk H I) (ah.mk J L)) BG qg)) (ca3 (ok0 (bc n (ai.mk (ah.mk M N) (ah.mk O R)) Bz sR))))) (.mu 2 (.ca cf0 (.mu 3 (.pk (v := aB false) (eB jL) (.mu 3 (.ca (cfA (fun h => by rw [sv qg kD (fk n h)]) cf0) (.mu 3 (.ca (cfA (fun h => by rw [sv sR kD (fk n h)]) (cfA (fun h => by rw [sv sR qg (fk n h)]) cf0)) (.mu 3 ?_)))))))))
   refine .done ⟨by kernel_rfl, ?_⟩
   refine .nh [3, 4, 5, 7, 8, 72] [.own [ae p, ae p', ae u, ae j, ae i, bf f], .own [ae g], .own [aB e, an d, aB b, an a], .own [.fn 79 [] []], .own [.fn 76 [] []], .own [aB C, an D, aB E, an F, aB H, an I, aB J, an L, aB M, an N, aB O, an R]] ?_
   refine .cd hr ?_ ?_ <;> intro EL hr
   ·refine .skip ?_
    obtain rfl := oi hr
    exact ⟨rfl, ((Wk.gc [3, 4, 5, 7, 8] kT6 rfl trivial).to)⟩
   refine .leave rfl ?_
   obtain rfl := oi hr
   exact ⟨rfl, ((Wk.gc [3, 4, 5, 7, 8] kT6 rfl trivial).to)⟩
  rcases wW with ⟨⟩ | ⟨⟩
  ·rintro x st' V
   clear kq
   obtain ⟨rfl, V⟩ := V
   refine vo _ rfl ?_
   obtain rfl := oi hr
   exact ⟨rfl, (V.trans ((Wk.gc [3, 4, 5, 7, 8] kT6 rfl trivial).to))⟩
  rintro x st' V
  clear kq
  obtain ⟨rfl, V⟩ := V
  refine .wk V (.block (.ru G (.pop ?_)))
  exact aA (H, I, J, L, M, N, O, R, C, D, E, F) hr ((Wk.gc [3, 4, 5, 7, 8] kT6 rfl trivial).to)
 rcases wZ with ⟨W, X, Y, Z, iP, j4, ko, kj, kz, ki, kO, lj⟩
 rintro x st' sT
 clear vC
 obtain ⟨rfl, sT⟩ := sT
 refine aW _ rfl (.wk sT (.seq ?_))
 obtain ⟨qD, Cp, hr⟩ := bd hr
 refine .g1 G (ok0 (rL n (ai.mk (ah.mk W X) (ah.mk Y Z)) (ai.mk (ah.mk iP j4) (ah.mk ko kj)) (ai.mk (ah.mk kz ki) (ah.mk kO lj)) qD Cp)) (.mu 7 (.ca cf0 (.mu 2 (.done (.nh [3, 4, 7, 8, 11] [.own [ae p, ae p', ae u, ae j, ae i, bf f], .own [ae g], .own [aB e, an d, aB b, an a], .own [.fn 79 [] []], .own [.fn 76 [] []], .own [aB W, an X, aB Y, an Z, aB iP, an j4, aB ko, an kj, aB kz, an ki, aB kO, an lj], .own (ai.c qD)] (.seq (.seq (.r4 G [3, 4, 7, 11] [(91, aB ((w : Int) == 2))] ?_))))))))
 refine .cd hr ?_ ?_ <;> intro Ew hr
 ·obtain ⟨tf, Bv, hr⟩ := bd hr
  refine .g1 G (ok0 (nf n (ai.mk (ah.mk W X) (ah.mk Y Z)) (ai.mk (ah.mk iP j4) (ah.mk ko kj)) (ai.mk (ah.mk kz ki) (ah.mk kO lj)) qD tf Bv)) (.mu 8 (.ca cf0 (.mu 1 (.done (.nh [3, 11] [.own [ae p, ae p', ae u, ae j, ae i, bf f], .own [ae g], .own [aB e, an d, aB b, an a], .own [.fn 79 [] []], .own [.fn 76 [] []], .own [aB W, an X, aB Y, an Z, aB iP, an j4, aB ko, an kj, aB kz, an ki, aB kO, an lj], .own (ai.c tf)] ?_)))))
  obtain ⟨BJ, B9, hr⟩ := bd hr
  refine .g1 G (ok0 (dc n (ai.mk (ah.mk e d) (ah.mk b a)) tf BJ B9)) (.mu 2 (.ca cf0 (.mu 1 (.done ?_))))
  obtain rfl := oi hr
  exact dm.normal [] ((Wk.gc [] kT5 rfl trivial).to)
 refine .skip ?_
 obtain ⟨Cm, BV, hr⟩ := bd hr
 refine .g1 G (ok0 (dc n (ai.mk (ah.mk e d) (ah.mk b a)) qD Cm BV)) (.mu 2 (.ca cf0 (.mu 1 (.done ?_))))
 obtain rfl := oi hr
 exact dm.normal [] ((Wk.gc [] kT5 rfl trivial).to)

theorem iQ (n : Nat) (g : al) (c : Int) (L : Int) (t : Int) (i : Int) (f : Int) (e : List Int) (d : Int) (z : Bool) (w : List Int) (u : Bool) (q : List Int) (r : Bool × List Int × Bool × List Int) (hr : bK n g c L t i f e d z w u q = some r) : dk 5 Tryz.prog 89 [.agg (al.c g), .fn 117 [] [.hp 0 0, .hp 1 0, .hp 2 0, .hp 3 0, .hp 4 0]] [.own [ae c, ae L, ae t, ae i, ae f, bf e], .own [ae d], .own [aB z, an w, aB u, an q], .own [.fn 79 [] []], .own [.fn 76 [] []]] (.tup []) [.own [ae c, ae L, ae t, ae i, ae f, bf e], .own [ae d], .own [aB r.1, an r.2.1, aB r.2.2.1, an r.2.2.2], .own [.fn 79 [] []], .own [.fn 76 [] []]] := by
 unfold bK at hr
 refine dk.kp G Tryz.func89 (c := (Tryz.f89.body).getD .skip) rfl (us := []) (s := mkS 82 0 [(0, .agg (al.c g)), (1, .fn 117 [] [.hp 0 0, .hp 1 0, .hp 2 0, .hp 3 0, .hp 4 0])]) (by kernel_rfl) (rs := []) rfl ?_
 unfold Tryz.f89
 simp only [gS]
 refine .seq (.r5 G [1] [(2, .hp 5 0)] [.own [ae c, ae L, ae t, ae i, ae f, bf e], .own [ae d], .own [aB z, an w, aB u, an q], .own [.fn 79 [] []], .own [.fn 76 [] []], .own (al.c g)] (.seq (.r4 G [1, 2] [(4, ae g.Width)] (.seq (.r4 G [1, 2, 4] [(14, ae (Fj (g.Height - 1))), (15, ae 0)] (.block ?_))))))
 replace hr := bd hr; obtain ⟨kD, j4, hr⟩ := hr
 refine .aM (σ := fun z0 => match z0 with | (ko, kj, kz, ki, h) => ⟨mkS 82 0 [(1, .fn 117 [] [.hp 0 0, .hp 1 0, .hp 2 0, .hp 3 0, .hp 4 0]), (2, .hp 5 0), (4, ae g.Width), (14, ae (Fj (g.Height - 1))), (15, ae h)], [.own [ae c, ae L, ae t, ae i, ae f, bf e], .own [ae d], .own [aB ko, an kj, aB kz, an ki], .own [.fn 79 [] []], .own [.fn 76 [] []], .own (al.c g)]⟩) (Q := fun x st' => match (generalizing := false) kD with | (kO, lj, ml, mc) => x = .exit 0 /\ Wk 5 st' ⟨mkS 82 0 [], [.own [ae c, ae L, ae t, ae i, ae f, bf e], .own [ae d], .own [aB kO, an lj, aB ml, an mc], .own [.fn 79 [] []], .own [.fn 76 [] []]]⟩) j4 ((Wk.gc [1, 2, 4, 14, 15] kT6 rfl trivial).to) ?_ ?_
 ·clear hr
  rintro m ⟨ko, kj, kz, ki, h⟩ hr
  show CQ _ _ _ _ _ ⟨_, _⟩
  refine .seq (.r4 G [1, 2, 4, 14, 15] [(16, aB (decide (h < (Fj (g.Height - 1)))))] (.seq ?_))
  refine .cd hr ?_ ?_ <;> intro q9 hr
  ·refine .skip (.seq (.block (.seq (.r4 G [1, 2, 4, 14, 15] [(5, ae h)] (.seq (.r4 G [1, 2, 4, 5, 14, 15] [(19, ae (Fj (g.Width - 1))), (20, ae 0)] (.block ?_)))))))
   replace hr := bd hr; obtain ⟨l6, jo, hr⟩ := hr
   refine .aM (σ := fun z0 => match z0 with | (C, D, E, F, j) => ⟨mkS 82 0 [(1, .fn 117 [] [.hp 0 0, .hp 1 0, .hp 2 0, .hp 3 0, .hp 4 0]), (2, .hp 5 0), (4, ae g.Width), (5, ae h), (14, ae (Fj (g.Height - 1))), (15, ae h), (19, ae (Fj (g.Width - 1))), (20, ae j)], [.own [ae c, ae L, ae t, ae i, ae f, bf e], .own [ae d], .own [aB C, an D, aB E, an F], .own [.fn 79 [] []], .own [.fn 76 [] []], .own (al.c g)]⟩) (Q := fun x st' => match (generalizing := false) l6 with | (N, O, R, S) => x = .exit 2 /\ Wk 5 st' ⟨mkS 82 0 [(1, .fn 117 [] [.hp 0 0, .hp 1 0, .hp 2 0, .hp 3 0, .hp 4 0]), (2, .hp 5 0), (4, ae g.Width), (14, ae (Fj (g.Height - 1))), (15, ae h)], [.own [ae c, ae L, ae t, ae i, ae f, bf e], .own [ae d], .own [aB N, an O, aB R, an S], .own [.fn 79 [] []], .own [.fn 76 [] []], .own (al.c g)]⟩) jo ((Wk.gc [1, 2, 4, 5, 14, 15, 19, 20] kT6 rfl trivial).to) ?_ ?_
   ·clear hr
    rintro m ⟨C, D, E, F, j⟩ hr
    show CQ _ _ _ _ _ ⟨_, _⟩
    refine .seq (.r4 G [1, 2, 4, 5, 14, 15, 19, 20] [(21, aB (decide (j < (Fj (g.Width - 1)))))] (.seq ?_))
    refine .cd hr ?_ ?_ <;> intro qq hr
    ·refine .skip (.seq (.block (.seq (.r4 G [1, 2, 4, 5, 14, 15, 19, 20] [(6, ae j)] (.seq (.r4 G [1, 2, 4, 5, 14, 15, 19, 20] [(7, ae (Fj ((Fj (h * g.Width)) + j)))] ?_))))))
     obtain ⟨H, nz, hr⟩ := bd hr
     refine .wk ((Wk.refl _).to (c := ⟨mkS 82 0 [(1, .fn 117 [] [.hp 0 0, .hp 1 0, .hp 2 0, .hp 3 0, .hp 4 0]), (2, .hp 5 0), (4, ae g.Width), (5, ae h), (7, ae H), (14, ae (Fj (g.Height - 1))), (15, ae h), (19, ae (Fj (g.Width - 1))), (20, ae j)], [.own [ae c, ae L, ae t, ae i, ae f, bf e], .own [ae d], .own [aB C, an D, aB E, an F], .own [.fn 79 [] []], .own [.fn 76 [] []], .own (al.c g)]⟩) (by rw [oi nz]; first | done | kernel_rfl)) <| .seq <| .r5 G [1, 2, 4, 5, 14, 15, 19, 20] [(45, .hs 6 0 2 3), (46, ae 2), (47, ae 0)] [.own [ae c, ae L, ae t, ae i, ae f, bf e], .own [ae d], .own [aB C, an D, aB E, an F], .own [.fn 79 [] []], .own [.fn 76 [] []], .own (al.c g), .own [ae H, ae (Fj (H + 1)), ae (Fj ((Fj (H + g.Width)) + 1)), ae H, ae (Fj ((Fj (H + g.Width)) + 1)), ae (Fj (H + g.Width))]] <| .block ?_
     obtain ⟨b, nG, hr⟩ := bd hr
     refine .wk ((Wk.refl _).to (c := ⟨mkS 82 0 [(1, .fn 117 [] [.hp 0 0, .hp 1 0, .hp 2 0, .hp 3 0, .hp 4 0]), (2, .hp 5 0), (4, ae g.Width), (5, ae h), (14, ae (Fj (g.Height - 1))), (15, ae h), (19, ae (Fj (g.Width - 1))), (20, ae j), (45, .hs 6 0 b.length 3), (46, ae 2), (47, ae 0)], [.own [ae c, ae L, ae t, ae i, ae f, bf e], .own [ae d], .own [aB C, an D, aB E, an F], .own [.fn 79 [] []], .own [.fn 76 [] []], .own (al.c g), .own (b.flatMap aw.c)]⟩) (by rw [<- oi nG]; kernel_rfl)) ?_
     replace hr := bd hr; obtain ⟨mJ, jJ, hr⟩ := hr
     refine .aM (σ := fun z0 => match z0 with | (k, l, o, p, a) => ⟨mkS 82 0 [(1, .fn 117 [] [.hp 0 0, .hp 1 0, .hp 2 0, .hp 3 0, .hp 4 0]), (2, .hp 5 0), (4, ae g.Width), (5, ae h), (14, ae (Fj (g.Height - 1))), (15, ae h), (19, ae (Fj (g.Width - 1))), (20, ae j), (45, .hs 6 0 b.length 3), (46, ae 2), (47, ae a)], [.own [ae c, ae L, ae t, ae i, ae f, bf e], .own [ae d], .own [aB k, an l, aB o, an p], .own [.fn 79 [] []], .own [.fn 76 [] []], .own (al.c g), .own (b.flatMap aw.c)]⟩) (Q := fun x st' => match (generalizing := false) mJ with | (T, U, V, W) => x = .exit 4 /\ Wk 5 st' ⟨mkS 82 0 [(1, .fn 117 [] [.hp 0 0, .hp 1 0, .hp 2 0, .hp 3 0, .hp 4 0]), (2, .hp 5 0), (4, ae g.Width), (5, ae h), (14, ae (Fj (g.Height - 1))), (15, ae h), (19, ae (Fj (g.Width - 1))), (20, ae j)], [.own [ae c, ae L, ae t, ae i, ae f, bf e], .own [ae d], .own [aB T, an U, aB V, an W], .own [.fn 79 [] []], .own [.fn 76 [] []], .own (al.c g)]⟩) jJ ((Wk.gc [1, 2, 4, 5, 14, 15, 19, 20, 45, 46, 47] [(0, true), (1, true), (2, true), (3, true), (4, true), (5, true), (6, false)] rfl (pKt (pKt (pKt (pKt (pKt (pKt (pKo aw.c aw.pure b trivial)))))))).to) ?_ ?_
     ·clear hr
      rintro m ⟨k, l, o, p, a⟩ hr
      show CQ _ _ _ _ _ ⟨_, _⟩
      refine .seq (.r4 G [1, 2, 4, 5, 14, 15, 19, 20, 45, 46, 47] [(48, aB (decide (a < 2)))] (.seq ?_))
      refine .cd hr ?_ ?_ <;> intro qx hr
      ·refine .skip (.seq (.block (.seq ?_)))
       obtain ⟨jL, hr⟩ := gd hr
       refine .r0 G (.p0 (v := .hp 6 (0 + a.toNat * 3)) (tr (au jL)) (.p0 (v := .agg (aw.c (gt b a))) (tr (y := bB.ofP (ei (decide (3 <= ((b.flatMap aw.c).drop (0 + a.toNat * 3)).length)) (.agg (((b.flatMap aw.c).drop (0 + a.toNat * 3)).take 3)))) (b6 aw.len (aC jL) (by decide) (by omega : 0 + a.toNat * 3 = a.toNat * 3 + 0) (by kernel_rfl))) (.mu 2 (.done (.nh [1, 2, 4, 5, 9, 14, 15, 19, 20, 45, 46, 47] [.own [ae c, ae L, ae t, ae i, ae f, bf e], .own [ae d], .own [aB k, an l, aB o, an p], .own [.fn 79 [] []], .own [.fn 76 [] []], .own (al.c g), .own (b.flatMap aw.c), .own (aw.c (gt b a))] (.seq ?_))))))
       obtain ⟨A, hr⟩ := gd hr
       rcases bT (((gt g.Z (gt b a).e0) : Int) != (-2147483648)) with B | B
       ·replace hr := cC B hr
        obtain ⟨J, hr⟩ := gd hr
        rcases bT (((gt g.Z (gt b a).e1) : Int) != (-2147483648)) with I | I
        ·replace hr := cC I hr
         obtain ⟨kq, hr⟩ := gd hr
         refine .r0 G (.mu 4 (.p0 (v := .pp (g.Z.flatMap (iC .i64)) ((gt b a).e0.toNat * 1)) (tr (au A)) (.p0 (v := ae (gt g.Z (gt b a).e0)) (tr (aG (aH (aE .i64) (aC A) z1 (by omega : (gt b a).e0.toNat * 1 = (gt b a).e0.toNat * 1 + 0) (by kernel_rfl)))) (.p0 (v := aB true) (eB B) (.mu 5 (.pure (v := .pp (g.Z.flatMap (iC .i64)) ((gt b a).e1.toNat * 1)) (by kernel_rfl) (tr (au J)) (.pure (v := ae (gt g.Z (gt b a).e1)) (by kernel_rfl) (tr (aG (aH (aE .i64) (aC J) z1 (by omega : (gt b a).e1.toNat * 1 = (gt b a).e1.toNat * 1 + 0) (by kernel_rfl)))) (.pure (v := aB true) (by kernel_rfl) (eB I) (.mu 6 (.pure (v := .pp (g.Z.flatMap (iC .i64)) ((gt b a).e2.toNat * 1)) (by kernel_rfl) (tr (au kq)) (.pure (v := ae (gt g.Z (gt b a).e2)) (by kernel_rfl) (tr (aG (aH (aE .i64) (aC kq) z1 (by omega : (gt b a).e2.toNat * 1 = (gt b a).e2.toNat * 1 + 0) (by kernel_rfl)))) (.mu 2 (.done (.nh [1, 2, 4, 5, 9, 14, 15, 19, 20, 45, 46, 47, 75] [.own [ae c, ae L, ae t, ae i, ae f, bf e], .own [ae d], .own [aB k, an l, aB o, an p], .own [.fn 79 [] []], .own [.fn 76 [] []], .own (al.c g), .own (b.flatMap aw.c), .own (aw.c (gt b a))] ?_))))))))))))))
         refine .cd hr ?_ ?_ <;> intro qg hr
         ·obtain ⟨M, n7, hr⟩ := bd hr
          refine .g1 G (bX (args := [.agg (aw.c (gt b a)), .hp 0 0, .hp 1 0, .hp 2 0, .hp 3 0, .hp 4 0]) 5 0 kT5 [true, true, true, true, true] (pQ n (gt b a) c L t i f e d k l o p M n7) trivial trivial rfl rfl (by kernel_rfl) (by kernel_rfl)) (.mu 2 (.ca cf0 (.done (.pop (.ru G ?_)))))
          exact aA (M.1, M.2.1, M.2.2.1, M.2.2.2, Fj (a + 1)) hr ((Wk.gc [1, 2, 4, 5, 14, 15, 19, 20, 45, 46, 47] [(0, true), (1, true), (2, true), (3, true), (4, true), (5, true), (6, false)] rfl (pKt (pKt (pKt (pKt (pKt (pKt (pKo aw.c aw.pure b trivial)))))))).to)
         refine .skip (.pop (.ru G ?_))
         exact aA (k, l, o, p, Fj (a + 1)) hr ((Wk.gc [1, 2, 4, 5, 14, 15, 19, 20, 45, 46, 47] [(0, true), (1, true), (2, true), (3, true), (4, true), (5, true), (6, false)] rfl (pKt (pKt (pKt (pKt (pKt (pKt (pKo aw.c aw.pure b trivial)))))))).to)
        replace hr := cB I hr
        refine .r0 G (.mu 4 (.p0 (v := .pp (g.Z.flatMap (iC .i64)) ((gt b a).e0.toNat * 1)) (tr (au A)) (.p0 (v := ae (gt g.Z (gt b a).e0)) (tr (aG (aH (aE .i64) (aC A) z1 (by omega : (gt b a).e0.toNat * 1 = (gt b a).e0.toNat * 1 + 0) (by kernel_rfl)))) (.p0 (v := aB true) (eB B) (.mu 5 (.pure (v := .pp (g.Z.flatMap (iC .i64)) ((gt b a).e1.toNat * 1)) (by kernel_rfl) (tr (au J)) (.pure (v := ae (gt g.Z (gt b a).e1)) (by kernel_rfl) (tr (aG (aH (aE .i64) (aC J) z1 (by omega : (gt b a).e1.toNat * 1 = (gt b a).e1.toNat * 1 + 0) (by kernel_rfl)))) (.pure (v := aB false) (by kernel_rfl) (eB I) (.mu 10 (.done (.nh [1, 2, 4, 5, 9, 14, 15, 19, 20, 45, 46, 47, 75] [.own [ae c, ae L, ae t, ae i, ae f, bf e], .own [ae d], .own [aB k, an l, aB o, an p], .own [.fn 79 [] []], .own [.fn 76 [] []], .own (al.c g), .own (b.flatMap aw.c), .own (aw.c (gt b a))] (.cF (by kernel_rfl) (.skip (.pop (.ru G ?_)))))))))))))))
        exact aA (k, l, o, p, Fj (a + 1)) hr ((Wk.gc [1, 2, 4, 5, 14, 15, 19, 20, 45, 46, 47] [(0, true), (1, true), (2, true), (3, true), (4, true), (5, true), (6, false)] rfl (pKt (pKt (pKt (pKt (pKt (pKt (pKo aw.c aw.pure b trivial)))))))).to)
       replace hr := cB B hr
       refine .r0 G (.mu 4 (.p0 (v := .pp (g.Z.flatMap (iC .i64)) ((gt b a).e0.toNat * 1)) (tr (au A)) (.p0 (v := ae (gt g.Z (gt b a).e0)) (tr (aG (aH (aE .i64) (aC A) z1 (by omega : (gt b a).e0.toNat * 1 = (gt b a).e0.toNat * 1 + 0) (by kernel_rfl)))) (.p0 (v := aB false) (eB B) (.mu 18 (.done (.nh [1, 2, 4, 5, 9, 14, 15, 19, 20, 45, 46, 47, 75] [.own [ae c, ae L, ae t, ae i, ae f, bf e], .own [ae d], .own [aB k, an l, aB o, an p], .own [.fn 79 [] []], .own [.fn 76 [] []], .own (al.c g), .own (b.flatMap aw.c), .own (aw.c (gt b a))] (.cF (by kernel_rfl) (.skip (.pop (.ru G ?_)))))))))))
       exact aA (k, l, o, p, Fj (a + 1)) hr ((Wk.gc [1, 2, 4, 5, 14, 15, 19, 20, 45, 46, 47] [(0, true), (1, true), (2, true), (3, true), (4, true), (5, true), (6, false)] rfl (pKt (pKt (pKt (pKt (pKt (pKt (pKo aw.c aw.pure b trivial)))))))).to)
      refine .leave rfl ?_
      obtain rfl := oi hr
      exact ⟨rfl, ((Wk.gc [1, 2, 4, 5, 14, 15, 19, 20] kT6 rfl trivial).to)⟩
     rcases mJ with ⟨T, U, V, W⟩
     rintro x st' X
     clear jJ
     obtain ⟨rfl, X⟩ := X
     refine aW _ rfl (.pop (.wk X (.ru G ?_)))
     exact aA (T, U, V, W, Fj (j + 1)) hr ((Wk.gc [1, 2, 4, 5, 14, 15, 19, 20] kT6 rfl trivial).to)
    refine .leave rfl ?_
    obtain rfl := oi hr
    exact ⟨rfl, ((Wk.gc [1, 2, 4, 14, 15] kT6 rfl trivial).to)⟩
   rcases l6 with ⟨N, O, R, S⟩
   rintro x st' Y
   clear jo
   obtain ⟨rfl, Y⟩ := Y
   refine aW _ rfl (.pop (.wk Y (.ru G ?_)))
   exact aA (N, O, R, S, Fj (h + 1)) hr ((Wk.gc [1, 2, 4, 14, 15] kT6 rfl trivial).to)
  refine .leave rfl ?_
  obtain rfl := oi hr
  exact ⟨rfl, ((Wk.gc [] kT5 rfl trivial).to)⟩
 rcases kD with ⟨kO, lj, ml, mc⟩
 rintro x st' iP
 clear j4
 obtain ⟨rfl, iP⟩ := iP
 refine aW _ rfl ?_
 obtain rfl := oi hr
 exact dm.wk iP (dm.normal [] ((Wk.gc [] kT5 rfl trivial).to))

theorem fA (n : Nat) (g : al) (level : Int) (r : ai) (hr : a8 n g level = some r) : aL Tryz.prog 72 [.agg (al.c g), ae level, .fn 76 [] [], .fn 79 [] []] (.agg (ai.c r)) := by
 unfold a8 at hr
 refine aL.bd G Tryz.func72 [.cell 8 42] ?_
 unfold Tryz.f72
 simp only [gS]
 refine .seq (.r2 G 28 [(4, .hp 0 0), (5, .hp 1 0), (6, .hp 2 0), (7, .hp 3 0), (8, .hp 4 0)] [.own (al.c g), .own [ae level], .own [.fn 76 [] []], .own [.fn 79 [] []], .own zN2] (.seq ?_))
 obtain ⟨b, e, hr⟩ := bd hr
 refine .g1 G (ok0 (ct n 0 b e)) (.ca cf0 (.mu 2 (.done (.nh [4, 5, 6, 7, 8, 9] [.own (al.c g), .own [ae level], .own [.fn 76 [] []], .own [.fn 79 [] []], .own zN2, .own (ai.c b)] (.seq ?_)))))
 obtain ⟨a, f, hr⟩ := bd hr
 refine .g1 G (bX (args := [.agg (al.c g), .fn 117 [] [.hp 0 0, .hp 1 0, .hp 5 0, .hp 3 0, .hp 2 0]]) 5 0 [(0, true), (1, true), (5, true), (3, true), (2, true)] [true, true, true, true, true] (iQ n g g.X0 g.Y0 g.Step g.Width g.Height g.Z level b.Num.Negative b.Num.Groups b.Den.Negative b.Den.Groups a f) trivial trivial rfl rfl (by kernel_rfl) (by kernel_rfl)) (.mu 2 (.ca cf0 (.done (.nh [4, 8, 9] [.own (al.c g), .own [ae level], .own [.fn 76 [] []], .own [.fn 79 [] []], .own zN2, .own [aB a.1, an a.2.1, aB a.2.2.1, an a.2.2.2]] (.seq ?_)))))
 obtain ⟨d, h, hr⟩ := bd hr
 refine .g1 G (ok0 (eJ n (Fj (g.Step * g.Step)) 2 d h)) (.mu 5 (.ca cf0 (.mu 6 (.done (.nh [8, 9, 10] [.own (al.c g), .own [ae level], .own [.fn 76 [] []], .own [.fn 79 [] []], .own zN2, .own [aB a.1, an a.2.1, aB a.2.2.1, an a.2.2.2], .own (ai.c d.1)] (.seq ?_))))))
 obtain ⟨i, j, hr⟩ := bd hr
 refine .g1 G (ok0 (dF n (ai.mk (ah.mk a.1 a.2.1) (ah.mk a.2.2.1 a.2.2.2)) d.1 i j)) (.mu 2 (.ca cf0 (.mu 1 (.done (.nh [8] [.own (al.c g), .own [ae level], .own [.fn 76 [] []], .own [.fn 79 [] []], .own (ai.c i), .own [aB a.1, an a.2.1, aB a.2.2.1, an a.2.2.2], .own (ai.c d.1)] (.ret ?_))))))
 obtain rfl := oi hr
 exact aK.r1 [.agg (ai.c i)]

theorem od (n : Nat) (g : al) (level : Int) (r : ai × Int) (hr : fy n g level = some r) : aL Tryz.prog 34 [.agg (al.c g), ae level] (.tup [.agg (ai.c r.1), ae r.2]) := by
 unfold fy at hr
 refine aL.bd G Tryz.func34 [.cell 4 42, .tmp 5] ?_
 unfold Tryz.f34
 simp only [gS]
 refine .seq (.r5 G [1] [(2, .hp 0 0), (4, .hp 1 0)] [.own (al.c g), .own zN2] (.seq (.seq ?_)))
 obtain ⟨a, b, hr⟩ := bd hr
 refine .g1 G (ok0 (gC n g level a b)) (.mu 2 (.ca cf0 (.mu 1 (.done (.nh [1, 2, 4, 6] [.own (al.c g), .own zN2] (.seq (.r4 G [1, 2, 4, 6] [(13, aB ((a : Int) != 0))] ?_)))))))
 refine .cd hr ?_ ?_ <;> intro f hr
 ·refine .seq (.r4 G [4] [(5, ae a)] (.ret ?_))
  obtain rfl := oi hr
  exact aK.ret (vs := [.agg zN2, ae a]) (by kernel_rfl) (Sn.tup (SnL.cons (Sn.agg (Sp (SnL.cons Sn.fR (Sp (SnL.cons Sn.fR SnL.nil))))) (Sp SnL.nil)))
 refine .skip (.seq (.r4 G [1, 2, 4] [(7, .fn 76 [] [])] (.seq (.r4 G [1, 2, 4, 7] [(8, .fn 79 [] [])] (.seq ?_)))))
 obtain ⟨d, e, hr⟩ := bd hr
 refine .g1 G (ok0 (fA n g level d e)) (.mu 4 (.ca cf0 (.mu 2 (.done (.nh [4, 5] [.own (al.c g), .own (ai.c d)] (.ret ?_))))))
 obtain rfl := oi hr
 exact aK.ret (vs := [.agg (ai.c d), ae 0]) (by kernel_rfl) (Sn.tup (Sp (Sp SnL.nil)))

theorem qL (n : Nat) {b : ai} {y : ai} {a : ai} {d : ai} (h : ([.agg (ai.c b), .agg (ai.c y)] : List AV) = [.agg (ai.c a), .agg (ai.c d)]) : dR n b y = dR n a d := by
 obtain ⟨rfl, rfl⟩ := iG h
 rfl
theorem j6 (n : Nat) (a : ai) (y : ai) (r : ai) (hr : dR n a y = some r) : aL Tryz.prog 39 [.agg (ai.c a), .agg (ai.c y)] (.agg (ai.c r)) := by
 unfold dR at hr
 refine aL.bd G Tryz.func39 [.cell 4 42] ?_
 unfold Tryz.f39
 simp only [gS]
 refine .seq (.r2 G 22 [(2, .hp 0 0), (3, .hp 1 0), (4, .hp 2 0)] [.own (ai.c a), .own (ai.c y), .own zN2] (.seq ?_))
 obtain ⟨b, i, hr⟩ := bd hr
 refine .g1 G (ok0 (dI n a b i)) (.mu 1 (.ca cf0 (.mu 2 (.done (.nh [3, 4, 5] [.own (ai.c a), .own (ai.c y), .own zN2, .own (ai.c b)] (.seq ?_))))))
 obtain ⟨d, j, hr⟩ := bd hr
 refine .g1 G (ok0 (dI n y d j)) (.mu 1 (.ca cf0 (.mu 2 (.done (.nh [4, 5, 6] [.own (ai.c a), .own (ai.c y), .own zN2, .own (ai.c b), .own (ai.c d)] (.seq ?_))))))
 obtain ⟨l, e, m, f, k, g, hr⟩ := bd3 hr
 refine .tn G (ca1 (ok0 (cZ n b.Num d.Num l e)) (ca1 (ok0 (cZ n b.Den d.Den m f)) (ca3 (ok0 (ir n l m k g))))) (.mu 4 (.ca cf0 (.mu 4 (.ca (cfA (fun h => by rw [sv f e (g9 n h)]) cf0) (.ca (cfF (cfF cf0)) (.mu 1 ?_))))))
 refine .done ⟨by kernel_rfl, ?_⟩
 refine .nh [4] [.own (ai.c a), .own (ai.c y), .own (ai.c k), .own (ai.c b), .own (ai.c d)] (.ret ?_)
 obtain rfl := oi hr
 exact aK.r1 [.agg (ai.c k)]

theorem lR (n : Nat) (g : al) (levels : A2 Int) (r : Bool) (hr : cX n g levels = some r) : aL Tryz.prog 10 [.agg (al.c g), .agg (aj.c levels)] (aB r) := by
 unfold cX at hr
 refine aL.bd G Tryz.func10 [.tmp 4] ?_
 unfold Tryz.f10
 simp only [gS]
 refine .seq (.r5 G [] [(2, .hp 0 0), (3, .hp 1 0)] [.own (al.c g), .own (aj.c levels)] (.seq (.seq ?_)))
 obtain ⟨T, N, hr⟩ := bd hr
 refine .g1 G (ok0 (pY n T N)) (.ca cf0 (.mu 1 (.done (.nh [2, 3, 19] [.own (al.c g), .own (aj.c levels)] ?_))))
 refine .cd hr ?_ ?_ <;> intro U hr
 ·refine .seq (.ru G (.ret ?_))
  obtain rfl := oi hr
  exact aK.r1 [aB false]
 refine .skip (.seq (.dZ G bI (.mu 12 ?_)))
 refine .done ⟨by kernel_rfl, ?_⟩
 refine .nh [2, 5, 6] [.own (al.c g), .own (aj.c levels)] (.seq (.seq ?_))
 obtain ⟨M, y, hr⟩ := bd hr
 rcases bT (!M) with k | k
 ·replace hr := cC k hr
  refine .g1 G (ok0 (jQ n g 40 M y)) (.mu 1 (.ca cf0 (.p0 (v := aB true) (eB k) (.mu 12 (.done (.nh [2, 5, 6, 44] [.own (al.c g), .own (aj.c levels)] (.cT (by kernel_rfl) (.seq (.ru G (.ret ?_))))))))))
  obtain rfl := oi hr
  exact aK.r1 [aB true]
 replace hr := cB k hr
 obtain ⟨O, z, hr⟩ := bd hr
 rcases bT ((O : Int) != 0) with o | o
 ·replace hr := cC o hr
  refine .gn G (ca1 (ok0 (jQ n g 40 M y)) (ca3 (ok0 (iq n g (mn levels.e0 levels.e1) O z)))) (.mu 1 (.ca cf0 (.p0 (v := aB false) (eB k) (.mu 3 (.ca (cfF cf0) (.pure (v := aB true) (by kernel_rfl) (eB o) (.mu 7 (.done (.nh [2, 5, 6, 44] [.own (al.c g), .own (aj.c levels)] (.cT (by kernel_rfl) (.seq (.ru G (.ret ?_)))))))))))))
  obtain rfl := oi hr
  exact aK.r1 [aB true]
 replace hr := cB o hr
 obtain ⟨Q, w, hr⟩ := bd hr
 refine .gn G (ca1 (ok0 (jQ n g 40 M y)) (ca1 (ok0 (iq n g (mn levels.e0 levels.e1) O z)) (ca3 (ok0 (iq n g (mx levels.e0 levels.e1) Q w))))) (.mu 1 (.ca cf0 (.p0 (v := aB false) (eB k) (.mu 3 (.ca (cfF cf0) (.pure (v := aB false) (by kernel_rfl) (eB o) (.mu 4 (.ca (cfF (cfA (fun h => by rw [sv w z (oI n h)]) cf0)) (.mu 2 (.done (.nh [2, 5, 6, 44] [.own (al.c g), .own (aj.c levels)] ?_)))))))))))
 refine .cd hr ?_ ?_ <;> intro R hr
 ·refine .seq (.ru G (.ret ?_))
  obtain rfl := oi hr
  exact aK.r1 [aB true]
 refine .skip (.seq ?_)
 obtain ⟨a, B, hr⟩ := bd hr
 refine .g1 G (ok0 (mj n g (mn levels.e0 levels.e1) a B)) (.mu 2 (.ca cf0 (.mu 6 (.done (.nh [2, 5, 6, 7, 8] [.own (al.c g), .own (aj.c levels), .own (ai.c a.1)] (.seq ?_))))))
 obtain ⟨b, C, hr⟩ := bd hr
 refine .g1 G (ok0 (mj n g (mx levels.e0 levels.e1) b C)) (.mu 2 (.ca cf0 (.mu 6 (.done (.nh [2, 5, 6, 7, 8, 9, 10] [.own (al.c g), .own (aj.c levels), .own (ai.c a.1), .own (ai.c b.1)] (.seq ?_))))))
 obtain ⟨j, D, hr⟩ := bd hr
 refine .g1 G (ok0 (od n g (mn levels.e0 levels.e1) j D)) (.mu 2 (.ca cf0 (.mu 6 (.done (.nh [2, 5, 6, 7, 8, 9, 10, 11, 12] [.own (al.c g), .own (aj.c levels), .own (ai.c a.1), .own (ai.c b.1), .own (ai.c j.1)] (.seq ?_))))))
 obtain ⟨l, E, hr⟩ := bd hr
 refine .g1 G (ok0 (od n g (mx levels.e0 levels.e1) l E)) (.mu 2 (.ca cf0 (.mu 6 (.done (.nh [5, 6, 7, 8, 9, 10, 11, 12, 13, 14] [.own (al.c g), .own (aj.c levels), .own (ai.c a.1), .own (ai.c b.1), .own (ai.c j.1), .own (ai.c l.1)] (.seq (.seq (.r4 G [5, 6, 7, 9, 11, 13] [(76, aB (((Fj ((Fj ((Fj (a.2 + b.2)) + j.2)) + l.2)) : Int) != 0))] ?_))))))))
 refine .cd hr ?_ ?_ <;> intro S hr
 ·refine .seq (.ru G (.ret ?_))
  obtain rfl := oi hr
  exact aK.r1 [aB false]
 refine .skip (.seq ?_)
 obtain ⟨m, F, hr⟩ := bd hr
 refine .g1 G (ok0 (m8 n (Fj ((mx levels.e0 levels.e1) - (mn levels.e0 levels.e1))) 2 m F)) (.mu 3 (.ca cf0 (.mu 6 (.done (.nh [7, 9, 11, 13, 15] [.own (al.c g), .own (aj.c levels), .own (ai.c a.1), .own (ai.c b.1), .own (ai.c j.1), .own (ai.c l.1), .own (ai.c m.1)] (.seq ?_))))))
 obtain ⟨p, H, hr⟩ := bd hr
 refine .g1 G (ok0 (mA n j.1 l.1 p H)) (.mu 2 (.ca cf0 (.mu 2 (.done (.nh [7, 9, 15, 17] [.own (al.c g), .own (aj.c levels), .own (ai.c a.1), .own (ai.c b.1), .own (ai.c j.1), .own (ai.c l.1), .own (ai.c m.1), .own (ai.c p)] (.seq ?_))))))
 obtain ⟨t, d, hr⟩ := bd hr
 rcases bT (decide (t <= 0)) with e | e
 ·replace hr := cC e hr
  obtain ⟨u, q, A, f, hr⟩ := bd2 hr
  rcases bT (decide (A <= 0)) with i | i
  ·replace hr := cC i hr
   obtain ⟨I, x, J, s, hr⟩ := bd2 hr
   refine .tn G (ca1 (ok0 (cG n b.1 a.1 t d)) (ca1 (ok0 (j6 n m.1 b.1 u q)) (ca1 (ok0 (cG n u p A f)) (ca1 (ok0 (j6 n m.1 a.1 I x)) (ca3 (ok0 (cG n p I J s))))))) (.mu 2 (.ca cf0 (.pk (v := aB true) (eB e) (.mu 3 (.ca (cfF cf0) (.mu 1 (.ca (cfA (fun h => by rw [sv f d (fq n h)]) (cfF cf0)) (.pk (v := aB true) (eB i) (.mu 5 (.ca (cfF (cfA (fun h => by rw [sv x q (qL n h)]) (cfF cf0))) (.ca (cfA (fun h => by rw [sv s d (fq n h)]) (cfF (cfA (fun h => by rw [sv s f (fq n h)]) (cfF cf0)))) (.mu 3 ?_))))))))))))
   refine .done ⟨by kernel_rfl, ?_⟩
   refine .ret ?_
   obtain rfl := oi hr
   exact aK.r1 [aB (decide (J <= 0))]
  replace hr := cB i hr
  refine .tn G (ca1 (ok0 (cG n b.1 a.1 t d)) (ca1 (ok0 (j6 n m.1 b.1 u q)) (ca3 (ok0 (cG n u p A f))))) (.mu 2 (.ca cf0 (.pk (v := aB true) (eB e) (.mu 3 (.ca (cfF cf0) (.mu 1 (.ca (cfA (fun h => by rw [sv f d (fq n h)]) (cfF cf0)) (.pk (v := aB false) (eB i) (.mu 10 ?_)))))))))
  refine .done ⟨by kernel_rfl, ?_⟩
  refine .ret ?_
  obtain rfl := oi hr
  exact aK.r1 [aB false]
 replace hr := cB e hr
 refine .t1 G (ok0 (cG n b.1 a.1 t d)) (.mu 2 (.ca cf0 (.pk (v := aB false) (eB e) (.mu 17 ?_))))
 refine .done ⟨by kernel_rfl, ?_⟩
 refine .ret ?_
 obtain rfl := oi hr
 exact aK.r1 [aB false]
end Go.L
