
import Derived.Test.YtecdcgfclgmbpaaGreatSumLP2
import Derived.Test.YtecdcgfclgmbpaaGreatL0Sums
import Derived.Test.YtecdcgfclgmbpaaGreatChecked
import Derived.KernelRfl
set_option linter.all false
set_option maxRecDepth 100000
set_option maxHeartbeats 4000000
namespace Go.L
open Go Go.Eng Go.Proofs
theorem aU (n : Nat) (negative : Bool) (l : List Int) (r : ah) (hr : aR n negative l = some r) : aL Tryz.prog 129 [aB negative, au l] (.agg (ah.c r)) := by
 unfold aR at hr
 refine aL.bd G Tryz.func129 [.cell 4 40] ?_
 unfold Tryz.f129
 simp only [gS]
 refine .seq (.r5 G [0, 1] [(4, .hp 0 0)] [.own [aB false, nS]] (.seq (.r4 G [0, 1, 4] [(5, ae (l.length : Int))] (.seq (.block ?_)))))
 replace hr := bd hr; obtain ⟨a, i, hr⟩ := hr
 refine .aH (σ := fun u => match u with | b => ⟨mkS 31 0 [(0, aB negative), (1, au l), (4, .hp 0 0), (5, ae b)], [.own [aB false, nS]]⟩) (Q := fun x st' => x = .exit 0 /\ Wk 0 st' ⟨mkS 31 0 [(0, aB negative), (1, au l), (4, .hp 0 0), (5, ae a)], [.own [aB false, nS]]⟩) i ((Wk.gc [0, 1, 4, 5] [(0, true)] rfl trivial).to) ?_ ?_
 ·clear hr
  rintro m b hr
  show CQ _ _ _ _ _ ⟨_, _⟩
  refine .seq (.seq ?_)
  rcases bT (decide (b > 0)) with f | f
  ·replace hr := cy f hr
   obtain ⟨o, hr⟩ := gd hr
   refine .r0 G (.mu 1 (.p0 (v := aB true) (eB f) (.mu 4 (.pure (v := .pp (l.flatMap iCu) ((Fc (b - 1)).toNat * 1)) (by kernel_rfl) (tr (ar o)) (.pure (v := bt (gt l (Fc (b - 1)))) (by kernel_rfl) (tr (aD (aE (aF .u32) (aA o) z1 (by omega : (Fc (b - 1)).toNat * 1 = (Fc (b - 1)).toNat * 1 + 0) (by kernel_rfl)))) (.mu 2 (.done (.nh [0, 1, 4, 5, 17] [.own [aB false, nS]] ?_))))))))
   refine .cd hr ?_ ?_ <;> intro w hr
   ·refine .skip (.block (.ru G (.pop ?_)))
    exact az (Fc (b - 1)) hr ((Wk.gc [0, 1, 4, 5] [(0, true)] rfl trivial).to)
   refine .leave rfl ?_
   obtain rfl := oi hr
   exact ⟨rfl, ((Wk.gc [0, 1, 4, 5] [(0, true)] rfl trivial).to)⟩
  replace hr := cz f hr
  refine .r0 G (.mu 1 (.p0 (v := aB false) (eB f) (.mu 8 (.done (.nh [0, 1, 4, 5, 17] [.own [aB false, nS]] (.cF (by kernel_rfl) (.leave rfl ?_)))))))
  obtain rfl := oi hr
  exact ⟨rfl, ((Wk.gc [0, 1, 4, 5] [(0, true)] rfl trivial).to)⟩
 rintro x st' g
 clear i
 obtain ⟨rfl, g⟩ := g
 refine aQ _ rfl (.wk g (.seq ?_))
 rcases bT negative with d | d
 ·replace hr := cy d hr
  obtain ⟨j, p, q, hr⟩ := gd3 hr
  refine .r0 G (.p0 (v := aB true) (eB d) (.mu 7 (.p0 (v := au ((l.drop (0 : Int).toNat).take (a.toNat - (0 : Int).toNat))) (tr (y := slO (inS 0 a l.length) (0 : Int).toNat a.toNat (fun z1 e => .sl true (((l.flatMap iCu).drop (z1 * 1)).take ((e - z1) * 1)) (e - z1))) (xt j (tZ (aF _) (qJ j)))) (.e0 (v := .hs 2 0 ((l.drop (0 : Int).toNat).take (a.toNat - (0 : Int).toNat)).length 1) (ws := [(1, .dead), (2, .own (((l.drop (0 : Int).toNat).take (a.toNat - (0 : Int).toNat)).flatMap iCu))]) (tr (y := ze (decide (((((l.drop (0 : Int).toNat).take (a.toNat - (0 : Int).toNat)).flatMap iCu)).length = ((l.drop (0 : Int).toNat).take (a.toNat - (0 : Int).toNat)).length * 1)) (((l.drop (0 : Int).toNat).take (a.toNat - (0 : Int).toNat)).flatMap iCu) ((l.drop (0 : Int).toNat).take (a.toNat - (0 : Int).toNat)).length (fun z1 e => oA (decide (0 + 0 * 1 <= (([] : List Int).flatMap iCu).length) && decide ((0 + e) * 4 <= 140737488355328) && decide (0 + e <= 4611686018427387904)) (some (.eff (.hs 2 0 (0 + e) 1) [(1, .dead), (2, .own (((([] : List Int).flatMap iCu).drop 0).take (0 * 1) ++ z1))])))) (uj (nt (aF _)) rfl (eM (l := ([] : List Int)) (xs := (l.drop (0 : Int).toNat).take (a.toNat - (0 : Int).toNat)) (aF _) rfl rfl rfl p q))) (.mu 2 (.done (.nh [4] [.own [aB (decide (a > 0)), .hs 2 0 ((l.drop (0 : Int).toNat).take (a.toNat - (0 : Int).toNat)).length 1], .dead, .own (((l.drop (0 : Int).toNat).take (a.toNat - (0 : Int).toNat)).flatMap iCu)] (.ret ?_))))))))
  obtain rfl := oi hr
  exact aG.ret (vs := [.agg [aB (decide (a > 0)), .hs 2 0 ((l.drop (0 : Int).toNat).take (a.toNat - (0 : Int).toNat)).length 1]]) (by kernel_rfl) (Sn.agg (Sp (SnL.cons (Sn.hs rfl (.inl rfl) (SnC.pure (aW (aC _) _)) (fun h => cG h)) SnL.nil)))
 replace hr := cz d hr
 obtain ⟨k, s, t, hr⟩ := gd3 hr
 refine .r0 G (.p0 (v := aB false) (eB d) (.mu 7 (.p0 (v := au ((l.drop (0 : Int).toNat).take (a.toNat - (0 : Int).toNat))) (tr (y := slO (inS 0 a l.length) (0 : Int).toNat a.toNat (fun z1 e => .sl true (((l.flatMap iCu).drop (z1 * 1)).take ((e - z1) * 1)) (e - z1))) (xt k (tZ (aF _) (qJ k)))) (.e0 (v := .hs 2 0 ((l.drop (0 : Int).toNat).take (a.toNat - (0 : Int).toNat)).length 1) (ws := [(1, .dead), (2, .own (((l.drop (0 : Int).toNat).take (a.toNat - (0 : Int).toNat)).flatMap iCu))]) (tr (y := ze (decide (((((l.drop (0 : Int).toNat).take (a.toNat - (0 : Int).toNat)).flatMap iCu)).length = ((l.drop (0 : Int).toNat).take (a.toNat - (0 : Int).toNat)).length * 1)) (((l.drop (0 : Int).toNat).take (a.toNat - (0 : Int).toNat)).flatMap iCu) ((l.drop (0 : Int).toNat).take (a.toNat - (0 : Int).toNat)).length (fun z1 e => oA (decide (0 + 0 * 1 <= (([] : List Int).flatMap iCu).length) && decide ((0 + e) * 4 <= 140737488355328) && decide (0 + e <= 4611686018427387904)) (some (.eff (.hs 2 0 (0 + e) 1) [(1, .dead), (2, .own (((([] : List Int).flatMap iCu).drop 0).take (0 * 1) ++ z1))])))) (uj (nt (aF _)) rfl (eM (l := ([] : List Int)) (xs := (l.drop (0 : Int).toNat).take (a.toNat - (0 : Int).toNat)) (aF _) rfl rfl rfl s t))) (.mu 2 (.done (.nh [4] [.own [aB false, .hs 2 0 ((l.drop (0 : Int).toNat).take (a.toNat - (0 : Int).toNat)).length 1], .dead, .own (((l.drop (0 : Int).toNat).take (a.toNat - (0 : Int).toNat)).flatMap iCu)] (.ret ?_))))))))
 obtain rfl := oi hr
 exact aG.ret (vs := [.agg [aB false, .hs 2 0 ((l.drop (0 : Int).toNat).take (a.toNat - (0 : Int).toNat)).length 1]]) (by kernel_rfl) (Sn.agg (Sp (SnL.cons (Sn.hs rfl (.inl rfl) (SnC.pure (aW (aC _) _)) (fun h => cG h)) SnL.nil)))

theorem m5 (n : Nat) (k : Int) (r : ah) (hr : gv n k = some r) : aL Tryz.prog 125 [ae k] (.agg (ah.c r)) := by
 unfold gv at hr
 refine aL.bd G Tryz.func125 [.cell 2 40] ?_
 unfold Tryz.f125
 simp only [gS]
 refine .seq (.r5 G [0] [(2, .hp 0 0)] [.own [aB false, nS]] (.seq (.r4 G [0, 2] [(3, cO (wFu k))] (.seq (.seq (.r4 G [0, 2, 3] [(8, aB (decide (k < 0)))] ?_))))))
 refine .cd hr ?_ ?_ <;> intro t hr
 ·refine .r0 G (.mu 2 (.p0 (v := ae (Fc (0 - (Fc (k + 1))))) (tr (y := some (.pure (ae (IntKind.wrap .i64 (0 - (Fc (k + 1))))))) ni) (.mu 3 (.done (.nh [0, 2, 3] [.own [aB false, nS]] (.seq (.r5 G [0, 2, 3] [(4, .hs 1 0 0 1)] [.own [aB false, nS], .own []] (.seq (.block ?_)))))))))
  replace hr := bd hr; obtain ⟨g, o, hr⟩ := hr
  refine .aH (σ := fun D => match D with | (d, e) => ⟨mkS 29 0 [(0, ae k), (2, .hp 0 0), (3, cO d), (4, .hs 1 0 e.length 1)], [.own [aB false, nS], .own (e.flatMap iCu)]⟩) (Q := fun x st' => x = .exit 0 /\ Wk 0 st' ⟨mkS 29 0 [(0, ae k), (2, .hp 0 0), (4, .hs 1 0 g.length 1)], [.own [aB false, nS], .own (g.flatMap iCu)]⟩) o ((Wk.gc [0, 2, 3, 4] [(0, true), (1, false)] rfl (pKt (pKc trivial))).to) ?_ ?_
  ·clear hr
   rintro m ⟨d, e⟩ hr
   show CQ _ _ _ _ _ ⟨_, _⟩
   refine .seq (.seq (.r4 G [0, 2, 3, 4] [(16, aB (decide (d > 0)))] ?_))
   refine .cd hr ?_ ?_ <;> intro F hr
   ·refine .skip (.block (.seq ?_))
    obtain ⟨u, w, hr⟩ := gd2 hr
    refine .r0 G (.mu 5 (.e0 (v := .hs 3 0 (e ++ [aa .u32 (d.tmod 1000000000)]).length 1) (ws := [(1, .dead), (3, .own ((e ++ [aa .u32 (d.tmod 1000000000)]).flatMap iCu))]) (tr (eM (new := [bt (aa .u32 (d.tmod 1000000000))]) (l := e) (xs := [aa .u32 (d.tmod 1000000000)]) (aF .u32) rfl rfl (by kernel_rfl) u w)) (.mu 1 (.done (.nh [0, 2, 3, 4] [.own [aB false, nS], .dead, .own [bt (aa .u32 (d.tmod 1000000000))], .own ((e ++ [aa .u32 (d.tmod 1000000000)]).flatMap iCu)] (.ru G (.pop ?_)))))))
    exact az (wFu (d.tdiv 1000000000), e ++ [aa .u32 (d.tmod 1000000000)]) hr ((Wk.gc [0, 2, 3, 4] [(0, true), (3, false)] rfl (pKt (pKo iCu (aC _) (e ++ [aa .u32 (d.tmod 1000000000)]) trivial))).to)
   refine .leave rfl ?_
   obtain rfl := oi hr
   exact ⟨rfl, ((Wk.gc [0, 2, 4] [(0, true), (1, false)] rfl (pKt (pKo iCu (aC _) e trivial))).to)⟩
  rintro x st' i
  clear o
  obtain ⟨rfl, i⟩ := i
  refine aQ _ rfl (.wk i (.seq ?_))
  obtain ⟨q, z, hr⟩ := bd hr
  refine .g1 G (cK (args := [aB true, .hs 1 0 g.length 1]) (l := [1]) (Sp (SnL.cons (Sn.hs rfl (.inl rfl) (SnC.pure (aW (aC _) _)) (fun h => cG h)) SnL.nil)) (aU n true g q z)) (.mu 1 (.p0 (v := aB true) (eB t) (.mu 1 (.ca cf0 (.mu 1 (.done (.nh [2] [.own (ah.c q), .fix (g.flatMap iCu)] (.ret ?_))))))))
  obtain rfl := oi hr
  exact aG.r1 [.agg (ah.c q)]
 refine .skip (.seq (.r5 G [0, 2, 3] [(4, .hs 1 0 0 1)] [.own [aB false, nS], .own []] (.seq (.block ?_))))
 replace hr := bd hr; obtain ⟨f, p, hr⟩ := hr
 refine .aH (σ := fun D => match D with | (a, b) => ⟨mkS 29 0 [(0, ae k), (2, .hp 0 0), (3, cO a), (4, .hs 1 0 b.length 1)], [.own [aB false, nS], .own (b.flatMap iCu)]⟩) (Q := fun x st' => x = .exit 0 /\ Wk 0 st' ⟨mkS 29 0 [(0, ae k), (2, .hp 0 0), (4, .hs 1 0 f.length 1)], [.own [aB false, nS], .own (f.flatMap iCu)]⟩) p ((Wk.gc [0, 2, 3, 4] [(0, true), (1, false)] rfl (pKt (pKc trivial))).to) ?_ ?_
 ·clear hr
  rintro m ⟨a, b⟩ hr
  show CQ _ _ _ _ _ ⟨_, _⟩
  refine .seq (.seq (.r4 G [0, 2, 3, 4] [(16, aB (decide (a > 0)))] ?_))
  refine .cd hr ?_ ?_ <;> intro E hr
  ·refine .skip (.block (.seq ?_))
   obtain ⟨A, B, hr⟩ := gd2 hr
   refine .r0 G (.mu 5 (.e0 (v := .hs 3 0 (b ++ [aa .u32 (a.tmod 1000000000)]).length 1) (ws := [(1, .dead), (3, .own ((b ++ [aa .u32 (a.tmod 1000000000)]).flatMap iCu))]) (tr (eM (new := [bt (aa .u32 (a.tmod 1000000000))]) (l := b) (xs := [aa .u32 (a.tmod 1000000000)]) (aF .u32) rfl rfl (by kernel_rfl) A B)) (.mu 1 (.done (.nh [0, 2, 3, 4] [.own [aB false, nS], .dead, .own [bt (aa .u32 (a.tmod 1000000000))], .own ((b ++ [aa .u32 (a.tmod 1000000000)]).flatMap iCu)] (.ru G (.pop ?_)))))))
   exact az (wFu (a.tdiv 1000000000), b ++ [aa .u32 (a.tmod 1000000000)]) hr ((Wk.gc [0, 2, 3, 4] [(0, true), (3, false)] rfl (pKt (pKo iCu (aC _) (b ++ [aa .u32 (a.tmod 1000000000)]) trivial))).to)
  refine .leave rfl ?_
  obtain rfl := oi hr
  exact ⟨rfl, ((Wk.gc [0, 2, 4] [(0, true), (1, false)] rfl (pKt (pKo iCu (aC _) b trivial))).to)⟩
 rintro x st' j
 clear p
 obtain ⟨rfl, j⟩ := j
 refine aQ _ rfl (.wk j (.seq ?_))
 obtain ⟨s, C, hr⟩ := bd hr
 refine .g1 G (cK (args := [aB false, .hs 1 0 f.length 1]) (l := [1]) (Sp (SnL.cons (Sn.hs rfl (.inl rfl) (SnC.pure (aW (aC _) _)) (fun h => cG h)) SnL.nil)) (aU n false f s C)) (.mu 1 (.p0 (v := aB false) (eB t) (.mu 1 (.ca cf0 (.mu 1 (.done (.nh [2] [.own (ah.c s), .fix (f.flatMap iCu)] (.ret ?_))))))))
 obtain rfl := oi hr
 exact aG.r1 [.agg (ah.c s)]

theorem lf (n : Nat) {b : Int} {a : Int} (h : ([.at (.int .i64 b)] : List AV) = [.at (.int .i64 a)]) : ch n b = ch n a := by
 obtain rfl := dS h
 rfl
theorem eQ (n : Nat) (a : Int) (r : ah) (hr : ch n a = some r) : aL Tryz.prog 83 [ae a] (.agg (ah.c r)) := by
 unfold ch at hr
 refine aL.bd G Tryz.func83 [.cell 2 40] ?_
 unfold Tryz.f83
 simp only [gS]
 refine .seq (.r5 G [0] [(2, .hp 0 0)] [.own [aB false, nS]] (.seq ?_))
 obtain ⟨b, d, hr⟩ := bd hr
 refine .g1 G (ok0 (m5 n a b d)) (.mu 1 (.ca cf0 (.mu 1 (.done (.nh [2] [.own (ah.c b)] (.ret ?_))))))
 obtain rfl := oi hr
 exact aG.r1 [.agg (ah.c b)]

theorem lM (n : Nat) {b : ah} {a : ah} (h : ([.agg (ah.c b)] : List AV) = [.agg (ah.c a)]) : cQ n b = cQ n a := by
 obtain rfl := eV h
 rfl
theorem dP (n : Nat) (b : ah) (r : Bool) (hr : cQ n b = some r) : aL Tryz.prog 112 [.agg (ah.c b)] (aB r) := by
 unfold cQ at hr
 refine aL.bd G Tryz.func112 [.tmp 2] ?_
 unfold Tryz.f112
 simp only [gS]
 refine .seq (.r2 G 31 [(1, .hp 0 0)] [.own (ah.c b)] (.seq (.r4 G [1] [(3, ae (b.Groups.length : Int))] (.seq (.seq (.r4 G [1, 3] [(4, ae 0)] (.block ?_)))))))
 replace hr := bd hr; obtain ⟨h, e, hr⟩ := hr
 refine .aH (σ := fun j => match j with | d => ⟨mkS 31 0 [(1, .hp 0 0), (3, ae (b.Groups.length : Int)), (4, ae d)], [.own (ah.c b)]⟩) (Q := fun x st' => match (generalizing := false) h with | .inl _ => x = .exit 0 /\ Wk 0 st' ⟨mkS 31 0 [(1, .hp 0 0), (3, ae (b.Groups.length : Int))], [.own (ah.c b)]⟩ | .inr (r0) => x = .ret /\ aG Tryz.prog [.tmp 2] (aB r0) .ret st') e ((Wk.gc [1, 3, 4] [(0, true)] rfl trivial).to) ?_ ?_
 ·clear hr
  rintro m d hr
  show CQ _ _ _ _ _ ⟨_, _⟩
  refine .seq (.seq (.r4 G [1, 3, 4] [(10, aB (decide (d < (b.Groups.length : Int))))] ?_))
  refine .cd hr ?_ ?_ <;> intro k hr
  ·refine .skip (.seq (.block (.seq ?_)))
   obtain ⟨g, hr⟩ := gd hr
   refine .r0 G (.mu 3 (.p0 (v := .pp (b.Groups.flatMap iCu) (d.toNat * 1)) (tr (ar g)) (.p0 (v := bt (gt b.Groups d)) (tr (aD (aE (aF .u32) (aA g) z1 (by omega : d.toNat * 1 = d.toNat * 1 + 0) (by kernel_rfl)))) (.mu 1 (.done (.nh [1, 3, 4, 18] [.own (ah.c b)] ?_))))))
   refine .cd hr ?_ ?_ <;> intro l hr
   ·refine .seq (.ru G (.ret ?_))
    obtain rfl := oi hr
    exact ⟨rfl, aG.ret (vs := [aB false]) (by kernel_rfl) (Sn.pure rfl)⟩
   refine .skip (.pop (.ru G ?_))
   exact az (Fc (d + 1)) hr ((Wk.gc [1, 3, 4] [(0, true)] rfl trivial).to)
  refine .leave rfl ?_
  obtain rfl := oi hr
  exact ⟨rfl, ((Wk.gc [1, 3] [(0, true)] rfl trivial).to)⟩
 rcases h with ⟨⟩ | r0
 ·rintro x st' a
  clear e
  obtain ⟨rfl, a⟩ := a
  refine aQ _ rfl (.wk a (.seq (.seq (.r4 G [1, 3] [(20, aB (((b.Groups.length : Int) : Int) == 0))] ?_))))
  refine .cd hr ?_ ?_ <;> intro i hr
  ·refine .seq (.ru G (.ret ?_))
   obtain rfl := oi hr
   exact aG.r1 [aB (!b.Negative)]
  refine .skip (.seq ?_)
  obtain ⟨f, hr⟩ := gd hr
  refine .r0 G (.mu 4 (.p0 (v := .pp (b.Groups.flatMap iCu) ((Fc ((b.Groups.length : Int) - 1)).toNat * 1)) (tr (ar f)) (.p0 (v := bt (gt b.Groups (Fc ((b.Groups.length : Int) - 1)))) (tr (aD (aE (aF .u32) (aA f) z1 (by omega : (Fc ((b.Groups.length : Int) - 1)).toNat * 1 = (Fc ((b.Groups.length : Int) - 1)).toNat * 1 + 0) (by kernel_rfl)))) (.mu 2 (.done (.ret ?_))))))
  obtain rfl := oi hr
  exact aG.r1 [aB (((gt b.Groups (Fc ((b.Groups.length : Int) - 1))) : Int) != 0)]
 rintro x st' a
 clear e
 obtain ⟨rfl, a⟩ := a
 obtain rfl := oi hr
 exact iT _ a

theorem gg (n : Nat) {b : ah} {a : ah} (h : ([.agg (ah.c b)] : List AV) = [.agg (ah.c a)]) : bg n b = bg n a := by
 obtain rfl := eV h
 rfl
theorem bY (n : Nat) (a : ah) (r : ah) (hr : bg n a = some r) : aL Tryz.prog 128 [.agg (ah.c a)] (.agg (ah.c r)) := by
 unfold bg at hr
 refine aL.bd G Tryz.func128 [.cell 2 40] ?_
 unfold Tryz.f128
 simp only [gS]
 refine .seq (.r2 G 14 [(1, .hp 0 0), (2, .hp 1 0)] [.own (ah.c a), .own [aB false, nS]] (.seq (.seq ?_)))
 obtain ⟨g, b, hr⟩ := bd hr
 refine .g1 G (ok0 (dP n a g b)) (.mu 1 (.ca cf0 (.mu 1 (.done (.nh [1, 2, 5] [.own (ah.c a), .own [aB false, nS]] ?_)))))
 refine .cd hr ?_ ?_ <;> intro i hr
 ·refine .seq (.r4 G [2] [] (.ret ?_))
  obtain rfl := oi hr
  exact aG.ret (vs := [.agg [aB false, nS]]) (by kernel_rfl) (Sn.agg (Sp (SnL.cons Sn.fZ SnL.nil)))
 refine .skip (.seq ?_)
 obtain ⟨d, e, hr⟩ := gd2 hr
 refine .eu G bJ (.mu 5 (.ek (v := .hs 3 0 a.Groups.length 1) (ws := [(2, .dead), (3, .own (a.Groups.flatMap iCu))]) (tr (y := ze (decide (((a.Groups.flatMap iCu)).length = a.Groups.length * 1)) (a.Groups.flatMap iCu) a.Groups.length (fun z1 f => oA (decide (0 + 0 * 1 <= (([] : List Int).flatMap iCu).length) && decide ((0 + f) * 4 <= 140737488355328) && decide (0 + f <= 4611686018427387904)) (some (.eff (.hs 3 0 (0 + f) 1) [(2, .dead), (3, .own (((([] : List Int).flatMap iCu).drop 0).take (0 * 1) ++ z1))])))) (uj (nt (aF _)) rfl (eM (l := ([] : List Int)) (xs := a.Groups) (aF _) rfl rfl rfl d e))) (.mu 2 ?_)))
 refine .done ⟨by kernel_rfl, ?_⟩
 refine .nh [2] [.own (ah.c a), .own [aB a.Negative, .hs 3 0 a.Groups.length 1], .dead, .own (a.Groups.flatMap iCu)] (.ret ?_)
 obtain rfl := oi hr
 exact aG.ret (vs := [.agg [aB a.Negative, .hs 3 0 a.Groups.length 1]]) (by kernel_rfl) (Sn.agg (Sp (SnL.cons (Sn.hs rfl (.inl rfl) (SnC.pure (aW (aC _) _)) (fun h => cG h)) SnL.nil)))

theorem fi (n : Nat) (a : ah) (r : Int) (hr : cJ n a = some r) : aL Tryz.prog 113 [.agg (ah.c a)] (ae r) := by
 unfold cJ at hr
 refine aL.bd G Tryz.func113 [.tmp 2] ?_
 unfold Tryz.f113
 simp only [gS]
 refine .seq (.r2 G 11 [(1, .hp 0 0)] [.own (ah.c a)] (.seq ?_))
 obtain ⟨b, d, hr⟩ := bd hr
 refine .g1 G (ok0 (bY n a b d)) (.mu 1 (.ca cf0 (.mu 1 (.done (.nh [1] [.own (ah.c b)] (.seq (.seq (.r4 G [1] [(8, aB (((b.Groups.length : Int) : Int) == 0))] ?_))))))))
 refine .cd hr ?_ ?_ <;> intro e hr
 ·refine .seq (.ru G (.ret ?_))
  obtain rfl := oi hr
  exact aG.r1 [ae 0]
 refine .skip (.seq (.seq (.r3 G 11 [(10, aB b.Negative)] ?_)))
 refine .cd hr ?_ ?_ <;> intro f hr
 ·refine .seq (.ru G (.ret ?_))
  obtain rfl := oi hr
  exact aG.r1 [ae (-1)]
 refine .skip (.seq (.ru G (.ret ?_)))
 obtain rfl := oi hr
 exact aG.r1 [ae 1]

theorem lJ (n : Nat) (a : List Int) (d : Int) (r : List Int × Int) (hr : eY n a d = some r) : aL Tryz.prog 186 [au a, cO d] (.tup [au r.1, cO r.2]) := by
 unfold eY at hr
 refine aL.bd G Tryz.func186 [.tmp 4, .tmp 5] ?_
 unfold Tryz.f186
 simp only [gS]
 refine .seq (.r4 G [0, 1] [] (.seq ?_))
 obtain ⟨A, B, C, hr⟩ := gd3 hr
 refine .r0 G (.mu 2 (.e0 (v := .hs 0 0 (List.replicate (a.length : Int).toNat ((0 : Int) : Int)).length 1) (ws := [(0, .own ((List.replicate (a.length : Int).toNat ((0 : Int) : Int)).flatMap iCu))]) (tr (mO (c := iCu) (z := (0 : Int)) (n := (a.length : Int)) (by_ := 4) rfl A B C)) (.mu 1 (.done (.nh [0, 1, 6] [.own ((List.replicate (a.length : Int).toNat ((0 : Int) : Int)).flatMap iCu)] (.seq (.r4 G [0, 1, 6] [(7, cO 0)] (.seq (.seq (.r4 G [0, 1, 6, 7] [(8, ae (Fc ((a.length : Int) - 1)))] (.block ?_)))))))))))
 replace hr := bd hr; obtain ⟨t, p, hr⟩ := hr
 refine .aH (σ := fun E => match E with | (g, f, e) => ⟨mkS 42 0 [(0, au a), (1, cO d), (6, .hs 0 0 g.length 1), (7, cO f), (8, ae e)], [.own (g.flatMap iCu)]⟩) (Q := fun x st' => match (generalizing := false) t with | (i, j) => x = .exit 0 /\ Wk 0 st' ⟨mkS 42 0 [(6, .hs 0 0 i.length 1), (7, cO j)], [.own (i.flatMap iCu)]⟩) p ((Wk.gc [0, 1, 6, 7, 8] [(0, false)] rfl (pKo iCu (aC _) (List.replicate (a.length : Int).toNat ((0 : Int) : Int)) trivial)).to) ?_ ?_
 ·clear hr
  rintro m ⟨g, f, e⟩ hr
  show CQ _ _ _ _ _ ⟨_, _⟩
  refine .seq (.seq (.r4 G [0, 1, 6, 7, 8] [(17, aB (decide (e >= 0)))] ?_))
  refine .cd hr ?_ ?_ <;> intro D hr
  ·refine .skip (.seq (.block (.seq ?_)))
   obtain ⟨q, hr⟩ := gd hr
   refine .r0 G (.mu 4 (.p0 (v := .pp (a.flatMap iCu) (e.toNat * 1)) (tr (ar q)) (.p0 (v := bt (gt a e)) (tr (aD (aE (aF .u32) (aA q) z1 (by omega : e.toNat * 1 = e.toNat * 1 + 0) (by kernel_rfl)))) (.mu 3 (.done (.nh [0, 1, 6, 8, 9] [.own (g.flatMap iCu)] (.seq ?_)))))))
   obtain ⟨s, k, hr⟩ := gd2 hr
   refine .r0 G (.mu 4 (.p0 (v := cO (wFu ((wFu ((wFu (f * 1000000000)) + (wFu (gt a e)))).tdiv d))) (rh (x := wFu ((wFu (f * 1000000000)) + (wFu (gt a e)))) (y := d) (by kernel_rfl) (by kernel_rfl) s) (.mu 1 (.p0 (v := .hp 0 (0 + e.toNat * 1)) (tr (ar k)) (.e0 (v := .unk) (ws := [(0, .own ((g.set e.toNat (aa .u32 (wFu ((wFu ((wFu (f * 1000000000)) + (wFu (gt a e)))).tdiv d)))).flatMap iCu))]) (tr (iF (iH (ct (n := 1) (aF .u32) (aA k) (lbT rfl) (by omega : 0 + e.toNat * 1 = e.toNat * 1 + 0))) (congrArg Blk.own (cS (xs := [bt (aa .u32 (wFu ((wFu ((wFu (f * 1000000000)) + (wFu (gt a e)))).tdiv d)))]) (aF .u32) (aA k) (lbT rfl) (by omega : 0 + e.toNat * 1 = e.toNat * 1 + 0) (by kernel_rfl))))) (.done (.nh [0, 1, 6, 8, 9] [.own ((g.set e.toNat (aa .u32 (wFu ((wFu ((wFu (f * 1000000000)) + (wFu (gt a e)))).tdiv d)))).flatMap iCu)] (.r0 G (.mu 2 (.p0 (v := cO ((wFu ((wFu (f * 1000000000)) + (wFu (gt a e)))).tmod d)) (qE (x := wFu ((wFu (f * 1000000000)) + (wFu (gt a e)))) (y := d) (by kernel_rfl) (by kernel_rfl) s) (.mu 1 (.done (.pop (.ru G ?_))))))))))))))
   exact az (g.set e.toNat (aa .u32 (wFu ((wFu ((wFu (f * 1000000000)) + (wFu (gt a e)))).tdiv d))), (wFu ((wFu (f * 1000000000)) + (wFu (gt a e)))).tmod d, Fc (e - 1)) hr ((Wk.iQ 6 (b := 0) (es := 1) (len := g.length) (g.set e.toNat (aa .u32 (wFu ((wFu ((wFu (f * 1000000000)) + (wFu (gt a e)))).tdiv d)))).length (by kernel_rfl) (Eq.symm (List.length_set.trans rfl))).trans ((Wk.gc [0, 1, 6, 7, 8] [(0, false)] rfl (pKo iCu (aC _) (g.set e.toNat (aa .u32 (wFu ((wFu ((wFu (f * 1000000000)) + (wFu (gt a e)))).tdiv d)))) trivial)).to))
  refine .leave rfl ?_
  obtain rfl := oi hr
  exact ⟨rfl, ((Wk.gc [6, 7] [(0, false)] rfl (pKo iCu (aC _) g trivial)).to)⟩
 rcases t with ⟨i, j⟩
 rintro x st' o
 clear p
 obtain ⟨rfl, o⟩ := o
 refine aQ _ rfl (.wk o (.seq ?_))
 obtain ⟨u, w, hr⟩ := bd hr
 refine .g1 G (cK (args := [aB false, .hs 0 0 i.length 1]) (l := [0]) (Sp (SnL.cons (Sn.hs rfl (.inl rfl) (SnC.pure (aW (aC _) _)) (fun h => cG h)) SnL.nil)) (aU n false i u w)) (.mu 1 (.ca cf0 (.mu 4 (.done (.ret ?_)))))
 obtain rfl := oi hr
 exact aG.ret (vs := [au u.Groups, cO j]) (by kernel_rfl) (Sn.tup (Sp (Sp SnL.nil)))

theorem jI (n : Nat) (a : List Int) (b : List Int) (r : Int) (hr : c7 n a b = some r) : aL Tryz.prog 155 [au a, au b] (ae r) := by
 unfold c7 at hr
 refine aL.bd G Tryz.func155 [.tmp 4] ?_
 unfold Tryz.f155
 simp only [gS]
 refine .seq (.r4 G [0, 1] [] (.seq (.seq (.r4 G [0, 1] [(10, aB (((a.length : Int) : Int) != (b.length : Int)))] ?_))))
 refine .cd hr ?_ ?_ <;> intro l hr
 ·refine .seq (.seq (.r3 G 41 [(15, aB (decide ((a.length : Int) < (b.length : Int))))] ?_))
  refine .cd hr ?_ ?_ <;> intro o hr
  ·refine .seq (.ru G (.ret ?_))
   obtain rfl := oi hr
   exact aG.r1 [ae (-1)]
  refine .skip (.seq (.ru G (.ret ?_)))
  obtain rfl := oi hr
  exact aG.r1 [ae 1]
 refine .skip (.seq (.seq (.r4 G [0, 1] [(5, ae (Fc ((a.length : Int) - 1)))] (.block ?_))))
 replace hr := bd hr; obtain ⟨h, g, hr⟩ := hr
 refine .aH (σ := fun p => match p with | c => ⟨mkS 41 0 [(0, au a), (1, au b), (5, ae c)], []⟩) (Q := fun x st' => match (generalizing := false) h with | .inl _ => x = .exit 0 /\ Wk 0 st' ⟨mkS 41 0 [], []⟩ | .inr (r0) => x = .ret /\ aG Tryz.prog [.tmp 4] (ae r0) .ret st') g ((Wk.gc [0, 1, 5] [] rfl pK0).to) ?_ ?_
 ·clear hr
  rintro m c hr
  show CQ _ _ _ _ _ ⟨_, _⟩
  refine .seq (.seq (.r4 G [0, 1, 5] [(20, aB (decide (c >= 0)))] ?_))
  refine .cd hr ?_ ?_ <;> intro i hr
  ·refine .skip (.seq (.block (.seq (.seq ?_))))
   obtain ⟨e, f, hr⟩ := gd2 hr
   refine .eu G bJ (.mu 2 (.pk (v := .pp (a.flatMap iCu) (c.toNat * 1)) (tr (ar e)) (.pk (v := bt (gt a c)) (tr (aD (aE (aF .u32) (aA e) z1 (by omega : c.toNat * 1 = c.toNat * 1 + 0) (by kernel_rfl)))) (.mu 2 (.pk (v := .pp (b.flatMap iCu) (c.toNat * 1)) (tr (ar f)) (.pk (v := bt (gt b c)) (tr (aD (aE (aF .u32) (aA f) z1 (by omega : c.toNat * 1 = c.toNat * 1 + 0) (by kernel_rfl)))) (.mu 1 ?_)))))))
   refine .done ⟨by kernel_rfl, ?_⟩
   refine .nh [0, 1, 5, 31] [] ?_
   refine .cd hr ?_ ?_ <;> intro j hr
   ·refine .seq (.ru G (.ret ?_))
    obtain rfl := oi hr
    exact ⟨rfl, aG.ret (vs := [ae (-1)]) (by kernel_rfl) (Sn.pure rfl)⟩
   refine .skip (.seq (.eu G bJ (.mu 2 (.pk (v := .pp (a.flatMap iCu) (c.toNat * 1)) (tr (ar e)) (.pk (v := bt (gt a c)) (tr (aD (aE (aF .u32) (aA e) z1 (by omega : c.toNat * 1 = c.toNat * 1 + 0) (by kernel_rfl)))) (.mu 2 (.pk (v := .pp (b.flatMap iCu) (c.toNat * 1)) (tr (ar f)) (.pk (v := bt (gt b c)) (tr (aD (aE (aF .u32) (aA f) z1 (by omega : c.toNat * 1 = c.toNat * 1 + 0) (by kernel_rfl)))) (.mu 1 ?_)))))))))
   refine .done ⟨by kernel_rfl, ?_⟩
   refine .nh [0, 1, 5, 40] [] ?_
   refine .cd hr ?_ ?_ <;> intro k hr
   ·refine .seq (.ru G (.ret ?_))
    obtain rfl := oi hr
    exact ⟨rfl, aG.ret (vs := [ae 1]) (by kernel_rfl) (Sn.pure rfl)⟩
   refine .skip (.pop (.ru G ?_))
   exact az (Fc (c - 1)) hr ((Wk.gc [0, 1, 5] [] rfl pK0).to)
  refine .leave rfl ?_
  obtain rfl := oi hr
  exact ⟨rfl, ((Wk.gc [] [] rfl pK0).to)⟩
 rcases h with ⟨⟩ | r0
 ·rintro x st' d
  clear g
  obtain ⟨rfl, d⟩ := d
  refine aQ _ rfl (.wk d (.seq (.ru G (.ret ?_))))
  obtain rfl := oi hr
  exact aG.r1 [ae 0]
 rintro x st' d
 clear g
 obtain ⟨rfl, d⟩ := d
 obtain rfl := oi hr
 exact iT _ d

theorem oE {a : List Int} {d : Int} {b : List Int} {c : Int} (h : ([slT iCu a, .at (.int .u64 d)] : List AV) = [slT iCu b, .at (.int .u64 c)]) : a = b /\ d = c := by
 simp only [List.cons.injEq, AV.agg.injEq, AV.at.injEq, Value.int.injEq, Value.bool.injEq, AV.fn.injEq, AV.pp.injEq, true_and, and_true, eZ] at h
 simp_all
theorem oU (n : Nat) {a : List Int} {d : Int} {b : List Int} {c : Int} (h : ([slT iCu a, .at (.int .u64 d)] : List AV) = [slT iCu b, .at (.int .u64 c)]) : cr n a d = cr n b c := by
 obtain ⟨rfl, rfl⟩ := oE h
 rfl
theorem iK (n : Nat) (a : List Int) (d : Int) (r : List Int) (hr : cr n a d = some r) : aL Tryz.prog 187 [au a, cO d] (au r) := by
 unfold cr at hr
 refine aL.bd G Tryz.func187 [.tmp 4] ?_
 unfold Tryz.f187
 simp only [gS]
 refine .seq (.r4 G [0, 1] [] (.seq (.r5 G [0, 1] [(5, .hs 0 0 0 1)] [.own []] (.seq (.r4 G [0, 1, 5] [(6, cO 0)] (.seq (.seq (.r4 G [0, 1, 5, 6] [(7, ae 0)] (.block ?_)))))))))
 replace hr := bd hr; obtain ⟨o, j, hr⟩ := hr
 refine .aH (σ := fun z => match z with | (c, e, b) => ⟨mkS 40 0 [(0, au a), (1, cO d), (5, .hs 0 0 c.length 1), (6, cO e), (7, ae b)], [.own (c.flatMap iCu)]⟩) (Q := fun x st' => match (generalizing := false) o with | (g, f) => x = .exit 0 /\ Wk 0 st' ⟨mkS 40 0 [(5, .hs 0 0 g.length 1), (6, cO f)], [.own (g.flatMap iCu)]⟩) j ((Wk.gc [0, 1, 5, 6, 7] [(0, false)] rfl (pKc trivial)).to) ?_ ?_
 ·clear hr
  rintro m ⟨c, e, b⟩ hr
  show CQ _ _ _ _ _ ⟨_, _⟩
  refine .seq (.seq (.r4 G [0, 1, 5, 6, 7] [(13, aB (decide (b < (a.length : Int))))] ?_))
  refine .cd hr ?_ ?_ <;> intro y hr
  ·refine .skip (.seq (.block (.seq ?_)))
   obtain ⟨k, hr⟩ := gd hr
   refine .r0 G (.mu 2 (.p0 (v := .pp (a.flatMap iCu) (b.toNat * 1)) (tr (ar k)) (.p0 (v := bt (gt a b)) (tr (aD (aE (aF .u32) (aA k) z1 (by omega : b.toNat * 1 = b.toNat * 1 + 0) (by kernel_rfl)))) (.mu 6 (.done (.nh [0, 1, 5, 7, 8] [.own (c.flatMap iCu)] (.seq ?_)))))))
   obtain ⟨p, q, hr⟩ := gd2 hr
   refine .r0 G (.mu 5 (.e0 (v := .hs 2 0 (c ++ [aa .u32 ((wFu ((wFu ((wFu (gt a b)) * d)) + e)).tmod 1000000000)]).length 1) (ws := [(0, .dead), (2, .own ((c ++ [aa .u32 ((wFu ((wFu ((wFu (gt a b)) * d)) + e)).tmod 1000000000)]).flatMap iCu))]) (tr (eM (new := [bt (aa .u32 ((wFu ((wFu ((wFu (gt a b)) * d)) + e)).tmod 1000000000))]) (l := c) (xs := [aa .u32 ((wFu ((wFu ((wFu (gt a b)) * d)) + e)).tmod 1000000000)]) (aF .u32) rfl rfl (by kernel_rfl) p q)) (.mu 1 (.done (.nh [0, 1, 5, 7, 8] [.dead, .own [bt (aa .u32 ((wFu ((wFu ((wFu (gt a b)) * d)) + e)).tmod 1000000000))], .own ((c ++ [aa .u32 ((wFu ((wFu ((wFu (gt a b)) * d)) + e)).tmod 1000000000)]).flatMap iCu)] (.ru G (.pop (.ru G ?_))))))))
   exact az (c ++ [aa .u32 ((wFu ((wFu ((wFu (gt a b)) * d)) + e)).tmod 1000000000)], wFu ((wFu ((wFu ((wFu (gt a b)) * d)) + e)).tdiv 1000000000), Fc (b + 1)) hr ((Wk.gc [0, 1, 5, 6, 7] [(2, false)] rfl (pKo iCu (aC _) (c ++ [aa .u32 ((wFu ((wFu ((wFu (gt a b)) * d)) + e)).tmod 1000000000)]) trivial)).to)
  refine .leave rfl ?_
  obtain rfl := oi hr
  exact ⟨rfl, ((Wk.gc [5, 6] [(0, false)] rfl (pKo iCu (aC _) c trivial)).to)⟩
 rcases o with ⟨g, f⟩
 rintro x st' i
 clear j
 obtain ⟨rfl, i⟩ := i
 refine aQ _ rfl (.wk i (.seq ?_))
 obtain ⟨s, t, hr⟩ := gd2 hr
 obtain ⟨u, w, hr⟩ := bd hr
 refine .gn G (ca4 [.dead, .own [bt (aa .u32 f)], .own ((g ++ [aa .u32 f]).flatMap iCu)] (cK (args := [aB false, .hs 2 0 (g ++ [aa .u32 f]).length 1]) (l := [2]) (Sp (SnL.cons (Sn.hs rfl (.inl rfl) (SnC.pure (aW (aC _) _)) (fun h => cG h)) SnL.nil)) (aU n false (g ++ [aa .u32 f]) u w))) (.mu 4 (.e0 (v := .hs 2 0 (g ++ [aa .u32 f]).length 1) (ws := [(0, .dead), (2, .own ((g ++ [aa .u32 f]).flatMap iCu))]) (tr (eM (new := [bt (aa .u32 f)]) (l := g) (xs := [aa .u32 f]) (aF .u32) rfl rfl (by kernel_rfl) s t)) (.ca cf0 (.mu 2 (.done (.ret ?_))))))
 obtain rfl := oi hr
 exact aG.r1 [au u.Groups]

theorem oC (n : Nat) (a : List Int) (d : Int) (r : List Int) (hr : dY n a d = some r) : aL Tryz.prog 188 [au a, bt d] (au r) := by
 unfold dY at hr
 refine aL.bd G Tryz.func188 [.tmp 4] ?_
 unfold Tryz.f188
 simp only [gS]
 refine .seq (.r4 G [0, 1] [] (.seq ?_))
 obtain ⟨b, c, hr⟩ := gd2 hr
 obtain ⟨g, e, hr⟩ := bd hr
 refine .gn G (ca4 [.dead, .own (([d] ++ a).flatMap iCu)] (cK (args := [aB false, .hs 1 0 ([d] ++ a).length 1]) (l := [1]) (Sp (SnL.cons (Sn.hs rfl (.inl rfl) (SnC.pure (aW (aC _) _)) (fun h => cG h)) SnL.nil)) (aU n false ([d] ++ a) g e))) (.mu 3 (.e0 (v := .hs 1 0 ([d] ++ a).length 1) (ws := [(0, .dead), (1, .own (([d] ++ a).flatMap iCu))]) (tr (y := ze (decide (((a.flatMap iCu)).length = a.length * 1)) (a.flatMap iCu) a.length (fun z1 f => oA (decide (0 + 1 * 1 <= ([d].flatMap iCu).length) && decide ((1 + f) * 4 <= 140737488355328) && decide (1 + f <= 4611686018427387904)) (some (.eff (.hs 1 0 (1 + f) 1) [(0, .dead), (1, .own ((([d].flatMap iCu).drop 0).take (1 * 1) ++ z1))])))) (uj (nt (aF _)) rfl (eM (l := [d]) (xs := a) (aF _) rfl rfl rfl b c))) (.ca cf0 (.mu 2 (.done (.ret ?_))))))
 obtain rfl := oi hr
 exact aG.r1 [au g.Groups]

theorem eO (n : Nat) {l : List Int} {i : Int} {a : List Int} {b : Int} (h : ([slT iCu l, .at (.int .i64 i)] : List AV) = [slT iCu a, .at (.int .i64 b)]) : aV n l i = aV n a b := by
 obtain ⟨rfl, rfl⟩ := qR h
 rfl
theorem bW (n : Nat) (l : List Int) (i : Int) (r : Int) (hr : aV n l i = some r) : aL Tryz.prog 189 [au l, ae i] (cO r) := by
 unfold aV at hr
 refine aL.bd G Tryz.func189 [.tmp 4] ?_
 unfold Tryz.f189
 simp only [gS]
 refine .seq (.r4 G [0, 1] [] (.seq (.seq (.r4 G [0, 1] [(8, aB (decide (i < (l.length : Int))))] ?_))))
 refine .cd hr ?_ ?_ <;> intro b hr
 ·refine .seq ?_
  obtain ⟨a, hr⟩ := gd hr
  refine .r0 G (.mu 2 (.p0 (v := .pp (l.flatMap iCu) (i.toNat * 1)) (tr (ar a)) (.p0 (v := bt (gt l i)) (tr (aD (aE (aF .u32) (aA a) z1 (by omega : i.toNat * 1 = i.toNat * 1 + 0) (by kernel_rfl)))) (.mu 2 (.done (.ret ?_))))))
  obtain rfl := oi hr
  exact aG.r1 [cO (wFu (gt l i))]
 refine .skip (.seq (.ru G (.ret ?_)))
 obtain rfl := oi hr
 exact aG.r1 [cO 0]

theorem gh (n : Nat) (a : List Int) (b : List Int) (r : List Int) (hr : cj n a b = some r) : aL Tryz.prog 156 [au a, au b] (au r) := by
 unfold cj at hr
 refine aL.bd G Tryz.func156 [.tmp 4] ?_
 unfold Tryz.f156
 simp only [gS]
 refine .seq (.r4 G [0, 1] [] (.seq (.r5 G [0, 1] [(5, .hs 0 0 0 1)] [.own []] (.seq (.r4 G [0, 1, 5] [(6, cO 0)] (.seq (.seq (.r4 G [0, 1, 5, 6] [(7, ae 0)] (.block ?_)))))))))
 replace hr := bd hr; obtain ⟨g, k, hr⟩ := hr
 refine .aH (σ := fun y => match y with | (c, d, i) => ⟨mkS 38 0 [(0, au a), (1, au b), (5, .hs 0 0 c.length 1), (6, cO d), (7, ae i)], [.own (c.flatMap iCu)]⟩) (Q := fun x st' => x = .exit 0 /\ Wk 0 st' ⟨mkS 38 0 [(5, .hs 0 0 g.length 1)], [.own (g.flatMap iCu)]⟩) k ((Wk.gc [0, 1, 5, 6, 7] [(0, false)] rfl (pKc trivial)).to) ?_ ?_
 ·clear hr
  rintro m ⟨c, d, i⟩ hr
  show CQ _ _ _ _ _ ⟨_, _⟩
  refine .seq (.seq (.r4 G [0, 1, 5, 6, 7] [(13, aB (decide (i < (a.length : Int))))] ?_))
  refine .cd hr ?_ ?_ <;> intro w hr
  ·refine .skip (.seq (.block (.seq ?_)))
   obtain ⟨e, o, f, p, hr⟩ := bd2 hr
   refine .gn G (ca1 (ok0 (bW n a i e o)) (ca3 (ok0 (bW n b i f p)))) (.mu 2 (.ca cf0 (.mu 3 (.ca (cfA (fun h => by rw [sv p o (eO n h)]) cf0) (.mu 4 (.done (.nh [0, 1, 5, 7, 8] [.own (c.flatMap iCu)] (.seq ?_))))))))
   obtain ⟨q, s, hr⟩ := gd2 hr
   refine .r0 G (.mu 5 (.e0 (v := .hs 2 0 (c ++ [aa .u32 ((wFu ((wFu ((wFu (1000000000 + e)) - f)) - d)).tmod 1000000000)]).length 1) (ws := [(0, .dead), (2, .own ((c ++ [aa .u32 ((wFu ((wFu ((wFu (1000000000 + e)) - f)) - d)).tmod 1000000000)]).flatMap iCu))]) (tr (eM (new := [bt (aa .u32 ((wFu ((wFu ((wFu (1000000000 + e)) - f)) - d)).tmod 1000000000))]) (l := c) (xs := [aa .u32 ((wFu ((wFu ((wFu (1000000000 + e)) - f)) - d)).tmod 1000000000)]) (aF .u32) rfl rfl (by kernel_rfl) q s)) (.mu 1 (.done (.nh [0, 1, 5, 7, 8] [.dead, .own [bt (aa .u32 ((wFu ((wFu ((wFu (1000000000 + e)) - f)) - d)).tmod 1000000000))], .own ((c ++ [aa .u32 ((wFu ((wFu ((wFu (1000000000 + e)) - f)) - d)).tmod 1000000000)]).flatMap iCu)] (.ru G (.pop (.ru G ?_))))))))
   exact az (c ++ [aa .u32 ((wFu ((wFu ((wFu (1000000000 + e)) - f)) - d)).tmod 1000000000)], wFu (1 - (wFu ((wFu ((wFu ((wFu (1000000000 + e)) - f)) - d)).tdiv 1000000000))), Fc (i + 1)) hr ((Wk.gc [0, 1, 5, 6, 7] [(2, false)] rfl (pKo iCu (aC _) (c ++ [aa .u32 ((wFu ((wFu ((wFu (1000000000 + e)) - f)) - d)).tmod 1000000000)]) trivial)).to)
  refine .leave rfl ?_
  obtain rfl := oi hr
  exact ⟨rfl, ((Wk.gc [5] [(0, false)] rfl (pKo iCu (aC _) c trivial)).to)⟩
 rintro x st' j
 clear k
 obtain ⟨rfl, j⟩ := j
 refine aQ _ rfl (.wk j (.seq ?_))
 obtain ⟨t, u, hr⟩ := bd hr
 refine .g1 G (cK (args := [aB false, .hs 0 0 g.length 1]) (l := [0]) (Sp (SnL.cons (Sn.hs rfl (.inl rfl) (SnC.pure (aW (aC _) _)) (fun h => cG h)) SnL.nil)) (aU n false g t u)) (.mu 1 (.ca cf0 (.mu 2 (.done (.ret ?_)))))
 obtain rfl := oi hr
 exact aG.r1 [au t.Groups]

theorem jc (n : Nat) (a : List Int) (b : List Int) (r : List Int × List Int) (hr : dh n a b = some r) : aL Tryz.prog 152 [au a, au b] (.tup [au r.1, au r.2]) := by
 unfold dh at hr
 refine aL.bd G Tryz.func152 [.tmp 4, .tmp 5] ?_
 unfold Tryz.f152
 simp only [gS]
 refine .seq (.r4 G [0, 1] [] (.seq (.r4 G [0, 1] [(6, ae (b.length : Int))] (.seq (.seq (.r4 G [0, 1, 6] [(19, aB (((b.length : Int) : Int) == 1))] ?_))))))
 refine .cd hr ?_ ?_ <;> intro ov hr
 ·refine .seq ?_
  obtain ⟨S, hr⟩ := gd hr
  obtain ⟨v3, jQ, hr⟩ := bd hr
  refine .g1 G (ok0 (lJ n a (wFu (gt b 0)) v3 jQ)) (.mu 2 (.p0 (v := .pp (b.flatMap iCu) ((0 : Int).toNat * 1)) (tr (ar S)) (.p0 (v := bt (gt b 0)) (tr (aD (aE (aF .u32) (aA S) z1 (by omega : (0 : Int).toNat * 1 = (0 : Int).toNat * 1 + 0) (by kernel_rfl)))) (.mu 1 (.ca cf0 (.mu 5 (.done (.nh [7, 8] [] (.seq ?_)))))))))
  obtain ⟨v5, jN, hr⟩ := bd hr
  refine .gn G (ca4 [.own [bt (aa .u32 v3.2)]] (cK (args := [aB false, .hs 0 0 1 1]) (l := [0]) (Sp (SnL.cons (Sn.hs rfl (.inl rfl) (SnC.cons (Sn.pure rfl) SnC.nil) (fun h => nomatch h)) SnL.nil)) (aU n false [(aa .u32 v3.2)] v5 jN))) (.mu 4 (.ca cf0 (.mu 3 (.done (.ret ?_)))))
  obtain rfl := oi hr
  exact aG.ret (vs := [au v3.1, au v5.Groups]) (by kernel_rfl) (Sn.tup (Sp (Sp SnL.nil)))
 refine .skip (.seq (.seq ?_))
 obtain ⟨v7, ko, hr⟩ := bd hr
 refine .g1 G (ok0 (jI n a b v7 ko)) (.mu 2 (.ca cf0 (.mu 1 (.done (.nh [0, 1, 6, 38] [] ?_)))))
 refine .cd hr ?_ ?_ <;> intro p7 hr
 ·refine .seq (.r5 G [] [(4, .hs 0 0 0 1), (5, au a)] [.own []] (.ret ?_))
  obtain rfl := oi hr
  exact aG.ret (vs := [.hs 0 0 0 1, au a]) (by kernel_rfl) (Sn.tup (SnL.cons (Sn.hs rfl (.inl rfl) SnC.nil (fun _ => rfl)) (Sp SnL.nil)))
 refine .skip (.seq ?_)
 obtain ⟨D, T, hr⟩ := gd2 hr
 refine .r0 G (.mu 3 (.p0 (v := .pp (b.flatMap iCu) ((Fc ((b.length : Int) - 1)).toNat * 1)) (tr (ar D)) (.p0 (v := bt (gt b (Fc ((b.length : Int) - 1)))) (tr (aD (aE (aF .u32) (aA D) z1 (by omega : (Fc ((b.length : Int) - 1)).toNat * 1 = (Fc ((b.length : Int) - 1)).toNat * 1 + 0) (by kernel_rfl)))) (.mu 2 (.p0 (v := cO (wFu ((1000000000 : Int).tdiv (wFu ((wFu (gt b (Fc ((b.length : Int) - 1)))) + 1))))) (rh (x := 1000000000) (y := wFu ((wFu (gt b (Fc ((b.length : Int) - 1)))) + 1)) (by kernel_rfl) (by kernel_rfl) T) (.mu 1 (.done (.nh [0, 1, 6, 9] [] (.seq ?_)))))))))
 obtain ⟨f, E, g, F, hr⟩ := bd2 hr
 refine .gn G (ca1 (ok0 (iK n a (wFu ((1000000000 : Int).tdiv (wFu ((wFu (gt b (Fc ((b.length : Int) - 1)))) + 1)))) f E)) (ca3 (ok0 (iK n b (wFu ((1000000000 : Int).tdiv (wFu ((wFu (gt b (Fc ((b.length : Int) - 1)))) + 1)))) g F)))) (.mu 2 (.ca cf0 (.mu 2 (.ca (cfA (fun h => by rw [sv F E (oU n h)]) cf0) (.mu 2 (.done (.nh [0, 1, 6, 9] [] (.seq ?_))))))))
 obtain ⟨H, hr⟩ := gd hr
 obtain ⟨ky, U, hr⟩ := bd hr
 refine .g1 G (ok0 (aU n false ((f.drop (Fc ((Fc ((f.length : Int) - (b.length : Int))) + 1)).toNat).take ((f.length : Int).toNat - (Fc ((Fc ((f.length : Int) - (b.length : Int))) + 1)).toNat)) ky U)) (.mu 6 (.p0 (v := au ((f.drop (Fc ((Fc ((f.length : Int) - (b.length : Int))) + 1)).toNat).take ((f.length : Int).toNat - (Fc ((Fc ((f.length : Int) - (b.length : Int))) + 1)).toNat))) (tr (y := slO (inS (Fc ((Fc ((f.length : Int) - (b.length : Int))) + 1)) (f.length : Int) f.length) (Fc ((Fc ((f.length : Int) - (b.length : Int))) + 1)).toNat (f.length : Int).toNat (fun z1 z2 => .sl true (((f.flatMap iCu).drop (z1 * 1)).take ((z2 - z1) * 1)) (z2 - z1))) (xt H (tZ (aF _) (qJ H)))) (.ca cf0 (.mu 2 (.done (.nh [0, 1, 6, 9, 10] [] (.seq ?_)))))))
 obtain ⟨V, W, X, hr⟩ := gd3 hr
 refine .r0 G (.mu 5 (.e0 (v := .hs 0 0 (List.replicate (Fc ((Fc ((f.length : Int) - (b.length : Int))) + 1)).toNat ((0 : Int) : Int)).length 1) (ws := [(0, .own ((List.replicate (Fc ((Fc ((f.length : Int) - (b.length : Int))) + 1)).toNat ((0 : Int) : Int)).flatMap iCu))]) (tr (mO (c := iCu) (z := (0 : Int)) (n := Fc ((Fc ((f.length : Int) - (b.length : Int))) + 1)) (by_ := 4) rfl V W X)) (.mu 1 (.done (.nh [0, 1, 6, 9, 10, 11] [.own ((List.replicate (Fc ((Fc ((f.length : Int) - (b.length : Int))) + 1)).toNat ((0 : Int) : Int)).flatMap iCu)] (.seq (.seq (.r4 G [0, 1, 6, 9, 10, 11] [(12, ae (Fc ((f.length : Int) - (b.length : Int))))] (.block ?_)))))))))
 replace hr := bd hr; obtain ⟨Y, I, hr⟩ := hr
 refine .aH (σ := fun z0 => match z0 with | (o, d, e) => ⟨mkS 130 0 [(0, au f), (1, au g), (6, ae (b.length : Int)), (9, cO (wFu ((1000000000 : Int).tdiv (wFu ((wFu (gt b (Fc ((b.length : Int) - 1)))) + 1))))), (10, au o), (11, .hs 0 0 d.length 1), (12, ae e)], [.own (d.flatMap iCu)]⟩) (Q := fun x st' => match (generalizing := false) Y with | (p, j) => x = .exit 0 /\ Wk 0 st' ⟨mkS 130 0 [(9, cO (wFu ((1000000000 : Int).tdiv (wFu ((wFu (gt b (Fc ((b.length : Int) - 1)))) + 1))))), (10, au p), (11, .hs 0 0 j.length 1)], [.own (j.flatMap iCu)]⟩) I ((Wk.gc [0, 1, 6, 9, 10, 11, 12] [(0, false)] rfl (pKo iCu (aC _) (List.replicate (Fc ((Fc ((f.length : Int) - (b.length : Int))) + 1)).toNat ((0 : Int) : Int)) trivial)).to) ?_ ?_
 ·clear hr
  rintro m ⟨o, d, e⟩ hr
  show CQ _ _ _ _ _ ⟨_, _⟩
  refine .seq (.seq (.r4 G [0, 1, 6, 9, 10, 11, 12] [(75, aB (decide (e >= 0)))] ?_))
  refine .cd hr ?_ ?_ <;> intro nE hr
  ·refine .skip (.seq (.block (.seq ?_)))
   obtain ⟨J, hr⟩ := gd hr
   obtain ⟨A, Z, hr⟩ := bd hr
   refine .g1 G (ok0 (oC n o (gt f e) A Z)) (.mu 3 (.p0 (v := .pp (f.flatMap iCu) (e.toNat * 1)) (tr (ar J)) (.p0 (v := bt (gt f e)) (tr (aD (aE (aF .u32) (aA J) z1 (by omega : e.toNat * 1 = e.toNat * 1 + 0) (by kernel_rfl)))) (.ca cf0 (.mu 1 (.done (.nh [0, 1, 6, 9, 10, 11, 12] [.own (d.flatMap iCu)] (.seq ?_))))))))
   obtain ⟨B, L, C, M, hr⟩ := bd2 hr
   obtain ⟨N, gU, hr⟩ := gd2 hr
   refine .tn G (ca1 (ok0 (bW n A (b.length : Int) B L)) (ca3 (ok0 (bW n A (Fc ((b.length : Int) - 1)) C M)))) (.mu 2 (.ca cf0 (.mu 4 (.ca (cfA (fun h => by rw [sv M L (eO n h)]) cf0) (.mu 4 (.pk (v := .pp (g.flatMap iCu) ((Fc ((b.length : Int) - 1)).toNat * 1)) (tr (ar N)) (.pk (v := bt (gt g (Fc ((b.length : Int) - 1)))) (tr (aD (aE (aF .u32) (aA N) z1 (by omega : (Fc ((b.length : Int) - 1)).toNat * 1 = (Fc ((b.length : Int) - 1)).toNat * 1 + 0) (by kernel_rfl)))) (.mu 2 (.pk (v := cO (wFu ((wFu ((wFu (B * 1000000000)) + C)).tdiv (wFu ((wFu (gt g (Fc ((b.length : Int) - 1)))) + 1))))) (rh (x := wFu ((wFu (B * 1000000000)) + C)) (y := wFu ((wFu (gt g (Fc ((b.length : Int) - 1)))) + 1)) (by kernel_rfl) (by kernel_rfl) gU) (.mu 1 ?_))))))))))
   refine .done ⟨by kernel_rfl, ?_⟩
   refine .nh [0, 1, 6, 9, 10, 11, 12, 13] [.own (d.flatMap iCu)] (.seq ?_)
   obtain ⟨iV, jS, kZ, kb, hr⟩ := bd2 hr
   refine .gn G (ca1 (ok0 (iK n g (wFu ((wFu ((wFu (B * 1000000000)) + C)).tdiv (wFu ((wFu (gt g (Fc ((b.length : Int) - 1)))) + 1)))) iV jS)) (ca3 (ok0 (gh n A iV kZ kb)))) (.mu 3 (.ca cf0 (.ca (cfF cf0) (.mu 1 (.done (.nh [0, 1, 6, 9, 10, 11, 12, 13] [.own (d.flatMap iCu)] (.seq (.block ?_))))))))
   replace hr := bd hr; obtain ⟨jW, O, hr⟩ := hr
   refine .aH (σ := fun z0 => match z0 with | (k, q) => ⟨mkS 130 0 [(0, au f), (1, au g), (6, ae (b.length : Int)), (9, cO (wFu ((1000000000 : Int).tdiv (wFu ((wFu (gt b (Fc ((b.length : Int) - 1)))) + 1))))), (10, au k), (11, .hs 0 0 d.length 1), (12, ae e), (13, cO q)], [.own (d.flatMap iCu)]⟩) (Q := fun x st' => match (generalizing := false) jW with | (s, i) => x = .exit 2 /\ Wk 0 st' ⟨mkS 130 0 [(0, au f), (1, au g), (6, ae (b.length : Int)), (9, cO (wFu ((1000000000 : Int).tdiv (wFu ((wFu (gt b (Fc ((b.length : Int) - 1)))) + 1))))), (10, au s), (11, .hs 0 0 d.length 1), (12, ae e), (13, cO i)], [.own (d.flatMap iCu)]⟩) O ((Wk.gc [0, 1, 6, 9, 10, 11, 12, 13] [(0, false)] rfl (pKo iCu (aC _) d trivial)).to) ?_ ?_
   ·clear hr
    rintro m ⟨k, q⟩ hr
    show CQ _ _ _ _ _ ⟨_, _⟩
    refine .seq (.seq ?_)
    obtain ⟨l5, ki, hr⟩ := bd hr
    refine .g1 G (ok0 (jI n k g l5 ki)) (.mu 2 (.ca cf0 (.mu 1 (.done (.nh [0, 1, 6, 9, 10, 11, 12, 13, 109] [.own (d.flatMap iCu)] ?_)))))
    refine .cd hr ?_ ?_ <;> intro nO hr
    ·refine .skip (.block (.seq ?_))
     obtain ⟨kE, lP, hr⟩ := bd hr
     refine .g1 G (ok0 (gh n k g kE lP)) (.mu 2 (.ca cf0 (.mu 1 (.done (.nh [0, 1, 6, 9, 10, 11, 12, 13] [.own (d.flatMap iCu)] (.ru G (.pop ?_)))))))
     exact az (kE, wFu (q + 1)) hr ((Wk.gc [0, 1, 6, 9, 10, 11, 12, 13] [(0, false)] rfl (pKo iCu (aC _) d trivial)).to)
    refine .leave rfl ?_
    obtain rfl := oi hr
    exact ⟨rfl, ((Wk.gc [0, 1, 6, 9, 10, 11, 12, 13] [(0, false)] rfl (pKo iCu (aC _) d trivial)).to)⟩
   rcases jW with ⟨s, i⟩
   rintro x st' t
   clear O
   obtain ⟨rfl, t⟩ := t
   refine aQ _ rfl (.wk t ?_)
   obtain ⟨u, hr⟩ := gd hr
   refine .r0 G (.mu 4 (.p0 (v := .hp 0 (0 + e.toNat * 1)) (tr (ar u)) (.e0 (v := .unk) (ws := [(0, .own ((d.set e.toNat (aa .u32 i)).flatMap iCu))]) (tr (iF (iH (ct (n := 1) (aF .u32) (aA u) (lbT rfl) (by omega : 0 + e.toNat * 1 = e.toNat * 1 + 0))) (congrArg Blk.own (cS (xs := [bt (aa .u32 i)]) (aF .u32) (aA u) (lbT rfl) (by omega : 0 + e.toNat * 1 = e.toNat * 1 + 0) (by kernel_rfl))))) (.done (.pop (.ru G ?_))))))
   exact az (s, d.set e.toNat (aa .u32 i), Fc (e - 1)) hr ((Wk.iQ 11 (b := 0) (es := 1) (len := d.length) (d.set e.toNat (aa .u32 i)).length (by kernel_rfl) (Eq.symm (List.length_set.trans rfl))).trans ((Wk.gc [0, 1, 6, 9, 10, 11, 12] [(0, false)] rfl (pKo iCu (aC _) (d.set e.toNat (aa .u32 i)) trivial)).to))
  refine .leave rfl ?_
  obtain rfl := oi hr
  exact ⟨rfl, ((Wk.gc [9, 10, 11] [(0, false)] rfl (pKo iCu (aC _) d trivial)).to)⟩
 rcases Y with ⟨p, j⟩
 rintro x st' w
 clear I
 obtain ⟨rfl, w⟩ := w
 refine aQ _ rfl (.wk w (.seq ?_))
 obtain ⟨lE, mM, hr⟩ := bd hr
 refine .g1 G (ok0 (lJ n p (wFu ((1000000000 : Int).tdiv (wFu ((wFu (gt b (Fc ((b.length : Int) - 1)))) + 1)))) lE mM)) (.mu 2 (.ca cf0 (.mu 5 (.done (.nh [11, 14] [.own (j.flatMap iCu)] (.seq ?_))))))
 obtain ⟨iZ, R, hr⟩ := bd hr
 refine .g1 G (cK (args := [aB false, .hs 0 0 j.length 1]) (l := [0]) (Sp (SnL.cons (Sn.hs rfl (.inl rfl) (SnC.pure (aW (aC _) _)) (fun h => cG h)) SnL.nil)) (aU n false j iZ R)) (.mu 1 (.ca cf0 (.mu 4 (.done (.ret ?_)))))
 obtain rfl := oi hr
 exact aG.ret (vs := [au iZ.Groups, au lE.1]) (by kernel_rfl) (Sn.tup (Sp (Sp SnL.nil)))

theorem pZ {a : List Int} {b : List Int} (h : ([slT iCu a] : List AV) = [slT iCu b]) : a = b := by
 simp only [List.cons.injEq, AV.agg.injEq, AV.at.injEq, Value.int.injEq, Value.bool.injEq, AV.fn.injEq, AV.pp.injEq, true_and, and_true, eZ] at h
 simp_all
theorem qn (n : Nat) {a : List Int} {b : List Int} (h : ([slT iCu a] : List AV) = [slT iCu b]) : dE n a = dE n b := by
 obtain rfl := pZ h
 rfl
theorem l6 (n : Nat) (a : List Int) (r : Int) (hr : dE n a = some r) : aL Tryz.prog 153 [au a] (cO r) := by
 unfold dE at hr
 refine aL.bd G Tryz.func153 [.tmp 2] ?_
 unfold Tryz.f153
 simp only [gS]
 refine .seq (.r4 G [0] [] (.seq ?_))
 obtain ⟨d, b, e, c, hr⟩ := bd2 hr
 refine .gn G (ca1 (ok0 (bW n a 1 d b)) (ca3 (ok0 (bW n a 0 e c)))) (.mu 1 (.ca cf0 (.mu 2 (.ca (cfA (fun h => by rw [sv c b (eO n h)]) cf0) (.mu 2 (.done (.ret ?_)))))))
 obtain rfl := oi hr
 exact aG.r1 [cO (wFu ((wFu (d * 1000000000)) + e))]

theorem mG (n : Nat) (A : ah) (y : ah) (r : ah) (hr : fO n A y = some r) : aL Tryz.prog 115 [.agg (ah.c A), .agg (ah.c y)] (.agg (ah.c r)) := by
 unfold fO at hr
 refine aL.bd G Tryz.func115 [.cell 4 40] ?_
 unfold Tryz.f115
 simp only [gS]
 refine .seq (.r2 G 61 [(2, .hp 0 0), (3, .hp 1 0), (4, .hp 2 0)] [.own (ah.c A), .own (ah.c y), .own [aB false, nS]] (.seq ?_))
 obtain ⟨V, B, W, C, hr⟩ := bd2 hr
 refine .tn G (ca1 (ok0 (bY n A V B)) (ca3 (ok0 (bY n y W C)))) (.mu 1 (.ca cf0 (.mu 2 (.ca (cfA (fun h => by rw [sv C B (gg n h)]) cf0) (.mu 3 ?_)))))
 refine .done ⟨by kernel_rfl, ?_⟩
 refine .nh [4, 5, 6] [.own (ah.c A), .own (ah.c y), .own [aB false, nS]] (.seq (.block ?_))
 replace hr := bd hr; obtain ⟨D, q, hr⟩ := hr
 refine .aH (σ := fun N => match N with | (k, g) => ⟨mkS 61 0 [(4, .hp 0 0), (5, au k), (6, au g)], [.own [aB false, nS]]⟩) (Q := fun x st' => match (generalizing := false) D with | (i, j) => x = .exit 0 /\ Wk 0 st' ⟨mkS 61 0 [(4, .hp 0 0), (5, au i), (6, au j)], [.own [aB false, nS]]⟩) q ((Wk.gc [4, 5, 6] [(2, true)] rfl trivial).to) ?_ ?_
 ·clear hr
  rintro m ⟨k, g⟩ hr
  show CQ _ _ _ _ _ ⟨_, _⟩
  refine .seq (.seq ?_)
  rcases bT (decide ((g.length : Int) > 0)) with d | d
  ·replace hr := cy d hr
   rcases bT (decide ((k.length : Int) > 2)) with e | e
   ·replace hr := cy e hr
    refine .r0 G (.mu 2 (.p0 (v := aB true) (eB d) (.mu 3 (.pure (v := aB true) (by kernel_rfl) (eB e) (.mu 6 (.done (.nh [4, 5, 6, 29] [.own [aB false, nS]] (.cT (by kernel_rfl) (.skip (.block (.seq ?_)))))))))))
    obtain ⟨E, F, hr⟩ := bd hr
    refine .g1 G (ok0 (jc n k g E F)) (.mu 2 (.ca cf0 (.mu 5 (.done (.nh [4, 6, 8] [.own [aB false, nS]] (.ru G (.pop ?_)))))))
    exact az (g, E.2) hr ((Wk.gc [4, 5, 6] [(0, true)] rfl trivial).to)
   replace hr := cz e hr
   refine .r0 G (.mu 2 (.p0 (v := aB true) (eB d) (.mu 3 (.pure (v := aB false) (by kernel_rfl) (eB e) (.mu 6 (.done (.nh [4, 5, 6, 29] [.own [aB false, nS]] ?_)))))))
   refine .cd hr ?_ ?_ <;> intro S hr
   ·refine .skip (.block (.seq ?_))
    obtain ⟨H, I, hr⟩ := bd hr
    refine .g1 G (ok0 (jc n k g H I)) (.mu 2 (.ca cf0 (.mu 5 (.done (.nh [4, 6, 8] [.own [aB false, nS]] (.ru G (.pop ?_)))))))
    exact az (g, H.2) hr ((Wk.gc [4, 5, 6] [(0, true)] rfl trivial).to)
   refine .leave rfl ?_
   obtain rfl := oi hr
   exact ⟨rfl, ((Wk.gc [4, 5, 6] [(0, true)] rfl trivial).to)⟩
  replace hr := cz d hr
  refine .r0 G (.mu 2 (.p0 (v := aB false) (eB d) (.mu 10 (.done (.nh [4, 5, 6, 29] [.own [aB false, nS]] (.cF (by kernel_rfl) (.leave rfl ?_)))))))
  obtain rfl := oi hr
  exact ⟨rfl, ((Wk.gc [4, 5, 6] [(0, true)] rfl trivial).to)⟩
 rcases D with ⟨i, j⟩
 rintro x st' o
 clear q
 obtain ⟨rfl, o⟩ := o
 refine aQ _ rfl (.wk o (.seq (.seq (.r4 G [4, 5, 6] [(40, aB (((j.length : Int) : Int) == 0))] ?_))))
 refine .cd hr ?_ ?_ <;> intro T hr
 ·refine .seq ?_
  obtain ⟨w, J, hr⟩ := bd hr
  refine .g1 G (ok0 (aU n false i w J)) (.mu 1 (.ca cf0 (.mu 1 (.done (.nh [4] [.own (ah.c w)] (.ret ?_))))))
  obtain rfl := oi hr
  exact aG.r1 [.agg (ah.c w)]
 refine .skip (.seq ?_)
 obtain ⟨O, s, R, t, hr⟩ := bd2 hr
 refine .gn G (ca1 (ok0 (l6 n i O s)) (ca3 (ok0 (l6 n j R t)))) (.mu 1 (.ca cf0 (.mu 1 (.ca (cfA (fun h => by rw [sv t s (qn n h)]) cf0) (.mu 2 (.done (.nh [4, 9, 10] [.own [aB false, nS]] (.seq (.block ?_)))))))))
 replace hr := bd hr; obtain ⟨a, u, hr⟩ := hr
 refine .aH (σ := fun N => match N with | (f, b) => ⟨mkS 61 0 [(4, .hp 0 0), (9, cO f), (10, cO b)], [.own [aB false, nS]]⟩) (Q := fun x st' => x = .exit 2 /\ Wk 0 st' ⟨mkS 61 0 [(4, .hp 0 0), (9, cO a)], [.own [aB false, nS]]⟩) u ((Wk.gc [4, 9, 10] [(0, true)] rfl trivial).to) ?_ ?_
 ·clear hr
  rintro m ⟨f, b⟩ hr
  show CQ _ _ _ _ _ ⟨_, _⟩
  refine .seq (.seq (.r4 G [4, 9, 10] [(48, aB (decide (b > 0)))] ?_))
  refine .cd hr ?_ ?_ <;> intro U hr
  ·refine .skip (.block ?_)
   obtain ⟨L, hr⟩ := gd hr
   refine .eu G bJ (.mu 3 (.pk (v := cO (f.tmod b)) (qE (x := f) (y := b) (by kernel_rfl) (by kernel_rfl) L) (.mu 2 ?_)))
   refine .done ⟨by kernel_rfl, ?_⟩
   refine .pop ?_
   exact az (b, f.tmod b) hr ((Wk.gc [4, 9, 10] [(0, true)] rfl trivial).to)
  refine .leave rfl ?_
  obtain rfl := oi hr
  exact ⟨rfl, ((Wk.gc [4, 9] [(0, true)] rfl trivial).to)⟩
 rintro x st' p
 clear u
 obtain ⟨rfl, p⟩ := p
 refine aQ _ rfl (.wk p (.seq ?_))
 obtain ⟨z, M, hr⟩ := bd hr
 refine .gn G (ca4 [.own [aB false, nS], .own [bt (aa .u32 (a.tmod 1000000000)), bt (aa .u32 (wFu (a.tdiv 1000000000)))]] (cK (args := [aB false, .hs 1 0 2 1]) (l := [1]) (Sp (SnL.cons (Sn.hs rfl (.inl rfl) (SnC.cons (Sn.pure rfl) (SnC.cons (Sn.pure rfl) SnC.nil)) (fun h => nomatch h)) SnL.nil)) (aU n false [(aa .u32 (a.tmod 1000000000)), (aa .u32 (wFu (a.tdiv 1000000000)))] z M))) (.mu 7 (.ca cf0 (.mu 1 (.done (.nh [4] [.own (ah.c z), .fix [bt (aa .u32 (a.tmod 1000000000)), bt (aa .u32 (wFu (a.tdiv 1000000000)))]] (.ret ?_))))))
 obtain rfl := oi hr
 exact aG.r1 [.agg (ah.c z)]

theorem j5 (n : Nat) (b : ah) (r : ah) (hr : eS n b = some r) : aL Tryz.prog 126 [.agg (ah.c b)] (.agg (ah.c r)) := by
 unfold eS at hr
 refine aL.bd G Tryz.func126 [.cell 2 40] ?_
 unfold Tryz.f126
 simp only [gS]
 refine .seq (.r2 G 11 [(1, .hp 0 0), (2, .hp 1 0)] [.own (ah.c b), .own [aB false, nS]] (.seq ?_))
 obtain ⟨a, d, hr⟩ := bd hr
 refine .g1 G (ok0 (bY n b a d)) (.mu 1 (.ca cf0 (.mu 1 (.done (.nh [1, 2] [.own (ah.c a), .own [aB false, nS]] (.seq ?_))))))
 obtain ⟨e, f, hr⟩ := bd hr
 refine .g1 G (ok0 (aU n (!a.Negative) a.Groups e f)) (.mu 5 (.ca cf0 (.mu 1 (.done (.nh [2] [.own (ah.c a), .own (ah.c e)] (.ret ?_))))))
 obtain rfl := oi hr
 exact aG.r1 [.agg (ah.c e)]

theorem qo (n : Nat) (a : List Int) (b : List Int) (r : List Int) (hr : gB n a b = some r) : aL Tryz.prog 154 [au a, au b] (au r) := by
 unfold gB at hr
 refine aL.bd G Tryz.func154 [.tmp 4] ?_
 unfold Tryz.f154
 simp only [gS]
 refine .seq (.r4 G [0, 1] [] (.seq (.r5 G [0, 1] [(5, .hs 0 0 0 1)] [.own []] (.seq (.r4 G [0, 1, 5] [(6, cO 0)] (.seq (.seq (.r4 G [0, 1, 5, 6] [(7, ae 0)] (.block ?_)))))))))
 replace hr := bd hr; obtain ⟨z, s, hr⟩ := hr
 refine .aH (σ := fun L => match L with | (c, d, o) => ⟨mkS 46 0 [(0, au a), (1, au b), (5, .hs 0 0 c.length 1), (6, cO d), (7, ae o)], [.own (c.flatMap iCu)]⟩) (Q := fun x st' => match (generalizing := false) z with | (f, e) => x = .exit 0 /\ Wk 0 st' ⟨mkS 46 0 [(5, .hs 0 0 f.length 1), (6, cO e)], [.own (f.flatMap iCu)]⟩) s ((Wk.gc [0, 1, 5, 6, 7] [(0, false)] rfl (pKc trivial)).to) ?_ ?_
 ·clear hr
  rintro m ⟨c, d, o⟩ hr
  show CQ _ _ _ _ _ ⟨_, _⟩
  refine .seq (.seq ?_)
  rcases bT (decide (o < (a.length : Int))) with p | p
  ·replace hr := cy p hr
   refine .r0 G (.mu 3 (.p0 (v := aB true) (eB p) (.mu 6 (.done (.nh [0, 1, 5, 6, 7, 19] [.own (c.flatMap iCu)] (.cT (by kernel_rfl) (.skip (.seq (.block (.seq ?_))))))))))
   obtain ⟨g, t, i, u, hr⟩ := bd2 hr
   refine .gn G (ca1 (ok0 (bW n a o g t)) (ca3 (ok0 (bW n b o i u)))) (.mu 2 (.ca cf0 (.mu 2 (.ca (cfA (fun h => by rw [sv u t (eO n h)]) cf0) (.mu 4 (.done (.nh [0, 1, 5, 7, 8] [.own (c.flatMap iCu)] (.seq ?_))))))))
   obtain ⟨A, B, hr⟩ := gd2 hr
   refine .r0 G (.mu 5 (.e0 (v := .hs 2 0 (c ++ [aa .u32 ((wFu ((wFu (g + i)) + d)).tmod 1000000000)]).length 1) (ws := [(0, .dead), (2, .own ((c ++ [aa .u32 ((wFu ((wFu (g + i)) + d)).tmod 1000000000)]).flatMap iCu))]) (tr (eM (new := [bt (aa .u32 ((wFu ((wFu (g + i)) + d)).tmod 1000000000))]) (l := c) (xs := [aa .u32 ((wFu ((wFu (g + i)) + d)).tmod 1000000000)]) (aF .u32) rfl rfl (by kernel_rfl) A B)) (.mu 1 (.done (.nh [0, 1, 5, 7, 8] [.dead, .own [bt (aa .u32 ((wFu ((wFu (g + i)) + d)).tmod 1000000000))], .own ((c ++ [aa .u32 ((wFu ((wFu (g + i)) + d)).tmod 1000000000)]).flatMap iCu)] (.ru G (.pop (.ru G ?_))))))))
   exact az (c ++ [aa .u32 ((wFu ((wFu (g + i)) + d)).tmod 1000000000)], wFu ((wFu ((wFu (g + i)) + d)).tdiv 1000000000), Fc (o + 1)) hr ((Wk.gc [0, 1, 5, 6, 7] [(2, false)] rfl (pKo iCu (aC _) (c ++ [aa .u32 ((wFu ((wFu (g + i)) + d)).tmod 1000000000)]) trivial)).to)
  replace hr := cz p hr
  refine .r0 G (.mu 3 (.p0 (v := aB false) (eB p) (.mu 6 (.done (.nh [0, 1, 5, 6, 7, 19] [.own (c.flatMap iCu)] ?_)))))
  refine .cd hr ?_ ?_ <;> intro J hr
  ·refine .skip (.seq (.block (.seq ?_)))
   obtain ⟨j, w, k, y, hr⟩ := bd2 hr
   refine .gn G (ca1 (ok0 (bW n a o j w)) (ca3 (ok0 (bW n b o k y)))) (.mu 2 (.ca cf0 (.mu 2 (.ca (cfA (fun h => by rw [sv y w (eO n h)]) cf0) (.mu 4 (.done (.nh [0, 1, 5, 7, 8] [.own (c.flatMap iCu)] (.seq ?_))))))))
   obtain ⟨C, D, hr⟩ := gd2 hr
   refine .r0 G (.mu 5 (.e0 (v := .hs 2 0 (c ++ [aa .u32 ((wFu ((wFu (j + k)) + d)).tmod 1000000000)]).length 1) (ws := [(0, .dead), (2, .own ((c ++ [aa .u32 ((wFu ((wFu (j + k)) + d)).tmod 1000000000)]).flatMap iCu))]) (tr (eM (new := [bt (aa .u32 ((wFu ((wFu (j + k)) + d)).tmod 1000000000))]) (l := c) (xs := [aa .u32 ((wFu ((wFu (j + k)) + d)).tmod 1000000000)]) (aF .u32) rfl rfl (by kernel_rfl) C D)) (.mu 1 (.done (.nh [0, 1, 5, 7, 8] [.dead, .own [bt (aa .u32 ((wFu ((wFu (j + k)) + d)).tmod 1000000000))], .own ((c ++ [aa .u32 ((wFu ((wFu (j + k)) + d)).tmod 1000000000)]).flatMap iCu)] (.ru G (.pop (.ru G ?_))))))))
   exact az (c ++ [aa .u32 ((wFu ((wFu (j + k)) + d)).tmod 1000000000)], wFu ((wFu ((wFu (j + k)) + d)).tdiv 1000000000), Fc (o + 1)) hr ((Wk.gc [0, 1, 5, 6, 7] [(2, false)] rfl (pKo iCu (aC _) (c ++ [aa .u32 ((wFu ((wFu (j + k)) + d)).tmod 1000000000)]) trivial)).to)
  refine .leave rfl ?_
  obtain rfl := oi hr
  exact ⟨rfl, ((Wk.gc [5, 6] [(0, false)] rfl (pKo iCu (aC _) c trivial)).to)⟩
 rcases z with ⟨f, e⟩
 rintro x st' q
 clear s
 obtain ⟨rfl, q⟩ := q
 refine aQ _ rfl (.wk q (.seq ?_))
 obtain ⟨E, F, hr⟩ := gd2 hr
 obtain ⟨H, I, hr⟩ := bd hr
 refine .gn G (ca4 [.dead, .own [bt (aa .u32 e)], .own ((f ++ [aa .u32 e]).flatMap iCu)] (cK (args := [aB false, .hs 2 0 (f ++ [aa .u32 e]).length 1]) (l := [2]) (Sp (SnL.cons (Sn.hs rfl (.inl rfl) (SnC.pure (aW (aC _) _)) (fun h => cG h)) SnL.nil)) (aU n false (f ++ [aa .u32 e]) H I))) (.mu 4 (.e0 (v := .hs 2 0 (f ++ [aa .u32 e]).length 1) (ws := [(0, .dead), (2, .own ((f ++ [aa .u32 e]).flatMap iCu))]) (tr (eM (new := [bt (aa .u32 e)]) (l := f) (xs := [aa .u32 e]) (aF .u32) rfl rfl (by kernel_rfl) E F)) (.ca cf0 (.mu 2 (.done (.ret ?_))))))
 obtain rfl := oi hr
 exact aG.r1 [au H.Groups]

theorem mJ (n : Nat) (q : ah) (y : ah) (r : ah) (hr : fP n q y = some r) : aL Tryz.prog 116 [.agg (ah.c q), .agg (ah.c y)] (.agg (ah.c r)) := by
 unfold fP at hr
 refine aL.bd G Tryz.func116 [.cell 4 40] ?_
 unfold Tryz.f116
 simp only [gS]
 refine .seq (.r2 G 44 [(2, .hp 0 0), (3, .hp 1 0), (4, .hp 2 0)] [.own (ah.c q), .own (ah.c y), .own [aB false, nS]] (.seq ?_))
 obtain ⟨a, f, b, g, hr⟩ := bd2 hr
 refine .tn G (ca1 (ok0 (bY n q a f)) (ca3 (ok0 (bY n y b g)))) (.mu 1 (.ca cf0 (.mu 1 (.ca (cfA (fun h => by rw [sv g f (gg n h)]) cf0) (.mu 2 ?_)))))
 refine .done ⟨by kernel_rfl, ?_⟩
 refine .nh [2, 3, 4] [.own (ah.c a), .own (ah.c b), .own [aB false, nS]] (.seq (.seq (.r4 G [2, 3, 4] [(13, aB (a.Negative == b.Negative))] ?_)))
 refine .cd hr ?_ ?_ <;> intro z hr
 ·refine .seq ?_
  obtain ⟨w, s, t, u, hr⟩ := bd2 hr
  refine .tn G (ca1 (ok0 (qo n a.Groups b.Groups w s)) (ca3 (ok0 (aU n a.Negative w t u)))) (.mu 6 (.ca cf0 (.ca (cfF cf0) (.mu 1 ?_))))
  refine .done ⟨by kernel_rfl, ?_⟩
  refine .nh [4] [.own (ah.c a), .own (ah.c b), .own (ah.c t)] (.ret ?_)
  obtain rfl := oi hr
  exact aG.r1 [.agg (ah.c t)]
 refine .skip (.seq (.seq ?_))
 obtain ⟨v, i, hr⟩ := bd hr
 refine .g1 G (ok0 (jI n a.Groups b.Groups v i)) (.mu 4 (.ca cf0 (.mu 1 (.done (.nh [2, 3, 4, 27] [.own (ah.c a), .own (ah.c b), .own [aB false, nS]] ?_)))))
 refine .cd hr ?_ ?_ <;> intro x hr
 ·refine .seq ?_
  obtain ⟨j, k, d, l, hr⟩ := bd2 hr
  refine .tn G (ca1 (ok0 (gh n a.Groups b.Groups j k)) (ca3 (ok0 (aU n a.Negative j d l)))) (.mu 6 (.ca cf0 (.ca (cfF cf0) (.mu 1 ?_))))
  refine .done ⟨by kernel_rfl, ?_⟩
  refine .nh [4] [.own (ah.c a), .own (ah.c b), .own (ah.c d)] (.ret ?_)
  obtain rfl := oi hr
  exact aG.r1 [.agg (ah.c d)]
 refine .skip (.seq ?_)
 obtain ⟨m, o, e, p, hr⟩ := bd2 hr
 refine .tn G (ca1 (ok0 (gh n b.Groups a.Groups m o)) (ca3 (ok0 (aU n b.Negative m e p)))) (.mu 6 (.ca cf0 (.ca (cfF cf0) (.mu 1 ?_))))
 refine .done ⟨by kernel_rfl, ?_⟩
 refine .nh [4] [.own (ah.c a), .own (ah.c b), .own (ah.c e)] (.ret ?_)
 obtain rfl := oi hr
 exact aG.r1 [.agg (ah.c e)]

theorem fG (n : Nat) (a : ah) (y : ah) (r : ah) (hr : cV n a y = some r) : aL Tryz.prog 151 [.agg (ah.c a), .agg (ah.c y)] (.agg (ah.c r)) := by
 unfold cV at hr
 refine aL.bd G Tryz.func151 [.cell 4 40] ?_
 unfold Tryz.f151
 simp only [gS]
 refine .seq (.r2 G 9 [(2, .hp 0 0), (3, .hp 1 0), (4, .hp 2 0)] [.own (ah.c a), .own (ah.c y), .own [aB false, nS]] (.seq ?_))
 obtain ⟨f, b, d, e, hr⟩ := bd2 hr
 refine .tn G (ca1 (ok0 (j5 n y f b)) (ca3 (ok0 (mJ n a f d e)))) (.mu 2 (.ca cf0 (.ca (cfF cf0) (.mu 1 ?_))))
 refine .done ⟨by kernel_rfl, ?_⟩
 refine .nh [4] [.own (ah.c a), .own (ah.c y), .own (ah.c d)] (.ret ?_)
 obtain rfl := oi hr
 exact aG.r1 [.agg (ah.c d)]

theorem hU (n : Nat) {b : ah} {y : ah} {a : ah} {d : ah} (h : ([.agg (ah.c b), .agg (ah.c y)] : List AV) = [.agg (ah.c a), .agg (ah.c d)]) : bG n b y = bG n a d := by
 obtain ⟨rfl, rfl⟩ := p9 h
 rfl
theorem cZ (n : Nat) (J : ah) (y : ah) (r : ah) (hr : bG n J y = some r) : aL Tryz.prog 87 [.agg (ah.c J), .agg (ah.c y)] (.agg (ah.c r)) := by
 unfold bG at hr
 refine aL.bd G Tryz.func87 [.cell 4 40] ?_
 unfold Tryz.f87
 simp only [gS]
 refine .seq (.r2 G 85 [(2, .hp 0 0), (3, .hp 1 0), (4, .hp 2 0)] [.own (ah.c J), .own (ah.c y), .own [aB false, nS]] (.seq ?_))
 obtain ⟨i, E, f, F, hr⟩ := bd2 hr
 refine .tn G (ca1 (ok0 (bY n J i E)) (ca3 (ok0 (bY n y f F)))) (.mu 1 (.ca cf0 (.mu 1 (.ca (cfA (fun h => by rw [sv F E (gg n h)]) cf0) (.mu 2 ?_)))))
 refine .done ⟨by kernel_rfl, ?_⟩
 refine .nh [2, 3, 4] [.own (ah.c i), .own (ah.c f), .own [aB false, nS]] (.seq ?_)
 obtain ⟨L, M, N, hr⟩ := gd3 hr
 refine .r0 G (.mu 7 (.e0 (v := .hs 3 0 (List.replicate (Fc ((i.Groups.length : Int) + (f.Groups.length : Int))).toNat ((0 : Int) : Int)).length 1) (ws := [(3, .own ((List.replicate (Fc ((i.Groups.length : Int) + (f.Groups.length : Int))).toNat ((0 : Int) : Int)).flatMap iCu))]) (tr (mO (c := iCu) (z := (0 : Int)) (n := Fc ((i.Groups.length : Int) + (f.Groups.length : Int))) (by_ := 4) rfl L M N)) (.mu 1 (.done (.nh [2, 3, 4, 5] [.own (ah.c i), .own (ah.c f), .own [aB false, nS], .own ((List.replicate (Fc ((i.Groups.length : Int) + (f.Groups.length : Int))).toNat ((0 : Int) : Int)).flatMap iCu)] (.seq (.seq (.r4 G [2, 3, 4, 5] [(6, ae 0)] (.block ?_)))))))))
 replace hr := bd hr; obtain ⟨o, w, hr⟩ := hr
 refine .aH (σ := fun O => match O with | (q, d) => ⟨mkS 85 0 [(2, .hp 0 0), (3, .hp 1 0), (4, .hp 2 0), (5, .hs 3 0 q.length 1), (6, ae d)], [.own (ah.c i), .own (ah.c f), .own [aB false, nS], .own (q.flatMap iCu)]⟩) (Q := fun x st' => x = .exit 0 /\ Wk 0 st' ⟨mkS 85 0 [(2, .hp 0 0), (3, .hp 1 0), (4, .hp 2 0), (5, .hs 3 0 o.length 1)], [.own (ah.c i), .own (ah.c f), .own [aB false, nS], .own (o.flatMap iCu)]⟩) w ((Wk.gc [2, 3, 4, 5, 6] [(0, true), (1, true), (2, true), (3, false)] rfl (pKt (pKt (pKt (pKo iCu (aC _) (List.replicate (Fc ((i.Groups.length : Int) + (f.Groups.length : Int))).toNat ((0 : Int) : Int)) trivial))))).to) ?_ ?_
 ·clear hr
  rintro m ⟨q, d⟩ hr
  show CQ _ _ _ _ _ ⟨_, _⟩
  refine .seq (.seq (.r4 G [2, 3, 4, 5, 6] [(26, aB (decide (d < (i.Groups.length : Int))))] ?_))
  refine .cd hr ?_ ?_ <;> intro R hr
  ·refine .skip (.seq (.block (.seq (.r4 G [2, 3, 4, 5, 6] [(7, cO 0)] (.seq (.seq (.r4 G [2, 3, 4, 5, 6, 7] [(8, ae 0)] (.block ?_))))))))
   replace hr := bd hr; obtain ⟨H, A, hr⟩ := hr
   refine .aH (σ := fun O => match O with | (e, g, a) => ⟨mkS 85 0 [(2, .hp 0 0), (3, .hp 1 0), (4, .hp 2 0), (5, .hs 3 0 e.length 1), (6, ae d), (7, cO g), (8, ae a)], [.own (ah.c i), .own (ah.c f), .own [aB false, nS], .own (e.flatMap iCu)]⟩) (Q := fun x st' => match (generalizing := false) H with | (j, k) => x = .exit 2 /\ Wk 0 st' ⟨mkS 85 0 [(2, .hp 0 0), (3, .hp 1 0), (4, .hp 2 0), (5, .hs 3 0 j.length 1), (6, ae d), (7, cO k)], [.own (ah.c i), .own (ah.c f), .own [aB false, nS], .own (j.flatMap iCu)]⟩) A ((Wk.gc [2, 3, 4, 5, 6, 7, 8] [(0, true), (1, true), (2, true), (3, false)] rfl (pKt (pKt (pKt (pKo iCu (aC _) q trivial))))).to) ?_ ?_
   ·clear hr
    rintro m ⟨e, g, a⟩ hr
    show CQ _ _ _ _ _ ⟨_, _⟩
    refine .seq (.seq (.r4 G [2, 3, 4, 5, 6, 7, 8] [(33, aB (decide (a < (f.Groups.length : Int))))] ?_))
    refine .cd hr ?_ ?_ <;> intro S hr
    ·refine .skip (.seq (.block (.seq ?_)))
     obtain ⟨p, B, C, hr⟩ := gd3 hr
     refine .eu G bJ (.mu 4 (.pk (v := .hp 3 (0 + (Fc (d + a)).toNat * 1)) (tr (ar p)) (.pk (v := bt (gt e (Fc (d + a)))) (tr (aD (aE (aF .u32) (aA p) z1 (by omega : 0 + (Fc (d + a)).toNat * 1 = (Fc (d + a)).toNat * 1 + 0) (by kernel_rfl)))) (.mu 4 (.pk (v := .pp (i.Groups.flatMap iCu) (d.toNat * 1)) (tr (ar B)) (.pk (v := bt (gt i.Groups d)) (tr (aD (aE (aF .u32) (aA B) z1 (by omega : d.toNat * 1 = d.toNat * 1 + 0) (by kernel_rfl)))) (.mu 4 (.pk (v := .pp (f.Groups.flatMap iCu) (a.toNat * 1)) (tr (ar C)) (.pk (v := bt (gt f.Groups a)) (tr (aD (aE (aF .u32) (aA C) z1 (by omega : a.toNat * 1 = a.toNat * 1 + 0) (by kernel_rfl)))) (.mu 6 ?_))))))))))
     refine .done ⟨by kernel_rfl, ?_⟩
     refine .nh [2, 3, 4, 5, 6, 8, 9] [.own (ah.c i), .own (ah.c f), .own [aB false, nS], .own (e.flatMap iCu)] (.seq (.r0 G (.mu 7 (.p0 (v := .hp 3 (0 + (Fc (d + a)).toNat * 1)) (tr (ar p)) (.e0 (v := .unk) (ws := [(3, .own ((e.set (Fc (d + a)).toNat (aa .u32 ((wFu ((wFu ((wFu (gt e (Fc (d + a)))) + (wFu ((wFu (gt i.Groups d)) * (wFu (gt f.Groups a)))))) + g)).tmod 1000000000))).flatMap iCu))]) (tr (iF (iH (ct (n := 1) (aF .u32) (aA p) (lbT rfl) (by omega : 0 + (Fc (d + a)).toNat * 1 = (Fc (d + a)).toNat * 1 + 0))) (congrArg Blk.own (cS (xs := [bt (aa .u32 ((wFu ((wFu ((wFu (gt e (Fc (d + a)))) + (wFu ((wFu (gt i.Groups d)) * (wFu (gt f.Groups a)))))) + g)).tmod 1000000000))]) (aF .u32) (aA p) (lbT rfl) (by omega : 0 + (Fc (d + a)).toNat * 1 = (Fc (d + a)).toNat * 1 + 0) (by kernel_rfl))))) (.done (.nh [2, 3, 4, 5, 6, 8, 9] [.own (ah.c i), .own (ah.c f), .own [aB false, nS], .own ((e.set (Fc (d + a)).toNat (aa .u32 ((wFu ((wFu ((wFu (gt e (Fc (d + a)))) + (wFu ((wFu (gt i.Groups d)) * (wFu (gt f.Groups a)))))) + g)).tmod 1000000000))).flatMap iCu)] (.ru G (.pop (.ru G ?_))))))))))
     exact az (e.set (Fc (d + a)).toNat (aa .u32 ((wFu ((wFu ((wFu (gt e (Fc (d + a)))) + (wFu ((wFu (gt i.Groups d)) * (wFu (gt f.Groups a)))))) + g)).tmod 1000000000)), wFu ((wFu ((wFu ((wFu (gt e (Fc (d + a)))) + (wFu ((wFu (gt i.Groups d)) * (wFu (gt f.Groups a)))))) + g)).tdiv 1000000000), Fc (a + 1)) hr ((Wk.iQ 5 (b := 3) (es := 1) (len := e.length) (e.set (Fc (d + a)).toNat (aa .u32 ((wFu ((wFu ((wFu (gt e (Fc (d + a)))) + (wFu ((wFu (gt i.Groups d)) * (wFu (gt f.Groups a)))))) + g)).tmod 1000000000))).length (by kernel_rfl) (Eq.symm (List.length_set.trans rfl))).trans ((Wk.gc [2, 3, 4, 5, 6, 7, 8] [(0, true), (1, true), (2, true), (3, false)] rfl (pKt (pKt (pKt (pKo iCu (aC _) (e.set (Fc (d + a)).toNat (aa .u32 ((wFu ((wFu ((wFu (gt e (Fc (d + a)))) + (wFu ((wFu (gt i.Groups d)) * (wFu (gt f.Groups a)))))) + g)).tmod 1000000000))) trivial))))).to))
    refine .leave rfl ?_
    obtain rfl := oi hr
    exact ⟨rfl, ((Wk.gc [2, 3, 4, 5, 6, 7] [(0, true), (1, true), (2, true), (3, false)] rfl (pKt (pKt (pKt (pKo iCu (aC _) e trivial))))).to)⟩
   rcases H with ⟨j, k⟩
   rintro x st' s
   clear A
   obtain ⟨rfl, s⟩ := s
   refine aQ _ rfl (.wk s ?_)
   obtain ⟨t, hr⟩ := gd hr
   refine .r0 G (.mu 8 (.p0 (v := .hp 3 (0 + (Fc (d + (f.Groups.length : Int))).toNat * 1)) (tr (ar t)) (.e0 (v := .unk) (ws := [(3, .own ((j.set (Fc (d + (f.Groups.length : Int))).toNat (aa .u32 k)).flatMap iCu))]) (tr (iF (iH (ct (n := 1) (aF .u32) (aA t) (lbT rfl) (by omega : 0 + (Fc (d + (f.Groups.length : Int))).toNat * 1 = (Fc (d + (f.Groups.length : Int))).toNat * 1 + 0))) (congrArg Blk.own (cS (xs := [bt (aa .u32 k)]) (aF .u32) (aA t) (lbT rfl) (by omega : 0 + (Fc (d + (f.Groups.length : Int))).toNat * 1 = (Fc (d + (f.Groups.length : Int))).toNat * 1 + 0) (by kernel_rfl))))) (.done (.pop (.ru G ?_))))))
   exact az (j.set (Fc (d + (f.Groups.length : Int))).toNat (aa .u32 k), Fc (d + 1)) hr ((Wk.iQ 5 (b := 3) (es := 1) (len := j.length) (j.set (Fc (d + (f.Groups.length : Int))).toNat (aa .u32 k)).length (by kernel_rfl) (Eq.symm (List.length_set.trans rfl))).trans ((Wk.gc [2, 3, 4, 5, 6] [(0, true), (1, true), (2, true), (3, false)] rfl (pKt (pKt (pKt (pKo iCu (aC _) (j.set (Fc (d + (f.Groups.length : Int))).toNat (aa .u32 k)) trivial))))).to))
  refine .leave rfl ?_
  obtain rfl := oi hr
  exact ⟨rfl, ((Wk.gc [2, 3, 4, 5] [(0, true), (1, true), (2, true), (3, false)] rfl (pKt (pKt (pKt (pKo iCu (aC _) q trivial))))).to)⟩
 rintro x st' u
 clear w
 obtain ⟨rfl, u⟩ := u
 refine aQ _ rfl (.wk u (.seq ?_))
 obtain ⟨D, I, hr⟩ := bd hr
 refine .g1 G (cK (args := [aB (i.Negative != f.Negative), .hs 3 0 o.length 1]) (l := [3]) (Sp (SnL.cons (Sn.hs rfl (.inl rfl) (SnC.pure (aW (aC _) _)) (fun h => cG h)) SnL.nil)) (aU n (i.Negative != f.Negative) o D I)) (.mu 6 (.ca cf0 (.mu 1 (.done (.nh [4] [.own (ah.c i), .own (ah.c f), .own (ah.c D), .fix (o.flatMap iCu)] (.ret ?_))))))
 obtain rfl := oi hr
 exact aG.r1 [.agg (ah.c D)]

theorem fJ (n : Nat) (C : ah) (y : ah) (r : ah × ah × Int) (hr : c5 n C y = some r) : aL Tryz.prog 127 [.agg (ah.c C), .agg (ah.c y)] (.tup [.agg (ah.c r.1), .agg (ah.c r.2.1), ae r.2.2]) := by
 unfold c5 at hr
 refine aL.bd G Tryz.func127 [.cell 4 40, .cell 5 40, .tmp 6] ?_
 unfold Tryz.f127
 simp only [gS]
 refine .seq (.r2 G 54 [(2, .hp 0 0), (3, .hp 1 0), (4, .hp 2 0), (5, .hp 3 0)] [.own (ah.c C), .own (ah.c y), .own [aB false, nS], .own [aB false, nS]] (.seq ?_))
 obtain ⟨d, k, a, l, hr⟩ := bd2 hr
 refine .tn G (ca1 (ok0 (bY n C d k)) (ca3 (ok0 (bY n y a l)))) (.mu 1 (.ca cf0 (.mu 1 (.ca (cfA (fun h => by rw [sv l k (gg n h)]) cf0) (.mu 2 ?_)))))
 refine .done ⟨by kernel_rfl, ?_⟩
 refine .nh [2, 3, 4, 5] [.own (ah.c d), .own (ah.c a), .own [aB false, nS], .own [aB false, nS]] (.seq (.seq (.r4 G [2, 3, 4, 5] [(17, aB (((a.Groups.length : Int) : Int) == 0))] ?_)))
 refine .cd hr ?_ ?_ <;> intro I hr
 ·refine .seq (.r4 G [4, 5] [(6, ae 14)] (.ret ?_))
  obtain rfl := oi hr
  exact aG.ret (vs := [.agg [aB false, nS], .agg [aB false, nS], ae 14]) (by kernel_rfl) (Sn.tup (SnL.cons (Sn.agg (Sp (SnL.cons Sn.fZ SnL.nil))) (SnL.cons (Sn.agg (Sp (SnL.cons Sn.fZ SnL.nil))) (Sp SnL.nil))))
 refine .skip (.seq ?_)
 obtain ⟨F, D, hr⟩ := bd hr
 refine .g1 G (ok0 (jc n d.Groups a.Groups F D)) (.mu 4 (.ca cf0 (.mu 5 (.done (.nh [2, 3, 4, 5, 7, 8] [.own (ah.c d), .own (ah.c a), .own [aB false, nS], .own [aB false, nS]] (.seq ?_))))))
 obtain ⟨e, E, hr⟩ := bd hr
 refine .g1 G (ok0 (aU n (d.Negative != a.Negative) F.1 e E)) (.mu 6 (.ca cf0 (.mu 2 (.done (.nh [2, 3, 4, 5, 8, 9] [.own (ah.c d), .own (ah.c a), .own [aB false, nS], .own [aB false, nS], .own (ah.c e)] (.seq (.seq ?_)))))))
 rcases bT (d.Negative != a.Negative) with b | b
 ·replace hr := cy b hr
  refine .r0 G (.mu 4 (.p0 (v := aB true) (eB b) (.mu 5 (.done (.nh [2, 3, 4, 5, 9, 44] [.own (ah.c d), .own (ah.c a), .own [aB false, nS], .own [aB false, nS], .own (ah.c e)] ?_)))))
  refine .cd hr ?_ ?_ <;> intro H hr
  ·obtain ⟨m, o, f, p, hr⟩ := bd2 hr
   refine .tn G (ca1 (ok0 (m5 n 1 m o)) (ca3 (ok0 (fG n e m f p)))) (.mu 1 (.ca cf0 (.ca (cfF cf0) (.mu 1 ?_))))
   refine .done ⟨by kernel_rfl, ?_⟩
   refine .nh [2, 3, 4, 5, 9] [.own (ah.c d), .own (ah.c a), .own [aB false, nS], .own [aB false, nS], .own (ah.c f)] (.seq ?_)
   obtain ⟨q, s, g, t, hr⟩ := bd2 hr
   refine .tn G (ca1 (ok0 (cZ n f a q s)) (ca3 (ok0 (fG n d q g t)))) (.mu 4 (.ca cf0 (.ca (cfF cf0) (.mu 3 ?_))))
   refine .done ⟨by kernel_rfl, ?_⟩
   refine .nh [4, 5, 6] [.own (ah.c d), .own (ah.c a), .own (ah.c f), .own (ah.c g), .own (ah.c f)] (.ret ?_)
   obtain rfl := oi hr
   exact aG.ret (vs := [.agg (ah.c f), .agg (ah.c g), ae 0]) (by kernel_rfl) (Sn.tup (Sp (Sp (Sp SnL.nil))))
  refine .skip (.seq ?_)
  obtain ⟨u, w, i, x, hr⟩ := bd2 hr
  refine .tn G (ca1 (ok0 (cZ n e a u w)) (ca3 (ok0 (fG n d u i x)))) (.mu 4 (.ca cf0 (.ca (cfF cf0) (.mu 3 ?_))))
  refine .done ⟨by kernel_rfl, ?_⟩
  refine .nh [4, 5, 6] [.own (ah.c d), .own (ah.c a), .own (ah.c e), .own (ah.c i), .own (ah.c e)] (.ret ?_)
  obtain rfl := oi hr
  exact aG.ret (vs := [.agg (ah.c e), .agg (ah.c i), ae 0]) (by kernel_rfl) (Sn.tup (Sp (Sp (Sp SnL.nil))))
 replace hr := cz b hr
 refine .r0 G (.mu 4 (.p0 (v := aB false) (eB b) (.mu 5 (.done (.nh [2, 3, 4, 5, 9, 44] [.own (ah.c d), .own (ah.c a), .own [aB false, nS], .own [aB false, nS], .own (ah.c e)] (.cF (by kernel_rfl) (.skip (.seq ?_))))))))
 obtain ⟨z, A, j, B, hr⟩ := bd2 hr
 refine .tn G (ca1 (ok0 (cZ n e a z A)) (ca3 (ok0 (fG n d z j B)))) (.mu 4 (.ca cf0 (.ca (cfF cf0) (.mu 3 ?_))))
 refine .done ⟨by kernel_rfl, ?_⟩
 refine .nh [4, 5, 6] [.own (ah.c d), .own (ah.c a), .own (ah.c e), .own (ah.c j), .own (ah.c e)] (.ret ?_)
 obtain rfl := oi hr
 exact aG.ret (vs := [.agg (ah.c e), .agg (ah.c j), ae 0]) (by kernel_rfl) (Sn.tup (Sp (Sp (Sp SnL.nil))))

theorem iy (n : Nat) (num : ah) (den : ah) (r : ag) (hr : di n num den = some r) : aL Tryz.prog 86 [.agg (ah.c num), .agg (ah.c den)] (.agg (ag.c r)) := by
 unfold di at hr
 refine aL.bd G Tryz.func86 [.cell 4 42] ?_
 unfold Tryz.f86
 simp only [gS]
 refine .seq (.r2 G 37 [(2, .hp 0 0), (3, .hp 1 0), (4, .hp 2 0)] [.own (ah.c num), .own (ah.c den), .own zN2] (.seq ?_))
 obtain ⟨f, k, hr⟩ := bd hr
 refine .g1 G (ok0 (mG n num den f k)) (.mu 2 (.ca cf0 (.mu 2 (.done (.nh [2, 3, 4, 5] [.own (ah.c num), .own (ah.c den), .own zN2, .own (ah.c f)] (.seq (.seq ?_)))))))
 obtain ⟨p, l, hr⟩ := bd hr
 refine .g1 G (ok0 (fi n den p l)) (.mu 1 (.ca cf0 (.mu 1 (.done (.nh [2, 3, 4, 5, 17] [.own (ah.c num), .own (ah.c den), .own zN2, .own (ah.c f)] ?_)))))
 refine .cd hr ?_ ?_ <;> intro q hr
 ·obtain ⟨g, m, hr⟩ := bd hr
  refine .g1 G (ok0 (j5 n f g m)) (.mu 1 (.ca cf0 (.mu 1 (.done (.nh [2, 3, 4, 5] [.own (ah.c num), .own (ah.c den), .own zN2, .own (ah.c g)] (.seq ?_))))))
  obtain ⟨e, o, hr⟩ := bd hr
  refine .g1 G (ok0 (fJ n num g e o)) (.mu 2 (.ca cf0 (.mu 9 (.done (.nh [3, 4, 5, 6] [.own (ah.c num), .own (ah.c den), .own zN2, .own (ah.c g), .own (ah.c e.1), .own (ah.c e.2.1)] (.seq ?_))))))
  obtain ⟨b, h, hr⟩ := bd hr
  refine .g1 G (ok0 (fJ n den g b h)) (.mu 2 (.ca cf0 (.mu 9 (.done (.nh [4, 6, 9] [.own (ah.c num), .own (ah.c den), .own zN2, .own (ah.c g), .own (ah.c e.1), .own (ah.c e.2.1), .own (ah.c b.1), .own (ah.c b.2.1)] (.seq (.r5 G [4] [] [.own (ah.c num), .own (ah.c den), .own [aB e.1.Negative, au e.1.Groups, aB b.1.Negative, au b.1.Groups], .own (ah.c g), .own (ah.c e.1), .own (ah.c e.2.1), .own (ah.c b.1), .own (ah.c b.2.1)] (.ret ?_))))))))
  obtain rfl := oi hr
  exact aG.r1 [.agg [aB e.1.Negative, au e.1.Groups, aB b.1.Negative, au b.1.Groups]]
 refine .skip (.seq ?_)
 obtain ⟨a, i, hr⟩ := bd hr
 refine .g1 G (ok0 (fJ n num f a i)) (.mu 2 (.ca cf0 (.mu 9 (.done (.nh [3, 4, 5, 6] [.own (ah.c num), .own (ah.c den), .own zN2, .own (ah.c f), .own (ah.c a.1), .own (ah.c a.2.1)] (.seq ?_))))))
 obtain ⟨d, j, hr⟩ := bd hr
 refine .g1 G (ok0 (fJ n den f d j)) (.mu 2 (.ca cf0 (.mu 9 (.done (.nh [4, 6, 9] [.own (ah.c num), .own (ah.c den), .own zN2, .own (ah.c f), .own (ah.c a.1), .own (ah.c a.2.1), .own (ah.c d.1), .own (ah.c d.2.1)] (.seq (.r5 G [4] [] [.own (ah.c num), .own (ah.c den), .own [aB a.1.Negative, au a.1.Groups, aB d.1.Negative, au d.1.Groups], .own (ah.c f), .own (ah.c a.1), .own (ah.c a.2.1), .own (ah.c d.1), .own (ah.c d.2.1)] (.ret ?_))))))))
 obtain rfl := oi hr
 exact aG.r1 [.agg [aB a.1.Negative, au a.1.Groups, aB d.1.Negative, au d.1.Groups]]

theorem rk (n : Nat) (num : ah) (den : ah) (r : ag × Int) (hr : jO n num den = some r) : aL Tryz.prog 82 [.agg (ah.c num), .agg (ah.c den)] (.tup [.agg (ag.c r.1), ae r.2]) := by
 unfold jO at hr
 refine aL.bd G Tryz.func82 [.cell 4 42, .tmp 5] ?_
 unfold Tryz.f82
 simp only [gS]
 refine .seq (.r2 G 13 [(2, .hp 0 0), (3, .hp 1 0), (4, .hp 2 0)] [.own (ah.c num), .own (ah.c den), .own zN2] (.seq (.seq ?_)))
 obtain ⟨e, a, hr⟩ := bd hr
 refine .g1 G (ok0 (fi n den e a)) (.mu 1 (.ca cf0 (.mu 1 (.done (.nh [2, 3, 4, 8] [.own (ah.c num), .own (ah.c den), .own zN2] ?_)))))
 refine .cd hr ?_ ?_ <;> intro f hr
 ·refine .seq (.r4 G [4] [(5, ae 14)] (.ret ?_))
  obtain rfl := oi hr
  exact aG.ret (vs := [.agg zN2, ae 14]) (by kernel_rfl) (Sn.tup (SnL.cons (Sn.agg (Sp (SnL.cons Sn.fZ (Sp (SnL.cons Sn.fZ SnL.nil))))) (Sp SnL.nil)))
 refine .skip (.seq ?_)
 obtain ⟨b, d, hr⟩ := bd hr
 refine .g1 G (ok0 (iy n num den b d)) (.mu 2 (.ca cf0 (.mu 2 (.done (.nh [4, 5] [.own (ah.c num), .own (ah.c den), .own (ag.c b)] (.ret ?_))))))
 obtain rfl := oi hr
 exact aG.ret (vs := [.agg (ag.c b), ae 0]) (by kernel_rfl) (Sn.tup (Sp (Sp SnL.nil)))

theorem cE (n : Nat) (f : Int) (d : Int) (r : ag × Int) (hr : bn n f d = some r) : aL Tryz.prog 36 [ae f, ae d] (.tup [.agg (ag.c r.1), ae r.2]) := by
 unfold bn at hr
 refine aL.bd G Tryz.func36 [.cell 4 42, .tmp 5] ?_
 unfold Tryz.f36
 simp only [gS]
 refine .seq (.r5 G [0, 1] [(4, .hp 0 0)] [.own zN2] (.seq ?_))
 obtain ⟨i, a, j, b, e, g, hr⟩ := bd3 hr
 refine .gn G (ca1 (ok0 (eQ n f i a)) (ca1 (ok0 (eQ n d j b)) (ca3 (ok0 (rk n i j e g))))) (.mu 1 (.ca cf0 (.mu 1 (.ca (cfA (fun h => by rw [sv b a (lf n h)]) cf0) (.ca (cfF (cfF cf0)) (.mu 4 (.done (.nh [4, 5] [.own (ag.c e.1)] (.ret ?_)))))))))
 obtain rfl := oi hr
 exact aG.ret (vs := [.agg (ag.c e.1), ae e.2]) (by kernel_rfl) (Sn.tup (Sp (Sp SnL.nil)))

theorem oJ (n : Nat) (a : ah) (y : ah) (r : Int) (hr : fh n a y = some r) : aL Tryz.prog 114 [.agg (ah.c a), .agg (ah.c y)] (ae r) := by
 unfold fh at hr
 refine aL.bd G Tryz.func114 [.tmp 4] ?_
 unfold Tryz.f114
 simp only [gS]
 refine .seq (.r2 G 9 [(2, .hp 0 0), (3, .hp 1 0)] [.own (ah.c a), .own (ah.c y)] (.seq ?_))
 obtain ⟨e, b, f, d, hr⟩ := bd2 hr
 refine .gn G (ca1 (ok0 (fG n a y e b)) (ca3 (ok0 (fi n e f d)))) (.mu 2 (.ca cf0 (.ca (cfF cf0) (.mu 1 (.done (.ret ?_))))))
 obtain rfl := oi hr
 exact aG.r1 [ae f]

theorem lN (n : Nat) {b : ag} {a : ag} (h : ([.agg (ag.c b)] : List AV) = [.agg (ag.c a)]) : cR n b = cR n a := by
 obtain rfl := gD h
 rfl
theorem dI (n : Nat) (a : ag) (r : Bool) (hr : cR n a = some r) : aL Tryz.prog 69 [.agg (ag.c a)] (aB r) := by
 unfold cR at hr
 refine aL.bd G Tryz.func69 [.tmp 2] ?_
 unfold Tryz.f69
 simp only [gS]
 refine .seq (.r2 G 27 [(1, .hp 0 0)] [.own (ag.c a)] (.seq (.seq ?_)))
 obtain ⟨o, d, hr⟩ := bd hr
 rcases bT (!o) with b | b
 ·replace hr := cy b hr
  refine .g1 G (ok0 (dP n a.Num o d)) (.mu 2 (.ca cf0 (.p0 (v := aB true) (eB b) (.mu 12 (.done (.nh [1, 18] [.own (ag.c a)] (.cT (by kernel_rfl) (.seq (.ru G (.ret ?_))))))))))
  obtain rfl := oi hr
  exact aG.r1 [aB false]
 replace hr := cz b hr
 obtain ⟨p, f, hr⟩ := bd hr
 rcases bT (!p) with e | e
 ·replace hr := cy e hr
  refine .gn G (ca1 (ok0 (dP n a.Num o d)) (ca3 (ok0 (dP n a.Den p f)))) (.mu 2 (.ca cf0 (.p0 (v := aB false) (eB b) (.mu 3 (.ca (cfA (fun h => by rw [sv f d (lM n h)]) cf0) (.pure (v := aB true) (by kernel_rfl) (eB e) (.mu 7 (.done (.nh [1, 18] [.own (ag.c a)] (.cT (by kernel_rfl) (.seq (.ru G (.ret ?_)))))))))))))
  obtain rfl := oi hr
  exact aG.r1 [aB false]
 replace hr := cz e hr
 obtain ⟨s, q, hr⟩ := bd hr
 refine .gn G (ca1 (ok0 (dP n a.Num o d)) (ca1 (ok0 (dP n a.Den p f)) (ca3 (ok0 (fi n a.Den s q))))) (.mu 2 (.ca cf0 (.p0 (v := aB false) (eB b) (.mu 3 (.ca (cfA (fun h => by rw [sv f d (lM n h)]) cf0) (.pure (v := aB false) (by kernel_rfl) (eB e) (.mu 4 (.ca (cfF (cfF cf0)) (.mu 2 (.done (.nh [1, 18] [.own (ag.c a)] ?_)))))))))))
 refine .cd hr ?_ ?_ <;> intro t hr
 ·refine .seq (.ru G (.ret ?_))
  obtain rfl := oi hr
  exact aG.r1 [aB false]
 refine .skip (.seq ?_)
 obtain ⟨g, i, j, k, l, m, hr⟩ := bd3 hr
 refine .gn G (ca1 (ok0 (mG n a.Num a.Den g i)) (ca1 (ok0 (eQ n 1 j k)) (ca3 (ok0 (oJ n g j l m))))) (.mu 4 (.ca cf0 (.ca (cfF cf0) (.ca (cfF (cfF cf0)) (.mu 2 (.done (.ret ?_)))))))
 obtain rfl := oi hr
 exact aG.r1 [aB ((l : Int) == 0)]

theorem jj (n : Nat) {b : Int} {a : Int} (h : ([.at (.int .i64 b)] : List AV) = [.at (.int .i64 a)]) : aY n b = aY n a := by
 obtain rfl := dS h
 rfl
theorem ck (n : Nat) (f : Int) (r : ag) (hr : aY n f = some r) : aL Tryz.prog 65 [ae f] (.agg (ag.c r)) := by
 unfold aY at hr
 refine aL.bd G Tryz.func65 [.cell 2 42] ?_
 unfold Tryz.f65
 simp only [gS]
 refine .seq (.r5 G [0] [(2, .hp 0 0)] [.own zN2] (.seq ?_))
 obtain ⟨a, b, d, e, hr⟩ := bd2 hr
 refine .gn G (ca1 (ok0 (eQ n f a b)) (ca3 (ok0 (eQ n 1 d e)))) (.mu 1 (.ca cf0 (.ca (cfA (fun h => by rw [sv e b (lf n h)]) cf0) (.mu 2 (.done (.nh [2] [.own [aB a.Negative, au a.Groups, aB d.Negative, au d.Groups]] (.ret ?_)))))))
 obtain rfl := oi hr
 exact aG.r1 [.agg [aB a.Negative, au a.Groups, aB d.Negative, au d.Groups]]

theorem dK (n : Nat) (a : ag) (r : ag) (hr : cD n a = some r) : aL Tryz.prog 85 [.agg (ag.c a)] (.agg (ag.c r)) := by
 unfold cD at hr
 refine aL.bd G Tryz.func85 [.cell 2 42] ?_
 unfold Tryz.f85
 simp only [gS]
 refine .seq (.r2 G 7 [(1, .hp 0 0), (2, .hp 1 0)] [.own (ag.c a), .own zN2] (.seq (.seq ?_)))
 obtain ⟨f, b, hr⟩ := bd hr
 refine .g1 G (ok0 (dI n a f b)) (.mu 1 (.ca cf0 (.done (.nh [1, 2, 4] [.own (ag.c a), .own zN2] ?_))))
 refine .cd hr ?_ ?_ <;> intro g hr
 ·refine .seq (.r5 G [2] [] [.own (ag.c a), .own (ag.c a)] (.ret ?_))
  obtain rfl := oi hr
  exact aG.r1 [.agg (ag.c a)]
 refine .skip (.seq ?_)
 obtain ⟨d, e, hr⟩ := bd hr
 refine .g1 G (ok0 (ck n 0 d e)) (.ca cf0 (.mu 1 (.done (.nh [2] [.own (ag.c a), .own (ag.c d)] (.ret ?_)))))
 obtain rfl := oi hr
 exact aG.r1 [.agg (ag.c d)]

theorem qT (n : Nat) (b : ag) (r : ag) (hr : iv n b = some r) : aL Tryz.prog 84 [.agg (ag.c b)] (.agg (ag.c r)) := by
 unfold iv at hr
 refine aL.bd G Tryz.func84 [.cell 2 42] ?_
 unfold Tryz.f84
 simp only [gS]
 refine .seq (.r2 G 12 [(1, .hp 0 0), (2, .hp 1 0)] [.own (ag.c b), .own zN2] (.seq ?_))
 obtain ⟨a, e, hr⟩ := bd hr
 refine .g1 G (ok0 (dK n b a e)) (.mu 1 (.ca cf0 (.mu 2 (.done (.nh [2, 3] [.own (ag.c b), .own zN2, .own (ag.c a)] (.seq ?_))))))
 obtain ⟨d, f, hr⟩ := bd hr
 refine .t1 G (ok0 (j5 n a.Num d f)) (.mu 2 (.ca cf0 (.mu 4 ?_)))
 refine .done ⟨by kernel_rfl, ?_⟩
 refine .nh [2] [.own (ag.c b), .own [aB d.Negative, au d.Groups, aB a.Den.Negative, au a.Den.Groups], .own (ag.c a)] (.ret ?_)
 obtain rfl := oi hr
 exact aG.r1 [.agg [aB d.Negative, au d.Groups, aB a.Den.Negative, au a.Den.Groups]]

theorem fC (n : Nat) (b : ag) (y : ag) (r : ag) (hr : cW n b y = some r) : aL Tryz.prog 71 [.agg (ag.c b), .agg (ag.c y)] (.agg (ag.c r)) := by
 unfold cW at hr
 refine aL.bd G Tryz.func71 [.cell 4 42] ?_
 unfold Tryz.f71
 simp only [gS]
 refine .seq (.r2 G 28 [(2, .hp 0 0), (3, .hp 1 0), (4, .hp 2 0)] [.own (ag.c b), .own (ag.c y), .own zN2] (.seq ?_))
 obtain ⟨d, m, hr⟩ := bd hr
 refine .g1 G (ok0 (dK n b d m)) (.mu 1 (.ca cf0 (.mu 2 (.done (.nh [3, 4, 5] [.own (ag.c b), .own (ag.c y), .own zN2, .own (ag.c d)] (.seq ?_))))))
 obtain ⟨i, o, hr⟩ := bd hr
 refine .g1 G (ok0 (dK n y i o)) (.mu 1 (.ca cf0 (.mu 2 (.done (.nh [4, 5, 6] [.own (ag.c b), .own (ag.c y), .own zN2, .own (ag.c d), .own (ag.c i)] (.seq ?_))))))
 obtain ⟨p, e, q, f, s, j, hr⟩ := bd3 hr
 obtain ⟨k, a, g, l, hr⟩ := bd2 hr
 refine .tn G (ca1 (ok0 (cZ n d.Num i.Den p e)) (ca1 (ok0 (cZ n i.Num d.Den q f)) (ca1 (ok0 (mJ n p q s j)) (ca1 (ok0 (cZ n d.Den i.Den k a)) (ca3 (ok0 (iy n s k g l))))))) (.mu 4 (.ca cf0 (.mu 4 (.ca (cfA (fun h => by rw [sv f e (hU n h)]) cf0) (.ca (cfF (cfF cf0)) (.mu 4 (.ca (cfA (fun h => by rw [sv a e (hU n h)]) (cfA (fun h => by rw [sv a f (hU n h)]) (cfF cf0))) (.ca (cfF (cfF (cfF (cfF cf0)))) (.mu 1 ?_)))))))))
 refine .done ⟨by kernel_rfl, ?_⟩
 refine .nh [4] [.own (ag.c b), .own (ag.c y), .own (ag.c g), .own (ag.c d), .own (ag.c i)] (.ret ?_)
 obtain rfl := oi hr
 exact aG.r1 [.agg (ag.c g)]

theorem j6 (n : Nat) (a : ag) (y : ag) (r : ag) (hr : dV n a y = some r) : aL Tryz.prog 37 [.agg (ag.c a), .agg (ag.c y)] (.agg (ag.c r)) := by
 unfold dV at hr
 refine aL.bd G Tryz.func37 [.cell 4 42] ?_
 unfold Tryz.f37
 simp only [gS]
 refine .seq (.r2 G 9 [(2, .hp 0 0), (3, .hp 1 0), (4, .hp 2 0)] [.own (ag.c a), .own (ag.c y), .own zN2] (.seq ?_))
 obtain ⟨f, b, d, e, hr⟩ := bd2 hr
 refine .tn G (ca1 (ok0 (qT n y f b)) (ca3 (ok0 (fC n a f d e)))) (.mu 2 (.ca cf0 (.ca (cfF cf0) (.mu 1 ?_))))
 refine .done ⟨by kernel_rfl, ?_⟩
 refine .nh [4] [.own (ag.c a), .own (ag.c y), .own (ag.c d)] (.ret ?_)
 obtain rfl := oi hr
 exact aG.r1 [.agg (ag.c d)]

theorem qt (n : Nat) (a : ag) (r : Int) (hr : gw n a = some r) : aL Tryz.prog 70 [.agg (ag.c a)] (ae r) := by
 unfold gw at hr
 refine aL.bd G Tryz.func70 [.tmp 2] ?_
 unfold Tryz.f70
 simp only [gS]
 refine .seq (.r2 G 7 [(1, .hp 0 0)] [.own (ag.c a)] (.seq ?_))
 obtain ⟨e, b, f, d, hr⟩ := bd2 hr
 refine .gn G (ca1 (ok0 (dK n a e b)) (ca3 (ok0 (fi n e.Num f d)))) (.mu 1 (.ca cf0 (.mu 1 (.ca (cfF cf0) (.mu 1 (.done (.ret ?_)))))))
 obtain rfl := oi hr
 exact aG.r1 [ae f]

theorem oN (n : Nat) (a : ag) (y : ag) (r : Int) (hr : fg n a y = some r) : aL Tryz.prog 38 [.agg (ag.c a), .agg (ag.c y)] (ae r) := by
 unfold fg at hr
 refine aL.bd G Tryz.func38 [.tmp 4] ?_
 unfold Tryz.f38
 simp only [gS]
 refine .seq (.r2 G 9 [(2, .hp 0 0), (3, .hp 1 0)] [.own (ag.c a), .own (ag.c y)] (.seq ?_))
 obtain ⟨e, b, f, d, hr⟩ := bd2 hr
 refine .gn G (ca1 (ok0 (j6 n a y e b)) (ca3 (ok0 (qt n e f d)))) (.mu 2 (.ca cf0 (.ca (cfF cf0) (.mu 1 (.done (.ret ?_))))))
 obtain rfl := oi hr
 exact aG.r1 [ae f]

theorem qi (n : Nat) {b : ag} {y : ag} {a : ag} {d : ag} (h : ([.agg (ag.c b), .agg (ag.c y)] : List AV) = [.agg (ag.c a), .agg (ag.c d)]) : c8 n b y = c8 n a d := by
 obtain ⟨rfl, rfl⟩ := kd h
 rfl
theorem ff (n : Nat) (d : ag) (y : ag) (r : Bool) (hr : c8 n d y = some r) : aL Tryz.prog 32 [.agg (ag.c d), .agg (ag.c y)] (aB r) := by
 unfold c8 at hr
 refine aL.bd G Tryz.func32 [.tmp 4] ?_
 unfold Tryz.f32
 simp only [gS]
 refine .seq (.r2 G 17 [(2, .hp 0 0), (3, .hp 1 0)] [.own (ag.c d), .own (ag.c y)] (.seq ?_))
 obtain ⟨j, a, hr⟩ := bd hr
 rcases bT j with e | e
 ·subst e
  replace hr := cy rfl hr
  obtain ⟨k, b, hr⟩ := bd hr
  rcases bT k with f | f
  ·subst f
   replace hr := cy rfl hr
   obtain ⟨i, g, hr⟩ := bd hr
   refine .gn G (ca1 (ok0 (dI n d true a)) (ca1 (ok0 (dI n y true b)) (ca3 (ok0 (oN n d y i g))))) (.mu 1 (.ca cf0 (.mu 2 (.ca (cfA (fun h => by rw [sv b a (lN n h)]) cf0) (.mu 4 (.ca (cfF (cfF cf0)) (.mu 3 (.done (.ret ?_)))))))))
   obtain rfl := oi hr
   exact aG.r1 [aB ((i : Int) == 0)]
  subst f
  replace hr := cz rfl hr
  refine .gn G (ca1 (ok0 (dI n d true a)) (ca3 (ok0 (dI n y false b)))) (.mu 1 (.ca cf0 (.mu 2 (.ca (cfA (fun h => by rw [sv b a (lN n h)]) cf0) (.mu 8 (.done (.ret ?_)))))))
  obtain rfl := oi hr
  exact aG.r1 [aB false]
 subst e
 replace hr := cz rfl hr
 refine .g1 G (ok0 (dI n d false a)) (.mu 1 (.ca cf0 (.mu 11 (.done (.ret ?_)))))
 obtain rfl := oi hr
 exact aG.r1 [aB false]

theorem fc (n : Nat) (a : Int) (r : List ak) (hr : bX n a = some r) : dm 0 Tryz.prog 131 [nS, ae a] [] (.hs 0 0 r.length 6) [.own (r.flatMap ak.c)] := by
 unfold bX at hr
 refine dm.kF G Tryz.func131 (c := (Tryz.f131.body).getD .skip) rfl (us := [.hs 0 0 r.length 6]) (s := mkS 27 0 [(0, nS), (1, ae a)]) (by kernel_rfl) (rs := [.tmp 4]) rfl ?_
 unfold Tryz.f131
 simp only [gS]
 refine .seq (.r4 G [0, 1] [] (.seq (.seq (.r4 G [0, 1] [(6, aB (decide (a < 0)))] ?_))))
 obtain ⟨g, hr⟩ := gdn hr
 refine .cN g (.skip (.seq (.seq (.r4 G [0] [(1, ae (Fc (a - 0)))] (.seq (.r4 G [0, 1] [(16, aB (decide ((Fc (a - 0)) > 0)))] ?_))))))
 refine .cd hr ?_ ?_ <;> intro h hr
 ·obtain ⟨b, d, e, hr⟩ := gd3 hr
  obtain ⟨f, hr⟩ := gd hr
  refine .r0 G (.mu 5 (.e0 (v := .hs 0 0 (Fc (a - 0)).toNat 6) (ws := [(0, .own (ef [ae 0, ae 0, aB false, nS, aB false, nS] (Fc (a - 0)).toNat))]) (tr (y := oA (decide (0 < (Fc (a - 0))) && decide ((Fc (a - 0)) <= 4611686018427387904) && decide ((Fc (a - 0)).toNat * 80 <= 140737488355328) && true && true && true) (some (.eff (.hs 0 0 (Fc (a - 0)).toNat 6) [(0, .own (ef [ae 0, ae 0, aB false, nS, aB false, nS] (Fc (a - 0)).toNat))]))) (AD b d e)) (.mu 2 (.p0 (v := .hs 0 0 (0 : Int).toNat 6) (tr (y := slH (inS 0 0 (Fc (a - 0)).toNat) true ((0 : Int).toNat) ((0 : Int).toNat) (fun z1 i => .hs 0 (0 + z1 * 6) (i - z1) 6)) (BR f (by kernel_rfl))) (.mu 1 (.done (.nh [0] [.own (ef [ae 0, ae 0, aB false, nS, aB false, nS] (Fc (a - 0)).toNat)] (.wk ((Wk.mask [0]).trans ((Wk.cut 0 (cs := ef [ae 0, ae 0, aB false, nS, aB false, nS] (Fc (a - 0)).toNat) 0 (by kernel_rfl)).to (c := ⟨mkS 27 0 [(0, .hs 0 0 ([] : List ak).length 6)], [.own (([] : List ak).flatMap ak.c)]⟩) (by kernel_rfl))) (.seq (.r3 G 27 [(4, .hs 0 0 ([] : List ak).length 6)] (.ret ?_)))))))))))
  obtain rfl := oi hr
  exact dk.ret [.hs 0 0 ([] : List ak).length 6] ((Wk.gc [0] [(0, false)] rfl (pKo ak.c ak.pure ([] : List ak) trivial)).to)
 refine .skip (.seq (.r3 G 27 [(4, nS)] (.ret ?_)))
 obtain rfl := oi hr
 exact dk.ret [nS] ((Wk.nil 0 6 (by kernel_rfl)).trans ((Wk.gc [0] [(0, false)] rfl (pKc trivial)).to))

theorem fe (n : Nat) (slices : List (List ak)) (r : List ak) (hr : bU n slices = some r) : aL Tryz.prog 96 [slT (slC ak.c) slices] (slT ak.c r) := by
 unfold bU at hr
 refine aL.bd G Tryz.func96 [.tmp 2] ?_
 unfold Tryz.f96
 simp only [gS]
 refine .seq (.r4 G [0] [] (.seq (.r4 G [0] [(3, ae 0)] (.seq (.seq (.r4 G [0, 3] [(9, slT (slC ak.c) slices), (10, ae (slices.length : Int)), (11, ae 0)] (.block ?_)))))))
 replace hr := bd hr; obtain ⟨p, j, hr⟩ := hr
 refine .aH (σ := fun A => match A with | (f, d) => ⟨mkS 36 0 [(0, slT (slC ak.c) slices), (3, ae f), (9, slT (slC ak.c) slices), (10, ae (slices.length : Int)), (11, ae d)], []⟩) (Q := fun x st' => x = .exit 0 /\ Wk 0 st' ⟨mkS 36 0 [(0, slT (slC ak.c) slices), (3, ae p)], []⟩) j ((Wk.gc [0, 3, 9, 10, 11] [] rfl pK0).to) ?_ ?_
 ·clear hr
  rintro m ⟨f, d⟩ hr
  show CQ _ _ _ _ _ ⟨_, _⟩
  refine .seq (.r4 G [0, 3, 9, 10, 11] [(12, aB (decide (d < (slices.length : Int))))] (.seq ?_))
  refine .cd hr ?_ ?_ <;> intro D hr
  ·refine .skip (.seq (.block (.seq ?_)))
   obtain ⟨s, hr⟩ := gd hr
   refine .r0 G (.p0 (v := .pp (slices.flatMap (slC ak.c)) (d.toNat * 1)) (tr (ar s)) (.p0 (v := slT ak.c (gt slices d)) (tr (aD (aE (Av ak.c) (aA s) z1 (by omega : d.toNat * 1 = d.toNat * 1 + 0) (by kernel_rfl)))) (.mu 1 (.done (.nh [0, 3, 5, 9, 10, 11] [] (.seq (.r4 G [0, 9, 10, 11] [(3, ae (Fc (f + ((gt slices d).length : Int))))] (.seq (.r4 G [0, 3, 9, 10, 11] [(20, aB (decide ((Fc (f + ((gt slices d).length : Int))) < 0)))] ?_)))))))))
   obtain ⟨t, hr⟩ := gdn hr
   refine .cN t (.skip (.pop (.ru G ?_)))
   exact az (Fc (f + ((gt slices d).length : Int)), Fc (d + 1)) hr ((Wk.gc [0, 3, 9, 10, 11] [] rfl pK0).to)
  refine .leave rfl ?_
  obtain rfl := oi hr
  exact ⟨rfl, ((Wk.gc [0, 3] [] rfl pK0).to)⟩
 rintro x st' g
 clear j
 obtain ⟨rfl, g⟩ := g
 refine aQ _ rfl (.wk g (.seq ?_))
 obtain ⟨q, u, hr⟩ := bd hr
 refine .g1 G (bZ (args := [nS, ae p]) 0 1 [] [false] (fc n p q u) trivial (by exact ⟨aW ak.pure _, trivial⟩) rfl rfl (by kernel_rfl) (by kernel_rfl)) (.mu 1 (.ca cf0 (.mu 1 (.done (.nh [0, 6] [.own (q.flatMap ak.c)] (.seq (.seq (.r4 G [6] [(25, slT (slC ak.c) slices), (26, ae (slices.length : Int)), (27, ae 0)] (.block ?_)))))))))
 replace hr := bd hr; obtain ⟨e, k, hr⟩ := hr
 refine .aH (σ := fun A => match A with | (a, b) => ⟨mkS 36 0 [(6, .hs 0 0 a.length 6), (25, slT (slC ak.c) slices), (26, ae (slices.length : Int)), (27, ae b)], [.own (a.flatMap ak.c)]⟩) (Q := fun x st' => x = .exit 2 /\ Wk 0 st' ⟨mkS 36 0 [(6, .hs 0 0 e.length 6)], [.own (e.flatMap ak.c)]⟩) k ((Wk.gc [6, 25, 26, 27] [(0, false)] rfl (pKo ak.c ak.pure q trivial)).to) ?_ ?_
 ·clear hr
  rintro m ⟨a, b⟩ hr
  show CQ _ _ _ _ _ ⟨_, _⟩
  refine .seq (.r4 G [6, 25, 26, 27] [(28, aB (decide (b < (slices.length : Int))))] (.seq ?_))
  refine .cd hr ?_ ?_ <;> intro C hr
  ·refine .skip (.seq (.block (.seq ?_)))
   obtain ⟨o, hr⟩ := gd hr
   refine .r0 G (.p0 (v := .pp (slices.flatMap (slC ak.c)) (b.toNat * 1)) (tr (ar o)) (.p0 (v := slT ak.c (gt slices b)) (tr (aD (aE (Av ak.c) (aA o) z1 (by omega : b.toNat * 1 = b.toNat * 1 + 0) (by kernel_rfl)))) (.mu 1 (.done (.nh [6, 8, 25, 26, 27] [.own (a.flatMap ak.c)] ?_)))))
   obtain ⟨w, z, hr⟩ := gd2 hr
   refine .r0 G (.mu 2 (.e0 (v := .hs 1 0 (a ++ (gt slices b)).length 6) (ws := [(0, .dead), (1, .own ((a ++ (gt slices b)).flatMap ak.c))]) (tr (y := ze (decide ((((gt slices b).flatMap ak.c)).length = (gt slices b).length * 6)) ((gt slices b).flatMap ak.c) (gt slices b).length (fun z1 B => oA (decide (0 + a.length * 6 <= (a.flatMap ak.c).length) && decide ((a.length + B) * 80 <= 140737488355328) && decide (a.length + B <= 4611686018427387904)) (some (.eff (.hs 1 0 (a.length + B) 6) [(0, .dead), (1, .own (((a.flatMap ak.c).drop 0).take (a.length * 6) ++ z1))])))) (uj (nt ak.len) rfl (eM (l := a) (xs := (gt slices b)) ak.len rfl rfl rfl w z))) (.mu 1 (.done (.pop (.ru G ?_))))))
   exact az (a ++ (gt slices b), Fc (b + 1)) hr ((Wk.gc [6, 25, 26, 27] [(1, false)] rfl (pKo ak.c ak.pure (a ++ (gt slices b)) trivial)).to)
  refine .leave rfl ?_
  obtain rfl := oi hr
  exact ⟨rfl, ((Wk.gc [6] [(0, false)] rfl (pKo ak.c ak.pure a trivial)).to)⟩
 rintro x st' i
 clear k
 obtain ⟨rfl, i⟩ := i
 refine aQ _ rfl (.wk i (.seq (.r3 G 36 [(2, .hs 0 0 e.length 6)] (.ret ?_))))
 obtain rfl := oi hr
 exact aG.ret (vs := [.hs 0 0 e.length 6]) (by kernel_rfl) (Sn.hs rfl (.inl rfl) (SnC.pure (aW ak.pure _)) (fun h => cG h))

theorem tt (n : Nat) (c : ai) (r : ai) (hr : nQ n c = some r) : aL Tryz.prog 51 [.agg (ai.c c)] (.agg (ai.c r)) := by
 unfold nQ at hr
 refine aL.bd G Tryz.func51 [.cell 2 35] ?_
 unfold Tryz.f51
 simp only [gS]
 refine .seq (.r2 G 49 [(1, .hp 0 0), (2, .hp 1 0)] [.own (ai.c c), .own [aB false, nS]] (.seq (.seq (.r4 G [1, 2] [(9, aB (!c.Closed))] ?_))))
 refine .cd hr ?_ ?_ <;> intro z hr
 ·refine .seq (.r5 G [2] [] [.own (ai.c c), .own (ai.c c)] (.ret ?_))
  obtain rfl := oi hr
  exact aG.r1 [.agg (ai.c c)]
 refine .skip (.seq (.r4 G [1, 2] [(3, ae 0)] (.seq (.seq (.r4 G [1, 2, 3] [(12, slT ak.c c.Points), (13, ae (c.Points.length : Int)), (14, ae 0)] (.block ?_))))))
 replace hr := bd hr; obtain ⟨a, f, hr⟩ := hr
 refine .aH (σ := fun C => match C with | (d, b) => ⟨mkS 49 0 [(1, .hp 0 0), (2, .hp 1 0), (3, ae d), (12, slT ak.c c.Points), (13, ae (c.Points.length : Int)), (14, ae b)], [.own (ai.c c), .own [aB false, nS]]⟩) (Q := fun x st' => x = .exit 0 /\ Wk 0 st' ⟨mkS 49 0 [(1, .hp 0 0), (2, .hp 1 0), (3, ae a)], [.own (ai.c c), .own [aB false, nS]]⟩) f ((Wk.gc [1, 2, 3, 12, 13, 14] [(0, true), (1, true)] rfl trivial).to) ?_ ?_
 ·clear hr
  rintro m ⟨d, b⟩ hr
  show CQ _ _ _ _ _ ⟨_, _⟩
  refine .seq (.r4 G [1, 2, 3, 12, 13, 14] [(15, aB (decide (b < (c.Points.length : Int))))] (.seq ?_))
  refine .cd hr ?_ ?_ <;> intro u hr
  ·refine .skip (.seq (.block (.seq ?_)))
   obtain ⟨g, hr⟩ := gd hr
   refine .r0 G (.mu 1 (.p0 (v := .pp (c.Points.flatMap ak.c) (b.toNat * 6)) (tr (ar g)) (.p0 (v := .agg (ak.c (gt c.Points b))) (tr (y := bu.ofP (dR (decide (6 <= ((c.Points.flatMap ak.c).drop (b.toNat * 6)).length)) (.agg (((c.Points.flatMap ak.c).drop (b.toNat * 6)).take 6)))) (bO ak.len (aA g) (by decide) (by omega : b.toNat * 6 = b.toNat * 6 + 0) (by kernel_rfl))) (.mu 3 (.done (.nh [1, 2, 3, 4, 5, 12, 13, 14] [.own (ai.c c), .own [aB false, nS], .own (ak.c (gt c.Points b))] (.seq ?_)))))))
   obtain ⟨i, hr⟩ := gd hr
   refine .r0 G (.mu 3 (.p0 (v := .pp (c.Points.flatMap ak.c) (d.toNat * 6)) (tr (ar i)) (.p0 (v := .agg (ak.c (gt c.Points d))) (tr (y := bu.ofP (dR (decide (6 <= ((c.Points.flatMap ak.c).drop (d.toNat * 6)).length)) (.agg (((c.Points.flatMap ak.c).drop (d.toNat * 6)).take 6)))) (bO ak.len (aA i) (by decide) (by omega : d.toNat * 6 = d.toNat * 6 + 0) (by kernel_rfl))) (.mu 2 (.done (.nh [1, 2, 3, 4, 5, 6, 12, 13, 14] [.own (ai.c c), .own [aB false, nS], .own (ak.c (gt c.Points b)), .own (ak.c (gt c.Points d))] (.seq ?_)))))))
   obtain ⟨t, p, hr⟩ := bd hr
   refine .g1 G (ok0 (jf n (A2.mk (gt c.Points b).A (gt c.Points b).B) (A2.mk (gt c.Points d).A (gt c.Points d).B) t p)) (.mu 10 (.ca cf0 (.mu 1 (.done (.nh [1, 2, 3, 4, 12, 13, 14, 35] [.own (ai.c c), .own [aB false, nS], .own (ak.c (gt c.Points b)), .own (ak.c (gt c.Points d))] ?_)))))
   refine .cd hr ?_ ?_ <;> intro w hr
   ·refine .ru G (.pop (.ru G ?_))
    exact az (b, Fc (b + 1)) hr ((Wk.gc [1, 2, 3, 12, 13, 14] [(0, true), (1, true)] rfl trivial).to)
   refine .skip (.pop (.ru G ?_))
   exact az (d, Fc (b + 1)) hr ((Wk.gc [1, 2, 3, 12, 13, 14] [(0, true), (1, true)] rfl trivial).to)
  refine .leave rfl ?_
  obtain rfl := oi hr
  exact ⟨rfl, ((Wk.gc [1, 2, 3] [(0, true), (1, true)] rfl trivial).to)⟩
 rintro x st' e
 clear f
 obtain ⟨rfl, e⟩ := e
 refine aQ _ rfl (.wk e (.seq ?_))
 obtain ⟨j, k, hr⟩ := gd2 hr
 obtain ⟨o, q, hr⟩ := bd hr
 refine .tn G (ca4 [.own (ai.c c), .own [aB false, nS], .own [slT ak.c ((c.Points.drop a.toNat).take ((c.Points.length : Int).toNat - a.toNat)), slT ak.c ((c.Points.drop (0 : Int).toNat).take (a.toNat - (0 : Int).toNat))]] (cK (args := [.hs 2 0 2 1]) (l := [2]) (SnL.cons (Sn.hs rfl (.inl rfl) (SnC.cons (Sn.pure rfl) (SnC.cons (Sn.pure rfl) SnC.nil)) (fun h => nomatch h)) SnL.nil) (fe n [((c.Points.drop a.toNat).take ((c.Points.length : Int).toNat - a.toNat)), ((c.Points.drop (0 : Int).toNat).take (a.toNat - (0 : Int).toNat))] o q))) (.mu 3 (.pk (v := slT ak.c ((c.Points.drop a.toNat).take ((c.Points.length : Int).toNat - a.toNat))) (tr (y := slO (inS a (c.Points.length : Int) c.Points.length) a.toNat (c.Points.length : Int).toNat (fun z1 s => .sl true (((c.Points.flatMap ak.c).drop (z1 * 6)).take ((s - z1) * 6)) (s - z1))) (xt j (tZ ak.len (qJ j)))) (.mu 3 (.pk (v := slT ak.c ((c.Points.drop (0 : Int).toNat).take (a.toNat - (0 : Int).toNat))) (tr (y := slO (inS 0 a c.Points.length) (0 : Int).toNat a.toNat (fun z1 s => .sl true (((c.Points.flatMap ak.c).drop (z1 * 6)).take ((s - z1) * 6)) (s - z1))) (xt k (tZ ak.len (qJ k)))) (.mu 1 (.ca cf0 (.mu 2 ?_)))))))
 refine .done ⟨by kernel_rfl, ?_⟩
 refine .nh [2] [.own (ai.c c), .own [aB true, slT ak.c o], .fix [slT ak.c ((c.Points.drop a.toNat).take ((c.Points.length : Int).toNat - a.toNat)), slT ak.c ((c.Points.drop (0 : Int).toNat).take (a.toNat - (0 : Int).toNat))]] (.ret ?_)
 obtain rfl := oi hr
 exact aG.r1 [.agg [aB true, slT ak.c o]]

theorem r6 (n : Nat) (a : ai) (b : ai) (r : Int) (hr : mT n a b = some r) : aL Tryz.prog 53 [.agg (ai.c a), .agg (ai.c b)] (ae r) := by
 unfold mT at hr
 refine aL.bd G Tryz.func53 [.tmp 4] ?_
 unfold Tryz.f53
 simp only [gS]
 refine .seq (.r2 G 10 [(2, .hp 0 0), (3, .hp 1 0)] [.own (ai.c a), .own (ai.c b)] (.seq ?_))
 obtain ⟨g, d, i, e, j, f, hr⟩ := bd3 hr
 refine .tn G (ca1 (ok0 (kg n a g d)) (ca1 (ok0 (kg n b i e)) (ca3 (ok0 (jf n g i j f))))) (.mu 1 (.ca cf0 (.mu 1 (.ca (cfA (fun h => by rw [sv e d (pv n h)]) cf0) (.ca (cfF (cfF cf0)) (.mu 1 ?_))))))
 refine .done ⟨by kernel_rfl, ?_⟩
 refine .ret ?_
 obtain rfl := oi hr
 exact aG.r1 [ae j]

theorem dM (n : Nat) (data : List ai) (a : Int) (b : Int) (r : List ai) (hr : bl n data a b = some r) : dm 1 Tryz.prog 132 [.hs 0 0 data.length 2, ae a, ae b, .fn 53 [] []] [.own (data.flatMap ai.c)] (.tup []) [.own (r.flatMap ai.c)] := by
 unfold bl at hr
 refine dm.kF G Tryz.func132 (c := (Tryz.f132.body).getD .skip) rfl (us := []) (s := mkS 53 0 [(0, .hs 0 0 data.length 2), (1, ae a), (2, ae b), (3, .fn 53 [] [])]) (by kernel_rfl) (rs := []) rfl ?_
 unfold Tryz.f132
 simp only [gS]
 refine .seq (.r4 G [0, 1, 2, 3] [(8, ae (Fc (a + 1)))] (.block ?_))
 replace hr := bd hr; obtain ⟨p, q, hr⟩ := hr
 refine .aH (σ := fun w => match w with | (i, f) => ⟨mkS 53 0 [(0, .hs 0 0 i.length 2), (1, ae a), (2, ae b), (3, .fn 53 [] []), (8, ae f)], [.own (i.flatMap ai.c)]⟩) (Q := fun x st' => x = .exit 0 /\ Wk 1 st' ⟨mkS 53 0 [], [.own (p.flatMap ai.c)]⟩) q ((Wk.gc [0, 1, 2, 3, 8] [(0, false)] rfl (pKo ai.c ai.pure data trivial)).to) ?_ ?_
 ·clear hr
  rintro m ⟨i, f⟩ hr
  show CQ _ _ _ _ _ ⟨_, _⟩
  refine .seq (.seq (.r4 G [0, 1, 2, 3, 8] [(14, aB (decide (f < b)))] ?_))
  refine .cd hr ?_ ?_ <;> intro A hr
  ·refine .skip (.seq (.block (.seq (.r4 G [0, 1, 2, 3, 8] [(9, ae f)] (.block ?_)))))
   replace hr := bd hr; obtain ⟨k, t, hr⟩ := hr
   refine .aH (σ := fun w => match w with | (e, d) => ⟨mkS 53 0 [(0, .hs 0 0 e.length 2), (1, ae a), (2, ae b), (3, .fn 53 [] []), (8, ae f), (9, ae d)], [.own (e.flatMap ai.c)]⟩) (Q := fun x st' => x = .exit 2 /\ Wk 1 st' ⟨mkS 53 0 [(0, .hs 0 0 k.length 2), (1, ae a), (2, ae b), (3, .fn 53 [] []), (8, ae f)], [.own (k.flatMap ai.c)]⟩) t ((Wk.gc [0, 1, 2, 3, 8, 9] [(0, false)] rfl (pKo ai.c ai.pure i trivial)).to) ?_ ?_
   ·clear hr
    rintro m ⟨e, d⟩ hr
    show CQ _ _ _ _ _ ⟨_, _⟩
    refine .seq (.seq ?_)
    rcases bT (decide (d > a)) with j | j
    ·replace hr := cy j hr
     obtain ⟨g, h, hr⟩ := gd2 hr
     obtain ⟨z, u, hr⟩ := bd hr
     refine .t1 G (ok0 (r6 n (gt e d) (gt e (Fc (d - 1))) z u)) (.mu 2 (.pk (v := aB true) (eB j) (.mu 4 (.pk (v := .hp 0 (0 + d.toNat * 2)) (tr (ar g)) (.pk (v := .agg (ai.c (gt e d))) (tr (y := bu.ofP (dR (decide (2 <= ((e.flatMap ai.c).drop (0 + d.toNat * 2)).length)) (.agg (((e.flatMap ai.c).drop (0 + d.toNat * 2)).take 2)))) (bO ai.len (aA g) (by decide) (by omega : 0 + d.toNat * 2 = d.toNat * 2 + 0) (by kernel_rfl))) (.mu 3 (.pk (v := .hp 0 (0 + (Fc (d - 1)).toNat * 2)) (tr (ar h)) (.pk (v := .agg (ai.c (gt e (Fc (d - 1))))) (tr (y := bu.ofP (dR (decide (2 <= ((e.flatMap ai.c).drop (0 + (Fc (d - 1)).toNat * 2)).length)) (.agg (((e.flatMap ai.c).drop (0 + (Fc (d - 1)).toNat * 2)).take 2)))) (bO ai.len (aA h) (by decide) (by omega : 0 + (Fc (d - 1)).toNat * 2 = (Fc (d - 1)).toNat * 2 + 0) (by kernel_rfl))) (.ca cf0 (.mu 2 ?_))))))))))
     refine .done ⟨by kernel_rfl, ?_⟩
     refine .nh [0, 1, 2, 3, 8, 9, 34] [.own (e.flatMap ai.c)] ?_
     refine .cd hr ?_ ?_ <;> intro B hr
     ·refine .skip (.seq (.block (.eu G bJ (.mu 8 (.pk (v := .hp 0 (0 + (Fc (d - 1)).toNat * 2)) (tr (ar h)) (.pk (v := .agg (ai.c (gt e (Fc (d - 1))))) (tr (y := bu.ofP (dR (decide (2 <= ((e.flatMap ai.c).drop (0 + (Fc (d - 1)).toNat * 2)).length)) (.agg (((e.flatMap ai.c).drop (0 + (Fc (d - 1)).toNat * 2)).take 2)))) (bO ai.len (aA h) (by decide) (by omega : 0 + (Fc (d - 1)).toNat * 2 = (Fc (d - 1)).toNat * 2 + 0) (by kernel_rfl))) (.mu 2 (.pk (v := .hp 0 (0 + d.toNat * 2)) (tr (ar g)) (.pk (v := .agg (ai.c (gt e d))) (tr (y := bu.ofP (dR (decide (2 <= ((e.flatMap ai.c).drop (0 + d.toNat * 2)).length)) (.agg (((e.flatMap ai.c).drop (0 + d.toNat * 2)).take 2)))) (bO ai.len (aA g) (by decide) (by omega : 0 + d.toNat * 2 = d.toNat * 2 + 0) (by kernel_rfl))) (.pk (v := .hp 0 (0 + d.toNat * 2)) (tr (ar g)) (.ek (v := .unk) (ws := [(0, .own ((e.set d.toNat (gt e (Fc (d - 1)))).flatMap ai.c))]) (tr (iF (iH (ct (n := 2) ai.len (aA g) (lbT rfl) (by omega : 0 + d.toNat * 2 = d.toNat * 2 + 0))) (congrArg Blk.own (cS (xs := (ai.c (gt e (Fc (d - 1))))) ai.len (aA g) (lbT rfl) (by omega : 0 + d.toNat * 2 = d.toNat * 2 + 0) (by kernel_rfl))))) (.pk (v := .hp 0 (0 + (Fc (d - 1)).toNat * 2)) (tr (ar h)) (.ek (v := .unk) (ws := [(0, .own (((e.set d.toNat (gt e (Fc (d - 1)))).set (Fc (d - 1)).toNat (gt e d)).flatMap ai.c))]) (tr (y := stO (decide ((0 + (Fc (d - 1)).toNat * 2) + 2 <= ((e.set d.toNat (gt e (Fc (d - 1)))).flatMap ai.c).length) && true) [(0, .own (setCells ((e.set d.toNat (gt e (Fc (d - 1)))).flatMap ai.c) (0 + (Fc (d - 1)).toNat * 2) (ai.c (gt e d))))]) (iF (iH (ct ai.len (aA (rr h)) (lbT rfl) (by omega : 0 + (Fc (d - 1)).toNat * 2 = (Fc (d - 1)).toNat * 2 + 0))) (congrArg Blk.own (cS ai.len (aA (rr h)) (lbT rfl) (by omega : 0 + (Fc (d - 1)).toNat * 2 = (Fc (d - 1)).toNat * 2 + 0) (by kernel_rfl))))) ?_)))))))))))))
      refine .done ⟨by kernel_rfl, ?_⟩
      refine .pop (.ru G ?_)
      exact az ((e.set d.toNat (gt e (Fc (d - 1)))).set (Fc (d - 1)).toNat (gt e d), Fc (d - 1)) hr ((Wk.iQ 0 (b := 0) (es := 2) (len := e.length) ((e.set d.toNat (gt e (Fc (d - 1)))).set (Fc (d - 1)).toNat (gt e d)).length (by kernel_rfl) (Eq.symm (List.length_set.trans (List.length_set.trans rfl)))).trans ((Wk.gc [0, 1, 2, 3, 8, 9] [(0, false)] rfl (pKo ai.c ai.pure ((e.set d.toNat (gt e (Fc (d - 1)))).set (Fc (d - 1)).toNat (gt e d)) trivial)).to))
     refine .leave rfl ?_
     obtain rfl := oi hr
     exact ⟨rfl, ((Wk.gc [0, 1, 2, 3, 8] [(0, false)] rfl (pKo ai.c ai.pure e trivial)).to)⟩
    replace hr := cz j hr
    refine .eu G bJ (.mu 2 (.pk (v := aB false) (eB j) (.mu 14 ?_)))
    refine .done ⟨by kernel_rfl, ?_⟩
    refine .nh [0, 1, 2, 3, 8, 9, 34] [.own (e.flatMap ai.c)] (.cF (by kernel_rfl) (.leave rfl ?_))
    obtain rfl := oi hr
    exact ⟨rfl, ((Wk.gc [0, 1, 2, 3, 8] [(0, false)] rfl (pKo ai.c ai.pure e trivial)).to)⟩
   rintro x st' l
   clear t
   obtain ⟨rfl, l⟩ := l
   refine aQ _ rfl (.pop (.wk l (.ru G ?_)))
   exact az (k, Fc (f + 1)) hr ((Wk.gc [0, 1, 2, 3, 8] [(0, false)] rfl (pKo ai.c ai.pure k trivial)).to)
  refine .leave rfl ?_
  obtain rfl := oi hr
  exact ⟨rfl, ((Wk.gc [] [(0, false)] rfl (pKo ai.c ai.pure i trivial)).to)⟩
 rintro x st' o
 clear q
 obtain ⟨rfl, o⟩ := o
 refine aQ _ rfl ?_
 obtain rfl := oi hr
 exact dk.wk o (dk.normal [] ((Wk.gc [] [(0, false)] rfl (pKo ai.c ai.pure p trivial)).to))

theorem eA (n : Nat) (data : List ai) (a : Int) (b : Int) (limit : Int) (r : List ai) (hr : bz n data a b limit = some r) : dm 1 Tryz.prog 97 [.hs 0 0 data.length 2, ae a, ae b, ae limit, .fn 53 [] []] [.own (data.flatMap ai.c)] (.tup []) [.own (r.flatMap ai.c)] := by
 unfold bz at hr
 refine dm.kF G Tryz.func97 (c := (Tryz.f97.body).getD .skip) rfl (us := []) (s := mkS 148 0 [(0, .hs 0 0 data.length 2), (1, ae a), (2, ae b), (3, ae limit), (4, .fn 53 [] [])]) (by kernel_rfl) (rs := []) rfl ?_
 unfold Tryz.f97
 simp only [gS]
 refine .seq (.r4 G [0, 1, 2, 3, 4] [(10, aB true)] (.seq (.r4 G [0, 1, 2, 3, 4, 10] [(11, aB true)] (.block ?_))))
 replace hr := bd hr; obtain ⟨r0, g, hr⟩ := hr
 refine .aH (σ := fun p => match p with | (d, e, h, i, j) => ⟨mkS 148 0 [(0, .hs 0 0 data.length 2), (1, ae d), (2, ae e), (3, ae h), (4, .fn 53 [] []), (10, aB i), (11, aB j)], [.own (data.flatMap ai.c)]⟩) (Q := fun x st' => x = .ret /\ dk 1 Tryz.prog [] [] [.own (r0.flatMap ai.c)] .ret st') g ((Wk.gc [0, 1, 2, 3, 4, 10, 11] [(0, false)] rfl (pKo ai.c ai.pure data trivial)).to) ?_ ?_
 ·clear hr
  rintro m ⟨d, e, h, i, j⟩ hr
  show CQ _ _ _ _ _ ⟨_, _⟩
  refine .block (.seq (.r4 G [0, 1, 2, 3, 4, 10, 11] [(12, ae (Fc (e - d)))] (.seq (.seq (.r4 G [0, 1, 2, 3, 4, 10, 11, 12] [(25, aB (decide ((Fc (e - d)) <= 12)))] ?_)))))
  obtain ⟨l, hr⟩ := gd hr
  refine .cY l (.seq ?_)
  obtain ⟨k, o, hr⟩ := bd hr
  refine .g1 G (bZ (args := [.hs 0 0 data.length 2, ae d, ae e, .fn 53 [] []]) 1 0 [(0, false)] [false] (dM n data d e k o) (by exact ⟨aW ai.pure _, trivial⟩) (by exact ⟨aW ai.pure _, trivial⟩) rfl rfl (by kernel_rfl) (by kernel_rfl)) (.mu 4 (.ca cf0 (.done (.nh [] [.own (k.flatMap ai.c)] (.ret ?_)))))
  obtain rfl := oi hr
  exact ⟨rfl, dk.ret [] ((Wk.gc [] [(0, false)] rfl (pKo ai.c ai.pure k trivial)).to)⟩
 rintro x st' f
 clear g
 obtain ⟨rfl, f⟩ := f
 obtain rfl := oi hr
 exact iT _ f

theorem dc (n : Nat) (a : List ai) (r : List ai) (hr : a8 n a = some r) : dm 1 Tryz.prog 52 [.hs 0 0 a.length 2, .fn 53 [] []] [.own (a.flatMap ai.c)] (.tup []) [.own (r.flatMap ai.c)] := by
 unfold a8 at hr
 refine dm.kF G Tryz.func52 (c := (Tryz.f52.body).getD .skip) rfl (us := []) (s := mkS 14 0 [(0, .hs 0 0 a.length 2), (1, .fn 53 [] [])]) (by kernel_rfl) (rs := []) rfl ?_
 unfold Tryz.f52
 simp only [gS]
 refine .seq (.r4 G [0, 1] [(4, ae (a.length : Int))] ?_)
 obtain ⟨b, d, f, e, hr⟩ := bd2 hr
 refine .gn G (ca1 (ok0 (ma n (wFu (a.length : Int)) b d)) (ca3 (bZ (args := [.hs 0 0 a.length 2, ae 0, ae (a.length : Int), ae b, .fn 53 [] []]) 1 0 [(0, false)] [false] (eA n a 0 (a.length : Int) b f e) (by exact ⟨aW ai.pure _, trivial⟩) (by exact ⟨aW ai.pure _, trivial⟩) rfl rfl (by kernel_rfl) (by kernel_rfl)))) (.mu 4 (.ca cf0 (.mu 1 (.ca (cfF cf0) (.done ?_)))))
 obtain rfl := oi hr
 exact dk.normal [] ((Wk.gc [] [(0, false)] rfl (pKo ai.c ai.pure f trivial)).to)

theorem sW (n : Nat) (p : ak) (q : ak) (r : Bool) (hr : nG n p q = some r) : aL Tryz.prog 100 [.agg (ak.c p), .agg (ak.c q)] (aB r) := by
 unfold nG at hr
 refine aL.bd G Tryz.func100 [.tmp 4] ?_
 unfold Tryz.f100
 simp only [gS]
 refine .seq (.r2 G 35 [(2, .hp 0 0), (3, .hp 1 0)] [.own (ak.c p), .own (ak.c q)] (.seq ?_))
 rcases bT ((p.A : Int) == q.A) with a | a
 ·replace hr := cy a hr
  rcases bT ((p.B : Int) == q.B) with b | b
  ·replace hr := cy b hr
   obtain ⟨k, d, hr⟩ := bd hr
   rcases bT k with f | f
   ·subst f
    replace hr := cy rfl hr
    obtain ⟨l, e, hr⟩ := bd hr
    rcases bT l with g | g
    ·subst g
     replace hr := cy rfl hr
     obtain ⟨j, i, hr⟩ := bd hr
     refine .gn G (ca1 (ok0 (eX n p.At true d)) (ca1 (ok0 (eX n q.At true e)) (ca3 (ok0 (m7 n p.At q.At j i))))) (.mu 4 (.p0 (v := aB true) (eB a) (.mu 5 (.pure (v := aB true) (by kernel_rfl) (eB b) (.mu 4 (.ca cf0 (.mu 4 (.ca (cfA (fun h => by rw [sv e d (od n h)]) cf0) (.mu 6 (.ca (cfF (cfF cf0)) (.mu 3 (.done (.ret ?_)))))))))))))
     obtain rfl := oi hr
     exact aG.r1 [aB ((j : Int) == 0)]
    subst g
    replace hr := cz rfl hr
    refine .gn G (ca1 (ok0 (eX n p.At true d)) (ca3 (ok0 (eX n q.At false e)))) (.mu 4 (.p0 (v := aB true) (eB a) (.mu 5 (.pure (v := aB true) (by kernel_rfl) (eB b) (.mu 4 (.ca cf0 (.mu 4 (.ca (cfA (fun h => by rw [sv e d (od n h)]) cf0) (.mu 10 (.done (.ret ?_)))))))))))
    obtain rfl := oi hr
    exact aG.r1 [aB false]
   subst f
   replace hr := cz rfl hr
   refine .g1 G (ok0 (eX n p.At false d)) (.mu 4 (.p0 (v := aB true) (eB a) (.mu 5 (.pure (v := aB true) (by kernel_rfl) (eB b) (.mu 4 (.ca cf0 (.mu 15 (.done (.ret ?_)))))))))
   obtain rfl := oi hr
   exact aG.r1 [aB false]
  replace hr := cz b hr
  refine .r0 G (.mu 4 (.p0 (v := aB true) (eB a) (.mu 5 (.pure (v := aB false) (by kernel_rfl) (eB b) (.mu 20 (.done (.ret ?_)))))))
  obtain rfl := oi hr
  exact aG.r1 [aB false]
 replace hr := cz a hr
 refine .r0 G (.mu 4 (.p0 (v := aB false) (eB a) (.mu 26 (.done (.ret ?_)))))
 obtain rfl := oi hr
 exact aG.r1 [aB false]

theorem bx (n : Nat) (d : List ak) (e : List ak) (r : Bool) (hr : aM n d e = some r) : aL Tryz.prog 99 [slT ak.c d, slT ak.c e, .fn 100 [] []] (aB r) := by
 unfold aM at hr
 refine aL.bd G Tryz.func99 [.tmp 6] ?_
 unfold Tryz.f99
 simp only [gS]
 refine .seq (.r4 G [0, 1, 2] [] (.seq (.seq (.r4 G [0, 1, 2] [(14, aB (((d.length : Int) : Int) != (e.length : Int)))] ?_))))
 refine .cd hr ?_ ?_ <;> intro p hr
 ·refine .seq (.ru G (.ret ?_))
  obtain rfl := oi hr
  exact aG.r1 [aB false]
 refine .skip (.seq (.seq (.r4 G [1, 2] [(15, slT ak.c d), (16, ae (d.length : Int)), (17, ae 0)] (.block ?_))))
 replace hr := bd hr; obtain ⟨i, f, hr⟩ := hr
 refine .aH (σ := fun q => match q with | a => ⟨mkS 32 0 [(1, slT ak.c e), (2, .fn 100 [] []), (15, slT ak.c d), (16, ae (d.length : Int)), (17, ae a)], []⟩) (Q := fun x st' => match (generalizing := false) i with | .inl _ => x = .exit 0 /\ Wk 0 st' ⟨mkS 32 0 [], []⟩ | .inr (r0) => x = .ret /\ aG Tryz.prog [.tmp 6] (aB r0) .ret st') f ((Wk.gc [1, 2, 15, 16, 17] [] rfl pK0).to) ?_ ?_
 ·clear hr
  rintro m a hr
  show CQ _ _ _ _ _ ⟨_, _⟩
  refine .seq (.r4 G [1, 2, 15, 16, 17] [(18, aB (decide (a < (d.length : Int))))] (.seq ?_))
  refine .cd hr ?_ ?_ <;> intro l hr
  ·refine .skip (.seq (.block (.seq ?_)))
   obtain ⟨g, hr⟩ := gd hr
   refine .r0 G (.mu 1 (.p0 (v := .pp (d.flatMap ak.c) (a.toNat * 6)) (tr (ar g)) (.p0 (v := .agg (ak.c (gt d a))) (tr (y := bu.ofP (dR (decide (6 <= ((d.flatMap ak.c).drop (a.toNat * 6)).length)) (.agg (((d.flatMap ak.c).drop (a.toNat * 6)).take 6)))) (bO ak.len (aA g) (by decide) (by omega : a.toNat * 6 = a.toNat * 6 + 0) (by kernel_rfl))) (.mu 3 (.done (.nh [1, 2, 7, 8, 15, 16, 17] [.own (ak.c (gt d a))] (.seq ?_)))))))
   obtain ⟨h, hr⟩ := gd hr
   refine .r0 G (.mu 2 (.p0 (v := .pp (e.flatMap ak.c) (a.toNat * 6)) (tr (ar h)) (.p0 (v := .agg (ak.c (gt e a))) (tr (y := bu.ofP (dR (decide (6 <= ((e.flatMap ak.c).drop (a.toNat * 6)).length)) (.agg (((e.flatMap ak.c).drop (a.toNat * 6)).take 6)))) (bO ak.len (aA h) (by decide) (by omega : a.toNat * 6 = a.toNat * 6 + 0) (by kernel_rfl))) (.mu 2 (.done (.nh [1, 2, 8, 9, 15, 16, 17] [.own (ak.c (gt d a)), .own (ak.c (gt e a))] (.seq ?_)))))))
   obtain ⟨k, j, hr⟩ := bd hr
   refine .g1 G (ok0 (sW n (gt d a) (gt e a) k j)) (.mu 3 (.ca cf0 (.mu 1 (.done (.nh [1, 2, 15, 16, 17, 30] [.own (ak.c (gt d a)), .own (ak.c (gt e a))] ?_)))))
   refine .cd hr ?_ ?_ <;> intro o hr
   ·refine .seq (.ru G (.ret ?_))
    obtain rfl := oi hr
    exact ⟨rfl, aG.ret (vs := [aB false]) (by kernel_rfl) (Sn.pure rfl)⟩
   refine .skip (.pop (.ru G ?_))
   exact az (Fc (a + 1)) hr ((Wk.gc [1, 2, 15, 16, 17] [] rfl pK0).to)
  refine .leave rfl ?_
  obtain rfl := oi hr
  exact ⟨rfl, ((Wk.gc [] [] rfl pK0).to)⟩
 rcases i with ⟨⟩ | r0
 ·rintro x st' b
  clear f
  obtain ⟨rfl, b⟩ := b
  refine aQ _ rfl (.wk b (.seq (.ru G (.ret ?_))))
  obtain rfl := oi hr
  exact aG.r1 [aB true]
 rintro x st' b
 clear f
 obtain ⟨rfl, b⟩ := b
 obtain rfl := oi hr
 exact iT _ b

theorem u7 (n : Nat) (a : ai) (b : ai) (r : Bool) (hr : pO n a b = some r) : aL Tryz.prog 56 [.agg (ai.c a), .agg (ai.c b)] (aB r) := by
 unfold pO at hr
 refine aL.bd G Tryz.func56 [.tmp 4] ?_
 unfold Tryz.f56
 simp only [gS]
 refine .seq (.r2 G 17 [(2, .hp 0 0), (3, .hp 1 0)] [.own (ai.c a), .own (ai.c b)] (.seq ?_))
 rcases bT (a.Closed == b.Closed) with d | d
 ·replace hr := cy d hr
  obtain ⟨f, e, hr⟩ := bd hr
  refine .g1 G (ok0 (bx n a.Points b.Points f e)) (.mu 4 (.p0 (v := aB true) (eB d) (.mu 5 (.ca cf0 (.mu 2 (.done (.ret ?_)))))))
  obtain rfl := oi hr
  exact aG.r1 [aB f]
 replace hr := cz d hr
 refine .r0 G (.mu 4 (.p0 (v := aB false) (eB d) (.mu 8 (.done (.ret ?_)))))
 obtain rfl := oi hr
 exact aG.r1 [aB false]

theorem bI (n : Nat) (d : List ai) (e : List ai) (r : Bool) (hr : aN n d e = some r) : aL Tryz.prog 16 [slT ai.c d, slT ai.c e, .fn 56 [] []] (aB r) := by
 unfold aN at hr
 refine aL.bd G Tryz.func16 [.tmp 6] ?_
 unfold Tryz.f16
 simp only [gS]
 refine .seq (.r4 G [0, 1, 2] [] (.seq (.seq (.r4 G [0, 1, 2] [(14, aB (((d.length : Int) : Int) != (e.length : Int)))] ?_))))
 refine .cd hr ?_ ?_ <;> intro p hr
 ·refine .seq (.ru G (.ret ?_))
  obtain rfl := oi hr
  exact aG.r1 [aB false]
 refine .skip (.seq (.seq (.r4 G [1, 2] [(15, slT ai.c d), (16, ae (d.length : Int)), (17, ae 0)] (.block ?_))))
 replace hr := bd hr; obtain ⟨i, f, hr⟩ := hr
 refine .aH (σ := fun q => match q with | a => ⟨mkS 32 0 [(1, slT ai.c e), (2, .fn 56 [] []), (15, slT ai.c d), (16, ae (d.length : Int)), (17, ae a)], []⟩) (Q := fun x st' => match (generalizing := false) i with | .inl _ => x = .exit 0 /\ Wk 0 st' ⟨mkS 32 0 [], []⟩ | .inr (r0) => x = .ret /\ aG Tryz.prog [.tmp 6] (aB r0) .ret st') f ((Wk.gc [1, 2, 15, 16, 17] [] rfl pK0).to) ?_ ?_
 ·clear hr
  rintro m a hr
  show CQ _ _ _ _ _ ⟨_, _⟩
  refine .seq (.r4 G [1, 2, 15, 16, 17] [(18, aB (decide (a < (d.length : Int))))] (.seq ?_))
  refine .cd hr ?_ ?_ <;> intro l hr
  ·refine .skip (.seq (.block (.seq ?_)))
   obtain ⟨g, hr⟩ := gd hr
   refine .r0 G (.mu 1 (.p0 (v := .pp (d.flatMap ai.c) (a.toNat * 2)) (tr (ar g)) (.p0 (v := .agg (ai.c (gt d a))) (tr (y := bu.ofP (dR (decide (2 <= ((d.flatMap ai.c).drop (a.toNat * 2)).length)) (.agg (((d.flatMap ai.c).drop (a.toNat * 2)).take 2)))) (bO ai.len (aA g) (by decide) (by omega : a.toNat * 2 = a.toNat * 2 + 0) (by kernel_rfl))) (.mu 3 (.done (.nh [1, 2, 7, 8, 15, 16, 17] [.own (ai.c (gt d a))] (.seq ?_)))))))
   obtain ⟨h, hr⟩ := gd hr
   refine .r0 G (.mu 2 (.p0 (v := .pp (e.flatMap ai.c) (a.toNat * 2)) (tr (ar h)) (.p0 (v := .agg (ai.c (gt e a))) (tr (y := bu.ofP (dR (decide (2 <= ((e.flatMap ai.c).drop (a.toNat * 2)).length)) (.agg (((e.flatMap ai.c).drop (a.toNat * 2)).take 2)))) (bO ai.len (aA h) (by decide) (by omega : a.toNat * 2 = a.toNat * 2 + 0) (by kernel_rfl))) (.mu 2 (.done (.nh [1, 2, 8, 9, 15, 16, 17] [.own (ai.c (gt d a)), .own (ai.c (gt e a))] (.seq ?_)))))))
   obtain ⟨k, j, hr⟩ := bd hr
   refine .g1 G (ok0 (u7 n (gt d a) (gt e a) k j)) (.mu 3 (.ca cf0 (.mu 1 (.done (.nh [1, 2, 15, 16, 17, 30] [.own (ai.c (gt d a)), .own (ai.c (gt e a))] ?_)))))
   refine .cd hr ?_ ?_ <;> intro o hr
   ·refine .seq (.ru G (.ret ?_))
    obtain rfl := oi hr
    exact ⟨rfl, aG.ret (vs := [aB false]) (by kernel_rfl) (Sn.pure rfl)⟩
   refine .skip (.pop (.ru G ?_))
   exact az (Fc (a + 1)) hr ((Wk.gc [1, 2, 15, 16, 17] [] rfl pK0).to)
  refine .leave rfl ?_
  obtain rfl := oi hr
  exact ⟨rfl, ((Wk.gc [] [] rfl pK0).to)⟩
 rcases i with ⟨⟩ | r0
 ·rintro x st' b
  clear f
  obtain ⟨rfl, b⟩ := b
  refine aQ _ rfl (.wk b (.seq (.ru G (.ret ?_))))
  obtain rfl := oi hr
  exact aG.r1 [aB true]
 rintro x st' b
 clear f
 obtain ⟨rfl, b⟩ := b
 obtain rfl := oi hr
 exact iT _ b

theorem tS (n : Nat) (g : al) (level : Int) (l : List ai) (r : Int) (hr : ku n g level l = some r) : aL Tryz.prog 20 [.agg (al.c g), ae level, slT ai.c l] (ae r) := by
 unfold ku at hr
 refine aL.bd G Tryz.func20 [.tmp 6] ?_
 unfold Tryz.f20
 simp only [gS]
 refine .seq (.r5 G [1, 2] [(3, .hp 0 0)] [.own (al.c g)] (.seq (.seq ?_)))
 obtain ⟨B, C, hr⟩ := bd hr
 refine .g1 G (ok0 (gN n g level B C)) (.mu 2 (.ca cf0 (.mu 1 (.done (.nh [1, 2, 3, 7] [.own (al.c g)] (.seq (.r4 G [1, 2, 3, 7] [(15, aB ((B : Int) != 0))] ?_)))))))
 refine .cd hr ?_ ?_ <;> intro I hr
 ·refine .seq (.ru G (.ret ?_))
  obtain rfl := oi hr
  exact aG.r1 [ae B]
 refine .skip (.seq (.r4 G [1, 2, 3] [(8, nS)] (.seq (.seq (.r4 G [1, 3, 8] [(17, slT ai.c l), (18, ae (l.length : Int)), (19, ae 0)] (.block ?_))))))
 replace hr := bd hr; obtain ⟨p, i, hr⟩ := hr
 refine .aH (σ := fun J => match J with | (d, a) => ⟨mkS 41 0 [(1, ae level), (3, .hp 0 0), (8, .hs 1 0 d.length 2), (17, slT ai.c l), (18, ae (l.length : Int)), (19, ae a)], [.own (al.c g), .own (d.flatMap ai.c)]⟩) (Q := fun x st' => match (generalizing := false) p with | .inl e => x = .exit 0 /\ Wk 0 st' ⟨mkS 41 0 [(1, ae level), (3, .hp 0 0), (8, .hs 1 0 e.length 2)], [.own (al.c g), .own (e.flatMap ai.c)]⟩ | .inr (r0) => x = .ret /\ aG Tryz.prog [.tmp 6] (ae r0) .ret st') i ((Wk.nil 8 2 (by kernel_rfl)).trans ((Wk.gc [1, 3, 8, 17, 18, 19] [(0, true), (1, false)] rfl (pKt (pKc trivial))).to)) ?_ ?_
 ·clear hr
  rintro m ⟨d, a⟩ hr
  show CQ _ _ _ _ _ ⟨_, _⟩
  refine .seq (.r4 G [1, 3, 8, 17, 18, 19] [(20, aB (decide (a < (l.length : Int))))] (.seq ?_))
  refine .cd hr ?_ ?_ <;> intro E hr
  ·refine .skip (.seq (.block (.seq ?_)))
   obtain ⟨k, hr⟩ := gd hr
   refine .r0 G (.p0 (v := .pp (l.flatMap ai.c) (a.toNat * 2)) (tr (ar k)) (.p0 (v := .agg (ai.c (gt l a))) (tr (y := bu.ofP (dR (decide (2 <= ((l.flatMap ai.c).drop (a.toNat * 2)).length)) (.agg (((l.flatMap ai.c).drop (a.toNat * 2)).take 2)))) (bO ai.len (aA k) (by decide) (by omega : a.toNat * 2 = a.toNat * 2 + 0) (by kernel_rfl))) (.mu 2 (.done (.nh [1, 3, 8, 10, 17, 18, 19] [.own (al.c g), .own (d.flatMap ai.c), .own (ai.c (gt l a))] (.seq (.seq (.r4 G [1, 3, 8, 10, 17, 18, 19] [(26, aB ((((gt l a).Points.length : Int) : Int) == 0))] ?_))))))))
   refine .cd hr ?_ ?_ <;> intro F hr
   ·refine .seq (.ru G (.ret ?_))
    obtain rfl := oi hr
    exact ⟨rfl, aG.ret (vs := [ae 12]) (by kernel_rfl) (Sn.pure rfl)⟩
   refine .skip ?_
   obtain ⟨f, q, hr⟩ := bd hr
   obtain ⟨s, t, hr⟩ := gd2 hr
   refine .g1 G (ok0 (tt n (gt l a) f q)) (.mu 2 (.ca cf0 (.mu 1 (.e0 (v := .hs 4 0 (d ++ [f]).length 2) (ws := [(1, .dead), (4, .own ((d ++ [f]).flatMap ai.c))]) (tr (eM (new := (ai.c f)) (l := d) (xs := [f]) ai.len rfl rfl (by kernel_rfl) s t)) (.mu 1 (.done (.pop (.ru G ?_))))))))
   exact az (d ++ [f], Fc (a + 1)) hr ((Wk.gc [1, 3, 8, 17, 18, 19] [(0, true), (4, false)] rfl (pKt (pKo ai.c ai.pure (d ++ [f]) trivial))).to)
  refine .leave rfl ?_
  obtain rfl := oi hr
  exact ⟨rfl, ((Wk.gc [1, 3, 8] [(0, true), (1, false)] rfl (pKt (pKo ai.c ai.pure d trivial))).to)⟩
 rcases p with e | r0
 ·rintro x st' b
  clear i
  obtain ⟨rfl, b⟩ := b
  refine aQ _ rfl (.wk b (.seq ?_))
  obtain ⟨j, u, hr⟩ := bd hr
  obtain ⟨w, hr⟩ := gd hr
  refine .g1 G (bZ (args := [.hs 1 0 e.length 2, .fn 53 [] []]) 1 0 [(1, false)] [false] (dc n e j u) (by exact ⟨aW ai.pure _, trivial⟩) (by exact ⟨aW ai.pure _, trivial⟩) rfl rfl (by kernel_rfl) (by kernel_rfl)) (.mu 1 (.ca cf0 (.done (.nh [1, 3, 8] [.own (al.c g), .own (j.flatMap ai.c)] (.seq (.seq ?_))))))
  obtain ⟨o, z, D, A, hr⟩ := bd2 hr
  refine .gn G (ca1 (ok0 (oS n g level o z)) (ca3 (gx (args := [.hs 1 0 e.length 2, slT ai.c o, .fn 56 [] []]) (l := [1]) rfl (SnL.cons (Sn.hse (dcT w) rfl (.inl rfl) (SnC.pure (aW ai.pure _)) (fun h => cG h)) (Sp (Sp SnL.nil))) (bI n j o D A)))) (.mu 3 (.ca cf0 (.ca (cfF cf0) (.mu 1 (.done (.nh [40] [.own (al.c g), .own (j.flatMap ai.c)] ?_))))))
  refine .cd hr ?_ ?_ <;> intro H hr
  ·refine .seq (.ru G (.ret ?_))
   obtain rfl := oi hr
   exact aG.r1 [ae 12]
  refine .skip (.seq (.ru G (.ret ?_)))
  obtain rfl := oi hr
  exact aG.r1 [ae 0]
 rintro x st' b
 clear i
 obtain ⟨rfl, b⟩ := b
 obtain rfl := oi hr
 exact iT _ b

theorem pJ (n : Nat) (r : Bool) (hr : fW n = some r) : aL Tryz.prog 12 [] (aB r) := by
 unfold fW at hr
 refine aL.bd G Tryz.func12 [.tmp 0] ?_
 unfold Tryz.f12
 simp only [gS]
 refine .seq (.r3 G 93 [] (.seq ?_))
 obtain ⟨N, J, a, L, hr⟩ := bd2 hr
 refine .gn G (ca1 (ok0 (fB n N J)) (ca3 (ok0 (uh n N 1 a L)))) (.ca cf0 (.ca (cfF cf0) (.mu 5 (.done (.n2 93 [(1, slT ai.c a.1), (2, ae a.2)] [] (.seq (.seq ?_)))))))
 rcases bT ((a.2 : Int) != 0) with i | i
 ·replace hr := cy i hr
  refine .r0 G (.mu 1 (.p0 (v := aB true) (eB i) (.mu 40 (.done (.n2 93 [(1, slT ai.c a.1), (54, aB true)] [] (.cT (by kernel_rfl) (.seq (.ru G (.ret ?_)))))))))
  obtain rfl := oi hr
  exact aG.r1 [aB false]
 replace hr := cz i hr
 rcases bT (((a.1.length : Int) : Int) != 1) with j | j
 ·replace hr := cy j hr
  refine .r0 G (.mu 1 (.p0 (v := aB false) (eB i) (.mu 3 (.pure (v := aB true) (by kernel_rfl) (eB j) (.mu 36 (.done (.n2 93 [(1, slT ai.c a.1), (54, aB true)] [] (.cT (by kernel_rfl) (.seq (.ru G (.ret ?_)))))))))))
  obtain rfl := oi hr
  exact aG.r1 [aB false]
 replace hr := cz j hr
 obtain ⟨b, hr⟩ := gd hr
 rcases bT (!(gt a.1 0).Closed) with l | l
 ·replace hr := cy l hr
  refine .r0 G (.mu 1 (.p0 (v := aB false) (eB i) (.mu 3 (.pure (v := aB false) (by kernel_rfl) (eB j) (.mu 3 (.pure (v := .pp (a.1.flatMap ai.c) ((0 : Int).toNat * 2)) (by kernel_rfl) (tr (ar b)) (.mu 1 (.pure (v := aB (gt a.1 0).Closed) (by kernel_rfl) (tr (aD (aE ai.len (aA b) (by decide : 0 < 2) (by omega : (0 : Int).toNat * 2 + 0 = (0 : Int).toNat * 2 + 0) (by kernel_rfl)))) (.pure (v := aB true) (by kernel_rfl) (eB l) (.mu 29 (.done (.n2 93 [(1, slT ai.c a.1), (54, aB true)] [] (.cT (by kernel_rfl) (.seq (.ru G (.ret ?_))))))))))))))))
  obtain rfl := oi hr
  exact aG.r1 [aB false]
 replace hr := cz l hr
 rcases bT ((((gt a.1 0).Points.length : Int) : Int) != 6) with o | o
 ·replace hr := cy o hr
  refine .r0 G (.mu 1 (.p0 (v := aB false) (eB i) (.mu 3 (.pure (v := aB false) (by kernel_rfl) (eB j) (.mu 3 (.pure (v := .pp (a.1.flatMap ai.c) ((0 : Int).toNat * 2)) (by kernel_rfl) (tr (ar b)) (.mu 1 (.pure (v := aB (gt a.1 0).Closed) (by kernel_rfl) (tr (aD (aE ai.len (aA b) (by decide : 0 < 2) (by omega : (0 : Int).toNat * 2 + 0 = (0 : Int).toNat * 2 + 0) (by kernel_rfl)))) (.pure (v := aB false) (by kernel_rfl) (eB l) (.mu 3 (.pure (v := .pp (a.1.flatMap ai.c) ((0 : Int).toNat * 2)) (by kernel_rfl) (tr (ar b)) (.mu 1 (.pure (v := slT ak.c (gt a.1 0).Points) (by kernel_rfl) (tr (aD (aE ai.len (aA b) (by decide : 1 < 2) (by omega : (0 : Int).toNat * 2 + 1 = (0 : Int).toNat * 2 + 1) (by kernel_rfl)))) (.mu 1 (.pure (v := aB true) (by kernel_rfl) (eB o) (.mu 21 (.done (.n2 93 [(1, slT ai.c a.1), (54, aB true)] [] (.cT (by kernel_rfl) (.seq (.ru G (.ret ?_))))))))))))))))))))))
  obtain rfl := oi hr
  exact aG.r1 [aB false]
 replace hr := cz o hr
 obtain ⟨g, hr⟩ := gd hr
 rcases bT (((gt (gt a.1 0).Points 1).A : Int) != 1) with k | k
 ·replace hr := cy k hr
  refine .r0 G (.mu 1 (.p0 (v := aB false) (eB i) (.mu 3 (.pure (v := aB false) (by kernel_rfl) (eB j) (.mu 3 (.pure (v := .pp (a.1.flatMap ai.c) ((0 : Int).toNat * 2)) (by kernel_rfl) (tr (ar b)) (.mu 1 (.pure (v := aB (gt a.1 0).Closed) (by kernel_rfl) (tr (aD (aE ai.len (aA b) (by decide : 0 < 2) (by omega : (0 : Int).toNat * 2 + 0 = (0 : Int).toNat * 2 + 0) (by kernel_rfl)))) (.pure (v := aB false) (by kernel_rfl) (eB l) (.mu 3 (.pure (v := .pp (a.1.flatMap ai.c) ((0 : Int).toNat * 2)) (by kernel_rfl) (tr (ar b)) (.mu 1 (.pure (v := slT ak.c (gt a.1 0).Points) (by kernel_rfl) (tr (aD (aE ai.len (aA b) (by decide : 1 < 2) (by omega : (0 : Int).toNat * 2 + 1 = (0 : Int).toNat * 2 + 1) (by kernel_rfl)))) (.mu 1 (.pure (v := aB false) (by kernel_rfl) (eB o) (.mu 3 (.pure (v := .pp (a.1.flatMap ai.c) ((0 : Int).toNat * 2)) (by kernel_rfl) (tr (ar b)) (.mu 1 (.pure (v := slT ak.c (gt a.1 0).Points) (by kernel_rfl) (tr (aD (aE ai.len (aA b) (by decide : 1 < 2) (by omega : (0 : Int).toNat * 2 + 1 = (0 : Int).toNat * 2 + 1) (by kernel_rfl)))) (.pure (v := .pp ((gt a.1 0).Points.flatMap ak.c) ((1 : Int).toNat * 6)) (by kernel_rfl) (tr (ar g)) (.mu 1 (.pure (v := ae (gt (gt a.1 0).Points 1).A) (by kernel_rfl) (tr (aD (aE ak.len (aA g) (by decide : 0 < 6) (by omega : (1 : Int).toNat * 6 + 0 = (1 : Int).toNat * 6 + 0) (by kernel_rfl)))) (.pure (v := aB true) (by kernel_rfl) (eB k) (.mu 11 (.done (.n2 93 [(1, slT ai.c a.1), (54, aB true)] [] (.cT (by kernel_rfl) (.seq (.ru G (.ret ?_))))))))))))))))))))))))))))))
  obtain rfl := oi hr
  exact aG.r1 [aB false]
 replace hr := cz k hr
 refine .r0 G (.mu 1 (.p0 (v := aB false) (eB i) (.mu 3 (.pure (v := aB false) (by kernel_rfl) (eB j) (.mu 3 (.pure (v := .pp (a.1.flatMap ai.c) ((0 : Int).toNat * 2)) (by kernel_rfl) (tr (ar b)) (.mu 1 (.pure (v := aB (gt a.1 0).Closed) (by kernel_rfl) (tr (aD (aE ai.len (aA b) (by decide : 0 < 2) (by omega : (0 : Int).toNat * 2 + 0 = (0 : Int).toNat * 2 + 0) (by kernel_rfl)))) (.pure (v := aB false) (by kernel_rfl) (eB l) (.mu 3 (.pure (v := .pp (a.1.flatMap ai.c) ((0 : Int).toNat * 2)) (by kernel_rfl) (tr (ar b)) (.mu 1 (.pure (v := slT ak.c (gt a.1 0).Points) (by kernel_rfl) (tr (aD (aE ai.len (aA b) (by decide : 1 < 2) (by omega : (0 : Int).toNat * 2 + 1 = (0 : Int).toNat * 2 + 1) (by kernel_rfl)))) (.mu 1 (.pure (v := aB false) (by kernel_rfl) (eB o) (.mu 3 (.pure (v := .pp (a.1.flatMap ai.c) ((0 : Int).toNat * 2)) (by kernel_rfl) (tr (ar b)) (.mu 1 (.pure (v := slT ak.c (gt a.1 0).Points) (by kernel_rfl) (tr (aD (aE ai.len (aA b) (by decide : 1 < 2) (by omega : (0 : Int).toNat * 2 + 1 = (0 : Int).toNat * 2 + 1) (by kernel_rfl)))) (.pure (v := .pp ((gt a.1 0).Points.flatMap ak.c) ((1 : Int).toNat * 6)) (by kernel_rfl) (tr (ar g)) (.mu 1 (.pure (v := ae (gt (gt a.1 0).Points 1).A) (by kernel_rfl) (tr (aD (aE ak.len (aA g) (by decide : 0 < 6) (by omega : (1 : Int).toNat * 6 + 0 = (1 : Int).toNat * 6 + 0) (by kernel_rfl)))) (.pure (v := aB false) (by kernel_rfl) (eB k) (.mu 3 (.pure (v := .pp (a.1.flatMap ai.c) ((0 : Int).toNat * 2)) (by kernel_rfl) (tr (ar b)) (.mu 1 (.pure (v := slT ak.c (gt a.1 0).Points) (by kernel_rfl) (tr (aD (aE ai.len (aA b) (by decide : 1 < 2) (by omega : (0 : Int).toNat * 2 + 1 = (0 : Int).toNat * 2 + 1) (by kernel_rfl)))) (.pure (v := .pp ((gt a.1 0).Points.flatMap ak.c) ((1 : Int).toNat * 6)) (by kernel_rfl) (tr (ar g)) (.mu 1 (.pure (v := ae (gt (gt a.1 0).Points 1).B) (by kernel_rfl) (tr (aD (aE ak.len (aA g) (by decide : 1 < 6) (by omega : (1 : Int).toNat * 6 + 1 = (1 : Int).toNat * 6 + 1) (by kernel_rfl)))) (.mu 2 (.done (.n2 93 [(1, slT ai.c a.1), (54, aB (((gt (gt a.1 0).Points 1).B : Int) != 4))] [] ?_)))))))))))))))))))))))))))))))))
 refine .cd hr ?_ ?_ <;> intro O hr
 ·refine .seq (.ru G (.ret ?_))
  obtain rfl := oi hr
  exact aG.r1 [aB false]
 refine .skip (.seq ?_)
 obtain ⟨t, u, f, w, hr⟩ := bd2 hr
 refine .gn G (ca1 (ok0 (fB n t u)) (ca3 (ok0 (oP n t 1 f w)))) (.ca cf0 (.ca (cfF cf0) (.mu 6 (.done (.n2 93 [(1, slT ai.c a.1), (2, ae f.2), (3, .hp 0 0)] [.own (ag.c f.1)] (.seq ?_))))))
 obtain ⟨x, z, m, C, hr⟩ := bd2 hr
 refine .tn G (ca1 (ok0 (fB n x z)) (ca3 (ok0 (ui n x (gt a.1 0) 1 1 m C)))) (.ca cf0 (.mu 1 (.pk (v := .pp (a.1.flatMap ai.c) ((0 : Int).toNat * 2)) (tr (ar b)) (.pk (v := .agg (ai.c (gt a.1 0))) (tr (y := bu.ofP (dR (decide (2 <= ((a.1.flatMap ai.c).drop ((0 : Int).toNat * 2)).length)) (.agg (((a.1.flatMap ai.c).drop ((0 : Int).toNat * 2)).take 2)))) (bO ai.len (aA b) (by decide) (by omega : (0 : Int).toNat * 2 = (0 : Int).toNat * 2 + 0) (by kernel_rfl))) (.ca (cfF cf0) (.mu 5 ?_))))))
 refine .done ⟨by kernel_rfl, ?_⟩
 refine .n2 93 [(1, slT ai.c a.1), (2, ae f.2), (3, .hp 0 0), (4, ae m.1), (5, ae m.2)] [.own (ag.c f.1)] (.seq ?_)
 obtain ⟨q, D, hr⟩ := bd hr
 refine .g1 G (ok0 (cE n 147 16 q D)) (.ca cf0 (.mu 6 (.done (.n2 93 [(1, slT ai.c a.1), (2, ae f.2), (3, .hp 0 0), (4, ae m.1), (5, ae m.2), (6, .hp 1 0)] [.own (ag.c f.1), .own (ag.c q.1)] (.seq ?_)))))
 rcases bT ((f.2 : Int) == 0) with d | d
 ·replace hr := cy d hr
  rcases bT ((m.2 : Int) == 0) with e | e
  ·replace hr := cy e hr
   rcases bT ((m.1 : Int) == 1) with h | h
   ·replace hr := cy h hr
    obtain ⟨M, s, hr⟩ := bd hr
    rcases bT M with p | p
    ·subst p
     replace hr := cy rfl hr
     obtain ⟨E, F, H, I, hr⟩ := bd2 hr
     refine .gn G (ca1 (ok0 (ff n f.1 q.1 true s)) (ca1 (ok0 (fB n E F)) (ca3 (ok0 (tS n E 1 a.1 H I))))) (.mu 1 (.p0 (v := aB true) (eB d) (.mu 2 (.pure (v := aB true) (by kernel_rfl) (eB e) (.mu 3 (.pure (v := aB true) (by kernel_rfl) (eB h) (.mu 4 (.ca cf0 (.mu 2 (.ca (cfF cf0) (.mu 1 (.ca (cfF (cfF cf0)) (.mu 3 (.done (.ret ?_)))))))))))))))
     obtain rfl := oi hr
     exact aG.r1 [aB ((H : Int) == 0)]
    subst p
    replace hr := cz rfl hr
    refine .g1 G (ok0 (ff n f.1 q.1 false s)) (.mu 1 (.p0 (v := aB true) (eB d) (.mu 2 (.pure (v := aB true) (by kernel_rfl) (eB e) (.mu 3 (.pure (v := aB true) (by kernel_rfl) (eB h) (.mu 4 (.ca cf0 (.mu 8 (.done (.ret ?_)))))))))))
    obtain rfl := oi hr
    exact aG.r1 [aB false]
   replace hr := cz h hr
   refine .r0 G (.mu 1 (.p0 (v := aB true) (eB d) (.mu 2 (.pure (v := aB true) (by kernel_rfl) (eB e) (.mu 3 (.pure (v := aB false) (by kernel_rfl) (eB h) (.mu 13 (.done (.ret ?_)))))))))
   obtain rfl := oi hr
   exact aG.r1 [aB false]
  replace hr := cz e hr
  refine .r0 G (.mu 1 (.p0 (v := aB true) (eB d) (.mu 2 (.pure (v := aB false) (by kernel_rfl) (eB e) (.mu 17 (.done (.ret ?_)))))))
  obtain rfl := oi hr
  exact aG.r1 [aB false]
 replace hr := cz d hr
 refine .r0 G (.mu 1 (.p0 (v := aB false) (eB d) (.mu 20 (.done (.ret ?_)))))
 obtain rfl := oi hr
 exact aG.r1 [aB false]

theorem qM (n : Nat) (g : al) (a : Int) (r : Bool) (hr : lk n g a = some r) : aL Tryz.prog 13 [.agg (al.c g), ae a] (aB r) := by
 unfold lk at hr
 refine aL.bd G Tryz.func13 [.tmp 4] ?_
 unfold Tryz.f13
 simp only [gS]
 refine .seq (.r5 G [1] [(2, .hp 0 0)] [.own (al.c g)] (.seq (.ru G (.ret ?_))))
 obtain rfl := oi hr
 exact aG.r1 [aB (decide ((g.Z.length : Int) <= a))]

theorem oY (n : Nat) (a : ag) (r : ag) (hr : jF n a = some r) : aL Tryz.prog 77 [.agg (ag.c a)] (.agg (ag.c r)) := by
 unfold jF at hr
 refine aL.bd G Tryz.func77 [.cell 2 42] ?_
 unfold Tryz.f77
 simp only [gS]
 refine .seq (.r2 G 12 [(1, .hp 0 0), (2, .hp 1 0)] [.own (ag.c a), .own zN2] (.seq ?_))
 obtain ⟨f, d, b, e, hr⟩ := bd2 hr
 refine .tn G (ca1 (ok0 (cu n 3 f d)) (ca3 (ok0 (nH n a f b e)))) (.mu 1 (.ca cf0 (.ca (cfF cf0) (.mu 6 ?_))))
 refine .done ⟨by kernel_rfl, ?_⟩
 refine .nh [2, 3] [.own (ag.c a), .own zN2, .own (ag.c b.1)] (.seq (.r5 G [2] [] [.own (ag.c a), .own (ag.c b.1), .own (ag.c b.1)] (.ret ?_)))
 obtain rfl := oi hr
 exact aG.r1 [.agg (ag.c b.1)]

theorem m6 (n : Nat) (a : ag) (b : ag) (c : ag) (tip : ag) (r : ag) (hr : eH n a b c tip = some r) : aL Tryz.prog 79 [.agg (ag.c a), .agg (ag.c b), .agg (ag.c c), .agg (ag.c tip)] (.agg (ag.c r)) := by
 unfold eH at hr
 refine aL.bd G Tryz.func79 [.cell 8 42] ?_
 unfold Tryz.f79
 simp only [gS]
 refine .seq (.r2 G 17 [(4, .hp 0 0), (5, .hp 1 0), (6, .hp 2 0), (7, .hp 3 0), (8, .hp 4 0)] [.own (ag.c a), .own (ag.c b), .own (ag.c c), .own (ag.c tip), .own zN2] (.seq ?_))
 obtain ⟨j, d, k, e, l, f, hr⟩ := bd3 hr
 obtain ⟨g, i, hr⟩ := bd hr
 refine .tn G (ca1 (ok0 (de n b c j d)) (ca1 (ok0 (de n a j k e)) (ca1 (ok0 (oY n k l f)) (ca3 (ok0 (ew n l tip g i)))))) (.mu 3 (.ca cf0 (.ca (cfA (fun h => by rw [sv e d (u9 n h)]) cf0) (.ca (cfF (cfF cf0)) (.mu 1 (.ca (cfF (cfF (cfF cf0))) (.mu 1 ?_)))))))
 refine .done ⟨by kernel_rfl, ?_⟩
 refine .nh [8] [.own (ag.c a), .own (ag.c b), .own (ag.c c), .own (ag.c tip), .own (ag.c g)] (.ret ?_)
 obtain rfl := oi hr
 exact aG.r1 [.agg (ag.c g)]

theorem rQ (n : Nat) (a : ag) (b : ag) (c : ag) (r : ag) (hr : fk n a b c = some r) : aL Tryz.prog 76 [.agg (ag.c a), .agg (ag.c b), .agg (ag.c c)] (.agg (ag.c r)) := by
 unfold fk at hr
 refine aL.bd G Tryz.func76 [.cell 6 42] ?_
 unfold Tryz.f76
 simp only [gS]
 refine .seq (.r2 G 14 [(3, .hp 0 0), (4, .hp 1 0), (5, .hp 2 0), (6, .hp 3 0)] [.own (ag.c a), .own (ag.c b), .own (ag.c c), .own zN2] (.seq ?_))
 obtain ⟨h, d, i, e, f, g, hr⟩ := bd3 hr
 refine .tn G (ca1 (ok0 (pr n a b c h d)) (ca1 (ok0 (dG n a h i e)) (ca3 (ok0 (oY n i f g))))) (.mu 4 (.ca cf0 (.ca (cfF cf0) (.ca (cfF (cfF cf0)) (.mu 1 ?_)))))
 refine .done ⟨by kernel_rfl, ?_⟩
 refine .nh [6] [.own (ag.c a), .own (ag.c b), .own (ag.c c), .own (ag.c f)] (.ret ?_)
 obtain rfl := oi hr
 exact aG.r1 [.agg (ag.c f)]

theorem pK (n : Nat) (t : A3 Int) (p : Int) (p' : Int) (u : Int) (j : Int) (i : Int) (f : List Int) (g : Int) (e : Bool) (d : List Int) (b : Bool) (a : List Int) (r : Bool × List Int × Bool × List Int) (hr : fX n t p p' u j i f g e d b a = some r) : dm 5 Tryz.prog 117 [.agg (an.c t), .hp 0 0, .hp 1 0, .hp 2 0, .hp 3 0, .hp 4 0] [.own [ae p, ae p', ae u, ae j, ae i, bf f], .own [ae g], .own [aB e, au d, aB b, au a], .own [.fn 79 [] []], .own [.fn 76 [] []]] (.tup []) [.own [ae p, ae p', ae u, ae j, ae i, bf f], .own [ae g], .own [aB r.1, au r.2.1, aB r.2.2.1, au r.2.2.2], .own [.fn 79 [] []], .own [.fn 76 [] []]] := by
 unfold fX at hr
 refine dm.kF G Tryz.func117 (c := (Tryz.f117.body).getD .skip) rfl (us := []) (s := mkS 104 0 [(0, .agg (an.c t)), (1, .hp 0 0), (2, .hp 1 0), (3, .hp 2 0), (4, .hp 3 0), (5, .hp 4 0)]) (by kernel_rfl) (rs := []) rfl ?_
 unfold Tryz.f117
 simp only [gS]
 refine .seq (.r5 G [1, 2, 3, 4, 5] [(6, .hp 5 0)] [.own [ae p, ae p', ae u, ae j, ae i, bf f], .own [ae g], .own [aB e, au d, aB b, au a], .own [.fn 79 [] []], .own [.fn 76 [] []], .own (an.c t)] (.seq (.r5 G [1, 2, 3, 4, 5, 6] [(7, .hp 6 0)] [.own [ae p, ae p', ae u, ae j, ae i, bf f], .own [ae g], .own [aB e, au d, aB b, au a], .own [.fn 79 [] []], .own [.fn 76 [] []], .own (an.c t), .own [aB false, nS, aB false, nS, aB false, nS, aB false, nS, aB false, nS, aB false, nS]] (.seq (.r4 G [1, 2, 3, 4, 5, 6, 7] [(8, ae 0)] (.seq (.seq (.r4 G [1, 2, 3, 4, 5, 7, 8] [(12, .agg (an.c t)), (13, ae 0)] (.block ?_)))))))))
 refine .B1 4 (UNR.one ?_)
 refine .seq (.r4 G [1, 2, 3, 4, 5, 7, 8, 12, 13] [(14, aB true)] (.seq (.cT (by kernel_rfl) (.skip (.seq ?_)))))
 replace hr := bd hr; obtain ⟨xj, l5, hr⟩ := hr
 refine .vY (Q := fun x st' => match (generalizing := false) xj with | (k, l, o, q, nE) => x = .normal /\ Wk 5 st' ⟨mkS 104 0 [(1, .hp 0 0), (2, .hp 1 0), (3, .hp 2 0), (4, .hp 3 0), (5, .hp 4 0), (7, .hp 5 0), (8, ae nE), (12, .agg (an.c t)), (13, ae 0)], [.own [ae p, ae p', ae u, ae j, ae i, bf f], .own [ae g], .own [aB e, au d, aB b, au a], .own [.fn 79 [] []], .own [.fn 76 [] []], .own [aB k, au l, aB o, au q, aB false, nS, aB false, nS, aB false, nS, aB false, nS]]⟩) ?_ ?_
 ·clear hr
  have hr := l5
  clear l5
  refine .block (.seq (.r4 G [1, 2, 3, 4, 5, 7, 8, 12, 13] [(9, ae 0), (10, ae t.e0)] (.seq ?_)))
  obtain ⟨vL, hr⟩ := gd hr
  obtain ⟨T, zX, hr⟩ := bd hr
  refine .t1 G (ok0 (eW n (Fc ((Fc (2 * (gt f t.e0))) - g)) 2 T zX)) (.mu 4 (.pk (v := .pp (f.flatMap (iC .i64)) (t.e0.toNat * 1)) (tr (ar vL)) (.pk (v := ae (gt f t.e0)) (tr (aD (aE (aF .i64) (aA vL) z1 (by omega : t.e0.toNat * 1 = t.e0.toNat * 1 + 0) (by kernel_rfl)))) (.mu 3 (.ca cf0 (.mu 5 ?_))))))
  refine .done ⟨by kernel_rfl, ?_⟩
  refine .nh [1, 2, 3, 4, 5, 7, 8, 9, 12, 13] [.own [ae p, ae p', ae u, ae j, ae i, bf f], .own [ae g], .own [aB e, au d, aB b, au a], .own [.fn 79 [] []], .own [.fn 76 [] []], .own (an.c t), .own [aB T.1.Num.Negative, au T.1.Num.Groups, aB T.1.Den.Negative, au T.1.Den.Groups, aB false, nS, aB false, nS, aB false, nS, aB false, nS]] (.seq ?_)
  obtain ⟨BN, Aj, hr⟩ := bd hr
  refine .g1 G (ok0 (bc n T.1 BN Aj)) (.mu 3 (.ca cf0 (.mu 1 (.done (.nh [1, 2, 3, 4, 5, 7, 8, 12, 13, 35] [.own [ae p, ae p', ae u, ae j, ae i, bf f], .own [ae g], .own [aB e, au d, aB b, au a], .own [.fn 79 [] []], .own [.fn 76 [] []], .own (an.c t), .own [aB T.1.Num.Negative, au T.1.Num.Groups, aB T.1.Den.Negative, au T.1.Den.Groups, aB false, nS, aB false, nS, aB false, nS, aB false, nS]] ?_)))))
  refine .cd hr ?_ ?_ <;> intro Ef hr
  ·refine .ru G (.pop ?_)
   obtain rfl := oi hr
   exact ⟨rfl, ((Wk.gc [1, 2, 3, 4, 5, 7, 8, 12, 13] [(0, true), (1, true), (2, true), (3, true), (4, true), (6, true)] rfl trivial).to)⟩
  refine .skip (.pop ?_)
  obtain rfl := oi hr
  exact ⟨rfl, ((Wk.gc [1, 2, 3, 4, 5, 7, 8, 12, 13] [(0, true), (1, true), (2, true), (3, true), (4, true), (6, true)] rfl trivial).to)⟩
 rcases xj with ⟨k, l, o, q, nE⟩
 rintro x st' nO
 clear l5
 obtain ⟨rfl, nO⟩ := nO
 refine .wk nO (.ru G (UNR.next (.n2 104 [(1, .hp 0 0), (2, .hp 1 0), (3, .hp 2 0), (4, .hp 3 0), (5, .hp 4 0), (7, .hp 5 0), (8, ae nE), (12, .agg (an.c t)), (13, ae 1)] [.own [ae p, ae p', ae u, ae j, ae i, bf f], .own [ae g], .own [aB e, au d, aB b, au a], .own [.fn 79 [] []], .own [.fn 76 [] []], .own [aB k, au l, aB o, au q, aB false, nS, aB false, nS, aB false, nS, aB false, nS]] (.seq (.r4 G [1, 2, 3, 4, 5, 7, 8, 12, 13] [(14, aB true)] (.seq (.cT (by kernel_rfl) (.skip (.seq ?_)))))))))
 replace hr := bd hr; obtain ⟨wS, ov, hr⟩ := hr
 refine .vY (Q := fun x st' => match (generalizing := false) wS with | (y, z, A, B, p7) => x = .normal /\ Wk 5 st' ⟨mkS 104 0 [(1, .hp 0 0), (2, .hp 1 0), (3, .hp 2 0), (4, .hp 3 0), (5, .hp 4 0), (7, .hp 5 0), (8, ae p7), (12, .agg (an.c t)), (13, ae 1)], [.own [ae p, ae p', ae u, ae j, ae i, bf f], .own [ae g], .own [aB e, au d, aB b, au a], .own [.fn 79 [] []], .own [.fn 76 [] []], .own [aB k, au l, aB o, au q, aB y, au z, aB A, au B, aB false, nS, aB false, nS]]⟩) ?_ ?_
 ·clear hr
  have hr := ov
  clear ov
  refine .block (.seq (.r4 G [1, 2, 3, 4, 5, 7, 8, 12, 13] [(9, ae 1), (10, ae t.e1)] (.seq ?_)))
  obtain ⟨vR, hr⟩ := gd hr
  obtain ⟨U, Ct, hr⟩ := bd hr
  refine .t1 G (ok0 (eW n (Fc ((Fc (2 * (gt f t.e1))) - g)) 2 U Ct)) (.mu 4 (.pk (v := .pp (f.flatMap (iC .i64)) (t.e1.toNat * 1)) (tr (ar vR)) (.pk (v := ae (gt f t.e1)) (tr (aD (aE (aF .i64) (aA vR) z1 (by omega : t.e1.toNat * 1 = t.e1.toNat * 1 + 0) (by kernel_rfl)))) (.mu 3 (.ca cf0 (.mu 5 ?_))))))
  refine .done ⟨by kernel_rfl, ?_⟩
  refine .nh [1, 2, 3, 4, 5, 7, 8, 9, 12, 13] [.own [ae p, ae p', ae u, ae j, ae i, bf f], .own [ae g], .own [aB e, au d, aB b, au a], .own [.fn 79 [] []], .own [.fn 76 [] []], .own [aB k, au l, aB o, au q, aB U.1.Num.Negative, au U.1.Num.Groups, aB U.1.Den.Negative, au U.1.Den.Groups, aB false, nS, aB false, nS]] (.seq ?_)
  obtain ⟨A6, B4, hr⟩ := bd hr
  refine .g1 G (ok0 (bc n U.1 A6 B4)) (.mu 3 (.ca cf0 (.mu 1 (.done (.nh [1, 2, 3, 4, 5, 7, 8, 12, 13, 35] [.own [ae p, ae p', ae u, ae j, ae i, bf f], .own [ae g], .own [aB e, au d, aB b, au a], .own [.fn 79 [] []], .own [.fn 76 [] []], .own [aB k, au l, aB o, au q, aB U.1.Num.Negative, au U.1.Num.Groups, aB U.1.Den.Negative, au U.1.Den.Groups, aB false, nS, aB false, nS]] ?_)))))
  refine .cd hr ?_ ?_ <;> intro ED hr
  ·refine .ru G (.pop ?_)
   obtain rfl := oi hr
   exact ⟨rfl, ((Wk.gc [1, 2, 3, 4, 5, 7, 8, 12, 13] kT6 rfl trivial).to)⟩
  refine .skip (.pop ?_)
  obtain rfl := oi hr
  exact ⟨rfl, ((Wk.gc [1, 2, 3, 4, 5, 7, 8, 12, 13] kT6 rfl trivial).to)⟩
 rcases wS with ⟨y, z, A, B, p7⟩
 rintro x st' q8
 clear ov
 obtain ⟨rfl, q8⟩ := q8
 refine .wk q8 (.ru G (UNR.next (.n2 104 [(1, .hp 0 0), (2, .hp 1 0), (3, .hp 2 0), (4, .hp 3 0), (5, .hp 4 0), (7, .hp 5 0), (8, ae p7), (12, .agg (an.c t)), (13, ae 2)] [.own [ae p, ae p', ae u, ae j, ae i, bf f], .own [ae g], .own [aB e, au d, aB b, au a], .own [.fn 79 [] []], .own [.fn 76 [] []], .own [aB k, au l, aB o, au q, aB y, au z, aB A, au B, aB false, nS, aB false, nS]] (.seq (.r4 G [1, 2, 3, 4, 5, 7, 8, 12, 13] [(14, aB true)] (.seq (.cT (by kernel_rfl) (.skip (.seq ?_)))))))))
 replace hr := bd hr; obtain ⟨wQ, qy, hr⟩ := hr
 refine .vY (Q := fun x st' => match (generalizing := false) wQ with | (mM, iZ, jQ, jN, w) => x = .normal /\ Wk 5 st' ⟨mkS 104 0 [(1, .hp 0 0), (2, .hp 1 0), (3, .hp 2 0), (4, .hp 3 0), (5, .hp 4 0), (7, .hp 5 0), (8, ae w), (12, .agg (an.c t)), (13, ae 2)], [.own [ae p, ae p', ae u, ae j, ae i, bf f], .own [ae g], .own [aB e, au d, aB b, au a], .own [.fn 79 [] []], .own [.fn 76 [] []], .own [aB k, au l, aB o, au q, aB y, au z, aB A, au B, aB mM, au iZ, aB jQ, au jN]]⟩) ?_ ?_
 ·clear hr
  have hr := qy
  clear qy
  refine .block (.seq (.r4 G [1, 2, 3, 4, 5, 7, 8, 12, 13] [(9, ae 2), (10, ae t.e2)] (.seq ?_)))
  obtain ⟨vF, hr⟩ := gd hr
  obtain ⟨V, BO, hr⟩ := bd hr
  refine .t1 G (ok0 (eW n (Fc ((Fc (2 * (gt f t.e2))) - g)) 2 V BO)) (.mu 4 (.pk (v := .pp (f.flatMap (iC .i64)) (t.e2.toNat * 1)) (tr (ar vF)) (.pk (v := ae (gt f t.e2)) (tr (aD (aE (aF .i64) (aA vF) z1 (by omega : t.e2.toNat * 1 = t.e2.toNat * 1 + 0) (by kernel_rfl)))) (.mu 3 (.ca cf0 (.mu 5 ?_))))))
  refine .done ⟨by kernel_rfl, ?_⟩
  refine .nh [1, 2, 3, 4, 5, 7, 8, 9, 12, 13] [.own [ae p, ae p', ae u, ae j, ae i, bf f], .own [ae g], .own [aB e, au d, aB b, au a], .own [.fn 79 [] []], .own [.fn 76 [] []], .own [aB k, au l, aB o, au q, aB y, au z, aB A, au B, aB V.1.Num.Negative, au V.1.Num.Groups, aB V.1.Den.Negative, au V.1.Den.Groups]] (.seq ?_)
  obtain ⟨Co, Br, hr⟩ := bd hr
  refine .g1 G (ok0 (bc n V.1 Co Br)) (.mu 3 (.ca cf0 (.mu 1 (.done (.nh [1, 2, 3, 4, 5, 7, 8, 12, 13, 35] [.own [ae p, ae p', ae u, ae j, ae i, bf f], .own [ae g], .own [aB e, au d, aB b, au a], .own [.fn 79 [] []], .own [.fn 76 [] []], .own [aB k, au l, aB o, au q, aB y, au z, aB A, au B, aB V.1.Num.Negative, au V.1.Num.Groups, aB V.1.Den.Negative, au V.1.Den.Groups]] ?_)))))
  refine .cd hr ?_ ?_ <;> intro Eb hr
  ·refine .ru G (.pop ?_)
   obtain rfl := oi hr
   exact ⟨rfl, ((Wk.gc [1, 2, 3, 4, 5, 7, 8, 12, 13] kT6 rfl trivial).to)⟩
  refine .skip (.pop ?_)
  obtain rfl := oi hr
  exact ⟨rfl, ((Wk.gc [1, 2, 3, 4, 5, 7, 8, 12, 13] kT6 rfl trivial).to)⟩
 rcases wQ with ⟨mM, iZ, jQ, jN, w⟩
 rintro x st' qg
 clear qy
 obtain ⟨rfl, qg⟩ := qg
 refine .wk qg (.ru G (UNR.next (.n2 104 [(1, .hp 0 0), (2, .hp 1 0), (3, .hp 2 0), (4, .hp 3 0), (5, .hp 4 0), (7, .hp 5 0), (8, ae w), (12, .agg (an.c t)), (13, ae 3)] [.own [ae p, ae p', ae u, ae j, ae i, bf f], .own [ae g], .own [aB e, au d, aB b, au a], .own [.fn 79 [] []], .own [.fn 76 [] []], .own [aB k, au l, aB o, au q, aB y, au z, aB A, au B, aB mM, au iZ, aB jQ, au jN]] (.seq (.r4 G [1, 2, 3, 4, 5, 7, 8, 12, 13] [(14, aB false)] (.seq (.cF (by kernel_rfl) (.leave rfl (unF.exit rfl (.seq (.seq (.r4 G [3, 4, 5, 7, 8] [(39, ae w)] (.block (.seq (.r4 G [3, 4, 5, 7, 8, 39] [(40, aB ((w : Int) == 0))] ?_)))))))))))))))
 refine .cd hr ?_ ?_ <;> intro EF hr
 ·refine .ret ?_
  obtain rfl := oi hr
  exact dk.ret [] ((Wk.gc [] kT5 rfl trivial).to)
 refine .seq (.r4 G [3, 4, 5, 7, 8] [(42, aB ((w : Int) == 3))] ?_)
 refine .cd hr ?_ ?_ <;> intro Ej hr
 ·refine .seq ?_
  obtain ⟨w7, Bo, w6, Cj, w9, BF, hr⟩ := bd3 hr
  refine .tn G (ca1 (ok0 (cu n 0 w7 Bo)) (ca1 (ok0 (m6 n (ag.mk (ah.mk k l) (ah.mk o q)) (ag.mk (ah.mk y z) (ah.mk A B)) (ag.mk (ah.mk mM iZ) (ah.mk jQ jN)) w7 w6 Cj)) (ca3 (ok0 (de n (ag.mk (ah.mk e d) (ah.mk b a)) w6 w9 BF))))) (.mu 8 (.ca cf0 (.ca (cfF cf0) (.ca (cfF (cfF cf0)) (.mu 1 ?_)))))
  refine .done ⟨by kernel_rfl, ?_⟩
  refine .nh [] [.own [ae p, ae p', ae u, ae j, ae i, bf f], .own [ae g], .own (ag.c w9), .own [.fn 79 [] []], .own [.fn 76 [] []], .own [aB k, au l, aB o, au q, aB y, au z, aB A, au B, aB mM, au iZ, aB jQ, au jN]] (.ret ?_)
  obtain rfl := oi hr
  exact dk.ret [] ((Wk.gc [] kT5 rfl trivial).to)
 refine .skip (.pop (.seq (.block ?_)))
 replace hr := bd hr; obtain ⟨wV, uI, hr⟩ := hr
 refine .aH (σ := fun z0 => match z0 with | (C, D, E, F, H, I, J, M, N, O, R, S) => ⟨mkS 104 0 [(3, .hp 2 0), (4, .hp 3 0), (5, .hp 4 0), (7, .hp 5 0), (8, ae w)], [.own [ae p, ae p', ae u, ae j, ae i, bf f], .own [ae g], .own [aB e, au d, aB b, au a], .own [.fn 79 [] []], .own [.fn 76 [] []], .own [aB C, au D, aB E, au F, aB H, au I, aB J, au M, aB N, au O, aB R, au S]]⟩) (Q := fun x st' => match (generalizing := false) wV with | (X, Y, Z, gU, iV, jS, kb, jW, ki, kE, lP, lE) => x = .exit 3 /\ Wk 5 st' ⟨mkS 104 0 [(3, .hp 2 0), (4, .hp 3 0), (5, .hp 4 0), (7, .hp 5 0), (8, ae w)], [.own [ae p, ae p', ae u, ae j, ae i, bf f], .own [ae g], .own [aB e, au d, aB b, au a], .own [.fn 79 [] []], .own [.fn 76 [] []], .own [aB X, au Y, aB Z, au gU, aB iV, au jS, aB kb, au jW, aB ki, au kE, aB lP, au lE]]⟩) uI ((Wk.gc [3, 4, 5, 7, 8] kT6 rfl trivial).to) ?_ ?_
 ·clear hr
  rintro m ⟨C, D, E, F, H, I, J, M, N, O, R, S⟩ hr
  show CQ _ _ _ _ _ ⟨_, _⟩
  refine .seq (.seq ?_)
  replace hr := bd hr; obtain ⟨yY, ky, hr⟩ := hr
  refine .DN (Q := fun x st' => match (generalizing := false) yY with | .inl _ => x = .exit 3 /\ Wk 5 st' ⟨mkS 104 0 [(3, .hp 2 0), (4, .hp 3 0), (5, .hp 4 0), (7, .hp 5 0), (8, ae w)], [.own [ae p, ae p', ae u, ae j, ae i, bf f], .own [ae g], .own [aB e, au d, aB b, au a], .own [.fn 79 [] []], .own [.fn 76 [] []], .own [aB C, au D, aB E, au F, aB H, au I, aB J, au M, aB N, au O, aB R, au S]]⟩ | .inr (_) => x = .normal /\ Wk 5 st' ⟨mkS 104 0 [(3, .hp 2 0), (4, .hp 3 0), (5, .hp 4 0), (7, .hp 5 0), (8, ae w)], [.own [ae p, ae p', ae u, ae j, ae i, bf f], .own [ae g], .own [aB e, au d, aB b, au a], .own [.fn 79 [] []], .own [.fn 76 [] []], .own [aB C, au D, aB E, au F, aB H, au I, aB J, au M, aB N, au O, aB R, au S]]⟩) ?_ ?_
  ·clear hr
   have hr := ky
   clear ky
   obtain ⟨th, kZ, hr⟩ := bd hr
   rcases bT ((decide (th > 0)) != ((w : Int) == 1)) with ko | ko
   ·replace hr := cy ko hr
    refine .t1 G (ok0 (bc n (ag.mk (ah.mk C D) (ah.mk E F)) th kZ)) (.mu 2 (.ca cf0 (.mu 3 (.pk (v := aB true) (eB ko) (.mu 11 ?_)))))
    refine .done ⟨by kernel_rfl, ?_⟩
    refine .nh [3, 4, 5, 7, 8, 72] [.own [ae p, ae p', ae u, ae j, ae i, bf f], .own [ae g], .own [aB e, au d, aB b, au a], .own [.fn 79 [] []], .own [.fn 76 [] []], .own [aB C, au D, aB E, au F, aB H, au I, aB J, au M, aB N, au O, aB R, au S]] (.cT (by kernel_rfl) (.skip ?_))
    obtain rfl := oi hr
    exact ⟨rfl, ((Wk.gc [3, 4, 5, 7, 8] kT6 rfl trivial).to)⟩
   replace hr := cz ko hr
   obtain ⟨Ce, sU, BD, tG, hr⟩ := bd2 hr
   refine .tn G (ca1 (ok0 (bc n (ag.mk (ah.mk C D) (ah.mk E F)) th kZ)) (ca1 (ok0 (bc n (ag.mk (ah.mk H I) (ah.mk J M)) Ce sU)) (ca3 (ok0 (bc n (ag.mk (ah.mk N O) (ah.mk R S)) BD tG))))) (.mu 2 (.ca cf0 (.mu 3 (.pk (v := aB false) (eB ko) (.mu 3 (.ca (cfA (fun h => by rw [sv sU kZ (fo n h)]) cf0) (.mu 3 (.ca (cfA (fun h => by rw [sv tG kZ (fo n h)]) (cfA (fun h => by rw [sv tG sU (fo n h)]) cf0)) (.mu 3 ?_)))))))))
   refine .done ⟨by kernel_rfl, ?_⟩
   refine .nh [3, 4, 5, 7, 8, 72] [.own [ae p, ae p', ae u, ae j, ae i, bf f], .own [ae g], .own [aB e, au d, aB b, au a], .own [.fn 79 [] []], .own [.fn 76 [] []], .own [aB C, au D, aB E, au F, aB H, au I, aB J, au M, aB N, au O, aB R, au S]] ?_
   refine .cd hr ?_ ?_ <;> intro Ey hr
   ·refine .skip ?_
    obtain rfl := oi hr
    exact ⟨rfl, ((Wk.gc [3, 4, 5, 7, 8] kT6 rfl trivial).to)⟩
   refine .leave rfl ?_
   obtain rfl := oi hr
   exact ⟨rfl, ((Wk.gc [3, 4, 5, 7, 8] kT6 rfl trivial).to)⟩
  rcases yY with ⟨⟩ | ⟨⟩
  ·rintro x st' W
   clear ky
   obtain ⟨rfl, W⟩ := W
   refine vA _ rfl ?_
   obtain rfl := oi hr
   exact ⟨rfl, (W.trans ((Wk.gc [3, 4, 5, 7, 8] kT6 rfl trivial).to))⟩
  rintro x st' W
  clear ky
  obtain ⟨rfl, W⟩ := W
  refine .wk W (.block (.ru G (.pop ?_)))
  exact az (H, I, J, M, N, O, R, S, C, D, E, F) hr ((Wk.gc [3, 4, 5, 7, 8] kT6 rfl trivial).to)
 rcases wV with ⟨X, Y, Z, gU, iV, jS, kb, jW, ki, kE, lP, lE⟩
 rintro x st' rT
 clear uI
 obtain ⟨rfl, rT⟩ := rT
 refine aQ _ rfl (.wk rT (.seq ?_))
 obtain ⟨ta, Cr, hr⟩ := bd hr
 refine .g1 G (ok0 (rQ n (ag.mk (ah.mk X Y) (ah.mk Z gU)) (ag.mk (ah.mk iV jS) (ah.mk kb jW)) (ag.mk (ah.mk ki kE) (ah.mk lP lE)) ta Cr)) (.mu 7 (.ca cf0 (.mu 2 (.done (.nh [3, 4, 7, 8, 11] [.own [ae p, ae p', ae u, ae j, ae i, bf f], .own [ae g], .own [aB e, au d, aB b, au a], .own [.fn 79 [] []], .own [.fn 76 [] []], .own [aB X, au Y, aB Z, au gU, aB iV, au jS, aB kb, au jW, aB ki, au kE, aB lP, au lE], .own (ag.c ta)] (.seq (.seq (.r4 G [3, 4, 7, 11] [(91, aB ((w : Int) == 2))] ?_))))))))
 refine .cd hr ?_ ?_ <;> intro E7 hr
 ·obtain ⟨uW, BG, hr⟩ := bd hr
  refine .g1 G (ok0 (m6 n (ag.mk (ah.mk X Y) (ah.mk Z gU)) (ag.mk (ah.mk iV jS) (ah.mk kb jW)) (ag.mk (ah.mk ki kE) (ah.mk lP lE)) ta uW BG)) (.mu 8 (.ca cf0 (.mu 1 (.done (.nh [3, 11] [.own [ae p, ae p', ae u, ae j, ae i, bf f], .own [ae g], .own [aB e, au d, aB b, au a], .own [.fn 79 [] []], .own [.fn 76 [] []], .own [aB X, au Y, aB Z, au gU, aB iV, au jS, aB kb, au jW, aB ki, au kE, aB lP, au lE], .own (ag.c uW)] ?_)))))
  obtain ⟨BI, BT, hr⟩ := bd hr
  refine .g1 G (ok0 (de n (ag.mk (ah.mk e d) (ah.mk b a)) uW BI BT)) (.mu 2 (.ca cf0 (.mu 1 (.done ?_))))
  obtain rfl := oi hr
  exact dk.normal [] ((Wk.gc [] kT5 rfl trivial).to)
 refine .skip ?_
 obtain ⟨Dv, Cl, hr⟩ := bd hr
 refine .g1 G (ok0 (de n (ag.mk (ah.mk e d) (ah.mk b a)) ta Dv Cl)) (.mu 2 (.ca cf0 (.mu 1 (.done ?_))))
 obtain rfl := oi hr
 exact dk.normal [] ((Wk.gc [] kT5 rfl trivial).to)
end Go.L
