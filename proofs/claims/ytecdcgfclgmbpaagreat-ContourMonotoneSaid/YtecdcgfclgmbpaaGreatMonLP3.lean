
import Derived.Test.YtecdcgfclgmbpaaGreatMonLP2
import Derived.Test.YtecdcgfclgmbpaaGreatL0Mons
import Derived.Test.YtecdcgfclgmbpaaGreatChecked
import Derived.KernelRfl
set_option linter.all false
set_option maxRecDepth 100000
set_option maxHeartbeats 4000000
namespace Go.L
open Go Go.Eng Go.Proofs
theorem aV (n : Nat) (negative : Bool) (l : List Int) (r : ah) (hr : aS n negative l = some r) : aL Tryz.prog 129 [aB negative, an l] (.agg (ah.c r)) := by
 unfold aS at hr
 refine aL.bd G Tryz.func129 [.cell 4 40] ?_
 unfold Tryz.f129
 simp only [gS]
 refine .seq (.r5 G [0, 1] [(4, .hp 0 0)] [.own [aB false, nS]] (.seq (.r4 G [0, 1, 4] [(5, ae (l.length : Int))] (.seq (.block ?_)))))
 replace hr := bd hr; obtain ⟨a, i, hr⟩ := hr
 refine .aM (σ := fun u => match u with | b => ⟨mkS 31 0 [(0, aB negative), (1, an l), (4, .hp 0 0), (5, ae b)], [.own [aB false, nS]]⟩) (Q := fun x st' => x = .exit 0 /\ Wk 0 st' ⟨mkS 31 0 [(0, aB negative), (1, an l), (4, .hp 0 0), (5, ae a)], [.own [aB false, nS]]⟩) i ((Wk.gc [0, 1, 4, 5] [(0, true)] rfl trivial).to) ?_ ?_
 ·clear hr
  rintro m b hr
  show CQ _ _ _ _ _ ⟨_, _⟩
  refine .seq (.seq ?_)
  rcases bT (decide (b > 0)) with f | f
  ·replace hr := cC f hr
   obtain ⟨o, hr⟩ := gd hr
   refine .r0 G (.mu 1 (.p0 (v := aB true) (eB f) (.mu 4 (.pure (v := .pp (l.flatMap iCu) ((Fj (b - 1)).toNat * 1)) (by kernel_rfl) (tr (au o)) (.pure (v := br (gt l (Fj (b - 1)))) (by kernel_rfl) (tr (aG (aH (aE .u32) (aC o) z1 (by omega : (Fj (b - 1)).toNat * 1 = (Fj (b - 1)).toNat * 1 + 0) (by kernel_rfl)))) (.mu 2 (.done (.nh [0, 1, 4, 5, 17] [.own [aB false, nS]] ?_))))))))
   refine .cd hr ?_ ?_ <;> intro w hr
   ·refine .skip (.block (.ru G (.pop ?_)))
    exact aA (Fj (b - 1)) hr ((Wk.gc [0, 1, 4, 5] [(0, true)] rfl trivial).to)
   refine .leave rfl ?_
   obtain rfl := oi hr
   exact ⟨rfl, ((Wk.gc [0, 1, 4, 5] [(0, true)] rfl trivial).to)⟩
  replace hr := cB f hr
  refine .r0 G (.mu 1 (.p0 (v := aB false) (eB f) (.mu 8 (.done (.nh [0, 1, 4, 5, 17] [.own [aB false, nS]] (.cF (by kernel_rfl) (.leave rfl ?_)))))))
  obtain rfl := oi hr
  exact ⟨rfl, ((Wk.gc [0, 1, 4, 5] [(0, true)] rfl trivial).to)⟩
 rintro x st' g
 clear i
 obtain ⟨rfl, g⟩ := g
 refine aW _ rfl (.wk g (.seq ?_))
 rcases bT negative with d | d
 ·replace hr := cC d hr
  obtain ⟨j, p, q, hr⟩ := gd3 hr
  refine .r0 G (.p0 (v := aB true) (eB d) (.mu 7 (.p0 (v := an ((l.drop (0 : Int).toNat).take (a.toNat - (0 : Int).toNat))) (tr (y := slO (inS 0 a l.length) (0 : Int).toNat a.toNat (fun z1 e => .sl true (((l.flatMap iCu).drop (z1 * 1)).take ((e - z1) * 1)) (e - z1))) (xg j (tQ (aE _) (qE j)))) (.e0 (v := .hs 2 0 ((l.drop (0 : Int).toNat).take (a.toNat - (0 : Int).toNat)).length 1) (ws := [(1, .dead), (2, .own (((l.drop (0 : Int).toNat).take (a.toNat - (0 : Int).toNat)).flatMap iCu))]) (tr (y := zk (decide (((((l.drop (0 : Int).toNat).take (a.toNat - (0 : Int).toNat)).flatMap iCu)).length = ((l.drop (0 : Int).toNat).take (a.toNat - (0 : Int).toNat)).length * 1)) (((l.drop (0 : Int).toNat).take (a.toNat - (0 : Int).toNat)).flatMap iCu) ((l.drop (0 : Int).toNat).take (a.toNat - (0 : Int).toNat)).length (fun z1 e => oC (decide (0 + 0 * 1 <= (([] : List Int).flatMap iCu).length) && decide ((0 + e) * 4 <= 140737488355328) && decide (0 + e <= 4611686018427387904)) (some (.eff (.hs 2 0 (0 + e) 1) [(1, .dead), (2, .own (((([] : List Int).flatMap iCu).drop 0).take (0 * 1) ++ z1))])))) (ur (nt (aE _)) rfl (fb (l := ([] : List Int)) (xs := (l.drop (0 : Int).toNat).take (a.toNat - (0 : Int).toNat)) (aE _) rfl rfl rfl p q))) (.mu 2 (.done (.nh [4] [.own [aB (decide (a > 0)), .hs 2 0 ((l.drop (0 : Int).toNat).take (a.toNat - (0 : Int).toNat)).length 1], .dead, .own (((l.drop (0 : Int).toNat).take (a.toNat - (0 : Int).toNat)).flatMap iCu)] (.ret ?_))))))))
  obtain rfl := oi hr
  exact aK.ret (vs := [.agg [aB (decide (a > 0)), .hs 2 0 ((l.drop (0 : Int).toNat).take (a.toNat - (0 : Int).toNat)).length 1]]) (by kernel_rfl) (Sn.agg (Sp (SnL.cons (Sn.hs rfl (.inl rfl) (SnC.pure (aY (aD _) _)) (fun h => cJ h)) SnL.nil)))
 replace hr := cB d hr
 obtain ⟨k, s, t, hr⟩ := gd3 hr
 refine .r0 G (.p0 (v := aB false) (eB d) (.mu 7 (.p0 (v := an ((l.drop (0 : Int).toNat).take (a.toNat - (0 : Int).toNat))) (tr (y := slO (inS 0 a l.length) (0 : Int).toNat a.toNat (fun z1 e => .sl true (((l.flatMap iCu).drop (z1 * 1)).take ((e - z1) * 1)) (e - z1))) (xg k (tQ (aE _) (qE k)))) (.e0 (v := .hs 2 0 ((l.drop (0 : Int).toNat).take (a.toNat - (0 : Int).toNat)).length 1) (ws := [(1, .dead), (2, .own (((l.drop (0 : Int).toNat).take (a.toNat - (0 : Int).toNat)).flatMap iCu))]) (tr (y := zk (decide (((((l.drop (0 : Int).toNat).take (a.toNat - (0 : Int).toNat)).flatMap iCu)).length = ((l.drop (0 : Int).toNat).take (a.toNat - (0 : Int).toNat)).length * 1)) (((l.drop (0 : Int).toNat).take (a.toNat - (0 : Int).toNat)).flatMap iCu) ((l.drop (0 : Int).toNat).take (a.toNat - (0 : Int).toNat)).length (fun z1 e => oC (decide (0 + 0 * 1 <= (([] : List Int).flatMap iCu).length) && decide ((0 + e) * 4 <= 140737488355328) && decide (0 + e <= 4611686018427387904)) (some (.eff (.hs 2 0 (0 + e) 1) [(1, .dead), (2, .own (((([] : List Int).flatMap iCu).drop 0).take (0 * 1) ++ z1))])))) (ur (nt (aE _)) rfl (fb (l := ([] : List Int)) (xs := (l.drop (0 : Int).toNat).take (a.toNat - (0 : Int).toNat)) (aE _) rfl rfl rfl s t))) (.mu 2 (.done (.nh [4] [.own [aB false, .hs 2 0 ((l.drop (0 : Int).toNat).take (a.toNat - (0 : Int).toNat)).length 1], .dead, .own (((l.drop (0 : Int).toNat).take (a.toNat - (0 : Int).toNat)).flatMap iCu)] (.ret ?_))))))))
 obtain rfl := oi hr
 exact aK.ret (vs := [.agg [aB false, .hs 2 0 ((l.drop (0 : Int).toNat).take (a.toNat - (0 : Int).toNat)).length 1]]) (by kernel_rfl) (Sn.agg (Sp (SnL.cons (Sn.hs rfl (.inl rfl) (SnC.pure (aY (aD _) _)) (fun h => cJ h)) SnL.nil)))

theorem nc (n : Nat) (k : Int) (r : ah) (hr : gj n k = some r) : aL Tryz.prog 125 [ae k] (.agg (ah.c r)) := by
 unfold gj at hr
 refine aL.bd G Tryz.func125 [.cell 2 40] ?_
 unfold Tryz.f125
 simp only [gS]
 refine .seq (.r5 G [0] [(2, .hp 0 0)] [.own [aB false, nS]] (.seq (.r4 G [0, 2] [(3, cK (wFu k))] (.seq (.seq (.r4 G [0, 2, 3] [(8, aB (decide (k < 0)))] ?_))))))
 refine .cd hr ?_ ?_ <;> intro t hr
 ·refine .r0 G (.mu 2 (.p0 (v := ae (Fj (0 - (Fj (k + 1))))) (tr (y := some (.pure (ae (IntKind.wrap .i64 (0 - (Fj (k + 1))))))) xw) (.mu 3 (.done (.nh [0, 2, 3] [.own [aB false, nS]] (.seq (.r5 G [0, 2, 3] [(4, .hs 1 0 0 1)] [.own [aB false, nS], .own []] (.seq (.block ?_)))))))))
  replace hr := bd hr; obtain ⟨g, o, hr⟩ := hr
  refine .aM (σ := fun D => match D with | (d, e) => ⟨mkS 29 0 [(0, ae k), (2, .hp 0 0), (3, cK d), (4, .hs 1 0 e.length 1)], [.own [aB false, nS], .own (e.flatMap iCu)]⟩) (Q := fun x st' => x = .exit 0 /\ Wk 0 st' ⟨mkS 29 0 [(0, ae k), (2, .hp 0 0), (4, .hs 1 0 g.length 1)], [.own [aB false, nS], .own (g.flatMap iCu)]⟩) o ((Wk.gc [0, 2, 3, 4] [(0, true), (1, false)] rfl (pKt (pKc trivial))).to) ?_ ?_
  ·clear hr
   rintro m ⟨d, e⟩ hr
   show CQ _ _ _ _ _ ⟨_, _⟩
   refine .seq (.seq (.r4 G [0, 2, 3, 4] [(16, aB (decide (d > 0)))] ?_))
   refine .cd hr ?_ ?_ <;> intro F hr
   ·refine .skip (.block (.seq ?_))
    obtain ⟨u, w, hr⟩ := gd2 hr
    refine .r0 G (.mu 5 (.e0 (v := .hs 3 0 (e ++ [aa .u32 (d.tmod 1000000000)]).length 1) (ws := [(1, .dead), (3, .own ((e ++ [aa .u32 (d.tmod 1000000000)]).flatMap iCu))]) (tr (fb (new := [br (aa .u32 (d.tmod 1000000000))]) (l := e) (xs := [aa .u32 (d.tmod 1000000000)]) (aE .u32) rfl rfl (by kernel_rfl) u w)) (.mu 1 (.done (.nh [0, 2, 3, 4] [.own [aB false, nS], .dead, .own [br (aa .u32 (d.tmod 1000000000))], .own ((e ++ [aa .u32 (d.tmod 1000000000)]).flatMap iCu)] (.ru G (.pop ?_)))))))
    exact aA (wFu (d.tdiv 1000000000), e ++ [aa .u32 (d.tmod 1000000000)]) hr ((Wk.gc [0, 2, 3, 4] [(0, true), (3, false)] rfl (pKt (pKo iCu (aD _) (e ++ [aa .u32 (d.tmod 1000000000)]) trivial))).to)
   refine .leave rfl ?_
   obtain rfl := oi hr
   exact ⟨rfl, ((Wk.gc [0, 2, 4] [(0, true), (1, false)] rfl (pKt (pKo iCu (aD _) e trivial))).to)⟩
  rintro x st' i
  clear o
  obtain ⟨rfl, i⟩ := i
  refine aW _ rfl (.wk i (.seq ?_))
  obtain ⟨q, z, hr⟩ := bd hr
  refine .g1 G (cE (args := [aB true, .hs 1 0 g.length 1]) (l := [1]) (Sp (SnL.cons (Sn.hs rfl (.inl rfl) (SnC.pure (aY (aD _) _)) (fun h => cJ h)) SnL.nil)) (aV n true g q z)) (.mu 1 (.p0 (v := aB true) (eB t) (.mu 1 (.ca cf0 (.mu 1 (.done (.nh [2] [.own (ah.c q), .fix (g.flatMap iCu)] (.ret ?_))))))))
  obtain rfl := oi hr
  exact aK.r1 [.agg (ah.c q)]
 refine .skip (.seq (.r5 G [0, 2, 3] [(4, .hs 1 0 0 1)] [.own [aB false, nS], .own []] (.seq (.block ?_))))
 replace hr := bd hr; obtain ⟨f, p, hr⟩ := hr
 refine .aM (σ := fun D => match D with | (a, b) => ⟨mkS 29 0 [(0, ae k), (2, .hp 0 0), (3, cK a), (4, .hs 1 0 b.length 1)], [.own [aB false, nS], .own (b.flatMap iCu)]⟩) (Q := fun x st' => x = .exit 0 /\ Wk 0 st' ⟨mkS 29 0 [(0, ae k), (2, .hp 0 0), (4, .hs 1 0 f.length 1)], [.own [aB false, nS], .own (f.flatMap iCu)]⟩) p ((Wk.gc [0, 2, 3, 4] [(0, true), (1, false)] rfl (pKt (pKc trivial))).to) ?_ ?_
 ·clear hr
  rintro m ⟨a, b⟩ hr
  show CQ _ _ _ _ _ ⟨_, _⟩
  refine .seq (.seq (.r4 G [0, 2, 3, 4] [(16, aB (decide (a > 0)))] ?_))
  refine .cd hr ?_ ?_ <;> intro E hr
  ·refine .skip (.block (.seq ?_))
   obtain ⟨A, B, hr⟩ := gd2 hr
   refine .r0 G (.mu 5 (.e0 (v := .hs 3 0 (b ++ [aa .u32 (a.tmod 1000000000)]).length 1) (ws := [(1, .dead), (3, .own ((b ++ [aa .u32 (a.tmod 1000000000)]).flatMap iCu))]) (tr (fb (new := [br (aa .u32 (a.tmod 1000000000))]) (l := b) (xs := [aa .u32 (a.tmod 1000000000)]) (aE .u32) rfl rfl (by kernel_rfl) A B)) (.mu 1 (.done (.nh [0, 2, 3, 4] [.own [aB false, nS], .dead, .own [br (aa .u32 (a.tmod 1000000000))], .own ((b ++ [aa .u32 (a.tmod 1000000000)]).flatMap iCu)] (.ru G (.pop ?_)))))))
   exact aA (wFu (a.tdiv 1000000000), b ++ [aa .u32 (a.tmod 1000000000)]) hr ((Wk.gc [0, 2, 3, 4] [(0, true), (3, false)] rfl (pKt (pKo iCu (aD _) (b ++ [aa .u32 (a.tmod 1000000000)]) trivial))).to)
  refine .leave rfl ?_
  obtain rfl := oi hr
  exact ⟨rfl, ((Wk.gc [0, 2, 4] [(0, true), (1, false)] rfl (pKt (pKo iCu (aD _) b trivial))).to)⟩
 rintro x st' j
 clear p
 obtain ⟨rfl, j⟩ := j
 refine aW _ rfl (.wk j (.seq ?_))
 obtain ⟨s, C, hr⟩ := bd hr
 refine .g1 G (cE (args := [aB false, .hs 1 0 f.length 1]) (l := [1]) (Sp (SnL.cons (Sn.hs rfl (.inl rfl) (SnC.pure (aY (aD _) _)) (fun h => cJ h)) SnL.nil)) (aV n false f s C)) (.mu 1 (.p0 (v := aB false) (eB t) (.mu 1 (.ca cf0 (.mu 1 (.done (.nh [2] [.own (ah.c s), .fix (f.flatMap iCu)] (.ret ?_))))))))
 obtain rfl := oi hr
 exact aK.r1 [.agg (ah.c s)]

theorem lN (n : Nat) {b : Int} {a : Int} (h : ([.at (.int .i64 b)] : List AV) = [.at (.int .i64 a)]) : ch n b = ch n a := by
 obtain rfl := eW h
 rfl
theorem eU (n : Nat) (a : Int) (r : ah) (hr : ch n a = some r) : aL Tryz.prog 83 [ae a] (.agg (ah.c r)) := by
 unfold ch at hr
 refine aL.bd G Tryz.func83 [.cell 2 40] ?_
 unfold Tryz.f83
 simp only [gS]
 refine .seq (.r5 G [0] [(2, .hp 0 0)] [.own [aB false, nS]] (.seq ?_))
 obtain ⟨b, d, hr⟩ := bd hr
 refine .g1 G (ok0 (nc n a b d)) (.mu 1 (.ca cf0 (.mu 1 (.done (.nh [2] [.own (ah.c b)] (.ret ?_))))))
 obtain rfl := oi hr
 exact aK.r1 [.agg (ah.c b)]

theorem lB (n : Nat) {b : ah} {a : ah} (h : ([.agg (ah.c b)] : List AV) = [.agg (ah.c a)]) : cP n b = cP n a := by
 obtain rfl := eQ h
 rfl
theorem dK (n : Nat) (b : ah) (r : Bool) (hr : cP n b = some r) : aL Tryz.prog 112 [.agg (ah.c b)] (aB r) := by
 unfold cP at hr
 refine aL.bd G Tryz.func112 [.tmp 2] ?_
 unfold Tryz.f112
 simp only [gS]
 refine .seq (.r2 G 31 [(1, .hp 0 0)] [.own (ah.c b)] (.seq (.r4 G [1] [(3, ae (b.Groups.length : Int))] (.seq (.seq (.r4 G [1, 3] [(4, ae 0)] (.block ?_)))))))
 replace hr := bd hr; obtain ⟨h, e, hr⟩ := hr
 refine .aM (σ := fun j => match j with | d => ⟨mkS 31 0 [(1, .hp 0 0), (3, ae (b.Groups.length : Int)), (4, ae d)], [.own (ah.c b)]⟩) (Q := fun x st' => match (generalizing := false) h with | .inl _ => x = .exit 0 /\ Wk 0 st' ⟨mkS 31 0 [(1, .hp 0 0), (3, ae (b.Groups.length : Int))], [.own (ah.c b)]⟩ | .inr (r0) => x = .ret /\ aK Tryz.prog [.tmp 2] (aB r0) .ret st') e ((Wk.gc [1, 3, 4] [(0, true)] rfl trivial).to) ?_ ?_
 ·clear hr
  rintro m d hr
  show CQ _ _ _ _ _ ⟨_, _⟩
  refine .seq (.seq (.r4 G [1, 3, 4] [(10, aB (decide (d < (b.Groups.length : Int))))] ?_))
  refine .cd hr ?_ ?_ <;> intro k hr
  ·refine .skip (.seq (.block (.seq ?_)))
   obtain ⟨g, hr⟩ := gd hr
   refine .r0 G (.mu 3 (.p0 (v := .pp (b.Groups.flatMap iCu) (d.toNat * 1)) (tr (au g)) (.p0 (v := br (gt b.Groups d)) (tr (aG (aH (aE .u32) (aC g) z1 (by omega : d.toNat * 1 = d.toNat * 1 + 0) (by kernel_rfl)))) (.mu 1 (.done (.nh [1, 3, 4, 18] [.own (ah.c b)] ?_))))))
   refine .cd hr ?_ ?_ <;> intro l hr
   ·refine .seq (.ru G (.ret ?_))
    obtain rfl := oi hr
    exact ⟨rfl, aK.ret (vs := [aB false]) (by kernel_rfl) (Sn.pure rfl)⟩
   refine .skip (.pop (.ru G ?_))
   exact aA (Fj (d + 1)) hr ((Wk.gc [1, 3, 4] [(0, true)] rfl trivial).to)
  refine .leave rfl ?_
  obtain rfl := oi hr
  exact ⟨rfl, ((Wk.gc [1, 3] [(0, true)] rfl trivial).to)⟩
 rcases h with ⟨⟩ | r0
 ·rintro x st' a
  clear e
  obtain ⟨rfl, a⟩ := a
  refine aW _ rfl (.wk a (.seq (.seq (.r4 G [1, 3] [(20, aB (((b.Groups.length : Int) : Int) == 0))] ?_))))
  refine .cd hr ?_ ?_ <;> intro i hr
  ·refine .seq (.ru G (.ret ?_))
   obtain rfl := oi hr
   exact aK.r1 [aB (!b.Negative)]
  refine .skip (.seq ?_)
  obtain ⟨f, hr⟩ := gd hr
  refine .r0 G (.mu 4 (.p0 (v := .pp (b.Groups.flatMap iCu) ((Fj ((b.Groups.length : Int) - 1)).toNat * 1)) (tr (au f)) (.p0 (v := br (gt b.Groups (Fj ((b.Groups.length : Int) - 1)))) (tr (aG (aH (aE .u32) (aC f) z1 (by omega : (Fj ((b.Groups.length : Int) - 1)).toNat * 1 = (Fj ((b.Groups.length : Int) - 1)).toNat * 1 + 0) (by kernel_rfl)))) (.mu 2 (.done (.ret ?_))))))
  obtain rfl := oi hr
  exact aK.r1 [aB (((gt b.Groups (Fj ((b.Groups.length : Int) - 1))) : Int) != 0)]
 rintro x st' a
 clear e
 obtain ⟨rfl, a⟩ := a
 obtain rfl := oi hr
 exact iz _ a

theorem fZ (n : Nat) {b : ah} {a : ah} (h : ([.agg (ah.c b)] : List AV) = [.agg (ah.c a)]) : bg n b = bg n a := by
 obtain rfl := eQ h
 rfl
theorem bO (n : Nat) (a : ah) (r : ah) (hr : bg n a = some r) : aL Tryz.prog 128 [.agg (ah.c a)] (.agg (ah.c r)) := by
 unfold bg at hr
 refine aL.bd G Tryz.func128 [.cell 2 40] ?_
 unfold Tryz.f128
 simp only [gS]
 refine .seq (.r2 G 14 [(1, .hp 0 0), (2, .hp 1 0)] [.own (ah.c a), .own [aB false, nS]] (.seq (.seq ?_)))
 obtain ⟨g, b, hr⟩ := bd hr
 refine .g1 G (ok0 (dK n a g b)) (.mu 1 (.ca cf0 (.mu 1 (.done (.nh [1, 2, 5] [.own (ah.c a), .own [aB false, nS]] ?_)))))
 refine .cd hr ?_ ?_ <;> intro i hr
 ·refine .seq (.r4 G [2] [] (.ret ?_))
  obtain rfl := oi hr
  exact aK.ret (vs := [.agg [aB false, nS]]) (by kernel_rfl) (Sn.agg (Sp (SnL.cons Sn.fR SnL.nil)))
 refine .skip (.seq ?_)
 obtain ⟨d, e, hr⟩ := gd2 hr
 refine .dZ G bI (.mu 5 (.ek (v := .hs 3 0 a.Groups.length 1) (ws := [(2, .dead), (3, .own (a.Groups.flatMap iCu))]) (tr (y := zk (decide (((a.Groups.flatMap iCu)).length = a.Groups.length * 1)) (a.Groups.flatMap iCu) a.Groups.length (fun z1 f => oC (decide (0 + 0 * 1 <= (([] : List Int).flatMap iCu).length) && decide ((0 + f) * 4 <= 140737488355328) && decide (0 + f <= 4611686018427387904)) (some (.eff (.hs 3 0 (0 + f) 1) [(2, .dead), (3, .own (((([] : List Int).flatMap iCu).drop 0).take (0 * 1) ++ z1))])))) (ur (nt (aE _)) rfl (fb (l := ([] : List Int)) (xs := a.Groups) (aE _) rfl rfl rfl d e))) (.mu 2 ?_)))
 refine .done ⟨by kernel_rfl, ?_⟩
 refine .nh [2] [.own (ah.c a), .own [aB a.Negative, .hs 3 0 a.Groups.length 1], .dead, .own (a.Groups.flatMap iCu)] (.ret ?_)
 obtain rfl := oi hr
 exact aK.ret (vs := [.agg [aB a.Negative, .hs 3 0 a.Groups.length 1]]) (by kernel_rfl) (Sn.agg (Sp (SnL.cons (Sn.hs rfl (.inl rfl) (SnC.pure (aY (aD _) _)) (fun h => cJ h)) SnL.nil)))

theorem fc (n : Nat) (a : ah) (r : Int) (hr : cD n a = some r) : aL Tryz.prog 113 [.agg (ah.c a)] (ae r) := by
 unfold cD at hr
 refine aL.bd G Tryz.func113 [.tmp 2] ?_
 unfold Tryz.f113
 simp only [gS]
 refine .seq (.r2 G 11 [(1, .hp 0 0)] [.own (ah.c a)] (.seq ?_))
 obtain ⟨b, d, hr⟩ := bd hr
 refine .g1 G (ok0 (bO n a b d)) (.mu 1 (.ca cf0 (.mu 1 (.done (.nh [1] [.own (ah.c b)] (.seq (.seq (.r4 G [1] [(8, aB (((b.Groups.length : Int) : Int) == 0))] ?_))))))))
 refine .cd hr ?_ ?_ <;> intro e hr
 ·refine .seq (.ru G (.ret ?_))
  obtain rfl := oi hr
  exact aK.r1 [ae 0]
 refine .skip (.seq (.seq (.r3 G 11 [(10, aB b.Negative)] ?_)))
 refine .cd hr ?_ ?_ <;> intro f hr
 ·refine .seq (.ru G (.ret ?_))
  obtain rfl := oi hr
  exact aK.r1 [ae (-1)]
 refine .skip (.seq (.ru G (.ret ?_)))
 obtain rfl := oi hr
 exact aK.r1 [ae 1]

theorem lS (n : Nat) (a : List Int) (d : Int) (r : List Int × Int) (hr : eV n a d = some r) : aL Tryz.prog 186 [an a, cK d] (.tup [an r.1, cK r.2]) := by
 unfold eV at hr
 refine aL.bd G Tryz.func186 [.tmp 4, .tmp 5] ?_
 unfold Tryz.f186
 simp only [gS]
 refine .seq (.r4 G [0, 1] [] (.seq ?_))
 obtain ⟨A, B, C, hr⟩ := gd3 hr
 refine .r0 G (.mu 2 (.e0 (v := .hs 0 0 (List.replicate (a.length : Int).toNat ((0 : Int) : Int)).length 1) (ws := [(0, .own ((List.replicate (a.length : Int).toNat ((0 : Int) : Int)).flatMap iCu))]) (tr (mE (c := iCu) (z := (0 : Int)) (n := (a.length : Int)) (by_ := 4) rfl A B C)) (.mu 1 (.done (.nh [0, 1, 6] [.own ((List.replicate (a.length : Int).toNat ((0 : Int) : Int)).flatMap iCu)] (.seq (.r4 G [0, 1, 6] [(7, cK 0)] (.seq (.seq (.r4 G [0, 1, 6, 7] [(8, ae (Fj ((a.length : Int) - 1)))] (.block ?_)))))))))))
 replace hr := bd hr; obtain ⟨t, p, hr⟩ := hr
 refine .aM (σ := fun E => match E with | (g, f, e) => ⟨mkS 42 0 [(0, an a), (1, cK d), (6, .hs 0 0 g.length 1), (7, cK f), (8, ae e)], [.own (g.flatMap iCu)]⟩) (Q := fun x st' => match (generalizing := false) t with | (i, j) => x = .exit 0 /\ Wk 0 st' ⟨mkS 42 0 [(6, .hs 0 0 i.length 1), (7, cK j)], [.own (i.flatMap iCu)]⟩) p ((Wk.gc [0, 1, 6, 7, 8] [(0, false)] rfl (pKo iCu (aD _) (List.replicate (a.length : Int).toNat ((0 : Int) : Int)) trivial)).to) ?_ ?_
 ·clear hr
  rintro m ⟨g, f, e⟩ hr
  show CQ _ _ _ _ _ ⟨_, _⟩
  refine .seq (.seq (.r4 G [0, 1, 6, 7, 8] [(17, aB (decide (e >= 0)))] ?_))
  refine .cd hr ?_ ?_ <;> intro D hr
  ·refine .skip (.seq (.block (.seq ?_)))
   obtain ⟨q, hr⟩ := gd hr
   refine .r0 G (.mu 4 (.p0 (v := .pp (a.flatMap iCu) (e.toNat * 1)) (tr (au q)) (.p0 (v := br (gt a e)) (tr (aG (aH (aE .u32) (aC q) z1 (by omega : e.toNat * 1 = e.toNat * 1 + 0) (by kernel_rfl)))) (.mu 3 (.done (.nh [0, 1, 6, 8, 9] [.own (g.flatMap iCu)] (.seq ?_)))))))
   obtain ⟨s, k, hr⟩ := gd2 hr
   refine .r0 G (.mu 4 (.p0 (v := cK (wFu ((wFu ((wFu (f * 1000000000)) + (wFu (gt a e)))).tdiv d))) (qY (x := wFu ((wFu (f * 1000000000)) + (wFu (gt a e)))) (y := d) (by kernel_rfl) (by kernel_rfl) s) (.mu 1 (.p0 (v := .hp 0 (0 + e.toNat * 1)) (tr (au k)) (.e0 (v := .unk) (ws := [(0, .own ((g.set e.toNat (aa .u32 (wFu ((wFu ((wFu (f * 1000000000)) + (wFu (gt a e)))).tdiv d)))).flatMap iCu))]) (tr (iD (iJ (cr (n := 1) (aE .u32) (aC k) (lbT rfl) (by omega : 0 + e.toNat * 1 = e.toNat * 1 + 0))) (congrArg Blk.own (cR (xs := [br (aa .u32 (wFu ((wFu ((wFu (f * 1000000000)) + (wFu (gt a e)))).tdiv d)))]) (aE .u32) (aC k) (lbT rfl) (by omega : 0 + e.toNat * 1 = e.toNat * 1 + 0) (by kernel_rfl))))) (.done (.nh [0, 1, 6, 8, 9] [.own ((g.set e.toNat (aa .u32 (wFu ((wFu ((wFu (f * 1000000000)) + (wFu (gt a e)))).tdiv d)))).flatMap iCu)] (.r0 G (.mu 2 (.p0 (v := cK ((wFu ((wFu (f * 1000000000)) + (wFu (gt a e)))).tmod d)) (qV (x := wFu ((wFu (f * 1000000000)) + (wFu (gt a e)))) (y := d) (by kernel_rfl) (by kernel_rfl) s) (.mu 1 (.done (.pop (.ru G ?_))))))))))))))
   exact aA (g.set e.toNat (aa .u32 (wFu ((wFu ((wFu (f * 1000000000)) + (wFu (gt a e)))).tdiv d))), (wFu ((wFu (f * 1000000000)) + (wFu (gt a e)))).tmod d, Fj (e - 1)) hr ((Wk.iH 6 (b := 0) (es := 1) (len := g.length) (g.set e.toNat (aa .u32 (wFu ((wFu ((wFu (f * 1000000000)) + (wFu (gt a e)))).tdiv d)))).length (by kernel_rfl) (Eq.symm (List.length_set.trans rfl))).trans ((Wk.gc [0, 1, 6, 7, 8] [(0, false)] rfl (pKo iCu (aD _) (g.set e.toNat (aa .u32 (wFu ((wFu ((wFu (f * 1000000000)) + (wFu (gt a e)))).tdiv d)))) trivial)).to))
  refine .leave rfl ?_
  obtain rfl := oi hr
  exact ⟨rfl, ((Wk.gc [6, 7] [(0, false)] rfl (pKo iCu (aD _) g trivial)).to)⟩
 rcases t with ⟨i, j⟩
 rintro x st' o
 clear p
 obtain ⟨rfl, o⟩ := o
 refine aW _ rfl (.wk o (.seq ?_))
 obtain ⟨u, w, hr⟩ := bd hr
 refine .g1 G (cE (args := [aB false, .hs 0 0 i.length 1]) (l := [0]) (Sp (SnL.cons (Sn.hs rfl (.inl rfl) (SnC.pure (aY (aD _) _)) (fun h => cJ h)) SnL.nil)) (aV n false i u w)) (.mu 1 (.ca cf0 (.mu 4 (.done (.ret ?_)))))
 obtain rfl := oi hr
 exact aK.ret (vs := [an u.Groups, cK j]) (by kernel_rfl) (Sn.tup (Sp (Sp SnL.nil)))

theorem jE (n : Nat) (a : List Int) (b : List Int) (r : Int) (hr : c5 n a b = some r) : aL Tryz.prog 155 [an a, an b] (ae r) := by
 unfold c5 at hr
 refine aL.bd G Tryz.func155 [.tmp 4] ?_
 unfold Tryz.f155
 simp only [gS]
 refine .seq (.r4 G [0, 1] [] (.seq (.seq (.r4 G [0, 1] [(10, aB (((a.length : Int) : Int) != (b.length : Int)))] ?_))))
 refine .cd hr ?_ ?_ <;> intro l hr
 ·refine .seq (.seq (.r3 G 41 [(15, aB (decide ((a.length : Int) < (b.length : Int))))] ?_))
  refine .cd hr ?_ ?_ <;> intro o hr
  ·refine .seq (.ru G (.ret ?_))
   obtain rfl := oi hr
   exact aK.r1 [ae (-1)]
  refine .skip (.seq (.ru G (.ret ?_)))
  obtain rfl := oi hr
  exact aK.r1 [ae 1]
 refine .skip (.seq (.seq (.r4 G [0, 1] [(5, ae (Fj ((a.length : Int) - 1)))] (.block ?_))))
 replace hr := bd hr; obtain ⟨h, g, hr⟩ := hr
 refine .aM (σ := fun p => match p with | c => ⟨mkS 41 0 [(0, an a), (1, an b), (5, ae c)], []⟩) (Q := fun x st' => match (generalizing := false) h with | .inl _ => x = .exit 0 /\ Wk 0 st' ⟨mkS 41 0 [], []⟩ | .inr (r0) => x = .ret /\ aK Tryz.prog [.tmp 4] (ae r0) .ret st') g ((Wk.gc [0, 1, 5] [] rfl pK0).to) ?_ ?_
 ·clear hr
  rintro m c hr
  show CQ _ _ _ _ _ ⟨_, _⟩
  refine .seq (.seq (.r4 G [0, 1, 5] [(20, aB (decide (c >= 0)))] ?_))
  refine .cd hr ?_ ?_ <;> intro i hr
  ·refine .skip (.seq (.block (.seq (.seq ?_))))
   obtain ⟨e, f, hr⟩ := gd2 hr
   refine .dZ G bI (.mu 2 (.pk (v := .pp (a.flatMap iCu) (c.toNat * 1)) (tr (au e)) (.pk (v := br (gt a c)) (tr (aG (aH (aE .u32) (aC e) z1 (by omega : c.toNat * 1 = c.toNat * 1 + 0) (by kernel_rfl)))) (.mu 2 (.pk (v := .pp (b.flatMap iCu) (c.toNat * 1)) (tr (au f)) (.pk (v := br (gt b c)) (tr (aG (aH (aE .u32) (aC f) z1 (by omega : c.toNat * 1 = c.toNat * 1 + 0) (by kernel_rfl)))) (.mu 1 ?_)))))))
   refine .done ⟨by kernel_rfl, ?_⟩
   refine .nh [0, 1, 5, 31] [] ?_
   refine .cd hr ?_ ?_ <;> intro j hr
   ·refine .seq (.ru G (.ret ?_))
    obtain rfl := oi hr
    exact ⟨rfl, aK.ret (vs := [ae (-1)]) (by kernel_rfl) (Sn.pure rfl)⟩
   refine .skip (.seq (.dZ G bI (.mu 2 (.pk (v := .pp (a.flatMap iCu) (c.toNat * 1)) (tr (au e)) (.pk (v := br (gt a c)) (tr (aG (aH (aE .u32) (aC e) z1 (by omega : c.toNat * 1 = c.toNat * 1 + 0) (by kernel_rfl)))) (.mu 2 (.pk (v := .pp (b.flatMap iCu) (c.toNat * 1)) (tr (au f)) (.pk (v := br (gt b c)) (tr (aG (aH (aE .u32) (aC f) z1 (by omega : c.toNat * 1 = c.toNat * 1 + 0) (by kernel_rfl)))) (.mu 1 ?_)))))))))
   refine .done ⟨by kernel_rfl, ?_⟩
   refine .nh [0, 1, 5, 40] [] ?_
   refine .cd hr ?_ ?_ <;> intro k hr
   ·refine .seq (.ru G (.ret ?_))
    obtain rfl := oi hr
    exact ⟨rfl, aK.ret (vs := [ae 1]) (by kernel_rfl) (Sn.pure rfl)⟩
   refine .skip (.pop (.ru G ?_))
   exact aA (Fj (c - 1)) hr ((Wk.gc [0, 1, 5] [] rfl pK0).to)
  refine .leave rfl ?_
  obtain rfl := oi hr
  exact ⟨rfl, ((Wk.gc [] [] rfl pK0).to)⟩
 rcases h with ⟨⟩ | r0
 ·rintro x st' d
  clear g
  obtain ⟨rfl, d⟩ := d
  refine aW _ rfl (.wk d (.seq (.ru G (.ret ?_))))
  obtain rfl := oi hr
  exact aK.r1 [ae 0]
 rintro x st' d
 clear g
 obtain ⟨rfl, d⟩ := d
 obtain rfl := oi hr
 exact iz _ d

theorem oH {a : List Int} {d : Int} {b : List Int} {c : Int} (h : ([slT iCu a, .at (.int .u64 d)] : List AV) = [slT iCu b, .at (.int .u64 c)]) : a = b /\ d = c := by
 simp only [List.cons.injEq, AV.agg.injEq, AV.at.injEq, Value.int.injEq, Value.bool.injEq, AV.fn.injEq, AV.pp.injEq, true_and, and_true, eC] at h
 simp_all
theorem o5 (n : Nat) {a : List Int} {d : Int} {b : List Int} {c : Int} (h : ([slT iCu a, .at (.int .u64 d)] : List AV) = [slT iCu b, .at (.int .u64 c)]) : cl n a d = cl n b c := by
 obtain ⟨rfl, rfl⟩ := oH h
 rfl
theorem iK (n : Nat) (a : List Int) (d : Int) (r : List Int) (hr : cl n a d = some r) : aL Tryz.prog 187 [an a, cK d] (an r) := by
 unfold cl at hr
 refine aL.bd G Tryz.func187 [.tmp 4] ?_
 unfold Tryz.f187
 simp only [gS]
 refine .seq (.r4 G [0, 1] [] (.seq (.r5 G [0, 1] [(5, .hs 0 0 0 1)] [.own []] (.seq (.r4 G [0, 1, 5] [(6, cK 0)] (.seq (.seq (.r4 G [0, 1, 5, 6] [(7, ae 0)] (.block ?_)))))))))
 replace hr := bd hr; obtain ⟨o, j, hr⟩ := hr
 refine .aM (σ := fun z => match z with | (c, e, b) => ⟨mkS 40 0 [(0, an a), (1, cK d), (5, .hs 0 0 c.length 1), (6, cK e), (7, ae b)], [.own (c.flatMap iCu)]⟩) (Q := fun x st' => match (generalizing := false) o with | (g, f) => x = .exit 0 /\ Wk 0 st' ⟨mkS 40 0 [(5, .hs 0 0 g.length 1), (6, cK f)], [.own (g.flatMap iCu)]⟩) j ((Wk.gc [0, 1, 5, 6, 7] [(0, false)] rfl (pKc trivial)).to) ?_ ?_
 ·clear hr
  rintro m ⟨c, e, b⟩ hr
  show CQ _ _ _ _ _ ⟨_, _⟩
  refine .seq (.seq (.r4 G [0, 1, 5, 6, 7] [(13, aB (decide (b < (a.length : Int))))] ?_))
  refine .cd hr ?_ ?_ <;> intro y hr
  ·refine .skip (.seq (.block (.seq ?_)))
   obtain ⟨k, hr⟩ := gd hr
   refine .r0 G (.mu 2 (.p0 (v := .pp (a.flatMap iCu) (b.toNat * 1)) (tr (au k)) (.p0 (v := br (gt a b)) (tr (aG (aH (aE .u32) (aC k) z1 (by omega : b.toNat * 1 = b.toNat * 1 + 0) (by kernel_rfl)))) (.mu 6 (.done (.nh [0, 1, 5, 7, 8] [.own (c.flatMap iCu)] (.seq ?_)))))))
   obtain ⟨p, q, hr⟩ := gd2 hr
   refine .r0 G (.mu 5 (.e0 (v := .hs 2 0 (c ++ [aa .u32 ((wFu ((wFu ((wFu (gt a b)) * d)) + e)).tmod 1000000000)]).length 1) (ws := [(0, .dead), (2, .own ((c ++ [aa .u32 ((wFu ((wFu ((wFu (gt a b)) * d)) + e)).tmod 1000000000)]).flatMap iCu))]) (tr (fb (new := [br (aa .u32 ((wFu ((wFu ((wFu (gt a b)) * d)) + e)).tmod 1000000000))]) (l := c) (xs := [aa .u32 ((wFu ((wFu ((wFu (gt a b)) * d)) + e)).tmod 1000000000)]) (aE .u32) rfl rfl (by kernel_rfl) p q)) (.mu 1 (.done (.nh [0, 1, 5, 7, 8] [.dead, .own [br (aa .u32 ((wFu ((wFu ((wFu (gt a b)) * d)) + e)).tmod 1000000000))], .own ((c ++ [aa .u32 ((wFu ((wFu ((wFu (gt a b)) * d)) + e)).tmod 1000000000)]).flatMap iCu)] (.ru G (.pop (.ru G ?_))))))))
   exact aA (c ++ [aa .u32 ((wFu ((wFu ((wFu (gt a b)) * d)) + e)).tmod 1000000000)], wFu ((wFu ((wFu ((wFu (gt a b)) * d)) + e)).tdiv 1000000000), Fj (b + 1)) hr ((Wk.gc [0, 1, 5, 6, 7] [(2, false)] rfl (pKo iCu (aD _) (c ++ [aa .u32 ((wFu ((wFu ((wFu (gt a b)) * d)) + e)).tmod 1000000000)]) trivial)).to)
  refine .leave rfl ?_
  obtain rfl := oi hr
  exact ⟨rfl, ((Wk.gc [5, 6] [(0, false)] rfl (pKo iCu (aD _) c trivial)).to)⟩
 rcases o with ⟨g, f⟩
 rintro x st' i
 clear j
 obtain ⟨rfl, i⟩ := i
 refine aW _ rfl (.wk i (.seq ?_))
 obtain ⟨s, t, hr⟩ := gd2 hr
 obtain ⟨u, w, hr⟩ := bd hr
 refine .gn G (ca4 [.dead, .own [br (aa .u32 f)], .own ((g ++ [aa .u32 f]).flatMap iCu)] (cE (args := [aB false, .hs 2 0 (g ++ [aa .u32 f]).length 1]) (l := [2]) (Sp (SnL.cons (Sn.hs rfl (.inl rfl) (SnC.pure (aY (aD _) _)) (fun h => cJ h)) SnL.nil)) (aV n false (g ++ [aa .u32 f]) u w))) (.mu 4 (.e0 (v := .hs 2 0 (g ++ [aa .u32 f]).length 1) (ws := [(0, .dead), (2, .own ((g ++ [aa .u32 f]).flatMap iCu))]) (tr (fb (new := [br (aa .u32 f)]) (l := g) (xs := [aa .u32 f]) (aE .u32) rfl rfl (by kernel_rfl) s t)) (.ca cf0 (.mu 2 (.done (.ret ?_))))))
 obtain rfl := oi hr
 exact aK.r1 [an u.Groups]

theorem oP (n : Nat) (a : List Int) (d : Int) (r : List Int) (hr : dU n a d = some r) : aL Tryz.prog 188 [an a, br d] (an r) := by
 unfold dU at hr
 refine aL.bd G Tryz.func188 [.tmp 4] ?_
 unfold Tryz.f188
 simp only [gS]
 refine .seq (.r4 G [0, 1] [] (.seq ?_))
 obtain ⟨b, c, hr⟩ := gd2 hr
 obtain ⟨g, e, hr⟩ := bd hr
 refine .gn G (ca4 [.dead, .own (([d] ++ a).flatMap iCu)] (cE (args := [aB false, .hs 1 0 ([d] ++ a).length 1]) (l := [1]) (Sp (SnL.cons (Sn.hs rfl (.inl rfl) (SnC.pure (aY (aD _) _)) (fun h => cJ h)) SnL.nil)) (aV n false ([d] ++ a) g e))) (.mu 3 (.e0 (v := .hs 1 0 ([d] ++ a).length 1) (ws := [(0, .dead), (1, .own (([d] ++ a).flatMap iCu))]) (tr (y := zk (decide (((a.flatMap iCu)).length = a.length * 1)) (a.flatMap iCu) a.length (fun z1 f => oC (decide (0 + 1 * 1 <= ([d].flatMap iCu).length) && decide ((1 + f) * 4 <= 140737488355328) && decide (1 + f <= 4611686018427387904)) (some (.eff (.hs 1 0 (1 + f) 1) [(0, .dead), (1, .own ((([d].flatMap iCu).drop 0).take (1 * 1) ++ z1))])))) (ur (nt (aE _)) rfl (fb (l := [d]) (xs := a) (aE _) rfl rfl rfl b c))) (.ca cf0 (.mu 2 (.done (.ret ?_))))))
 obtain rfl := oi hr
 exact aK.r1 [an g.Groups]

theorem eN (n : Nat) {l : List Int} {i : Int} {a : List Int} {b : Int} (h : ([slT iCu l, .at (.int .i64 i)] : List AV) = [slT iCu a, .at (.int .i64 b)]) : aX n l i = aX n a b := by
 obtain ⟨rfl, rfl⟩ := qQ h
 rfl
theorem bM (n : Nat) (l : List Int) (i : Int) (r : Int) (hr : aX n l i = some r) : aL Tryz.prog 189 [an l, ae i] (cK r) := by
 unfold aX at hr
 refine aL.bd G Tryz.func189 [.tmp 4] ?_
 unfold Tryz.f189
 simp only [gS]
 refine .seq (.r4 G [0, 1] [] (.seq (.seq (.r4 G [0, 1] [(8, aB (decide (i < (l.length : Int))))] ?_))))
 refine .cd hr ?_ ?_ <;> intro b hr
 ·refine .seq ?_
  obtain ⟨a, hr⟩ := gd hr
  refine .r0 G (.mu 2 (.p0 (v := .pp (l.flatMap iCu) (i.toNat * 1)) (tr (au a)) (.p0 (v := br (gt l i)) (tr (aG (aH (aE .u32) (aC a) z1 (by omega : i.toNat * 1 = i.toNat * 1 + 0) (by kernel_rfl)))) (.mu 2 (.done (.ret ?_))))))
  obtain rfl := oi hr
  exact aK.r1 [cK (wFu (gt l i))]
 refine .skip (.seq (.ru G (.ret ?_)))
 obtain rfl := oi hr
 exact aK.r1 [cK 0]

theorem fW (n : Nat) (a : List Int) (b : List Int) (r : List Int) (hr : cj n a b = some r) : aL Tryz.prog 156 [an a, an b] (an r) := by
 unfold cj at hr
 refine aL.bd G Tryz.func156 [.tmp 4] ?_
 unfold Tryz.f156
 simp only [gS]
 refine .seq (.r4 G [0, 1] [] (.seq (.r5 G [0, 1] [(5, .hs 0 0 0 1)] [.own []] (.seq (.r4 G [0, 1, 5] [(6, cK 0)] (.seq (.seq (.r4 G [0, 1, 5, 6] [(7, ae 0)] (.block ?_)))))))))
 replace hr := bd hr; obtain ⟨g, k, hr⟩ := hr
 refine .aM (σ := fun w => match w with | (c, d, i) => ⟨mkS 38 0 [(0, an a), (1, an b), (5, .hs 0 0 c.length 1), (6, cK d), (7, ae i)], [.own (c.flatMap iCu)]⟩) (Q := fun x st' => x = .exit 0 /\ Wk 0 st' ⟨mkS 38 0 [(5, .hs 0 0 g.length 1)], [.own (g.flatMap iCu)]⟩) k ((Wk.gc [0, 1, 5, 6, 7] [(0, false)] rfl (pKc trivial)).to) ?_ ?_
 ·clear hr
  rintro m ⟨c, d, i⟩ hr
  show CQ _ _ _ _ _ ⟨_, _⟩
  refine .seq (.seq (.r4 G [0, 1, 5, 6, 7] [(13, aB (decide (i < (a.length : Int))))] ?_))
  refine .cd hr ?_ ?_ <;> intro u hr
  ·refine .skip (.seq (.block (.seq ?_)))
   obtain ⟨e, o, f, p, hr⟩ := bd2 hr
   refine .gn G (ca1 (ok0 (bM n a i e o)) (ca3 (ok0 (bM n b i f p)))) (.mu 2 (.ca cf0 (.mu 3 (.ca (cfA (fun h => by rw [sv p o (eN n h)]) cf0) (.mu 4 (.done (.nh [0, 1, 5, 7, 8] [.own (c.flatMap iCu)] (.seq ?_))))))))
   obtain ⟨q, s, hr⟩ := gd2 hr
   refine .r0 G (.mu 5 (.e0 (v := .hs 2 0 (c ++ [aa .u32 ((wFu ((wFu ((wFu (1000000000 + e)) - f)) - d)).tmod 1000000000)]).length 1) (ws := [(0, .dead), (2, .own ((c ++ [aa .u32 ((wFu ((wFu ((wFu (1000000000 + e)) - f)) - d)).tmod 1000000000)]).flatMap iCu))]) (tr (fb (new := [br (aa .u32 ((wFu ((wFu ((wFu (1000000000 + e)) - f)) - d)).tmod 1000000000))]) (l := c) (xs := [aa .u32 ((wFu ((wFu ((wFu (1000000000 + e)) - f)) - d)).tmod 1000000000)]) (aE .u32) rfl rfl (by kernel_rfl) q s)) (.mu 1 (.done (.nh [0, 1, 5, 7, 8] [.dead, .own [br (aa .u32 ((wFu ((wFu ((wFu (1000000000 + e)) - f)) - d)).tmod 1000000000))], .own ((c ++ [aa .u32 ((wFu ((wFu ((wFu (1000000000 + e)) - f)) - d)).tmod 1000000000)]).flatMap iCu)] (.ru G (.pop (.ru G ?_))))))))
   exact aA (c ++ [aa .u32 ((wFu ((wFu ((wFu (1000000000 + e)) - f)) - d)).tmod 1000000000)], wFu (1 - (wFu ((wFu ((wFu ((wFu (1000000000 + e)) - f)) - d)).tdiv 1000000000))), Fj (i + 1)) hr ((Wk.gc [0, 1, 5, 6, 7] [(2, false)] rfl (pKo iCu (aD _) (c ++ [aa .u32 ((wFu ((wFu ((wFu (1000000000 + e)) - f)) - d)).tmod 1000000000)]) trivial)).to)
  refine .leave rfl ?_
  obtain rfl := oi hr
  exact ⟨rfl, ((Wk.gc [5] [(0, false)] rfl (pKo iCu (aD _) c trivial)).to)⟩
 rintro x st' j
 clear k
 obtain ⟨rfl, j⟩ := j
 refine aW _ rfl (.wk j (.seq ?_))
 obtain ⟨v23, t, hr⟩ := bd hr
 refine .g1 G (cE (args := [aB false, .hs 0 0 g.length 1]) (l := [0]) (Sp (SnL.cons (Sn.hs rfl (.inl rfl) (SnC.pure (aY (aD _) _)) (fun h => cJ h)) SnL.nil)) (aV n false g v23 t)) (.mu 1 (.ca cf0 (.mu 2 (.done (.ret ?_)))))
 obtain rfl := oi hr
 exact aK.r1 [an v23.Groups]

theorem jc (n : Nat) (a : List Int) (b : List Int) (r : List Int × List Int) (hr : dh n a b = some r) : aL Tryz.prog 152 [an a, an b] (.tup [an r.1, an r.2]) := by
 unfold dh at hr
 refine aL.bd G Tryz.func152 [.tmp 4, .tmp 5] ?_
 unfold Tryz.f152
 simp only [gS]
 refine .seq (.r4 G [0, 1] [] (.seq (.r4 G [0, 1] [(6, ae (b.length : Int))] (.seq (.seq (.r4 G [0, 1, 6] [(19, aB (((b.length : Int) : Int) == 1))] ?_))))))
 refine .cd hr ?_ ?_ <;> intro nG hr
 ·refine .seq ?_
  obtain ⟨R, hr⟩ := gd hr
  obtain ⟨v3, jo, hr⟩ := bd hr
  refine .g1 G (ok0 (lS n a (wFu (gt b 0)) v3 jo)) (.mu 2 (.p0 (v := .pp (b.flatMap iCu) ((0 : Int).toNat * 1)) (tr (au R)) (.p0 (v := br (gt b 0)) (tr (aG (aH (aE .u32) (aC R) z1 (by omega : (0 : Int).toNat * 1 = (0 : Int).toNat * 1 + 0) (by kernel_rfl)))) (.mu 1 (.ca cf0 (.mu 5 (.done (.nh [7, 8] [] (.seq ?_)))))))))
  obtain ⟨v5, jJ, hr⟩ := bd hr
  refine .gn G (ca4 [.own [br (aa .u32 v3.2)]] (cE (args := [aB false, .hs 0 0 1 1]) (l := [0]) (Sp (SnL.cons (Sn.hs rfl (.inl rfl) (SnC.cons (Sn.pure rfl) SnC.nil) (fun h => nomatch h)) SnL.nil)) (aV n false [(aa .u32 v3.2)] v5 jJ))) (.mu 4 (.ca cf0 (.mu 3 (.done (.ret ?_)))))
  obtain rfl := oi hr
  exact aK.ret (vs := [an v3.1, an v5.Groups]) (by kernel_rfl) (Sn.tup (Sp (Sp SnL.nil)))
 refine .skip (.seq (.seq ?_))
 obtain ⟨v7, jL, hr⟩ := bd hr
 refine .g1 G (ok0 (jE n a b v7 jL)) (.mu 2 (.ca cf0 (.mu 1 (.done (.nh [0, 1, 6, 38] [] ?_)))))
 refine .cd hr ?_ ?_ <;> intro n7 hr
 ·refine .seq (.r5 G [] [(4, .hs 0 0 0 1), (5, an a)] [.own []] (.ret ?_))
  obtain rfl := oi hr
  exact aK.ret (vs := [.hs 0 0 0 1, an a]) (by kernel_rfl) (Sn.tup (SnL.cons (Sn.hs rfl (.inl rfl) SnC.nil (fun _ => rfl)) (Sp SnL.nil)))
 refine .skip (.seq ?_)
 obtain ⟨C, S, hr⟩ := gd2 hr
 refine .r0 G (.mu 3 (.p0 (v := .pp (b.flatMap iCu) ((Fj ((b.length : Int) - 1)).toNat * 1)) (tr (au C)) (.p0 (v := br (gt b (Fj ((b.length : Int) - 1)))) (tr (aG (aH (aE .u32) (aC C) z1 (by omega : (Fj ((b.length : Int) - 1)).toNat * 1 = (Fj ((b.length : Int) - 1)).toNat * 1 + 0) (by kernel_rfl)))) (.mu 2 (.p0 (v := cK (wFu ((1000000000 : Int).tdiv (wFu ((wFu (gt b (Fj ((b.length : Int) - 1)))) + 1))))) (qY (x := 1000000000) (y := wFu ((wFu (gt b (Fj ((b.length : Int) - 1)))) + 1)) (by kernel_rfl) (by kernel_rfl) S) (.mu 1 (.done (.nh [0, 1, 6, 9] [] (.seq ?_)))))))))
 obtain ⟨v12, D, f, E, hr⟩ := bd2 hr
 refine .gn G (ca1 (ok0 (iK n a (wFu ((1000000000 : Int).tdiv (wFu ((wFu (gt b (Fj ((b.length : Int) - 1)))) + 1)))) v12 D)) (ca3 (ok0 (iK n b (wFu ((1000000000 : Int).tdiv (wFu ((wFu (gt b (Fj ((b.length : Int) - 1)))) + 1)))) f E)))) (.mu 2 (.ca cf0 (.mu 2 (.ca (cfA (fun h => by rw [sv E D (o5 n h)]) cf0) (.mu 2 (.done (.nh [0, 1, 6, 9] [] (.seq ?_))))))))
 obtain ⟨F, hr⟩ := gd hr
 obtain ⟨kq, T, hr⟩ := bd hr
 refine .g1 G (ok0 (aV n false ((v12.drop (Fj ((Fj ((v12.length : Int) - (b.length : Int))) + 1)).toNat).take ((v12.length : Int).toNat - (Fj ((Fj ((v12.length : Int) - (b.length : Int))) + 1)).toNat)) kq T)) (.mu 6 (.p0 (v := an ((v12.drop (Fj ((Fj ((v12.length : Int) - (b.length : Int))) + 1)).toNat).take ((v12.length : Int).toNat - (Fj ((Fj ((v12.length : Int) - (b.length : Int))) + 1)).toNat))) (tr (y := slO (inS (Fj ((Fj ((v12.length : Int) - (b.length : Int))) + 1)) (v12.length : Int) v12.length) (Fj ((Fj ((v12.length : Int) - (b.length : Int))) + 1)).toNat (v12.length : Int).toNat (fun z1 z2 => .sl true (((v12.flatMap iCu).drop (z1 * 1)).take ((z2 - z1) * 1)) (z2 - z1))) (xg F (tQ (aE _) (qE F)))) (.ca cf0 (.mu 2 (.done (.nh [0, 1, 6, 9, 10] [] (.seq ?_)))))))
 obtain ⟨U, V, W, hr⟩ := gd3 hr
 refine .r0 G (.mu 5 (.e0 (v := .hs 0 0 (List.replicate (Fj ((Fj ((v12.length : Int) - (b.length : Int))) + 1)).toNat ((0 : Int) : Int)).length 1) (ws := [(0, .own ((List.replicate (Fj ((Fj ((v12.length : Int) - (b.length : Int))) + 1)).toNat ((0 : Int) : Int)).flatMap iCu))]) (tr (mE (c := iCu) (z := (0 : Int)) (n := Fj ((Fj ((v12.length : Int) - (b.length : Int))) + 1)) (by_ := 4) rfl U V W)) (.mu 1 (.done (.nh [0, 1, 6, 9, 10, 11] [.own ((List.replicate (Fj ((Fj ((v12.length : Int) - (b.length : Int))) + 1)).toNat ((0 : Int) : Int)).flatMap iCu)] (.seq (.seq (.r4 G [0, 1, 6, 9, 10, 11] [(12, ae (Fj ((v12.length : Int) - (b.length : Int))))] (.block ?_)))))))))
 replace hr := bd hr; obtain ⟨X, H, hr⟩ := hr
 refine .aM (σ := fun z0 => match z0 with | (k, d, e) => ⟨mkS 130 0 [(0, an v12), (1, an f), (6, ae (b.length : Int)), (9, cK (wFu ((1000000000 : Int).tdiv (wFu ((wFu (gt b (Fj ((b.length : Int) - 1)))) + 1))))), (10, an k), (11, .hs 0 0 d.length 1), (12, ae e)], [.own (d.flatMap iCu)]⟩) (Q := fun x st' => match (generalizing := false) X with | (o, i) => x = .exit 0 /\ Wk 0 st' ⟨mkS 130 0 [(9, cK (wFu ((1000000000 : Int).tdiv (wFu ((wFu (gt b (Fj ((b.length : Int) - 1)))) + 1))))), (10, an o), (11, .hs 0 0 i.length 1)], [.own (i.flatMap iCu)]⟩) H ((Wk.gc [0, 1, 6, 9, 10, 11, 12] [(0, false)] rfl (pKo iCu (aD _) (List.replicate (Fj ((Fj ((v12.length : Int) - (b.length : Int))) + 1)).toNat ((0 : Int) : Int)) trivial)).to) ?_ ?_
 ·clear hr
  rintro m ⟨k, d, e⟩ hr
  show CQ _ _ _ _ _ ⟨_, _⟩
  refine .seq (.seq (.r4 G [0, 1, 6, 9, 10, 11, 12] [(75, aB (decide (e >= 0)))] ?_))
  refine .cd hr ?_ ?_ <;> intro mJ hr
  ·refine .skip (.seq (.block (.seq ?_)))
   obtain ⟨I, hr⟩ := gd hr
   obtain ⟨w, Y, hr⟩ := bd hr
   refine .g1 G (ok0 (oP n k (gt v12 e) w Y)) (.mu 3 (.p0 (v := .pp (v12.flatMap iCu) (e.toNat * 1)) (tr (au I)) (.p0 (v := br (gt v12 e)) (tr (aG (aH (aE .u32) (aC I) z1 (by omega : e.toNat * 1 = e.toNat * 1 + 0) (by kernel_rfl)))) (.ca cf0 (.mu 1 (.done (.nh [0, 1, 6, 9, 10, 11, 12] [.own (d.flatMap iCu)] (.seq ?_))))))))
   obtain ⟨A, J, B, L, hr⟩ := bd2 hr
   obtain ⟨M, Z, hr⟩ := gd2 hr
   refine .tn G (ca1 (ok0 (bM n w (b.length : Int) A J)) (ca3 (ok0 (bM n w (Fj ((b.length : Int) - 1)) B L)))) (.mu 2 (.ca cf0 (.mu 4 (.ca (cfA (fun h => by rw [sv L J (eN n h)]) cf0) (.mu 4 (.pk (v := .pp (f.flatMap iCu) ((Fj ((b.length : Int) - 1)).toNat * 1)) (tr (au M)) (.pk (v := br (gt f (Fj ((b.length : Int) - 1)))) (tr (aG (aH (aE .u32) (aC M) z1 (by omega : (Fj ((b.length : Int) - 1)).toNat * 1 = (Fj ((b.length : Int) - 1)).toNat * 1 + 0) (by kernel_rfl)))) (.mu 2 (.pk (v := cK (wFu ((wFu ((wFu (A * 1000000000)) + B)).tdiv (wFu ((wFu (gt f (Fj ((b.length : Int) - 1)))) + 1))))) (qY (x := wFu ((wFu (A * 1000000000)) + B)) (y := wFu ((wFu (gt f (Fj ((b.length : Int) - 1)))) + 1)) (by kernel_rfl) (by kernel_rfl) Z) (.mu 1 ?_))))))))))
   refine .done ⟨by kernel_rfl, ?_⟩
   refine .nh [0, 1, 6, 9, 10, 11, 12, 13] [.own (d.flatMap iCu)] (.seq ?_)
   obtain ⟨iP, j4, kD, ko, hr⟩ := bd2 hr
   refine .gn G (ca1 (ok0 (iK n f (wFu ((wFu ((wFu (A * 1000000000)) + B)).tdiv (wFu ((wFu (gt f (Fj ((b.length : Int) - 1)))) + 1)))) iP j4)) (ca3 (ok0 (fW n w iP kD ko)))) (.mu 3 (.ca cf0 (.ca (cfF cf0) (.mu 1 (.done (.nh [0, 1, 6, 9, 10, 11, 12, 13] [.own (d.flatMap iCu)] (.seq (.block ?_))))))))
   replace hr := bd hr; obtain ⟨kj, N, hr⟩ := hr
   refine .aM (σ := fun z0 => match z0 with | (j, p) => ⟨mkS 130 0 [(0, an v12), (1, an f), (6, ae (b.length : Int)), (9, cK (wFu ((1000000000 : Int).tdiv (wFu ((wFu (gt b (Fj ((b.length : Int) - 1)))) + 1))))), (10, an j), (11, .hs 0 0 d.length 1), (12, ae e), (13, cK p)], [.own (d.flatMap iCu)]⟩) (Q := fun x st' => match (generalizing := false) kj with | (q, g) => x = .exit 2 /\ Wk 0 st' ⟨mkS 130 0 [(0, an v12), (1, an f), (6, ae (b.length : Int)), (9, cK (wFu ((1000000000 : Int).tdiv (wFu ((wFu (gt b (Fj ((b.length : Int) - 1)))) + 1))))), (10, an q), (11, .hs 0 0 d.length 1), (12, ae e), (13, cK g)], [.own (d.flatMap iCu)]⟩) N ((Wk.gc [0, 1, 6, 9, 10, 11, 12, 13] [(0, false)] rfl (pKo iCu (aD _) d trivial)).to) ?_ ?_
   ·clear hr
    rintro m ⟨j, p⟩ hr
    show CQ _ _ _ _ _ ⟨_, _⟩
    refine .seq (.seq ?_)
    obtain ⟨l6, kz, hr⟩ := bd hr
    refine .g1 G (ok0 (jE n j f l6 kz)) (.mu 2 (.ca cf0 (.mu 1 (.done (.nh [0, 1, 6, 9, 10, 11, 12, 13, 109] [.own (d.flatMap iCu)] ?_)))))
    refine .cd hr ?_ ?_ <;> intro nz hr
    ·refine .skip (.block (.seq ?_))
     obtain ⟨ki, kO, hr⟩ := bd hr
     refine .g1 G (ok0 (fW n j f ki kO)) (.mu 2 (.ca cf0 (.mu 1 (.done (.nh [0, 1, 6, 9, 10, 11, 12, 13] [.own (d.flatMap iCu)] (.ru G (.pop ?_)))))))
     exact aA (ki, wFu (p + 1)) hr ((Wk.gc [0, 1, 6, 9, 10, 11, 12, 13] [(0, false)] rfl (pKo iCu (aD _) d trivial)).to)
    refine .leave rfl ?_
    obtain rfl := oi hr
    exact ⟨rfl, ((Wk.gc [0, 1, 6, 9, 10, 11, 12, 13] [(0, false)] rfl (pKo iCu (aD _) d trivial)).to)⟩
   rcases kj with ⟨q, g⟩
   rintro x st' s
   clear N
   obtain ⟨rfl, s⟩ := s
   refine aW _ rfl (.wk s ?_)
   obtain ⟨t, hr⟩ := gd hr
   refine .r0 G (.mu 4 (.p0 (v := .hp 0 (0 + e.toNat * 1)) (tr (au t)) (.e0 (v := .unk) (ws := [(0, .own ((d.set e.toNat (aa .u32 g)).flatMap iCu))]) (tr (iD (iJ (cr (n := 1) (aE .u32) (aC t) (lbT rfl) (by omega : 0 + e.toNat * 1 = e.toNat * 1 + 0))) (congrArg Blk.own (cR (xs := [br (aa .u32 g)]) (aE .u32) (aC t) (lbT rfl) (by omega : 0 + e.toNat * 1 = e.toNat * 1 + 0) (by kernel_rfl))))) (.done (.pop (.ru G ?_))))))
   exact aA (q, d.set e.toNat (aa .u32 g), Fj (e - 1)) hr ((Wk.iH 11 (b := 0) (es := 1) (len := d.length) (d.set e.toNat (aa .u32 g)).length (by kernel_rfl) (Eq.symm (List.length_set.trans rfl))).trans ((Wk.gc [0, 1, 6, 9, 10, 11, 12] [(0, false)] rfl (pKo iCu (aD _) (d.set e.toNat (aa .u32 g)) trivial)).to))
  refine .leave rfl ?_
  obtain rfl := oi hr
  exact ⟨rfl, ((Wk.gc [9, 10, 11] [(0, false)] rfl (pKo iCu (aD _) d trivial)).to)⟩
 rcases X with ⟨o, i⟩
 rintro x st' u
 clear H
 obtain ⟨rfl, u⟩ := u
 refine aW _ rfl (.wk u (.seq ?_))
 obtain ⟨lj, ml, hr⟩ := bd hr
 refine .g1 G (ok0 (lS n o (wFu ((1000000000 : Int).tdiv (wFu ((wFu (gt b (Fj ((b.length : Int) - 1)))) + 1)))) lj ml)) (.mu 2 (.ca cf0 (.mu 5 (.done (.nh [11, 14] [.own (i.flatMap iCu)] (.seq ?_))))))
 obtain ⟨mc, O, hr⟩ := bd hr
 refine .g1 G (cE (args := [aB false, .hs 0 0 i.length 1]) (l := [0]) (Sp (SnL.cons (Sn.hs rfl (.inl rfl) (SnC.pure (aY (aD _) _)) (fun h => cJ h)) SnL.nil)) (aV n false i mc O)) (.mu 1 (.ca cf0 (.mu 4 (.done (.ret ?_)))))
 obtain rfl := oi hr
 exact aK.ret (vs := [an mc.Groups, an lj.1]) (by kernel_rfl) (Sn.tup (Sp (Sp SnL.nil)))

theorem pR {a : List Int} {b : List Int} (h : ([slT iCu a] : List AV) = [slT iCu b]) : a = b := by
 simp only [List.cons.injEq, AV.agg.injEq, AV.at.injEq, Value.int.injEq, Value.bool.injEq, AV.fn.injEq, AV.pp.injEq, true_and, and_true, eC] at h
 simp_all
theorem qh (n : Nat) {a : List Int} {b : List Int} (h : ([slT iCu a] : List AV) = [slT iCu b]) : dz n a = dz n b := by
 obtain rfl := pR h
 rfl
theorem l7 (n : Nat) (a : List Int) (r : Int) (hr : dz n a = some r) : aL Tryz.prog 153 [an a] (cK r) := by
 unfold dz at hr
 refine aL.bd G Tryz.func153 [.tmp 2] ?_
 unfold Tryz.f153
 simp only [gS]
 refine .seq (.r4 G [0] [] (.seq ?_))
 obtain ⟨d, b, e, c, hr⟩ := bd2 hr
 refine .gn G (ca1 (ok0 (bM n a 1 d b)) (ca3 (ok0 (bM n a 0 e c)))) (.mu 1 (.ca cf0 (.mu 2 (.ca (cfA (fun h => by rw [sv c b (eN n h)]) cf0) (.mu 2 (.done (.ret ?_)))))))
 obtain rfl := oi hr
 exact aK.r1 [cK (wFu ((wFu (d * 1000000000)) + e))]

theorem mK (n : Nat) (A : ah) (y : ah) (r : ah) (hr : fE n A y = some r) : aL Tryz.prog 115 [.agg (ah.c A), .agg (ah.c y)] (.agg (ah.c r)) := by
 unfold fE at hr
 refine aL.bd G Tryz.func115 [.cell 4 40] ?_
 unfold Tryz.f115
 simp only [gS]
 refine .seq (.r2 G 61 [(2, .hp 0 0), (3, .hp 1 0), (4, .hp 2 0)] [.own (ah.c A), .own (ah.c y), .own [aB false, nS]] (.seq ?_))
 obtain ⟨V, B, W, C, hr⟩ := bd2 hr
 refine .tn G (ca1 (ok0 (bO n A V B)) (ca3 (ok0 (bO n y W C)))) (.mu 1 (.ca cf0 (.mu 2 (.ca (cfA (fun h => by rw [sv C B (fZ n h)]) cf0) (.mu 3 ?_)))))
 refine .done ⟨by kernel_rfl, ?_⟩
 refine .nh [4, 5, 6] [.own (ah.c A), .own (ah.c y), .own [aB false, nS]] (.seq (.block ?_))
 replace hr := bd hr; obtain ⟨D, q, hr⟩ := hr
 refine .aM (σ := fun N => match N with | (k, g) => ⟨mkS 61 0 [(4, .hp 0 0), (5, an k), (6, an g)], [.own [aB false, nS]]⟩) (Q := fun x st' => match (generalizing := false) D with | (i, j) => x = .exit 0 /\ Wk 0 st' ⟨mkS 61 0 [(4, .hp 0 0), (5, an i), (6, an j)], [.own [aB false, nS]]⟩) q ((Wk.gc [4, 5, 6] [(2, true)] rfl trivial).to) ?_ ?_
 ·clear hr
  rintro m ⟨k, g⟩ hr
  show CQ _ _ _ _ _ ⟨_, _⟩
  refine .seq (.seq ?_)
  rcases bT (decide ((g.length : Int) > 0)) with d | d
  ·replace hr := cC d hr
   rcases bT (decide ((k.length : Int) > 2)) with e | e
   ·replace hr := cC e hr
    refine .r0 G (.mu 2 (.p0 (v := aB true) (eB d) (.mu 3 (.pure (v := aB true) (by kernel_rfl) (eB e) (.mu 6 (.done (.nh [4, 5, 6, 29] [.own [aB false, nS]] (.cT (by kernel_rfl) (.skip (.block (.seq ?_)))))))))))
    obtain ⟨E, F, hr⟩ := bd hr
    refine .g1 G (ok0 (jc n k g E F)) (.mu 2 (.ca cf0 (.mu 5 (.done (.nh [4, 6, 8] [.own [aB false, nS]] (.ru G (.pop ?_)))))))
    exact aA (g, E.2) hr ((Wk.gc [4, 5, 6] [(0, true)] rfl trivial).to)
   replace hr := cB e hr
   refine .r0 G (.mu 2 (.p0 (v := aB true) (eB d) (.mu 3 (.pure (v := aB false) (by kernel_rfl) (eB e) (.mu 6 (.done (.nh [4, 5, 6, 29] [.own [aB false, nS]] ?_)))))))
   refine .cd hr ?_ ?_ <;> intro S hr
   ·refine .skip (.block (.seq ?_))
    obtain ⟨H, I, hr⟩ := bd hr
    refine .g1 G (ok0 (jc n k g H I)) (.mu 2 (.ca cf0 (.mu 5 (.done (.nh [4, 6, 8] [.own [aB false, nS]] (.ru G (.pop ?_)))))))
    exact aA (g, H.2) hr ((Wk.gc [4, 5, 6] [(0, true)] rfl trivial).to)
   refine .leave rfl ?_
   obtain rfl := oi hr
   exact ⟨rfl, ((Wk.gc [4, 5, 6] [(0, true)] rfl trivial).to)⟩
  replace hr := cB d hr
  refine .r0 G (.mu 2 (.p0 (v := aB false) (eB d) (.mu 10 (.done (.nh [4, 5, 6, 29] [.own [aB false, nS]] (.cF (by kernel_rfl) (.leave rfl ?_)))))))
  obtain rfl := oi hr
  exact ⟨rfl, ((Wk.gc [4, 5, 6] [(0, true)] rfl trivial).to)⟩
 rcases D with ⟨i, j⟩
 rintro x st' o
 clear q
 obtain ⟨rfl, o⟩ := o
 refine aW _ rfl (.wk o (.seq (.seq (.r4 G [4, 5, 6] [(40, aB (((j.length : Int) : Int) == 0))] ?_))))
 refine .cd hr ?_ ?_ <;> intro T hr
 ·refine .seq ?_
  obtain ⟨w, J, hr⟩ := bd hr
  refine .g1 G (ok0 (aV n false i w J)) (.mu 1 (.ca cf0 (.mu 1 (.done (.nh [4] [.own (ah.c w)] (.ret ?_))))))
  obtain rfl := oi hr
  exact aK.r1 [.agg (ah.c w)]
 refine .skip (.seq ?_)
 obtain ⟨O, s, R, t, hr⟩ := bd2 hr
 refine .gn G (ca1 (ok0 (l7 n i O s)) (ca3 (ok0 (l7 n j R t)))) (.mu 1 (.ca cf0 (.mu 1 (.ca (cfA (fun h => by rw [sv t s (qh n h)]) cf0) (.mu 2 (.done (.nh [4, 9, 10] [.own [aB false, nS]] (.seq (.block ?_)))))))))
 replace hr := bd hr; obtain ⟨a, u, hr⟩ := hr
 refine .aM (σ := fun N => match N with | (f, b) => ⟨mkS 61 0 [(4, .hp 0 0), (9, cK f), (10, cK b)], [.own [aB false, nS]]⟩) (Q := fun x st' => x = .exit 2 /\ Wk 0 st' ⟨mkS 61 0 [(4, .hp 0 0), (9, cK a)], [.own [aB false, nS]]⟩) u ((Wk.gc [4, 9, 10] [(0, true)] rfl trivial).to) ?_ ?_
 ·clear hr
  rintro m ⟨f, b⟩ hr
  show CQ _ _ _ _ _ ⟨_, _⟩
  refine .seq (.seq (.r4 G [4, 9, 10] [(48, aB (decide (b > 0)))] ?_))
  refine .cd hr ?_ ?_ <;> intro U hr
  ·refine .skip (.block ?_)
   obtain ⟨L, hr⟩ := gd hr
   refine .dZ G bI (.mu 3 (.pk (v := cK (f.tmod b)) (qV (x := f) (y := b) (by kernel_rfl) (by kernel_rfl) L) (.mu 2 ?_)))
   refine .done ⟨by kernel_rfl, ?_⟩
   refine .pop ?_
   exact aA (b, f.tmod b) hr ((Wk.gc [4, 9, 10] [(0, true)] rfl trivial).to)
  refine .leave rfl ?_
  obtain rfl := oi hr
  exact ⟨rfl, ((Wk.gc [4, 9] [(0, true)] rfl trivial).to)⟩
 rintro x st' p
 clear u
 obtain ⟨rfl, p⟩ := p
 refine aW _ rfl (.wk p (.seq ?_))
 obtain ⟨z, M, hr⟩ := bd hr
 refine .gn G (ca4 [.own [aB false, nS], .own [br (aa .u32 (a.tmod 1000000000)), br (aa .u32 (wFu (a.tdiv 1000000000)))]] (cE (args := [aB false, .hs 1 0 2 1]) (l := [1]) (Sp (SnL.cons (Sn.hs rfl (.inl rfl) (SnC.cons (Sn.pure rfl) (SnC.cons (Sn.pure rfl) SnC.nil)) (fun h => nomatch h)) SnL.nil)) (aV n false [(aa .u32 (a.tmod 1000000000)), (aa .u32 (wFu (a.tdiv 1000000000)))] z M))) (.mu 7 (.ca cf0 (.mu 1 (.done (.nh [4] [.own (ah.c z), .fix [br (aa .u32 (a.tmod 1000000000)), br (aa .u32 (wFu (a.tdiv 1000000000)))]] (.ret ?_))))))
 obtain rfl := oi hr
 exact aK.r1 [.agg (ah.c z)]

theorem jW (n : Nat) (b : ah) (r : ah) (hr : eL n b = some r) : aL Tryz.prog 126 [.agg (ah.c b)] (.agg (ah.c r)) := by
 unfold eL at hr
 refine aL.bd G Tryz.func126 [.cell 2 40] ?_
 unfold Tryz.f126
 simp only [gS]
 refine .seq (.r2 G 11 [(1, .hp 0 0), (2, .hp 1 0)] [.own (ah.c b), .own [aB false, nS]] (.seq ?_))
 obtain ⟨a, d, hr⟩ := bd hr
 refine .g1 G (ok0 (bO n b a d)) (.mu 1 (.ca cf0 (.mu 1 (.done (.nh [1, 2] [.own (ah.c a), .own [aB false, nS]] (.seq ?_))))))
 obtain ⟨e, f, hr⟩ := bd hr
 refine .g1 G (ok0 (aV n (!a.Negative) a.Groups e f)) (.mu 5 (.ca cf0 (.mu 1 (.done (.nh [2] [.own (ah.c a), .own (ah.c e)] (.ret ?_))))))
 obtain rfl := oi hr
 exact aK.r1 [.agg (ah.c e)]

theorem qj (n : Nat) (a : List Int) (b : List Int) (r : List Int) (hr : gr n a b = some r) : aL Tryz.prog 154 [an a, an b] (an r) := by
 unfold gr at hr
 refine aL.bd G Tryz.func154 [.tmp 4] ?_
 unfold Tryz.f154
 simp only [gS]
 refine .seq (.r4 G [0, 1] [] (.seq (.r5 G [0, 1] [(5, .hs 0 0 0 1)] [.own []] (.seq (.r4 G [0, 1, 5] [(6, cK 0)] (.seq (.seq (.r4 G [0, 1, 5, 6] [(7, ae 0)] (.block ?_)))))))))
 replace hr := bd hr; obtain ⟨z, s, hr⟩ := hr
 refine .aM (σ := fun L => match L with | (c, d, o) => ⟨mkS 46 0 [(0, an a), (1, an b), (5, .hs 0 0 c.length 1), (6, cK d), (7, ae o)], [.own (c.flatMap iCu)]⟩) (Q := fun x st' => match (generalizing := false) z with | (f, e) => x = .exit 0 /\ Wk 0 st' ⟨mkS 46 0 [(5, .hs 0 0 f.length 1), (6, cK e)], [.own (f.flatMap iCu)]⟩) s ((Wk.gc [0, 1, 5, 6, 7] [(0, false)] rfl (pKc trivial)).to) ?_ ?_
 ·clear hr
  rintro m ⟨c, d, o⟩ hr
  show CQ _ _ _ _ _ ⟨_, _⟩
  refine .seq (.seq ?_)
  rcases bT (decide (o < (a.length : Int))) with p | p
  ·replace hr := cC p hr
   refine .r0 G (.mu 3 (.p0 (v := aB true) (eB p) (.mu 6 (.done (.nh [0, 1, 5, 6, 7, 19] [.own (c.flatMap iCu)] (.cT (by kernel_rfl) (.skip (.seq (.block (.seq ?_))))))))))
   obtain ⟨g, t, i, u, hr⟩ := bd2 hr
   refine .gn G (ca1 (ok0 (bM n a o g t)) (ca3 (ok0 (bM n b o i u)))) (.mu 2 (.ca cf0 (.mu 2 (.ca (cfA (fun h => by rw [sv u t (eN n h)]) cf0) (.mu 4 (.done (.nh [0, 1, 5, 7, 8] [.own (c.flatMap iCu)] (.seq ?_))))))))
   obtain ⟨A, B, hr⟩ := gd2 hr
   refine .r0 G (.mu 5 (.e0 (v := .hs 2 0 (c ++ [aa .u32 ((wFu ((wFu (g + i)) + d)).tmod 1000000000)]).length 1) (ws := [(0, .dead), (2, .own ((c ++ [aa .u32 ((wFu ((wFu (g + i)) + d)).tmod 1000000000)]).flatMap iCu))]) (tr (fb (new := [br (aa .u32 ((wFu ((wFu (g + i)) + d)).tmod 1000000000))]) (l := c) (xs := [aa .u32 ((wFu ((wFu (g + i)) + d)).tmod 1000000000)]) (aE .u32) rfl rfl (by kernel_rfl) A B)) (.mu 1 (.done (.nh [0, 1, 5, 7, 8] [.dead, .own [br (aa .u32 ((wFu ((wFu (g + i)) + d)).tmod 1000000000))], .own ((c ++ [aa .u32 ((wFu ((wFu (g + i)) + d)).tmod 1000000000)]).flatMap iCu)] (.ru G (.pop (.ru G ?_))))))))
   exact aA (c ++ [aa .u32 ((wFu ((wFu (g + i)) + d)).tmod 1000000000)], wFu ((wFu ((wFu (g + i)) + d)).tdiv 1000000000), Fj (o + 1)) hr ((Wk.gc [0, 1, 5, 6, 7] [(2, false)] rfl (pKo iCu (aD _) (c ++ [aa .u32 ((wFu ((wFu (g + i)) + d)).tmod 1000000000)]) trivial)).to)
  replace hr := cB p hr
  refine .r0 G (.mu 3 (.p0 (v := aB false) (eB p) (.mu 6 (.done (.nh [0, 1, 5, 6, 7, 19] [.own (c.flatMap iCu)] ?_)))))
  refine .cd hr ?_ ?_ <;> intro J hr
  ·refine .skip (.seq (.block (.seq ?_)))
   obtain ⟨j, w, k, y, hr⟩ := bd2 hr
   refine .gn G (ca1 (ok0 (bM n a o j w)) (ca3 (ok0 (bM n b o k y)))) (.mu 2 (.ca cf0 (.mu 2 (.ca (cfA (fun h => by rw [sv y w (eN n h)]) cf0) (.mu 4 (.done (.nh [0, 1, 5, 7, 8] [.own (c.flatMap iCu)] (.seq ?_))))))))
   obtain ⟨C, D, hr⟩ := gd2 hr
   refine .r0 G (.mu 5 (.e0 (v := .hs 2 0 (c ++ [aa .u32 ((wFu ((wFu (j + k)) + d)).tmod 1000000000)]).length 1) (ws := [(0, .dead), (2, .own ((c ++ [aa .u32 ((wFu ((wFu (j + k)) + d)).tmod 1000000000)]).flatMap iCu))]) (tr (fb (new := [br (aa .u32 ((wFu ((wFu (j + k)) + d)).tmod 1000000000))]) (l := c) (xs := [aa .u32 ((wFu ((wFu (j + k)) + d)).tmod 1000000000)]) (aE .u32) rfl rfl (by kernel_rfl) C D)) (.mu 1 (.done (.nh [0, 1, 5, 7, 8] [.dead, .own [br (aa .u32 ((wFu ((wFu (j + k)) + d)).tmod 1000000000))], .own ((c ++ [aa .u32 ((wFu ((wFu (j + k)) + d)).tmod 1000000000)]).flatMap iCu)] (.ru G (.pop (.ru G ?_))))))))
   exact aA (c ++ [aa .u32 ((wFu ((wFu (j + k)) + d)).tmod 1000000000)], wFu ((wFu ((wFu (j + k)) + d)).tdiv 1000000000), Fj (o + 1)) hr ((Wk.gc [0, 1, 5, 6, 7] [(2, false)] rfl (pKo iCu (aD _) (c ++ [aa .u32 ((wFu ((wFu (j + k)) + d)).tmod 1000000000)]) trivial)).to)
  refine .leave rfl ?_
  obtain rfl := oi hr
  exact ⟨rfl, ((Wk.gc [5, 6] [(0, false)] rfl (pKo iCu (aD _) c trivial)).to)⟩
 rcases z with ⟨f, e⟩
 rintro x st' q
 clear s
 obtain ⟨rfl, q⟩ := q
 refine aW _ rfl (.wk q (.seq ?_))
 obtain ⟨E, F, hr⟩ := gd2 hr
 obtain ⟨H, I, hr⟩ := bd hr
 refine .gn G (ca4 [.dead, .own [br (aa .u32 e)], .own ((f ++ [aa .u32 e]).flatMap iCu)] (cE (args := [aB false, .hs 2 0 (f ++ [aa .u32 e]).length 1]) (l := [2]) (Sp (SnL.cons (Sn.hs rfl (.inl rfl) (SnC.pure (aY (aD _) _)) (fun h => cJ h)) SnL.nil)) (aV n false (f ++ [aa .u32 e]) H I))) (.mu 4 (.e0 (v := .hs 2 0 (f ++ [aa .u32 e]).length 1) (ws := [(0, .dead), (2, .own ((f ++ [aa .u32 e]).flatMap iCu))]) (tr (fb (new := [br (aa .u32 e)]) (l := f) (xs := [aa .u32 e]) (aE .u32) rfl rfl (by kernel_rfl) E F)) (.ca cf0 (.mu 2 (.done (.ret ?_))))))
 obtain rfl := oi hr
 exact aK.r1 [an H.Groups]

theorem mS (n : Nat) (q : ah) (y : ah) (r : ah) (hr : fH n q y = some r) : aL Tryz.prog 116 [.agg (ah.c q), .agg (ah.c y)] (.agg (ah.c r)) := by
 unfold fH at hr
 refine aL.bd G Tryz.func116 [.cell 4 40] ?_
 unfold Tryz.f116
 simp only [gS]
 refine .seq (.r2 G 44 [(2, .hp 0 0), (3, .hp 1 0), (4, .hp 2 0)] [.own (ah.c q), .own (ah.c y), .own [aB false, nS]] (.seq ?_))
 obtain ⟨a, f, b, g, hr⟩ := bd2 hr
 refine .tn G (ca1 (ok0 (bO n q a f)) (ca3 (ok0 (bO n y b g)))) (.mu 1 (.ca cf0 (.mu 1 (.ca (cfA (fun h => by rw [sv g f (fZ n h)]) cf0) (.mu 2 ?_)))))
 refine .done ⟨by kernel_rfl, ?_⟩
 refine .nh [2, 3, 4] [.own (ah.c a), .own (ah.c b), .own [aB false, nS]] (.seq (.seq (.r4 G [2, 3, 4] [(13, aB (a.Negative == b.Negative))] ?_)))
 refine .cd hr ?_ ?_ <;> intro z hr
 ·refine .seq ?_
  obtain ⟨w, s, t, u, hr⟩ := bd2 hr
  refine .tn G (ca1 (ok0 (qj n a.Groups b.Groups w s)) (ca3 (ok0 (aV n a.Negative w t u)))) (.mu 6 (.ca cf0 (.ca (cfF cf0) (.mu 1 ?_))))
  refine .done ⟨by kernel_rfl, ?_⟩
  refine .nh [4] [.own (ah.c a), .own (ah.c b), .own (ah.c t)] (.ret ?_)
  obtain rfl := oi hr
  exact aK.r1 [.agg (ah.c t)]
 refine .skip (.seq (.seq ?_))
 obtain ⟨v, i, hr⟩ := bd hr
 refine .g1 G (ok0 (jE n a.Groups b.Groups v i)) (.mu 4 (.ca cf0 (.mu 1 (.done (.nh [2, 3, 4, 27] [.own (ah.c a), .own (ah.c b), .own [aB false, nS]] ?_)))))
 refine .cd hr ?_ ?_ <;> intro x hr
 ·refine .seq ?_
  obtain ⟨j, k, d, l, hr⟩ := bd2 hr
  refine .tn G (ca1 (ok0 (fW n a.Groups b.Groups j k)) (ca3 (ok0 (aV n a.Negative j d l)))) (.mu 6 (.ca cf0 (.ca (cfF cf0) (.mu 1 ?_))))
  refine .done ⟨by kernel_rfl, ?_⟩
  refine .nh [4] [.own (ah.c a), .own (ah.c b), .own (ah.c d)] (.ret ?_)
  obtain rfl := oi hr
  exact aK.r1 [.agg (ah.c d)]
 refine .skip (.seq ?_)
 obtain ⟨m, o, e, p, hr⟩ := bd2 hr
 refine .tn G (ca1 (ok0 (fW n b.Groups a.Groups m o)) (ca3 (ok0 (aV n b.Negative m e p)))) (.mu 6 (.ca cf0 (.ca (cfF cf0) (.mu 1 ?_))))
 refine .done ⟨by kernel_rfl, ?_⟩
 refine .nh [4] [.own (ah.c a), .own (ah.c b), .own (ah.c e)] (.ret ?_)
 obtain rfl := oi hr
 exact aK.r1 [.agg (ah.c e)]

theorem fz (n : Nat) (a : ah) (y : ah) (r : ah) (hr : cS n a y = some r) : aL Tryz.prog 151 [.agg (ah.c a), .agg (ah.c y)] (.agg (ah.c r)) := by
 unfold cS at hr
 refine aL.bd G Tryz.func151 [.cell 4 40] ?_
 unfold Tryz.f151
 simp only [gS]
 refine .seq (.r2 G 9 [(2, .hp 0 0), (3, .hp 1 0), (4, .hp 2 0)] [.own (ah.c a), .own (ah.c y), .own [aB false, nS]] (.seq ?_))
 obtain ⟨f, b, d, e, hr⟩ := bd2 hr
 refine .tn G (ca1 (ok0 (jW n y f b)) (ca3 (ok0 (mS n a f d e)))) (.mu 2 (.ca cf0 (.ca (cfF cf0) (.mu 1 ?_))))
 refine .done ⟨by kernel_rfl, ?_⟩
 refine .nh [4] [.own (ah.c a), .own (ah.c y), .own (ah.c d)] (.ret ?_)
 obtain rfl := oi hr
 exact aK.r1 [.agg (ah.c d)]

theorem g9 (n : Nat) {b : ah} {y : ah} {a : ah} {d : ah} (h : ([.agg (ah.c b), .agg (ah.c y)] : List AV) = [.agg (ah.c a), .agg (ah.c d)]) : bE n b y = bE n a d := by
 obtain ⟨rfl, rfl⟩ := qf h
 rfl
theorem cZ (n : Nat) (J : ah) (y : ah) (r : ah) (hr : bE n J y = some r) : aL Tryz.prog 87 [.agg (ah.c J), .agg (ah.c y)] (.agg (ah.c r)) := by
 unfold bE at hr
 refine aL.bd G Tryz.func87 [.cell 4 40] ?_
 unfold Tryz.f87
 simp only [gS]
 refine .seq (.r2 G 85 [(2, .hp 0 0), (3, .hp 1 0), (4, .hp 2 0)] [.own (ah.c J), .own (ah.c y), .own [aB false, nS]] (.seq ?_))
 obtain ⟨i, E, f, F, hr⟩ := bd2 hr
 refine .tn G (ca1 (ok0 (bO n J i E)) (ca3 (ok0 (bO n y f F)))) (.mu 1 (.ca cf0 (.mu 1 (.ca (cfA (fun h => by rw [sv F E (fZ n h)]) cf0) (.mu 2 ?_)))))
 refine .done ⟨by kernel_rfl, ?_⟩
 refine .nh [2, 3, 4] [.own (ah.c i), .own (ah.c f), .own [aB false, nS]] (.seq ?_)
 obtain ⟨L, M, N, hr⟩ := gd3 hr
 refine .r0 G (.mu 7 (.e0 (v := .hs 3 0 (List.replicate (Fj ((i.Groups.length : Int) + (f.Groups.length : Int))).toNat ((0 : Int) : Int)).length 1) (ws := [(3, .own ((List.replicate (Fj ((i.Groups.length : Int) + (f.Groups.length : Int))).toNat ((0 : Int) : Int)).flatMap iCu))]) (tr (mE (c := iCu) (z := (0 : Int)) (n := Fj ((i.Groups.length : Int) + (f.Groups.length : Int))) (by_ := 4) rfl L M N)) (.mu 1 (.done (.nh [2, 3, 4, 5] [.own (ah.c i), .own (ah.c f), .own [aB false, nS], .own ((List.replicate (Fj ((i.Groups.length : Int) + (f.Groups.length : Int))).toNat ((0 : Int) : Int)).flatMap iCu)] (.seq (.seq (.r4 G [2, 3, 4, 5] [(6, ae 0)] (.block ?_)))))))))
 replace hr := bd hr; obtain ⟨o, w, hr⟩ := hr
 refine .aM (σ := fun O => match O with | (q, d) => ⟨mkS 85 0 [(2, .hp 0 0), (3, .hp 1 0), (4, .hp 2 0), (5, .hs 3 0 q.length 1), (6, ae d)], [.own (ah.c i), .own (ah.c f), .own [aB false, nS], .own (q.flatMap iCu)]⟩) (Q := fun x st' => x = .exit 0 /\ Wk 0 st' ⟨mkS 85 0 [(2, .hp 0 0), (3, .hp 1 0), (4, .hp 2 0), (5, .hs 3 0 o.length 1)], [.own (ah.c i), .own (ah.c f), .own [aB false, nS], .own (o.flatMap iCu)]⟩) w ((Wk.gc [2, 3, 4, 5, 6] [(0, true), (1, true), (2, true), (3, false)] rfl (pKt (pKt (pKt (pKo iCu (aD _) (List.replicate (Fj ((i.Groups.length : Int) + (f.Groups.length : Int))).toNat ((0 : Int) : Int)) trivial))))).to) ?_ ?_
 ·clear hr
  rintro m ⟨q, d⟩ hr
  show CQ _ _ _ _ _ ⟨_, _⟩
  refine .seq (.seq (.r4 G [2, 3, 4, 5, 6] [(26, aB (decide (d < (i.Groups.length : Int))))] ?_))
  refine .cd hr ?_ ?_ <;> intro R hr
  ·refine .skip (.seq (.block (.seq (.r4 G [2, 3, 4, 5, 6] [(7, cK 0)] (.seq (.seq (.r4 G [2, 3, 4, 5, 6, 7] [(8, ae 0)] (.block ?_))))))))
   replace hr := bd hr; obtain ⟨H, A, hr⟩ := hr
   refine .aM (σ := fun O => match O with | (e, g, a) => ⟨mkS 85 0 [(2, .hp 0 0), (3, .hp 1 0), (4, .hp 2 0), (5, .hs 3 0 e.length 1), (6, ae d), (7, cK g), (8, ae a)], [.own (ah.c i), .own (ah.c f), .own [aB false, nS], .own (e.flatMap iCu)]⟩) (Q := fun x st' => match (generalizing := false) H with | (j, k) => x = .exit 2 /\ Wk 0 st' ⟨mkS 85 0 [(2, .hp 0 0), (3, .hp 1 0), (4, .hp 2 0), (5, .hs 3 0 j.length 1), (6, ae d), (7, cK k)], [.own (ah.c i), .own (ah.c f), .own [aB false, nS], .own (j.flatMap iCu)]⟩) A ((Wk.gc [2, 3, 4, 5, 6, 7, 8] [(0, true), (1, true), (2, true), (3, false)] rfl (pKt (pKt (pKt (pKo iCu (aD _) q trivial))))).to) ?_ ?_
   ·clear hr
    rintro m ⟨e, g, a⟩ hr
    show CQ _ _ _ _ _ ⟨_, _⟩
    refine .seq (.seq (.r4 G [2, 3, 4, 5, 6, 7, 8] [(33, aB (decide (a < (f.Groups.length : Int))))] ?_))
    refine .cd hr ?_ ?_ <;> intro S hr
    ·refine .skip (.seq (.block (.seq ?_)))
     obtain ⟨p, B, C, hr⟩ := gd3 hr
     refine .dZ G bI (.mu 4 (.pk (v := .hp 3 (0 + (Fj (d + a)).toNat * 1)) (tr (au p)) (.pk (v := br (gt e (Fj (d + a)))) (tr (aG (aH (aE .u32) (aC p) z1 (by omega : 0 + (Fj (d + a)).toNat * 1 = (Fj (d + a)).toNat * 1 + 0) (by kernel_rfl)))) (.mu 4 (.pk (v := .pp (i.Groups.flatMap iCu) (d.toNat * 1)) (tr (au B)) (.pk (v := br (gt i.Groups d)) (tr (aG (aH (aE .u32) (aC B) z1 (by omega : d.toNat * 1 = d.toNat * 1 + 0) (by kernel_rfl)))) (.mu 4 (.pk (v := .pp (f.Groups.flatMap iCu) (a.toNat * 1)) (tr (au C)) (.pk (v := br (gt f.Groups a)) (tr (aG (aH (aE .u32) (aC C) z1 (by omega : a.toNat * 1 = a.toNat * 1 + 0) (by kernel_rfl)))) (.mu 6 ?_))))))))))
     refine .done ⟨by kernel_rfl, ?_⟩
     refine .nh [2, 3, 4, 5, 6, 8, 9] [.own (ah.c i), .own (ah.c f), .own [aB false, nS], .own (e.flatMap iCu)] (.seq (.r0 G (.mu 7 (.p0 (v := .hp 3 (0 + (Fj (d + a)).toNat * 1)) (tr (au p)) (.e0 (v := .unk) (ws := [(3, .own ((e.set (Fj (d + a)).toNat (aa .u32 ((wFu ((wFu ((wFu (gt e (Fj (d + a)))) + (wFu ((wFu (gt i.Groups d)) * (wFu (gt f.Groups a)))))) + g)).tmod 1000000000))).flatMap iCu))]) (tr (iD (iJ (cr (n := 1) (aE .u32) (aC p) (lbT rfl) (by omega : 0 + (Fj (d + a)).toNat * 1 = (Fj (d + a)).toNat * 1 + 0))) (congrArg Blk.own (cR (xs := [br (aa .u32 ((wFu ((wFu ((wFu (gt e (Fj (d + a)))) + (wFu ((wFu (gt i.Groups d)) * (wFu (gt f.Groups a)))))) + g)).tmod 1000000000))]) (aE .u32) (aC p) (lbT rfl) (by omega : 0 + (Fj (d + a)).toNat * 1 = (Fj (d + a)).toNat * 1 + 0) (by kernel_rfl))))) (.done (.nh [2, 3, 4, 5, 6, 8, 9] [.own (ah.c i), .own (ah.c f), .own [aB false, nS], .own ((e.set (Fj (d + a)).toNat (aa .u32 ((wFu ((wFu ((wFu (gt e (Fj (d + a)))) + (wFu ((wFu (gt i.Groups d)) * (wFu (gt f.Groups a)))))) + g)).tmod 1000000000))).flatMap iCu)] (.ru G (.pop (.ru G ?_))))))))))
     exact aA (e.set (Fj (d + a)).toNat (aa .u32 ((wFu ((wFu ((wFu (gt e (Fj (d + a)))) + (wFu ((wFu (gt i.Groups d)) * (wFu (gt f.Groups a)))))) + g)).tmod 1000000000)), wFu ((wFu ((wFu ((wFu (gt e (Fj (d + a)))) + (wFu ((wFu (gt i.Groups d)) * (wFu (gt f.Groups a)))))) + g)).tdiv 1000000000), Fj (a + 1)) hr ((Wk.iH 5 (b := 3) (es := 1) (len := e.length) (e.set (Fj (d + a)).toNat (aa .u32 ((wFu ((wFu ((wFu (gt e (Fj (d + a)))) + (wFu ((wFu (gt i.Groups d)) * (wFu (gt f.Groups a)))))) + g)).tmod 1000000000))).length (by kernel_rfl) (Eq.symm (List.length_set.trans rfl))).trans ((Wk.gc [2, 3, 4, 5, 6, 7, 8] [(0, true), (1, true), (2, true), (3, false)] rfl (pKt (pKt (pKt (pKo iCu (aD _) (e.set (Fj (d + a)).toNat (aa .u32 ((wFu ((wFu ((wFu (gt e (Fj (d + a)))) + (wFu ((wFu (gt i.Groups d)) * (wFu (gt f.Groups a)))))) + g)).tmod 1000000000))) trivial))))).to))
    refine .leave rfl ?_
    obtain rfl := oi hr
    exact ⟨rfl, ((Wk.gc [2, 3, 4, 5, 6, 7] [(0, true), (1, true), (2, true), (3, false)] rfl (pKt (pKt (pKt (pKo iCu (aD _) e trivial))))).to)⟩
   rcases H with ⟨j, k⟩
   rintro x st' s
   clear A
   obtain ⟨rfl, s⟩ := s
   refine aW _ rfl (.wk s ?_)
   obtain ⟨t, hr⟩ := gd hr
   refine .r0 G (.mu 8 (.p0 (v := .hp 3 (0 + (Fj (d + (f.Groups.length : Int))).toNat * 1)) (tr (au t)) (.e0 (v := .unk) (ws := [(3, .own ((j.set (Fj (d + (f.Groups.length : Int))).toNat (aa .u32 k)).flatMap iCu))]) (tr (iD (iJ (cr (n := 1) (aE .u32) (aC t) (lbT rfl) (by omega : 0 + (Fj (d + (f.Groups.length : Int))).toNat * 1 = (Fj (d + (f.Groups.length : Int))).toNat * 1 + 0))) (congrArg Blk.own (cR (xs := [br (aa .u32 k)]) (aE .u32) (aC t) (lbT rfl) (by omega : 0 + (Fj (d + (f.Groups.length : Int))).toNat * 1 = (Fj (d + (f.Groups.length : Int))).toNat * 1 + 0) (by kernel_rfl))))) (.done (.pop (.ru G ?_))))))
   exact aA (j.set (Fj (d + (f.Groups.length : Int))).toNat (aa .u32 k), Fj (d + 1)) hr ((Wk.iH 5 (b := 3) (es := 1) (len := j.length) (j.set (Fj (d + (f.Groups.length : Int))).toNat (aa .u32 k)).length (by kernel_rfl) (Eq.symm (List.length_set.trans rfl))).trans ((Wk.gc [2, 3, 4, 5, 6] [(0, true), (1, true), (2, true), (3, false)] rfl (pKt (pKt (pKt (pKo iCu (aD _) (j.set (Fj (d + (f.Groups.length : Int))).toNat (aa .u32 k)) trivial))))).to))
  refine .leave rfl ?_
  obtain rfl := oi hr
  exact ⟨rfl, ((Wk.gc [2, 3, 4, 5] [(0, true), (1, true), (2, true), (3, false)] rfl (pKt (pKt (pKt (pKo iCu (aD _) q trivial))))).to)⟩
 rintro x st' u
 clear w
 obtain ⟨rfl, u⟩ := u
 refine aW _ rfl (.wk u (.seq ?_))
 obtain ⟨D, I, hr⟩ := bd hr
 refine .g1 G (cE (args := [aB (i.Negative != f.Negative), .hs 3 0 o.length 1]) (l := [3]) (Sp (SnL.cons (Sn.hs rfl (.inl rfl) (SnC.pure (aY (aD _) _)) (fun h => cJ h)) SnL.nil)) (aV n (i.Negative != f.Negative) o D I)) (.mu 6 (.ca cf0 (.mu 1 (.done (.nh [4] [.own (ah.c i), .own (ah.c f), .own (ah.c D), .fix (o.flatMap iCu)] (.ret ?_))))))
 obtain rfl := oi hr
 exact aK.r1 [.agg (ah.c D)]

theorem fK (n : Nat) (B : ah) (y : ah) (r : ah × ah × Int) (hr : cW n B y = some r) : aL Tryz.prog 127 [.agg (ah.c B), .agg (ah.c y)] (.tup [.agg (ah.c r.1), .agg (ah.c r.2.1), ae r.2.2]) := by
 unfold cW at hr
 refine aL.bd G Tryz.func127 [.cell 4 40, .cell 5 40, .tmp 6] ?_
 unfold Tryz.f127
 simp only [gS]
 refine .seq (.r2 G 54 [(2, .hp 0 0), (3, .hp 1 0), (4, .hp 2 0), (5, .hp 3 0)] [.own (ah.c B), .own (ah.c y), .own [aB false, nS], .own [aB false, nS]] (.seq ?_))
 obtain ⟨d, k, a, l, hr⟩ := bd2 hr
 refine .tn G (ca1 (ok0 (bO n B d k)) (ca3 (ok0 (bO n y a l)))) (.mu 1 (.ca cf0 (.mu 1 (.ca (cfA (fun h => by rw [sv l k (fZ n h)]) cf0) (.mu 2 ?_)))))
 refine .done ⟨by kernel_rfl, ?_⟩
 refine .nh [2, 3, 4, 5] [.own (ah.c d), .own (ah.c a), .own [aB false, nS], .own [aB false, nS]] (.seq (.seq (.r4 G [2, 3, 4, 5] [(17, aB (((a.Groups.length : Int) : Int) == 0))] ?_)))
 refine .cd hr ?_ ?_ <;> intro H hr
 ·refine .seq (.r4 G [4, 5] [(6, ae 14)] (.ret ?_))
  obtain rfl := oi hr
  exact aK.ret (vs := [.agg [aB false, nS], .agg [aB false, nS], ae 14]) (by kernel_rfl) (Sn.tup (SnL.cons (Sn.agg (Sp (SnL.cons Sn.fR SnL.nil))) (SnL.cons (Sn.agg (Sp (SnL.cons Sn.fR SnL.nil))) (Sp SnL.nil))))
 refine .skip (.seq ?_)
 obtain ⟨E, C, hr⟩ := bd hr
 refine .g1 G (ok0 (jc n d.Groups a.Groups E C)) (.mu 4 (.ca cf0 (.mu 5 (.done (.nh [2, 3, 4, 5, 7, 8] [.own (ah.c d), .own (ah.c a), .own [aB false, nS], .own [aB false, nS]] (.seq ?_))))))
 obtain ⟨e, D, hr⟩ := bd hr
 refine .g1 G (ok0 (aV n (d.Negative != a.Negative) E.1 e D)) (.mu 6 (.ca cf0 (.mu 2 (.done (.nh [2, 3, 4, 5, 8, 9] [.own (ah.c d), .own (ah.c a), .own [aB false, nS], .own [aB false, nS], .own (ah.c e)] (.seq (.seq ?_)))))))
 rcases bT (d.Negative != a.Negative) with b | b
 ·replace hr := cC b hr
  refine .r0 G (.mu 4 (.p0 (v := aB true) (eB b) (.mu 5 (.done (.nh [2, 3, 4, 5, 9, 44] [.own (ah.c d), .own (ah.c a), .own [aB false, nS], .own [aB false, nS], .own (ah.c e)] ?_)))))
  refine .cd hr ?_ ?_ <;> intro F hr
  ·obtain ⟨v12, m, f, o, hr⟩ := bd2 hr
   refine .tn G (ca1 (ok0 (nc n 1 v12 m)) (ca3 (ok0 (fz n e v12 f o)))) (.mu 1 (.ca cf0 (.ca (cfF cf0) (.mu 1 ?_))))
   refine .done ⟨by kernel_rfl, ?_⟩
   refine .nh [2, 3, 4, 5, 9] [.own (ah.c d), .own (ah.c a), .own [aB false, nS], .own [aB false, nS], .own (ah.c f)] (.seq ?_)
   obtain ⟨p, q, g, s, hr⟩ := bd2 hr
   refine .tn G (ca1 (ok0 (cZ n f a p q)) (ca3 (ok0 (fz n d p g s)))) (.mu 4 (.ca cf0 (.ca (cfF cf0) (.mu 3 ?_))))
   refine .done ⟨by kernel_rfl, ?_⟩
   refine .nh [4, 5, 6] [.own (ah.c d), .own (ah.c a), .own (ah.c f), .own (ah.c g), .own (ah.c f)] (.ret ?_)
   obtain rfl := oi hr
   exact aK.ret (vs := [.agg (ah.c f), .agg (ah.c g), ae 0]) (by kernel_rfl) (Sn.tup (Sp (Sp (Sp SnL.nil))))
  refine .skip (.seq ?_)
  obtain ⟨t, u, i, w, hr⟩ := bd2 hr
  refine .tn G (ca1 (ok0 (cZ n e a t u)) (ca3 (ok0 (fz n d t i w)))) (.mu 4 (.ca cf0 (.ca (cfF cf0) (.mu 3 ?_))))
  refine .done ⟨by kernel_rfl, ?_⟩
  refine .nh [4, 5, 6] [.own (ah.c d), .own (ah.c a), .own (ah.c e), .own (ah.c i), .own (ah.c e)] (.ret ?_)
  obtain rfl := oi hr
  exact aK.ret (vs := [.agg (ah.c e), .agg (ah.c i), ae 0]) (by kernel_rfl) (Sn.tup (Sp (Sp (Sp SnL.nil))))
 replace hr := cB b hr
 refine .r0 G (.mu 4 (.p0 (v := aB false) (eB b) (.mu 5 (.done (.nh [2, 3, 4, 5, 9, 44] [.own (ah.c d), .own (ah.c a), .own [aB false, nS], .own [aB false, nS], .own (ah.c e)] (.cF (by kernel_rfl) (.skip (.seq ?_))))))))
 obtain ⟨x, z, j, A, hr⟩ := bd2 hr
 refine .tn G (ca1 (ok0 (cZ n e a x z)) (ca3 (ok0 (fz n d x j A)))) (.mu 4 (.ca cf0 (.ca (cfF cf0) (.mu 3 ?_))))
 refine .done ⟨by kernel_rfl, ?_⟩
 refine .nh [4, 5, 6] [.own (ah.c d), .own (ah.c a), .own (ah.c e), .own (ah.c j), .own (ah.c e)] (.ret ?_)
 obtain rfl := oi hr
 exact aK.ret (vs := [.agg (ah.c e), .agg (ah.c j), ae 0]) (by kernel_rfl) (Sn.tup (Sp (Sp (Sp SnL.nil))))

theorem ir (n : Nat) (num : ah) (den : ah) (r : ai) (hr : dj n num den = some r) : aL Tryz.prog 86 [.agg (ah.c num), .agg (ah.c den)] (.agg (ai.c r)) := by
 unfold dj at hr
 refine aL.bd G Tryz.func86 [.cell 4 42] ?_
 unfold Tryz.f86
 simp only [gS]
 refine .seq (.r2 G 37 [(2, .hp 0 0), (3, .hp 1 0), (4, .hp 2 0)] [.own (ah.c num), .own (ah.c den), .own zN2] (.seq ?_))
 obtain ⟨e, j, hr⟩ := bd hr
 refine .g1 G (ok0 (mK n num den e j)) (.mu 2 (.ca cf0 (.mu 2 (.done (.nh [2, 3, 4, 5] [.own (ah.c num), .own (ah.c den), .own zN2, .own (ah.c e)] (.seq (.seq ?_)))))))
 obtain ⟨o, k, hr⟩ := bd hr
 refine .g1 G (ok0 (fc n den o k)) (.mu 1 (.ca cf0 (.mu 1 (.done (.nh [2, 3, 4, 5, 17] [.own (ah.c num), .own (ah.c den), .own zN2, .own (ah.c e)] ?_)))))
 refine .cd hr ?_ ?_ <;> intro p hr
 ·obtain ⟨f, l, hr⟩ := bd hr
  refine .g1 G (ok0 (jW n e f l)) (.mu 1 (.ca cf0 (.mu 1 (.done (.nh [2, 3, 4, 5] [.own (ah.c num), .own (ah.c den), .own zN2, .own (ah.c f)] (.seq ?_))))))
  obtain ⟨d, m, hr⟩ := bd hr
  refine .g1 G (ok0 (fK n num f d m)) (.mu 2 (.ca cf0 (.mu 9 (.done (.nh [3, 4, 5, 6] [.own (ah.c num), .own (ah.c den), .own zN2, .own (ah.c f), .own (ah.c d.1), .own (ah.c d.2.1)] (.seq ?_))))))
  obtain ⟨a, g, hr⟩ := bd hr
  refine .g1 G (ok0 (fK n den f a g)) (.mu 2 (.ca cf0 (.mu 9 (.done (.nh [4, 6, 9] [.own (ah.c num), .own (ah.c den), .own zN2, .own (ah.c f), .own (ah.c d.1), .own (ah.c d.2.1), .own (ah.c a.1), .own (ah.c a.2.1)] (.seq (.r5 G [4] [] [.own (ah.c num), .own (ah.c den), .own [aB d.1.Negative, an d.1.Groups, aB a.1.Negative, an a.1.Groups], .own (ah.c f), .own (ah.c d.1), .own (ah.c d.2.1), .own (ah.c a.1), .own (ah.c a.2.1)] (.ret ?_))))))))
  obtain rfl := oi hr
  exact aK.r1 [.agg [aB d.1.Negative, an d.1.Groups, aB a.1.Negative, an a.1.Groups]]
 refine .skip (.seq ?_)
 obtain ⟨v12, h, hr⟩ := bd hr
 refine .g1 G (ok0 (fK n num e v12 h)) (.mu 2 (.ca cf0 (.mu 9 (.done (.nh [3, 4, 5, 6] [.own (ah.c num), .own (ah.c den), .own zN2, .own (ah.c e), .own (ah.c v12.1), .own (ah.c v12.2.1)] (.seq ?_))))))
 obtain ⟨b, i, hr⟩ := bd hr
 refine .g1 G (ok0 (fK n den e b i)) (.mu 2 (.ca cf0 (.mu 9 (.done (.nh [4, 6, 9] [.own (ah.c num), .own (ah.c den), .own zN2, .own (ah.c e), .own (ah.c v12.1), .own (ah.c v12.2.1), .own (ah.c b.1), .own (ah.c b.2.1)] (.seq (.r5 G [4] [] [.own (ah.c num), .own (ah.c den), .own [aB v12.1.Negative, an v12.1.Groups, aB b.1.Negative, an b.1.Groups], .own (ah.c e), .own (ah.c v12.1), .own (ah.c v12.2.1), .own (ah.c b.1), .own (ah.c b.2.1)] (.ret ?_))))))))
 obtain rfl := oi hr
 exact aK.r1 [.agg [aB v12.1.Negative, an v12.1.Groups, aB b.1.Negative, an b.1.Groups]]

theorem qJ (n : Nat) (num : ah) (den : ah) (r : ai × Int) (hr : jN n num den = some r) : aL Tryz.prog 82 [.agg (ah.c num), .agg (ah.c den)] (.tup [.agg (ai.c r.1), ae r.2]) := by
 unfold jN at hr
 refine aL.bd G Tryz.func82 [.cell 4 42, .tmp 5] ?_
 unfold Tryz.f82
 simp only [gS]
 refine .seq (.r2 G 13 [(2, .hp 0 0), (3, .hp 1 0), (4, .hp 2 0)] [.own (ah.c num), .own (ah.c den), .own zN2] (.seq (.seq ?_)))
 obtain ⟨e, a, hr⟩ := bd hr
 refine .g1 G (ok0 (fc n den e a)) (.mu 1 (.ca cf0 (.mu 1 (.done (.nh [2, 3, 4, 8] [.own (ah.c num), .own (ah.c den), .own zN2] ?_)))))
 refine .cd hr ?_ ?_ <;> intro f hr
 ·refine .seq (.r4 G [4] [(5, ae 14)] (.ret ?_))
  obtain rfl := oi hr
  exact aK.ret (vs := [.agg zN2, ae 14]) (by kernel_rfl) (Sn.tup (SnL.cons (Sn.agg (Sp (SnL.cons Sn.fR (Sp (SnL.cons Sn.fR SnL.nil))))) (Sp SnL.nil)))
 refine .skip (.seq ?_)
 obtain ⟨b, d, hr⟩ := bd hr
 refine .g1 G (ok0 (ir n num den b d)) (.mu 2 (.ca cf0 (.mu 2 (.done (.nh [4, 5] [.own (ah.c num), .own (ah.c den), .own (ai.c b)] (.ret ?_))))))
 obtain rfl := oi hr
 exact aK.ret (vs := [.agg (ai.c b), ae 0]) (by kernel_rfl) (Sn.tup (Sp (Sp SnL.nil)))

theorem m8 (n : Nat) (f : Int) (d : Int) (r : ai × Int) (hr : gi n f d = some r) : aL Tryz.prog 36 [ae f, ae d] (.tup [.agg (ai.c r.1), ae r.2]) := by
 unfold gi at hr
 refine aL.bd G Tryz.func36 [.cell 4 42, .tmp 5] ?_
 unfold Tryz.f36
 simp only [gS]
 refine .seq (.r5 G [0, 1] [(4, .hp 0 0)] [.own zN2] (.seq ?_))
 obtain ⟨i, a, j, b, e, g, hr⟩ := bd3 hr
 refine .gn G (ca1 (ok0 (eU n f i a)) (ca1 (ok0 (eU n d j b)) (ca3 (ok0 (qJ n i j e g))))) (.mu 1 (.ca cf0 (.mu 1 (.ca (cfA (fun h => by rw [sv b a (lN n h)]) cf0) (.ca (cfF (cfF cf0)) (.mu 4 (.done (.nh [4, 5] [.own (ai.c e.1)] (.ret ?_)))))))))
 obtain rfl := oi hr
 exact aK.ret (vs := [.agg (ai.c e.1), ae e.2]) (by kernel_rfl) (Sn.tup (Sp (Sp SnL.nil)))

theorem oF (n : Nat) (a : ah) (y : ah) (r : Int) (hr : fe n a y = some r) : aL Tryz.prog 114 [.agg (ah.c a), .agg (ah.c y)] (ae r) := by
 unfold fe at hr
 refine aL.bd G Tryz.func114 [.tmp 4] ?_
 unfold Tryz.f114
 simp only [gS]
 refine .seq (.r2 G 9 [(2, .hp 0 0), (3, .hp 1 0)] [.own (ah.c a), .own (ah.c y)] (.seq ?_))
 obtain ⟨e, b, f, d, hr⟩ := bd2 hr
 refine .gn G (ca1 (ok0 (fz n a y e b)) (ca3 (ok0 (fc n e f d)))) (.mu 2 (.ca cf0 (.ca (cfF cf0) (.mu 1 (.done (.ret ?_))))))
 obtain rfl := oi hr
 exact aK.r1 [ae f]

theorem lH (n : Nat) {b : ai} {a : ai} (h : ([.agg (ai.c b)] : List AV) = [.agg (ai.c a)]) : cQ n b = cQ n a := by
 obtain rfl := jb h
 rfl
theorem dG (n : Nat) (a : ai) (r : Bool) (hr : cQ n a = some r) : aL Tryz.prog 69 [.agg (ai.c a)] (aB r) := by
 unfold cQ at hr
 refine aL.bd G Tryz.func69 [.tmp 2] ?_
 unfold Tryz.f69
 simp only [gS]
 refine .seq (.r2 G 27 [(1, .hp 0 0)] [.own (ai.c a)] (.seq (.seq ?_)))
 obtain ⟨m, d, hr⟩ := bd hr
 rcases bT (!m) with b | b
 ·replace hr := cC b hr
  refine .g1 G (ok0 (dK n a.Num m d)) (.mu 2 (.ca cf0 (.p0 (v := aB true) (eB b) (.mu 12 (.done (.nh [1, 18] [.own (ai.c a)] (.cT (by kernel_rfl) (.seq (.ru G (.ret ?_))))))))))
  obtain rfl := oi hr
  exact aK.r1 [aB false]
 replace hr := cB b hr
 obtain ⟨o, f, hr⟩ := bd hr
 rcases bT (!o) with e | e
 ·replace hr := cC e hr
  refine .gn G (ca1 (ok0 (dK n a.Num m d)) (ca3 (ok0 (dK n a.Den o f)))) (.mu 2 (.ca cf0 (.p0 (v := aB false) (eB b) (.mu 3 (.ca (cfA (fun h => by rw [sv f d (lB n h)]) cf0) (.pure (v := aB true) (by kernel_rfl) (eB e) (.mu 7 (.done (.nh [1, 18] [.own (ai.c a)] (.cT (by kernel_rfl) (.seq (.ru G (.ret ?_)))))))))))))
  obtain rfl := oi hr
  exact aK.r1 [aB false]
 replace hr := cB e hr
 obtain ⟨q, p, hr⟩ := bd hr
 refine .gn G (ca1 (ok0 (dK n a.Num m d)) (ca1 (ok0 (dK n a.Den o f)) (ca3 (ok0 (fc n a.Den q p))))) (.mu 2 (.ca cf0 (.p0 (v := aB false) (eB b) (.mu 3 (.ca (cfA (fun h => by rw [sv f d (lB n h)]) cf0) (.pure (v := aB false) (by kernel_rfl) (eB e) (.mu 4 (.ca (cfF (cfF cf0)) (.mu 2 (.done (.nh [1, 18] [.own (ai.c a)] ?_)))))))))))
 refine .cd hr ?_ ?_ <;> intro s hr
 ·refine .seq (.ru G (.ret ?_))
  obtain rfl := oi hr
  exact aK.r1 [aB false]
 refine .skip (.seq ?_)
 obtain ⟨g, i, v12, j, k, l, hr⟩ := bd3 hr
 refine .gn G (ca1 (ok0 (mK n a.Num a.Den g i)) (ca1 (ok0 (eU n 1 v12 j)) (ca3 (ok0 (oF n g v12 k l))))) (.mu 4 (.ca cf0 (.ca (cfF cf0) (.ca (cfF (cfF cf0)) (.mu 2 (.done (.ret ?_)))))))
 obtain rfl := oi hr
 exact aK.r1 [aB ((k : Int) == 0)]

theorem pW (n : Nat) (f : Int) (r : ai) (hr : km n f = some r) : aL Tryz.prog 65 [ae f] (.agg (ai.c r)) := by
 unfold km at hr
 refine aL.bd G Tryz.func65 [.cell 2 42] ?_
 unfold Tryz.f65
 simp only [gS]
 refine .seq (.r5 G [0] [(2, .hp 0 0)] [.own zN2] (.seq ?_))
 obtain ⟨a, b, d, e, hr⟩ := bd2 hr
 refine .gn G (ca1 (ok0 (eU n f a b)) (ca3 (ok0 (eU n 1 d e)))) (.mu 1 (.ca cf0 (.ca (cfA (fun h => by rw [sv e b (lN n h)]) cf0) (.mu 2 (.done (.nh [2] [.own [aB a.Negative, an a.Groups, aB d.Negative, an d.Groups]] (.ret ?_)))))))
 obtain rfl := oi hr
 exact aK.r1 [.agg [aB a.Negative, an a.Groups, aB d.Negative, an d.Groups]]

theorem dI (n : Nat) (a : ai) (r : ai) (hr : cz n a = some r) : aL Tryz.prog 85 [.agg (ai.c a)] (.agg (ai.c r)) := by
 unfold cz at hr
 refine aL.bd G Tryz.func85 [.cell 2 42] ?_
 unfold Tryz.f85
 simp only [gS]
 refine .seq (.r2 G 7 [(1, .hp 0 0), (2, .hp 1 0)] [.own (ai.c a), .own zN2] (.seq (.seq ?_)))
 obtain ⟨f, b, hr⟩ := bd hr
 refine .g1 G (ok0 (dG n a f b)) (.mu 1 (.ca cf0 (.done (.nh [1, 2, 4] [.own (ai.c a), .own zN2] ?_))))
 refine .cd hr ?_ ?_ <;> intro g hr
 ·refine .seq (.r5 G [2] [] [.own (ai.c a), .own (ai.c a)] (.ret ?_))
  obtain rfl := oi hr
  exact aK.r1 [.agg (ai.c a)]
 refine .skip (.seq ?_)
 obtain ⟨d, e, hr⟩ := bd hr
 refine .g1 G (ok0 (pW n 0 d e)) (.ca cf0 (.mu 1 (.done (.nh [2] [.own (ai.c a), .own (ai.c d)] (.ret ?_)))))
 obtain rfl := oi hr
 exact aK.r1 [.agg (ai.c d)]

theorem qz (n : Nat) (b : ai) (r : ai) (hr : gT n b = some r) : aL Tryz.prog 84 [.agg (ai.c b)] (.agg (ai.c r)) := by
 unfold gT at hr
 refine aL.bd G Tryz.func84 [.cell 2 42] ?_
 unfold Tryz.f84
 simp only [gS]
 refine .seq (.r2 G 12 [(1, .hp 0 0), (2, .hp 1 0)] [.own (ai.c b), .own zN2] (.seq ?_))
 obtain ⟨a, e, hr⟩ := bd hr
 refine .g1 G (ok0 (dI n b a e)) (.mu 1 (.ca cf0 (.mu 2 (.done (.nh [2, 3] [.own (ai.c b), .own zN2, .own (ai.c a)] (.seq ?_))))))
 obtain ⟨d, f, hr⟩ := bd hr
 refine .t1 G (ok0 (jW n a.Num d f)) (.mu 2 (.ca cf0 (.mu 4 ?_)))
 refine .done ⟨by kernel_rfl, ?_⟩
 refine .nh [2] [.own (ai.c b), .own [aB d.Negative, an d.Groups, aB a.Den.Negative, an a.Den.Groups], .own (ai.c a)] (.ret ?_)
 obtain rfl := oi hr
 exact aK.r1 [.agg [aB d.Negative, an d.Groups, aB a.Den.Negative, an a.Den.Groups]]

theorem qF (n : Nat) (b : ai) (y : ai) (r : ai) (hr : hZ n b y = some r) : aL Tryz.prog 71 [.agg (ai.c b), .agg (ai.c y)] (.agg (ai.c r)) := by
 unfold hZ at hr
 refine aL.bd G Tryz.func71 [.cell 4 42] ?_
 unfold Tryz.f71
 simp only [gS]
 refine .seq (.r2 G 28 [(2, .hp 0 0), (3, .hp 1 0), (4, .hp 2 0)] [.own (ai.c b), .own (ai.c y), .own zN2] (.seq ?_))
 obtain ⟨d, m, hr⟩ := bd hr
 refine .g1 G (ok0 (dI n b d m)) (.mu 1 (.ca cf0 (.mu 2 (.done (.nh [3, 4, 5] [.own (ai.c b), .own (ai.c y), .own zN2, .own (ai.c d)] (.seq ?_))))))
 obtain ⟨i, o, hr⟩ := bd hr
 refine .g1 G (ok0 (dI n y i o)) (.mu 1 (.ca cf0 (.mu 2 (.done (.nh [4, 5, 6] [.own (ai.c b), .own (ai.c y), .own zN2, .own (ai.c d), .own (ai.c i)] (.seq ?_))))))
 obtain ⟨p, e, q, f, s, j, hr⟩ := bd3 hr
 obtain ⟨k, a, g, l, hr⟩ := bd2 hr
 refine .tn G (ca1 (ok0 (cZ n d.Num i.Den p e)) (ca1 (ok0 (cZ n i.Num d.Den q f)) (ca1 (ok0 (mS n p q s j)) (ca1 (ok0 (cZ n d.Den i.Den k a)) (ca3 (ok0 (ir n s k g l))))))) (.mu 4 (.ca cf0 (.mu 4 (.ca (cfA (fun h => by rw [sv f e (g9 n h)]) cf0) (.ca (cfF (cfF cf0)) (.mu 4 (.ca (cfA (fun h => by rw [sv a e (g9 n h)]) (cfA (fun h => by rw [sv a f (g9 n h)]) (cfF cf0))) (.ca (cfF (cfF (cfF (cfF cf0)))) (.mu 1 ?_)))))))))
 refine .done ⟨by kernel_rfl, ?_⟩
 refine .nh [4] [.own (ai.c b), .own (ai.c y), .own (ai.c g), .own (ai.c d), .own (ai.c i)] (.ret ?_)
 obtain rfl := oi hr
 exact aK.r1 [.agg (ai.c g)]

theorem mA (n : Nat) (a : ai) (y : ai) (r : ai) (hr : fI n a y = some r) : aL Tryz.prog 37 [.agg (ai.c a), .agg (ai.c y)] (.agg (ai.c r)) := by
 unfold fI at hr
 refine aL.bd G Tryz.func37 [.cell 4 42] ?_
 unfold Tryz.f37
 simp only [gS]
 refine .seq (.r2 G 9 [(2, .hp 0 0), (3, .hp 1 0), (4, .hp 2 0)] [.own (ai.c a), .own (ai.c y), .own zN2] (.seq ?_))
 obtain ⟨f, b, d, e, hr⟩ := bd2 hr
 refine .tn G (ca1 (ok0 (qz n y f b)) (ca3 (ok0 (qF n a f d e)))) (.mu 2 (.ca cf0 (.ca (cfF cf0) (.mu 1 ?_))))
 refine .done ⟨by kernel_rfl, ?_⟩
 refine .nh [4] [.own (ai.c a), .own (ai.c y), .own (ai.c d)] (.ret ?_)
 obtain rfl := oi hr
 exact aK.r1 [.agg (ai.c d)]

theorem qo (n : Nat) (a : ai) (r : Int) (hr : gx n a = some r) : aL Tryz.prog 70 [.agg (ai.c a)] (ae r) := by
 unfold gx at hr
 refine aL.bd G Tryz.func70 [.tmp 2] ?_
 unfold Tryz.f70
 simp only [gS]
 refine .seq (.r2 G 7 [(1, .hp 0 0)] [.own (ai.c a)] (.seq ?_))
 obtain ⟨e, b, f, d, hr⟩ := bd2 hr
 refine .gn G (ca1 (ok0 (dI n a e b)) (ca3 (ok0 (fc n e.Num f d)))) (.mu 1 (.ca cf0 (.mu 1 (.ca (cfF cf0) (.mu 1 (.done (.ret ?_)))))))
 obtain rfl := oi hr
 exact aK.r1 [ae f]

theorem fq (n : Nat) {b : ai} {y : ai} {a : ai} {d : ai} (h : ([.agg (ai.c b), .agg (ai.c y)] : List AV) = [.agg (ai.c a), .agg (ai.c d)]) : b8 n b y = b8 n a d := by
 obtain ⟨rfl, rfl⟩ := iG h
 rfl
theorem cG (n : Nat) (a : ai) (y : ai) (r : Int) (hr : b8 n a y = some r) : aL Tryz.prog 38 [.agg (ai.c a), .agg (ai.c y)] (ae r) := by
 unfold b8 at hr
 refine aL.bd G Tryz.func38 [.tmp 4] ?_
 unfold Tryz.f38
 simp only [gS]
 refine .seq (.r2 G 9 [(2, .hp 0 0), (3, .hp 1 0)] [.own (ai.c a), .own (ai.c y)] (.seq ?_))
 obtain ⟨e, b, f, d, hr⟩ := bd2 hr
 refine .gn G (ca1 (ok0 (mA n a y e b)) (ca3 (ok0 (qo n e f d)))) (.mu 2 (.ca cf0 (.ca (cfF cf0) (.mu 1 (.done (.ret ?_))))))
 obtain rfl := oi hr
 exact aK.r1 [ae f]

theorem lY (n : Nat) (d : ai) (y : ai) (r : Bool) (hr : kV n d y = some r) : aL Tryz.prog 32 [.agg (ai.c d), .agg (ai.c y)] (aB r) := by
 unfold kV at hr
 refine aL.bd G Tryz.func32 [.tmp 4] ?_
 unfold Tryz.f32
 simp only [gS]
 refine .seq (.r2 G 17 [(2, .hp 0 0), (3, .hp 1 0)] [.own (ai.c d), .own (ai.c y)] (.seq ?_))
 obtain ⟨j, a, hr⟩ := bd hr
 rcases bT j with e | e
 ·subst e
  replace hr := cC rfl hr
  obtain ⟨k, b, hr⟩ := bd hr
  rcases bT k with f | f
  ·subst f
   replace hr := cC rfl hr
   obtain ⟨i, g, hr⟩ := bd hr
   refine .gn G (ca1 (ok0 (dG n d true a)) (ca1 (ok0 (dG n y true b)) (ca3 (ok0 (cG n d y i g))))) (.mu 1 (.ca cf0 (.mu 2 (.ca (cfA (fun h => by rw [sv b a (lH n h)]) cf0) (.mu 4 (.ca (cfF (cfF cf0)) (.mu 3 (.done (.ret ?_)))))))))
   obtain rfl := oi hr
   exact aK.r1 [aB ((i : Int) == 0)]
  subst f
  replace hr := cB rfl hr
  refine .gn G (ca1 (ok0 (dG n d true a)) (ca3 (ok0 (dG n y false b)))) (.mu 1 (.ca cf0 (.mu 2 (.ca (cfA (fun h => by rw [sv b a (lH n h)]) cf0) (.mu 8 (.done (.ret ?_)))))))
  obtain rfl := oi hr
  exact aK.r1 [aB false]
 subst e
 replace hr := cB rfl hr
 refine .g1 G (ok0 (dG n d false a)) (.mu 1 (.ca cf0 (.mu 11 (.done (.ret ?_)))))
 obtain rfl := oi hr
 exact aK.r1 [aB false]

theorem fa (n : Nat) (a : Int) (r : List ak) (hr : bU n a = some r) : dk 0 Tryz.prog 131 [nS, ae a] [] (.hs 0 0 r.length 6) [.own (r.flatMap ak.c)] := by
 unfold bU at hr
 refine dk.kp G Tryz.func131 (c := (Tryz.f131.body).getD .skip) rfl (us := [.hs 0 0 r.length 6]) (s := mkS 27 0 [(0, nS), (1, ae a)]) (by kernel_rfl) (rs := [.tmp 4]) rfl ?_
 unfold Tryz.f131
 simp only [gS]
 refine .seq (.r4 G [0, 1] [] (.seq (.seq (.r4 G [0, 1] [(6, aB (decide (a < 0)))] ?_))))
 obtain ⟨g, hr⟩ := gdn hr
 refine .cN g (.skip (.seq (.seq (.r4 G [0] [(1, ae (Fj (a - 0)))] (.seq (.r4 G [0, 1] [(16, aB (decide ((Fj (a - 0)) > 0)))] ?_))))))
 refine .cd hr ?_ ?_ <;> intro h hr
 ·obtain ⟨b, d, e, hr⟩ := gd3 hr
  obtain ⟨f, hr⟩ := gd hr
  refine .r0 G (.mu 5 (.e0 (v := .hs 0 0 (Fj (a - 0)).toNat 6) (ws := [(0, .own (dV [ae 0, ae 0, aB false, nS, aB false, nS] (Fj (a - 0)).toNat))]) (tr (y := oC (decide (0 < (Fj (a - 0))) && decide ((Fj (a - 0)) <= 4611686018427387904) && decide ((Fj (a - 0)).toNat * 80 <= 140737488355328) && true && true && true) (some (.eff (.hs 0 0 (Fj (a - 0)).toNat 6) [(0, .own (dV [ae 0, ae 0, aB false, nS, aB false, nS] (Fj (a - 0)).toNat))]))) (AX b d e)) (.mu 2 (.p0 (v := .hs 0 0 (0 : Int).toNat 6) (tr (y := slH (inS 0 0 (Fj (a - 0)).toNat) true ((0 : Int).toNat) ((0 : Int).toNat) (fun z1 i => .hs 0 (0 + z1 * 6) (i - z1) 6)) (B6 f (by kernel_rfl))) (.mu 1 (.done (.nh [0] [.own (dV [ae 0, ae 0, aB false, nS, aB false, nS] (Fj (a - 0)).toNat)] (.wk ((Wk.mask [0]).trans ((Wk.cut 0 (cs := dV [ae 0, ae 0, aB false, nS, aB false, nS] (Fj (a - 0)).toNat) 0 (by kernel_rfl)).to (c := ⟨mkS 27 0 [(0, .hs 0 0 ([] : List ak).length 6)], [.own (([] : List ak).flatMap ak.c)]⟩) (by kernel_rfl))) (.seq (.r3 G 27 [(4, .hs 0 0 ([] : List ak).length 6)] (.ret ?_)))))))))))
  obtain rfl := oi hr
  exact dm.ret [.hs 0 0 ([] : List ak).length 6] ((Wk.gc [0] [(0, false)] rfl (pKo ak.c ak.pure ([] : List ak) trivial)).to)
 refine .skip (.seq (.r3 G 27 [(4, nS)] (.ret ?_)))
 obtain rfl := oi hr
 exact dm.ret [nS] ((Wk.nil 0 6 (by kernel_rfl)).trans ((Wk.gc [0] [(0, false)] rfl (pKc trivial)).to))

theorem e9 (n : Nat) (slices : List (List ak)) (r : List ak) (hr : bW n slices = some r) : aL Tryz.prog 96 [slT (slC ak.c) slices] (slT ak.c r) := by
 unfold bW at hr
 refine aL.bd G Tryz.func96 [.tmp 2] ?_
 unfold Tryz.f96
 simp only [gS]
 refine .seq (.r4 G [0] [] (.seq (.r4 G [0] [(3, ae 0)] (.seq (.seq (.r4 G [0, 3] [(9, slT (slC ak.c) slices), (10, ae (slices.length : Int)), (11, ae 0)] (.block ?_)))))))
 replace hr := bd hr; obtain ⟨p, j, hr⟩ := hr
 refine .aM (σ := fun A => match A with | (f, d) => ⟨mkS 36 0 [(0, slT (slC ak.c) slices), (3, ae f), (9, slT (slC ak.c) slices), (10, ae (slices.length : Int)), (11, ae d)], []⟩) (Q := fun x st' => x = .exit 0 /\ Wk 0 st' ⟨mkS 36 0 [(0, slT (slC ak.c) slices), (3, ae p)], []⟩) j ((Wk.gc [0, 3, 9, 10, 11] [] rfl pK0).to) ?_ ?_
 ·clear hr
  rintro m ⟨f, d⟩ hr
  show CQ _ _ _ _ _ ⟨_, _⟩
  refine .seq (.r4 G [0, 3, 9, 10, 11] [(12, aB (decide (d < (slices.length : Int))))] (.seq ?_))
  refine .cd hr ?_ ?_ <;> intro D hr
  ·refine .skip (.seq (.block (.seq ?_)))
   obtain ⟨s, hr⟩ := gd hr
   refine .r0 G (.p0 (v := .pp (slices.flatMap (slC ak.c)) (d.toNat * 1)) (tr (au s)) (.p0 (v := slT ak.c (gt slices d)) (tr (aG (aH (z7 ak.c) (aC s) z1 (by omega : d.toNat * 1 = d.toNat * 1 + 0) (by kernel_rfl)))) (.mu 1 (.done (.nh [0, 3, 5, 9, 10, 11] [] (.seq (.r4 G [0, 9, 10, 11] [(3, ae (Fj (f + ((gt slices d).length : Int))))] (.seq (.r4 G [0, 3, 9, 10, 11] [(20, aB (decide ((Fj (f + ((gt slices d).length : Int))) < 0)))] ?_)))))))))
   obtain ⟨t, hr⟩ := gdn hr
   refine .cN t (.skip (.pop (.ru G ?_)))
   exact aA (Fj (f + ((gt slices d).length : Int)), Fj (d + 1)) hr ((Wk.gc [0, 3, 9, 10, 11] [] rfl pK0).to)
  refine .leave rfl ?_
  obtain rfl := oi hr
  exact ⟨rfl, ((Wk.gc [0, 3] [] rfl pK0).to)⟩
 rintro x st' g
 clear j
 obtain ⟨rfl, g⟩ := g
 refine aW _ rfl (.wk g (.seq ?_))
 obtain ⟨q, u, hr⟩ := bd hr
 refine .g1 G (bX (args := [nS, ae p]) 0 1 [] [false] (fa n p q u) trivial (by exact ⟨aY ak.pure _, trivial⟩) rfl rfl (by kernel_rfl) (by kernel_rfl)) (.mu 1 (.ca cf0 (.mu 1 (.done (.nh [0, 6] [.own (q.flatMap ak.c)] (.seq (.seq (.r4 G [6] [(25, slT (slC ak.c) slices), (26, ae (slices.length : Int)), (27, ae 0)] (.block ?_)))))))))
 replace hr := bd hr; obtain ⟨e, k, hr⟩ := hr
 refine .aM (σ := fun A => match A with | (a, b) => ⟨mkS 36 0 [(6, .hs 0 0 a.length 6), (25, slT (slC ak.c) slices), (26, ae (slices.length : Int)), (27, ae b)], [.own (a.flatMap ak.c)]⟩) (Q := fun x st' => x = .exit 2 /\ Wk 0 st' ⟨mkS 36 0 [(6, .hs 0 0 e.length 6)], [.own (e.flatMap ak.c)]⟩) k ((Wk.gc [6, 25, 26, 27] [(0, false)] rfl (pKo ak.c ak.pure q trivial)).to) ?_ ?_
 ·clear hr
  rintro m ⟨a, b⟩ hr
  show CQ _ _ _ _ _ ⟨_, _⟩
  refine .seq (.r4 G [6, 25, 26, 27] [(28, aB (decide (b < (slices.length : Int))))] (.seq ?_))
  refine .cd hr ?_ ?_ <;> intro C hr
  ·refine .skip (.seq (.block (.seq ?_)))
   obtain ⟨o, hr⟩ := gd hr
   refine .r0 G (.p0 (v := .pp (slices.flatMap (slC ak.c)) (b.toNat * 1)) (tr (au o)) (.p0 (v := slT ak.c (gt slices b)) (tr (aG (aH (z7 ak.c) (aC o) z1 (by omega : b.toNat * 1 = b.toNat * 1 + 0) (by kernel_rfl)))) (.mu 1 (.done (.nh [6, 8, 25, 26, 27] [.own (a.flatMap ak.c)] ?_)))))
   obtain ⟨w, z, hr⟩ := gd2 hr
   refine .r0 G (.mu 2 (.e0 (v := .hs 1 0 (a ++ (gt slices b)).length 6) (ws := [(0, .dead), (1, .own ((a ++ (gt slices b)).flatMap ak.c))]) (tr (y := zk (decide ((((gt slices b).flatMap ak.c)).length = (gt slices b).length * 6)) ((gt slices b).flatMap ak.c) (gt slices b).length (fun z1 B => oC (decide (0 + a.length * 6 <= (a.flatMap ak.c).length) && decide ((a.length + B) * 80 <= 140737488355328) && decide (a.length + B <= 4611686018427387904)) (some (.eff (.hs 1 0 (a.length + B) 6) [(0, .dead), (1, .own (((a.flatMap ak.c).drop 0).take (a.length * 6) ++ z1))])))) (ur (nt ak.len) rfl (fb (l := a) (xs := (gt slices b)) ak.len rfl rfl rfl w z))) (.mu 1 (.done (.pop (.ru G ?_))))))
   exact aA (a ++ (gt slices b), Fj (b + 1)) hr ((Wk.gc [6, 25, 26, 27] [(1, false)] rfl (pKo ak.c ak.pure (a ++ (gt slices b)) trivial)).to)
  refine .leave rfl ?_
  obtain rfl := oi hr
  exact ⟨rfl, ((Wk.gc [6] [(0, false)] rfl (pKo ak.c ak.pure a trivial)).to)⟩
 rintro x st' i
 clear k
 obtain ⟨rfl, i⟩ := i
 refine aW _ rfl (.wk i (.seq (.r3 G 36 [(2, .hs 0 0 e.length 6)] (.ret ?_))))
 obtain rfl := oi hr
 exact aK.ret (vs := [.hs 0 0 e.length 6]) (by kernel_rfl) (Sn.hs rfl (.inl rfl) (SnC.pure (aY ak.pure _)) (fun h => cJ h))

theorem sH (n : Nat) (c : ag) (r : ag) (hr : nU n c = some r) : aL Tryz.prog 51 [.agg (ag.c c)] (.agg (ag.c r)) := by
 unfold nU at hr
 refine aL.bd G Tryz.func51 [.cell 2 35] ?_
 unfold Tryz.f51
 simp only [gS]
 refine .seq (.r2 G 49 [(1, .hp 0 0), (2, .hp 1 0)] [.own (ag.c c), .own [aB false, nS]] (.seq (.seq (.r4 G [1, 2] [(9, aB (!c.Closed))] ?_))))
 refine .cd hr ?_ ?_ <;> intro z hr
 ·refine .seq (.r5 G [2] [] [.own (ag.c c), .own (ag.c c)] (.ret ?_))
  obtain rfl := oi hr
  exact aK.r1 [.agg (ag.c c)]
 refine .skip (.seq (.r4 G [1, 2] [(3, ae 0)] (.seq (.seq (.r4 G [1, 2, 3] [(12, slT ak.c c.Points), (13, ae (c.Points.length : Int)), (14, ae 0)] (.block ?_))))))
 replace hr := bd hr; obtain ⟨a, f, hr⟩ := hr
 refine .aM (σ := fun C => match C with | (d, b) => ⟨mkS 49 0 [(1, .hp 0 0), (2, .hp 1 0), (3, ae d), (12, slT ak.c c.Points), (13, ae (c.Points.length : Int)), (14, ae b)], [.own (ag.c c), .own [aB false, nS]]⟩) (Q := fun x st' => x = .exit 0 /\ Wk 0 st' ⟨mkS 49 0 [(1, .hp 0 0), (2, .hp 1 0), (3, ae a)], [.own (ag.c c), .own [aB false, nS]]⟩) f ((Wk.gc [1, 2, 3, 12, 13, 14] [(0, true), (1, true)] rfl trivial).to) ?_ ?_
 ·clear hr
  rintro m ⟨d, b⟩ hr
  show CQ _ _ _ _ _ ⟨_, _⟩
  refine .seq (.r4 G [1, 2, 3, 12, 13, 14] [(15, aB (decide (b < (c.Points.length : Int))))] (.seq ?_))
  refine .cd hr ?_ ?_ <;> intro u hr
  ·refine .skip (.seq (.block (.seq ?_)))
   obtain ⟨g, hr⟩ := gd hr
   refine .r0 G (.mu 1 (.p0 (v := .pp (c.Points.flatMap ak.c) (b.toNat * 6)) (tr (au g)) (.p0 (v := .agg (ak.c (gt c.Points b))) (tr (y := bB.ofP (ei (decide (6 <= ((c.Points.flatMap ak.c).drop (b.toNat * 6)).length)) (.agg (((c.Points.flatMap ak.c).drop (b.toNat * 6)).take 6)))) (b6 ak.len (aC g) (by decide) (by omega : b.toNat * 6 = b.toNat * 6 + 0) (by kernel_rfl))) (.mu 3 (.done (.nh [1, 2, 3, 4, 5, 12, 13, 14] [.own (ag.c c), .own [aB false, nS], .own (ak.c (gt c.Points b))] (.seq ?_)))))))
   obtain ⟨i, hr⟩ := gd hr
   refine .r0 G (.mu 3 (.p0 (v := .pp (c.Points.flatMap ak.c) (d.toNat * 6)) (tr (au i)) (.p0 (v := .agg (ak.c (gt c.Points d))) (tr (y := bB.ofP (ei (decide (6 <= ((c.Points.flatMap ak.c).drop (d.toNat * 6)).length)) (.agg (((c.Points.flatMap ak.c).drop (d.toNat * 6)).take 6)))) (b6 ak.len (aC i) (by decide) (by omega : d.toNat * 6 = d.toNat * 6 + 0) (by kernel_rfl))) (.mu 2 (.done (.nh [1, 2, 3, 4, 5, 6, 12, 13, 14] [.own (ag.c c), .own [aB false, nS], .own (ak.c (gt c.Points b)), .own (ak.c (gt c.Points d))] (.seq ?_)))))))
   obtain ⟨t, p, hr⟩ := bd hr
   refine .g1 G (ok0 (ja n (A2.mk (gt c.Points b).A (gt c.Points b).B) (A2.mk (gt c.Points d).A (gt c.Points d).B) t p)) (.mu 10 (.ca cf0 (.mu 1 (.done (.nh [1, 2, 3, 4, 12, 13, 14, 35] [.own (ag.c c), .own [aB false, nS], .own (ak.c (gt c.Points b)), .own (ak.c (gt c.Points d))] ?_)))))
   refine .cd hr ?_ ?_ <;> intro w hr
   ·refine .ru G (.pop (.ru G ?_))
    exact aA (b, Fj (b + 1)) hr ((Wk.gc [1, 2, 3, 12, 13, 14] [(0, true), (1, true)] rfl trivial).to)
   refine .skip (.pop (.ru G ?_))
   exact aA (d, Fj (b + 1)) hr ((Wk.gc [1, 2, 3, 12, 13, 14] [(0, true), (1, true)] rfl trivial).to)
  refine .leave rfl ?_
  obtain rfl := oi hr
  exact ⟨rfl, ((Wk.gc [1, 2, 3] [(0, true), (1, true)] rfl trivial).to)⟩
 rintro x st' e
 clear f
 obtain ⟨rfl, e⟩ := e
 refine aW _ rfl (.wk e (.seq ?_))
 obtain ⟨j, k, hr⟩ := gd2 hr
 obtain ⟨o, q, hr⟩ := bd hr
 refine .tn G (ca4 [.own (ag.c c), .own [aB false, nS], .own [slT ak.c ((c.Points.drop a.toNat).take ((c.Points.length : Int).toNat - a.toNat)), slT ak.c ((c.Points.drop (0 : Int).toNat).take (a.toNat - (0 : Int).toNat))]] (cE (args := [.hs 2 0 2 1]) (l := [2]) (SnL.cons (Sn.hs rfl (.inl rfl) (SnC.cons (Sn.pure rfl) (SnC.cons (Sn.pure rfl) SnC.nil)) (fun h => nomatch h)) SnL.nil) (e9 n [((c.Points.drop a.toNat).take ((c.Points.length : Int).toNat - a.toNat)), ((c.Points.drop (0 : Int).toNat).take (a.toNat - (0 : Int).toNat))] o q))) (.mu 3 (.pk (v := slT ak.c ((c.Points.drop a.toNat).take ((c.Points.length : Int).toNat - a.toNat))) (tr (y := slO (inS a (c.Points.length : Int) c.Points.length) a.toNat (c.Points.length : Int).toNat (fun z1 s => .sl true (((c.Points.flatMap ak.c).drop (z1 * 6)).take ((s - z1) * 6)) (s - z1))) (xg j (tQ ak.len (qE j)))) (.mu 3 (.pk (v := slT ak.c ((c.Points.drop (0 : Int).toNat).take (a.toNat - (0 : Int).toNat))) (tr (y := slO (inS 0 a c.Points.length) (0 : Int).toNat a.toNat (fun z1 s => .sl true (((c.Points.flatMap ak.c).drop (z1 * 6)).take ((s - z1) * 6)) (s - z1))) (xg k (tQ ak.len (qE k)))) (.mu 1 (.ca cf0 (.mu 2 ?_)))))))
 refine .done ⟨by kernel_rfl, ?_⟩
 refine .nh [2] [.own (ag.c c), .own [aB true, slT ak.c o], .fix [slT ak.c ((c.Points.drop a.toNat).take ((c.Points.length : Int).toNat - a.toNat)), slT ak.c ((c.Points.drop (0 : Int).toNat).take (a.toNat - (0 : Int).toNat))]] (.ret ?_)
 obtain rfl := oi hr
 exact aK.r1 [.agg [aB true, slT ak.c o]]

theorem sz (n : Nat) (a : ag) (b : ag) (r : Int) (hr : mY n a b = some r) : aL Tryz.prog 53 [.agg (ag.c a), .agg (ag.c b)] (ae r) := by
 unfold mY at hr
 refine aL.bd G Tryz.func53 [.tmp 4] ?_
 unfold Tryz.f53
 simp only [gS]
 refine .seq (.r2 G 10 [(2, .hp 0 0), (3, .hp 1 0)] [.own (ag.c a), .own (ag.c b)] (.seq ?_))
 obtain ⟨g, d, i, e, j, f, hr⟩ := bd3 hr
 refine .tn G (ca1 (ok0 (j8 n a g d)) (ca1 (ok0 (j8 n b i e)) (ca3 (ok0 (ja n g i j f))))) (.mu 1 (.ca cf0 (.mu 1 (.ca (cfA (fun h => by rw [sv e d (oT n h)]) cf0) (.ca (cfF (cfF cf0)) (.mu 1 ?_))))))
 refine .done ⟨by kernel_rfl, ?_⟩
 refine .ret ?_
 obtain rfl := oi hr
 exact aK.r1 [ae j]

theorem dO (n : Nat) (data : List ag) (a : Int) (b : Int) (r : List ag) (hr : bk n data a b = some r) : dk 1 Tryz.prog 132 [.hs 0 0 data.length 2, ae a, ae b, .fn 53 [] []] [.own (data.flatMap ag.c)] (.tup []) [.own (r.flatMap ag.c)] := by
 unfold bk at hr
 refine dk.kp G Tryz.func132 (c := (Tryz.f132.body).getD .skip) rfl (us := []) (s := mkS 53 0 [(0, .hs 0 0 data.length 2), (1, ae a), (2, ae b), (3, .fn 53 [] [])]) (by kernel_rfl) (rs := []) rfl ?_
 unfold Tryz.f132
 simp only [gS]
 refine .seq (.r4 G [0, 1, 2, 3] [(8, ae (Fj (a + 1)))] (.block ?_))
 replace hr := bd hr; obtain ⟨p, q, hr⟩ := hr
 refine .aM (σ := fun w => match w with | (i, f) => ⟨mkS 53 0 [(0, .hs 0 0 i.length 2), (1, ae a), (2, ae b), (3, .fn 53 [] []), (8, ae f)], [.own (i.flatMap ag.c)]⟩) (Q := fun x st' => x = .exit 0 /\ Wk 1 st' ⟨mkS 53 0 [], [.own (p.flatMap ag.c)]⟩) q ((Wk.gc [0, 1, 2, 3, 8] [(0, false)] rfl (pKo ag.c ag.pure data trivial)).to) ?_ ?_
 ·clear hr
  rintro m ⟨i, f⟩ hr
  show CQ _ _ _ _ _ ⟨_, _⟩
  refine .seq (.seq (.r4 G [0, 1, 2, 3, 8] [(14, aB (decide (f < b)))] ?_))
  refine .cd hr ?_ ?_ <;> intro A hr
  ·refine .skip (.seq (.block (.seq (.r4 G [0, 1, 2, 3, 8] [(9, ae f)] (.block ?_)))))
   replace hr := bd hr; obtain ⟨k, t, hr⟩ := hr
   refine .aM (σ := fun w => match w with | (e, d) => ⟨mkS 53 0 [(0, .hs 0 0 e.length 2), (1, ae a), (2, ae b), (3, .fn 53 [] []), (8, ae f), (9, ae d)], [.own (e.flatMap ag.c)]⟩) (Q := fun x st' => x = .exit 2 /\ Wk 1 st' ⟨mkS 53 0 [(0, .hs 0 0 k.length 2), (1, ae a), (2, ae b), (3, .fn 53 [] []), (8, ae f)], [.own (k.flatMap ag.c)]⟩) t ((Wk.gc [0, 1, 2, 3, 8, 9] [(0, false)] rfl (pKo ag.c ag.pure i trivial)).to) ?_ ?_
   ·clear hr
    rintro m ⟨e, d⟩ hr
    show CQ _ _ _ _ _ ⟨_, _⟩
    refine .seq (.seq ?_)
    rcases bT (decide (d > a)) with j | j
    ·replace hr := cC j hr
     obtain ⟨g, h, hr⟩ := gd2 hr
     obtain ⟨z, u, hr⟩ := bd hr
     refine .t1 G (ok0 (sz n (gt e d) (gt e (Fj (d - 1))) z u)) (.mu 2 (.pk (v := aB true) (eB j) (.mu 4 (.pk (v := .hp 0 (0 + d.toNat * 2)) (tr (au g)) (.pk (v := .agg (ag.c (gt e d))) (tr (y := bB.ofP (ei (decide (2 <= ((e.flatMap ag.c).drop (0 + d.toNat * 2)).length)) (.agg (((e.flatMap ag.c).drop (0 + d.toNat * 2)).take 2)))) (b6 ag.len (aC g) (by decide) (by omega : 0 + d.toNat * 2 = d.toNat * 2 + 0) (by kernel_rfl))) (.mu 3 (.pk (v := .hp 0 (0 + (Fj (d - 1)).toNat * 2)) (tr (au h)) (.pk (v := .agg (ag.c (gt e (Fj (d - 1))))) (tr (y := bB.ofP (ei (decide (2 <= ((e.flatMap ag.c).drop (0 + (Fj (d - 1)).toNat * 2)).length)) (.agg (((e.flatMap ag.c).drop (0 + (Fj (d - 1)).toNat * 2)).take 2)))) (b6 ag.len (aC h) (by decide) (by omega : 0 + (Fj (d - 1)).toNat * 2 = (Fj (d - 1)).toNat * 2 + 0) (by kernel_rfl))) (.ca cf0 (.mu 2 ?_))))))))))
     refine .done ⟨by kernel_rfl, ?_⟩
     refine .nh [0, 1, 2, 3, 8, 9, 34] [.own (e.flatMap ag.c)] ?_
     refine .cd hr ?_ ?_ <;> intro B hr
     ·refine .skip (.seq (.block (.dZ G bI (.mu 8 (.pk (v := .hp 0 (0 + (Fj (d - 1)).toNat * 2)) (tr (au h)) (.pk (v := .agg (ag.c (gt e (Fj (d - 1))))) (tr (y := bB.ofP (ei (decide (2 <= ((e.flatMap ag.c).drop (0 + (Fj (d - 1)).toNat * 2)).length)) (.agg (((e.flatMap ag.c).drop (0 + (Fj (d - 1)).toNat * 2)).take 2)))) (b6 ag.len (aC h) (by decide) (by omega : 0 + (Fj (d - 1)).toNat * 2 = (Fj (d - 1)).toNat * 2 + 0) (by kernel_rfl))) (.mu 2 (.pk (v := .hp 0 (0 + d.toNat * 2)) (tr (au g)) (.pk (v := .agg (ag.c (gt e d))) (tr (y := bB.ofP (ei (decide (2 <= ((e.flatMap ag.c).drop (0 + d.toNat * 2)).length)) (.agg (((e.flatMap ag.c).drop (0 + d.toNat * 2)).take 2)))) (b6 ag.len (aC g) (by decide) (by omega : 0 + d.toNat * 2 = d.toNat * 2 + 0) (by kernel_rfl))) (.pk (v := .hp 0 (0 + d.toNat * 2)) (tr (au g)) (.ek (v := .unk) (ws := [(0, .own ((e.set d.toNat (gt e (Fj (d - 1)))).flatMap ag.c))]) (tr (iD (iJ (cr (n := 2) ag.len (aC g) (lbT rfl) (by omega : 0 + d.toNat * 2 = d.toNat * 2 + 0))) (congrArg Blk.own (cR (xs := (ag.c (gt e (Fj (d - 1))))) ag.len (aC g) (lbT rfl) (by omega : 0 + d.toNat * 2 = d.toNat * 2 + 0) (by kernel_rfl))))) (.pk (v := .hp 0 (0 + (Fj (d - 1)).toNat * 2)) (tr (au h)) (.ek (v := .unk) (ws := [(0, .own (((e.set d.toNat (gt e (Fj (d - 1)))).set (Fj (d - 1)).toNat (gt e d)).flatMap ag.c))]) (tr (y := stO (decide ((0 + (Fj (d - 1)).toNat * 2) + 2 <= ((e.set d.toNat (gt e (Fj (d - 1)))).flatMap ag.c).length) && true) [(0, .own (setCells ((e.set d.toNat (gt e (Fj (d - 1)))).flatMap ag.c) (0 + (Fj (d - 1)).toNat * 2) (ag.c (gt e d))))]) (iD (iJ (cr ag.len (aC (rz h)) (lbT rfl) (by omega : 0 + (Fj (d - 1)).toNat * 2 = (Fj (d - 1)).toNat * 2 + 0))) (congrArg Blk.own (cR ag.len (aC (rz h)) (lbT rfl) (by omega : 0 + (Fj (d - 1)).toNat * 2 = (Fj (d - 1)).toNat * 2 + 0) (by kernel_rfl))))) ?_)))))))))))))
      refine .done ⟨by kernel_rfl, ?_⟩
      refine .pop (.ru G ?_)
      exact aA ((e.set d.toNat (gt e (Fj (d - 1)))).set (Fj (d - 1)).toNat (gt e d), Fj (d - 1)) hr ((Wk.iH 0 (b := 0) (es := 2) (len := e.length) ((e.set d.toNat (gt e (Fj (d - 1)))).set (Fj (d - 1)).toNat (gt e d)).length (by kernel_rfl) (Eq.symm (List.length_set.trans (List.length_set.trans rfl)))).trans ((Wk.gc [0, 1, 2, 3, 8, 9] [(0, false)] rfl (pKo ag.c ag.pure ((e.set d.toNat (gt e (Fj (d - 1)))).set (Fj (d - 1)).toNat (gt e d)) trivial)).to))
     refine .leave rfl ?_
     obtain rfl := oi hr
     exact ⟨rfl, ((Wk.gc [0, 1, 2, 3, 8] [(0, false)] rfl (pKo ag.c ag.pure e trivial)).to)⟩
    replace hr := cB j hr
    refine .dZ G bI (.mu 2 (.pk (v := aB false) (eB j) (.mu 14 ?_)))
    refine .done ⟨by kernel_rfl, ?_⟩
    refine .nh [0, 1, 2, 3, 8, 9, 34] [.own (e.flatMap ag.c)] (.cF (by kernel_rfl) (.leave rfl ?_))
    obtain rfl := oi hr
    exact ⟨rfl, ((Wk.gc [0, 1, 2, 3, 8] [(0, false)] rfl (pKo ag.c ag.pure e trivial)).to)⟩
   rintro x st' l
   clear t
   obtain ⟨rfl, l⟩ := l
   refine aW _ rfl (.pop (.wk l (.ru G ?_)))
   exact aA (k, Fj (f + 1)) hr ((Wk.gc [0, 1, 2, 3, 8] [(0, false)] rfl (pKo ag.c ag.pure k trivial)).to)
  refine .leave rfl ?_
  obtain rfl := oi hr
  exact ⟨rfl, ((Wk.gc [] [(0, false)] rfl (pKo ag.c ag.pure i trivial)).to)⟩
 rintro x st' o
 clear q
 obtain ⟨rfl, o⟩ := o
 refine aW _ rfl ?_
 obtain rfl := oi hr
 exact dm.wk o (dm.normal [] ((Wk.gc [] [(0, false)] rfl (pKo ag.c ag.pure p trivial)).to))

theorem ew (n : Nat) (data : List ag) (a : Int) (b : Int) (limit : Int) (r : List ag) (hr : bx n data a b limit = some r) : dk 1 Tryz.prog 97 [.hs 0 0 data.length 2, ae a, ae b, ae limit, .fn 53 [] []] [.own (data.flatMap ag.c)] (.tup []) [.own (r.flatMap ag.c)] := by
 unfold bx at hr
 refine dk.kp G Tryz.func97 (c := (Tryz.f97.body).getD .skip) rfl (us := []) (s := mkS 148 0 [(0, .hs 0 0 data.length 2), (1, ae a), (2, ae b), (3, ae limit), (4, .fn 53 [] [])]) (by kernel_rfl) (rs := []) rfl ?_
 unfold Tryz.f97
 simp only [gS]
 refine .seq (.r4 G [0, 1, 2, 3, 4] [(10, aB true)] (.seq (.r4 G [0, 1, 2, 3, 4, 10] [(11, aB true)] (.block ?_))))
 replace hr := bd hr; obtain ⟨r0, g, hr⟩ := hr
 refine .aM (σ := fun p => match p with | (d, e, h, i, j) => ⟨mkS 148 0 [(0, .hs 0 0 data.length 2), (1, ae d), (2, ae e), (3, ae h), (4, .fn 53 [] []), (10, aB i), (11, aB j)], [.own (data.flatMap ag.c)]⟩) (Q := fun x st' => x = .ret /\ dm 1 Tryz.prog [] [] [.own (r0.flatMap ag.c)] .ret st') g ((Wk.gc [0, 1, 2, 3, 4, 10, 11] [(0, false)] rfl (pKo ag.c ag.pure data trivial)).to) ?_ ?_
 ·clear hr
  rintro m ⟨d, e, h, i, j⟩ hr
  show CQ _ _ _ _ _ ⟨_, _⟩
  refine .block (.seq (.r4 G [0, 1, 2, 3, 4, 10, 11] [(12, ae (Fj (e - d)))] (.seq (.seq (.r4 G [0, 1, 2, 3, 4, 10, 11, 12] [(25, aB (decide ((Fj (e - d)) <= 12)))] ?_)))))
  obtain ⟨l, hr⟩ := gd hr
  refine .cY l (.seq ?_)
  obtain ⟨k, o, hr⟩ := bd hr
  refine .g1 G (bX (args := [.hs 0 0 data.length 2, ae d, ae e, .fn 53 [] []]) 1 0 [(0, false)] [false] (dO n data d e k o) (by exact ⟨aY ag.pure _, trivial⟩) (by exact ⟨aY ag.pure _, trivial⟩) rfl rfl (by kernel_rfl) (by kernel_rfl)) (.mu 4 (.ca cf0 (.done (.nh [] [.own (k.flatMap ag.c)] (.ret ?_)))))
  obtain rfl := oi hr
  exact ⟨rfl, dm.ret [] ((Wk.gc [] [(0, false)] rfl (pKo ag.c ag.pure k trivial)).to)⟩
 rintro x st' f
 clear g
 obtain ⟨rfl, f⟩ := f
 obtain rfl := oi hr
 exact iz _ f

theorem c7 (n : Nat) (a : List ag) (r : List ag) (hr : a9 n a = some r) : dk 1 Tryz.prog 52 [.hs 0 0 a.length 2, .fn 53 [] []] [.own (a.flatMap ag.c)] (.tup []) [.own (r.flatMap ag.c)] := by
 unfold a9 at hr
 refine dk.kp G Tryz.func52 (c := (Tryz.f52.body).getD .skip) rfl (us := []) (s := mkS 14 0 [(0, .hs 0 0 a.length 2), (1, .fn 53 [] [])]) (by kernel_rfl) (rs := []) rfl ?_
 unfold Tryz.f52
 simp only [gS]
 refine .seq (.r4 G [0, 1] [(4, ae (a.length : Int))] ?_)
 obtain ⟨b, d, f, e, hr⟩ := bd2 hr
 refine .gn G (ca1 (ok0 (mi n (wFu (a.length : Int)) b d)) (ca3 (bX (args := [.hs 0 0 a.length 2, ae 0, ae (a.length : Int), ae b, .fn 53 [] []]) 1 0 [(0, false)] [false] (ew n a 0 (a.length : Int) b f e) (by exact ⟨aY ag.pure _, trivial⟩) (by exact ⟨aY ag.pure _, trivial⟩) rfl rfl (by kernel_rfl) (by kernel_rfl)))) (.mu 4 (.ca cf0 (.mu 1 (.ca (cfF cf0) (.done ?_)))))
 obtain rfl := oi hr
 exact dm.normal [] ((Wk.gc [] [(0, false)] rfl (pKo ag.c ag.pure f trivial)).to)

theorem sU (n : Nat) (p : ak) (q : ak) (r : Bool) (hr : nA n p q = some r) : aL Tryz.prog 100 [.agg (ak.c p), .agg (ak.c q)] (aB r) := by
 unfold nA at hr
 refine aL.bd G Tryz.func100 [.tmp 4] ?_
 unfold Tryz.f100
 simp only [gS]
 refine .seq (.r2 G 35 [(2, .hp 0 0), (3, .hp 1 0)] [.own (ak.c p), .own (ak.c q)] (.seq ?_))
 rcases bT ((p.A : Int) == q.A) with a | a
 ·replace hr := cC a hr
  rcases bT ((p.B : Int) == q.B) with b | b
  ·replace hr := cC b hr
   obtain ⟨k, d, hr⟩ := bd hr
   rcases bT k with f | f
   ·subst f
    replace hr := cC rfl hr
    obtain ⟨l, e, hr⟩ := bd hr
    rcases bT l with g | g
    ·subst g
     replace hr := cC rfl hr
     obtain ⟨j, i, hr⟩ := bd hr
     refine .gn G (ca1 (ok0 (eO n p.At true d)) (ca1 (ok0 (eO n q.At true e)) (ca3 (ok0 (ni n p.At q.At j i))))) (.mu 4 (.p0 (v := aB true) (eB a) (.mu 5 (.pure (v := aB true) (by kernel_rfl) (eB b) (.mu 4 (.ca cf0 (.mu 4 (.ca (cfA (fun h => by rw [sv e d (ou n h)]) cf0) (.mu 6 (.ca (cfF (cfF cf0)) (.mu 3 (.done (.ret ?_)))))))))))))
     obtain rfl := oi hr
     exact aK.r1 [aB ((j : Int) == 0)]
    subst g
    replace hr := cB rfl hr
    refine .gn G (ca1 (ok0 (eO n p.At true d)) (ca3 (ok0 (eO n q.At false e)))) (.mu 4 (.p0 (v := aB true) (eB a) (.mu 5 (.pure (v := aB true) (by kernel_rfl) (eB b) (.mu 4 (.ca cf0 (.mu 4 (.ca (cfA (fun h => by rw [sv e d (ou n h)]) cf0) (.mu 10 (.done (.ret ?_)))))))))))
    obtain rfl := oi hr
    exact aK.r1 [aB false]
   subst f
   replace hr := cB rfl hr
   refine .g1 G (ok0 (eO n p.At false d)) (.mu 4 (.p0 (v := aB true) (eB a) (.mu 5 (.pure (v := aB true) (by kernel_rfl) (eB b) (.mu 4 (.ca cf0 (.mu 15 (.done (.ret ?_)))))))))
   obtain rfl := oi hr
   exact aK.r1 [aB false]
  replace hr := cB b hr
  refine .r0 G (.mu 4 (.p0 (v := aB true) (eB a) (.mu 5 (.pure (v := aB false) (by kernel_rfl) (eB b) (.mu 20 (.done (.ret ?_)))))))
  obtain rfl := oi hr
  exact aK.r1 [aB false]
 replace hr := cB a hr
 refine .r0 G (.mu 4 (.p0 (v := aB false) (eB a) (.mu 26 (.done (.ret ?_)))))
 obtain rfl := oi hr
 exact aK.r1 [aB false]

theorem bt (n : Nat) (d : List ak) (e : List ak) (r : Bool) (hr : aN n d e = some r) : aL Tryz.prog 99 [slT ak.c d, slT ak.c e, .fn 100 [] []] (aB r) := by
 unfold aN at hr
 refine aL.bd G Tryz.func99 [.tmp 6] ?_
 unfold Tryz.f99
 simp only [gS]
 refine .seq (.r4 G [0, 1, 2] [] (.seq (.seq (.r4 G [0, 1, 2] [(14, aB (((d.length : Int) : Int) != (e.length : Int)))] ?_))))
 refine .cd hr ?_ ?_ <;> intro p hr
 ·refine .seq (.ru G (.ret ?_))
  obtain rfl := oi hr
  exact aK.r1 [aB false]
 refine .skip (.seq (.seq (.r4 G [1, 2] [(15, slT ak.c d), (16, ae (d.length : Int)), (17, ae 0)] (.block ?_))))
 replace hr := bd hr; obtain ⟨i, f, hr⟩ := hr
 refine .aM (σ := fun q => match q with | a => ⟨mkS 32 0 [(1, slT ak.c e), (2, .fn 100 [] []), (15, slT ak.c d), (16, ae (d.length : Int)), (17, ae a)], []⟩) (Q := fun x st' => match (generalizing := false) i with | .inl _ => x = .exit 0 /\ Wk 0 st' ⟨mkS 32 0 [], []⟩ | .inr (r0) => x = .ret /\ aK Tryz.prog [.tmp 6] (aB r0) .ret st') f ((Wk.gc [1, 2, 15, 16, 17] [] rfl pK0).to) ?_ ?_
 ·clear hr
  rintro m a hr
  show CQ _ _ _ _ _ ⟨_, _⟩
  refine .seq (.r4 G [1, 2, 15, 16, 17] [(18, aB (decide (a < (d.length : Int))))] (.seq ?_))
  refine .cd hr ?_ ?_ <;> intro l hr
  ·refine .skip (.seq (.block (.seq ?_)))
   obtain ⟨g, hr⟩ := gd hr
   refine .r0 G (.mu 1 (.p0 (v := .pp (d.flatMap ak.c) (a.toNat * 6)) (tr (au g)) (.p0 (v := .agg (ak.c (gt d a))) (tr (y := bB.ofP (ei (decide (6 <= ((d.flatMap ak.c).drop (a.toNat * 6)).length)) (.agg (((d.flatMap ak.c).drop (a.toNat * 6)).take 6)))) (b6 ak.len (aC g) (by decide) (by omega : a.toNat * 6 = a.toNat * 6 + 0) (by kernel_rfl))) (.mu 3 (.done (.nh [1, 2, 7, 8, 15, 16, 17] [.own (ak.c (gt d a))] (.seq ?_)))))))
   obtain ⟨h, hr⟩ := gd hr
   refine .r0 G (.mu 2 (.p0 (v := .pp (e.flatMap ak.c) (a.toNat * 6)) (tr (au h)) (.p0 (v := .agg (ak.c (gt e a))) (tr (y := bB.ofP (ei (decide (6 <= ((e.flatMap ak.c).drop (a.toNat * 6)).length)) (.agg (((e.flatMap ak.c).drop (a.toNat * 6)).take 6)))) (b6 ak.len (aC h) (by decide) (by omega : a.toNat * 6 = a.toNat * 6 + 0) (by kernel_rfl))) (.mu 2 (.done (.nh [1, 2, 8, 9, 15, 16, 17] [.own (ak.c (gt d a)), .own (ak.c (gt e a))] (.seq ?_)))))))
   obtain ⟨k, j, hr⟩ := bd hr
   refine .g1 G (ok0 (sU n (gt d a) (gt e a) k j)) (.mu 3 (.ca cf0 (.mu 1 (.done (.nh [1, 2, 15, 16, 17, 30] [.own (ak.c (gt d a)), .own (ak.c (gt e a))] ?_)))))
   refine .cd hr ?_ ?_ <;> intro o hr
   ·refine .seq (.ru G (.ret ?_))
    obtain rfl := oi hr
    exact ⟨rfl, aK.ret (vs := [aB false]) (by kernel_rfl) (Sn.pure rfl)⟩
   refine .skip (.pop (.ru G ?_))
   exact aA (Fj (a + 1)) hr ((Wk.gc [1, 2, 15, 16, 17] [] rfl pK0).to)
  refine .leave rfl ?_
  obtain rfl := oi hr
  exact ⟨rfl, ((Wk.gc [] [] rfl pK0).to)⟩
 rcases i with ⟨⟩ | r0
 ·rintro x st' b
  clear f
  obtain ⟨rfl, b⟩ := b
  refine aW _ rfl (.wk b (.seq (.ru G (.ret ?_))))
  obtain rfl := oi hr
  exact aK.r1 [aB true]
 rintro x st' b
 clear f
 obtain ⟨rfl, b⟩ := b
 obtain rfl := oi hr
 exact iz _ b

theorem uU (n : Nat) (a : ag) (b : ag) (r : Bool) (hr : p8 n a b = some r) : aL Tryz.prog 56 [.agg (ag.c a), .agg (ag.c b)] (aB r) := by
 unfold p8 at hr
 refine aL.bd G Tryz.func56 [.tmp 4] ?_
 unfold Tryz.f56
 simp only [gS]
 refine .seq (.r2 G 17 [(2, .hp 0 0), (3, .hp 1 0)] [.own (ag.c a), .own (ag.c b)] (.seq ?_))
 rcases bT (a.Closed == b.Closed) with d | d
 ·replace hr := cC d hr
  obtain ⟨f, e, hr⟩ := bd hr
  refine .g1 G (ok0 (bt n a.Points b.Points f e)) (.mu 4 (.p0 (v := aB true) (eB d) (.mu 5 (.ca cf0 (.mu 2 (.done (.ret ?_)))))))
  obtain rfl := oi hr
  exact aK.r1 [aB f]
 replace hr := cB d hr
 refine .r0 G (.mu 4 (.p0 (v := aB false) (eB d) (.mu 8 (.done (.ret ?_)))))
 obtain rfl := oi hr
 exact aK.r1 [aB false]

theorem bH (n : Nat) (d : List ag) (e : List ag) (r : Bool) (hr : aO n d e = some r) : aL Tryz.prog 16 [slT ag.c d, slT ag.c e, .fn 56 [] []] (aB r) := by
 unfold aO at hr
 refine aL.bd G Tryz.func16 [.tmp 6] ?_
 unfold Tryz.f16
 simp only [gS]
 refine .seq (.r4 G [0, 1, 2] [] (.seq (.seq (.r4 G [0, 1, 2] [(14, aB (((d.length : Int) : Int) != (e.length : Int)))] ?_))))
 refine .cd hr ?_ ?_ <;> intro p hr
 ·refine .seq (.ru G (.ret ?_))
  obtain rfl := oi hr
  exact aK.r1 [aB false]
 refine .skip (.seq (.seq (.r4 G [1, 2] [(15, slT ag.c d), (16, ae (d.length : Int)), (17, ae 0)] (.block ?_))))
 replace hr := bd hr; obtain ⟨i, f, hr⟩ := hr
 refine .aM (σ := fun q => match q with | a => ⟨mkS 32 0 [(1, slT ag.c e), (2, .fn 56 [] []), (15, slT ag.c d), (16, ae (d.length : Int)), (17, ae a)], []⟩) (Q := fun x st' => match (generalizing := false) i with | .inl _ => x = .exit 0 /\ Wk 0 st' ⟨mkS 32 0 [], []⟩ | .inr (r0) => x = .ret /\ aK Tryz.prog [.tmp 6] (aB r0) .ret st') f ((Wk.gc [1, 2, 15, 16, 17] [] rfl pK0).to) ?_ ?_
 ·clear hr
  rintro m a hr
  show CQ _ _ _ _ _ ⟨_, _⟩
  refine .seq (.r4 G [1, 2, 15, 16, 17] [(18, aB (decide (a < (d.length : Int))))] (.seq ?_))
  refine .cd hr ?_ ?_ <;> intro l hr
  ·refine .skip (.seq (.block (.seq ?_)))
   obtain ⟨g, hr⟩ := gd hr
   refine .r0 G (.mu 1 (.p0 (v := .pp (d.flatMap ag.c) (a.toNat * 2)) (tr (au g)) (.p0 (v := .agg (ag.c (gt d a))) (tr (y := bB.ofP (ei (decide (2 <= ((d.flatMap ag.c).drop (a.toNat * 2)).length)) (.agg (((d.flatMap ag.c).drop (a.toNat * 2)).take 2)))) (b6 ag.len (aC g) (by decide) (by omega : a.toNat * 2 = a.toNat * 2 + 0) (by kernel_rfl))) (.mu 3 (.done (.nh [1, 2, 7, 8, 15, 16, 17] [.own (ag.c (gt d a))] (.seq ?_)))))))
   obtain ⟨h, hr⟩ := gd hr
   refine .r0 G (.mu 2 (.p0 (v := .pp (e.flatMap ag.c) (a.toNat * 2)) (tr (au h)) (.p0 (v := .agg (ag.c (gt e a))) (tr (y := bB.ofP (ei (decide (2 <= ((e.flatMap ag.c).drop (a.toNat * 2)).length)) (.agg (((e.flatMap ag.c).drop (a.toNat * 2)).take 2)))) (b6 ag.len (aC h) (by decide) (by omega : a.toNat * 2 = a.toNat * 2 + 0) (by kernel_rfl))) (.mu 2 (.done (.nh [1, 2, 8, 9, 15, 16, 17] [.own (ag.c (gt d a)), .own (ag.c (gt e a))] (.seq ?_)))))))
   obtain ⟨k, j, hr⟩ := bd hr
   refine .g1 G (ok0 (uU n (gt d a) (gt e a) k j)) (.mu 3 (.ca cf0 (.mu 1 (.done (.nh [1, 2, 15, 16, 17, 30] [.own (ag.c (gt d a)), .own (ag.c (gt e a))] ?_)))))
   refine .cd hr ?_ ?_ <;> intro o hr
   ·refine .seq (.ru G (.ret ?_))
    obtain rfl := oi hr
    exact ⟨rfl, aK.ret (vs := [aB false]) (by kernel_rfl) (Sn.pure rfl)⟩
   refine .skip (.pop (.ru G ?_))
   exact aA (Fj (a + 1)) hr ((Wk.gc [1, 2, 15, 16, 17] [] rfl pK0).to)
  refine .leave rfl ?_
  obtain rfl := oi hr
  exact ⟨rfl, ((Wk.gc [] [] rfl pK0).to)⟩
 rcases i with ⟨⟩ | r0
 ·rintro x st' b
  clear f
  obtain ⟨rfl, b⟩ := b
  refine aW _ rfl (.wk b (.seq (.ru G (.ret ?_))))
  obtain rfl := oi hr
  exact aK.r1 [aB true]
 rintro x st' b
 clear f
 obtain ⟨rfl, b⟩ := b
 obtain rfl := oi hr
 exact iz _ b

theorem uj (n : Nat) (g : al) (level : Int) (l : List ag) (r : Int) (hr : kF n g level l = some r) : aL Tryz.prog 20 [.agg (al.c g), ae level, slT ag.c l] (ae r) := by
 unfold kF at hr
 refine aL.bd G Tryz.func20 [.tmp 6] ?_
 unfold Tryz.f20
 simp only [gS]
 refine .seq (.r5 G [1, 2] [(3, .hp 0 0)] [.own (al.c g)] (.seq (.seq ?_)))
 obtain ⟨B, C, hr⟩ := bd hr
 refine .g1 G (ok0 (gC n g level B C)) (.mu 2 (.ca cf0 (.mu 1 (.done (.nh [1, 2, 3, 7] [.own (al.c g)] (.seq (.r4 G [1, 2, 3, 7] [(15, aB ((B : Int) != 0))] ?_)))))))
 refine .cd hr ?_ ?_ <;> intro I hr
 ·refine .seq (.ru G (.ret ?_))
  obtain rfl := oi hr
  exact aK.r1 [ae B]
 refine .skip (.seq (.r4 G [1, 2, 3] [(8, nS)] (.seq (.seq (.r4 G [1, 3, 8] [(17, slT ag.c l), (18, ae (l.length : Int)), (19, ae 0)] (.block ?_))))))
 replace hr := bd hr; obtain ⟨p, i, hr⟩ := hr
 refine .aM (σ := fun J => match J with | (d, a) => ⟨mkS 41 0 [(1, ae level), (3, .hp 0 0), (8, .hs 1 0 d.length 2), (17, slT ag.c l), (18, ae (l.length : Int)), (19, ae a)], [.own (al.c g), .own (d.flatMap ag.c)]⟩) (Q := fun x st' => match (generalizing := false) p with | .inl e => x = .exit 0 /\ Wk 0 st' ⟨mkS 41 0 [(1, ae level), (3, .hp 0 0), (8, .hs 1 0 e.length 2)], [.own (al.c g), .own (e.flatMap ag.c)]⟩ | .inr (r0) => x = .ret /\ aK Tryz.prog [.tmp 6] (ae r0) .ret st') i ((Wk.nil 8 2 (by kernel_rfl)).trans ((Wk.gc [1, 3, 8, 17, 18, 19] [(0, true), (1, false)] rfl (pKt (pKc trivial))).to)) ?_ ?_
 ·clear hr
  rintro m ⟨d, a⟩ hr
  show CQ _ _ _ _ _ ⟨_, _⟩
  refine .seq (.r4 G [1, 3, 8, 17, 18, 19] [(20, aB (decide (a < (l.length : Int))))] (.seq ?_))
  refine .cd hr ?_ ?_ <;> intro E hr
  ·refine .skip (.seq (.block (.seq ?_)))
   obtain ⟨k, hr⟩ := gd hr
   refine .r0 G (.p0 (v := .pp (l.flatMap ag.c) (a.toNat * 2)) (tr (au k)) (.p0 (v := .agg (ag.c (gt l a))) (tr (y := bB.ofP (ei (decide (2 <= ((l.flatMap ag.c).drop (a.toNat * 2)).length)) (.agg (((l.flatMap ag.c).drop (a.toNat * 2)).take 2)))) (b6 ag.len (aC k) (by decide) (by omega : a.toNat * 2 = a.toNat * 2 + 0) (by kernel_rfl))) (.mu 2 (.done (.nh [1, 3, 8, 10, 17, 18, 19] [.own (al.c g), .own (d.flatMap ag.c), .own (ag.c (gt l a))] (.seq (.seq (.r4 G [1, 3, 8, 10, 17, 18, 19] [(26, aB ((((gt l a).Points.length : Int) : Int) == 0))] ?_))))))))
   refine .cd hr ?_ ?_ <;> intro F hr
   ·refine .seq (.ru G (.ret ?_))
    obtain rfl := oi hr
    exact ⟨rfl, aK.ret (vs := [ae 12]) (by kernel_rfl) (Sn.pure rfl)⟩
   refine .skip ?_
   obtain ⟨f, q, hr⟩ := bd hr
   obtain ⟨s, t, hr⟩ := gd2 hr
   refine .g1 G (ok0 (sH n (gt l a) f q)) (.mu 2 (.ca cf0 (.mu 1 (.e0 (v := .hs 4 0 (d ++ [f]).length 2) (ws := [(1, .dead), (4, .own ((d ++ [f]).flatMap ag.c))]) (tr (fb (new := (ag.c f)) (l := d) (xs := [f]) ag.len rfl rfl (by kernel_rfl) s t)) (.mu 1 (.done (.pop (.ru G ?_))))))))
   exact aA (d ++ [f], Fj (a + 1)) hr ((Wk.gc [1, 3, 8, 17, 18, 19] [(0, true), (4, false)] rfl (pKt (pKo ag.c ag.pure (d ++ [f]) trivial))).to)
  refine .leave rfl ?_
  obtain rfl := oi hr
  exact ⟨rfl, ((Wk.gc [1, 3, 8] [(0, true), (1, false)] rfl (pKt (pKo ag.c ag.pure d trivial))).to)⟩
 rcases p with e | r0
 ·rintro x st' b
  clear i
  obtain ⟨rfl, b⟩ := b
  refine aW _ rfl (.wk b (.seq ?_))
  obtain ⟨j, u, hr⟩ := bd hr
  obtain ⟨w, hr⟩ := gd hr
  refine .g1 G (bX (args := [.hs 1 0 e.length 2, .fn 53 [] []]) 1 0 [(1, false)] [false] (c7 n e j u) (by exact ⟨aY ag.pure _, trivial⟩) (by exact ⟨aY ag.pure _, trivial⟩) rfl rfl (by kernel_rfl) (by kernel_rfl)) (.mu 1 (.ca cf0 (.done (.nh [1, 3, 8] [.own (al.c g), .own (j.flatMap ag.c)] (.seq (.seq ?_))))))
  obtain ⟨o, z, D, A, hr⟩ := bd2 hr
  refine .gn G (ca1 (ok0 (pc n g level o z)) (ca3 (gu (args := [.hs 1 0 e.length 2, slT ag.c o, .fn 56 [] []]) (l := [1]) rfl (SnL.cons (Sn.hse (dcT w) rfl (.inl rfl) (SnC.pure (aY ag.pure _)) (fun h => cJ h)) (Sp (Sp SnL.nil))) (bH n j o D A)))) (.mu 3 (.ca cf0 (.ca (cfF cf0) (.mu 1 (.done (.nh [40] [.own (al.c g), .own (j.flatMap ag.c)] ?_))))))
  refine .cd hr ?_ ?_ <;> intro H hr
  ·refine .seq (.ru G (.ret ?_))
   obtain rfl := oi hr
   exact aK.r1 [ae 12]
  refine .skip (.seq (.ru G (.ret ?_)))
  obtain rfl := oi hr
  exact aK.r1 [ae 0]
 rintro x st' b
 clear i
 obtain ⟨rfl, b⟩ := b
 obtain rfl := oi hr
 exact iz _ b

theorem pY (n : Nat) (r : Bool) (hr : fQ n = some r) : aL Tryz.prog 12 [] (aB r) := by
 unfold fQ at hr
 refine aL.bd G Tryz.func12 [.tmp 0] ?_
 unfold Tryz.f12
 simp only [gS]
 refine .seq (.r3 G 93 [] (.seq ?_))
 obtain ⟨N, J, a, L, hr⟩ := bd2 hr
 refine .gn G (ca1 (ok0 (fw n N J)) (ca3 (ok0 (uu n N 1 a L)))) (.ca cf0 (.ca (cfF cf0) (.mu 5 (.done (.n2 93 [(1, slT ag.c a.1), (2, ae a.2)] [] (.seq (.seq ?_)))))))
 rcases bT ((a.2 : Int) != 0) with i | i
 ·replace hr := cC i hr
  refine .r0 G (.mu 1 (.p0 (v := aB true) (eB i) (.mu 40 (.done (.n2 93 [(1, slT ag.c a.1), (54, aB true)] [] (.cT (by kernel_rfl) (.seq (.ru G (.ret ?_)))))))))
  obtain rfl := oi hr
  exact aK.r1 [aB false]
 replace hr := cB i hr
 rcases bT (((a.1.length : Int) : Int) != 1) with j | j
 ·replace hr := cC j hr
  refine .r0 G (.mu 1 (.p0 (v := aB false) (eB i) (.mu 3 (.pure (v := aB true) (by kernel_rfl) (eB j) (.mu 36 (.done (.n2 93 [(1, slT ag.c a.1), (54, aB true)] [] (.cT (by kernel_rfl) (.seq (.ru G (.ret ?_)))))))))))
  obtain rfl := oi hr
  exact aK.r1 [aB false]
 replace hr := cB j hr
 obtain ⟨b, hr⟩ := gd hr
 rcases bT (!(gt a.1 0).Closed) with l | l
 ·replace hr := cC l hr
  refine .r0 G (.mu 1 (.p0 (v := aB false) (eB i) (.mu 3 (.pure (v := aB false) (by kernel_rfl) (eB j) (.mu 3 (.pure (v := .pp (a.1.flatMap ag.c) ((0 : Int).toNat * 2)) (by kernel_rfl) (tr (au b)) (.mu 1 (.pure (v := aB (gt a.1 0).Closed) (by kernel_rfl) (tr (aG (aH ag.len (aC b) (by decide : 0 < 2) (by omega : (0 : Int).toNat * 2 + 0 = (0 : Int).toNat * 2 + 0) (by kernel_rfl)))) (.pure (v := aB true) (by kernel_rfl) (eB l) (.mu 29 (.done (.n2 93 [(1, slT ag.c a.1), (54, aB true)] [] (.cT (by kernel_rfl) (.seq (.ru G (.ret ?_))))))))))))))))
  obtain rfl := oi hr
  exact aK.r1 [aB false]
 replace hr := cB l hr
 rcases bT ((((gt a.1 0).Points.length : Int) : Int) != 6) with o | o
 ·replace hr := cC o hr
  refine .r0 G (.mu 1 (.p0 (v := aB false) (eB i) (.mu 3 (.pure (v := aB false) (by kernel_rfl) (eB j) (.mu 3 (.pure (v := .pp (a.1.flatMap ag.c) ((0 : Int).toNat * 2)) (by kernel_rfl) (tr (au b)) (.mu 1 (.pure (v := aB (gt a.1 0).Closed) (by kernel_rfl) (tr (aG (aH ag.len (aC b) (by decide : 0 < 2) (by omega : (0 : Int).toNat * 2 + 0 = (0 : Int).toNat * 2 + 0) (by kernel_rfl)))) (.pure (v := aB false) (by kernel_rfl) (eB l) (.mu 3 (.pure (v := .pp (a.1.flatMap ag.c) ((0 : Int).toNat * 2)) (by kernel_rfl) (tr (au b)) (.mu 1 (.pure (v := slT ak.c (gt a.1 0).Points) (by kernel_rfl) (tr (aG (aH ag.len (aC b) (by decide : 1 < 2) (by omega : (0 : Int).toNat * 2 + 1 = (0 : Int).toNat * 2 + 1) (by kernel_rfl)))) (.mu 1 (.pure (v := aB true) (by kernel_rfl) (eB o) (.mu 21 (.done (.n2 93 [(1, slT ag.c a.1), (54, aB true)] [] (.cT (by kernel_rfl) (.seq (.ru G (.ret ?_))))))))))))))))))))))
  obtain rfl := oi hr
  exact aK.r1 [aB false]
 replace hr := cB o hr
 obtain ⟨g, hr⟩ := gd hr
 rcases bT (((gt (gt a.1 0).Points 1).A : Int) != 1) with k | k
 ·replace hr := cC k hr
  refine .r0 G (.mu 1 (.p0 (v := aB false) (eB i) (.mu 3 (.pure (v := aB false) (by kernel_rfl) (eB j) (.mu 3 (.pure (v := .pp (a.1.flatMap ag.c) ((0 : Int).toNat * 2)) (by kernel_rfl) (tr (au b)) (.mu 1 (.pure (v := aB (gt a.1 0).Closed) (by kernel_rfl) (tr (aG (aH ag.len (aC b) (by decide : 0 < 2) (by omega : (0 : Int).toNat * 2 + 0 = (0 : Int).toNat * 2 + 0) (by kernel_rfl)))) (.pure (v := aB false) (by kernel_rfl) (eB l) (.mu 3 (.pure (v := .pp (a.1.flatMap ag.c) ((0 : Int).toNat * 2)) (by kernel_rfl) (tr (au b)) (.mu 1 (.pure (v := slT ak.c (gt a.1 0).Points) (by kernel_rfl) (tr (aG (aH ag.len (aC b) (by decide : 1 < 2) (by omega : (0 : Int).toNat * 2 + 1 = (0 : Int).toNat * 2 + 1) (by kernel_rfl)))) (.mu 1 (.pure (v := aB false) (by kernel_rfl) (eB o) (.mu 3 (.pure (v := .pp (a.1.flatMap ag.c) ((0 : Int).toNat * 2)) (by kernel_rfl) (tr (au b)) (.mu 1 (.pure (v := slT ak.c (gt a.1 0).Points) (by kernel_rfl) (tr (aG (aH ag.len (aC b) (by decide : 1 < 2) (by omega : (0 : Int).toNat * 2 + 1 = (0 : Int).toNat * 2 + 1) (by kernel_rfl)))) (.pure (v := .pp ((gt a.1 0).Points.flatMap ak.c) ((1 : Int).toNat * 6)) (by kernel_rfl) (tr (au g)) (.mu 1 (.pure (v := ae (gt (gt a.1 0).Points 1).A) (by kernel_rfl) (tr (aG (aH ak.len (aC g) (by decide : 0 < 6) (by omega : (1 : Int).toNat * 6 + 0 = (1 : Int).toNat * 6 + 0) (by kernel_rfl)))) (.pure (v := aB true) (by kernel_rfl) (eB k) (.mu 11 (.done (.n2 93 [(1, slT ag.c a.1), (54, aB true)] [] (.cT (by kernel_rfl) (.seq (.ru G (.ret ?_))))))))))))))))))))))))))))))
  obtain rfl := oi hr
  exact aK.r1 [aB false]
 replace hr := cB k hr
 refine .r0 G (.mu 1 (.p0 (v := aB false) (eB i) (.mu 3 (.pure (v := aB false) (by kernel_rfl) (eB j) (.mu 3 (.pure (v := .pp (a.1.flatMap ag.c) ((0 : Int).toNat * 2)) (by kernel_rfl) (tr (au b)) (.mu 1 (.pure (v := aB (gt a.1 0).Closed) (by kernel_rfl) (tr (aG (aH ag.len (aC b) (by decide : 0 < 2) (by omega : (0 : Int).toNat * 2 + 0 = (0 : Int).toNat * 2 + 0) (by kernel_rfl)))) (.pure (v := aB false) (by kernel_rfl) (eB l) (.mu 3 (.pure (v := .pp (a.1.flatMap ag.c) ((0 : Int).toNat * 2)) (by kernel_rfl) (tr (au b)) (.mu 1 (.pure (v := slT ak.c (gt a.1 0).Points) (by kernel_rfl) (tr (aG (aH ag.len (aC b) (by decide : 1 < 2) (by omega : (0 : Int).toNat * 2 + 1 = (0 : Int).toNat * 2 + 1) (by kernel_rfl)))) (.mu 1 (.pure (v := aB false) (by kernel_rfl) (eB o) (.mu 3 (.pure (v := .pp (a.1.flatMap ag.c) ((0 : Int).toNat * 2)) (by kernel_rfl) (tr (au b)) (.mu 1 (.pure (v := slT ak.c (gt a.1 0).Points) (by kernel_rfl) (tr (aG (aH ag.len (aC b) (by decide : 1 < 2) (by omega : (0 : Int).toNat * 2 + 1 = (0 : Int).toNat * 2 + 1) (by kernel_rfl)))) (.pure (v := .pp ((gt a.1 0).Points.flatMap ak.c) ((1 : Int).toNat * 6)) (by kernel_rfl) (tr (au g)) (.mu 1 (.pure (v := ae (gt (gt a.1 0).Points 1).A) (by kernel_rfl) (tr (aG (aH ak.len (aC g) (by decide : 0 < 6) (by omega : (1 : Int).toNat * 6 + 0 = (1 : Int).toNat * 6 + 0) (by kernel_rfl)))) (.pure (v := aB false) (by kernel_rfl) (eB k) (.mu 3 (.pure (v := .pp (a.1.flatMap ag.c) ((0 : Int).toNat * 2)) (by kernel_rfl) (tr (au b)) (.mu 1 (.pure (v := slT ak.c (gt a.1 0).Points) (by kernel_rfl) (tr (aG (aH ag.len (aC b) (by decide : 1 < 2) (by omega : (0 : Int).toNat * 2 + 1 = (0 : Int).toNat * 2 + 1) (by kernel_rfl)))) (.pure (v := .pp ((gt a.1 0).Points.flatMap ak.c) ((1 : Int).toNat * 6)) (by kernel_rfl) (tr (au g)) (.mu 1 (.pure (v := ae (gt (gt a.1 0).Points 1).B) (by kernel_rfl) (tr (aG (aH ak.len (aC g) (by decide : 1 < 6) (by omega : (1 : Int).toNat * 6 + 1 = (1 : Int).toNat * 6 + 1) (by kernel_rfl)))) (.mu 2 (.done (.n2 93 [(1, slT ag.c a.1), (54, aB (((gt (gt a.1 0).Points 1).B : Int) != 4))] [] ?_)))))))))))))))))))))))))))))))))
 refine .cd hr ?_ ?_ <;> intro O hr
 ·refine .seq (.ru G (.ret ?_))
  obtain rfl := oi hr
  exact aK.r1 [aB false]
 refine .skip (.seq ?_)
 obtain ⟨t, u, f, w, hr⟩ := bd2 hr
 refine .gn G (ca1 (ok0 (fw n t u)) (ca3 (ok0 (mj n t 1 f w)))) (.ca cf0 (.ca (cfF cf0) (.mu 6 (.done (.n2 93 [(1, slT ag.c a.1), (2, ae f.2), (3, .hp 0 0)] [.own (ai.c f.1)] (.seq ?_))))))
 obtain ⟨x, z, m, C, hr⟩ := bd2 hr
 refine .tn G (ca1 (ok0 (fw n x z)) (ca3 (ok0 (uh n x (gt a.1 0) 1 1 m C)))) (.ca cf0 (.mu 1 (.pk (v := .pp (a.1.flatMap ag.c) ((0 : Int).toNat * 2)) (tr (au b)) (.pk (v := .agg (ag.c (gt a.1 0))) (tr (y := bB.ofP (ei (decide (2 <= ((a.1.flatMap ag.c).drop ((0 : Int).toNat * 2)).length)) (.agg (((a.1.flatMap ag.c).drop ((0 : Int).toNat * 2)).take 2)))) (b6 ag.len (aC b) (by decide) (by omega : (0 : Int).toNat * 2 = (0 : Int).toNat * 2 + 0) (by kernel_rfl))) (.ca (cfF cf0) (.mu 5 ?_))))))
 refine .done ⟨by kernel_rfl, ?_⟩
 refine .n2 93 [(1, slT ag.c a.1), (2, ae f.2), (3, .hp 0 0), (4, ae m.1), (5, ae m.2)] [.own (ai.c f.1)] (.seq ?_)
 obtain ⟨q, D, hr⟩ := bd hr
 refine .g1 G (ok0 (m8 n 147 16 q D)) (.ca cf0 (.mu 6 (.done (.n2 93 [(1, slT ag.c a.1), (2, ae f.2), (3, .hp 0 0), (4, ae m.1), (5, ae m.2), (6, .hp 1 0)] [.own (ai.c f.1), .own (ai.c q.1)] (.seq ?_)))))
 rcases bT ((f.2 : Int) == 0) with d | d
 ·replace hr := cC d hr
  rcases bT ((m.2 : Int) == 0) with e | e
  ·replace hr := cC e hr
   rcases bT ((m.1 : Int) == 1) with h | h
   ·replace hr := cC h hr
    obtain ⟨M, s, hr⟩ := bd hr
    rcases bT M with p | p
    ·subst p
     replace hr := cC rfl hr
     obtain ⟨E, F, H, I, hr⟩ := bd2 hr
     refine .gn G (ca1 (ok0 (lY n f.1 q.1 true s)) (ca1 (ok0 (fw n E F)) (ca3 (ok0 (uj n E 1 a.1 H I))))) (.mu 1 (.p0 (v := aB true) (eB d) (.mu 2 (.pure (v := aB true) (by kernel_rfl) (eB e) (.mu 3 (.pure (v := aB true) (by kernel_rfl) (eB h) (.mu 4 (.ca cf0 (.mu 2 (.ca (cfF cf0) (.mu 1 (.ca (cfF (cfF cf0)) (.mu 3 (.done (.ret ?_)))))))))))))))
     obtain rfl := oi hr
     exact aK.r1 [aB ((H : Int) == 0)]
    subst p
    replace hr := cB rfl hr
    refine .g1 G (ok0 (lY n f.1 q.1 false s)) (.mu 1 (.p0 (v := aB true) (eB d) (.mu 2 (.pure (v := aB true) (by kernel_rfl) (eB e) (.mu 3 (.pure (v := aB true) (by kernel_rfl) (eB h) (.mu 4 (.ca cf0 (.mu 8 (.done (.ret ?_)))))))))))
    obtain rfl := oi hr
    exact aK.r1 [aB false]
   replace hr := cB h hr
   refine .r0 G (.mu 1 (.p0 (v := aB true) (eB d) (.mu 2 (.pure (v := aB true) (by kernel_rfl) (eB e) (.mu 3 (.pure (v := aB false) (by kernel_rfl) (eB h) (.mu 13 (.done (.ret ?_)))))))))
   obtain rfl := oi hr
   exact aK.r1 [aB false]
  replace hr := cB e hr
  refine .r0 G (.mu 1 (.p0 (v := aB true) (eB d) (.mu 2 (.pure (v := aB false) (by kernel_rfl) (eB e) (.mu 17 (.done (.ret ?_)))))))
  obtain rfl := oi hr
  exact aK.r1 [aB false]
 replace hr := cB d hr
 refine .r0 G (.mu 1 (.p0 (v := aB false) (eB d) (.mu 20 (.done (.ret ?_)))))
 obtain rfl := oi hr
 exact aK.r1 [aB false]

theorem jQ (n : Nat) (g : al) (a : Int) (r : Bool) (hr : lC n g a = some r) : aL Tryz.prog 13 [.agg (al.c g), ae a] (aB r) := by
 unfold lC at hr
 refine aL.bd G Tryz.func13 [.tmp 4] ?_
 unfold Tryz.f13
 simp only [gS]
 refine .seq (.r5 G [1] [(2, .hp 0 0)] [.own (al.c g)] (.seq (.ru G (.ret ?_))))
 obtain rfl := oi hr
 exact aK.r1 [aB (decide ((g.Z.length : Int) <= a))]

theorem qG (n : Nat) {b : Int} {a : Int} (h : ([.at (.int .i64 b)] : List AV) = [.at (.int .i64 a)]) : dT n b = dT n a := by
 obtain rfl := eW h
 rfl
theorem gQ (n : Nat) (b : Int) (r : Bool) (hr : dT n b = some r) : aL Tryz.prog 62 [ae b] (aB r) := by
 unfold dT at hr
 refine aL.bd G Tryz.func62 [.tmp 2] ?_
 unfold Tryz.f62
 simp only [gS]
 refine .seq (.r4 G [0] [] (.seq ?_))
 rcases bT (decide (b < (-1048576))) with a | a
 ·replace hr := cC a hr
  refine .r0 G (.mu 1 (.p0 (v := aB true) (eB a) (.mu 5 (.done (.ret ?_)))))
  obtain rfl := oi hr
  exact aK.r1 [aB true]
 replace hr := cB a hr
 refine .r0 G (.mu 1 (.p0 (v := aB false) (eB a) (.mu 5 (.done (.ret ?_)))))
 obtain rfl := oi hr
 exact aK.r1 [aB (decide (b > 1048576))]

theorem pN (n : Nat) (g : al) (r : Int) (hr : fS n g = some r) : aL Tryz.prog 23 [.agg (al.c g)] (ae r) := by
 unfold fS at hr
 refine aL.bd G Tryz.func23 [.tmp 2] ?_
 unfold Tryz.f23
 simp only [gS]
 refine .seq (.r2 G 72 [(1, .hp 0 0)] [.own (al.c g)] (.seq (.seq ?_)))
 rcases bT (decide (g.Width < 2)) with b | b
 ·replace hr := cC b hr
  refine .r0 G (.mu 2 (.p0 (v := aB true) (eB b) (.mu 41 (.done (.nh [1, 48] [.own (al.c g)] (.cT (by kernel_rfl) (.seq (.ru G (.ret ?_)))))))))
  obtain rfl := oi hr
  exact aK.r1 [ae 2]
 replace hr := cB b hr
 rcases bT (decide (g.Width > 64)) with d | d
 ·replace hr := cC d hr
  refine .r0 G (.mu 2 (.p0 (v := aB false) (eB b) (.mu 3 (.pure (v := aB true) (by kernel_rfl) (eB d) (.mu 37 (.done (.nh [1, 48] [.own (al.c g)] (.cT (by kernel_rfl) (.seq (.ru G (.ret ?_)))))))))))
  obtain rfl := oi hr
  exact aK.r1 [ae 2]
 replace hr := cB d hr
 rcases bT (decide (g.Height < 2)) with f | f
 ·replace hr := cC f hr
  refine .r0 G (.mu 2 (.p0 (v := aB false) (eB b) (.mu 3 (.pure (v := aB false) (by kernel_rfl) (eB d) (.mu 4 (.pure (v := aB true) (by kernel_rfl) (eB f) (.mu 32 (.done (.nh [1, 48] [.own (al.c g)] (.cT (by kernel_rfl) (.seq (.ru G (.ret ?_)))))))))))))
  obtain rfl := oi hr
  exact aK.r1 [ae 2]
 replace hr := cB f hr
 rcases bT (decide (g.Height > 64)) with i | i
 ·replace hr := cC i hr
  refine .r0 G (.mu 2 (.p0 (v := aB false) (eB b) (.mu 3 (.pure (v := aB false) (by kernel_rfl) (eB d) (.mu 4 (.pure (v := aB false) (by kernel_rfl) (eB f) (.mu 4 (.pure (v := aB true) (by kernel_rfl) (eB i) (.mu 27 (.done (.nh [1, 48] [.own (al.c g)] (.cT (by kernel_rfl) (.seq (.ru G (.ret ?_)))))))))))))))
  obtain rfl := oi hr
  exact aK.r1 [ae 2]
 replace hr := cB i hr
 rcases bT (decide (g.Step < 2)) with j | j
 ·replace hr := cC j hr
  refine .r0 G (.mu 2 (.p0 (v := aB false) (eB b) (.mu 3 (.pure (v := aB false) (by kernel_rfl) (eB d) (.mu 4 (.pure (v := aB false) (by kernel_rfl) (eB f) (.mu 4 (.pure (v := aB false) (by kernel_rfl) (eB i) (.mu 4 (.pure (v := aB true) (by kernel_rfl) (eB j) (.mu 22 (.done (.nh [1, 48] [.own (al.c g)] (.cT (by kernel_rfl) (.seq (.ru G (.ret ?_)))))))))))))))))
  obtain rfl := oi hr
  exact aK.r1 [ae 2]
 replace hr := cB j hr
 rcases bT (decide (g.Step > 65536)) with l | l
 ·replace hr := cC l hr
  refine .r0 G (.mu 2 (.p0 (v := aB false) (eB b) (.mu 3 (.pure (v := aB false) (by kernel_rfl) (eB d) (.mu 4 (.pure (v := aB false) (by kernel_rfl) (eB f) (.mu 4 (.pure (v := aB false) (by kernel_rfl) (eB i) (.mu 4 (.pure (v := aB false) (by kernel_rfl) (eB j) (.mu 4 (.pure (v := aB true) (by kernel_rfl) (eB l) (.mu 17 (.done (.nh [1, 48] [.own (al.c g)] (.cT (by kernel_rfl) (.seq (.ru G (.ret ?_)))))))))))))))))))
  obtain rfl := oi hr
  exact aK.r1 [ae 2]
 replace hr := cB l hr
 rcases bT (((g.Step.tmod 2) : Int) != 0) with o | o
 ·replace hr := cC o hr
  refine .r0 G (.mu 2 (.p0 (v := aB false) (eB b) (.mu 3 (.pure (v := aB false) (by kernel_rfl) (eB d) (.mu 4 (.pure (v := aB false) (by kernel_rfl) (eB f) (.mu 4 (.pure (v := aB false) (by kernel_rfl) (eB i) (.mu 4 (.pure (v := aB false) (by kernel_rfl) (eB j) (.mu 4 (.pure (v := aB false) (by kernel_rfl) (eB l) (.mu 5 (.pure (v := aB true) (by kernel_rfl) (eB o) (.mu 11 (.done (.nh [1, 48] [.own (al.c g)] (.cT (by kernel_rfl) (.seq (.ru G (.ret ?_)))))))))))))))))))))
  obtain rfl := oi hr
  exact aK.r1 [ae 2]
 replace hr := cB o hr
 obtain ⟨F, u, hr⟩ := bd hr
 rcases bT F with p | p
 ·subst p
  replace hr := cC rfl hr
  refine .g1 G (ok0 (gQ n g.X0 true u)) (.mu 2 (.p0 (v := aB false) (eB b) (.mu 3 (.pure (v := aB false) (by kernel_rfl) (eB d) (.mu 4 (.pure (v := aB false) (by kernel_rfl) (eB f) (.mu 4 (.pure (v := aB false) (by kernel_rfl) (eB i) (.mu 4 (.pure (v := aB false) (by kernel_rfl) (eB j) (.mu 4 (.pure (v := aB false) (by kernel_rfl) (eB l) (.mu 5 (.pure (v := aB false) (by kernel_rfl) (eB o) (.mu 4 (.ca cf0 (.mu 6 (.done (.nh [1, 48] [.own (al.c g)] (.cT (by kernel_rfl) (.seq (.ru G (.ret ?_)))))))))))))))))))))))
  obtain rfl := oi hr
  exact aK.r1 [ae 2]
 subst p
 replace hr := cB rfl hr
 obtain ⟨z, s, hr⟩ := bd hr
 refine .gn G (ca1 (ok0 (gQ n g.X0 false u)) (ca3 (ok0 (gQ n g.Y0 z s)))) (.mu 2 (.p0 (v := aB false) (eB b) (.mu 3 (.pure (v := aB false) (by kernel_rfl) (eB d) (.mu 4 (.pure (v := aB false) (by kernel_rfl) (eB f) (.mu 4 (.pure (v := aB false) (by kernel_rfl) (eB i) (.mu 4 (.pure (v := aB false) (by kernel_rfl) (eB j) (.mu 4 (.pure (v := aB false) (by kernel_rfl) (eB l) (.mu 5 (.pure (v := aB false) (by kernel_rfl) (eB o) (.mu 4 (.ca cf0 (.mu 4 (.ca (cfA (fun h => by rw [sv s u (qG n h)]) cf0) (.mu 1 (.done (.nh [1, 48] [.own (al.c g)] ?_)))))))))))))))))))))
 refine .cd hr ?_ ?_ <;> intro B hr
 ·refine .seq (.ru G (.ret ?_))
  obtain rfl := oi hr
  exact aK.r1 [ae 2]
 refine .skip (.seq (.seq (.r4 G [1] [(57, aB (((g.Z.length : Int) : Int) != (Fj (g.Width * g.Height))))] ?_)))
 refine .cd hr ?_ ?_ <;> intro C hr
 ·refine .seq (.ru G (.ret ?_))
  obtain rfl := oi hr
  exact aK.r1 [ae 4]
 refine .skip (.seq (.seq (.r3 G 72 [(59, bf g.Z), (60, ae (g.Z.length : Int)), (61, ae 0)] (.block ?_))))
 replace hr := bd hr; obtain ⟨w, q, hr⟩ := hr
 refine .aM (σ := fun H => match H with | a => ⟨mkS 72 0 [(59, bf g.Z), (60, ae (g.Z.length : Int)), (61, ae a)], []⟩) (Q := fun x st' => match (generalizing := false) w with | .inl _ => x = .exit 0 /\ Wk 0 st' ⟨mkS 72 0 [], []⟩ | .inr (r0) => x = .ret /\ aK Tryz.prog [.tmp 2] (ae r0) .ret st') q ((Wk.gc [59, 60, 61] [] rfl pK0).to) ?_ ?_
 ·clear hr
  rintro m a hr
  show CQ _ _ _ _ _ ⟨_, _⟩
  refine .seq (.r4 G [59, 60, 61] [(62, aB (decide (a < (g.Z.length : Int))))] (.seq ?_))
  refine .cd hr ?_ ?_ <;> intro D hr
  ·refine .skip (.seq (.block (.seq ?_)))
   obtain ⟨t, hr⟩ := gd hr
   refine .r0 G (.p0 (v := .pp (g.Z.flatMap (iC .i64)) (a.toNat * 1)) (tr (au t)) (.p0 (v := ae (gt g.Z a)) (tr (aG (aH (aE .i64) (aC t) z1 (by omega : a.toNat * 1 = a.toNat * 1 + 0) (by kernel_rfl)))) (.mu 1 (.done (.nh [4, 59, 60, 61] [] (.seq ?_))))))
   rcases bT (((gt g.Z a) : Int) != (-2147483648)) with k | k
   ·replace hr := cC k hr
    obtain ⟨A, y, hr⟩ := bd hr
    refine .g1 G (ok0 (gQ n (gt g.Z a) A y)) (.mu 1 (.p0 (v := aB true) (eB k) (.mu 2 (.ca cf0 (.mu 1 (.done (.nh [59, 60, 61, 70] [] ?_)))))))
    refine .cd hr ?_ ?_ <;> intro E hr
    ·refine .seq (.ru G (.ret ?_))
     obtain rfl := oi hr
     exact ⟨rfl, aK.ret (vs := [ae 2]) (by kernel_rfl) (Sn.pure rfl)⟩
    refine .skip (.pop (.ru G ?_))
    exact aA (Fj (a + 1)) hr ((Wk.gc [59, 60, 61] [] rfl pK0).to)
   replace hr := cB k hr
   refine .r0 G (.mu 1 (.p0 (v := aB false) (eB k) (.mu 4 (.done (.nh [59, 60, 61, 70] [] (.cF (by kernel_rfl) (.skip (.pop (.ru G ?_)))))))))
   exact aA (Fj (a + 1)) hr ((Wk.gc [59, 60, 61] [] rfl pK0).to)
  refine .leave rfl ?_
  obtain rfl := oi hr
  exact ⟨rfl, ((Wk.gc [] [] rfl pK0).to)⟩
 rcases w with ⟨⟩ | r0
 ·rintro x st' e
  clear q
  obtain ⟨rfl, e⟩ := e
  refine aW _ rfl (.wk e (.seq (.ru G (.ret ?_))))
  obtain rfl := oi hr
  exact aK.r1 [ae 0]
 rintro x st' e
 clear q
 obtain ⟨rfl, e⟩ := e
 obtain rfl := oi hr
 exact iz _ e

theorem n6 {g : al} {level : Int} {a : al} {level_ : Int} (h : ([.agg [.at (.int .i64 g.X0), .at (.int .i64 g.Y0), .at (.int .i64 g.Step), .at (.int .i64 g.Width), .at (.int .i64 g.Height), slT (iC .i64) g.Z], .at (.int .i64 level)] : List AV) = [.agg [.at (.int .i64 a.X0), .at (.int .i64 a.Y0), .at (.int .i64 a.Step), .at (.int .i64 a.Width), .at (.int .i64 a.Height), slT (iC .i64) a.Z], .at (.int .i64 level_)]) : g = a /\ level = level_ := by
 obtain ⟨_, _, _, _, _, _⟩ := g
 obtain ⟨_, _, _, _, _, _⟩ := a
 simp only [List.cons.injEq, AV.agg.injEq, AV.at.injEq, Value.int.injEq, Value.bool.injEq, AV.fn.injEq, AV.pp.injEq, true_and, and_true, eC] at h
 simp_all
theorem oI (n : Nat) {g : al} {level : Int} {a : al} {level_ : Int} (h : ([.agg [.at (.int .i64 g.X0), .at (.int .i64 g.Y0), .at (.int .i64 g.Step), .at (.int .i64 g.Width), .at (.int .i64 g.Height), slT (iC .i64) g.Z], .at (.int .i64 level)] : List AV) = [.agg [.at (.int .i64 a.X0), .at (.int .i64 a.Y0), .at (.int .i64 a.Step), .at (.int .i64 a.Width), .at (.int .i64 a.Height), slT (iC .i64) a.Z], .at (.int .i64 level_)]) : cM n g level = cM n a level_ := by
 obtain ⟨rfl, rfl⟩ := n6 h
 rfl
theorem iq (n : Nat) (g : al) (level : Int) (r : Int) (hr : cM n g level = some r) : aL Tryz.prog 15 [.agg (al.c g), ae level] (ae r) := by
 unfold cM at hr
 refine aL.bd G Tryz.func15 [.tmp 4] ?_
 unfold Tryz.f15
 simp only [gS]
 refine .seq (.r5 G [1] [(2, .hp 0 0)] [.own (al.c g)] (.seq (.seq ?_)))
 obtain ⟨b, d, hr⟩ := bd hr
 refine .g1 G (ok0 (pN n g b d)) (.mu 1 (.ca cf0 (.mu 1 (.done (.nh [1, 5] [.own (al.c g)] (.seq (.r4 G [1, 5] [(9, aB ((b : Int) != 0))] ?_)))))))
 refine .cd hr ?_ ?_ <;> intro e hr
 ·refine .seq (.ru G (.ret ?_))
  obtain rfl := oi hr
  exact aK.r1 [ae b]
 refine .skip (.seq (.seq (.r4 G [1] [(13, aB (((level.tmod 2) : Int) == 0))] ?_)))
 refine .cd hr ?_ ?_ <;> intro f hr
 ·refine .seq (.ru G (.ret ?_))
  obtain rfl := oi hr
  exact aK.r1 [ae 1]
 refine .skip (.seq (.seq ?_))
 rcases bT (decide (level < (-2097153))) with a | a
 ·replace hr := cC a hr
  refine .r0 G (.mu 1 (.p0 (v := aB true) (eB a) (.mu 4 (.done (.nh [19] [.own (al.c g)] (.cT (by kernel_rfl) (.seq (.ru G (.ret ?_)))))))))
  obtain rfl := oi hr
  exact aK.r1 [ae 2]
 replace hr := cB a hr
 refine .r0 G (.mu 1 (.p0 (v := aB false) (eB a) (.mu 4 (.done (.nh [19] [.own (al.c g)] ?_)))))
 refine .cd hr ?_ ?_ <;> intro h hr
 ·refine .seq (.ru G (.ret ?_))
  obtain rfl := oi hr
  exact aK.r1 [ae 2]
 refine .skip (.seq (.ru G (.ret ?_)))
 obtain rfl := oi hr
 exact aK.r1 [ae 0]

theorem po (n : Nat) (a : ai) (r : ai) (hr : jr n a = some r) : aL Tryz.prog 77 [.agg (ai.c a)] (.agg (ai.c r)) := by
 unfold jr at hr
 refine aL.bd G Tryz.func77 [.cell 2 42] ?_
 unfold Tryz.f77
 simp only [gS]
 refine .seq (.r2 G 12 [(1, .hp 0 0), (2, .hp 1 0)] [.own (ai.c a), .own zN2] (.seq ?_))
 obtain ⟨f, d, b, e, hr⟩ := bd2 hr
 refine .tn G (ca1 (ok0 (ct n 3 f d)) (ca3 (ok0 (nH n a f b e)))) (.mu 1 (.ca cf0 (.ca (cfF cf0) (.mu 6 ?_))))
 refine .done ⟨by kernel_rfl, ?_⟩
 refine .nh [2, 3] [.own (ai.c a), .own zN2, .own (ai.c b.1)] (.seq (.r5 G [2] [] [.own (ai.c a), .own (ai.c b.1), .own (ai.c b.1)] (.ret ?_)))
 obtain rfl := oi hr
 exact aK.r1 [.agg (ai.c b.1)]

theorem nf (n : Nat) (a : ai) (b : ai) (c : ai) (tip : ai) (r : ai) (hr : eA n a b c tip = some r) : aL Tryz.prog 79 [.agg (ai.c a), .agg (ai.c b), .agg (ai.c c), .agg (ai.c tip)] (.agg (ai.c r)) := by
 unfold eA at hr
 refine aL.bd G Tryz.func79 [.cell 8 42] ?_
 unfold Tryz.f79
 simp only [gS]
 refine .seq (.r2 G 17 [(4, .hp 0 0), (5, .hp 1 0), (6, .hp 2 0), (7, .hp 3 0), (8, .hp 4 0)] [.own (ai.c a), .own (ai.c b), .own (ai.c c), .own (ai.c tip), .own zN2] (.seq ?_))
 obtain ⟨j, d, k, e, l, f, hr⟩ := bd3 hr
 obtain ⟨g, i, hr⟩ := bd hr
 refine .tn G (ca1 (ok0 (dc n b c j d)) (ca1 (ok0 (dc n a j k e)) (ca1 (ok0 (po n k l f)) (ca3 (ok0 (ee n l tip g i)))))) (.mu 3 (.ca cf0 (.ca (cfA (fun h => by rw [sv e d (uW n h)]) cf0) (.ca (cfF (cfF cf0)) (.mu 1 (.ca (cfF (cfF (cfF cf0))) (.mu 1 ?_)))))))
 refine .done ⟨by kernel_rfl, ?_⟩
 refine .nh [8] [.own (ai.c a), .own (ai.c b), .own (ai.c c), .own (ai.c tip), .own (ai.c g)] (.ret ?_)
 obtain rfl := oi hr
 exact aK.r1 [.agg (ai.c g)]

theorem rL (n : Nat) (a : ai) (b : ai) (c : ai) (r : ai) (hr : fm n a b c = some r) : aL Tryz.prog 76 [.agg (ai.c a), .agg (ai.c b), .agg (ai.c c)] (.agg (ai.c r)) := by
 unfold fm at hr
 refine aL.bd G Tryz.func76 [.cell 6 42] ?_
 unfold Tryz.f76
 simp only [gS]
 refine .seq (.r2 G 14 [(3, .hp 0 0), (4, .hp 1 0), (5, .hp 2 0), (6, .hp 3 0)] [.own (ai.c a), .own (ai.c b), .own (ai.c c), .own zN2] (.seq ?_))
 obtain ⟨h, d, i, e, f, g, hr⟩ := bd3 hr
 refine .tn G (ca1 (ok0 (oW n a b c h d)) (ca1 (ok0 (dF n a h i e)) (ca3 (ok0 (po n i f g))))) (.mu 4 (.ca cf0 (.ca (cfF cf0) (.ca (cfF (cfF cf0)) (.mu 1 ?_)))))
 refine .done ⟨by kernel_rfl, ?_⟩
 refine .nh [6] [.own (ai.c a), .own (ai.c b), .own (ai.c c), .own (ai.c f)] (.ret ?_)
 obtain rfl := oi hr
 exact aK.r1 [.agg (ai.c f)]
end Go.L
