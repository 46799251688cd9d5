
import Derived.Test.YtecdcgfclgmbpaaGreatTurLP2
import Derived.Test.YtecdcgfclgmbpaaGreatL0Turs
import Derived.Test.YtecdcgfclgmbpaaGreatChecked
import Derived.KernelRfl
set_option linter.all false
set_option maxRecDepth 100000
set_option maxHeartbeats 4000000
namespace Go.L
open Go Go.Eng Go.Proofs
theorem aX (n : Nat) (negative : Bool) (l : List Int) (r : ai) (hr : aU n negative l = some r) : aM Tryz.prog 129 [aB negative, aC l] (.agg (ai.c r)) := by
 unfold aU at hr
 refine aM.bd G Tryz.func129 [.cell 4 40] ?_
 unfold Tryz.f129
 simp only [gS]
 refine .seq (.r5 G [0, 1] [(4, .hp 0 0)] [.own [aB false, nS]] (.seq (.r4 G [0, 1, 4] [(5, aj (l.length : Int))] (.seq (.block ?_)))))
 replace hr := bd hr; obtain ⟨a, i, hr⟩ := hr
 refine .aL (σ := fun u => match u with | b => ⟨mkS 31 0 [(0, aB negative), (1, aC l), (4, .hp 0 0), (5, aj b)], [.own [aB false, nS]]⟩) (Q := fun x st' => x = .exit 0 /\ Wk 0 st' ⟨mkS 31 0 [(0, aB negative), (1, aC l), (4, .hp 0 0), (5, aj a)], [.own [aB false, nS]]⟩) i ((Wk.gc [0, 1, 4, 5] [(0, true)] rfl trivial).to) ?_ ?_
 ·clear hr
  rintro m b hr
  show CQ _ _ _ _ _ ⟨_, _⟩
  refine .seq (.seq ?_)
  rcases bT (decide (b > 0)) with f | f
  ·replace hr := b8 f hr
   obtain ⟨o, hr⟩ := gd hr
   refine .r0 G (.mu 1 (.p0 (v := aB true) (eB f) (.mu 4 (.pure (v := .pp (l.flatMap iCu) ((EN (b - 1)).toNat * 1)) (by kernel_rfl) (tr (au o)) (.pure (v := br (gt l (EN (b - 1)))) (by kernel_rfl) (tr (aH (aK (aI .u32) (aD o) z1 (by omega : (EN (b - 1)).toNat * 1 = (EN (b - 1)).toNat * 1 + 0) (by kernel_rfl)))) (.mu 2 (.done (.nh [0, 1, 4, 5, 17] [.own [aB false, nS]] ?_))))))))
   refine .cd hr ?_ ?_ <;> intro w hr
   ·refine .skip (.block (.ru G (.pop ?_)))
    exact aA (EN (b - 1)) hr ((Wk.gc [0, 1, 4, 5] [(0, true)] rfl trivial).to)
   refine .leave rfl ?_
   obtain rfl := oi hr
   exact ⟨rfl, ((Wk.gc [0, 1, 4, 5] [(0, true)] rfl trivial).to)⟩
  replace hr := bX f hr
  refine .r0 G (.mu 1 (.p0 (v := aB false) (eB f) (.mu 8 (.done (.nh [0, 1, 4, 5, 17] [.own [aB false, nS]] (.cF (by kernel_rfl) (.leave rfl ?_)))))))
  obtain rfl := oi hr
  exact ⟨rfl, ((Wk.gc [0, 1, 4, 5] [(0, true)] rfl trivial).to)⟩
 rintro x st' g
 clear i
 obtain ⟨rfl, g⟩ := g
 refine aV _ rfl (.wk g (.seq ?_))
 rcases bT negative with d | d
 ·replace hr := b8 d hr
  obtain ⟨j, p, q, hr⟩ := gd3 hr
  refine .r0 G (.p0 (v := aB true) (eB d) (.mu 7 (.p0 (v := aC ((l.drop (0 : Int).toNat).take (a.toNat - (0 : Int).toNat))) (tr (y := slO (inS 0 a l.length) (0 : Int).toNat a.toNat (fun z1 e => .sl true (((l.flatMap iCu).drop (z1 * 1)).take ((e - z1) * 1)) (e - z1))) (vZ j (tK (aI _) (qb j)))) (.e0 (v := .hs 2 0 ((l.drop (0 : Int).toNat).take (a.toNat - (0 : Int).toNat)).length 1) (ws := [(1, .dead), (2, .own (((l.drop (0 : Int).toNat).take (a.toNat - (0 : Int).toNat)).flatMap iCu))]) (tr (y := yZ (decide (((((l.drop (0 : Int).toNat).take (a.toNat - (0 : Int).toNat)).flatMap iCu)).length = ((l.drop (0 : Int).toNat).take (a.toNat - (0 : Int).toNat)).length * 1)) (((l.drop (0 : Int).toNat).take (a.toNat - (0 : Int).toNat)).flatMap iCu) ((l.drop (0 : Int).toNat).take (a.toNat - (0 : Int).toNat)).length (fun z1 e => n8 (decide (0 + 0 * 1 <= (([] : List Int).flatMap iCu).length) && decide ((0 + e) * 4 <= 140737488355328) && decide (0 + e <= 4611686018427387904)) (some (.eff (.hs 2 0 (0 + e) 1) [(1, .dead), (2, .own (((([] : List Int).flatMap iCu).drop 0).take (0 * 1) ++ z1))])))) (tt (mZ (aI _)) rfl (eJ (l := ([] : List Int)) (xs := (l.drop (0 : Int).toNat).take (a.toNat - (0 : Int).toNat)) (aI _) rfl rfl rfl p q))) (.mu 2 (.done (.nh [4] [.own [aB (decide (a > 0)), .hs 2 0 ((l.drop (0 : Int).toNat).take (a.toNat - (0 : Int).toNat)).length 1], .dead, .own (((l.drop (0 : Int).toNat).take (a.toNat - (0 : Int).toNat)).flatMap iCu)] (.ret ?_))))))))
  obtain rfl := oi hr
  exact aF.ret (vs := [.agg [aB (decide (a > 0)), .hs 2 0 ((l.drop (0 : Int).toNat).take (a.toNat - (0 : Int).toNat)).length 1]]) (by kernel_rfl) (Sn.agg (Sp (SnL.cons (Sn.hs rfl (.inl rfl) (SnC.pure (aZ (aE _) _)) (fun h => cB h)) SnL.nil)))
 replace hr := bX d hr
 obtain ⟨k, s, t, hr⟩ := gd3 hr
 refine .r0 G (.p0 (v := aB false) (eB d) (.mu 7 (.p0 (v := aC ((l.drop (0 : Int).toNat).take (a.toNat - (0 : Int).toNat))) (tr (y := slO (inS 0 a l.length) (0 : Int).toNat a.toNat (fun z1 e => .sl true (((l.flatMap iCu).drop (z1 * 1)).take ((e - z1) * 1)) (e - z1))) (vZ k (tK (aI _) (qb k)))) (.e0 (v := .hs 2 0 ((l.drop (0 : Int).toNat).take (a.toNat - (0 : Int).toNat)).length 1) (ws := [(1, .dead), (2, .own (((l.drop (0 : Int).toNat).take (a.toNat - (0 : Int).toNat)).flatMap iCu))]) (tr (y := yZ (decide (((((l.drop (0 : Int).toNat).take (a.toNat - (0 : Int).toNat)).flatMap iCu)).length = ((l.drop (0 : Int).toNat).take (a.toNat - (0 : Int).toNat)).length * 1)) (((l.drop (0 : Int).toNat).take (a.toNat - (0 : Int).toNat)).flatMap iCu) ((l.drop (0 : Int).toNat).take (a.toNat - (0 : Int).toNat)).length (fun z1 e => n8 (decide (0 + 0 * 1 <= (([] : List Int).flatMap iCu).length) && decide ((0 + e) * 4 <= 140737488355328) && decide (0 + e <= 4611686018427387904)) (some (.eff (.hs 2 0 (0 + e) 1) [(1, .dead), (2, .own (((([] : List Int).flatMap iCu).drop 0).take (0 * 1) ++ z1))])))) (tt (mZ (aI _)) rfl (eJ (l := ([] : List Int)) (xs := (l.drop (0 : Int).toNat).take (a.toNat - (0 : Int).toNat)) (aI _) rfl rfl rfl s t))) (.mu 2 (.done (.nh [4] [.own [aB false, .hs 2 0 ((l.drop (0 : Int).toNat).take (a.toNat - (0 : Int).toNat)).length 1], .dead, .own (((l.drop (0 : Int).toNat).take (a.toNat - (0 : Int).toNat)).flatMap iCu)] (.ret ?_))))))))
 obtain rfl := oi hr
 exact aF.ret (vs := [.agg [aB false, .hs 2 0 ((l.drop (0 : Int).toNat).take (a.toNat - (0 : Int).toNat)).length 1]]) (by kernel_rfl) (Sn.agg (Sp (SnL.cons (Sn.hs rfl (.inl rfl) (SnC.pure (aZ (aE _) _)) (fun h => cB h)) SnL.nil)))

theorem mI (n : Nat) (k : Int) (r : ai) (hr : gi n k = some r) : aM Tryz.prog 125 [aj k] (.agg (ai.c r)) := by
 unfold gi at hr
 refine aM.bd G Tryz.func125 [.cell 2 40] ?_
 unfold Tryz.f125
 simp only [gS]
 refine .seq (.r5 G [0] [(2, .hp 0 0)] [.own [aB false, nS]] (.seq (.r4 G [0, 2] [(3, cP (wFu k))] (.seq (.seq (.r4 G [0, 2, 3] [(8, aB (decide (k < 0)))] ?_))))))
 refine .cd hr ?_ ?_ <;> intro t hr
 ·refine .r0 G (.mu 2 (.p0 (v := aj (EN (0 - (EN (k + 1))))) (tr (y := some (.pure (aj (IntKind.wrap .i64 (0 - (EN (k + 1))))))) xd) (.mu 3 (.done (.nh [0, 2, 3] [.own [aB false, nS]] (.seq (.r5 G [0, 2, 3] [(4, .hs 1 0 0 1)] [.own [aB false, nS], .own []] (.seq (.block ?_)))))))))
  replace hr := bd hr; obtain ⟨g, o, hr⟩ := hr
  refine .aL (σ := fun D => match D with | (d, e) => ⟨mkS 29 0 [(0, aj k), (2, .hp 0 0), (3, cP d), (4, .hs 1 0 e.length 1)], [.own [aB false, nS], .own (e.flatMap iCu)]⟩) (Q := fun x st' => x = .exit 0 /\ Wk 0 st' ⟨mkS 29 0 [(0, aj k), (2, .hp 0 0), (4, .hs 1 0 g.length 1)], [.own [aB false, nS], .own (g.flatMap iCu)]⟩) o ((Wk.gc [0, 2, 3, 4] [(0, true), (1, false)] rfl (pKt (pKc trivial))).to) ?_ ?_
  ·clear hr
   rintro m ⟨d, e⟩ hr
   show CQ _ _ _ _ _ ⟨_, _⟩
   refine .seq (.seq (.r4 G [0, 2, 3, 4] [(16, aB (decide (d > 0)))] ?_))
   refine .cd hr ?_ ?_ <;> intro F hr
   ·refine .skip (.block (.seq ?_))
    obtain ⟨u, w, hr⟩ := gd2 hr
    refine .r0 G (.mu 5 (.e0 (v := .hs 3 0 (e ++ [aa .u32 (d.tmod 1000000000)]).length 1) (ws := [(1, .dead), (3, .own ((e ++ [aa .u32 (d.tmod 1000000000)]).flatMap iCu))]) (tr (eJ (new := [br (aa .u32 (d.tmod 1000000000))]) (l := e) (xs := [aa .u32 (d.tmod 1000000000)]) (aI .u32) rfl rfl (by kernel_rfl) u w)) (.mu 1 (.done (.nh [0, 2, 3, 4] [.own [aB false, nS], .dead, .own [br (aa .u32 (d.tmod 1000000000))], .own ((e ++ [aa .u32 (d.tmod 1000000000)]).flatMap iCu)] (.ru G (.pop ?_)))))))
    exact aA (wFu (d.tdiv 1000000000), e ++ [aa .u32 (d.tmod 1000000000)]) hr ((Wk.gc [0, 2, 3, 4] [(0, true), (3, false)] rfl (pKt (pKo iCu (aE _) (e ++ [aa .u32 (d.tmod 1000000000)]) trivial))).to)
   refine .leave rfl ?_
   obtain rfl := oi hr
   exact ⟨rfl, ((Wk.gc [0, 2, 4] [(0, true), (1, false)] rfl (pKt (pKo iCu (aE _) e trivial))).to)⟩
  rintro x st' i
  clear o
  obtain ⟨rfl, i⟩ := i
  refine aV _ rfl (.wk i (.seq ?_))
  obtain ⟨q, z, hr⟩ := bd hr
  refine .g1 G (cK (args := [aB true, .hs 1 0 g.length 1]) (l := [1]) (Sp (SnL.cons (Sn.hs rfl (.inl rfl) (SnC.pure (aZ (aE _) _)) (fun h => cB h)) SnL.nil)) (aX n true g q z)) (.mu 1 (.p0 (v := aB true) (eB t) (.mu 1 (.ca cf0 (.mu 1 (.done (.nh [2] [.own (ai.c q), .fix (g.flatMap iCu)] (.ret ?_))))))))
  obtain rfl := oi hr
  exact aF.r1 [.agg (ai.c q)]
 refine .skip (.seq (.r5 G [0, 2, 3] [(4, .hs 1 0 0 1)] [.own [aB false, nS], .own []] (.seq (.block ?_))))
 replace hr := bd hr; obtain ⟨f, p, hr⟩ := hr
 refine .aL (σ := fun D => match D with | (a, b) => ⟨mkS 29 0 [(0, aj k), (2, .hp 0 0), (3, cP a), (4, .hs 1 0 b.length 1)], [.own [aB false, nS], .own (b.flatMap iCu)]⟩) (Q := fun x st' => x = .exit 0 /\ Wk 0 st' ⟨mkS 29 0 [(0, aj k), (2, .hp 0 0), (4, .hs 1 0 f.length 1)], [.own [aB false, nS], .own (f.flatMap iCu)]⟩) p ((Wk.gc [0, 2, 3, 4] [(0, true), (1, false)] rfl (pKt (pKc trivial))).to) ?_ ?_
 ·clear hr
  rintro m ⟨a, b⟩ hr
  show CQ _ _ _ _ _ ⟨_, _⟩
  refine .seq (.seq (.r4 G [0, 2, 3, 4] [(16, aB (decide (a > 0)))] ?_))
  refine .cd hr ?_ ?_ <;> intro E hr
  ·refine .skip (.block (.seq ?_))
   obtain ⟨A, B, hr⟩ := gd2 hr
   refine .r0 G (.mu 5 (.e0 (v := .hs 3 0 (b ++ [aa .u32 (a.tmod 1000000000)]).length 1) (ws := [(1, .dead), (3, .own ((b ++ [aa .u32 (a.tmod 1000000000)]).flatMap iCu))]) (tr (eJ (new := [br (aa .u32 (a.tmod 1000000000))]) (l := b) (xs := [aa .u32 (a.tmod 1000000000)]) (aI .u32) rfl rfl (by kernel_rfl) A B)) (.mu 1 (.done (.nh [0, 2, 3, 4] [.own [aB false, nS], .dead, .own [br (aa .u32 (a.tmod 1000000000))], .own ((b ++ [aa .u32 (a.tmod 1000000000)]).flatMap iCu)] (.ru G (.pop ?_)))))))
   exact aA (wFu (a.tdiv 1000000000), b ++ [aa .u32 (a.tmod 1000000000)]) hr ((Wk.gc [0, 2, 3, 4] [(0, true), (3, false)] rfl (pKt (pKo iCu (aE _) (b ++ [aa .u32 (a.tmod 1000000000)]) trivial))).to)
  refine .leave rfl ?_
  obtain rfl := oi hr
  exact ⟨rfl, ((Wk.gc [0, 2, 4] [(0, true), (1, false)] rfl (pKt (pKo iCu (aE _) b trivial))).to)⟩
 rintro x st' j
 clear p
 obtain ⟨rfl, j⟩ := j
 refine aV _ rfl (.wk j (.seq ?_))
 obtain ⟨s, C, hr⟩ := bd hr
 refine .g1 G (cK (args := [aB false, .hs 1 0 f.length 1]) (l := [1]) (Sp (SnL.cons (Sn.hs rfl (.inl rfl) (SnC.pure (aZ (aE _) _)) (fun h => cB h)) SnL.nil)) (aX n false f s C)) (.mu 1 (.p0 (v := aB false) (eB t) (.mu 1 (.ca cf0 (.mu 1 (.done (.nh [2] [.own (ai.c s), .fix (f.flatMap iCu)] (.ret ?_))))))))
 obtain rfl := oi hr
 exact aF.r1 [.agg (ai.c s)]

theorem kI (n : Nat) {b : Int} {a : Int} (h : ([.at (.int .i64 b)] : List AV) = [.at (.int .i64 a)]) : bV n b = bV n a := by
 obtain rfl := dW h
 rfl
theorem eP (n : Nat) (a : Int) (r : ai) (hr : bV n a = some r) : aM Tryz.prog 83 [aj a] (.agg (ai.c r)) := by
 unfold bV at hr
 refine aM.bd G Tryz.func83 [.cell 2 40] ?_
 unfold Tryz.f83
 simp only [gS]
 refine .seq (.r5 G [0] [(2, .hp 0 0)] [.own [aB false, nS]] (.seq ?_))
 obtain ⟨b, d, hr⟩ := bd hr
 refine .g1 G (ok0 (mI n a b d)) (.mu 1 (.ca cf0 (.mu 1 (.done (.nh [2] [.own (ai.c b)] (.ret ?_))))))
 obtain rfl := oi hr
 exact aF.r1 [.agg (ai.c b)]

theorem kU (n : Nat) {b : ai} {a : ai} (h : ([.agg (ai.c b)] : List AV) = [.agg (ai.c a)]) : ck n b = ck n a := by
 obtain rfl := eQ h
 rfl
theorem dP (n : Nat) (b : ai) (r : Bool) (hr : ck n b = some r) : aM Tryz.prog 112 [.agg (ai.c b)] (aB r) := by
 unfold ck at hr
 refine aM.bd G Tryz.func112 [.tmp 2] ?_
 unfold Tryz.f112
 simp only [gS]
 refine .seq (.r2 G 31 [(1, .hp 0 0)] [.own (ai.c b)] (.seq (.r4 G [1] [(3, aj (b.Groups.length : Int))] (.seq (.seq (.r4 G [1, 3] [(4, aj 0)] (.block ?_)))))))
 replace hr := bd hr; obtain ⟨h, e, hr⟩ := hr
 refine .aL (σ := fun j => match j with | d => ⟨mkS 31 0 [(1, .hp 0 0), (3, aj (b.Groups.length : Int)), (4, aj d)], [.own (ai.c b)]⟩) (Q := fun x st' => match (generalizing := false) h with | .inl _ => x = .exit 0 /\ Wk 0 st' ⟨mkS 31 0 [(1, .hp 0 0), (3, aj (b.Groups.length : Int))], [.own (ai.c b)]⟩ | .inr (r0) => x = .ret /\ aF Tryz.prog [.tmp 2] (aB r0) .ret st') e ((Wk.gc [1, 3, 4] [(0, true)] rfl trivial).to) ?_ ?_
 ·clear hr
  rintro m d hr
  show CQ _ _ _ _ _ ⟨_, _⟩
  refine .seq (.seq (.r4 G [1, 3, 4] [(10, aB (decide (d < (b.Groups.length : Int))))] ?_))
  refine .cd hr ?_ ?_ <;> intro k hr
  ·refine .skip (.seq (.block (.seq ?_)))
   obtain ⟨g, hr⟩ := gd hr
   refine .r0 G (.mu 3 (.p0 (v := .pp (b.Groups.flatMap iCu) (d.toNat * 1)) (tr (au g)) (.p0 (v := br (gt b.Groups d)) (tr (aH (aK (aI .u32) (aD g) z1 (by omega : d.toNat * 1 = d.toNat * 1 + 0) (by kernel_rfl)))) (.mu 1 (.done (.nh [1, 3, 4, 18] [.own (ai.c b)] ?_))))))
   refine .cd hr ?_ ?_ <;> intro l hr
   ·refine .seq (.ru G (.ret ?_))
    obtain rfl := oi hr
    exact ⟨rfl, aF.ret (vs := [aB false]) (by kernel_rfl) (Sn.pure rfl)⟩
   refine .skip (.pop (.ru G ?_))
   exact aA (EN (d + 1)) hr ((Wk.gc [1, 3, 4] [(0, true)] rfl trivial).to)
  refine .leave rfl ?_
  obtain rfl := oi hr
  exact ⟨rfl, ((Wk.gc [1, 3] [(0, true)] rfl trivial).to)⟩
 rcases h with ⟨⟩ | r0
 ·rintro x st' a
  clear e
  obtain ⟨rfl, a⟩ := a
  refine aV _ rfl (.wk a (.seq (.seq (.r4 G [1, 3] [(20, aB (((b.Groups.length : Int) : Int) == 0))] ?_))))
  refine .cd hr ?_ ?_ <;> intro i hr
  ·refine .seq (.ru G (.ret ?_))
   obtain rfl := oi hr
   exact aF.r1 [aB (!b.Negative)]
  refine .skip (.seq ?_)
  obtain ⟨f, hr⟩ := gd hr
  refine .r0 G (.mu 4 (.p0 (v := .pp (b.Groups.flatMap iCu) ((EN ((b.Groups.length : Int) - 1)).toNat * 1)) (tr (au f)) (.p0 (v := br (gt b.Groups (EN ((b.Groups.length : Int) - 1)))) (tr (aH (aK (aI .u32) (aD f) z1 (by omega : (EN ((b.Groups.length : Int) - 1)).toNat * 1 = (EN ((b.Groups.length : Int) - 1)).toNat * 1 + 0) (by kernel_rfl)))) (.mu 2 (.done (.ret ?_))))))
  obtain rfl := oi hr
  exact aF.r1 [aB (((gt b.Groups (EN ((b.Groups.length : Int) - 1))) : Int) != 0)]
 rintro x st' a
 clear e
 obtain ⟨rfl, a⟩ := a
 obtain rfl := oi hr
 exact gw _ a

theorem fZ (n : Nat) {b : ai} {a : ai} (h : ([.agg (ai.c b)] : List AV) = [.agg (ai.c a)]) : ba n b = ba n a := by
 obtain rfl := eQ h
 rfl
theorem b9 (n : Nat) (a : ai) (r : ai) (hr : ba n a = some r) : aM Tryz.prog 128 [.agg (ai.c a)] (.agg (ai.c r)) := by
 unfold ba at hr
 refine aM.bd G Tryz.func128 [.cell 2 40] ?_
 unfold Tryz.f128
 simp only [gS]
 refine .seq (.r2 G 14 [(1, .hp 0 0), (2, .hp 1 0)] [.own (ai.c a), .own [aB false, nS]] (.seq (.seq ?_)))
 obtain ⟨g, b, hr⟩ := bd hr
 refine .g1 G (ok0 (dP n a g b)) (.mu 1 (.ca cf0 (.mu 1 (.done (.nh [1, 2, 5] [.own (ai.c a), .own [aB false, nS]] ?_)))))
 refine .cd hr ?_ ?_ <;> intro i hr
 ·refine .seq (.r4 G [2] [] (.ret ?_))
  obtain rfl := oi hr
  exact aF.ret (vs := [.agg [aB false, nS]]) (by kernel_rfl) (Sn.agg (Sp (SnL.cons Sn.dB SnL.nil)))
 refine .skip (.seq ?_)
 obtain ⟨d, e, hr⟩ := gd2 hr
 refine .ei G bL (.mu 5 (.ek (v := .hs 3 0 a.Groups.length 1) (ws := [(2, .dead), (3, .own (a.Groups.flatMap iCu))]) (tr (y := yZ (decide (((a.Groups.flatMap iCu)).length = a.Groups.length * 1)) (a.Groups.flatMap iCu) a.Groups.length (fun z1 f => n8 (decide (0 + 0 * 1 <= (([] : List Int).flatMap iCu).length) && decide ((0 + f) * 4 <= 140737488355328) && decide (0 + f <= 4611686018427387904)) (some (.eff (.hs 3 0 (0 + f) 1) [(2, .dead), (3, .own (((([] : List Int).flatMap iCu).drop 0).take (0 * 1) ++ z1))])))) (tt (mZ (aI _)) rfl (eJ (l := ([] : List Int)) (xs := a.Groups) (aI _) rfl rfl rfl d e))) (.mu 2 ?_)))
 refine .done ⟨by kernel_rfl, ?_⟩
 refine .nh [2] [.own (ai.c a), .own [aB a.Negative, .hs 3 0 a.Groups.length 1], .dead, .own (a.Groups.flatMap iCu)] (.ret ?_)
 obtain rfl := oi hr
 exact aF.ret (vs := [.agg [aB a.Negative, .hs 3 0 a.Groups.length 1]]) (by kernel_rfl) (Sn.agg (Sp (SnL.cons (Sn.hs rfl (.inl rfl) (SnC.pure (aZ (aE _) _)) (fun h => cB h)) SnL.nil)))

theorem fg (n : Nat) (a : ai) (r : Int) (hr : cf n a = some r) : aM Tryz.prog 113 [.agg (ai.c a)] (aj r) := by
 unfold cf at hr
 refine aM.bd G Tryz.func113 [.tmp 2] ?_
 unfold Tryz.f113
 simp only [gS]
 refine .seq (.r2 G 11 [(1, .hp 0 0)] [.own (ai.c a)] (.seq ?_))
 obtain ⟨b, d, hr⟩ := bd hr
 refine .g1 G (ok0 (b9 n a b d)) (.mu 1 (.ca cf0 (.mu 1 (.done (.nh [1] [.own (ai.c b)] (.seq (.seq (.r4 G [1] [(8, aB (((b.Groups.length : Int) : Int) == 0))] ?_))))))))
 refine .cd hr ?_ ?_ <;> intro e hr
 ·refine .seq (.ru G (.ret ?_))
  obtain rfl := oi hr
  exact aF.r1 [aj 0]
 refine .skip (.seq (.seq (.r3 G 11 [(10, aB b.Negative)] ?_)))
 refine .cd hr ?_ ?_ <;> intro f hr
 ·refine .seq (.ru G (.ret ?_))
  obtain rfl := oi hr
  exact aF.r1 [aj (-1)]
 refine .skip (.seq (.ru G (.ret ?_)))
 obtain rfl := oi hr
 exact aF.r1 [aj 1]

theorem kG (n : Nat) (a : List Int) (d : Int) (r : List Int × Int) (hr : eY n a d = some r) : aM Tryz.prog 186 [aC a, cP d] (.tup [aC r.1, cP r.2]) := by
 unfold eY at hr
 refine aM.bd G Tryz.func186 [.tmp 4, .tmp 5] ?_
 unfold Tryz.f186
 simp only [gS]
 refine .seq (.r4 G [0, 1] [] (.seq ?_))
 obtain ⟨A, B, C, hr⟩ := gd3 hr
 refine .r0 G (.mu 2 (.e0 (v := .hs 0 0 (List.replicate (a.length : Int).toNat ((0 : Int) : Int)).length 1) (ws := [(0, .own ((List.replicate (a.length : Int).toNat ((0 : Int) : Int)).flatMap iCu))]) (tr (mc (c := iCu) (z := (0 : Int)) (n := (a.length : Int)) (by_ := 4) rfl A B C)) (.mu 1 (.done (.nh [0, 1, 6] [.own ((List.replicate (a.length : Int).toNat ((0 : Int) : Int)).flatMap iCu)] (.seq (.r4 G [0, 1, 6] [(7, cP 0)] (.seq (.seq (.r4 G [0, 1, 6, 7] [(8, aj (EN ((a.length : Int) - 1)))] (.block ?_)))))))))))
 replace hr := bd hr; obtain ⟨t, p, hr⟩ := hr
 refine .aL (σ := fun E => match E with | (g, f, e) => ⟨mkS 42 0 [(0, aC a), (1, cP d), (6, .hs 0 0 g.length 1), (7, cP f), (8, aj e)], [.own (g.flatMap iCu)]⟩) (Q := fun x st' => match (generalizing := false) t with | (i, j) => x = .exit 0 /\ Wk 0 st' ⟨mkS 42 0 [(6, .hs 0 0 i.length 1), (7, cP j)], [.own (i.flatMap iCu)]⟩) p ((Wk.gc [0, 1, 6, 7, 8] [(0, false)] rfl (pKo iCu (aE _) (List.replicate (a.length : Int).toNat ((0 : Int) : Int)) trivial)).to) ?_ ?_
 ·clear hr
  rintro m ⟨g, f, e⟩ hr
  show CQ _ _ _ _ _ ⟨_, _⟩
  refine .seq (.seq (.r4 G [0, 1, 6, 7, 8] [(17, aB (decide (e >= 0)))] ?_))
  refine .cd hr ?_ ?_ <;> intro D hr
  ·refine .skip (.seq (.block (.seq ?_)))
   obtain ⟨q, hr⟩ := gd hr
   refine .r0 G (.mu 4 (.p0 (v := .pp (a.flatMap iCu) (e.toNat * 1)) (tr (au q)) (.p0 (v := br (gt a e)) (tr (aH (aK (aI .u32) (aD q) z1 (by omega : e.toNat * 1 = e.toNat * 1 + 0) (by kernel_rfl)))) (.mu 3 (.done (.nh [0, 1, 6, 8, 9] [.own (g.flatMap iCu)] (.seq ?_)))))))
   obtain ⟨s, k, hr⟩ := gd2 hr
   refine .r0 G (.mu 4 (.p0 (v := cP (wFu ((wFu ((wFu (f * 1000000000)) + (wFu (gt a e)))).tdiv d))) (pD (x := wFu ((wFu (f * 1000000000)) + (wFu (gt a e)))) (y := d) (by kernel_rfl) (by kernel_rfl) s) (.mu 1 (.p0 (v := .hp 0 (0 + e.toNat * 1)) (tr (au k)) (.e0 (v := .unk) (ws := [(0, .own ((g.set e.toNat (aa .u32 (wFu ((wFu ((wFu (f * 1000000000)) + (wFu (gt a e)))).tdiv d)))).flatMap iCu))]) (tr (iE (iy (cx (n := 1) (aI .u32) (aD k) (lbT rfl) (by omega : 0 + e.toNat * 1 = e.toNat * 1 + 0))) (congrArg Blk.own (cU (xs := [br (aa .u32 (wFu ((wFu ((wFu (f * 1000000000)) + (wFu (gt a e)))).tdiv d)))]) (aI .u32) (aD k) (lbT rfl) (by omega : 0 + e.toNat * 1 = e.toNat * 1 + 0) (by kernel_rfl))))) (.done (.nh [0, 1, 6, 8, 9] [.own ((g.set e.toNat (aa .u32 (wFu ((wFu ((wFu (f * 1000000000)) + (wFu (gt a e)))).tdiv d)))).flatMap iCu)] (.r0 G (.mu 2 (.p0 (v := cP ((wFu ((wFu (f * 1000000000)) + (wFu (gt a e)))).tmod d)) (oa (x := wFu ((wFu (f * 1000000000)) + (wFu (gt a e)))) (y := d) (by kernel_rfl) (by kernel_rfl) s) (.mu 1 (.done (.pop (.ru G ?_))))))))))))))
   exact aA (g.set e.toNat (aa .u32 (wFu ((wFu ((wFu (f * 1000000000)) + (wFu (gt a e)))).tdiv d))), (wFu ((wFu (f * 1000000000)) + (wFu (gt a e)))).tmod d, EN (e - 1)) hr ((Wk.iG 6 (b := 0) (es := 1) (len := g.length) (g.set e.toNat (aa .u32 (wFu ((wFu ((wFu (f * 1000000000)) + (wFu (gt a e)))).tdiv d)))).length (by kernel_rfl) (Eq.symm (List.length_set.trans rfl))).trans ((Wk.gc [0, 1, 6, 7, 8] [(0, false)] rfl (pKo iCu (aE _) (g.set e.toNat (aa .u32 (wFu ((wFu ((wFu (f * 1000000000)) + (wFu (gt a e)))).tdiv d)))) trivial)).to))
  refine .leave rfl ?_
  obtain rfl := oi hr
  exact ⟨rfl, ((Wk.gc [6, 7] [(0, false)] rfl (pKo iCu (aE _) g trivial)).to)⟩
 rcases t with ⟨i, j⟩
 rintro x st' o
 clear p
 obtain ⟨rfl, o⟩ := o
 refine aV _ rfl (.wk o (.seq ?_))
 obtain ⟨u, w, hr⟩ := bd hr
 refine .g1 G (cK (args := [aB false, .hs 0 0 i.length 1]) (l := [0]) (Sp (SnL.cons (Sn.hs rfl (.inl rfl) (SnC.pure (aZ (aE _) _)) (fun h => cB h)) SnL.nil)) (aX n false i u w)) (.mu 1 (.ca cf0 (.mu 4 (.done (.ret ?_)))))
 obtain rfl := oi hr
 exact aF.ret (vs := [aC u.Groups, cP j]) (by kernel_rfl) (Sn.tup (Sp (Sp SnL.nil)))

theorem jn (n : Nat) (a : List Int) (b : List Int) (r : Int) (hr : c6 n a b = some r) : aM Tryz.prog 155 [aC a, aC b] (aj r) := by
 unfold c6 at hr
 refine aM.bd G Tryz.func155 [.tmp 4] ?_
 unfold Tryz.f155
 simp only [gS]
 refine .seq (.r4 G [0, 1] [] (.seq (.seq (.r4 G [0, 1] [(10, aB (((a.length : Int) : Int) != (b.length : Int)))] ?_))))
 refine .cd hr ?_ ?_ <;> intro l hr
 ·refine .seq (.seq (.r3 G 41 [(15, aB (decide ((a.length : Int) < (b.length : Int))))] ?_))
  refine .cd hr ?_ ?_ <;> intro o hr
  ·refine .seq (.ru G (.ret ?_))
   obtain rfl := oi hr
   exact aF.r1 [aj (-1)]
  refine .skip (.seq (.ru G (.ret ?_)))
  obtain rfl := oi hr
  exact aF.r1 [aj 1]
 refine .skip (.seq (.seq (.r4 G [0, 1] [(5, aj (EN ((a.length : Int) - 1)))] (.block ?_))))
 replace hr := bd hr; obtain ⟨h, g, hr⟩ := hr
 refine .aL (σ := fun p => match p with | c => ⟨mkS 41 0 [(0, aC a), (1, aC b), (5, aj c)], []⟩) (Q := fun x st' => match (generalizing := false) h with | .inl _ => x = .exit 0 /\ Wk 0 st' ⟨mkS 41 0 [], []⟩ | .inr (r0) => x = .ret /\ aF Tryz.prog [.tmp 4] (aj r0) .ret st') g ((Wk.gc [0, 1, 5] [] rfl pK0).to) ?_ ?_
 ·clear hr
  rintro m c hr
  show CQ _ _ _ _ _ ⟨_, _⟩
  refine .seq (.seq (.r4 G [0, 1, 5] [(20, aB (decide (c >= 0)))] ?_))
  refine .cd hr ?_ ?_ <;> intro i hr
  ·refine .skip (.seq (.block (.seq (.seq ?_))))
   obtain ⟨e, f, hr⟩ := gd2 hr
   refine .ei G bL (.mu 2 (.pk (v := .pp (a.flatMap iCu) (c.toNat * 1)) (tr (au e)) (.pk (v := br (gt a c)) (tr (aH (aK (aI .u32) (aD e) z1 (by omega : c.toNat * 1 = c.toNat * 1 + 0) (by kernel_rfl)))) (.mu 2 (.pk (v := .pp (b.flatMap iCu) (c.toNat * 1)) (tr (au f)) (.pk (v := br (gt b c)) (tr (aH (aK (aI .u32) (aD f) z1 (by omega : c.toNat * 1 = c.toNat * 1 + 0) (by kernel_rfl)))) (.mu 1 ?_)))))))
   refine .done ⟨by kernel_rfl, ?_⟩
   refine .nh [0, 1, 5, 31] [] ?_
   refine .cd hr ?_ ?_ <;> intro j hr
   ·refine .seq (.ru G (.ret ?_))
    obtain rfl := oi hr
    exact ⟨rfl, aF.ret (vs := [aj (-1)]) (by kernel_rfl) (Sn.pure rfl)⟩
   refine .skip (.seq (.ei G bL (.mu 2 (.pk (v := .pp (a.flatMap iCu) (c.toNat * 1)) (tr (au e)) (.pk (v := br (gt a c)) (tr (aH (aK (aI .u32) (aD e) z1 (by omega : c.toNat * 1 = c.toNat * 1 + 0) (by kernel_rfl)))) (.mu 2 (.pk (v := .pp (b.flatMap iCu) (c.toNat * 1)) (tr (au f)) (.pk (v := br (gt b c)) (tr (aH (aK (aI .u32) (aD f) z1 (by omega : c.toNat * 1 = c.toNat * 1 + 0) (by kernel_rfl)))) (.mu 1 ?_)))))))))
   refine .done ⟨by kernel_rfl, ?_⟩
   refine .nh [0, 1, 5, 40] [] ?_
   refine .cd hr ?_ ?_ <;> intro k hr
   ·refine .seq (.ru G (.ret ?_))
    obtain rfl := oi hr
    exact ⟨rfl, aF.ret (vs := [aj 1]) (by kernel_rfl) (Sn.pure rfl)⟩
   refine .skip (.pop (.ru G ?_))
   exact aA (EN (c - 1)) hr ((Wk.gc [0, 1, 5] [] rfl pK0).to)
  refine .leave rfl ?_
  obtain rfl := oi hr
  exact ⟨rfl, ((Wk.gc [] [] rfl pK0).to)⟩
 rcases h with ⟨⟩ | r0
 ·rintro x st' d
  clear g
  obtain ⟨rfl, d⟩ := d
  refine aV _ rfl (.wk d (.seq (.ru G (.ret ?_))))
  obtain rfl := oi hr
  exact aF.r1 [aj 0]
 rintro x st' d
 clear g
 obtain ⟨rfl, d⟩ := d
 obtain rfl := oi hr
 exact gw _ d

theorem n4 {a : List Int} {d : Int} {b : List Int} {c : Int} (h : ([slT iCu a, .at (.int .u64 d)] : List AV) = [slT iCu b, .at (.int .u64 c)]) : a = b /\ d = c := by
 simp only [List.cons.injEq, AV.agg.injEq, AV.at.injEq, Value.int.injEq, Value.bool.injEq, AV.fn.injEq, AV.pp.injEq, true_and, and_true, dY] at h
 simp_all
theorem oI (n : Nat) {a : List Int} {d : Int} {b : List Int} {c : Int} (h : ([slT iCu a, .at (.int .u64 d)] : List AV) = [slT iCu b, .at (.int .u64 c)]) : ct n a d = ct n b c := by
 obtain ⟨rfl, rfl⟩ := n4 h
 rfl
theorem iF (n : Nat) (a : List Int) (d : Int) (r : List Int) (hr : ct n a d = some r) : aM Tryz.prog 187 [aC a, cP d] (aC r) := by
 unfold ct at hr
 refine aM.bd G Tryz.func187 [.tmp 4] ?_
 unfold Tryz.f187
 simp only [gS]
 refine .seq (.r4 G [0, 1] [] (.seq (.r5 G [0, 1] [(5, .hs 0 0 0 1)] [.own []] (.seq (.r4 G [0, 1, 5] [(6, cP 0)] (.seq (.seq (.r4 G [0, 1, 5, 6] [(7, aj 0)] (.block ?_)))))))))
 replace hr := bd hr; obtain ⟨o, j, hr⟩ := hr
 refine .aL (σ := fun z => match z with | (c, e, b) => ⟨mkS 40 0 [(0, aC a), (1, cP d), (5, .hs 0 0 c.length 1), (6, cP e), (7, aj b)], [.own (c.flatMap iCu)]⟩) (Q := fun x st' => match (generalizing := false) o with | (g, f) => x = .exit 0 /\ Wk 0 st' ⟨mkS 40 0 [(5, .hs 0 0 g.length 1), (6, cP f)], [.own (g.flatMap iCu)]⟩) j ((Wk.gc [0, 1, 5, 6, 7] [(0, false)] rfl (pKc trivial)).to) ?_ ?_
 ·clear hr
  rintro m ⟨c, e, b⟩ hr
  show CQ _ _ _ _ _ ⟨_, _⟩
  refine .seq (.seq (.r4 G [0, 1, 5, 6, 7] [(13, aB (decide (b < (a.length : Int))))] ?_))
  refine .cd hr ?_ ?_ <;> intro y hr
  ·refine .skip (.seq (.block (.seq ?_)))
   obtain ⟨k, hr⟩ := gd hr
   refine .r0 G (.mu 2 (.p0 (v := .pp (a.flatMap iCu) (b.toNat * 1)) (tr (au k)) (.p0 (v := br (gt a b)) (tr (aH (aK (aI .u32) (aD k) z1 (by omega : b.toNat * 1 = b.toNat * 1 + 0) (by kernel_rfl)))) (.mu 6 (.done (.nh [0, 1, 5, 7, 8] [.own (c.flatMap iCu)] (.seq ?_)))))))
   obtain ⟨p, q, hr⟩ := gd2 hr
   refine .r0 G (.mu 5 (.e0 (v := .hs 2 0 (c ++ [aa .u32 ((wFu ((wFu ((wFu (gt a b)) * d)) + e)).tmod 1000000000)]).length 1) (ws := [(0, .dead), (2, .own ((c ++ [aa .u32 ((wFu ((wFu ((wFu (gt a b)) * d)) + e)).tmod 1000000000)]).flatMap iCu))]) (tr (eJ (new := [br (aa .u32 ((wFu ((wFu ((wFu (gt a b)) * d)) + e)).tmod 1000000000))]) (l := c) (xs := [aa .u32 ((wFu ((wFu ((wFu (gt a b)) * d)) + e)).tmod 1000000000)]) (aI .u32) rfl rfl (by kernel_rfl) p q)) (.mu 1 (.done (.nh [0, 1, 5, 7, 8] [.dead, .own [br (aa .u32 ((wFu ((wFu ((wFu (gt a b)) * d)) + e)).tmod 1000000000))], .own ((c ++ [aa .u32 ((wFu ((wFu ((wFu (gt a b)) * d)) + e)).tmod 1000000000)]).flatMap iCu)] (.ru G (.pop (.ru G ?_))))))))
   exact aA (c ++ [aa .u32 ((wFu ((wFu ((wFu (gt a b)) * d)) + e)).tmod 1000000000)], wFu ((wFu ((wFu ((wFu (gt a b)) * d)) + e)).tdiv 1000000000), EN (b + 1)) hr ((Wk.gc [0, 1, 5, 6, 7] [(2, false)] rfl (pKo iCu (aE _) (c ++ [aa .u32 ((wFu ((wFu ((wFu (gt a b)) * d)) + e)).tmod 1000000000)]) trivial)).to)
  refine .leave rfl ?_
  obtain rfl := oi hr
  exact ⟨rfl, ((Wk.gc [5, 6] [(0, false)] rfl (pKo iCu (aE _) c trivial)).to)⟩
 rcases o with ⟨g, f⟩
 rintro x st' i
 clear j
 obtain ⟨rfl, i⟩ := i
 refine aV _ rfl (.wk i (.seq ?_))
 obtain ⟨s, t, hr⟩ := gd2 hr
 obtain ⟨u, w, hr⟩ := bd hr
 refine .gn G (ca4 [.dead, .own [br (aa .u32 f)], .own ((g ++ [aa .u32 f]).flatMap iCu)] (cK (args := [aB false, .hs 2 0 (g ++ [aa .u32 f]).length 1]) (l := [2]) (Sp (SnL.cons (Sn.hs rfl (.inl rfl) (SnC.pure (aZ (aE _) _)) (fun h => cB h)) SnL.nil)) (aX n false (g ++ [aa .u32 f]) u w))) (.mu 4 (.e0 (v := .hs 2 0 (g ++ [aa .u32 f]).length 1) (ws := [(0, .dead), (2, .own ((g ++ [aa .u32 f]).flatMap iCu))]) (tr (eJ (new := [br (aa .u32 f)]) (l := g) (xs := [aa .u32 f]) (aI .u32) rfl rfl (by kernel_rfl) s t)) (.ca cf0 (.mu 2 (.done (.ret ?_))))))
 obtain rfl := oi hr
 exact aF.r1 [aC u.Groups]

theorem n7 (n : Nat) (a : List Int) (d : Int) (r : List Int) (hr : dZ n a d = some r) : aM Tryz.prog 188 [aC a, br d] (aC r) := by
 unfold dZ at hr
 refine aM.bd G Tryz.func188 [.tmp 4] ?_
 unfold Tryz.f188
 simp only [gS]
 refine .seq (.r4 G [0, 1] [] (.seq ?_))
 obtain ⟨b, c, hr⟩ := gd2 hr
 obtain ⟨g, e, hr⟩ := bd hr
 refine .gn G (ca4 [.dead, .own (([d] ++ a).flatMap iCu)] (cK (args := [aB false, .hs 1 0 ([d] ++ a).length 1]) (l := [1]) (Sp (SnL.cons (Sn.hs rfl (.inl rfl) (SnC.pure (aZ (aE _) _)) (fun h => cB h)) SnL.nil)) (aX n false ([d] ++ a) g e))) (.mu 3 (.e0 (v := .hs 1 0 ([d] ++ a).length 1) (ws := [(0, .dead), (1, .own (([d] ++ a).flatMap iCu))]) (tr (y := yZ (decide (((a.flatMap iCu)).length = a.length * 1)) (a.flatMap iCu) a.length (fun z1 f => n8 (decide (0 + 1 * 1 <= ([d].flatMap iCu).length) && decide ((1 + f) * 4 <= 140737488355328) && decide (1 + f <= 4611686018427387904)) (some (.eff (.hs 1 0 (1 + f) 1) [(0, .dead), (1, .own ((([d].flatMap iCu).drop 0).take (1 * 1) ++ z1))])))) (tt (mZ (aI _)) rfl (eJ (l := [d]) (xs := a) (aI _) rfl rfl rfl b c))) (.ca cf0 (.mu 2 (.done (.ret ?_))))))
 obtain rfl := oi hr
 exact aF.r1 [aC g.Groups]

theorem eS (n : Nat) {l : List Int} {i : Int} {a : List Int} {b : Int} (h : ([slT iCu l, .at (.int .i64 i)] : List AV) = [slT iCu a, .at (.int .i64 b)]) : aY n l i = aY n a b := by
 obtain ⟨rfl, rfl⟩ := qk h
 rfl
theorem bY (n : Nat) (l : List Int) (i : Int) (r : Int) (hr : aY n l i = some r) : aM Tryz.prog 189 [aC l, aj i] (cP r) := by
 unfold aY at hr
 refine aM.bd G Tryz.func189 [.tmp 4] ?_
 unfold Tryz.f189
 simp only [gS]
 refine .seq (.r4 G [0, 1] [] (.seq (.seq (.r4 G [0, 1] [(8, aB (decide (i < (l.length : Int))))] ?_))))
 refine .cd hr ?_ ?_ <;> intro b hr
 ·refine .seq ?_
  obtain ⟨a, hr⟩ := gd hr
  refine .r0 G (.mu 2 (.p0 (v := .pp (l.flatMap iCu) (i.toNat * 1)) (tr (au a)) (.p0 (v := br (gt l i)) (tr (aH (aK (aI .u32) (aD a) z1 (by omega : i.toNat * 1 = i.toNat * 1 + 0) (by kernel_rfl)))) (.mu 2 (.done (.ret ?_))))))
  obtain rfl := oi hr
  exact aF.r1 [cP (wFu (gt l i))]
 refine .skip (.seq (.ru G (.ret ?_)))
 obtain rfl := oi hr
 exact aF.r1 [cP 0]

theorem fX (n : Nat) (a : List Int) (b : List Int) (r : List Int) (hr : cn n a b = some r) : aM Tryz.prog 156 [aC a, aC b] (aC r) := by
 unfold cn at hr
 refine aM.bd G Tryz.func156 [.tmp 4] ?_
 unfold Tryz.f156
 simp only [gS]
 refine .seq (.r4 G [0, 1] [] (.seq (.r5 G [0, 1] [(5, .hs 0 0 0 1)] [.own []] (.seq (.r4 G [0, 1, 5] [(6, cP 0)] (.seq (.seq (.r4 G [0, 1, 5, 6] [(7, aj 0)] (.block ?_)))))))))
 replace hr := bd hr; obtain ⟨g, k, hr⟩ := hr
 refine .aL (σ := fun y => match y with | (c, d, i) => ⟨mkS 38 0 [(0, aC a), (1, aC b), (5, .hs 0 0 c.length 1), (6, cP d), (7, aj i)], [.own (c.flatMap iCu)]⟩) (Q := fun x st' => x = .exit 0 /\ Wk 0 st' ⟨mkS 38 0 [(5, .hs 0 0 g.length 1)], [.own (g.flatMap iCu)]⟩) k ((Wk.gc [0, 1, 5, 6, 7] [(0, false)] rfl (pKc trivial)).to) ?_ ?_
 ·clear hr
  rintro m ⟨c, d, i⟩ hr
  show CQ _ _ _ _ _ ⟨_, _⟩
  refine .seq (.seq (.r4 G [0, 1, 5, 6, 7] [(13, aB (decide (i < (a.length : Int))))] ?_))
  refine .cd hr ?_ ?_ <;> intro w hr
  ·refine .skip (.seq (.block (.seq ?_)))
   obtain ⟨e, o, f, p, hr⟩ := bd2 hr
   refine .gn G (ca1 (ok0 (bY n a i e o)) (ca3 (ok0 (bY n b i f p)))) (.mu 2 (.ca cf0 (.mu 3 (.ca (cfA (fun h => by rw [sv p o (eS n h)]) cf0) (.mu 4 (.done (.nh [0, 1, 5, 7, 8] [.own (c.flatMap iCu)] (.seq ?_))))))))
   obtain ⟨q, s, hr⟩ := gd2 hr
   refine .r0 G (.mu 5 (.e0 (v := .hs 2 0 (c ++ [aa .u32 ((wFu ((wFu ((wFu (1000000000 + e)) - f)) - d)).tmod 1000000000)]).length 1) (ws := [(0, .dead), (2, .own ((c ++ [aa .u32 ((wFu ((wFu ((wFu (1000000000 + e)) - f)) - d)).tmod 1000000000)]).flatMap iCu))]) (tr (eJ (new := [br (aa .u32 ((wFu ((wFu ((wFu (1000000000 + e)) - f)) - d)).tmod 1000000000))]) (l := c) (xs := [aa .u32 ((wFu ((wFu ((wFu (1000000000 + e)) - f)) - d)).tmod 1000000000)]) (aI .u32) rfl rfl (by kernel_rfl) q s)) (.mu 1 (.done (.nh [0, 1, 5, 7, 8] [.dead, .own [br (aa .u32 ((wFu ((wFu ((wFu (1000000000 + e)) - f)) - d)).tmod 1000000000))], .own ((c ++ [aa .u32 ((wFu ((wFu ((wFu (1000000000 + e)) - f)) - d)).tmod 1000000000)]).flatMap iCu)] (.ru G (.pop (.ru G ?_))))))))
   exact aA (c ++ [aa .u32 ((wFu ((wFu ((wFu (1000000000 + e)) - f)) - d)).tmod 1000000000)], wFu (1 - (wFu ((wFu ((wFu ((wFu (1000000000 + e)) - f)) - d)).tdiv 1000000000))), EN (i + 1)) hr ((Wk.gc [0, 1, 5, 6, 7] [(2, false)] rfl (pKo iCu (aE _) (c ++ [aa .u32 ((wFu ((wFu ((wFu (1000000000 + e)) - f)) - d)).tmod 1000000000)]) trivial)).to)
  refine .leave rfl ?_
  obtain rfl := oi hr
  exact ⟨rfl, ((Wk.gc [5] [(0, false)] rfl (pKo iCu (aE _) c trivial)).to)⟩
 rintro x st' j
 clear k
 obtain ⟨rfl, j⟩ := j
 refine aV _ rfl (.wk j (.seq ?_))
 obtain ⟨t, u, hr⟩ := bd hr
 refine .g1 G (cK (args := [aB false, .hs 0 0 g.length 1]) (l := [0]) (Sp (SnL.cons (Sn.hs rfl (.inl rfl) (SnC.pure (aZ (aE _) _)) (fun h => cB h)) SnL.nil)) (aX n false g t u)) (.mu 1 (.ca cf0 (.mu 2 (.done (.ret ?_)))))
 obtain rfl := oi hr
 exact aF.r1 [aC t.Groups]

theorem iU (n : Nat) (a : List Int) (b : List Int) (r : List Int × List Int) (hr : dh n a b = some r) : aM Tryz.prog 152 [aC a, aC b] (.tup [aC r.1, aC r.2]) := by
 unfold dh at hr
 refine aM.bd G Tryz.func152 [.tmp 4, .tmp 5] ?_
 unfold Tryz.f152
 simp only [gS]
 refine .seq (.r4 G [0, 1] [] (.seq (.r4 G [0, 1] [(6, aj (b.length : Int))] (.seq (.seq (.r4 G [0, 1, 6] [(19, aB (((b.length : Int) : Int) == 1))] ?_))))))
 refine .cd hr ?_ ?_ <;> intro ua hr
 ·refine .seq ?_
  obtain ⟨S, hr⟩ := gd hr
  obtain ⟨v3, mN, hr⟩ := bd hr
  refine .g1 G (ok0 (kG n a (wFu (gt b 0)) v3 mN)) (.mu 2 (.p0 (v := .pp (b.flatMap iCu) ((0 : Int).toNat * 1)) (tr (au S)) (.p0 (v := br (gt b 0)) (tr (aH (aK (aI .u32) (aD S) z1 (by omega : (0 : Int).toNat * 1 = (0 : Int).toNat * 1 + 0) (by kernel_rfl)))) (.mu 1 (.ca cf0 (.mu 5 (.done (.nh [7, 8] [] (.seq ?_)))))))))
  obtain ⟨v5, mM, hr⟩ := bd hr
  refine .gn G (ca4 [.own [br (aa .u32 v3.2)]] (cK (args := [aB false, .hs 0 0 1 1]) (l := [0]) (Sp (SnL.cons (Sn.hs rfl (.inl rfl) (SnC.cons (Sn.pure rfl) SnC.nil) (fun h => nomatch h)) SnL.nil)) (aX n false [(aa .u32 v3.2)] v5 mM))) (.mu 4 (.ca cf0 (.mu 3 (.done (.ret ?_)))))
  obtain rfl := oi hr
  exact aF.ret (vs := [aC v3.1, aC v5.Groups]) (by kernel_rfl) (Sn.tup (Sp (Sp SnL.nil)))
 refine .skip (.seq (.seq ?_))
 obtain ⟨v7, nG, hr⟩ := bd hr
 refine .g1 G (ok0 (jn n a b v7 nG)) (.mu 2 (.ca cf0 (.mu 1 (.done (.nh [0, 1, 6, 38] [] ?_)))))
 refine .cd hr ?_ ?_ <;> intro vC hr
 ·refine .seq (.r5 G [] [(4, .hs 0 0 0 1), (5, aC a)] [.own []] (.ret ?_))
  obtain rfl := oi hr
  exact aF.ret (vs := [.hs 0 0 0 1, aC a]) (by kernel_rfl) (Sn.tup (SnL.cons (Sn.hs rfl (.inl rfl) SnC.nil (fun _ => rfl)) (Sp SnL.nil)))
 refine .skip (.seq ?_)
 obtain ⟨D, T, hr⟩ := gd2 hr
 refine .r0 G (.mu 3 (.p0 (v := .pp (b.flatMap iCu) ((EN ((b.length : Int) - 1)).toNat * 1)) (tr (au D)) (.p0 (v := br (gt b (EN ((b.length : Int) - 1)))) (tr (aH (aK (aI .u32) (aD D) z1 (by omega : (EN ((b.length : Int) - 1)).toNat * 1 = (EN ((b.length : Int) - 1)).toNat * 1 + 0) (by kernel_rfl)))) (.mu 2 (.p0 (v := cP (wFu ((1000000000 : Int).tdiv (wFu ((wFu (gt b (EN ((b.length : Int) - 1)))) + 1))))) (pD (x := 1000000000) (y := wFu ((wFu (gt b (EN ((b.length : Int) - 1)))) + 1)) (by kernel_rfl) (by kernel_rfl) T) (.mu 1 (.done (.nh [0, 1, 6, 9] [] (.seq ?_)))))))))
 obtain ⟨f, E, g, F, hr⟩ := bd2 hr
 refine .gn G (ca1 (ok0 (iF n a (wFu ((1000000000 : Int).tdiv (wFu ((wFu (gt b (EN ((b.length : Int) - 1)))) + 1)))) f E)) (ca3 (ok0 (iF n b (wFu ((1000000000 : Int).tdiv (wFu ((wFu (gt b (EN ((b.length : Int) - 1)))) + 1)))) g F)))) (.mu 2 (.ca cf0 (.mu 2 (.ca (cfA (fun h => by rw [sv F E (oI n h)]) cf0) (.mu 2 (.done (.nh [0, 1, 6, 9] [] (.seq ?_))))))))
 obtain ⟨H, hr⟩ := gd hr
 obtain ⟨nK, U, hr⟩ := bd hr
 refine .g1 G (ok0 (aX n false ((f.drop (EN ((EN ((f.length : Int) - (b.length : Int))) + 1)).toNat).take ((f.length : Int).toNat - (EN ((EN ((f.length : Int) - (b.length : Int))) + 1)).toNat)) nK U)) (.mu 6 (.p0 (v := aC ((f.drop (EN ((EN ((f.length : Int) - (b.length : Int))) + 1)).toNat).take ((f.length : Int).toNat - (EN ((EN ((f.length : Int) - (b.length : Int))) + 1)).toNat))) (tr (y := slO (inS (EN ((EN ((f.length : Int) - (b.length : Int))) + 1)) (f.length : Int) f.length) (EN ((EN ((f.length : Int) - (b.length : Int))) + 1)).toNat (f.length : Int).toNat (fun z1 z2 => .sl true (((f.flatMap iCu).drop (z1 * 1)).take ((z2 - z1) * 1)) (z2 - z1))) (vZ H (tK (aI _) (qb H)))) (.ca cf0 (.mu 2 (.done (.nh [0, 1, 6, 9, 10] [] (.seq ?_)))))))
 obtain ⟨V, W, X, hr⟩ := gd3 hr
 refine .r0 G (.mu 5 (.e0 (v := .hs 0 0 (List.replicate (EN ((EN ((f.length : Int) - (b.length : Int))) + 1)).toNat ((0 : Int) : Int)).length 1) (ws := [(0, .own ((List.replicate (EN ((EN ((f.length : Int) - (b.length : Int))) + 1)).toNat ((0 : Int) : Int)).flatMap iCu))]) (tr (mc (c := iCu) (z := (0 : Int)) (n := EN ((EN ((f.length : Int) - (b.length : Int))) + 1)) (by_ := 4) rfl V W X)) (.mu 1 (.done (.nh [0, 1, 6, 9, 10, 11] [.own ((List.replicate (EN ((EN ((f.length : Int) - (b.length : Int))) + 1)).toNat ((0 : Int) : Int)).flatMap iCu)] (.seq (.seq (.r4 G [0, 1, 6, 9, 10, 11] [(12, aj (EN ((f.length : Int) - (b.length : Int))))] (.block ?_)))))))))
 replace hr := bd hr; obtain ⟨Y, I, hr⟩ := hr
 refine .aL (σ := fun z0 => match z0 with | (o, d, e) => ⟨mkS 130 0 [(0, aC f), (1, aC g), (6, aj (b.length : Int)), (9, cP (wFu ((1000000000 : Int).tdiv (wFu ((wFu (gt b (EN ((b.length : Int) - 1)))) + 1))))), (10, aC o), (11, .hs 0 0 d.length 1), (12, aj e)], [.own (d.flatMap iCu)]⟩) (Q := fun x st' => match (generalizing := false) Y with | (p, j) => x = .exit 0 /\ Wk 0 st' ⟨mkS 130 0 [(9, cP (wFu ((1000000000 : Int).tdiv (wFu ((wFu (gt b (EN ((b.length : Int) - 1)))) + 1))))), (10, aC p), (11, .hs 0 0 j.length 1)], [.own (j.flatMap iCu)]⟩) I ((Wk.gc [0, 1, 6, 9, 10, 11, 12] [(0, false)] rfl (pKo iCu (aE _) (List.replicate (EN ((EN ((f.length : Int) - (b.length : Int))) + 1)).toNat ((0 : Int) : Int)) trivial)).to) ?_ ?_
 ·clear hr
  rintro m ⟨o, d, e⟩ hr
  show CQ _ _ _ _ _ ⟨_, _⟩
  refine .seq (.seq (.r4 G [0, 1, 6, 9, 10, 11, 12] [(75, aB (decide (e >= 0)))] ?_))
  refine .cd hr ?_ ?_ <;> intro r9 hr
  ·refine .skip (.seq (.block (.seq ?_)))
   obtain ⟨J, hr⟩ := gd hr
   obtain ⟨A, Z, hr⟩ := bd hr
   refine .g1 G (ok0 (n7 n o (gt f e) A Z)) (.mu 3 (.p0 (v := .pp (f.flatMap iCu) (e.toNat * 1)) (tr (au J)) (.p0 (v := br (gt f e)) (tr (aH (aK (aI .u32) (aD J) z1 (by omega : e.toNat * 1 = e.toNat * 1 + 0) (by kernel_rfl)))) (.ca cf0 (.mu 1 (.done (.nh [0, 1, 6, 9, 10, 11, 12] [.own (d.flatMap iCu)] (.seq ?_))))))))
   obtain ⟨B, L, C, M, hr⟩ := bd2 hr
   obtain ⟨N, jX, hr⟩ := gd2 hr
   refine .tn G (ca1 (ok0 (bY n A (b.length : Int) B L)) (ca3 (ok0 (bY n A (EN ((b.length : Int) - 1)) C M)))) (.mu 2 (.ca cf0 (.mu 4 (.ca (cfA (fun h => by rw [sv M L (eS n h)]) cf0) (.mu 4 (.pk (v := .pp (g.flatMap iCu) ((EN ((b.length : Int) - 1)).toNat * 1)) (tr (au N)) (.pk (v := br (gt g (EN ((b.length : Int) - 1)))) (tr (aH (aK (aI .u32) (aD N) z1 (by omega : (EN ((b.length : Int) - 1)).toNat * 1 = (EN ((b.length : Int) - 1)).toNat * 1 + 0) (by kernel_rfl)))) (.mu 2 (.pk (v := cP (wFu ((wFu ((wFu (B * 1000000000)) + C)).tdiv (wFu ((wFu (gt g (EN ((b.length : Int) - 1)))) + 1))))) (pD (x := wFu ((wFu (B * 1000000000)) + C)) (y := wFu ((wFu (gt g (EN ((b.length : Int) - 1)))) + 1)) (by kernel_rfl) (by kernel_rfl) jX) (.mu 1 ?_))))))))))
   refine .done ⟨by kernel_rfl, ?_⟩
   refine .nh [0, 1, 6, 9, 10, 11, 12, 13] [.own (d.flatMap iCu)] (.seq ?_)
   obtain ⟨kB, lH, qE, l8, hr⟩ := bd2 hr
   refine .gn G (ca1 (ok0 (iF n g (wFu ((wFu ((wFu (B * 1000000000)) + C)).tdiv (wFu ((wFu (gt g (EN ((b.length : Int) - 1)))) + 1)))) kB lH)) (ca3 (ok0 (fX n A kB qE l8)))) (.mu 3 (.ca cf0 (.ca (cfF cf0) (.mu 1 (.done (.nh [0, 1, 6, 9, 10, 11, 12, 13] [.own (d.flatMap iCu)] (.seq (.block ?_))))))))
   replace hr := bd hr; obtain ⟨lK, O, hr⟩ := hr
   refine .aL (σ := fun z0 => match z0 with | (k, q) => ⟨mkS 130 0 [(0, aC f), (1, aC g), (6, aj (b.length : Int)), (9, cP (wFu ((1000000000 : Int).tdiv (wFu ((wFu (gt b (EN ((b.length : Int) - 1)))) + 1))))), (10, aC k), (11, .hs 0 0 d.length 1), (12, aj e), (13, cP q)], [.own (d.flatMap iCu)]⟩) (Q := fun x st' => match (generalizing := false) lK with | (s, i) => x = .exit 2 /\ Wk 0 st' ⟨mkS 130 0 [(0, aC f), (1, aC g), (6, aj (b.length : Int)), (9, cP (wFu ((1000000000 : Int).tdiv (wFu ((wFu (gt b (EN ((b.length : Int) - 1)))) + 1))))), (10, aC s), (11, .hs 0 0 d.length 1), (12, aj e), (13, cP i)], [.own (d.flatMap iCu)]⟩) O ((Wk.gc [0, 1, 6, 9, 10, 11, 12, 13] [(0, false)] rfl (pKo iCu (aE _) d trivial)).to) ?_ ?_
   ·clear hr
    rintro m ⟨k, q⟩ hr
    show CQ _ _ _ _ _ ⟨_, _⟩
    refine .seq (.seq ?_)
    obtain ⟨qG, mv, hr⟩ := bd hr
    refine .g1 G (ok0 (jn n k g qG mv)) (.mu 2 (.ca cf0 (.mu 1 (.done (.nh [0, 1, 6, 9, 10, 11, 12, 13, 109] [.own (d.flatMap iCu)] ?_)))))
    refine .cd hr ?_ ?_ <;> intro sI hr
    ·refine .skip (.block (.seq ?_))
     obtain ⟨mw, nC, hr⟩ := bd hr
     refine .g1 G (ok0 (fX n k g mw nC)) (.mu 2 (.ca cf0 (.mu 1 (.done (.nh [0, 1, 6, 9, 10, 11, 12, 13] [.own (d.flatMap iCu)] (.ru G (.pop ?_)))))))
     exact aA (mw, wFu (q + 1)) hr ((Wk.gc [0, 1, 6, 9, 10, 11, 12, 13] [(0, false)] rfl (pKo iCu (aE _) d trivial)).to)
    refine .leave rfl ?_
    obtain rfl := oi hr
    exact ⟨rfl, ((Wk.gc [0, 1, 6, 9, 10, 11, 12, 13] [(0, false)] rfl (pKo iCu (aE _) d trivial)).to)⟩
   rcases lK with ⟨s, i⟩
   rintro x st' t
   clear O
   obtain ⟨rfl, t⟩ := t
   refine aV _ rfl (.wk t ?_)
   obtain ⟨u, hr⟩ := gd hr
   refine .r0 G (.mu 4 (.p0 (v := .hp 0 (0 + e.toNat * 1)) (tr (au u)) (.e0 (v := .unk) (ws := [(0, .own ((d.set e.toNat (aa .u32 i)).flatMap iCu))]) (tr (iE (iy (cx (n := 1) (aI .u32) (aD u) (lbT rfl) (by omega : 0 + e.toNat * 1 = e.toNat * 1 + 0))) (congrArg Blk.own (cU (xs := [br (aa .u32 i)]) (aI .u32) (aD u) (lbT rfl) (by omega : 0 + e.toNat * 1 = e.toNat * 1 + 0) (by kernel_rfl))))) (.done (.pop (.ru G ?_))))))
   exact aA (s, d.set e.toNat (aa .u32 i), EN (e - 1)) hr ((Wk.iG 11 (b := 0) (es := 1) (len := d.length) (d.set e.toNat (aa .u32 i)).length (by kernel_rfl) (Eq.symm (List.length_set.trans rfl))).trans ((Wk.gc [0, 1, 6, 9, 10, 11, 12] [(0, false)] rfl (pKo iCu (aE _) (d.set e.toNat (aa .u32 i)) trivial)).to))
  refine .leave rfl ?_
  obtain rfl := oi hr
  exact ⟨rfl, ((Wk.gc [9, 10, 11] [(0, false)] rfl (pKo iCu (aE _) d trivial)).to)⟩
 rcases Y with ⟨p, j⟩
 rintro x st' w
 clear I
 obtain ⟨rfl, w⟩ := w
 refine aV _ rfl (.wk w (.seq ?_))
 obtain ⟨nF, pL, hr⟩ := bd hr
 refine .g1 G (ok0 (kG n p (wFu ((1000000000 : Int).tdiv (wFu ((wFu (gt b (EN ((b.length : Int) - 1)))) + 1)))) nF pL)) (.mu 2 (.ca cf0 (.mu 5 (.done (.nh [11, 14] [.own (j.flatMap iCu)] (.seq ?_))))))
 obtain ⟨kH, R, hr⟩ := bd hr
 refine .g1 G (cK (args := [aB false, .hs 0 0 j.length 1]) (l := [0]) (Sp (SnL.cons (Sn.hs rfl (.inl rfl) (SnC.pure (aZ (aE _) _)) (fun h => cB h)) SnL.nil)) (aX n false j kH R)) (.mu 1 (.ca cf0 (.mu 4 (.done (.ret ?_)))))
 obtain rfl := oi hr
 exact aF.ret (vs := [aC kH.Groups, aC nF.1]) (by kernel_rfl) (Sn.tup (Sp (Sp SnL.nil)))

theorem pe {a : List Int} {b : List Int} (h : ([slT iCu a] : List AV) = [slT iCu b]) : a = b := by
 simp only [List.cons.injEq, AV.agg.injEq, AV.at.injEq, Value.int.injEq, Value.bool.injEq, AV.fn.injEq, AV.pp.injEq, true_and, and_true, dY] at h
 simp_all
theorem pX (n : Nat) {a : List Int} {b : List Int} (h : ([slT iCu a] : List AV) = [slT iCu b]) : dJ n a = dJ n b := by
 obtain rfl := pe h
 rfl
theorem lk (n : Nat) (a : List Int) (r : Int) (hr : dJ n a = some r) : aM Tryz.prog 153 [aC a] (cP r) := by
 unfold dJ at hr
 refine aM.bd G Tryz.func153 [.tmp 2] ?_
 unfold Tryz.f153
 simp only [gS]
 refine .seq (.r4 G [0] [] (.seq ?_))
 obtain ⟨d, b, e, c, hr⟩ := bd2 hr
 refine .gn G (ca1 (ok0 (bY n a 1 d b)) (ca3 (ok0 (bY n a 0 e c)))) (.mu 1 (.ca cf0 (.mu 2 (.ca (cfA (fun h => by rw [sv c b (eS n h)]) cf0) (.mu 2 (.done (.ret ?_)))))))
 obtain rfl := oi hr
 exact aF.r1 [cP (wFu ((wFu (d * 1000000000)) + e))]

theorem mq (n : Nat) (A : ai) (y : ai) (r : ai) (hr : eN n A y = some r) : aM Tryz.prog 115 [.agg (ai.c A), .agg (ai.c y)] (.agg (ai.c r)) := by
 unfold eN at hr
 refine aM.bd G Tryz.func115 [.cell 4 40] ?_
 unfold Tryz.f115
 simp only [gS]
 refine .seq (.r2 G 61 [(2, .hp 0 0), (3, .hp 1 0), (4, .hp 2 0)] [.own (ai.c A), .own (ai.c y), .own [aB false, nS]] (.seq ?_))
 obtain ⟨V, B, W, C, hr⟩ := bd2 hr
 refine .tn G (ca1 (ok0 (b9 n A V B)) (ca3 (ok0 (b9 n y W C)))) (.mu 1 (.ca cf0 (.mu 2 (.ca (cfA (fun h => by rw [sv C B (fZ n h)]) cf0) (.mu 3 ?_)))))
 refine .done ⟨by kernel_rfl, ?_⟩
 refine .nh [4, 5, 6] [.own (ai.c A), .own (ai.c y), .own [aB false, nS]] (.seq (.block ?_))
 replace hr := bd hr; obtain ⟨D, q, hr⟩ := hr
 refine .aL (σ := fun N => match N with | (k, g) => ⟨mkS 61 0 [(4, .hp 0 0), (5, aC k), (6, aC g)], [.own [aB false, nS]]⟩) (Q := fun x st' => match (generalizing := false) D with | (i, j) => x = .exit 0 /\ Wk 0 st' ⟨mkS 61 0 [(4, .hp 0 0), (5, aC i), (6, aC j)], [.own [aB false, nS]]⟩) q ((Wk.gc [4, 5, 6] [(2, true)] rfl trivial).to) ?_ ?_
 ·clear hr
  rintro m ⟨k, g⟩ hr
  show CQ _ _ _ _ _ ⟨_, _⟩
  refine .seq (.seq ?_)
  rcases bT (decide ((g.length : Int) > 0)) with d | d
  ·replace hr := b8 d hr
   rcases bT (decide ((k.length : Int) > 2)) with e | e
   ·replace hr := b8 e hr
    refine .r0 G (.mu 2 (.p0 (v := aB true) (eB d) (.mu 3 (.pure (v := aB true) (by kernel_rfl) (eB e) (.mu 6 (.done (.nh [4, 5, 6, 29] [.own [aB false, nS]] (.cT (by kernel_rfl) (.skip (.block (.seq ?_)))))))))))
    obtain ⟨E, F, hr⟩ := bd hr
    refine .g1 G (ok0 (iU n k g E F)) (.mu 2 (.ca cf0 (.mu 5 (.done (.nh [4, 6, 8] [.own [aB false, nS]] (.ru G (.pop ?_)))))))
    exact aA (g, E.2) hr ((Wk.gc [4, 5, 6] [(0, true)] rfl trivial).to)
   replace hr := bX e hr
   refine .r0 G (.mu 2 (.p0 (v := aB true) (eB d) (.mu 3 (.pure (v := aB false) (by kernel_rfl) (eB e) (.mu 6 (.done (.nh [4, 5, 6, 29] [.own [aB false, nS]] ?_)))))))
   refine .cd hr ?_ ?_ <;> intro S hr
   ·refine .skip (.block (.seq ?_))
    obtain ⟨H, I, hr⟩ := bd hr
    refine .g1 G (ok0 (iU n k g H I)) (.mu 2 (.ca cf0 (.mu 5 (.done (.nh [4, 6, 8] [.own [aB false, nS]] (.ru G (.pop ?_)))))))
    exact aA (g, H.2) hr ((Wk.gc [4, 5, 6] [(0, true)] rfl trivial).to)
   refine .leave rfl ?_
   obtain rfl := oi hr
   exact ⟨rfl, ((Wk.gc [4, 5, 6] [(0, true)] rfl trivial).to)⟩
  replace hr := bX d hr
  refine .r0 G (.mu 2 (.p0 (v := aB false) (eB d) (.mu 10 (.done (.nh [4, 5, 6, 29] [.own [aB false, nS]] (.cF (by kernel_rfl) (.leave rfl ?_)))))))
  obtain rfl := oi hr
  exact ⟨rfl, ((Wk.gc [4, 5, 6] [(0, true)] rfl trivial).to)⟩
 rcases D with ⟨i, j⟩
 rintro x st' o
 clear q
 obtain ⟨rfl, o⟩ := o
 refine aV _ rfl (.wk o (.seq (.seq (.r4 G [4, 5, 6] [(40, aB (((j.length : Int) : Int) == 0))] ?_))))
 refine .cd hr ?_ ?_ <;> intro T hr
 ·refine .seq ?_
  obtain ⟨w, J, hr⟩ := bd hr
  refine .g1 G (ok0 (aX n false i w J)) (.mu 1 (.ca cf0 (.mu 1 (.done (.nh [4] [.own (ai.c w)] (.ret ?_))))))
  obtain rfl := oi hr
  exact aF.r1 [.agg (ai.c w)]
 refine .skip (.seq ?_)
 obtain ⟨O, s, R, t, hr⟩ := bd2 hr
 refine .gn G (ca1 (ok0 (lk n i O s)) (ca3 (ok0 (lk n j R t)))) (.mu 1 (.ca cf0 (.mu 1 (.ca (cfA (fun h => by rw [sv t s (pX n h)]) cf0) (.mu 2 (.done (.nh [4, 9, 10] [.own [aB false, nS]] (.seq (.block ?_)))))))))
 replace hr := bd hr; obtain ⟨a, u, hr⟩ := hr
 refine .aL (σ := fun N => match N with | (f, b) => ⟨mkS 61 0 [(4, .hp 0 0), (9, cP f), (10, cP b)], [.own [aB false, nS]]⟩) (Q := fun x st' => x = .exit 2 /\ Wk 0 st' ⟨mkS 61 0 [(4, .hp 0 0), (9, cP a)], [.own [aB false, nS]]⟩) u ((Wk.gc [4, 9, 10] [(0, true)] rfl trivial).to) ?_ ?_
 ·clear hr
  rintro m ⟨f, b⟩ hr
  show CQ _ _ _ _ _ ⟨_, _⟩
  refine .seq (.seq (.r4 G [4, 9, 10] [(48, aB (decide (b > 0)))] ?_))
  refine .cd hr ?_ ?_ <;> intro U hr
  ·refine .skip (.block ?_)
   obtain ⟨L, hr⟩ := gd hr
   refine .ei G bL (.mu 3 (.pk (v := cP (f.tmod b)) (oa (x := f) (y := b) (by kernel_rfl) (by kernel_rfl) L) (.mu 2 ?_)))
   refine .done ⟨by kernel_rfl, ?_⟩
   refine .pop ?_
   exact aA (b, f.tmod b) hr ((Wk.gc [4, 9, 10] [(0, true)] rfl trivial).to)
  refine .leave rfl ?_
  obtain rfl := oi hr
  exact ⟨rfl, ((Wk.gc [4, 9] [(0, true)] rfl trivial).to)⟩
 rintro x st' p
 clear u
 obtain ⟨rfl, p⟩ := p
 refine aV _ rfl (.wk p (.seq ?_))
 obtain ⟨z, M, hr⟩ := bd hr
 refine .gn G (ca4 [.own [aB false, nS], .own [br (aa .u32 (a.tmod 1000000000)), br (aa .u32 (wFu (a.tdiv 1000000000)))]] (cK (args := [aB false, .hs 1 0 2 1]) (l := [1]) (Sp (SnL.cons (Sn.hs rfl (.inl rfl) (SnC.cons (Sn.pure rfl) (SnC.cons (Sn.pure rfl) SnC.nil)) (fun h => nomatch h)) SnL.nil)) (aX n false [(aa .u32 (a.tmod 1000000000)), (aa .u32 (wFu (a.tdiv 1000000000)))] z M))) (.mu 7 (.ca cf0 (.mu 1 (.done (.nh [4] [.own (ai.c z), .fix [br (aa .u32 (a.tmod 1000000000)), br (aa .u32 (wFu (a.tdiv 1000000000)))]] (.ret ?_))))))
 obtain rfl := oi hr
 exact aF.r1 [.agg (ai.c z)]

theorem jI (n : Nat) (b : ai) (r : ai) (hr : eW n b = some r) : aM Tryz.prog 126 [.agg (ai.c b)] (.agg (ai.c r)) := by
 unfold eW at hr
 refine aM.bd G Tryz.func126 [.cell 2 40] ?_
 unfold Tryz.f126
 simp only [gS]
 refine .seq (.r2 G 11 [(1, .hp 0 0), (2, .hp 1 0)] [.own (ai.c b), .own [aB false, nS]] (.seq ?_))
 obtain ⟨a, d, hr⟩ := bd hr
 refine .g1 G (ok0 (b9 n b a d)) (.mu 1 (.ca cf0 (.mu 1 (.done (.nh [1, 2] [.own (ai.c a), .own [aB false, nS]] (.seq ?_))))))
 obtain ⟨e, f, hr⟩ := bd hr
 refine .g1 G (ok0 (aX n (!a.Negative) a.Groups e f)) (.mu 5 (.ca cf0 (.mu 1 (.done (.nh [2] [.own (ai.c a), .own (ai.c e)] (.ret ?_))))))
 obtain rfl := oi hr
 exact aF.r1 [.agg (ai.c e)]

theorem qa (n : Nat) (a : List Int) (b : List Int) (r : List Int) (hr : gk n a b = some r) : aM Tryz.prog 154 [aC a, aC b] (aC r) := by
 unfold gk at hr
 refine aM.bd G Tryz.func154 [.tmp 4] ?_
 unfold Tryz.f154
 simp only [gS]
 refine .seq (.r4 G [0, 1] [] (.seq (.r5 G [0, 1] [(5, .hs 0 0 0 1)] [.own []] (.seq (.r4 G [0, 1, 5] [(6, cP 0)] (.seq (.seq (.r4 G [0, 1, 5, 6] [(7, aj 0)] (.block ?_)))))))))
 replace hr := bd hr; obtain ⟨z, s, hr⟩ := hr
 refine .aL (σ := fun L => match L with | (c, d, o) => ⟨mkS 46 0 [(0, aC a), (1, aC b), (5, .hs 0 0 c.length 1), (6, cP d), (7, aj o)], [.own (c.flatMap iCu)]⟩) (Q := fun x st' => match (generalizing := false) z with | (f, e) => x = .exit 0 /\ Wk 0 st' ⟨mkS 46 0 [(5, .hs 0 0 f.length 1), (6, cP e)], [.own (f.flatMap iCu)]⟩) s ((Wk.gc [0, 1, 5, 6, 7] [(0, false)] rfl (pKc trivial)).to) ?_ ?_
 ·clear hr
  rintro m ⟨c, d, o⟩ hr
  show CQ _ _ _ _ _ ⟨_, _⟩
  refine .seq (.seq ?_)
  rcases bT (decide (o < (a.length : Int))) with p | p
  ·replace hr := b8 p hr
   refine .r0 G (.mu 3 (.p0 (v := aB true) (eB p) (.mu 6 (.done (.nh [0, 1, 5, 6, 7, 19] [.own (c.flatMap iCu)] (.cT (by kernel_rfl) (.skip (.seq (.block (.seq ?_))))))))))
   obtain ⟨g, t, i, u, hr⟩ := bd2 hr
   refine .gn G (ca1 (ok0 (bY n a o g t)) (ca3 (ok0 (bY n b o i u)))) (.mu 2 (.ca cf0 (.mu 2 (.ca (cfA (fun h => by rw [sv u t (eS n h)]) cf0) (.mu 4 (.done (.nh [0, 1, 5, 7, 8] [.own (c.flatMap iCu)] (.seq ?_))))))))
   obtain ⟨A, B, hr⟩ := gd2 hr
   refine .r0 G (.mu 5 (.e0 (v := .hs 2 0 (c ++ [aa .u32 ((wFu ((wFu (g + i)) + d)).tmod 1000000000)]).length 1) (ws := [(0, .dead), (2, .own ((c ++ [aa .u32 ((wFu ((wFu (g + i)) + d)).tmod 1000000000)]).flatMap iCu))]) (tr (eJ (new := [br (aa .u32 ((wFu ((wFu (g + i)) + d)).tmod 1000000000))]) (l := c) (xs := [aa .u32 ((wFu ((wFu (g + i)) + d)).tmod 1000000000)]) (aI .u32) rfl rfl (by kernel_rfl) A B)) (.mu 1 (.done (.nh [0, 1, 5, 7, 8] [.dead, .own [br (aa .u32 ((wFu ((wFu (g + i)) + d)).tmod 1000000000))], .own ((c ++ [aa .u32 ((wFu ((wFu (g + i)) + d)).tmod 1000000000)]).flatMap iCu)] (.ru G (.pop (.ru G ?_))))))))
   exact aA (c ++ [aa .u32 ((wFu ((wFu (g + i)) + d)).tmod 1000000000)], wFu ((wFu ((wFu (g + i)) + d)).tdiv 1000000000), EN (o + 1)) hr ((Wk.gc [0, 1, 5, 6, 7] [(2, false)] rfl (pKo iCu (aE _) (c ++ [aa .u32 ((wFu ((wFu (g + i)) + d)).tmod 1000000000)]) trivial)).to)
  replace hr := bX p hr
  refine .r0 G (.mu 3 (.p0 (v := aB false) (eB p) (.mu 6 (.done (.nh [0, 1, 5, 6, 7, 19] [.own (c.flatMap iCu)] ?_)))))
  refine .cd hr ?_ ?_ <;> intro J hr
  ·refine .skip (.seq (.block (.seq ?_)))
   obtain ⟨j, w, k, y, hr⟩ := bd2 hr
   refine .gn G (ca1 (ok0 (bY n a o j w)) (ca3 (ok0 (bY n b o k y)))) (.mu 2 (.ca cf0 (.mu 2 (.ca (cfA (fun h => by rw [sv y w (eS n h)]) cf0) (.mu 4 (.done (.nh [0, 1, 5, 7, 8] [.own (c.flatMap iCu)] (.seq ?_))))))))
   obtain ⟨C, D, hr⟩ := gd2 hr
   refine .r0 G (.mu 5 (.e0 (v := .hs 2 0 (c ++ [aa .u32 ((wFu ((wFu (j + k)) + d)).tmod 1000000000)]).length 1) (ws := [(0, .dead), (2, .own ((c ++ [aa .u32 ((wFu ((wFu (j + k)) + d)).tmod 1000000000)]).flatMap iCu))]) (tr (eJ (new := [br (aa .u32 ((wFu ((wFu (j + k)) + d)).tmod 1000000000))]) (l := c) (xs := [aa .u32 ((wFu ((wFu (j + k)) + d)).tmod 1000000000)]) (aI .u32) rfl rfl (by kernel_rfl) C D)) (.mu 1 (.done (.nh [0, 1, 5, 7, 8] [.dead, .own [br (aa .u32 ((wFu ((wFu (j + k)) + d)).tmod 1000000000))], .own ((c ++ [aa .u32 ((wFu ((wFu (j + k)) + d)).tmod 1000000000)]).flatMap iCu)] (.ru G (.pop (.ru G ?_))))))))
   exact aA (c ++ [aa .u32 ((wFu ((wFu (j + k)) + d)).tmod 1000000000)], wFu ((wFu ((wFu (j + k)) + d)).tdiv 1000000000), EN (o + 1)) hr ((Wk.gc [0, 1, 5, 6, 7] [(2, false)] rfl (pKo iCu (aE _) (c ++ [aa .u32 ((wFu ((wFu (j + k)) + d)).tmod 1000000000)]) trivial)).to)
  refine .leave rfl ?_
  obtain rfl := oi hr
  exact ⟨rfl, ((Wk.gc [5, 6] [(0, false)] rfl (pKo iCu (aE _) c trivial)).to)⟩
 rcases z with ⟨f, e⟩
 rintro x st' q
 clear s
 obtain ⟨rfl, q⟩ := q
 refine aV _ rfl (.wk q (.seq ?_))
 obtain ⟨E, F, hr⟩ := gd2 hr
 obtain ⟨H, I, hr⟩ := bd hr
 refine .gn G (ca4 [.dead, .own [br (aa .u32 e)], .own ((f ++ [aa .u32 e]).flatMap iCu)] (cK (args := [aB false, .hs 2 0 (f ++ [aa .u32 e]).length 1]) (l := [2]) (Sp (SnL.cons (Sn.hs rfl (.inl rfl) (SnC.pure (aZ (aE _) _)) (fun h => cB h)) SnL.nil)) (aX n false (f ++ [aa .u32 e]) H I))) (.mu 4 (.e0 (v := .hs 2 0 (f ++ [aa .u32 e]).length 1) (ws := [(0, .dead), (2, .own ((f ++ [aa .u32 e]).flatMap iCu))]) (tr (eJ (new := [br (aa .u32 e)]) (l := f) (xs := [aa .u32 e]) (aI .u32) rfl rfl (by kernel_rfl) E F)) (.ca cf0 (.mu 2 (.done (.ret ?_))))))
 obtain rfl := oi hr
 exact aF.r1 [aC H.Groups]

theorem mf (n : Nat) (q : ai) (y : ai) (r : ai) (hr : fI n q y = some r) : aM Tryz.prog 116 [.agg (ai.c q), .agg (ai.c y)] (.agg (ai.c r)) := by
 unfold fI at hr
 refine aM.bd G Tryz.func116 [.cell 4 40] ?_
 unfold Tryz.f116
 simp only [gS]
 refine .seq (.r2 G 44 [(2, .hp 0 0), (3, .hp 1 0), (4, .hp 2 0)] [.own (ai.c q), .own (ai.c y), .own [aB false, nS]] (.seq ?_))
 obtain ⟨a, f, b, g, hr⟩ := bd2 hr
 refine .tn G (ca1 (ok0 (b9 n q a f)) (ca3 (ok0 (b9 n y b g)))) (.mu 1 (.ca cf0 (.mu 1 (.ca (cfA (fun h => by rw [sv g f (fZ n h)]) cf0) (.mu 2 ?_)))))
 refine .done ⟨by kernel_rfl, ?_⟩
 refine .nh [2, 3, 4] [.own (ai.c a), .own (ai.c b), .own [aB false, nS]] (.seq (.seq (.r4 G [2, 3, 4] [(13, aB (a.Negative == b.Negative))] ?_)))
 refine .cd hr ?_ ?_ <;> intro z hr
 ·refine .seq ?_
  obtain ⟨w, s, t, u, hr⟩ := bd2 hr
  refine .tn G (ca1 (ok0 (qa n a.Groups b.Groups w s)) (ca3 (ok0 (aX n a.Negative w t u)))) (.mu 6 (.ca cf0 (.ca (cfF cf0) (.mu 1 ?_))))
  refine .done ⟨by kernel_rfl, ?_⟩
  refine .nh [4] [.own (ai.c a), .own (ai.c b), .own (ai.c t)] (.ret ?_)
  obtain rfl := oi hr
  exact aF.r1 [.agg (ai.c t)]
 refine .skip (.seq (.seq ?_))
 obtain ⟨v, i, hr⟩ := bd hr
 refine .g1 G (ok0 (jn n a.Groups b.Groups v i)) (.mu 4 (.ca cf0 (.mu 1 (.done (.nh [2, 3, 4, 27] [.own (ai.c a), .own (ai.c b), .own [aB false, nS]] ?_)))))
 refine .cd hr ?_ ?_ <;> intro x hr
 ·refine .seq ?_
  obtain ⟨j, k, d, l, hr⟩ := bd2 hr
  refine .tn G (ca1 (ok0 (fX n a.Groups b.Groups j k)) (ca3 (ok0 (aX n a.Negative j d l)))) (.mu 6 (.ca cf0 (.ca (cfF cf0) (.mu 1 ?_))))
  refine .done ⟨by kernel_rfl, ?_⟩
  refine .nh [4] [.own (ai.c a), .own (ai.c b), .own (ai.c d)] (.ret ?_)
  obtain rfl := oi hr
  exact aF.r1 [.agg (ai.c d)]
 refine .skip (.seq ?_)
 obtain ⟨m, o, e, p, hr⟩ := bd2 hr
 refine .tn G (ca1 (ok0 (fX n b.Groups a.Groups m o)) (ca3 (ok0 (aX n b.Negative m e p)))) (.mu 6 (.ca cf0 (.ca (cfF cf0) (.mu 1 ?_))))
 refine .done ⟨by kernel_rfl, ?_⟩
 refine .nh [4] [.own (ai.c a), .own (ai.c b), .own (ai.c e)] (.ret ?_)
 obtain rfl := oi hr
 exact aF.r1 [.agg (ai.c e)]

theorem fA (n : Nat) (a : ai) (y : ai) (r : ai) (hr : cW n a y = some r) : aM Tryz.prog 151 [.agg (ai.c a), .agg (ai.c y)] (.agg (ai.c r)) := by
 unfold cW at hr
 refine aM.bd G Tryz.func151 [.cell 4 40] ?_
 unfold Tryz.f151
 simp only [gS]
 refine .seq (.r2 G 9 [(2, .hp 0 0), (3, .hp 1 0), (4, .hp 2 0)] [.own (ai.c a), .own (ai.c y), .own [aB false, nS]] (.seq ?_))
 obtain ⟨f, b, d, e, hr⟩ := bd2 hr
 refine .tn G (ca1 (ok0 (jI n y f b)) (ca3 (ok0 (mf n a f d e)))) (.mu 2 (.ca cf0 (.ca (cfF cf0) (.mu 1 ?_))))
 refine .done ⟨by kernel_rfl, ?_⟩
 refine .nh [4] [.own (ai.c a), .own (ai.c y), .own (ai.c d)] (.ret ?_)
 obtain rfl := oi hr
 exact aF.r1 [.agg (ai.c d)]

theorem gW (n : Nat) {b : ai} {y : ai} {a : ai} {d : ai} (h : ([.agg (ai.c b), .agg (ai.c y)] : List AV) = [.agg (ai.c a), .agg (ai.c d)]) : bI n b y = bI n a d := by
 obtain ⟨rfl, rfl⟩ := pT h
 rfl
theorem c5 (n : Nat) (J : ai) (y : ai) (r : ai) (hr : bI n J y = some r) : aM Tryz.prog 87 [.agg (ai.c J), .agg (ai.c y)] (.agg (ai.c r)) := by
 unfold bI at hr
 refine aM.bd G Tryz.func87 [.cell 4 40] ?_
 unfold Tryz.f87
 simp only [gS]
 refine .seq (.r2 G 85 [(2, .hp 0 0), (3, .hp 1 0), (4, .hp 2 0)] [.own (ai.c J), .own (ai.c y), .own [aB false, nS]] (.seq ?_))
 obtain ⟨i, E, f, F, hr⟩ := bd2 hr
 refine .tn G (ca1 (ok0 (b9 n J i E)) (ca3 (ok0 (b9 n y f F)))) (.mu 1 (.ca cf0 (.mu 1 (.ca (cfA (fun h => by rw [sv F E (fZ n h)]) cf0) (.mu 2 ?_)))))
 refine .done ⟨by kernel_rfl, ?_⟩
 refine .nh [2, 3, 4] [.own (ai.c i), .own (ai.c f), .own [aB false, nS]] (.seq ?_)
 obtain ⟨L, M, N, hr⟩ := gd3 hr
 refine .r0 G (.mu 7 (.e0 (v := .hs 3 0 (List.replicate (EN ((i.Groups.length : Int) + (f.Groups.length : Int))).toNat ((0 : Int) : Int)).length 1) (ws := [(3, .own ((List.replicate (EN ((i.Groups.length : Int) + (f.Groups.length : Int))).toNat ((0 : Int) : Int)).flatMap iCu))]) (tr (mc (c := iCu) (z := (0 : Int)) (n := EN ((i.Groups.length : Int) + (f.Groups.length : Int))) (by_ := 4) rfl L M N)) (.mu 1 (.done (.nh [2, 3, 4, 5] [.own (ai.c i), .own (ai.c f), .own [aB false, nS], .own ((List.replicate (EN ((i.Groups.length : Int) + (f.Groups.length : Int))).toNat ((0 : Int) : Int)).flatMap iCu)] (.seq (.seq (.r4 G [2, 3, 4, 5] [(6, aj 0)] (.block ?_)))))))))
 replace hr := bd hr; obtain ⟨o, w, hr⟩ := hr
 refine .aL (σ := fun O => match O with | (q, d) => ⟨mkS 85 0 [(2, .hp 0 0), (3, .hp 1 0), (4, .hp 2 0), (5, .hs 3 0 q.length 1), (6, aj d)], [.own (ai.c i), .own (ai.c f), .own [aB false, nS], .own (q.flatMap iCu)]⟩) (Q := fun x st' => x = .exit 0 /\ Wk 0 st' ⟨mkS 85 0 [(2, .hp 0 0), (3, .hp 1 0), (4, .hp 2 0), (5, .hs 3 0 o.length 1)], [.own (ai.c i), .own (ai.c f), .own [aB false, nS], .own (o.flatMap iCu)]⟩) w ((Wk.gc [2, 3, 4, 5, 6] [(0, true), (1, true), (2, true), (3, false)] rfl (pKt (pKt (pKt (pKo iCu (aE _) (List.replicate (EN ((i.Groups.length : Int) + (f.Groups.length : Int))).toNat ((0 : Int) : Int)) trivial))))).to) ?_ ?_
 ·clear hr
  rintro m ⟨q, d⟩ hr
  show CQ _ _ _ _ _ ⟨_, _⟩
  refine .seq (.seq (.r4 G [2, 3, 4, 5, 6] [(26, aB (decide (d < (i.Groups.length : Int))))] ?_))
  refine .cd hr ?_ ?_ <;> intro R hr
  ·refine .skip (.seq (.block (.seq (.r4 G [2, 3, 4, 5, 6] [(7, cP 0)] (.seq (.seq (.r4 G [2, 3, 4, 5, 6, 7] [(8, aj 0)] (.block ?_))))))))
   replace hr := bd hr; obtain ⟨H, A, hr⟩ := hr
   refine .aL (σ := fun O => match O with | (e, g, a) => ⟨mkS 85 0 [(2, .hp 0 0), (3, .hp 1 0), (4, .hp 2 0), (5, .hs 3 0 e.length 1), (6, aj d), (7, cP g), (8, aj a)], [.own (ai.c i), .own (ai.c f), .own [aB false, nS], .own (e.flatMap iCu)]⟩) (Q := fun x st' => match (generalizing := false) H with | (j, k) => x = .exit 2 /\ Wk 0 st' ⟨mkS 85 0 [(2, .hp 0 0), (3, .hp 1 0), (4, .hp 2 0), (5, .hs 3 0 j.length 1), (6, aj d), (7, cP k)], [.own (ai.c i), .own (ai.c f), .own [aB false, nS], .own (j.flatMap iCu)]⟩) A ((Wk.gc [2, 3, 4, 5, 6, 7, 8] [(0, true), (1, true), (2, true), (3, false)] rfl (pKt (pKt (pKt (pKo iCu (aE _) q trivial))))).to) ?_ ?_
   ·clear hr
    rintro m ⟨e, g, a⟩ hr
    show CQ _ _ _ _ _ ⟨_, _⟩
    refine .seq (.seq (.r4 G [2, 3, 4, 5, 6, 7, 8] [(33, aB (decide (a < (f.Groups.length : Int))))] ?_))
    refine .cd hr ?_ ?_ <;> intro S hr
    ·refine .skip (.seq (.block (.seq ?_)))
     obtain ⟨p, B, C, hr⟩ := gd3 hr
     refine .ei G bL (.mu 4 (.pk (v := .hp 3 (0 + (EN (d + a)).toNat * 1)) (tr (au p)) (.pk (v := br (gt e (EN (d + a)))) (tr (aH (aK (aI .u32) (aD p) z1 (by omega : 0 + (EN (d + a)).toNat * 1 = (EN (d + a)).toNat * 1 + 0) (by kernel_rfl)))) (.mu 4 (.pk (v := .pp (i.Groups.flatMap iCu) (d.toNat * 1)) (tr (au B)) (.pk (v := br (gt i.Groups d)) (tr (aH (aK (aI .u32) (aD B) z1 (by omega : d.toNat * 1 = d.toNat * 1 + 0) (by kernel_rfl)))) (.mu 4 (.pk (v := .pp (f.Groups.flatMap iCu) (a.toNat * 1)) (tr (au C)) (.pk (v := br (gt f.Groups a)) (tr (aH (aK (aI .u32) (aD C) z1 (by omega : a.toNat * 1 = a.toNat * 1 + 0) (by kernel_rfl)))) (.mu 6 ?_))))))))))
     refine .done ⟨by kernel_rfl, ?_⟩
     refine .nh [2, 3, 4, 5, 6, 8, 9] [.own (ai.c i), .own (ai.c f), .own [aB false, nS], .own (e.flatMap iCu)] (.seq (.r0 G (.mu 7 (.p0 (v := .hp 3 (0 + (EN (d + a)).toNat * 1)) (tr (au p)) (.e0 (v := .unk) (ws := [(3, .own ((e.set (EN (d + a)).toNat (aa .u32 ((wFu ((wFu ((wFu (gt e (EN (d + a)))) + (wFu ((wFu (gt i.Groups d)) * (wFu (gt f.Groups a)))))) + g)).tmod 1000000000))).flatMap iCu))]) (tr (iE (iy (cx (n := 1) (aI .u32) (aD p) (lbT rfl) (by omega : 0 + (EN (d + a)).toNat * 1 = (EN (d + a)).toNat * 1 + 0))) (congrArg Blk.own (cU (xs := [br (aa .u32 ((wFu ((wFu ((wFu (gt e (EN (d + a)))) + (wFu ((wFu (gt i.Groups d)) * (wFu (gt f.Groups a)))))) + g)).tmod 1000000000))]) (aI .u32) (aD p) (lbT rfl) (by omega : 0 + (EN (d + a)).toNat * 1 = (EN (d + a)).toNat * 1 + 0) (by kernel_rfl))))) (.done (.nh [2, 3, 4, 5, 6, 8, 9] [.own (ai.c i), .own (ai.c f), .own [aB false, nS], .own ((e.set (EN (d + a)).toNat (aa .u32 ((wFu ((wFu ((wFu (gt e (EN (d + a)))) + (wFu ((wFu (gt i.Groups d)) * (wFu (gt f.Groups a)))))) + g)).tmod 1000000000))).flatMap iCu)] (.ru G (.pop (.ru G ?_))))))))))
     exact aA (e.set (EN (d + a)).toNat (aa .u32 ((wFu ((wFu ((wFu (gt e (EN (d + a)))) + (wFu ((wFu (gt i.Groups d)) * (wFu (gt f.Groups a)))))) + g)).tmod 1000000000)), wFu ((wFu ((wFu ((wFu (gt e (EN (d + a)))) + (wFu ((wFu (gt i.Groups d)) * (wFu (gt f.Groups a)))))) + g)).tdiv 1000000000), EN (a + 1)) hr ((Wk.iG 5 (b := 3) (es := 1) (len := e.length) (e.set (EN (d + a)).toNat (aa .u32 ((wFu ((wFu ((wFu (gt e (EN (d + a)))) + (wFu ((wFu (gt i.Groups d)) * (wFu (gt f.Groups a)))))) + g)).tmod 1000000000))).length (by kernel_rfl) (Eq.symm (List.length_set.trans rfl))).trans ((Wk.gc [2, 3, 4, 5, 6, 7, 8] [(0, true), (1, true), (2, true), (3, false)] rfl (pKt (pKt (pKt (pKo iCu (aE _) (e.set (EN (d + a)).toNat (aa .u32 ((wFu ((wFu ((wFu (gt e (EN (d + a)))) + (wFu ((wFu (gt i.Groups d)) * (wFu (gt f.Groups a)))))) + g)).tmod 1000000000))) trivial))))).to))
    refine .leave rfl ?_
    obtain rfl := oi hr
    exact ⟨rfl, ((Wk.gc [2, 3, 4, 5, 6, 7] [(0, true), (1, true), (2, true), (3, false)] rfl (pKt (pKt (pKt (pKo iCu (aE _) e trivial))))).to)⟩
   rcases H with ⟨j, k⟩
   rintro x st' s
   clear A
   obtain ⟨rfl, s⟩ := s
   refine aV _ rfl (.wk s ?_)
   obtain ⟨t, hr⟩ := gd hr
   refine .r0 G (.mu 8 (.p0 (v := .hp 3 (0 + (EN (d + (f.Groups.length : Int))).toNat * 1)) (tr (au t)) (.e0 (v := .unk) (ws := [(3, .own ((j.set (EN (d + (f.Groups.length : Int))).toNat (aa .u32 k)).flatMap iCu))]) (tr (iE (iy (cx (n := 1) (aI .u32) (aD t) (lbT rfl) (by omega : 0 + (EN (d + (f.Groups.length : Int))).toNat * 1 = (EN (d + (f.Groups.length : Int))).toNat * 1 + 0))) (congrArg Blk.own (cU (xs := [br (aa .u32 k)]) (aI .u32) (aD t) (lbT rfl) (by omega : 0 + (EN (d + (f.Groups.length : Int))).toNat * 1 = (EN (d + (f.Groups.length : Int))).toNat * 1 + 0) (by kernel_rfl))))) (.done (.pop (.ru G ?_))))))
   exact aA (j.set (EN (d + (f.Groups.length : Int))).toNat (aa .u32 k), EN (d + 1)) hr ((Wk.iG 5 (b := 3) (es := 1) (len := j.length) (j.set (EN (d + (f.Groups.length : Int))).toNat (aa .u32 k)).length (by kernel_rfl) (Eq.symm (List.length_set.trans rfl))).trans ((Wk.gc [2, 3, 4, 5, 6] [(0, true), (1, true), (2, true), (3, false)] rfl (pKt (pKt (pKt (pKo iCu (aE _) (j.set (EN (d + (f.Groups.length : Int))).toNat (aa .u32 k)) trivial))))).to))
  refine .leave rfl ?_
  obtain rfl := oi hr
  exact ⟨rfl, ((Wk.gc [2, 3, 4, 5] [(0, true), (1, true), (2, true), (3, false)] rfl (pKt (pKt (pKt (pKo iCu (aE _) q trivial))))).to)⟩
 rintro x st' u
 clear w
 obtain ⟨rfl, u⟩ := u
 refine aV _ rfl (.wk u (.seq ?_))
 obtain ⟨D, I, hr⟩ := bd hr
 refine .g1 G (cK (args := [aB (i.Negative != f.Negative), .hs 3 0 o.length 1]) (l := [3]) (Sp (SnL.cons (Sn.hs rfl (.inl rfl) (SnC.pure (aZ (aE _) _)) (fun h => cB h)) SnL.nil)) (aX n (i.Negative != f.Negative) o D I)) (.mu 6 (.ca cf0 (.mu 1 (.done (.nh [4] [.own (ai.c i), .own (ai.c f), .own (ai.c D), .fix (o.flatMap iCu)] (.ret ?_))))))
 obtain rfl := oi hr
 exact aF.r1 [.agg (ai.c D)]

theorem fJ (n : Nat) (C : ai) (y : ai) (r : ai × ai × Int) (hr : cZ n C y = some r) : aM Tryz.prog 127 [.agg (ai.c C), .agg (ai.c y)] (.tup [.agg (ai.c r.1), .agg (ai.c r.2.1), aj r.2.2]) := by
 unfold cZ at hr
 refine aM.bd G Tryz.func127 [.cell 4 40, .cell 5 40, .tmp 6] ?_
 unfold Tryz.f127
 simp only [gS]
 refine .seq (.r2 G 54 [(2, .hp 0 0), (3, .hp 1 0), (4, .hp 2 0), (5, .hp 3 0)] [.own (ai.c C), .own (ai.c y), .own [aB false, nS], .own [aB false, nS]] (.seq ?_))
 obtain ⟨d, k, a, l, hr⟩ := bd2 hr
 refine .tn G (ca1 (ok0 (b9 n C d k)) (ca3 (ok0 (b9 n y a l)))) (.mu 1 (.ca cf0 (.mu 1 (.ca (cfA (fun h => by rw [sv l k (fZ n h)]) cf0) (.mu 2 ?_)))))
 refine .done ⟨by kernel_rfl, ?_⟩
 refine .nh [2, 3, 4, 5] [.own (ai.c d), .own (ai.c a), .own [aB false, nS], .own [aB false, nS]] (.seq (.seq (.r4 G [2, 3, 4, 5] [(17, aB (((a.Groups.length : Int) : Int) == 0))] ?_)))
 refine .cd hr ?_ ?_ <;> intro I hr
 ·refine .seq (.r4 G [4, 5] [(6, aj 14)] (.ret ?_))
  obtain rfl := oi hr
  exact aF.ret (vs := [.agg [aB false, nS], .agg [aB false, nS], aj 14]) (by kernel_rfl) (Sn.tup (SnL.cons (Sn.agg (Sp (SnL.cons Sn.dB SnL.nil))) (SnL.cons (Sn.agg (Sp (SnL.cons Sn.dB SnL.nil))) (Sp SnL.nil))))
 refine .skip (.seq ?_)
 obtain ⟨F, D, hr⟩ := bd hr
 refine .g1 G (ok0 (iU n d.Groups a.Groups F D)) (.mu 4 (.ca cf0 (.mu 5 (.done (.nh [2, 3, 4, 5, 7, 8] [.own (ai.c d), .own (ai.c a), .own [aB false, nS], .own [aB false, nS]] (.seq ?_))))))
 obtain ⟨e, E, hr⟩ := bd hr
 refine .g1 G (ok0 (aX n (d.Negative != a.Negative) F.1 e E)) (.mu 6 (.ca cf0 (.mu 2 (.done (.nh [2, 3, 4, 5, 8, 9] [.own (ai.c d), .own (ai.c a), .own [aB false, nS], .own [aB false, nS], .own (ai.c e)] (.seq (.seq ?_)))))))
 rcases bT (d.Negative != a.Negative) with b | b
 ·replace hr := b8 b hr
  refine .r0 G (.mu 4 (.p0 (v := aB true) (eB b) (.mu 5 (.done (.nh [2, 3, 4, 5, 9, 44] [.own (ai.c d), .own (ai.c a), .own [aB false, nS], .own [aB false, nS], .own (ai.c e)] ?_)))))
  refine .cd hr ?_ ?_ <;> intro H hr
  ·obtain ⟨m, o, f, p, hr⟩ := bd2 hr
   refine .tn G (ca1 (ok0 (mI n 1 m o)) (ca3 (ok0 (fA n e m f p)))) (.mu 1 (.ca cf0 (.ca (cfF cf0) (.mu 1 ?_))))
   refine .done ⟨by kernel_rfl, ?_⟩
   refine .nh [2, 3, 4, 5, 9] [.own (ai.c d), .own (ai.c a), .own [aB false, nS], .own [aB false, nS], .own (ai.c f)] (.seq ?_)
   obtain ⟨q, s, g, t, hr⟩ := bd2 hr
   refine .tn G (ca1 (ok0 (c5 n f a q s)) (ca3 (ok0 (fA n d q g t)))) (.mu 4 (.ca cf0 (.ca (cfF cf0) (.mu 3 ?_))))
   refine .done ⟨by kernel_rfl, ?_⟩
   refine .nh [4, 5, 6] [.own (ai.c d), .own (ai.c a), .own (ai.c f), .own (ai.c g), .own (ai.c f)] (.ret ?_)
   obtain rfl := oi hr
   exact aF.ret (vs := [.agg (ai.c f), .agg (ai.c g), aj 0]) (by kernel_rfl) (Sn.tup (Sp (Sp (Sp SnL.nil))))
  refine .skip (.seq ?_)
  obtain ⟨u, w, i, x, hr⟩ := bd2 hr
  refine .tn G (ca1 (ok0 (c5 n e a u w)) (ca3 (ok0 (fA n d u i x)))) (.mu 4 (.ca cf0 (.ca (cfF cf0) (.mu 3 ?_))))
  refine .done ⟨by kernel_rfl, ?_⟩
  refine .nh [4, 5, 6] [.own (ai.c d), .own (ai.c a), .own (ai.c e), .own (ai.c i), .own (ai.c e)] (.ret ?_)
  obtain rfl := oi hr
  exact aF.ret (vs := [.agg (ai.c e), .agg (ai.c i), aj 0]) (by kernel_rfl) (Sn.tup (Sp (Sp (Sp SnL.nil))))
 replace hr := bX b hr
 refine .r0 G (.mu 4 (.p0 (v := aB false) (eB b) (.mu 5 (.done (.nh [2, 3, 4, 5, 9, 44] [.own (ai.c d), .own (ai.c a), .own [aB false, nS], .own [aB false, nS], .own (ai.c e)] (.cF (by kernel_rfl) (.skip (.seq ?_))))))))
 obtain ⟨z, A, j, B, hr⟩ := bd2 hr
 refine .tn G (ca1 (ok0 (c5 n e a z A)) (ca3 (ok0 (fA n d z j B)))) (.mu 4 (.ca cf0 (.ca (cfF cf0) (.mu 3 ?_))))
 refine .done ⟨by kernel_rfl, ?_⟩
 refine .nh [4, 5, 6] [.own (ai.c d), .own (ai.c a), .own (ai.c e), .own (ai.c j), .own (ai.c e)] (.ret ?_)
 obtain rfl := oi hr
 exact aF.ret (vs := [.agg (ai.c e), .agg (ai.c j), aj 0]) (by kernel_rfl) (Sn.tup (Sp (Sp (Sp SnL.nil))))

theorem ib (n : Nat) (num : ai) (den : ai) (r : ak) (hr : dk n num den = some r) : aM Tryz.prog 86 [.agg (ai.c num), .agg (ai.c den)] (.agg (ak.c r)) := by
 unfold dk at hr
 refine aM.bd G Tryz.func86 [.cell 4 42] ?_
 unfold Tryz.f86
 simp only [gS]
 refine .seq (.r2 G 37 [(2, .hp 0 0), (3, .hp 1 0), (4, .hp 2 0)] [.own (ai.c num), .own (ai.c den), .own zN2] (.seq ?_))
 obtain ⟨f, k, hr⟩ := bd hr
 refine .g1 G (ok0 (mq n num den f k)) (.mu 2 (.ca cf0 (.mu 2 (.done (.nh [2, 3, 4, 5] [.own (ai.c num), .own (ai.c den), .own zN2, .own (ai.c f)] (.seq (.seq ?_)))))))
 obtain ⟨p, l, hr⟩ := bd hr
 refine .g1 G (ok0 (fg n den p l)) (.mu 1 (.ca cf0 (.mu 1 (.done (.nh [2, 3, 4, 5, 17] [.own (ai.c num), .own (ai.c den), .own zN2, .own (ai.c f)] ?_)))))
 refine .cd hr ?_ ?_ <;> intro q hr
 ·obtain ⟨g, m, hr⟩ := bd hr
  refine .g1 G (ok0 (jI n f g m)) (.mu 1 (.ca cf0 (.mu 1 (.done (.nh [2, 3, 4, 5] [.own (ai.c num), .own (ai.c den), .own zN2, .own (ai.c g)] (.seq ?_))))))
  obtain ⟨e, o, hr⟩ := bd hr
  refine .g1 G (ok0 (fJ n num g e o)) (.mu 2 (.ca cf0 (.mu 9 (.done (.nh [3, 4, 5, 6] [.own (ai.c num), .own (ai.c den), .own zN2, .own (ai.c g), .own (ai.c e.1), .own (ai.c e.2.1)] (.seq ?_))))))
  obtain ⟨b, h, hr⟩ := bd hr
  refine .g1 G (ok0 (fJ n den g b h)) (.mu 2 (.ca cf0 (.mu 9 (.done (.nh [4, 6, 9] [.own (ai.c num), .own (ai.c den), .own zN2, .own (ai.c g), .own (ai.c e.1), .own (ai.c e.2.1), .own (ai.c b.1), .own (ai.c b.2.1)] (.seq (.r5 G [4] [] [.own (ai.c num), .own (ai.c den), .own [aB e.1.Negative, aC e.1.Groups, aB b.1.Negative, aC b.1.Groups], .own (ai.c g), .own (ai.c e.1), .own (ai.c e.2.1), .own (ai.c b.1), .own (ai.c b.2.1)] (.ret ?_))))))))
  obtain rfl := oi hr
  exact aF.r1 [.agg [aB e.1.Negative, aC e.1.Groups, aB b.1.Negative, aC b.1.Groups]]
 refine .skip (.seq ?_)
 obtain ⟨a, i, hr⟩ := bd hr
 refine .g1 G (ok0 (fJ n num f a i)) (.mu 2 (.ca cf0 (.mu 9 (.done (.nh [3, 4, 5, 6] [.own (ai.c num), .own (ai.c den), .own zN2, .own (ai.c f), .own (ai.c a.1), .own (ai.c a.2.1)] (.seq ?_))))))
 obtain ⟨d, j, hr⟩ := bd hr
 refine .g1 G (ok0 (fJ n den f d j)) (.mu 2 (.ca cf0 (.mu 9 (.done (.nh [4, 6, 9] [.own (ai.c num), .own (ai.c den), .own zN2, .own (ai.c f), .own (ai.c a.1), .own (ai.c a.2.1), .own (ai.c d.1), .own (ai.c d.2.1)] (.seq (.r5 G [4] [] [.own (ai.c num), .own (ai.c den), .own [aB a.1.Negative, aC a.1.Groups, aB d.1.Negative, aC d.1.Groups], .own (ai.c f), .own (ai.c a.1), .own (ai.c a.2.1), .own (ai.c d.1), .own (ai.c d.2.1)] (.ret ?_))))))))
 obtain rfl := oi hr
 exact aF.r1 [.agg [aB a.1.Negative, aC a.1.Groups, aB d.1.Negative, aC d.1.Groups]]

theorem qF (n : Nat) (num : ai) (den : ai) (r : ak × Int) (hr : kF n num den = some r) : aM Tryz.prog 82 [.agg (ai.c num), .agg (ai.c den)] (.tup [.agg (ak.c r.1), aj r.2]) := by
 unfold kF at hr
 refine aM.bd G Tryz.func82 [.cell 4 42, .tmp 5] ?_
 unfold Tryz.f82
 simp only [gS]
 refine .seq (.r2 G 13 [(2, .hp 0 0), (3, .hp 1 0), (4, .hp 2 0)] [.own (ai.c num), .own (ai.c den), .own zN2] (.seq (.seq ?_)))
 obtain ⟨e, a, hr⟩ := bd hr
 refine .g1 G (ok0 (fg n den e a)) (.mu 1 (.ca cf0 (.mu 1 (.done (.nh [2, 3, 4, 8] [.own (ai.c num), .own (ai.c den), .own zN2] ?_)))))
 refine .cd hr ?_ ?_ <;> intro f hr
 ·refine .seq (.r4 G [4] [(5, aj 14)] (.ret ?_))
  obtain rfl := oi hr
  exact aF.ret (vs := [.agg zN2, aj 14]) (by kernel_rfl) (Sn.tup (SnL.cons (Sn.agg (Sp (SnL.cons Sn.dB (Sp (SnL.cons Sn.dB SnL.nil))))) (Sp SnL.nil)))
 refine .skip (.seq ?_)
 obtain ⟨b, d, hr⟩ := bd hr
 refine .g1 G (ok0 (ib n num den b d)) (.mu 2 (.ca cf0 (.mu 2 (.done (.nh [4, 5] [.own (ai.c num), .own (ai.c den), .own (ak.c b)] (.ret ?_))))))
 obtain rfl := oi hr
 exact aF.ret (vs := [.agg (ak.c b), aj 0]) (by kernel_rfl) (Sn.tup (Sp (Sp SnL.nil)))

theorem q9 (n : Nat) (f : Int) (d : Int) (r : ak × Int) (hr : lR n f d = some r) : aM Tryz.prog 36 [aj f, aj d] (.tup [.agg (ak.c r.1), aj r.2]) := by
 unfold lR at hr
 refine aM.bd G Tryz.func36 [.cell 4 42, .tmp 5] ?_
 unfold Tryz.f36
 simp only [gS]
 refine .seq (.r5 G [0, 1] [(4, .hp 0 0)] [.own zN2] (.seq ?_))
 obtain ⟨i, a, j, b, e, g, hr⟩ := bd3 hr
 refine .gn G (ca1 (ok0 (eP n f i a)) (ca1 (ok0 (eP n d j b)) (ca3 (ok0 (qF n i j e g))))) (.mu 1 (.ca cf0 (.mu 1 (.ca (cfA (fun h => by rw [sv b a (kI n h)]) cf0) (.ca (cfF (cfF cf0)) (.mu 4 (.done (.nh [4, 5] [.own (ak.c e.1)] (.ret ?_)))))))))
 obtain rfl := oi hr
 exact aF.ret (vs := [.agg (ak.c e.1), aj e.2]) (by kernel_rfl) (Sn.tup (Sp (Sp SnL.nil)))

theorem oq (n : Nat) (a : ai) (y : ai) (r : Int) (hr : dj n a y = some r) : aM Tryz.prog 114 [.agg (ai.c a), .agg (ai.c y)] (aj r) := by
 unfold dj at hr
 refine aM.bd G Tryz.func114 [.tmp 4] ?_
 unfold Tryz.f114
 simp only [gS]
 refine .seq (.r2 G 9 [(2, .hp 0 0), (3, .hp 1 0)] [.own (ai.c a), .own (ai.c y)] (.seq ?_))
 obtain ⟨e, b, f, d, hr⟩ := bd2 hr
 refine .gn G (ca1 (ok0 (fA n a y e b)) (ca3 (ok0 (fg n e f d)))) (.mu 2 (.ca cf0 (.ca (cfF cf0) (.mu 1 (.done (.ret ?_))))))
 obtain rfl := oi hr
 exact aF.r1 [aj f]

theorem lf (n : Nat) {b : ak} {a : ak} (h : ([.agg (ak.c b)] : List AV) = [.agg (ak.c a)]) : bu n b = bu n a := by
 obtain rfl := iR h
 rfl
theorem c7 (n : Nat) (a : ak) (r : Bool) (hr : bu n a = some r) : aM Tryz.prog 69 [.agg (ak.c a)] (aB r) := by
 unfold bu at hr
 refine aM.bd G Tryz.func69 [.tmp 2] ?_
 unfold Tryz.f69
 simp only [gS]
 refine .seq (.r2 G 27 [(1, .hp 0 0)] [.own (ak.c a)] (.seq (.seq ?_)))
 obtain ⟨o, d, hr⟩ := bd hr
 rcases bT (!o) with b | b
 ·replace hr := b8 b hr
  refine .g1 G (ok0 (dP n a.Num o d)) (.mu 2 (.ca cf0 (.p0 (v := aB true) (eB b) (.mu 12 (.done (.nh [1, 18] [.own (ak.c a)] (.cT (by kernel_rfl) (.seq (.ru G (.ret ?_))))))))))
  obtain rfl := oi hr
  exact aF.r1 [aB false]
 replace hr := bX b hr
 obtain ⟨p, f, hr⟩ := bd hr
 rcases bT (!p) with e | e
 ·replace hr := b8 e hr
  refine .gn G (ca1 (ok0 (dP n a.Num o d)) (ca3 (ok0 (dP n a.Den p f)))) (.mu 2 (.ca cf0 (.p0 (v := aB false) (eB b) (.mu 3 (.ca (cfA (fun h => by rw [sv f d (kU n h)]) cf0) (.pure (v := aB true) (by kernel_rfl) (eB e) (.mu 7 (.done (.nh [1, 18] [.own (ak.c a)] (.cT (by kernel_rfl) (.seq (.ru G (.ret ?_)))))))))))))
  obtain rfl := oi hr
  exact aF.r1 [aB false]
 replace hr := bX e hr
 obtain ⟨s, q, hr⟩ := bd hr
 refine .gn G (ca1 (ok0 (dP n a.Num o d)) (ca1 (ok0 (dP n a.Den p f)) (ca3 (ok0 (fg n a.Den s q))))) (.mu 2 (.ca cf0 (.p0 (v := aB false) (eB b) (.mu 3 (.ca (cfA (fun h => by rw [sv f d (kU n h)]) cf0) (.pure (v := aB false) (by kernel_rfl) (eB e) (.mu 4 (.ca (cfF (cfF cf0)) (.mu 2 (.done (.nh [1, 18] [.own (ak.c a)] ?_)))))))))))
 refine .cd hr ?_ ?_ <;> intro t hr
 ·refine .seq (.ru G (.ret ?_))
  obtain rfl := oi hr
  exact aF.r1 [aB false]
 refine .skip (.seq ?_)
 obtain ⟨g, i, j, k, l, m, hr⟩ := bd3 hr
 refine .gn G (ca1 (ok0 (mq n a.Num a.Den g i)) (ca1 (ok0 (eP n 1 j k)) (ca3 (ok0 (oq n g j l m))))) (.mu 4 (.ca cf0 (.ca (cfF cf0) (.ca (cfF (cfF cf0)) (.mu 2 (.done (.ret ?_)))))))
 obtain rfl := oi hr
 exact aF.r1 [aB ((l : Int) == 0)]

theorem pr (n : Nat) {b : Int} {a : Int} (h : ([.at (.int .i64 b)] : List AV) = [.at (.int .i64 a)]) : bJ n b = bJ n a := by
 obtain rfl := dW h
 rfl
theorem fU (n : Nat) (f : Int) (r : ak) (hr : bJ n f = some r) : aM Tryz.prog 65 [aj f] (.agg (ak.c r)) := by
 unfold bJ at hr
 refine aM.bd G Tryz.func65 [.cell 2 42] ?_
 unfold Tryz.f65
 simp only [gS]
 refine .seq (.r5 G [0] [(2, .hp 0 0)] [.own zN2] (.seq ?_))
 obtain ⟨a, b, d, e, hr⟩ := bd2 hr
 refine .gn G (ca1 (ok0 (eP n f a b)) (ca3 (ok0 (eP n 1 d e)))) (.mu 1 (.ca cf0 (.ca (cfA (fun h => by rw [sv e b (kI n h)]) cf0) (.mu 2 (.done (.nh [2] [.own [aB a.Negative, aC a.Groups, aB d.Negative, aC d.Groups]] (.ret ?_)))))))
 obtain rfl := oi hr
 exact aF.r1 [.agg [aB a.Negative, aC a.Groups, aB d.Negative, aC d.Groups]]

theorem dT (n : Nat) (a : ak) (r : ak) (hr : cG n a = some r) : aM Tryz.prog 85 [.agg (ak.c a)] (.agg (ak.c r)) := by
 unfold cG at hr
 refine aM.bd G Tryz.func85 [.cell 2 42] ?_
 unfold Tryz.f85
 simp only [gS]
 refine .seq (.r2 G 7 [(1, .hp 0 0), (2, .hp 1 0)] [.own (ak.c a), .own zN2] (.seq (.seq ?_)))
 obtain ⟨f, b, hr⟩ := bd hr
 refine .g1 G (ok0 (c7 n a f b)) (.mu 1 (.ca cf0 (.done (.nh [1, 2, 4] [.own (ak.c a), .own zN2] ?_))))
 refine .cd hr ?_ ?_ <;> intro g hr
 ·refine .seq (.r5 G [2] [] [.own (ak.c a), .own (ak.c a)] (.ret ?_))
  obtain rfl := oi hr
  exact aF.r1 [.agg (ak.c a)]
 refine .skip (.seq ?_)
 obtain ⟨d, e, hr⟩ := bd hr
 refine .g1 G (ok0 (fU n 0 d e)) (.ca cf0 (.mu 1 (.done (.nh [2] [.own (ak.c a), .own (ak.c d)] (.ret ?_)))))
 obtain rfl := oi hr
 exact aF.r1 [.agg (ak.c d)]

theorem qI (n : Nat) (b : ak) (r : ak) (hr : g9 n b = some r) : aM Tryz.prog 84 [.agg (ak.c b)] (.agg (ak.c r)) := by
 unfold g9 at hr
 refine aM.bd G Tryz.func84 [.cell 2 42] ?_
 unfold Tryz.f84
 simp only [gS]
 refine .seq (.r2 G 12 [(1, .hp 0 0), (2, .hp 1 0)] [.own (ak.c b), .own zN2] (.seq ?_))
 obtain ⟨a, e, hr⟩ := bd hr
 refine .g1 G (ok0 (dT n b a e)) (.mu 1 (.ca cf0 (.mu 2 (.done (.nh [2, 3] [.own (ak.c b), .own zN2, .own (ak.c a)] (.seq ?_))))))
 obtain ⟨d, f, hr⟩ := bd hr
 refine .t1 G (ok0 (jI n a.Num d f)) (.mu 2 (.ca cf0 (.mu 4 ?_)))
 refine .done ⟨by kernel_rfl, ?_⟩
 refine .nh [2] [.own (ak.c b), .own [aB d.Negative, aC d.Groups, aB a.Den.Negative, aC a.Den.Groups], .own (ak.c a)] (.ret ?_)
 obtain rfl := oi hr
 exact aF.r1 [.agg [aB d.Negative, aC d.Groups, aB a.Den.Negative, aC a.Den.Groups]]

theorem qn (n : Nat) {b : ak} {y : ak} {a : ak} {d : ak} (h : ([.agg (ak.c b), .agg (ak.c y)] : List AV) = [.agg (ak.c a), .agg (ak.c d)]) : bP n b y = bP n a d := by
 obtain ⟨rfl, rfl⟩ := gj h
 rfl
theorem jz (n : Nat) (b : ak) (y : ak) (r : ak) (hr : bP n b y = some r) : aM Tryz.prog 71 [.agg (ak.c b), .agg (ak.c y)] (.agg (ak.c r)) := by
 unfold bP at hr
 refine aM.bd G Tryz.func71 [.cell 4 42] ?_
 unfold Tryz.f71
 simp only [gS]
 refine .seq (.r2 G 28 [(2, .hp 0 0), (3, .hp 1 0), (4, .hp 2 0)] [.own (ak.c b), .own (ak.c y), .own zN2] (.seq ?_))
 obtain ⟨d, m, hr⟩ := bd hr
 refine .g1 G (ok0 (dT n b d m)) (.mu 1 (.ca cf0 (.mu 2 (.done (.nh [3, 4, 5] [.own (ak.c b), .own (ak.c y), .own zN2, .own (ak.c d)] (.seq ?_))))))
 obtain ⟨i, o, hr⟩ := bd hr
 refine .g1 G (ok0 (dT n y i o)) (.mu 1 (.ca cf0 (.mu 2 (.done (.nh [4, 5, 6] [.own (ak.c b), .own (ak.c y), .own zN2, .own (ak.c d), .own (ak.c i)] (.seq ?_))))))
 obtain ⟨p, e, q, f, s, j, hr⟩ := bd3 hr
 obtain ⟨k, a, g, l, hr⟩ := bd2 hr
 refine .tn G (ca1 (ok0 (c5 n d.Num i.Den p e)) (ca1 (ok0 (c5 n i.Num d.Den q f)) (ca1 (ok0 (mf n p q s j)) (ca1 (ok0 (c5 n d.Den i.Den k a)) (ca3 (ok0 (ib n s k g l))))))) (.mu 4 (.ca cf0 (.mu 4 (.ca (cfA (fun h => by rw [sv f e (gW n h)]) cf0) (.ca (cfF (cfF cf0)) (.mu 4 (.ca (cfA (fun h => by rw [sv a e (gW n h)]) (cfA (fun h => by rw [sv a f (gW n h)]) (cfF cf0))) (.ca (cfF (cfF (cfF (cfF cf0)))) (.mu 1 ?_)))))))))
 refine .done ⟨by kernel_rfl, ?_⟩
 refine .nh [4] [.own (ak.c b), .own (ak.c y), .own (ak.c g), .own (ak.c d), .own (ak.c i)] (.ret ?_)
 obtain rfl := oi hr
 exact aF.r1 [.agg (ak.c g)]

theorem jC (n : Nat) {b : ak} {y : ak} {a : ak} {d : ak} (h : ([.agg (ak.c b), .agg (ak.c y)] : List AV) = [.agg (ak.c a), .agg (ak.c d)]) : bf n b y = bf n a d := by
 obtain ⟨rfl, rfl⟩ := gj h
 rfl
theorem dE (n : Nat) (a : ak) (y : ak) (r : ak) (hr : bf n a y = some r) : aM Tryz.prog 37 [.agg (ak.c a), .agg (ak.c y)] (.agg (ak.c r)) := by
 unfold bf at hr
 refine aM.bd G Tryz.func37 [.cell 4 42] ?_
 unfold Tryz.f37
 simp only [gS]
 refine .seq (.r2 G 9 [(2, .hp 0 0), (3, .hp 1 0), (4, .hp 2 0)] [.own (ak.c a), .own (ak.c y), .own zN2] (.seq ?_))
 obtain ⟨f, b, d, e, hr⟩ := bd2 hr
 refine .tn G (ca1 (ok0 (qI n y f b)) (ca3 (ok0 (jz n a f d e)))) (.mu 2 (.ca cf0 (.ca (cfF cf0) (.mu 1 ?_))))
 refine .done ⟨by kernel_rfl, ?_⟩
 refine .nh [4] [.own (ak.c a), .own (ak.c y), .own (ak.c d)] (.ret ?_)
 obtain rfl := oi hr
 exact aF.r1 [.agg (ak.c d)]

theorem jo (n : Nat) (a : ak) (r : Int) (hr : cJ n a = some r) : aM Tryz.prog 70 [.agg (ak.c a)] (aj r) := by
 unfold cJ at hr
 refine aM.bd G Tryz.func70 [.tmp 2] ?_
 unfold Tryz.f70
 simp only [gS]
 refine .seq (.r2 G 7 [(1, .hp 0 0)] [.own (ak.c a)] (.seq ?_))
 obtain ⟨e, b, f, d, hr⟩ := bd2 hr
 refine .gn G (ca1 (ok0 (dT n a e b)) (ca3 (ok0 (fg n e.Num f d)))) (.mu 1 (.ca cf0 (.mu 1 (.ca (cfF cf0) (.mu 1 (.done (.ret ?_)))))))
 obtain rfl := oi hr
 exact aF.r1 [aj f]

theorem ik (n : Nat) {b : ak} {y : ak} {a : ak} {d : ak} (h : ([.agg (ak.c b), .agg (ak.c y)] : List AV) = [.agg (ak.c a), .agg (ak.c d)]) : aS n b y = aS n a d := by
 obtain ⟨rfl, rfl⟩ := gj h
 rfl
theorem b6 (n : Nat) (a : ak) (y : ak) (r : Int) (hr : aS n a y = some r) : aM Tryz.prog 38 [.agg (ak.c a), .agg (ak.c y)] (aj r) := by
 unfold aS at hr
 refine aM.bd G Tryz.func38 [.tmp 4] ?_
 unfold Tryz.f38
 simp only [gS]
 refine .seq (.r2 G 9 [(2, .hp 0 0), (3, .hp 1 0)] [.own (ak.c a), .own (ak.c y)] (.seq ?_))
 obtain ⟨e, b, f, d, hr⟩ := bd2 hr
 refine .gn G (ca1 (ok0 (dE n a y e b)) (ca3 (ok0 (jo n e f d)))) (.mu 2 (.ca cf0 (.ca (cfF cf0) (.mu 1 (.done (.ret ?_))))))
 obtain rfl := oi hr
 exact aF.r1 [aj f]

theorem lB (n : Nat) (d : ak) (y : ak) (r : Bool) (hr : km n d y = some r) : aM Tryz.prog 32 [.agg (ak.c d), .agg (ak.c y)] (aB r) := by
 unfold km at hr
 refine aM.bd G Tryz.func32 [.tmp 4] ?_
 unfold Tryz.f32
 simp only [gS]
 refine .seq (.r2 G 17 [(2, .hp 0 0), (3, .hp 1 0)] [.own (ak.c d), .own (ak.c y)] (.seq ?_))
 obtain ⟨j, a, hr⟩ := bd hr
 rcases bT j with e | e
 ·subst e
  replace hr := b8 rfl hr
  obtain ⟨k, b, hr⟩ := bd hr
  rcases bT k with f | f
  ·subst f
   replace hr := b8 rfl hr
   obtain ⟨i, g, hr⟩ := bd hr
   refine .gn G (ca1 (ok0 (c7 n d true a)) (ca1 (ok0 (c7 n y true b)) (ca3 (ok0 (b6 n d y i g))))) (.mu 1 (.ca cf0 (.mu 2 (.ca (cfA (fun h => by rw [sv b a (lf n h)]) cf0) (.mu 4 (.ca (cfF (cfF cf0)) (.mu 3 (.done (.ret ?_)))))))))
   obtain rfl := oi hr
   exact aF.r1 [aB ((i : Int) == 0)]
  subst f
  replace hr := bX rfl hr
  refine .gn G (ca1 (ok0 (c7 n d true a)) (ca3 (ok0 (c7 n y false b)))) (.mu 1 (.ca cf0 (.mu 2 (.ca (cfA (fun h => by rw [sv b a (lf n h)]) cf0) (.mu 8 (.done (.ret ?_)))))))
  obtain rfl := oi hr
  exact aF.r1 [aB false]
 subst e
 replace hr := bX rfl hr
 refine .g1 G (ok0 (c7 n d false a)) (.mu 1 (.ca cf0 (.mu 11 (.done (.ret ?_)))))
 obtain rfl := oi hr
 exact aF.r1 [aB false]

theorem ff (n : Nat) (a : Int) (r : List al) (hr : b7 n a = some r) : dU 0 Tryz.prog 131 [nS, aj a] [] (.hs 0 0 r.length 6) [.own (r.flatMap al.c)] := by
 unfold b7 at hr
 refine dU.kR G Tryz.func131 (c := (Tryz.f131.body).getD .skip) rfl (us := [.hs 0 0 r.length 6]) (s := mkS 27 0 [(0, nS), (1, aj a)]) (by kernel_rfl) (rs := [.tmp 4]) rfl ?_
 unfold Tryz.f131
 simp only [gS]
 refine .seq (.r4 G [0, 1] [] (.seq (.seq (.r4 G [0, 1] [(6, aB (decide (a < 0)))] ?_))))
 obtain ⟨g, hr⟩ := gdn hr
 refine .cN g (.skip (.seq (.seq (.r4 G [0] [(1, aj (EN (a - 0)))] (.seq (.r4 G [0, 1] [(16, aB (decide ((EN (a - 0)) > 0)))] ?_))))))
 refine .cd hr ?_ ?_ <;> intro h hr
 ·obtain ⟨b, d, e, hr⟩ := gd3 hr
  obtain ⟨f, hr⟩ := gd hr
  refine .r0 G (.mu 5 (.e0 (v := .hs 0 0 (EN (a - 0)).toNat 6) (ws := [(0, .own (ef [aj 0, aj 0, aB false, nS, aB false, nS] (EN (a - 0)).toNat))]) (tr (y := n8 (decide (0 < (EN (a - 0))) && decide ((EN (a - 0)) <= 4611686018427387904) && decide ((EN (a - 0)).toNat * 80 <= 140737488355328) && true && true && true) (some (.eff (.hs 0 0 (EN (a - 0)).toNat 6) [(0, .own (ef [aj 0, aj 0, aB false, nS, aB false, nS] (EN (a - 0)).toNat))]))) (Ai b d e)) (.mu 2 (.p0 (v := .hs 0 0 (0 : Int).toNat 6) (tr (y := slH (inS 0 0 (EN (a - 0)).toNat) true ((0 : Int).toNat) ((0 : Int).toNat) (fun z1 i => .hs 0 (0 + z1 * 6) (i - z1) 6)) (AL f (by kernel_rfl))) (.mu 1 (.done (.nh [0] [.own (ef [aj 0, aj 0, aB false, nS, aB false, nS] (EN (a - 0)).toNat)] (.wk ((Wk.mask [0]).trans ((Wk.cut 0 (cs := ef [aj 0, aj 0, aB false, nS, aB false, nS] (EN (a - 0)).toNat) 0 (by kernel_rfl)).to (c := ⟨mkS 27 0 [(0, .hs 0 0 ([] : List al).length 6)], [.own (([] : List al).flatMap al.c)]⟩) (by kernel_rfl))) (.seq (.r3 G 27 [(4, .hs 0 0 ([] : List al).length 6)] (.ret ?_)))))))))))
  obtain rfl := oi hr
  exact ee.ret [.hs 0 0 ([] : List al).length 6] ((Wk.gc [0] [(0, false)] rfl (pKo al.c al.pure ([] : List al) trivial)).to)
 refine .skip (.seq (.r3 G 27 [(4, nS)] (.ret ?_)))
 obtain rfl := oi hr
 exact ee.ret [nS] ((Wk.nil 0 6 (by kernel_rfl)).trans ((Wk.gc [0] [(0, false)] rfl (pKc trivial)).to))

theorem fe (n : Nat) (slices : List (List al)) (r : List al) (hr : bZ n slices = some r) : aM Tryz.prog 96 [slT (slC al.c) slices] (slT al.c r) := by
 unfold bZ at hr
 refine aM.bd G Tryz.func96 [.tmp 2] ?_
 unfold Tryz.f96
 simp only [gS]
 refine .seq (.r4 G [0] [] (.seq (.r4 G [0] [(3, aj 0)] (.seq (.seq (.r4 G [0, 3] [(9, slT (slC al.c) slices), (10, aj (slices.length : Int)), (11, aj 0)] (.block ?_)))))))
 replace hr := bd hr; obtain ⟨p, j, hr⟩ := hr
 refine .aL (σ := fun A => match A with | (f, d) => ⟨mkS 36 0 [(0, slT (slC al.c) slices), (3, aj f), (9, slT (slC al.c) slices), (10, aj (slices.length : Int)), (11, aj d)], []⟩) (Q := fun x st' => x = .exit 0 /\ Wk 0 st' ⟨mkS 36 0 [(0, slT (slC al.c) slices), (3, aj p)], []⟩) j ((Wk.gc [0, 3, 9, 10, 11] [] rfl pK0).to) ?_ ?_
 ·clear hr
  rintro m ⟨f, d⟩ hr
  show CQ _ _ _ _ _ ⟨_, _⟩
  refine .seq (.r4 G [0, 3, 9, 10, 11] [(12, aB (decide (d < (slices.length : Int))))] (.seq ?_))
  refine .cd hr ?_ ?_ <;> intro D hr
  ·refine .skip (.seq (.block (.seq ?_)))
   obtain ⟨s, hr⟩ := gd hr
   refine .r0 G (.p0 (v := .pp (slices.flatMap (slC al.c)) (d.toNat * 1)) (tr (au s)) (.p0 (v := slT al.c (gt slices d)) (tr (aH (aK (zl al.c) (aD s) z1 (by omega : d.toNat * 1 = d.toNat * 1 + 0) (by kernel_rfl)))) (.mu 1 (.done (.nh [0, 3, 5, 9, 10, 11] [] (.seq (.r4 G [0, 9, 10, 11] [(3, aj (EN (f + ((gt slices d).length : Int))))] (.seq (.r4 G [0, 3, 9, 10, 11] [(20, aB (decide ((EN (f + ((gt slices d).length : Int))) < 0)))] ?_)))))))))
   obtain ⟨t, hr⟩ := gdn hr
   refine .cN t (.skip (.pop (.ru G ?_)))
   exact aA (EN (f + ((gt slices d).length : Int)), EN (d + 1)) hr ((Wk.gc [0, 3, 9, 10, 11] [] rfl pK0).to)
  refine .leave rfl ?_
  obtain rfl := oi hr
  exact ⟨rfl, ((Wk.gc [0, 3] [] rfl pK0).to)⟩
 rintro x st' g
 clear j
 obtain ⟨rfl, g⟩ := g
 refine aV _ rfl (.wk g (.seq ?_))
 obtain ⟨q, u, hr⟩ := bd hr
 refine .g1 G (cu (args := [nS, aj p]) 0 1 [] [false] (ff n p q u) trivial (by exact ⟨aZ al.pure _, trivial⟩) rfl rfl (by kernel_rfl) (by kernel_rfl)) (.mu 1 (.ca cf0 (.mu 1 (.done (.nh [0, 6] [.own (q.flatMap al.c)] (.seq (.seq (.r4 G [6] [(25, slT (slC al.c) slices), (26, aj (slices.length : Int)), (27, aj 0)] (.block ?_)))))))))
 replace hr := bd hr; obtain ⟨e, k, hr⟩ := hr
 refine .aL (σ := fun A => match A with | (a, b) => ⟨mkS 36 0 [(6, .hs 0 0 a.length 6), (25, slT (slC al.c) slices), (26, aj (slices.length : Int)), (27, aj b)], [.own (a.flatMap al.c)]⟩) (Q := fun x st' => x = .exit 2 /\ Wk 0 st' ⟨mkS 36 0 [(6, .hs 0 0 e.length 6)], [.own (e.flatMap al.c)]⟩) k ((Wk.gc [6, 25, 26, 27] [(0, false)] rfl (pKo al.c al.pure q trivial)).to) ?_ ?_
 ·clear hr
  rintro m ⟨a, b⟩ hr
  show CQ _ _ _ _ _ ⟨_, _⟩
  refine .seq (.r4 G [6, 25, 26, 27] [(28, aB (decide (b < (slices.length : Int))))] (.seq ?_))
  refine .cd hr ?_ ?_ <;> intro C hr
  ·refine .skip (.seq (.block (.seq ?_)))
   obtain ⟨o, hr⟩ := gd hr
   refine .r0 G (.p0 (v := .pp (slices.flatMap (slC al.c)) (b.toNat * 1)) (tr (au o)) (.p0 (v := slT al.c (gt slices b)) (tr (aH (aK (zl al.c) (aD o) z1 (by omega : b.toNat * 1 = b.toNat * 1 + 0) (by kernel_rfl)))) (.mu 1 (.done (.nh [6, 8, 25, 26, 27] [.own (a.flatMap al.c)] ?_)))))
   obtain ⟨w, z, hr⟩ := gd2 hr
   refine .r0 G (.mu 2 (.e0 (v := .hs 1 0 (a ++ (gt slices b)).length 6) (ws := [(0, .dead), (1, .own ((a ++ (gt slices b)).flatMap al.c))]) (tr (y := yZ (decide ((((gt slices b).flatMap al.c)).length = (gt slices b).length * 6)) ((gt slices b).flatMap al.c) (gt slices b).length (fun z1 B => n8 (decide (0 + a.length * 6 <= (a.flatMap al.c).length) && decide ((a.length + B) * 80 <= 140737488355328) && decide (a.length + B <= 4611686018427387904)) (some (.eff (.hs 1 0 (a.length + B) 6) [(0, .dead), (1, .own (((a.flatMap al.c).drop 0).take (a.length * 6) ++ z1))])))) (tt (mZ al.len) rfl (eJ (l := a) (xs := (gt slices b)) al.len rfl rfl rfl w z))) (.mu 1 (.done (.pop (.ru G ?_))))))
   exact aA (a ++ (gt slices b), EN (b + 1)) hr ((Wk.gc [6, 25, 26, 27] [(1, false)] rfl (pKo al.c al.pure (a ++ (gt slices b)) trivial)).to)
  refine .leave rfl ?_
  obtain rfl := oi hr
  exact ⟨rfl, ((Wk.gc [6] [(0, false)] rfl (pKo al.c al.pure a trivial)).to)⟩
 rintro x st' i
 clear k
 obtain ⟨rfl, i⟩ := i
 refine aV _ rfl (.wk i (.seq (.r3 G 36 [(2, .hs 0 0 e.length 6)] (.ret ?_))))
 obtain rfl := oi hr
 exact aF.ret (vs := [.hs 0 0 e.length 6]) (by kernel_rfl) (Sn.hs rfl (.inl rfl) (SnC.pure (aZ al.pure _)) (fun h => cB h))

theorem sN (n : Nat) (c : ae) (r : ae) (hr : nq n c = some r) : aM Tryz.prog 51 [.agg (ae.c c)] (.agg (ae.c r)) := by
 unfold nq at hr
 refine aM.bd G Tryz.func51 [.cell 2 35] ?_
 unfold Tryz.f51
 simp only [gS]
 refine .seq (.r2 G 49 [(1, .hp 0 0), (2, .hp 1 0)] [.own (ae.c c), .own [aB false, nS]] (.seq (.seq (.r4 G [1, 2] [(9, aB (!c.Closed))] ?_))))
 refine .cd hr ?_ ?_ <;> intro z hr
 ·refine .seq (.r5 G [2] [] [.own (ae.c c), .own (ae.c c)] (.ret ?_))
  obtain rfl := oi hr
  exact aF.r1 [.agg (ae.c c)]
 refine .skip (.seq (.r4 G [1, 2] [(3, aj 0)] (.seq (.seq (.r4 G [1, 2, 3] [(12, slT al.c c.Points), (13, aj (c.Points.length : Int)), (14, aj 0)] (.block ?_))))))
 replace hr := bd hr; obtain ⟨a, f, hr⟩ := hr
 refine .aL (σ := fun C => match C with | (d, b) => ⟨mkS 49 0 [(1, .hp 0 0), (2, .hp 1 0), (3, aj d), (12, slT al.c c.Points), (13, aj (c.Points.length : Int)), (14, aj b)], [.own (ae.c c), .own [aB false, nS]]⟩) (Q := fun x st' => x = .exit 0 /\ Wk 0 st' ⟨mkS 49 0 [(1, .hp 0 0), (2, .hp 1 0), (3, aj a)], [.own (ae.c c), .own [aB false, nS]]⟩) f ((Wk.gc [1, 2, 3, 12, 13, 14] [(0, true), (1, true)] rfl trivial).to) ?_ ?_
 ·clear hr
  rintro m ⟨d, b⟩ hr
  show CQ _ _ _ _ _ ⟨_, _⟩
  refine .seq (.r4 G [1, 2, 3, 12, 13, 14] [(15, aB (decide (b < (c.Points.length : Int))))] (.seq ?_))
  refine .cd hr ?_ ?_ <;> intro u hr
  ·refine .skip (.seq (.block (.seq ?_)))
   obtain ⟨g, hr⟩ := gd hr
   refine .r0 G (.mu 1 (.p0 (v := .pp (c.Points.flatMap al.c) (b.toNat * 6)) (tr (au g)) (.p0 (v := .agg (al.c (gt c.Points b))) (tr (y := bt.ofP (dz (decide (6 <= ((c.Points.flatMap al.c).drop (b.toNat * 6)).length)) (.agg (((c.Points.flatMap al.c).drop (b.toNat * 6)).take 6)))) (bB al.len (aD g) (by decide) (by omega : b.toNat * 6 = b.toNat * 6 + 0) (by kernel_rfl))) (.mu 3 (.done (.nh [1, 2, 3, 4, 5, 12, 13, 14] [.own (ae.c c), .own [aB false, nS], .own (al.c (gt c.Points b))] (.seq ?_)))))))
   obtain ⟨i, hr⟩ := gd hr
   refine .r0 G (.mu 3 (.p0 (v := .pp (c.Points.flatMap al.c) (d.toNat * 6)) (tr (au i)) (.p0 (v := .agg (al.c (gt c.Points d))) (tr (y := bt.ofP (dz (decide (6 <= ((c.Points.flatMap al.c).drop (d.toNat * 6)).length)) (.agg (((c.Points.flatMap al.c).drop (d.toNat * 6)).take 6)))) (bB al.len (aD i) (by decide) (by omega : d.toNat * 6 = d.toNat * 6 + 0) (by kernel_rfl))) (.mu 2 (.done (.nh [1, 2, 3, 4, 5, 6, 12, 13, 14] [.own (ae.c c), .own [aB false, nS], .own (al.c (gt c.Points b)), .own (al.c (gt c.Points d))] (.seq ?_)))))))
   obtain ⟨t, p, hr⟩ := bd hr
   refine .g1 G (ok0 (iQ n (A2.mk (gt c.Points b).A (gt c.Points b).B) (A2.mk (gt c.Points d).A (gt c.Points d).B) t p)) (.mu 10 (.ca cf0 (.mu 1 (.done (.nh [1, 2, 3, 4, 12, 13, 14, 35] [.own (ae.c c), .own [aB false, nS], .own (al.c (gt c.Points b)), .own (al.c (gt c.Points d))] ?_)))))
   refine .cd hr ?_ ?_ <;> intro w hr
   ·refine .ru G (.pop (.ru G ?_))
    exact aA (b, EN (b + 1)) hr ((Wk.gc [1, 2, 3, 12, 13, 14] [(0, true), (1, true)] rfl trivial).to)
   refine .skip (.pop (.ru G ?_))
   exact aA (d, EN (b + 1)) hr ((Wk.gc [1, 2, 3, 12, 13, 14] [(0, true), (1, true)] rfl trivial).to)
  refine .leave rfl ?_
  obtain rfl := oi hr
  exact ⟨rfl, ((Wk.gc [1, 2, 3] [(0, true), (1, true)] rfl trivial).to)⟩
 rintro x st' e
 clear f
 obtain ⟨rfl, e⟩ := e
 refine aV _ rfl (.wk e (.seq ?_))
 obtain ⟨j, k, hr⟩ := gd2 hr
 obtain ⟨o, q, hr⟩ := bd hr
 refine .tn G (ca4 [.own (ae.c c), .own [aB false, nS], .own [slT al.c ((c.Points.drop a.toNat).take ((c.Points.length : Int).toNat - a.toNat)), slT al.c ((c.Points.drop (0 : Int).toNat).take (a.toNat - (0 : Int).toNat))]] (cK (args := [.hs 2 0 2 1]) (l := [2]) (SnL.cons (Sn.hs rfl (.inl rfl) (SnC.cons (Sn.pure rfl) (SnC.cons (Sn.pure rfl) SnC.nil)) (fun h => nomatch h)) SnL.nil) (fe n [((c.Points.drop a.toNat).take ((c.Points.length : Int).toNat - a.toNat)), ((c.Points.drop (0 : Int).toNat).take (a.toNat - (0 : Int).toNat))] o q))) (.mu 3 (.pk (v := slT al.c ((c.Points.drop a.toNat).take ((c.Points.length : Int).toNat - a.toNat))) (tr (y := slO (inS a (c.Points.length : Int) c.Points.length) a.toNat (c.Points.length : Int).toNat (fun z1 s => .sl true (((c.Points.flatMap al.c).drop (z1 * 6)).take ((s - z1) * 6)) (s - z1))) (vZ j (tK al.len (qb j)))) (.mu 3 (.pk (v := slT al.c ((c.Points.drop (0 : Int).toNat).take (a.toNat - (0 : Int).toNat))) (tr (y := slO (inS 0 a c.Points.length) (0 : Int).toNat a.toNat (fun z1 s => .sl true (((c.Points.flatMap al.c).drop (z1 * 6)).take ((s - z1) * 6)) (s - z1))) (vZ k (tK al.len (qb k)))) (.mu 1 (.ca cf0 (.mu 2 ?_)))))))
 refine .done ⟨by kernel_rfl, ?_⟩
 refine .nh [2] [.own (ae.c c), .own [aB true, slT al.c o], .fix [slT al.c ((c.Points.drop a.toNat).take ((c.Points.length : Int).toNat - a.toNat)), slT al.c ((c.Points.drop (0 : Int).toNat).take (a.toNat - (0 : Int).toNat))]] (.ret ?_)
 obtain rfl := oi hr
 exact aF.r1 [.agg [aB true, slT al.c o]]

theorem rH (n : Nat) (a : ae) (b : ae) (r : Int) (hr : mr n a b = some r) : aM Tryz.prog 53 [.agg (ae.c a), .agg (ae.c b)] (aj r) := by
 unfold mr at hr
 refine aM.bd G Tryz.func53 [.tmp 4] ?_
 unfold Tryz.f53
 simp only [gS]
 refine .seq (.r2 G 10 [(2, .hp 0 0), (3, .hp 1 0)] [.own (ae.c a), .own (ae.c b)] (.seq ?_))
 obtain ⟨g, d, i, e, j, f, hr⟩ := bd3 hr
 refine .tn G (ca1 (ok0 (jM n a g d)) (ca1 (ok0 (jM n b i e)) (ca3 (ok0 (iQ n g i j f))))) (.mu 1 (.ca cf0 (.mu 1 (.ca (cfA (fun h => by rw [sv e d (o0 n h)]) cf0) (.ca (cfF (cfF cf0)) (.mu 1 ?_))))))
 refine .done ⟨by kernel_rfl, ?_⟩
 refine .ret ?_
 obtain rfl := oi hr
 exact aF.r1 [aj j]

theorem dO (n : Nat) (data : List ae) (a : Int) (b : Int) (r : List ae) (hr : bj n data a b = some r) : dU 1 Tryz.prog 132 [.hs 0 0 data.length 2, aj a, aj b, .fn 53 [] []] [.own (data.flatMap ae.c)] (.tup []) [.own (r.flatMap ae.c)] := by
 unfold bj at hr
 refine dU.kR G Tryz.func132 (c := (Tryz.f132.body).getD .skip) rfl (us := []) (s := mkS 53 0 [(0, .hs 0 0 data.length 2), (1, aj a), (2, aj b), (3, .fn 53 [] [])]) (by kernel_rfl) (rs := []) rfl ?_
 unfold Tryz.f132
 simp only [gS]
 refine .seq (.r4 G [0, 1, 2, 3] [(8, aj (EN (a + 1)))] (.block ?_))
 replace hr := bd hr; obtain ⟨p, q, hr⟩ := hr
 refine .aL (σ := fun w => match w with | (i, f) => ⟨mkS 53 0 [(0, .hs 0 0 i.length 2), (1, aj a), (2, aj b), (3, .fn 53 [] []), (8, aj f)], [.own (i.flatMap ae.c)]⟩) (Q := fun x st' => x = .exit 0 /\ Wk 1 st' ⟨mkS 53 0 [], [.own (p.flatMap ae.c)]⟩) q ((Wk.gc [0, 1, 2, 3, 8] [(0, false)] rfl (pKo ae.c ae.pure data trivial)).to) ?_ ?_
 ·clear hr
  rintro m ⟨i, f⟩ hr
  show CQ _ _ _ _ _ ⟨_, _⟩
  refine .seq (.seq (.r4 G [0, 1, 2, 3, 8] [(14, aB (decide (f < b)))] ?_))
  refine .cd hr ?_ ?_ <;> intro A hr
  ·refine .skip (.seq (.block (.seq (.r4 G [0, 1, 2, 3, 8] [(9, aj f)] (.block ?_)))))
   replace hr := bd hr; obtain ⟨k, t, hr⟩ := hr
   refine .aL (σ := fun w => match w with | (e, d) => ⟨mkS 53 0 [(0, .hs 0 0 e.length 2), (1, aj a), (2, aj b), (3, .fn 53 [] []), (8, aj f), (9, aj d)], [.own (e.flatMap ae.c)]⟩) (Q := fun x st' => x = .exit 2 /\ Wk 1 st' ⟨mkS 53 0 [(0, .hs 0 0 k.length 2), (1, aj a), (2, aj b), (3, .fn 53 [] []), (8, aj f)], [.own (k.flatMap ae.c)]⟩) t ((Wk.gc [0, 1, 2, 3, 8, 9] [(0, false)] rfl (pKo ae.c ae.pure i trivial)).to) ?_ ?_
   ·clear hr
    rintro m ⟨e, d⟩ hr
    show CQ _ _ _ _ _ ⟨_, _⟩
    refine .seq (.seq ?_)
    rcases bT (decide (d > a)) with j | j
    ·replace hr := b8 j hr
     obtain ⟨g, h, hr⟩ := gd2 hr
     obtain ⟨z, u, hr⟩ := bd hr
     refine .t1 G (ok0 (rH n (gt e d) (gt e (EN (d - 1))) z u)) (.mu 2 (.pk (v := aB true) (eB j) (.mu 4 (.pk (v := .hp 0 (0 + d.toNat * 2)) (tr (au g)) (.pk (v := .agg (ae.c (gt e d))) (tr (y := bt.ofP (dz (decide (2 <= ((e.flatMap ae.c).drop (0 + d.toNat * 2)).length)) (.agg (((e.flatMap ae.c).drop (0 + d.toNat * 2)).take 2)))) (bB ae.len (aD g) (by decide) (by omega : 0 + d.toNat * 2 = d.toNat * 2 + 0) (by kernel_rfl))) (.mu 3 (.pk (v := .hp 0 (0 + (EN (d - 1)).toNat * 2)) (tr (au h)) (.pk (v := .agg (ae.c (gt e (EN (d - 1))))) (tr (y := bt.ofP (dz (decide (2 <= ((e.flatMap ae.c).drop (0 + (EN (d - 1)).toNat * 2)).length)) (.agg (((e.flatMap ae.c).drop (0 + (EN (d - 1)).toNat * 2)).take 2)))) (bB ae.len (aD h) (by decide) (by omega : 0 + (EN (d - 1)).toNat * 2 = (EN (d - 1)).toNat * 2 + 0) (by kernel_rfl))) (.ca cf0 (.mu 2 ?_))))))))))
     refine .done ⟨by kernel_rfl, ?_⟩
     refine .nh [0, 1, 2, 3, 8, 9, 34] [.own (e.flatMap ae.c)] ?_
     refine .cd hr ?_ ?_ <;> intro B hr
     ·refine .skip (.seq (.block (.ei G bL (.mu 8 (.pk (v := .hp 0 (0 + (EN (d - 1)).toNat * 2)) (tr (au h)) (.pk (v := .agg (ae.c (gt e (EN (d - 1))))) (tr (y := bt.ofP (dz (decide (2 <= ((e.flatMap ae.c).drop (0 + (EN (d - 1)).toNat * 2)).length)) (.agg (((e.flatMap ae.c).drop (0 + (EN (d - 1)).toNat * 2)).take 2)))) (bB ae.len (aD h) (by decide) (by omega : 0 + (EN (d - 1)).toNat * 2 = (EN (d - 1)).toNat * 2 + 0) (by kernel_rfl))) (.mu 2 (.pk (v := .hp 0 (0 + d.toNat * 2)) (tr (au g)) (.pk (v := .agg (ae.c (gt e d))) (tr (y := bt.ofP (dz (decide (2 <= ((e.flatMap ae.c).drop (0 + d.toNat * 2)).length)) (.agg (((e.flatMap ae.c).drop (0 + d.toNat * 2)).take 2)))) (bB ae.len (aD g) (by decide) (by omega : 0 + d.toNat * 2 = d.toNat * 2 + 0) (by kernel_rfl))) (.pk (v := .hp 0 (0 + d.toNat * 2)) (tr (au g)) (.ek (v := .unk) (ws := [(0, .own ((e.set d.toNat (gt e (EN (d - 1)))).flatMap ae.c))]) (tr (iE (iy (cx (n := 2) ae.len (aD g) (lbT rfl) (by omega : 0 + d.toNat * 2 = d.toNat * 2 + 0))) (congrArg Blk.own (cU (xs := (ae.c (gt e (EN (d - 1))))) ae.len (aD g) (lbT rfl) (by omega : 0 + d.toNat * 2 = d.toNat * 2 + 0) (by kernel_rfl))))) (.pk (v := .hp 0 (0 + (EN (d - 1)).toNat * 2)) (tr (au h)) (.ek (v := .unk) (ws := [(0, .own (((e.set d.toNat (gt e (EN (d - 1)))).set (EN (d - 1)).toNat (gt e d)).flatMap ae.c))]) (tr (y := stO (decide ((0 + (EN (d - 1)).toNat * 2) + 2 <= ((e.set d.toNat (gt e (EN (d - 1)))).flatMap ae.c).length) && true) [(0, .own (setCells ((e.set d.toNat (gt e (EN (d - 1)))).flatMap ae.c) (0 + (EN (d - 1)).toNat * 2) (ae.c (gt e d))))]) (iE (iy (cx ae.len (aD (q0 h)) (lbT rfl) (by omega : 0 + (EN (d - 1)).toNat * 2 = (EN (d - 1)).toNat * 2 + 0))) (congrArg Blk.own (cU ae.len (aD (q0 h)) (lbT rfl) (by omega : 0 + (EN (d - 1)).toNat * 2 = (EN (d - 1)).toNat * 2 + 0) (by kernel_rfl))))) ?_)))))))))))))
      refine .done ⟨by kernel_rfl, ?_⟩
      refine .pop (.ru G ?_)
      exact aA ((e.set d.toNat (gt e (EN (d - 1)))).set (EN (d - 1)).toNat (gt e d), EN (d - 1)) hr ((Wk.iG 0 (b := 0) (es := 2) (len := e.length) ((e.set d.toNat (gt e (EN (d - 1)))).set (EN (d - 1)).toNat (gt e d)).length (by kernel_rfl) (Eq.symm (List.length_set.trans (List.length_set.trans rfl)))).trans ((Wk.gc [0, 1, 2, 3, 8, 9] [(0, false)] rfl (pKo ae.c ae.pure ((e.set d.toNat (gt e (EN (d - 1)))).set (EN (d - 1)).toNat (gt e d)) trivial)).to))
     refine .leave rfl ?_
     obtain rfl := oi hr
     exact ⟨rfl, ((Wk.gc [0, 1, 2, 3, 8] [(0, false)] rfl (pKo ae.c ae.pure e trivial)).to)⟩
    replace hr := bX j hr
    refine .ei G bL (.mu 2 (.pk (v := aB false) (eB j) (.mu 14 ?_)))
    refine .done ⟨by kernel_rfl, ?_⟩
    refine .nh [0, 1, 2, 3, 8, 9, 34] [.own (e.flatMap ae.c)] (.cF (by kernel_rfl) (.leave rfl ?_))
    obtain rfl := oi hr
    exact ⟨rfl, ((Wk.gc [0, 1, 2, 3, 8] [(0, false)] rfl (pKo ae.c ae.pure e trivial)).to)⟩
   rintro x st' l
   clear t
   obtain ⟨rfl, l⟩ := l
   refine aV _ rfl (.pop (.wk l (.ru G ?_)))
   exact aA (k, EN (f + 1)) hr ((Wk.gc [0, 1, 2, 3, 8] [(0, false)] rfl (pKo ae.c ae.pure k trivial)).to)
  refine .leave rfl ?_
  obtain rfl := oi hr
  exact ⟨rfl, ((Wk.gc [] [(0, false)] rfl (pKo ae.c ae.pure i trivial)).to)⟩
 rintro x st' o
 clear q
 obtain ⟨rfl, o⟩ := o
 refine aV _ rfl ?_
 obtain rfl := oi hr
 exact ee.wk o (ee.normal [] ((Wk.gc [] [(0, false)] rfl (pKo ae.c ae.pure p trivial)).to))

theorem eD (n : Nat) (data : List ae) (a : Int) (b : Int) (limit : Int) (r : List ae) (hr : bG n data a b limit = some r) : dU 1 Tryz.prog 97 [.hs 0 0 data.length 2, aj a, aj b, aj limit, .fn 53 [] []] [.own (data.flatMap ae.c)] (.tup []) [.own (r.flatMap ae.c)] := by
 unfold bG at hr
 refine dU.kR G Tryz.func97 (c := (Tryz.f97.body).getD .skip) rfl (us := []) (s := mkS 148 0 [(0, .hs 0 0 data.length 2), (1, aj a), (2, aj b), (3, aj limit), (4, .fn 53 [] [])]) (by kernel_rfl) (rs := []) rfl ?_
 unfold Tryz.f97
 simp only [gS]
 refine .seq (.r4 G [0, 1, 2, 3, 4] [(10, aB true)] (.seq (.r4 G [0, 1, 2, 3, 4, 10] [(11, aB true)] (.block ?_))))
 replace hr := bd hr; obtain ⟨r0, g, hr⟩ := hr
 refine .aL (σ := fun p => match p with | (d, e, h, i, j) => ⟨mkS 148 0 [(0, .hs 0 0 data.length 2), (1, aj d), (2, aj e), (3, aj h), (4, .fn 53 [] []), (10, aB i), (11, aB j)], [.own (data.flatMap ae.c)]⟩) (Q := fun x st' => x = .ret /\ ee 1 Tryz.prog [] [] [.own (r0.flatMap ae.c)] .ret st') g ((Wk.gc [0, 1, 2, 3, 4, 10, 11] [(0, false)] rfl (pKo ae.c ae.pure data trivial)).to) ?_ ?_
 ·clear hr
  rintro m ⟨d, e, h, i, j⟩ hr
  show CQ _ _ _ _ _ ⟨_, _⟩
  refine .block (.seq (.r4 G [0, 1, 2, 3, 4, 10, 11] [(12, aj (EN (e - d)))] (.seq (.seq (.r4 G [0, 1, 2, 3, 4, 10, 11, 12] [(25, aB (decide ((EN (e - d)) <= 12)))] ?_)))))
  obtain ⟨l, hr⟩ := gd hr
  refine .cY l (.seq ?_)
  obtain ⟨k, o, hr⟩ := bd hr
  refine .g1 G (cu (args := [.hs 0 0 data.length 2, aj d, aj e, .fn 53 [] []]) 1 0 [(0, false)] [false] (dO n data d e k o) (by exact ⟨aZ ae.pure _, trivial⟩) (by exact ⟨aZ ae.pure _, trivial⟩) rfl rfl (by kernel_rfl) (by kernel_rfl)) (.mu 4 (.ca cf0 (.done (.nh [] [.own (k.flatMap ae.c)] (.ret ?_)))))
  obtain rfl := oi hr
  exact ⟨rfl, ee.ret [] ((Wk.gc [] [(0, false)] rfl (pKo ae.c ae.pure k trivial)).to)⟩
 rintro x st' f
 clear g
 obtain ⟨rfl, f⟩ := f
 obtain rfl := oi hr
 exact gw _ f

theorem de (n : Nat) (a : List ae) (r : List ae) (hr : a8 n a = some r) : dU 1 Tryz.prog 52 [.hs 0 0 a.length 2, .fn 53 [] []] [.own (a.flatMap ae.c)] (.tup []) [.own (r.flatMap ae.c)] := by
 unfold a8 at hr
 refine dU.kR G Tryz.func52 (c := (Tryz.f52.body).getD .skip) rfl (us := []) (s := mkS 14 0 [(0, .hs 0 0 a.length 2), (1, .fn 53 [] [])]) (by kernel_rfl) (rs := []) rfl ?_
 unfold Tryz.f52
 simp only [gS]
 refine .seq (.r4 G [0, 1] [(4, aj (a.length : Int))] ?_)
 obtain ⟨b, d, f, e, hr⟩ := bd2 hr
 refine .gn G (ca1 (ok0 (lN n (wFu (a.length : Int)) b d)) (ca3 (cu (args := [.hs 0 0 a.length 2, aj 0, aj (a.length : Int), aj b, .fn 53 [] []]) 1 0 [(0, false)] [false] (eD n a 0 (a.length : Int) b f e) (by exact ⟨aZ ae.pure _, trivial⟩) (by exact ⟨aZ ae.pure _, trivial⟩) rfl rfl (by kernel_rfl) (by kernel_rfl)))) (.mu 4 (.ca cf0 (.mu 1 (.ca (cfF cf0) (.done ?_)))))
 obtain rfl := oi hr
 exact ee.normal [] ((Wk.gc [] [(0, false)] rfl (pKo ae.c ae.pure f trivial)).to)

theorem sE (n : Nat) (p : al) (q : al) (r : Bool) (hr : nw n p q = some r) : aM Tryz.prog 100 [.agg (al.c p), .agg (al.c q)] (aB r) := by
 unfold nw at hr
 refine aM.bd G Tryz.func100 [.tmp 4] ?_
 unfold Tryz.f100
 simp only [gS]
 refine .seq (.r2 G 35 [(2, .hp 0 0), (3, .hp 1 0)] [.own (al.c p), .own (al.c q)] (.seq ?_))
 rcases bT ((p.A : Int) == q.A) with a | a
 ·replace hr := b8 a hr
  rcases bT ((p.B : Int) == q.B) with b | b
  ·replace hr := b8 b hr
   obtain ⟨k, d, hr⟩ := bd hr
   rcases bT k with f | f
   ·subst f
    replace hr := b8 rfl hr
    obtain ⟨l, e, hr⟩ := bd hr
    rcases bT l with g | g
    ·subst g
     replace hr := b8 rfl hr
     obtain ⟨j, i, hr⟩ := bd hr
     refine .gn G (ca1 (ok0 (eX n p.At true d)) (ca1 (ok0 (eX n q.At true e)) (ca3 (ok0 (mJ n p.At q.At j i))))) (.mu 4 (.p0 (v := aB true) (eB a) (.mu 5 (.pure (v := aB true) (by kernel_rfl) (eB b) (.mu 4 (.ca cf0 (.mu 4 (.ca (cfA (fun h => by rw [sv e d (nI n h)]) cf0) (.mu 6 (.ca (cfF (cfF cf0)) (.mu 3 (.done (.ret ?_)))))))))))))
     obtain rfl := oi hr
     exact aF.r1 [aB ((j : Int) == 0)]
    subst g
    replace hr := bX rfl hr
    refine .gn G (ca1 (ok0 (eX n p.At true d)) (ca3 (ok0 (eX n q.At false e)))) (.mu 4 (.p0 (v := aB true) (eB a) (.mu 5 (.pure (v := aB true) (by kernel_rfl) (eB b) (.mu 4 (.ca cf0 (.mu 4 (.ca (cfA (fun h => by rw [sv e d (nI n h)]) cf0) (.mu 10 (.done (.ret ?_)))))))))))
    obtain rfl := oi hr
    exact aF.r1 [aB false]
   subst f
   replace hr := bX rfl hr
   refine .g1 G (ok0 (eX n p.At false d)) (.mu 4 (.p0 (v := aB true) (eB a) (.mu 5 (.pure (v := aB true) (by kernel_rfl) (eB b) (.mu 4 (.ca cf0 (.mu 15 (.done (.ret ?_)))))))))
   obtain rfl := oi hr
   exact aF.r1 [aB false]
  replace hr := bX b hr
  refine .r0 G (.mu 4 (.p0 (v := aB true) (eB a) (.mu 5 (.pure (v := aB false) (by kernel_rfl) (eB b) (.mu 20 (.done (.ret ?_)))))))
  obtain rfl := oi hr
  exact aF.r1 [aB false]
 replace hr := bX a hr
 refine .r0 G (.mu 4 (.p0 (v := aB false) (eB a) (.mu 26 (.done (.ret ?_)))))
 obtain rfl := oi hr
 exact aF.r1 [aB false]

theorem bz (n : Nat) (d : List al) (e : List al) (r : Bool) (hr : aN n d e = some r) : aM Tryz.prog 99 [slT al.c d, slT al.c e, .fn 100 [] []] (aB r) := by
 unfold aN at hr
 refine aM.bd G Tryz.func99 [.tmp 6] ?_
 unfold Tryz.f99
 simp only [gS]
 refine .seq (.r4 G [0, 1, 2] [] (.seq (.seq (.r4 G [0, 1, 2] [(14, aB (((d.length : Int) : Int) != (e.length : Int)))] ?_))))
 refine .cd hr ?_ ?_ <;> intro p hr
 ·refine .seq (.ru G (.ret ?_))
  obtain rfl := oi hr
  exact aF.r1 [aB false]
 refine .skip (.seq (.seq (.r4 G [1, 2] [(15, slT al.c d), (16, aj (d.length : Int)), (17, aj 0)] (.block ?_))))
 replace hr := bd hr; obtain ⟨i, f, hr⟩ := hr
 refine .aL (σ := fun q => match q with | a => ⟨mkS 32 0 [(1, slT al.c e), (2, .fn 100 [] []), (15, slT al.c d), (16, aj (d.length : Int)), (17, aj a)], []⟩) (Q := fun x st' => match (generalizing := false) i with | .inl _ => x = .exit 0 /\ Wk 0 st' ⟨mkS 32 0 [], []⟩ | .inr (r0) => x = .ret /\ aF Tryz.prog [.tmp 6] (aB r0) .ret st') f ((Wk.gc [1, 2, 15, 16, 17] [] rfl pK0).to) ?_ ?_
 ·clear hr
  rintro m a hr
  show CQ _ _ _ _ _ ⟨_, _⟩
  refine .seq (.r4 G [1, 2, 15, 16, 17] [(18, aB (decide (a < (d.length : Int))))] (.seq ?_))
  refine .cd hr ?_ ?_ <;> intro l hr
  ·refine .skip (.seq (.block (.seq ?_)))
   obtain ⟨g, hr⟩ := gd hr
   refine .r0 G (.mu 1 (.p0 (v := .pp (d.flatMap al.c) (a.toNat * 6)) (tr (au g)) (.p0 (v := .agg (al.c (gt d a))) (tr (y := bt.ofP (dz (decide (6 <= ((d.flatMap al.c).drop (a.toNat * 6)).length)) (.agg (((d.flatMap al.c).drop (a.toNat * 6)).take 6)))) (bB al.len (aD g) (by decide) (by omega : a.toNat * 6 = a.toNat * 6 + 0) (by kernel_rfl))) (.mu 3 (.done (.nh [1, 2, 7, 8, 15, 16, 17] [.own (al.c (gt d a))] (.seq ?_)))))))
   obtain ⟨h, hr⟩ := gd hr
   refine .r0 G (.mu 2 (.p0 (v := .pp (e.flatMap al.c) (a.toNat * 6)) (tr (au h)) (.p0 (v := .agg (al.c (gt e a))) (tr (y := bt.ofP (dz (decide (6 <= ((e.flatMap al.c).drop (a.toNat * 6)).length)) (.agg (((e.flatMap al.c).drop (a.toNat * 6)).take 6)))) (bB al.len (aD h) (by decide) (by omega : a.toNat * 6 = a.toNat * 6 + 0) (by kernel_rfl))) (.mu 2 (.done (.nh [1, 2, 8, 9, 15, 16, 17] [.own (al.c (gt d a)), .own (al.c (gt e a))] (.seq ?_)))))))
   obtain ⟨k, j, hr⟩ := bd hr
   refine .g1 G (ok0 (sE n (gt d a) (gt e a) k j)) (.mu 3 (.ca cf0 (.mu 1 (.done (.nh [1, 2, 15, 16, 17, 30] [.own (al.c (gt d a)), .own (al.c (gt e a))] ?_)))))
   refine .cd hr ?_ ?_ <;> intro o hr
   ·refine .seq (.ru G (.ret ?_))
    obtain rfl := oi hr
    exact ⟨rfl, aF.ret (vs := [aB false]) (by kernel_rfl) (Sn.pure rfl)⟩
   refine .skip (.pop (.ru G ?_))
   exact aA (EN (a + 1)) hr ((Wk.gc [1, 2, 15, 16, 17] [] rfl pK0).to)
  refine .leave rfl ?_
  obtain rfl := oi hr
  exact ⟨rfl, ((Wk.gc [] [] rfl pK0).to)⟩
 rcases i with ⟨⟩ | r0
 ·rintro x st' b
  clear f
  obtain ⟨rfl, b⟩ := b
  refine aV _ rfl (.wk b (.seq (.ru G (.ret ?_))))
  obtain rfl := oi hr
  exact aF.r1 [aB true]
 rintro x st' b
 clear f
 obtain ⟨rfl, b⟩ := b
 obtain rfl := oi hr
 exact gw _ b

theorem uA (n : Nat) (a : ae) (b : ae) (r : Bool) (hr : pE n a b = some r) : aM Tryz.prog 56 [.agg (ae.c a), .agg (ae.c b)] (aB r) := by
 unfold pE at hr
 refine aM.bd G Tryz.func56 [.tmp 4] ?_
 unfold Tryz.f56
 simp only [gS]
 refine .seq (.r2 G 17 [(2, .hp 0 0), (3, .hp 1 0)] [.own (ae.c a), .own (ae.c b)] (.seq ?_))
 rcases bT (a.Closed == b.Closed) with d | d
 ·replace hr := b8 d hr
  obtain ⟨f, e, hr⟩ := bd hr
  refine .g1 G (ok0 (bz n a.Points b.Points f e)) (.mu 4 (.p0 (v := aB true) (eB d) (.mu 5 (.ca cf0 (.mu 2 (.done (.ret ?_)))))))
  obtain rfl := oi hr
  exact aF.r1 [aB f]
 replace hr := bX d hr
 refine .r0 G (.mu 4 (.p0 (v := aB false) (eB d) (.mu 8 (.done (.ret ?_)))))
 obtain rfl := oi hr
 exact aF.r1 [aB false]

theorem bK (n : Nat) (d : List ae) (e : List ae) (r : Bool) (hr : aO n d e = some r) : aM Tryz.prog 16 [slT ae.c d, slT ae.c e, .fn 56 [] []] (aB r) := by
 unfold aO at hr
 refine aM.bd G Tryz.func16 [.tmp 6] ?_
 unfold Tryz.f16
 simp only [gS]
 refine .seq (.r4 G [0, 1, 2] [] (.seq (.seq (.r4 G [0, 1, 2] [(14, aB (((d.length : Int) : Int) != (e.length : Int)))] ?_))))
 refine .cd hr ?_ ?_ <;> intro p hr
 ·refine .seq (.ru G (.ret ?_))
  obtain rfl := oi hr
  exact aF.r1 [aB false]
 refine .skip (.seq (.seq (.r4 G [1, 2] [(15, slT ae.c d), (16, aj (d.length : Int)), (17, aj 0)] (.block ?_))))
 replace hr := bd hr; obtain ⟨i, f, hr⟩ := hr
 refine .aL (σ := fun q => match q with | a => ⟨mkS 32 0 [(1, slT ae.c e), (2, .fn 56 [] []), (15, slT ae.c d), (16, aj (d.length : Int)), (17, aj a)], []⟩) (Q := fun x st' => match (generalizing := false) i with | .inl _ => x = .exit 0 /\ Wk 0 st' ⟨mkS 32 0 [], []⟩ | .inr (r0) => x = .ret /\ aF Tryz.prog [.tmp 6] (aB r0) .ret st') f ((Wk.gc [1, 2, 15, 16, 17] [] rfl pK0).to) ?_ ?_
 ·clear hr
  rintro m a hr
  show CQ _ _ _ _ _ ⟨_, _⟩
  refine .seq (.r4 G [1, 2, 15, 16, 17] [(18, aB (decide (a < (d.length : Int))))] (.seq ?_))
  refine .cd hr ?_ ?_ <;> intro l hr
  ·refine .skip (.seq (.block (.seq ?_)))
   obtain ⟨g, hr⟩ := gd hr
   refine .r0 G (.mu 1 (.p0 (v := .pp (d.flatMap ae.c) (a.toNat * 2)) (tr (au g)) (.p0 (v := .agg (ae.c (gt d a))) (tr (y := bt.ofP (dz (decide (2 <= ((d.flatMap ae.c).drop (a.toNat * 2)).length)) (.agg (((d.flatMap ae.c).drop (a.toNat * 2)).take 2)))) (bB ae.len (aD g) (by decide) (by omega : a.toNat * 2 = a.toNat * 2 + 0) (by kernel_rfl))) (.mu 3 (.done (.nh [1, 2, 7, 8, 15, 16, 17] [.own (ae.c (gt d a))] (.seq ?_)))))))
   obtain ⟨h, hr⟩ := gd hr
   refine .r0 G (.mu 2 (.p0 (v := .pp (e.flatMap ae.c) (a.toNat * 2)) (tr (au h)) (.p0 (v := .agg (ae.c (gt e a))) (tr (y := bt.ofP (dz (decide (2 <= ((e.flatMap ae.c).drop (a.toNat * 2)).length)) (.agg (((e.flatMap ae.c).drop (a.toNat * 2)).take 2)))) (bB ae.len (aD h) (by decide) (by omega : a.toNat * 2 = a.toNat * 2 + 0) (by kernel_rfl))) (.mu 2 (.done (.nh [1, 2, 8, 9, 15, 16, 17] [.own (ae.c (gt d a)), .own (ae.c (gt e a))] (.seq ?_)))))))
   obtain ⟨k, j, hr⟩ := bd hr
   refine .g1 G (ok0 (uA n (gt d a) (gt e a) k j)) (.mu 3 (.ca cf0 (.mu 1 (.done (.nh [1, 2, 15, 16, 17, 30] [.own (ae.c (gt d a)), .own (ae.c (gt e a))] ?_)))))
   refine .cd hr ?_ ?_ <;> intro o hr
   ·refine .seq (.ru G (.ret ?_))
    obtain rfl := oi hr
    exact ⟨rfl, aF.ret (vs := [aB false]) (by kernel_rfl) (Sn.pure rfl)⟩
   refine .skip (.pop (.ru G ?_))
   exact aA (EN (a + 1)) hr ((Wk.gc [1, 2, 15, 16, 17] [] rfl pK0).to)
  refine .leave rfl ?_
  obtain rfl := oi hr
  exact ⟨rfl, ((Wk.gc [] [] rfl pK0).to)⟩
 rcases i with ⟨⟩ | r0
 ·rintro x st' b
  clear f
  obtain ⟨rfl, b⟩ := b
  refine aV _ rfl (.wk b (.seq (.ru G (.ret ?_))))
  obtain rfl := oi hr
  exact aF.r1 [aB true]
 rintro x st' b
 clear f
 obtain ⟨rfl, b⟩ := b
 obtain rfl := oi hr
 exact gw _ b

theorem ti (n : Nat) (g : ar) (level : Int) (l : List ae) (r : Int) (hr : j7 n g level l = some r) : aM Tryz.prog 20 [.agg (ar.c g), aj level, slT ae.c l] (aj r) := by
 unfold j7 at hr
 refine aM.bd G Tryz.func20 [.tmp 6] ?_
 unfold Tryz.f20
 simp only [gS]
 refine .seq (.r5 G [1, 2] [(3, .hp 0 0)] [.own (ar.c g)] (.seq (.seq ?_)))
 obtain ⟨B, C, hr⟩ := bd hr
 refine .g1 G (ok0 (jm n g level B C)) (.mu 2 (.ca cf0 (.mu 1 (.done (.nh [1, 2, 3, 7] [.own (ar.c g)] (.seq (.r4 G [1, 2, 3, 7] [(15, aB ((B : Int) != 0))] ?_)))))))
 refine .cd hr ?_ ?_ <;> intro I hr
 ·refine .seq (.ru G (.ret ?_))
  obtain rfl := oi hr
  exact aF.r1 [aj B]
 refine .skip (.seq (.r4 G [1, 2, 3] [(8, nS)] (.seq (.seq (.r4 G [1, 3, 8] [(17, slT ae.c l), (18, aj (l.length : Int)), (19, aj 0)] (.block ?_))))))
 replace hr := bd hr; obtain ⟨p, i, hr⟩ := hr
 refine .aL (σ := fun J => match J with | (d, a) => ⟨mkS 41 0 [(1, aj level), (3, .hp 0 0), (8, .hs 1 0 d.length 2), (17, slT ae.c l), (18, aj (l.length : Int)), (19, aj a)], [.own (ar.c g), .own (d.flatMap ae.c)]⟩) (Q := fun x st' => match (generalizing := false) p with | .inl e => x = .exit 0 /\ Wk 0 st' ⟨mkS 41 0 [(1, aj level), (3, .hp 0 0), (8, .hs 1 0 e.length 2)], [.own (ar.c g), .own (e.flatMap ae.c)]⟩ | .inr (r0) => x = .ret /\ aF Tryz.prog [.tmp 6] (aj r0) .ret st') i ((Wk.nil 8 2 (by kernel_rfl)).trans ((Wk.gc [1, 3, 8, 17, 18, 19] [(0, true), (1, false)] rfl (pKt (pKc trivial))).to)) ?_ ?_
 ·clear hr
  rintro m ⟨d, a⟩ hr
  show CQ _ _ _ _ _ ⟨_, _⟩
  refine .seq (.r4 G [1, 3, 8, 17, 18, 19] [(20, aB (decide (a < (l.length : Int))))] (.seq ?_))
  refine .cd hr ?_ ?_ <;> intro E hr
  ·refine .skip (.seq (.block (.seq ?_)))
   obtain ⟨k, hr⟩ := gd hr
   refine .r0 G (.p0 (v := .pp (l.flatMap ae.c) (a.toNat * 2)) (tr (au k)) (.p0 (v := .agg (ae.c (gt l a))) (tr (y := bt.ofP (dz (decide (2 <= ((l.flatMap ae.c).drop (a.toNat * 2)).length)) (.agg (((l.flatMap ae.c).drop (a.toNat * 2)).take 2)))) (bB ae.len (aD k) (by decide) (by omega : a.toNat * 2 = a.toNat * 2 + 0) (by kernel_rfl))) (.mu 2 (.done (.nh [1, 3, 8, 10, 17, 18, 19] [.own (ar.c g), .own (d.flatMap ae.c), .own (ae.c (gt l a))] (.seq (.seq (.r4 G [1, 3, 8, 10, 17, 18, 19] [(26, aB ((((gt l a).Points.length : Int) : Int) == 0))] ?_))))))))
   refine .cd hr ?_ ?_ <;> intro F hr
   ·refine .seq (.ru G (.ret ?_))
    obtain rfl := oi hr
    exact ⟨rfl, aF.ret (vs := [aj 12]) (by kernel_rfl) (Sn.pure rfl)⟩
   refine .skip ?_
   obtain ⟨f, q, hr⟩ := bd hr
   obtain ⟨s, t, hr⟩ := gd2 hr
   refine .g1 G (ok0 (sN n (gt l a) f q)) (.mu 2 (.ca cf0 (.mu 1 (.e0 (v := .hs 4 0 (d ++ [f]).length 2) (ws := [(1, .dead), (4, .own ((d ++ [f]).flatMap ae.c))]) (tr (eJ (new := (ae.c f)) (l := d) (xs := [f]) ae.len rfl rfl (by kernel_rfl) s t)) (.mu 1 (.done (.pop (.ru G ?_))))))))
   exact aA (d ++ [f], EN (a + 1)) hr ((Wk.gc [1, 3, 8, 17, 18, 19] [(0, true), (4, false)] rfl (pKt (pKo ae.c ae.pure (d ++ [f]) trivial))).to)
  refine .leave rfl ?_
  obtain rfl := oi hr
  exact ⟨rfl, ((Wk.gc [1, 3, 8] [(0, true), (1, false)] rfl (pKt (pKo ae.c ae.pure d trivial))).to)⟩
 rcases p with e | r0
 ·rintro x st' b
  clear i
  obtain ⟨rfl, b⟩ := b
  refine aV _ rfl (.wk b (.seq ?_))
  obtain ⟨j, u, hr⟩ := bd hr
  obtain ⟨w, hr⟩ := gd hr
  refine .g1 G (cu (args := [.hs 1 0 e.length 2, .fn 53 [] []]) 1 0 [(1, false)] [false] (de n e j u) (by exact ⟨aZ ae.pure _, trivial⟩) (by exact ⟨aZ ae.pure _, trivial⟩) rfl rfl (by kernel_rfl) (by kernel_rfl)) (.mu 1 (.ca cf0 (.done (.nh [1, 3, 8] [.own (ar.c g), .own (j.flatMap ae.c)] (.seq (.seq ?_))))))
  obtain ⟨o, z, D, A, hr⟩ := bd2 hr
  refine .gn G (ca1 (ok0 (oT n g level o z)) (ca3 (fP (args := [.hs 1 0 e.length 2, slT ae.c o, .fn 56 [] []]) (l := [1]) rfl (SnL.cons (Sn.hse (dcT w) rfl (.inl rfl) (SnC.pure (aZ ae.pure _)) (fun h => cB h)) (Sp (Sp SnL.nil))) (bK n j o D A)))) (.mu 3 (.ca cf0 (.ca (cfF cf0) (.mu 1 (.done (.nh [40] [.own (ar.c g), .own (j.flatMap ae.c)] ?_))))))
  refine .cd hr ?_ ?_ <;> intro H hr
  ·refine .seq (.ru G (.ret ?_))
   obtain rfl := oi hr
   exact aF.r1 [aj 12]
  refine .skip (.seq (.ru G (.ret ?_)))
  obtain rfl := oi hr
  exact aF.r1 [aj 0]
 rintro x st' b
 clear i
 obtain ⟨rfl, b⟩ := b
 obtain rfl := oi hr
 exact gw _ b

theorem pN (n : Nat) (r : Bool) (hr : fQ n = some r) : aM Tryz.prog 12 [] (aB r) := by
 unfold fQ at hr
 refine aM.bd G Tryz.func12 [.tmp 0] ?_
 unfold Tryz.f12
 simp only [gS]
 refine .seq (.r3 G 93 [] (.seq ?_))
 obtain ⟨N, J, a, L, hr⟩ := bd2 hr
 refine .gn G (ca1 (ok0 (fu n N J)) (ca3 (ok0 (tE n N 1 a L)))) (.ca cf0 (.ca (cfF cf0) (.mu 5 (.done (.n2 93 [(1, slT ae.c a.1), (2, aj a.2)] [] (.seq (.seq ?_)))))))
 rcases bT ((a.2 : Int) != 0) with i | i
 ·replace hr := b8 i hr
  refine .r0 G (.mu 1 (.p0 (v := aB true) (eB i) (.mu 40 (.done (.n2 93 [(1, slT ae.c a.1), (54, aB true)] [] (.cT (by kernel_rfl) (.seq (.ru G (.ret ?_)))))))))
  obtain rfl := oi hr
  exact aF.r1 [aB false]
 replace hr := bX i hr
 rcases bT (((a.1.length : Int) : Int) != 1) with j | j
 ·replace hr := b8 j hr
  refine .r0 G (.mu 1 (.p0 (v := aB false) (eB i) (.mu 3 (.pure (v := aB true) (by kernel_rfl) (eB j) (.mu 36 (.done (.n2 93 [(1, slT ae.c a.1), (54, aB true)] [] (.cT (by kernel_rfl) (.seq (.ru G (.ret ?_)))))))))))
  obtain rfl := oi hr
  exact aF.r1 [aB false]
 replace hr := bX j hr
 obtain ⟨b, hr⟩ := gd hr
 rcases bT (!(gt a.1 0).Closed) with l | l
 ·replace hr := b8 l hr
  refine .r0 G (.mu 1 (.p0 (v := aB false) (eB i) (.mu 3 (.pure (v := aB false) (by kernel_rfl) (eB j) (.mu 3 (.pure (v := .pp (a.1.flatMap ae.c) ((0 : Int).toNat * 2)) (by kernel_rfl) (tr (au b)) (.mu 1 (.pure (v := aB (gt a.1 0).Closed) (by kernel_rfl) (tr (aH (aK ae.len (aD b) (by decide : 0 < 2) (by omega : (0 : Int).toNat * 2 + 0 = (0 : Int).toNat * 2 + 0) (by kernel_rfl)))) (.pure (v := aB true) (by kernel_rfl) (eB l) (.mu 29 (.done (.n2 93 [(1, slT ae.c a.1), (54, aB true)] [] (.cT (by kernel_rfl) (.seq (.ru G (.ret ?_))))))))))))))))
  obtain rfl := oi hr
  exact aF.r1 [aB false]
 replace hr := bX l hr
 rcases bT ((((gt a.1 0).Points.length : Int) : Int) != 6) with o | o
 ·replace hr := b8 o hr
  refine .r0 G (.mu 1 (.p0 (v := aB false) (eB i) (.mu 3 (.pure (v := aB false) (by kernel_rfl) (eB j) (.mu 3 (.pure (v := .pp (a.1.flatMap ae.c) ((0 : Int).toNat * 2)) (by kernel_rfl) (tr (au b)) (.mu 1 (.pure (v := aB (gt a.1 0).Closed) (by kernel_rfl) (tr (aH (aK ae.len (aD b) (by decide : 0 < 2) (by omega : (0 : Int).toNat * 2 + 0 = (0 : Int).toNat * 2 + 0) (by kernel_rfl)))) (.pure (v := aB false) (by kernel_rfl) (eB l) (.mu 3 (.pure (v := .pp (a.1.flatMap ae.c) ((0 : Int).toNat * 2)) (by kernel_rfl) (tr (au b)) (.mu 1 (.pure (v := slT al.c (gt a.1 0).Points) (by kernel_rfl) (tr (aH (aK ae.len (aD b) (by decide : 1 < 2) (by omega : (0 : Int).toNat * 2 + 1 = (0 : Int).toNat * 2 + 1) (by kernel_rfl)))) (.mu 1 (.pure (v := aB true) (by kernel_rfl) (eB o) (.mu 21 (.done (.n2 93 [(1, slT ae.c a.1), (54, aB true)] [] (.cT (by kernel_rfl) (.seq (.ru G (.ret ?_))))))))))))))))))))))
  obtain rfl := oi hr
  exact aF.r1 [aB false]
 replace hr := bX o hr
 obtain ⟨g, hr⟩ := gd hr
 rcases bT (((gt (gt a.1 0).Points 1).A : Int) != 1) with k | k
 ·replace hr := b8 k hr
  refine .r0 G (.mu 1 (.p0 (v := aB false) (eB i) (.mu 3 (.pure (v := aB false) (by kernel_rfl) (eB j) (.mu 3 (.pure (v := .pp (a.1.flatMap ae.c) ((0 : Int).toNat * 2)) (by kernel_rfl) (tr (au b)) (.mu 1 (.pure (v := aB (gt a.1 0).Closed) (by kernel_rfl) (tr (aH (aK ae.len (aD b) (by decide : 0 < 2) (by omega : (0 : Int).toNat * 2 + 0 = (0 : Int).toNat * 2 + 0) (by kernel_rfl)))) (.pure (v := aB false) (by kernel_rfl) (eB l) (.mu 3 (.pure (v := .pp (a.1.flatMap ae.c) ((0 : Int).toNat * 2)) (by kernel_rfl) (tr (au b)) (.mu 1 (.pure (v := slT al.c (gt a.1 0).Points) (by kernel_rfl) (tr (aH (aK ae.len (aD b) (by decide : 1 < 2) (by omega : (0 : Int).toNat * 2 + 1 = (0 : Int).toNat * 2 + 1) (by kernel_rfl)))) (.mu 1 (.pure (v := aB false) (by kernel_rfl) (eB o) (.mu 3 (.pure (v := .pp (a.1.flatMap ae.c) ((0 : Int).toNat * 2)) (by kernel_rfl) (tr (au b)) (.mu 1 (.pure (v := slT al.c (gt a.1 0).Points) (by kernel_rfl) (tr (aH (aK ae.len (aD b) (by decide : 1 < 2) (by omega : (0 : Int).toNat * 2 + 1 = (0 : Int).toNat * 2 + 1) (by kernel_rfl)))) (.pure (v := .pp ((gt a.1 0).Points.flatMap al.c) ((1 : Int).toNat * 6)) (by kernel_rfl) (tr (au g)) (.mu 1 (.pure (v := aj (gt (gt a.1 0).Points 1).A) (by kernel_rfl) (tr (aH (aK al.len (aD g) (by decide : 0 < 6) (by omega : (1 : Int).toNat * 6 + 0 = (1 : Int).toNat * 6 + 0) (by kernel_rfl)))) (.pure (v := aB true) (by kernel_rfl) (eB k) (.mu 11 (.done (.n2 93 [(1, slT ae.c a.1), (54, aB true)] [] (.cT (by kernel_rfl) (.seq (.ru G (.ret ?_))))))))))))))))))))))))))))))
  obtain rfl := oi hr
  exact aF.r1 [aB false]
 replace hr := bX k hr
 refine .r0 G (.mu 1 (.p0 (v := aB false) (eB i) (.mu 3 (.pure (v := aB false) (by kernel_rfl) (eB j) (.mu 3 (.pure (v := .pp (a.1.flatMap ae.c) ((0 : Int).toNat * 2)) (by kernel_rfl) (tr (au b)) (.mu 1 (.pure (v := aB (gt a.1 0).Closed) (by kernel_rfl) (tr (aH (aK ae.len (aD b) (by decide : 0 < 2) (by omega : (0 : Int).toNat * 2 + 0 = (0 : Int).toNat * 2 + 0) (by kernel_rfl)))) (.pure (v := aB false) (by kernel_rfl) (eB l) (.mu 3 (.pure (v := .pp (a.1.flatMap ae.c) ((0 : Int).toNat * 2)) (by kernel_rfl) (tr (au b)) (.mu 1 (.pure (v := slT al.c (gt a.1 0).Points) (by kernel_rfl) (tr (aH (aK ae.len (aD b) (by decide : 1 < 2) (by omega : (0 : Int).toNat * 2 + 1 = (0 : Int).toNat * 2 + 1) (by kernel_rfl)))) (.mu 1 (.pure (v := aB false) (by kernel_rfl) (eB o) (.mu 3 (.pure (v := .pp (a.1.flatMap ae.c) ((0 : Int).toNat * 2)) (by kernel_rfl) (tr (au b)) (.mu 1 (.pure (v := slT al.c (gt a.1 0).Points) (by kernel_rfl) (tr (aH (aK ae.len (aD b) (by decide : 1 < 2) (by omega : (0 : Int).toNat * 2 + 1 = (0 : Int).toNat * 2 + 1) (by kernel_rfl)))) (.pure (v := .pp ((gt a.1 0).Points.flatMap al.c) ((1 : Int).toNat * 6)) (by kernel_rfl) (tr (au g)) (.mu 1 (.pure (v := aj (gt (gt a.1 0).Points 1).A) (by kernel_rfl) (tr (aH (aK al.len (aD g) (by decide : 0 < 6) (by omega : (1 : Int).toNat * 6 + 0 = (1 : Int).toNat * 6 + 0) (by kernel_rfl)))) (.pure (v := aB false) (by kernel_rfl) (eB k) (.mu 3 (.pure (v := .pp (a.1.flatMap ae.c) ((0 : Int).toNat * 2)) (by kernel_rfl) (tr (au b)) (.mu 1 (.pure (v := slT al.c (gt a.1 0).Points) (by kernel_rfl) (tr (aH (aK ae.len (aD b) (by decide : 1 < 2) (by omega : (0 : Int).toNat * 2 + 1 = (0 : Int).toNat * 2 + 1) (by kernel_rfl)))) (.pure (v := .pp ((gt a.1 0).Points.flatMap al.c) ((1 : Int).toNat * 6)) (by kernel_rfl) (tr (au g)) (.mu 1 (.pure (v := aj (gt (gt a.1 0).Points 1).B) (by kernel_rfl) (tr (aH (aK al.len (aD g) (by decide : 1 < 6) (by omega : (1 : Int).toNat * 6 + 1 = (1 : Int).toNat * 6 + 1) (by kernel_rfl)))) (.mu 2 (.done (.n2 93 [(1, slT ae.c a.1), (54, aB (((gt (gt a.1 0).Points 1).B : Int) != 4))] [] ?_)))))))))))))))))))))))))))))))))
 refine .cd hr ?_ ?_ <;> intro O hr
 ·refine .seq (.ru G (.ret ?_))
  obtain rfl := oi hr
  exact aF.r1 [aB false]
 refine .skip (.seq ?_)
 obtain ⟨t, u, f, w, hr⟩ := bd2 hr
 refine .gn G (ca1 (ok0 (fu n t u)) (ca3 (ok0 (tF n t 1 f w)))) (.ca cf0 (.ca (cfF cf0) (.mu 6 (.done (.n2 93 [(1, slT ae.c a.1), (2, aj f.2), (3, .hp 0 0)] [.own (ak.c f.1)] (.seq ?_))))))
 obtain ⟨x, z, m, C, hr⟩ := bd2 hr
 refine .tn G (ca1 (ok0 (fu n x z)) (ca3 (ok0 (oE n x (gt a.1 0) 1 1 m C)))) (.ca cf0 (.mu 1 (.pk (v := .pp (a.1.flatMap ae.c) ((0 : Int).toNat * 2)) (tr (au b)) (.pk (v := .agg (ae.c (gt a.1 0))) (tr (y := bt.ofP (dz (decide (2 <= ((a.1.flatMap ae.c).drop ((0 : Int).toNat * 2)).length)) (.agg (((a.1.flatMap ae.c).drop ((0 : Int).toNat * 2)).take 2)))) (bB ae.len (aD b) (by decide) (by omega : (0 : Int).toNat * 2 = (0 : Int).toNat * 2 + 0) (by kernel_rfl))) (.ca (cfF cf0) (.mu 5 ?_))))))
 refine .done ⟨by kernel_rfl, ?_⟩
 refine .n2 93 [(1, slT ae.c a.1), (2, aj f.2), (3, .hp 0 0), (4, aj m.1), (5, aj m.2)] [.own (ak.c f.1)] (.seq ?_)
 obtain ⟨q, D, hr⟩ := bd hr
 refine .g1 G (ok0 (q9 n 147 16 q D)) (.ca cf0 (.mu 6 (.done (.n2 93 [(1, slT ae.c a.1), (2, aj f.2), (3, .hp 0 0), (4, aj m.1), (5, aj m.2), (6, .hp 1 0)] [.own (ak.c f.1), .own (ak.c q.1)] (.seq ?_)))))
 rcases bT ((f.2 : Int) == 0) with d | d
 ·replace hr := b8 d hr
  rcases bT ((m.2 : Int) == 0) with e | e
  ·replace hr := b8 e hr
   rcases bT ((m.1 : Int) == 1) with h | h
   ·replace hr := b8 h hr
    obtain ⟨M, s, hr⟩ := bd hr
    rcases bT M with p | p
    ·subst p
     replace hr := b8 rfl hr
     obtain ⟨E, F, H, I, hr⟩ := bd2 hr
     refine .gn G (ca1 (ok0 (lB n f.1 q.1 true s)) (ca1 (ok0 (fu n E F)) (ca3 (ok0 (ti n E 1 a.1 H I))))) (.mu 1 (.p0 (v := aB true) (eB d) (.mu 2 (.pure (v := aB true) (by kernel_rfl) (eB e) (.mu 3 (.pure (v := aB true) (by kernel_rfl) (eB h) (.mu 4 (.ca cf0 (.mu 2 (.ca (cfF cf0) (.mu 1 (.ca (cfF (cfF cf0)) (.mu 3 (.done (.ret ?_)))))))))))))))
     obtain rfl := oi hr
     exact aF.r1 [aB ((H : Int) == 0)]
    subst p
    replace hr := bX rfl hr
    refine .g1 G (ok0 (lB n f.1 q.1 false s)) (.mu 1 (.p0 (v := aB true) (eB d) (.mu 2 (.pure (v := aB true) (by kernel_rfl) (eB e) (.mu 3 (.pure (v := aB true) (by kernel_rfl) (eB h) (.mu 4 (.ca cf0 (.mu 8 (.done (.ret ?_)))))))))))
    obtain rfl := oi hr
    exact aF.r1 [aB false]
   replace hr := bX h hr
   refine .r0 G (.mu 1 (.p0 (v := aB true) (eB d) (.mu 2 (.pure (v := aB true) (by kernel_rfl) (eB e) (.mu 3 (.pure (v := aB false) (by kernel_rfl) (eB h) (.mu 13 (.done (.ret ?_)))))))))
   obtain rfl := oi hr
   exact aF.r1 [aB false]
  replace hr := bX e hr
  refine .r0 G (.mu 1 (.p0 (v := aB true) (eB d) (.mu 2 (.pure (v := aB false) (by kernel_rfl) (eB e) (.mu 17 (.done (.ret ?_)))))))
  obtain rfl := oi hr
  exact aF.r1 [aB false]
 replace hr := bX d hr
 refine .r0 G (.mu 1 (.p0 (v := aB false) (eB d) (.mu 20 (.done (.ret ?_)))))
 obtain rfl := oi hr
 exact aF.r1 [aB false]

theorem l7 (n : Nat) (g : ar) (a : Int) (r : Bool) (hr : kV n g a = some r) : aM Tryz.prog 13 [.agg (ar.c g), aj a] (aB r) := by
 unfold kV at hr
 refine aM.bd G Tryz.func13 [.tmp 4] ?_
 unfold Tryz.f13
 simp only [gS]
 refine .seq (.r5 G [1] [(2, .hp 0 0)] [.own (ar.c g)] (.seq (.ru G (.ret ?_))))
 obtain rfl := oi hr
 exact aF.r1 [aB (decide ((g.Z.length : Int) <= a))]

theorem oL (n : Nat) (a : ak) (r : Int) (hr : fC n a = some r) : aM Tryz.prog 19 [.agg (ak.c a)] (aj r) := by
 unfold fC at hr
 refine aM.bd G Tryz.func19 [.tmp 2] ?_
 unfold Tryz.f19
 simp only [gS]
 refine .seq (.r2 G 12 [(1, .hp 0 0)] [.own (ak.c a)] (.seq (.ru G (.ret ?_))))
 obtain rfl := oi hr
 exact aF.r1 [aj (EN ((a.Num.Groups.length : Int) + (a.Den.Groups.length : Int)))]

theorem qx (n : Nat) {b : Int} {a : Int} (h : ([.at (.int .i64 b)] : List AV) = [.at (.int .i64 a)]) : dX n b = dX n a := by
 obtain rfl := dW h
 rfl
theorem gR (n : Nat) (b : Int) (r : Bool) (hr : dX n b = some r) : aM Tryz.prog 62 [aj b] (aB r) := by
 unfold dX at hr
 refine aM.bd G Tryz.func62 [.tmp 2] ?_
 unfold Tryz.f62
 simp only [gS]
 refine .seq (.r4 G [0] [] (.seq ?_))
 rcases bT (decide (b < (-1048576))) with a | a
 ·replace hr := b8 a hr
  refine .r0 G (.mu 1 (.p0 (v := aB true) (eB a) (.mu 5 (.done (.ret ?_)))))
  obtain rfl := oi hr
  exact aF.r1 [aB true]
 replace hr := bX a hr
 refine .r0 G (.mu 1 (.p0 (v := aB false) (eB a) (.mu 5 (.done (.ret ?_)))))
 obtain rfl := oi hr
 exact aF.r1 [aB (decide (b > 1048576))]

theorem pc (n : Nat) (g : ar) (r : Int) (hr : fR n g = some r) : aM Tryz.prog 23 [.agg (ar.c g)] (aj r) := by
 unfold fR at hr
 refine aM.bd G Tryz.func23 [.tmp 2] ?_
 unfold Tryz.f23
 simp only [gS]
 refine .seq (.r2 G 72 [(1, .hp 0 0)] [.own (ar.c g)] (.seq (.seq ?_)))
 rcases bT (decide (g.Width < 2)) with b | b
 ·replace hr := b8 b hr
  refine .r0 G (.mu 2 (.p0 (v := aB true) (eB b) (.mu 41 (.done (.nh [1, 48] [.own (ar.c g)] (.cT (by kernel_rfl) (.seq (.ru G (.ret ?_)))))))))
  obtain rfl := oi hr
  exact aF.r1 [aj 2]
 replace hr := bX b hr
 rcases bT (decide (g.Width > 64)) with d | d
 ·replace hr := b8 d hr
  refine .r0 G (.mu 2 (.p0 (v := aB false) (eB b) (.mu 3 (.pure (v := aB true) (by kernel_rfl) (eB d) (.mu 37 (.done (.nh [1, 48] [.own (ar.c g)] (.cT (by kernel_rfl) (.seq (.ru G (.ret ?_)))))))))))
  obtain rfl := oi hr
  exact aF.r1 [aj 2]
 replace hr := bX d hr
 rcases bT (decide (g.Height < 2)) with f | f
 ·replace hr := b8 f hr
  refine .r0 G (.mu 2 (.p0 (v := aB false) (eB b) (.mu 3 (.pure (v := aB false) (by kernel_rfl) (eB d) (.mu 4 (.pure (v := aB true) (by kernel_rfl) (eB f) (.mu 32 (.done (.nh [1, 48] [.own (ar.c g)] (.cT (by kernel_rfl) (.seq (.ru G (.ret ?_)))))))))))))
  obtain rfl := oi hr
  exact aF.r1 [aj 2]
 replace hr := bX f hr
 rcases bT (decide (g.Height > 64)) with i | i
 ·replace hr := b8 i hr
  refine .r0 G (.mu 2 (.p0 (v := aB false) (eB b) (.mu 3 (.pure (v := aB false) (by kernel_rfl) (eB d) (.mu 4 (.pure (v := aB false) (by kernel_rfl) (eB f) (.mu 4 (.pure (v := aB true) (by kernel_rfl) (eB i) (.mu 27 (.done (.nh [1, 48] [.own (ar.c g)] (.cT (by kernel_rfl) (.seq (.ru G (.ret ?_)))))))))))))))
  obtain rfl := oi hr
  exact aF.r1 [aj 2]
 replace hr := bX i hr
 rcases bT (decide (g.Step < 2)) with j | j
 ·replace hr := b8 j hr
  refine .r0 G (.mu 2 (.p0 (v := aB false) (eB b) (.mu 3 (.pure (v := aB false) (by kernel_rfl) (eB d) (.mu 4 (.pure (v := aB false) (by kernel_rfl) (eB f) (.mu 4 (.pure (v := aB false) (by kernel_rfl) (eB i) (.mu 4 (.pure (v := aB true) (by kernel_rfl) (eB j) (.mu 22 (.done (.nh [1, 48] [.own (ar.c g)] (.cT (by kernel_rfl) (.seq (.ru G (.ret ?_)))))))))))))))))
  obtain rfl := oi hr
  exact aF.r1 [aj 2]
 replace hr := bX j hr
 rcases bT (decide (g.Step > 65536)) with l | l
 ·replace hr := b8 l hr
  refine .r0 G (.mu 2 (.p0 (v := aB false) (eB b) (.mu 3 (.pure (v := aB false) (by kernel_rfl) (eB d) (.mu 4 (.pure (v := aB false) (by kernel_rfl) (eB f) (.mu 4 (.pure (v := aB false) (by kernel_rfl) (eB i) (.mu 4 (.pure (v := aB false) (by kernel_rfl) (eB j) (.mu 4 (.pure (v := aB true) (by kernel_rfl) (eB l) (.mu 17 (.done (.nh [1, 48] [.own (ar.c g)] (.cT (by kernel_rfl) (.seq (.ru G (.ret ?_)))))))))))))))))))
  obtain rfl := oi hr
  exact aF.r1 [aj 2]
 replace hr := bX l hr
 rcases bT (((g.Step.tmod 2) : Int) != 0) with o | o
 ·replace hr := b8 o hr
  refine .r0 G (.mu 2 (.p0 (v := aB false) (eB b) (.mu 3 (.pure (v := aB false) (by kernel_rfl) (eB d) (.mu 4 (.pure (v := aB false) (by kernel_rfl) (eB f) (.mu 4 (.pure (v := aB false) (by kernel_rfl) (eB i) (.mu 4 (.pure (v := aB false) (by kernel_rfl) (eB j) (.mu 4 (.pure (v := aB false) (by kernel_rfl) (eB l) (.mu 5 (.pure (v := aB true) (by kernel_rfl) (eB o) (.mu 11 (.done (.nh [1, 48] [.own (ar.c g)] (.cT (by kernel_rfl) (.seq (.ru G (.ret ?_)))))))))))))))))))))
  obtain rfl := oi hr
  exact aF.r1 [aj 2]
 replace hr := bX o hr
 obtain ⟨F, u, hr⟩ := bd hr
 rcases bT F with p | p
 ·subst p
  replace hr := b8 rfl hr
  refine .g1 G (ok0 (gR n g.X0 true u)) (.mu 2 (.p0 (v := aB false) (eB b) (.mu 3 (.pure (v := aB false) (by kernel_rfl) (eB d) (.mu 4 (.pure (v := aB false) (by kernel_rfl) (eB f) (.mu 4 (.pure (v := aB false) (by kernel_rfl) (eB i) (.mu 4 (.pure (v := aB false) (by kernel_rfl) (eB j) (.mu 4 (.pure (v := aB false) (by kernel_rfl) (eB l) (.mu 5 (.pure (v := aB false) (by kernel_rfl) (eB o) (.mu 4 (.ca cf0 (.mu 6 (.done (.nh [1, 48] [.own (ar.c g)] (.cT (by kernel_rfl) (.seq (.ru G (.ret ?_)))))))))))))))))))))))
  obtain rfl := oi hr
  exact aF.r1 [aj 2]
 subst p
 replace hr := bX rfl hr
 obtain ⟨z, s, hr⟩ := bd hr
 refine .gn G (ca1 (ok0 (gR n g.X0 false u)) (ca3 (ok0 (gR n g.Y0 z s)))) (.mu 2 (.p0 (v := aB false) (eB b) (.mu 3 (.pure (v := aB false) (by kernel_rfl) (eB d) (.mu 4 (.pure (v := aB false) (by kernel_rfl) (eB f) (.mu 4 (.pure (v := aB false) (by kernel_rfl) (eB i) (.mu 4 (.pure (v := aB false) (by kernel_rfl) (eB j) (.mu 4 (.pure (v := aB false) (by kernel_rfl) (eB l) (.mu 5 (.pure (v := aB false) (by kernel_rfl) (eB o) (.mu 4 (.ca cf0 (.mu 4 (.ca (cfA (fun h => by rw [sv s u (qx n h)]) cf0) (.mu 1 (.done (.nh [1, 48] [.own (ar.c g)] ?_)))))))))))))))))))))
 refine .cd hr ?_ ?_ <;> intro B hr
 ·refine .seq (.ru G (.ret ?_))
  obtain rfl := oi hr
  exact aF.r1 [aj 2]
 refine .skip (.seq (.seq (.r4 G [1] [(57, aB (((g.Z.length : Int) : Int) != (EN (g.Width * g.Height))))] ?_)))
 refine .cd hr ?_ ?_ <;> intro C hr
 ·refine .seq (.ru G (.ret ?_))
  obtain rfl := oi hr
  exact aF.r1 [aj 4]
 refine .skip (.seq (.seq (.r3 G 72 [(59, ch g.Z), (60, aj (g.Z.length : Int)), (61, aj 0)] (.block ?_))))
 replace hr := bd hr; obtain ⟨w, q, hr⟩ := hr
 refine .aL (σ := fun H => match H with | a => ⟨mkS 72 0 [(59, ch g.Z), (60, aj (g.Z.length : Int)), (61, aj a)], []⟩) (Q := fun x st' => match (generalizing := false) w with | .inl _ => x = .exit 0 /\ Wk 0 st' ⟨mkS 72 0 [], []⟩ | .inr (r0) => x = .ret /\ aF Tryz.prog [.tmp 2] (aj r0) .ret st') q ((Wk.gc [59, 60, 61] [] rfl pK0).to) ?_ ?_
 ·clear hr
  rintro m a hr
  show CQ _ _ _ _ _ ⟨_, _⟩
  refine .seq (.r4 G [59, 60, 61] [(62, aB (decide (a < (g.Z.length : Int))))] (.seq ?_))
  refine .cd hr ?_ ?_ <;> intro D hr
  ·refine .skip (.seq (.block (.seq ?_)))
   obtain ⟨t, hr⟩ := gd hr
   refine .r0 G (.p0 (v := .pp (g.Z.flatMap (iC .i64)) (a.toNat * 1)) (tr (au t)) (.p0 (v := aj (gt g.Z a)) (tr (aH (aK (aI .i64) (aD t) z1 (by omega : a.toNat * 1 = a.toNat * 1 + 0) (by kernel_rfl)))) (.mu 1 (.done (.nh [4, 59, 60, 61] [] (.seq ?_))))))
   rcases bT (((gt g.Z a) : Int) != (-2147483648)) with k | k
   ·replace hr := b8 k hr
    obtain ⟨A, y, hr⟩ := bd hr
    refine .g1 G (ok0 (gR n (gt g.Z a) A y)) (.mu 1 (.p0 (v := aB true) (eB k) (.mu 2 (.ca cf0 (.mu 1 (.done (.nh [59, 60, 61, 70] [] ?_)))))))
    refine .cd hr ?_ ?_ <;> intro E hr
    ·refine .seq (.ru G (.ret ?_))
     obtain rfl := oi hr
     exact ⟨rfl, aF.ret (vs := [aj 2]) (by kernel_rfl) (Sn.pure rfl)⟩
    refine .skip (.pop (.ru G ?_))
    exact aA (EN (a + 1)) hr ((Wk.gc [59, 60, 61] [] rfl pK0).to)
   replace hr := bX k hr
   refine .r0 G (.mu 1 (.p0 (v := aB false) (eB k) (.mu 4 (.done (.nh [59, 60, 61, 70] [] (.cF (by kernel_rfl) (.skip (.pop (.ru G ?_)))))))))
   exact aA (EN (a + 1)) hr ((Wk.gc [59, 60, 61] [] rfl pK0).to)
  refine .leave rfl ?_
  obtain rfl := oi hr
  exact ⟨rfl, ((Wk.gc [] [] rfl pK0).to)⟩
 rcases w with ⟨⟩ | r0
 ·rintro x st' e
  clear q
  obtain ⟨rfl, e⟩ := e
  refine aV _ rfl (.wk e (.seq (.ru G (.ret ?_))))
  obtain rfl := oi hr
  exact aF.r1 [aj 0]
 rintro x st' e
 clear q
 obtain ⟨rfl, e⟩ := e
 obtain rfl := oi hr
 exact gw _ e

theorem nk (n : Nat) (g : ar) (r : List (A3 Int)) (hr : eG n g = some r) : aM Tryz.prog 67 [.agg (ar.c g)] (slT av.c r) := by
 unfold eG at hr
 refine aM.bd G Tryz.func67 [.tmp 2] ?_
 unfold Tryz.f67
 simp only [gS]
 refine .seq (.r2 G 87 [(1, .hp 0 0)] [.own (ar.c g)] (.seq (.r5 G [1] [(3, .hs 1 0 0 3)] [.own (ar.c g), .own []] (.seq (.seq (.r4 G [1, 3] [(12, aj (EN (g.Height - 1))), (13, aj 0)] (.block ?_)))))))
 replace hr := bd hr; obtain ⟨A, B, hr⟩ := hr
 refine .aL (σ := fun N => match N with | (C, e) => ⟨mkS 87 0 [(1, .hp 0 0), (3, .hs 1 0 C.length 3), (12, aj (EN (g.Height - 1))), (13, aj e)], [.own (ar.c g), .own (C.flatMap av.c)]⟩) (Q := fun x st' => x = .exit 0 /\ Wk 0 st' ⟨mkS 87 0 [(3, .hs 0 0 A.length 3)], [.own (A.flatMap av.c)]⟩) B ((Wk.gc [1, 3, 12, 13] [(0, true), (1, false)] rfl (pKt (pKc trivial))).to) ?_ ?_
 ·clear hr
  rintro m ⟨C, e⟩ hr
  show CQ _ _ _ _ _ ⟨_, _⟩
  refine .seq (.r4 G [1, 3, 12, 13] [(14, aB (decide (e < (EN (g.Height - 1)))))] (.seq ?_))
  refine .cd hr ?_ ?_ <;> intro T hr
  ·refine .skip (.seq (.block (.seq (.r4 G [1, 3, 12, 13] [(4, aj e)] (.seq (.r4 G [1, 3, 4, 12, 13] [(18, aj (EN (g.Width - 1))), (19, aj 0)] (.block ?_)))))))
   replace hr := bd hr; obtain ⟨q, D, hr⟩ := hr
   refine .aL (σ := fun N => match N with | (f, i) => ⟨mkS 87 0 [(1, .hp 0 0), (3, .hs 1 0 f.length 3), (4, aj e), (12, aj (EN (g.Height - 1))), (13, aj e), (18, aj (EN (g.Width - 1))), (19, aj i)], [.own (ar.c g), .own (f.flatMap av.c)]⟩) (Q := fun x st' => x = .exit 2 /\ Wk 0 st' ⟨mkS 87 0 [(1, .hp 0 0), (3, .hs 1 0 q.length 3), (12, aj (EN (g.Height - 1))), (13, aj e)], [.own (ar.c g), .own (q.flatMap av.c)]⟩) D ((Wk.gc [1, 3, 4, 12, 13, 18, 19] [(0, true), (1, false)] rfl (pKt (pKo av.c av.pure C trivial))).to) ?_ ?_
   ·clear hr
    rintro m ⟨f, i⟩ hr
    show CQ _ _ _ _ _ ⟨_, _⟩
    refine .seq (.r4 G [1, 3, 4, 12, 13, 18, 19] [(20, aB (decide (i < (EN (g.Width - 1)))))] (.seq ?_))
    refine .cd hr ?_ ?_ <;> intro O hr
    ·refine .skip (.seq (.block (.seq (.r4 G [1, 3, 4, 12, 13, 18, 19] [(5, aj i)] (.seq (.r4 G [1, 3, 4, 12, 13, 18, 19] [(6, aj (EN ((EN (e * g.Width)) + i)))] ?_))))))
     obtain ⟨o, I, hr⟩ := bd hr
     refine .wk ((Wk.refl _).to (c := ⟨mkS 87 0 [(1, .hp 0 0), (3, .hs 1 0 f.length 3), (4, aj e), (6, aj o), (12, aj (EN (g.Height - 1))), (13, aj e), (18, aj (EN (g.Width - 1))), (19, aj i)], [.own (ar.c g), .own (f.flatMap av.c)]⟩) (by rw [oi I]; first | done | kernel_rfl)) <| .seq <| .r5 G [1, 3, 4, 12, 13, 18, 19] [(48, .hs 2 0 2 3), (49, aj 2), (50, aj 0)] [.own (ar.c g), .own (f.flatMap av.c), .own [aj o, aj (EN (o + 1)), aj (EN ((EN (o + g.Width)) + 1)), aj o, aj (EN ((EN (o + g.Width)) + 1)), aj (EN (o + g.Width))]] <| .block ?_
     obtain ⟨b, J, hr⟩ := bd hr
     refine .wk ((Wk.refl _).to (c := ⟨mkS 87 0 [(1, .hp 0 0), (3, .hs 1 0 f.length 3), (4, aj e), (12, aj (EN (g.Height - 1))), (13, aj e), (18, aj (EN (g.Width - 1))), (19, aj i), (48, .hs 2 0 b.length 3), (49, aj 2), (50, aj 0)], [.own (ar.c g), .own (f.flatMap av.c), .own (b.flatMap av.c)]⟩) (by rw [<- oi J]; kernel_rfl)) ?_
     replace hr := bd hr; obtain ⟨s, E, hr⟩ := hr
     refine .aL (σ := fun N => match N with | (d, a) => ⟨mkS 87 0 [(1, .hp 0 0), (3, .hs 1 0 d.length 3), (4, aj e), (12, aj (EN (g.Height - 1))), (13, aj e), (18, aj (EN (g.Width - 1))), (19, aj i), (48, .hs 2 0 b.length 3), (49, aj 2), (50, aj a)], [.own (ar.c g), .own (d.flatMap av.c), .own (b.flatMap av.c)]⟩) (Q := fun x st' => x = .exit 4 /\ Wk 0 st' ⟨mkS 87 0 [(1, .hp 0 0), (3, .hs 1 0 s.length 3), (4, aj e), (12, aj (EN (g.Height - 1))), (13, aj e), (18, aj (EN (g.Width - 1))), (19, aj i)], [.own (ar.c g), .own (s.flatMap av.c)]⟩) E ((Wk.gc [1, 3, 4, 12, 13, 18, 19, 48, 49, 50] [(0, true), (1, false), (2, false)] rfl (pKt (pKo av.c av.pure f (pKo av.c av.pure b trivial)))).to) ?_ ?_
     ·clear hr
      rintro m ⟨d, a⟩ hr
      show CQ _ _ _ _ _ ⟨_, _⟩
      refine .seq (.r4 G [1, 3, 4, 12, 13, 18, 19, 48, 49, 50] [(51, aB (decide (a < 2)))] (.seq ?_))
      refine .cd hr ?_ ?_ <;> intro R hr
      ·refine .skip (.seq (.block (.seq ?_)))
       obtain ⟨F, hr⟩ := gd hr
       refine .r0 G (.p0 (v := .hp 2 (0 + a.toNat * 3)) (tr (au F)) (.p0 (v := .agg (av.c (gt b a))) (tr (y := bt.ofP (dz (decide (3 <= ((b.flatMap av.c).drop (0 + a.toNat * 3)).length)) (.agg (((b.flatMap av.c).drop (0 + a.toNat * 3)).take 3)))) (bB av.len (aD F) (by decide) (by omega : 0 + a.toNat * 3 = a.toNat * 3 + 0) (by kernel_rfl))) (.mu 2 (.done (.nh [1, 3, 4, 8, 12, 13, 18, 19, 48, 49, 50] [.own (ar.c g), .own (d.flatMap av.c), .own (b.flatMap av.c), .own (av.c (gt b a))] (.seq ?_))))))
       obtain ⟨j, hr⟩ := gd hr
       rcases bT (((gt g.Z (gt b a).e0) : Int) != (-2147483648)) with k | k
       ·replace hr := b8 k hr
        obtain ⟨t, hr⟩ := gd hr
        rcases bT (((gt g.Z (gt b a).e1) : Int) != (-2147483648)) with p | p
        ·replace hr := b8 p hr
         obtain ⟨H, hr⟩ := gd hr
         refine .r0 G (.mu 4 (.p0 (v := .pp (g.Z.flatMap (iC .i64)) ((gt b a).e0.toNat * 1)) (tr (au j)) (.p0 (v := aj (gt g.Z (gt b a).e0)) (tr (aH (aK (aI .i64) (aD j) z1 (by omega : (gt b a).e0.toNat * 1 = (gt b a).e0.toNat * 1 + 0) (by kernel_rfl)))) (.p0 (v := aB true) (eB k) (.mu 5 (.pure (v := .pp (g.Z.flatMap (iC .i64)) ((gt b a).e1.toNat * 1)) (by kernel_rfl) (tr (au t)) (.pure (v := aj (gt g.Z (gt b a).e1)) (by kernel_rfl) (tr (aH (aK (aI .i64) (aD t) z1 (by omega : (gt b a).e1.toNat * 1 = (gt b a).e1.toNat * 1 + 0) (by kernel_rfl)))) (.pure (v := aB true) (by kernel_rfl) (eB p) (.mu 6 (.pure (v := .pp (g.Z.flatMap (iC .i64)) ((gt b a).e2.toNat * 1)) (by kernel_rfl) (tr (au H)) (.pure (v := aj (gt g.Z (gt b a).e2)) (by kernel_rfl) (tr (aH (aK (aI .i64) (aD H) z1 (by omega : (gt b a).e2.toNat * 1 = (gt b a).e2.toNat * 1 + 0) (by kernel_rfl)))) (.mu 2 (.done (.nh [1, 3, 4, 8, 12, 13, 18, 19, 48, 49, 50, 78] [.own (ar.c g), .own (d.flatMap av.c), .own (b.flatMap av.c), .own (av.c (gt b a))] ?_))))))))))))))
         refine .cd hr ?_ ?_ <;> intro S hr
         ·obtain ⟨L, M, hr⟩ := gd2 hr
          refine .r0 G (.mu 3 (.e0 (v := .hs 5 0 (d ++ [(gt b a)]).length 3) (ws := [(1, .dead), (5, .own ((d ++ [(gt b a)]).flatMap av.c))]) (tr (eJ (new := (av.c (gt b a))) (l := d) (xs := [(gt b a)]) av.len rfl rfl (by kernel_rfl) L M)) (.mu 1 (.done (.pop (.ru G ?_))))))
          exact aA (d ++ [(gt b a)], EN (a + 1)) hr ((Wk.gc [1, 3, 4, 12, 13, 18, 19, 48, 49, 50] [(0, true), (5, false), (2, false)] rfl (pKt (pKo av.c av.pure (d ++ [(gt b a)]) (pKo av.c av.pure b trivial)))).to)
         refine .skip (.pop (.ru G ?_))
         exact aA (d, EN (a + 1)) hr ((Wk.gc [1, 3, 4, 12, 13, 18, 19, 48, 49, 50] [(0, true), (1, false), (2, false)] rfl (pKt (pKo av.c av.pure d (pKo av.c av.pure b trivial)))).to)
        replace hr := bX p hr
        refine .r0 G (.mu 4 (.p0 (v := .pp (g.Z.flatMap (iC .i64)) ((gt b a).e0.toNat * 1)) (tr (au j)) (.p0 (v := aj (gt g.Z (gt b a).e0)) (tr (aH (aK (aI .i64) (aD j) z1 (by omega : (gt b a).e0.toNat * 1 = (gt b a).e0.toNat * 1 + 0) (by kernel_rfl)))) (.p0 (v := aB true) (eB k) (.mu 5 (.pure (v := .pp (g.Z.flatMap (iC .i64)) ((gt b a).e1.toNat * 1)) (by kernel_rfl) (tr (au t)) (.pure (v := aj (gt g.Z (gt b a).e1)) (by kernel_rfl) (tr (aH (aK (aI .i64) (aD t) z1 (by omega : (gt b a).e1.toNat * 1 = (gt b a).e1.toNat * 1 + 0) (by kernel_rfl)))) (.pure (v := aB false) (by kernel_rfl) (eB p) (.mu 10 (.done (.nh [1, 3, 4, 8, 12, 13, 18, 19, 48, 49, 50, 78] [.own (ar.c g), .own (d.flatMap av.c), .own (b.flatMap av.c), .own (av.c (gt b a))] (.cF (by kernel_rfl) (.skip (.pop (.ru G ?_)))))))))))))))
        exact aA (d, EN (a + 1)) hr ((Wk.gc [1, 3, 4, 12, 13, 18, 19, 48, 49, 50] [(0, true), (1, false), (2, false)] rfl (pKt (pKo av.c av.pure d (pKo av.c av.pure b trivial)))).to)
       replace hr := bX k hr
       refine .r0 G (.mu 4 (.p0 (v := .pp (g.Z.flatMap (iC .i64)) ((gt b a).e0.toNat * 1)) (tr (au j)) (.p0 (v := aj (gt g.Z (gt b a).e0)) (tr (aH (aK (aI .i64) (aD j) z1 (by omega : (gt b a).e0.toNat * 1 = (gt b a).e0.toNat * 1 + 0) (by kernel_rfl)))) (.p0 (v := aB false) (eB k) (.mu 18 (.done (.nh [1, 3, 4, 8, 12, 13, 18, 19, 48, 49, 50, 78] [.own (ar.c g), .own (d.flatMap av.c), .own (b.flatMap av.c), .own (av.c (gt b a))] (.cF (by kernel_rfl) (.skip (.pop (.ru G ?_)))))))))))
       exact aA (d, EN (a + 1)) hr ((Wk.gc [1, 3, 4, 12, 13, 18, 19, 48, 49, 50] [(0, true), (1, false), (2, false)] rfl (pKt (pKo av.c av.pure d (pKo av.c av.pure b trivial)))).to)
      refine .leave rfl ?_
      obtain rfl := oi hr
      exact ⟨rfl, ((Wk.gc [1, 3, 4, 12, 13, 18, 19] [(0, true), (1, false)] rfl (pKt (pKo av.c av.pure d trivial))).to)⟩
     rintro x st' u
     clear E
     obtain ⟨rfl, u⟩ := u
     refine aV _ rfl (.pop (.wk u (.ru G ?_)))
     exact aA (s, EN (i + 1)) hr ((Wk.gc [1, 3, 4, 12, 13, 18, 19] [(0, true), (1, false)] rfl (pKt (pKo av.c av.pure s trivial))).to)
    refine .leave rfl ?_
    obtain rfl := oi hr
    exact ⟨rfl, ((Wk.gc [1, 3, 12, 13] [(0, true), (1, false)] rfl (pKt (pKo av.c av.pure f trivial))).to)⟩
   rintro x st' w
   clear D
   obtain ⟨rfl, w⟩ := w
   refine aV _ rfl (.pop (.wk w (.ru G ?_)))
   exact aA (q, EN (e + 1)) hr ((Wk.gc [1, 3, 12, 13] [(0, true), (1, false)] rfl (pKt (pKo av.c av.pure q trivial))).to)
  refine .leave rfl ?_
  obtain rfl := oi hr
  exact ⟨rfl, ((Wk.gc [3] [(1, false)] rfl (pKo av.c av.pure C trivial)).to)⟩
 rintro x st' z
 clear B
 obtain ⟨rfl, z⟩ := z
 refine aV _ rfl (.wk z (.seq (.r3 G 87 [(2, .hs 0 0 A.length 3)] (.ret ?_))))
 obtain rfl := oi hr
 exact aF.ret (vs := [.hs 0 0 A.length 3]) (by kernel_rfl) (Sn.hs rfl (.inl rfl) (SnC.pure (aZ av.pure _)) (fun h => cB h))

theorem p9 (n : Nat) (a : Int) (b : Int) (r : A2 Int) (hr : gB n a b = some r) : aM Tryz.prog 68 [aj a, aj b] (.agg (ah.c r)) := by
 unfold gB at hr
 refine aM.bd G Tryz.func68 [.cell 4 49] ?_
 unfold Tryz.f68
 simp only [gS]
 refine .seq (.r5 G [0, 1] [(4, .hp 0 0)] [.own [aj 0, aj 0]] (.seq (.r5 G [4] [] [.own [aj (mn a b), aj (mx a b)]] (.ret ?_))))
 obtain rfl := oi hr
 exact aF.r1 [.agg [aj (mn a b), aj (mx a b)]]

theorem o8 {g : ar} {k : Int} {a : ar} {b : Int} (h : ([.agg [.at (.int .i64 g.X0), .at (.int .i64 g.Y0), .at (.int .i64 g.Step), .at (.int .i64 g.Width), .at (.int .i64 g.Height), slT (iC .i64) g.Z], .at (.int .i64 k)] : List AV) = [.agg [.at (.int .i64 a.X0), .at (.int .i64 a.Y0), .at (.int .i64 a.Step), .at (.int .i64 a.Width), .at (.int .i64 a.Height), slT (iC .i64) a.Z], .at (.int .i64 b)]) : g = a /\ k = b := by
 obtain ⟨_, _, _, _, _, _⟩ := g
 obtain ⟨_, _, _, _, _, _⟩ := a
 simp only [List.cons.injEq, AV.agg.injEq, AV.at.injEq, Value.int.injEq, Value.bool.injEq, AV.fn.injEq, AV.pp.injEq, true_and, and_true, dY] at h
 simp_all
theorem pK (n : Nat) {g : ar} {k : Int} {a : ar} {b : Int} (h : ([.agg [.at (.int .i64 g.X0), .at (.int .i64 g.Y0), .at (.int .i64 g.Step), .at (.int .i64 g.Width), .at (.int .i64 g.Height), slT (iC .i64) g.Z], .at (.int .i64 k)] : List AV) = [.agg [.at (.int .i64 a.X0), .at (.int .i64 a.Y0), .at (.int .i64 a.Step), .at (.int .i64 a.Width), .at (.int .i64 a.Height), slT (iC .i64) a.Z], .at (.int .i64 b)]) : bb n g k = bb n a b := by
 obtain ⟨rfl, rfl⟩ := o8 h
 rfl
theorem fV (n : Nat) (g : ar) (k : Int) (r : an) (hr : bb n g k = some r) : aM Tryz.prog 26 [.agg (ar.c g), aj k] (.agg (an.c r)) := by
 unfold bb at hr
 refine aM.bd G Tryz.func26 [.cell 4 59] ?_
 unfold Tryz.f26
 simp only [gS]
 refine .seq (.r5 G [1] [(2, .hp 0 0), (4, .hp 1 0)] [.own (ar.c g), .own zN4] (.seq ?_))
 obtain ⟨d, hr⟩ := gd hr
 obtain ⟨a, e, b, f, hr⟩ := bd2 hr
 refine .tn G (ca1 (ok0 (fU n (EN (g.X0 + (EN ((k.tmod g.Width) * g.Step)))) a e)) (ca3 (ok0 (fU n (EN (g.Y0 + (EN ((EN (k.tdiv g.Width)) * g.Step)))) b f)))) (.mu 5 (.pk (v := aj (k.tmod g.Width)) (oa (x := k) (y := g.Width) (by kernel_rfl) (by kernel_rfl) d) (.mu 4 (.ca cf0 (.mu 5 (.pk (v := aj (EN (k.tdiv g.Width))) (pD (x := k) (y := g.Width) (by kernel_rfl) (by kernel_rfl) d) (.mu 4 (.ca (cfA (fun h => by rw [sv f e (pr n h)]) cf0) (.mu 2 ?_)))))))))
 refine .done ⟨by kernel_rfl, ?_⟩
 refine .nh [4] [.own (ar.c g), .own [aB a.Num.Negative, aC a.Num.Groups, aB a.Den.Negative, aC a.Den.Groups, aB b.Num.Negative, aC b.Num.Groups, aB b.Den.Negative, aC b.Den.Groups]] (.ret ?_)
 obtain rfl := oi hr
 exact aF.r1 [.agg [aB a.Num.Negative, aC a.Num.Groups, aB a.Den.Negative, aC a.Den.Groups, aB b.Num.Negative, aC b.Num.Groups, aB b.Den.Negative, aC b.Den.Groups]]

theorem qH (n : Nat) {b : ak} {y : ak} {a : ak} {d : ak} (h : ([.agg (ak.c b), .agg (ak.c y)] : List AV) = [.agg (ak.c a), .agg (ak.c d)]) : bH n b y = bH n a d := by
 obtain ⟨rfl, rfl⟩ := gj h
 rfl
theorem ia (n : Nat) (a : ak) (y : ak) (r : ak) (hr : bH n a y = some r) : aM Tryz.prog 39 [.agg (ak.c a), .agg (ak.c y)] (.agg (ak.c r)) := by
 unfold bH at hr
 refine aM.bd G Tryz.func39 [.cell 4 42] ?_
 unfold Tryz.f39
 simp only [gS]
 refine .seq (.r2 G 22 [(2, .hp 0 0), (3, .hp 1 0), (4, .hp 2 0)] [.own (ak.c a), .own (ak.c y), .own zN2] (.seq ?_))
 obtain ⟨b, i, hr⟩ := bd hr
 refine .g1 G (ok0 (dT n a b i)) (.mu 1 (.ca cf0 (.mu 2 (.done (.nh [3, 4, 5] [.own (ak.c a), .own (ak.c y), .own zN2, .own (ak.c b)] (.seq ?_))))))
 obtain ⟨d, j, hr⟩ := bd hr
 refine .g1 G (ok0 (dT n y d j)) (.mu 1 (.ca cf0 (.mu 2 (.done (.nh [4, 5, 6] [.own (ak.c a), .own (ak.c y), .own zN2, .own (ak.c b), .own (ak.c d)] (.seq ?_))))))
 obtain ⟨l, e, m, f, k, g, hr⟩ := bd3 hr
 refine .tn G (ca1 (ok0 (c5 n b.Num d.Num l e)) (ca1 (ok0 (c5 n b.Den d.Den m f)) (ca3 (ok0 (ib n l m k g))))) (.mu 4 (.ca cf0 (.mu 4 (.ca (cfA (fun h => by rw [sv f e (gW n h)]) cf0) (.ca (cfF (cfF cf0)) (.mu 1 ?_))))))
 refine .done ⟨by kernel_rfl, ?_⟩
 refine .nh [4] [.own (ak.c a), .own (ak.c y), .own (ak.c k), .own (ak.c b), .own (ak.c d)] (.ret ?_)
 obtain rfl := oi hr
 exact aF.r1 [.agg (ak.c k)]
end Go.L
