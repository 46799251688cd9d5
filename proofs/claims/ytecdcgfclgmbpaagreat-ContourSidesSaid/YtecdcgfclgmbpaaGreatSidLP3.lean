
import Derived.Test.YtecdcgfclgmbpaaGreatSidLP2
import Derived.Test.YtecdcgfclgmbpaaGreatL0Sids
import Derived.Test.YtecdcgfclgmbpaaGreatSortCSids
import Derived.Test.YtecdcgfclgmbpaaGreatSortKSids
import Derived.Test.YtecdcgfclgmbpaaGreatChecked
import Derived.KernelRfl
set_option linter.all false
set_option maxRecDepth 100000
set_option maxHeartbeats 4000000
namespace Go.L
open Go Go.Eng Go.Proofs
theorem j9 (n : Nat) (a : List Int) (d : Int) (r : List Int × Int) (hr : gk n a d = some r) : aK Tryz.prog 186 [av a, cx d] (.tup [av r.1, cx r.2]) := by
 unfold gk at hr
 refine aK.bd G Tryz.func186 [.tmp 4, .tmp 5] ?_
 unfold Tryz.f186
 simp only [gS]
 refine .seq (.r4 G [0, 1] [] (.seq ?_))
 obtain ⟨A, B, C, hr⟩ := gd3 hr
 refine .r0 G (.mu 2 (.e0 (v := .hs 0 0 (List.replicate (a.length : Int).toNat ((0 : Int) : Int)).length 1) (ws := [(0, .own ((List.replicate (a.length : Int).toNat ((0 : Int) : Int)).flatMap iCu))]) (tr (ln (c := iCu) (z := (0 : Int)) (n := (a.length : Int)) (by_ := 4) rfl A B C)) (.mu 1 (.done (.nh [0, 1, 6] [.own ((List.replicate (a.length : Int).toNat ((0 : Int) : Int)).flatMap iCu)] (.seq (.r4 G [0, 1, 6] [(7, cx 0)] (.seq (.seq (.r4 G [0, 1, 6, 7] [(8, ag (G1 ((a.length : Int) - 1)))] (.block ?_)))))))))))
 replace hr := bd hr; obtain ⟨t, p, hr⟩ := hr
 refine .aN (σ := fun E => match E with | (g, f, e) => ⟨mkS 42 0 [(0, av a), (1, cx d), (6, .hs 0 0 g.length 1), (7, cx f), (8, ag e)], [.own (g.flatMap iCu)]⟩) (Q := fun x st' => match (generalizing := false) t with | (i, j) => x = .exit 0 /\ Wk 0 st' ⟨mkS 42 0 [(6, .hs 0 0 i.length 1), (7, cx j)], [.own (i.flatMap iCu)]⟩) p ((Wk.gc [0, 1, 6, 7, 8] [(0, false)] rfl (pKo iCu (aA _) (List.replicate (a.length : Int).toNat ((0 : Int) : Int)) trivial)).to) ?_ ?_
 ·clear hr
  rintro m ⟨g, f, e⟩ hr
  refine CQ.sh ?_
  refine .seq (.seq (.r4 G [0, 1, 6, 7, 8] [(17, aB (decide (e >= 0)))] ?_))
  refine .cd hr ?_ ?_ <;> intro D hr
  ·refine .skip (.seq (.block (.seq ?_)))
   obtain ⟨q, hr⟩ := gd hr
   refine .r0 G (.mu 4 (.p0 (v := .pp (a.flatMap iCu) (e.toNat * 1)) (tr (ar q)) (.p0 (v := a7 (gt a e)) (tr (aI (aJ (aG .u32) (aE q) z1 (by omega : e.toNat * 1 = e.toNat * 1 + 0) kRf))) (.mu 3 (.done (.nh [0, 1, 6, 8, 9] [.own (g.flatMap iCu)] (.seq ?_)))))))
   obtain ⟨s, k, hr⟩ := gd2 hr
   refine .r0 G (.mu 4 (.p0 (v := cx (wFu ((wFu ((wFu (f * 1000000000)) + (wFu (gt a e)))).tdiv d))) (oD (x := wFu ((wFu (f * 1000000000)) + (wFu (gt a e)))) (y := d) kRf kRf s) (.mu 1 (.p0 (v := .hp 0 (0 + e.toNat * 1)) (tr (ar k)) (.e0 (v := .unk) (ws := [(0, .own ((g.set e.toNat (aa .u32 (wFu ((wFu ((wFu (f * 1000000000)) + (wFu (gt a e)))).tdiv d)))).flatMap iCu))]) (tr (jn (ju (cy (n := 1) (aG .u32) (aE k) (lbT rfl) (by omega : 0 + e.toNat * 1 = e.toNat * 1 + 0))) (congrArg Blk.own (dc (xs := [a7 (aa .u32 (wFu ((wFu ((wFu (f * 1000000000)) + (wFu (gt a e)))).tdiv d)))]) (aG .u32) (aE k) (lbT rfl) (by omega : 0 + e.toNat * 1 = e.toNat * 1 + 0) kRf)))) (.done (.nh [0, 1, 6, 8, 9] [.own ((g.set e.toNat (aa .u32 (wFu ((wFu ((wFu (f * 1000000000)) + (wFu (gt a e)))).tdiv d)))).flatMap iCu)] (.r0 G (.mu 2 (.p0 (v := cx ((wFu ((wFu (f * 1000000000)) + (wFu (gt a e)))).tmod d)) (mi (x := wFu ((wFu (f * 1000000000)) + (wFu (gt a e)))) (y := d) kRf kRf s) (.mu 1 (.done (.pop (.ru G ?_))))))))))))))
   exact az (g.set e.toNat (aa .u32 (wFu ((wFu ((wFu (f * 1000000000)) + (wFu (gt a e)))).tdiv d))), (wFu ((wFu (f * 1000000000)) + (wFu (gt a e)))).tmod d, G1 (e - 1)) hr ((Wk.iF 6 (b := 0) (es := 1) (len := g.length) (g.set e.toNat (aa .u32 (wFu ((wFu ((wFu (f * 1000000000)) + (wFu (gt a e)))).tdiv d)))).length kRf (Eq.symm (List.length_set.trans rfl))).trans ((Wk.gc [0, 1, 6, 7, 8] [(0, false)] rfl (pKo iCu (aA _) (g.set e.toNat (aa .u32 (wFu ((wFu ((wFu (f * 1000000000)) + (wFu (gt a e)))).tdiv d)))) trivial)).to))
  refine .leave rfl ?_
  obtain rfl := oi hr
  exact ⟨rfl, ((Wk.gc [6, 7] [(0, false)] rfl (pKo iCu (aA _) g trivial)).to)⟩
 rcases t with ⟨i, j⟩
 rintro x st' o
 clear p
 obtain ⟨rfl, o⟩ := o
 refine aU _ rfl (.wk o (.seq ?_))
 obtain ⟨u, w, hr⟩ := bd hr
 refine .g1 G (b8 (args := [aB false, .hs 0 0 i.length 1]) (l := [0]) (Sp (SnL.cons (Sn.hs rfl (.inl rfl) (SnC.pure (aY (aA _) _)) (fun h => cc h)) SnL.nil)) (aR n false i u w)) (.mu 1 (.ca cf0 (.mu 4 (.done (.ret ?_)))))
 obtain rfl := oi hr
 exact aH.ret (vs := [av u.Groups, cx j]) kRf (Sn.tup (Sp (Sp SnL.nil)))

theorem iD (n : Nat) (a : List Int) (b : List Int) (r : Int) (hr : fz n a b = some r) : aK Tryz.prog 155 [av a, av b] (ag r) := by
 unfold fz at hr
 refine aK.bd G Tryz.func155 [.tmp 4] ?_
 unfold Tryz.f155
 simp only [gS]
 refine .seq (.r4 G [0, 1] [] (.seq (.seq (.r4 G [0, 1] [(10, aB (((a.length : Int) : Int) != (b.length : Int)))] ?_))))
 refine .cd hr ?_ ?_ <;> intro l hr
 ·refine .seq (.seq (.r3 G 41 [(15, aB (decide ((a.length : Int) < (b.length : Int))))] ?_))
  refine .cd hr ?_ ?_ <;> intro o hr
  ·refine .seq (.ru G (.ret ?_))
   obtain rfl := oi hr
   exact aH.r1 [ag (-1)]
  refine .skip (.seq (.ru G (.ret ?_)))
  obtain rfl := oi hr
  exact aH.r1 [ag 1]
 refine .skip (.seq (.seq (.r4 G [0, 1] [(5, ag (G1 ((a.length : Int) - 1)))] (.block ?_))))
 replace hr := bd hr; obtain ⟨h, g, hr⟩ := hr
 refine .aN (σ := fun p => match p with | c => ⟨mkS 41 0 [(0, av a), (1, av b), (5, ag c)], []⟩) (Q := fun x st' => match (generalizing := false) h with | .inl _ => x = .exit 0 /\ Wk 0 st' ⟨mkS 41 0 [], []⟩ | .inr (r0) => x = .ret /\ aH Tryz.prog [.tmp 4] (ag r0) .ret st') g ((Wk.gc [0, 1, 5] [] rfl pK0).to) ?_ ?_
 ·clear hr
  rintro m c hr
  refine CQ.sh ?_
  refine .seq (.seq (.r4 G [0, 1, 5] [(20, aB (decide (c >= 0)))] ?_))
  refine .cd hr ?_ ?_ <;> intro i hr
  ·refine .skip (.seq (.block (.seq (.seq ?_))))
   obtain ⟨e, f, hr⟩ := gd2 hr
   refine .eX G bO (.mu 2 (.pk (v := .pp (a.flatMap iCu) (c.toNat * 1)) (tr (ar e)) (.pk (v := a7 (gt a c)) (tr (aI (aJ (aG .u32) (aE e) z1 (by omega : c.toNat * 1 = c.toNat * 1 + 0) kRf))) (.mu 2 (.pk (v := .pp (b.flatMap iCu) (c.toNat * 1)) (tr (ar f)) (.pk (v := a7 (gt b c)) (tr (aI (aJ (aG .u32) (aE f) z1 (by omega : c.toNat * 1 = c.toNat * 1 + 0) kRf))) (.mu 1 ?_)))))))
   refine .done (kRa ?_)
   refine .nh [0, 1, 5, 31] [] ?_
   refine .cd hr ?_ ?_ <;> intro j hr
   ·refine .seq (.ru G (.ret ?_))
    obtain rfl := oi hr
    exact ⟨rfl, aH.ret (vs := [ag (-1)]) kRf (Sn.pure rfl)⟩
   refine .skip (.seq (.eX G bO (.mu 2 (.pk (v := .pp (a.flatMap iCu) (c.toNat * 1)) (tr (ar e)) (.pk (v := a7 (gt a c)) (tr (aI (aJ (aG .u32) (aE e) z1 (by omega : c.toNat * 1 = c.toNat * 1 + 0) kRf))) (.mu 2 (.pk (v := .pp (b.flatMap iCu) (c.toNat * 1)) (tr (ar f)) (.pk (v := a7 (gt b c)) (tr (aI (aJ (aG .u32) (aE f) z1 (by omega : c.toNat * 1 = c.toNat * 1 + 0) kRf))) (.mu 1 ?_)))))))))
   refine .done (kRa ?_)
   refine .nh [0, 1, 5, 40] [] ?_
   refine .cd hr ?_ ?_ <;> intro k hr
   ·refine .seq (.ru G (.ret ?_))
    obtain rfl := oi hr
    exact ⟨rfl, aH.ret (vs := [ag 1]) kRf (Sn.pure rfl)⟩
   refine .skip (.pop (.ru G ?_))
   exact az (G1 (c - 1)) hr ((Wk.gc [0, 1, 5] [] rfl pK0).to)
  refine .leave rfl ?_
  obtain rfl := oi hr
  exact ⟨rfl, ((Wk.gc [] [] rfl pK0).to)⟩
 rcases h with ⟨⟩ | r0
 ·rintro x st' d
  clear g
  obtain ⟨rfl, d⟩ := d
  refine aU _ rfl (.wk d (.seq (.ru G (.ret ?_))))
  obtain rfl := oi hr
  exact aH.r1 [ag 0]
 rintro x st' d
 clear g
 obtain ⟨rfl, d⟩ := d
 obtain rfl := oi hr
 exact gJ _ d

theorem nm {a : List Int} {d : Int} {b : List Int} {c : Int} (h : ([slT iCu a, .at (.int .u64 d)] : List AV) = [slT iCu b, .at (.int .u64 c)]) : a = b /\ d = c := by
 simp only [List.cons.injEq, AV.agg.injEq, AV.at.injEq, Value.int.injEq, Value.bool.injEq, AV.fn.injEq, AV.pp.injEq, true_and, and_true, dt] at h
 simp_all
theorem om (n : Nat) {a : List Int} {d : Int} {b : List Int} {c : Int} (h : ([slT iCu a, .at (.int .u64 d)] : List AV) = [slT iCu b, .at (.int .u64 c)]) : cK n a d = cK n b c := by
 obtain ⟨rfl, rfl⟩ := nm h
 rfl
theorem gw (n : Nat) (a : List Int) (d : Int) (r : List Int) (hr : cK n a d = some r) : aK Tryz.prog 187 [av a, cx d] (av r) := by
 unfold cK at hr
 refine aK.bd G Tryz.func187 [.tmp 4] ?_
 unfold Tryz.f187
 simp only [gS]
 refine .seq (.r4 G [0, 1] [] (.seq (.r5 G [0, 1] [(5, .hs 0 0 0 1)] [.own []] (.seq (.r4 G [0, 1, 5] [(6, cx 0)] (.seq (.seq (.r4 G [0, 1, 5, 6] [(7, ag 0)] (.block ?_)))))))))
 replace hr := bd hr; obtain ⟨o, j, hr⟩ := hr
 refine .aN (σ := fun z => match z with | (c, e, b) => ⟨mkS 40 0 [(0, av a), (1, cx d), (5, .hs 0 0 c.length 1), (6, cx e), (7, ag b)], [.own (c.flatMap iCu)]⟩) (Q := fun x st' => match (generalizing := false) o with | (g, f) => x = .exit 0 /\ Wk 0 st' ⟨mkS 40 0 [(5, .hs 0 0 g.length 1), (6, cx f)], [.own (g.flatMap iCu)]⟩) j ((Wk.gc [0, 1, 5, 6, 7] [(0, false)] rfl (pKc trivial)).to) ?_ ?_
 ·clear hr
  rintro m ⟨c, e, b⟩ hr
  refine CQ.sh ?_
  refine .seq (.seq (.r4 G [0, 1, 5, 6, 7] [(13, aB (decide (b < (a.length : Int))))] ?_))
  refine .cd hr ?_ ?_ <;> intro y hr
  ·refine .skip (.seq (.block (.seq ?_)))
   obtain ⟨k, hr⟩ := gd hr
   refine .r0 G (.mu 2 (.p0 (v := .pp (a.flatMap iCu) (b.toNat * 1)) (tr (ar k)) (.p0 (v := a7 (gt a b)) (tr (aI (aJ (aG .u32) (aE k) z1 (by omega : b.toNat * 1 = b.toNat * 1 + 0) kRf))) (.mu 6 (.done (.nh [0, 1, 5, 7, 8] [.own (c.flatMap iCu)] (.seq ?_)))))))
   obtain ⟨p, q, hr⟩ := gd2 hr
   refine .r0 G (.mu 5 (.e0 (v := .hs 2 0 (c ++ [aa .u32 ((wFu ((wFu ((wFu (gt a b)) * d)) + e)).tmod 1000000000)]).length 1) (ws := [(0, .dead), (2, .own ((c ++ [aa .u32 ((wFu ((wFu ((wFu (gt a b)) * d)) + e)).tmod 1000000000)]).flatMap iCu))]) (tr (dX (new := [a7 (aa .u32 ((wFu ((wFu ((wFu (gt a b)) * d)) + e)).tmod 1000000000))]) (l := c) (xs := [aa .u32 ((wFu ((wFu ((wFu (gt a b)) * d)) + e)).tmod 1000000000)]) (aG .u32) rfl rfl kRf p q)) (.mu 1 (.done (.nh [0, 1, 5, 7, 8] [.dead, .own [a7 (aa .u32 ((wFu ((wFu ((wFu (gt a b)) * d)) + e)).tmod 1000000000))], .own ((c ++ [aa .u32 ((wFu ((wFu ((wFu (gt a b)) * d)) + e)).tmod 1000000000)]).flatMap iCu)] (.ru G (.pop (.ru G ?_))))))))
   exact az (c ++ [aa .u32 ((wFu ((wFu ((wFu (gt a b)) * d)) + e)).tmod 1000000000)], wFu ((wFu ((wFu ((wFu (gt a b)) * d)) + e)).tdiv 1000000000), G1 (b + 1)) hr ((Wk.gc [0, 1, 5, 6, 7] [(2, false)] rfl (pKo iCu (aA _) (c ++ [aa .u32 ((wFu ((wFu ((wFu (gt a b)) * d)) + e)).tmod 1000000000)]) trivial)).to)
  refine .leave rfl ?_
  obtain rfl := oi hr
  exact ⟨rfl, ((Wk.gc [5, 6] [(0, false)] rfl (pKo iCu (aA _) c trivial)).to)⟩
 rcases o with ⟨g, f⟩
 rintro x st' i
 clear j
 obtain ⟨rfl, i⟩ := i
 refine aU _ rfl (.wk i (.seq ?_))
 obtain ⟨s, t, hr⟩ := gd2 hr
 obtain ⟨u, w, hr⟩ := bd hr
 refine .gn G (ca4 [.dead, .own [a7 (aa .u32 f)], .own ((g ++ [aa .u32 f]).flatMap iCu)] (b8 (args := [aB false, .hs 2 0 (g ++ [aa .u32 f]).length 1]) (l := [2]) (Sp (SnL.cons (Sn.hs rfl (.inl rfl) (SnC.pure (aY (aA _) _)) (fun h => cc h)) SnL.nil)) (aR n false (g ++ [aa .u32 f]) u w))) (.mu 4 (.e0 (v := .hs 2 0 (g ++ [aa .u32 f]).length 1) (ws := [(0, .dead), (2, .own ((g ++ [aa .u32 f]).flatMap iCu))]) (tr (dX (new := [a7 (aa .u32 f)]) (l := g) (xs := [aa .u32 f]) (aG .u32) rfl rfl kRf s t)) (.ca cf0 (.mu 2 (.done (.ret ?_))))))
 obtain rfl := oi hr
 exact aH.r1 [av u.Groups]

theorem np (n : Nat) (a : List Int) (d : Int) (r : List Int) (hr : iz n a d = some r) : aK Tryz.prog 188 [av a, a7 d] (av r) := by
 unfold iz at hr
 refine aK.bd G Tryz.func188 [.tmp 4] ?_
 unfold Tryz.f188
 simp only [gS]
 refine .seq (.r4 G [0, 1] [] (.seq ?_))
 obtain ⟨b, c, hr⟩ := gd2 hr
 obtain ⟨g, e, hr⟩ := bd hr
 refine .gn G (ca4 [.dead, .own (([d] ++ a).flatMap iCu)] (b8 (args := [aB false, .hs 1 0 ([d] ++ a).length 1]) (l := [1]) (Sp (SnL.cons (Sn.hs rfl (.inl rfl) (SnC.pure (aY (aA _) _)) (fun h => cc h)) SnL.nil)) (aR n false ([d] ++ a) g e))) (.mu 3 (.e0 (v := .hs 1 0 ([d] ++ a).length 1) (ws := [(0, .dead), (1, .own (([d] ++ a).flatMap iCu))]) (tr (y := zU (decide (((a.flatMap iCu)).length = a.length * 1)) (a.flatMap iCu) a.length (fun z1 f => ni (decide (0 + 1 * 1 <= ([d].flatMap iCu).length) && decide ((1 + f) * 4 <= 140737488355328) && decide (1 + f <= 4611686018427387904)) (some (.eff (.hs 1 0 (1 + f) 1) [(0, .dead), (1, .own ((([d].flatMap iCu).drop 0).take (1 * 1) ++ z1))])))) (tD (mc (aG _)) rfl (dX (l := [d]) (xs := a) (aG _) rfl rfl rfl b c))) (.ca cf0 (.mu 2 (.done (.ret ?_))))))
 obtain rfl := oi hr
 exact aH.r1 [av g.Groups]

theorem dL (n : Nat) {l : List Int} {i : Int} {a : List Int} {b : Int} (h : ([slT iCu l, .at (.int .i64 i)] : List AV) = [slT iCu a, .at (.int .i64 b)]) : ba n l i = ba n a b := by
 obtain ⟨rfl, rfl⟩ := p9 h
 rfl
theorem bn (n : Nat) (l : List Int) (i : Int) (r : Int) (hr : ba n l i = some r) : aK Tryz.prog 189 [av l, ag i] (cx r) := by
 unfold ba at hr
 refine aK.bd G Tryz.func189 [.tmp 4] ?_
 unfold Tryz.f189
 simp only [gS]
 refine .seq (.r4 G [0, 1] [] (.seq (.seq (.r4 G [0, 1] [(8, aB (decide (i < (l.length : Int))))] ?_))))
 refine .cd hr ?_ ?_ <;> intro b hr
 ·refine .seq ?_
  obtain ⟨a, hr⟩ := gd hr
  refine .r0 G (.mu 2 (.p0 (v := .pp (l.flatMap iCu) (i.toNat * 1)) (tr (ar a)) (.p0 (v := a7 (gt l i)) (tr (aI (aJ (aG .u32) (aE a) z1 (by omega : i.toNat * 1 = i.toNat * 1 + 0) kRf))) (.mu 2 (.done (.ret ?_))))))
  obtain rfl := oi hr
  exact aH.r1 [cx (wFu (gt l i))]
 refine .skip (.seq (.ru G (.ret ?_)))
 obtain rfl := oi hr
 exact aH.r1 [cx 0]

theorem fj (n : Nat) (a : List Int) (b : List Int) (r : List Int) (hr : dR n a b = some r) : aK Tryz.prog 156 [av a, av b] (av r) := by
 unfold dR at hr
 refine aK.bd G Tryz.func156 [.tmp 4] ?_
 unfold Tryz.f156
 simp only [gS]
 refine .seq (.r4 G [0, 1] [] (.seq (.r5 G [0, 1] [(5, .hs 0 0 0 1)] [.own []] (.seq (.r4 G [0, 1, 5] [(6, cx 0)] (.seq (.seq (.r4 G [0, 1, 5, 6] [(7, ag 0)] (.block ?_)))))))))
 replace hr := bd hr; obtain ⟨g, k, hr⟩ := hr
 refine .aN (σ := fun y => match y with | (c, d, i) => ⟨mkS 38 0 [(0, av a), (1, av b), (5, .hs 0 0 c.length 1), (6, cx d), (7, ag i)], [.own (c.flatMap iCu)]⟩) (Q := fun x st' => x = .exit 0 /\ Wk 0 st' ⟨mkS 38 0 [(5, .hs 0 0 g.length 1)], [.own (g.flatMap iCu)]⟩) k ((Wk.gc [0, 1, 5, 6, 7] [(0, false)] rfl (pKc trivial)).to) ?_ ?_
 ·clear hr
  rintro m ⟨c, d, i⟩ hr
  refine CQ.sh ?_
  refine .seq (.seq (.r4 G [0, 1, 5, 6, 7] [(13, aB (decide (i < (a.length : Int))))] ?_))
  refine .cd hr ?_ ?_ <;> intro w hr
  ·refine .skip (.seq (.block (.seq ?_)))
   obtain ⟨e, o, f, p, hr⟩ := bd2 hr
   refine .gn G (ca1 (ok0 (bn n a i e o)) (ca3 (ok0 (bn n b i f p)))) (.mu 2 (.ca cf0 (.mu 3 (.ca (cfA (fun h => by rw [sv p o (dL n h)]) cf0) (.mu 4 (.done (.nh [0, 1, 5, 7, 8] [.own (c.flatMap iCu)] (.seq ?_))))))))
   obtain ⟨q, s, hr⟩ := gd2 hr
   refine .r0 G (.mu 5 (.e0 (v := .hs 2 0 (c ++ [aa .u32 ((wFu ((wFu ((wFu (1000000000 + e)) - f)) - d)).tmod 1000000000)]).length 1) (ws := [(0, .dead), (2, .own ((c ++ [aa .u32 ((wFu ((wFu ((wFu (1000000000 + e)) - f)) - d)).tmod 1000000000)]).flatMap iCu))]) (tr (dX (new := [a7 (aa .u32 ((wFu ((wFu ((wFu (1000000000 + e)) - f)) - d)).tmod 1000000000))]) (l := c) (xs := [aa .u32 ((wFu ((wFu ((wFu (1000000000 + e)) - f)) - d)).tmod 1000000000)]) (aG .u32) rfl rfl kRf q s)) (.mu 1 (.done (.nh [0, 1, 5, 7, 8] [.dead, .own [a7 (aa .u32 ((wFu ((wFu ((wFu (1000000000 + e)) - f)) - d)).tmod 1000000000))], .own ((c ++ [aa .u32 ((wFu ((wFu ((wFu (1000000000 + e)) - f)) - d)).tmod 1000000000)]).flatMap iCu)] (.ru G (.pop (.ru G ?_))))))))
   exact az (c ++ [aa .u32 ((wFu ((wFu ((wFu (1000000000 + e)) - f)) - d)).tmod 1000000000)], wFu (1 - (wFu ((wFu ((wFu ((wFu (1000000000 + e)) - f)) - d)).tdiv 1000000000))), G1 (i + 1)) hr ((Wk.gc [0, 1, 5, 6, 7] [(2, false)] rfl (pKo iCu (aA _) (c ++ [aa .u32 ((wFu ((wFu ((wFu (1000000000 + e)) - f)) - d)).tmod 1000000000)]) trivial)).to)
  refine .leave rfl ?_
  obtain rfl := oi hr
  exact ⟨rfl, ((Wk.gc [5] [(0, false)] rfl (pKo iCu (aA _) c trivial)).to)⟩
 rintro x st' j
 clear k
 obtain ⟨rfl, j⟩ := j
 refine aU _ rfl (.wk j (.seq ?_))
 obtain ⟨t, u, hr⟩ := bd hr
 refine .g1 G (b8 (args := [aB false, .hs 0 0 g.length 1]) (l := [0]) (Sp (SnL.cons (Sn.hs rfl (.inl rfl) (SnC.pure (aY (aA _) _)) (fun h => cc h)) SnL.nil)) (aR n false g t u)) (.mu 1 (.ca cf0 (.mu 2 (.done (.ret ?_)))))
 obtain rfl := oi hr
 exact aH.r1 [av t.Groups]

theorem gK (n : Nat) (a : List Int) (b : List Int) (r : List Int × List Int) (hr : ff n a b = some r) : aK Tryz.prog 152 [av a, av b] (.tup [av r.1, av r.2]) := by
 unfold ff at hr
 refine aK.bd G Tryz.func152 [.tmp 4, .tmp 5] ?_
 unfold Tryz.f152
 simp only [gS]
 refine .seq (.r4 G [0, 1] [] (.seq (.r4 G [0, 1] [(6, ag (b.length : Int))] (.seq (.seq (.r4 G [0, 1, 6] [(19, aB (((b.length : Int) : Int) == 1))] ?_))))))
 refine .cd hr ?_ ?_ <;> intro tR hr
 ·refine .seq ?_
  obtain ⟨S, hr⟩ := gd hr
  obtain ⟨v3, lY, hr⟩ := bd hr
  refine .g1 G (ok0 (j9 n a (wFu (gt b 0)) v3 lY)) (.mu 2 (.p0 (v := .pp (b.flatMap iCu) ((0 : Int).toNat * 1)) (tr (ar S)) (.p0 (v := a7 (gt b 0)) (tr (aI (aJ (aG .u32) (aE S) z1 (by omega : (0 : Int).toNat * 1 = (0 : Int).toNat * 1 + 0) kRf))) (.mu 1 (.ca cf0 (.mu 5 (.done (.nh [7, 8] [] (.seq ?_)))))))))
  obtain ⟨v5, lW, hr⟩ := bd hr
  refine .gn G (ca4 [.own [a7 (aa .u32 v3.2)]] (b8 (args := [aB false, .hs 0 0 1 1]) (l := [0]) (Sp (SnL.cons (Sn.hs rfl (.inl rfl) (SnC.cons (Sn.pure rfl) SnC.nil) (fun h => nomatch h)) SnL.nil)) (aR n false [(aa .u32 v3.2)] v5 lW))) (.mu 4 (.ca cf0 (.mu 3 (.done (.ret ?_)))))
  obtain rfl := oi hr
  exact aH.ret (vs := [av v3.1, av v5.Groups]) kRf (Sn.tup (Sp (Sp SnL.nil)))
 refine .skip (.seq (.seq ?_))
 obtain ⟨v7, mZ, hr⟩ := bd hr
 refine .g1 G (ok0 (iD n a b v7 mZ)) (.mu 2 (.ca cf0 (.mu 1 (.done (.nh [0, 1, 6, 38] [] ?_)))))
 refine .cd hr ?_ ?_ <;> intro uF hr
 ·refine .seq (.r5 G [] [(4, .hs 0 0 0 1), (5, av a)] [.own []] (.ret ?_))
  obtain rfl := oi hr
  exact aH.ret (vs := [.hs 0 0 0 1, av a]) kRf (Sn.tup (SnL.cons (Sn.hs rfl (.inl rfl) SnC.nil (fun _ => rfl)) (Sp SnL.nil)))
 refine .skip (.seq ?_)
 obtain ⟨D, T, hr⟩ := gd2 hr
 refine .r0 G (.mu 3 (.p0 (v := .pp (b.flatMap iCu) ((G1 ((b.length : Int) - 1)).toNat * 1)) (tr (ar D)) (.p0 (v := a7 (gt b (G1 ((b.length : Int) - 1)))) (tr (aI (aJ (aG .u32) (aE D) z1 (by omega : (G1 ((b.length : Int) - 1)).toNat * 1 = (G1 ((b.length : Int) - 1)).toNat * 1 + 0) kRf))) (.mu 2 (.p0 (v := cx (wFu ((1000000000 : Int).tdiv (wFu ((wFu (gt b (G1 ((b.length : Int) - 1)))) + 1))))) (oD (x := 1000000000) (y := wFu ((wFu (gt b (G1 ((b.length : Int) - 1)))) + 1)) kRf kRf T) (.mu 1 (.done (.nh [0, 1, 6, 9] [] (.seq ?_)))))))))
 obtain ⟨f, E, g, F, hr⟩ := bd2 hr
 refine .gn G (ca1 (ok0 (gw n a (wFu ((1000000000 : Int).tdiv (wFu ((wFu (gt b (G1 ((b.length : Int) - 1)))) + 1)))) f E)) (ca3 (ok0 (gw n b (wFu ((1000000000 : Int).tdiv (wFu ((wFu (gt b (G1 ((b.length : Int) - 1)))) + 1)))) g F)))) (.mu 2 (.ca cf0 (.mu 2 (.ca (cfA (fun h => by rw [sv F E (om n h)]) cf0) (.mu 2 (.done (.nh [0, 1, 6, 9] [] (.seq ?_))))))))
 obtain ⟨H, hr⟩ := gd hr
 obtain ⟨na, U, hr⟩ := bd hr
 refine .g1 G (ok0 (aR n false ((f.drop (G1 ((G1 ((f.length : Int) - (b.length : Int))) + 1)).toNat).take ((f.length : Int).toNat - (G1 ((G1 ((f.length : Int) - (b.length : Int))) + 1)).toNat)) na U)) (.mu 6 (.p0 (v := av ((f.drop (G1 ((G1 ((f.length : Int) - (b.length : Int))) + 1)).toNat).take ((f.length : Int).toNat - (G1 ((G1 ((f.length : Int) - (b.length : Int))) + 1)).toNat))) (tr (y := slO (inS (G1 ((G1 ((f.length : Int) - (b.length : Int))) + 1)) (f.length : Int) f.length) (G1 ((G1 ((f.length : Int) - (b.length : Int))) + 1)).toNat (f.length : Int).toNat (fun z1 z2 => .sl true (((f.flatMap iCu).drop (z1 * 1)).take ((z2 - z1) * 1)) (z2 - z1))) (wu H (td (aG _) (pR H)))) (.ca cf0 (.mu 2 (.done (.nh [0, 1, 6, 9, 10] [] (.seq ?_)))))))
 obtain ⟨V, W, X, hr⟩ := gd3 hr
 refine .r0 G (.mu 5 (.e0 (v := .hs 0 0 (List.replicate (G1 ((G1 ((f.length : Int) - (b.length : Int))) + 1)).toNat ((0 : Int) : Int)).length 1) (ws := [(0, .own ((List.replicate (G1 ((G1 ((f.length : Int) - (b.length : Int))) + 1)).toNat ((0 : Int) : Int)).flatMap iCu))]) (tr (ln (c := iCu) (z := (0 : Int)) (n := G1 ((G1 ((f.length : Int) - (b.length : Int))) + 1)) (by_ := 4) rfl V W X)) (.mu 1 (.done (.nh [0, 1, 6, 9, 10, 11] [.own ((List.replicate (G1 ((G1 ((f.length : Int) - (b.length : Int))) + 1)).toNat ((0 : Int) : Int)).flatMap iCu)] (.seq (.seq (.r4 G [0, 1, 6, 9, 10, 11] [(12, ag (G1 ((f.length : Int) - (b.length : Int))))] (.block ?_)))))))))
 replace hr := bd hr; obtain ⟨Y, I, hr⟩ := hr
 refine .aN (σ := fun z0 => match z0 with | (o, d, e) => ⟨mkS 130 0 [(0, av f), (1, av g), (6, ag (b.length : Int)), (9, cx (wFu ((1000000000 : Int).tdiv (wFu ((wFu (gt b (G1 ((b.length : Int) - 1)))) + 1))))), (10, av o), (11, .hs 0 0 d.length 1), (12, ag e)], [.own (d.flatMap iCu)]⟩) (Q := fun x st' => match (generalizing := false) Y with | (p, j) => x = .exit 0 /\ Wk 0 st' ⟨mkS 130 0 [(9, cx (wFu ((1000000000 : Int).tdiv (wFu ((wFu (gt b (G1 ((b.length : Int) - 1)))) + 1))))), (10, av p), (11, .hs 0 0 j.length 1)], [.own (j.flatMap iCu)]⟩) I ((Wk.gc [0, 1, 6, 9, 10, 11, 12] [(0, false)] rfl (pKo iCu (aA _) (List.replicate (G1 ((G1 ((f.length : Int) - (b.length : Int))) + 1)).toNat ((0 : Int) : Int)) trivial)).to) ?_ ?_
 ·clear hr
  rintro m ⟨o, d, e⟩ hr
  refine CQ.sh ?_
  refine .seq (.seq (.r4 G [0, 1, 6, 9, 10, 11, 12] [(75, aB (decide (e >= 0)))] ?_))
  refine .cd hr ?_ ?_ <;> intro sN hr
  ·refine .skip (.seq (.block (.seq ?_)))
   obtain ⟨J, hr⟩ := gd hr
   obtain ⟨A, Z, hr⟩ := bd hr
   refine .g1 G (ok0 (np n o (gt f e) A Z)) (.mu 3 (.p0 (v := .pp (f.flatMap iCu) (e.toNat * 1)) (tr (ar J)) (.p0 (v := a7 (gt f e)) (tr (aI (aJ (aG .u32) (aE J) z1 (by omega : e.toNat * 1 = e.toNat * 1 + 0) kRf))) (.ca cf0 (.mu 1 (.done (.nh [0, 1, 6, 9, 10, 11, 12] [.own (d.flatMap iCu)] (.seq ?_))))))))
   obtain ⟨B, L, C, M, hr⟩ := bd2 hr
   obtain ⟨N, jD, hr⟩ := gd2 hr
   refine .tn G (ca1 (ok0 (bn n A (b.length : Int) B L)) (ca3 (ok0 (bn n A (G1 ((b.length : Int) - 1)) C M)))) (.mu 2 (.ca cf0 (.mu 4 (.ca (cfA (fun h => by rw [sv M L (dL n h)]) cf0) (.mu 4 (.pk (v := .pp (g.flatMap iCu) ((G1 ((b.length : Int) - 1)).toNat * 1)) (tr (ar N)) (.pk (v := a7 (gt g (G1 ((b.length : Int) - 1)))) (tr (aI (aJ (aG .u32) (aE N) z1 (by omega : (G1 ((b.length : Int) - 1)).toNat * 1 = (G1 ((b.length : Int) - 1)).toNat * 1 + 0) kRf))) (.mu 2 (.pk (v := cx (wFu ((wFu ((wFu (B * 1000000000)) + C)).tdiv (wFu ((wFu (gt g (G1 ((b.length : Int) - 1)))) + 1))))) (oD (x := wFu ((wFu (B * 1000000000)) + C)) (y := wFu ((wFu (gt g (G1 ((b.length : Int) - 1)))) + 1)) kRf kRf jD) (.mu 1 ?_))))))))))
   refine .done (kRa ?_)
   refine .nh [0, 1, 6, 9, 10, 11, 12, 13] [.own (d.flatMap iCu)] (.seq ?_)
   obtain ⟨ki, lP, pN, l8, hr⟩ := bd2 hr
   refine .gn G (ca1 (ok0 (gw n g (wFu ((wFu ((wFu (B * 1000000000)) + C)).tdiv (wFu ((wFu (gt g (G1 ((b.length : Int) - 1)))) + 1)))) ki lP)) (ca3 (ok0 (fj n A ki pN l8)))) (.mu 3 (.ca cf0 (.ca (cfF cf0) (.mu 1 (.done (.nh [0, 1, 6, 9, 10, 11, 12, 13] [.own (d.flatMap iCu)] (.seq (.block ?_))))))))
   replace hr := bd hr; obtain ⟨lG, O, hr⟩ := hr
   refine .aN (σ := fun z0 => match z0 with | (k, q) => ⟨mkS 130 0 [(0, av f), (1, av g), (6, ag (b.length : Int)), (9, cx (wFu ((1000000000 : Int).tdiv (wFu ((wFu (gt b (G1 ((b.length : Int) - 1)))) + 1))))), (10, av k), (11, .hs 0 0 d.length 1), (12, ag e), (13, cx q)], [.own (d.flatMap iCu)]⟩) (Q := fun x st' => match (generalizing := false) lG with | (s, i) => x = .exit 2 /\ Wk 0 st' ⟨mkS 130 0 [(0, av f), (1, av g), (6, ag (b.length : Int)), (9, cx (wFu ((1000000000 : Int).tdiv (wFu ((wFu (gt b (G1 ((b.length : Int) - 1)))) + 1))))), (10, av s), (11, .hs 0 0 d.length 1), (12, ag e), (13, cx i)], [.own (d.flatMap iCu)]⟩) O ((Wk.gc [0, 1, 6, 9, 10, 11, 12, 13] [(0, false)] rfl (pKo iCu (aA _) d trivial)).to) ?_ ?_
   ·clear hr
    rintro m ⟨k, q⟩ hr
    refine CQ.sh ?_
    refine .seq (.seq ?_)
    obtain ⟨p8, mM, hr⟩ := bd hr
    refine .g1 G (ok0 (iD n k g p8 mM)) (.mu 2 (.ca cf0 (.mu 1 (.done (.nh [0, 1, 6, 9, 10, 11, 12, 13, 109] [.own (d.flatMap iCu)] ?_)))))
    refine .cd hr ?_ ?_ <;> intro so hr
    ·refine .skip (.block (.seq ?_))
     obtain ⟨mz, oq, hr⟩ := bd hr
     refine .g1 G (ok0 (fj n k g mz oq)) (.mu 2 (.ca cf0 (.mu 1 (.done (.nh [0, 1, 6, 9, 10, 11, 12, 13] [.own (d.flatMap iCu)] (.ru G (.pop ?_)))))))
     exact az (mz, wFu (q + 1)) hr ((Wk.gc [0, 1, 6, 9, 10, 11, 12, 13] [(0, false)] rfl (pKo iCu (aA _) d trivial)).to)
    refine .leave rfl ?_
    obtain rfl := oi hr
    exact ⟨rfl, ((Wk.gc [0, 1, 6, 9, 10, 11, 12, 13] [(0, false)] rfl (pKo iCu (aA _) d trivial)).to)⟩
   rcases lG with ⟨s, i⟩
   rintro x st' t
   clear O
   obtain ⟨rfl, t⟩ := t
   refine aU _ rfl (.wk t ?_)
   obtain ⟨u, hr⟩ := gd hr
   refine .r0 G (.mu 4 (.p0 (v := .hp 0 (0 + e.toNat * 1)) (tr (ar u)) (.e0 (v := .unk) (ws := [(0, .own ((d.set e.toNat (aa .u32 i)).flatMap iCu))]) (tr (jn (ju (cy (n := 1) (aG .u32) (aE u) (lbT rfl) (by omega : 0 + e.toNat * 1 = e.toNat * 1 + 0))) (congrArg Blk.own (dc (xs := [a7 (aa .u32 i)]) (aG .u32) (aE u) (lbT rfl) (by omega : 0 + e.toNat * 1 = e.toNat * 1 + 0) kRf)))) (.done (.pop (.ru G ?_))))))
   exact az (s, d.set e.toNat (aa .u32 i), G1 (e - 1)) hr ((Wk.iF 11 (b := 0) (es := 1) (len := d.length) (d.set e.toNat (aa .u32 i)).length kRf (Eq.symm (List.length_set.trans rfl))).trans ((Wk.gc [0, 1, 6, 9, 10, 11, 12] [(0, false)] rfl (pKo iCu (aA _) (d.set e.toNat (aa .u32 i)) trivial)).to))
  refine .leave rfl ?_
  obtain rfl := oi hr
  exact ⟨rfl, ((Wk.gc [9, 10, 11] [(0, false)] rfl (pKo iCu (aA _) d trivial)).to)⟩
 rcases Y with ⟨p, j⟩
 rintro x st' w
 clear I
 obtain ⟨rfl, w⟩ := w
 refine aU _ rfl (.wk w (.seq ?_))
 obtain ⟨ov, py, hr⟩ := bd hr
 refine .g1 G (ok0 (j9 n p (wFu ((1000000000 : Int).tdiv (wFu ((wFu (gt b (G1 ((b.length : Int) - 1)))) + 1)))) ov py)) (.mu 2 (.ca cf0 (.mu 5 (.done (.nh [11, 14] [.own (j.flatMap iCu)] (.seq ?_))))))
 obtain ⟨km, R, hr⟩ := bd hr
 refine .g1 G (b8 (args := [aB false, .hs 0 0 j.length 1]) (l := [0]) (Sp (SnL.cons (Sn.hs rfl (.inl rfl) (SnC.pure (aY (aA _) _)) (fun h => cc h)) SnL.nil)) (aR n false j km R)) (.mu 1 (.ca cf0 (.mu 4 (.done (.ret ?_)))))
 obtain rfl := oi hr
 exact aH.ret (vs := [av km.Groups, av ov.1]) kRf (Sn.tup (Sp (Sp SnL.nil)))

theorem oO {a : List Int} {b : List Int} (h : ([slT iCu a] : List AV) = [slT iCu b]) : a = b := by
 simp only [List.cons.injEq, AV.agg.injEq, AV.at.injEq, Value.int.injEq, Value.bool.injEq, AV.fn.injEq, AV.pp.injEq, true_and, and_true, dt] at h
 simp_all
theorem pA (n : Nat) {a : List Int} {b : List Int} (h : ([slT iCu a] : List AV) = [slT iCu b]) : eD n a = eD n b := by
 obtain rfl := oO h
 rfl
theorem kr (n : Nat) (a : List Int) (r : Int) (hr : eD n a = some r) : aK Tryz.prog 153 [av a] (cx r) := by
 unfold eD at hr
 refine aK.bd G Tryz.func153 [.tmp 2] ?_
 unfold Tryz.f153
 simp only [gS]
 refine .seq (.r4 G [0] [] (.seq ?_))
 obtain ⟨d, b, e, c, hr⟩ := bd2 hr
 refine .gn G (ca1 (ok0 (bn n a 1 d b)) (ca3 (ok0 (bn n a 0 e c)))) (.mu 1 (.ca cf0 (.mu 2 (.ca (cfA (fun h => by rw [sv c b (dL n h)]) cf0) (.mu 2 (.done (.ret ?_)))))))
 obtain rfl := oi hr
 exact aH.r1 [cx (wFu ((wFu (d * 1000000000)) + e))]

theorem kT (n : Nat) (A : ae) (y : ae) (r : ae) (hr : iI n A y = some r) : aK Tryz.prog 115 [.agg (ae.c A), .agg (ae.c y)] (.agg (ae.c r)) := by
 unfold iI at hr
 refine aK.bd G Tryz.func115 [.cell 4 40] ?_
 unfold Tryz.f115
 simp only [gS]
 refine .seq (.r2 G 61 [(2, .hp 0 0), (3, .hp 1 0), (4, .hp 2 0)] [.own (ae.c A), .own (ae.c y), .own [aB false, nS]] (.seq ?_))
 obtain ⟨V, B, W, C, hr⟩ := bd2 hr
 refine .tn G (ca1 (ok0 (br n A V B)) (ca3 (ok0 (br n y W C)))) (.mu 1 (.ca cf0 (.mu 2 (.ca (cfA (fun h => by rw [sv C B (fl n h)]) cf0) (.mu 3 ?_)))))
 refine .done (kRa ?_)
 refine .nh [4, 5, 6] [.own (ae.c A), .own (ae.c y), .own [aB false, nS]] (.seq (.block ?_))
 replace hr := bd hr; obtain ⟨D, q, hr⟩ := hr
 refine .aN (σ := fun N => match N with | (k, g) => ⟨mkS 61 0 [(4, .hp 0 0), (5, av k), (6, av g)], [.own [aB false, nS]]⟩) (Q := fun x st' => match (generalizing := false) D with | (i, j) => x = .exit 0 /\ Wk 0 st' ⟨mkS 61 0 [(4, .hp 0 0), (5, av i), (6, av j)], [.own [aB false, nS]]⟩) q ((Wk.gc [4, 5, 6] [(2, true)] rfl trivial).to) ?_ ?_
 ·clear hr
  rintro m ⟨k, g⟩ hr
  refine CQ.sh ?_
  refine .seq (.seq ?_)
  rcases bT (decide ((g.length : Int) > 0)) with d | d
  ·replace hr := bY d hr
   rcases bT (decide ((k.length : Int) > 2)) with e | e
   ·replace hr := bY e hr
    refine .r0 G (.mu 2 (.p0 (v := aB true) (eB d) (.mu 3 (.pure (v := aB true) kRf (eB e) (.mu 6 (.done (.nh [4, 5, 6, 29] [.own [aB false, nS]] (.cT kRf (.skip (.block (.seq ?_)))))))))))
    obtain ⟨E, F, hr⟩ := bd hr
    refine .g1 G (ok0 (gK n k g E F)) (.mu 2 (.ca cf0 (.mu 5 (.done (.nh [4, 6, 8] [.own [aB false, nS]] (.ru G (.pop ?_)))))))
    exact az (g, E.2) hr ((Wk.gc [4, 5, 6] [(0, true)] rfl trivial).to)
   replace hr := bW e hr
   refine .r0 G (.mu 2 (.p0 (v := aB true) (eB d) (.mu 3 (.pure (v := aB false) kRf (eB e) (.mu 6 (.done (.nh [4, 5, 6, 29] [.own [aB false, nS]] ?_)))))))
   refine .cd hr ?_ ?_ <;> intro S hr
   ·refine .skip (.block (.seq ?_))
    obtain ⟨H, I, hr⟩ := bd hr
    refine .g1 G (ok0 (gK n k g H I)) (.mu 2 (.ca cf0 (.mu 5 (.done (.nh [4, 6, 8] [.own [aB false, nS]] (.ru G (.pop ?_)))))))
    exact az (g, H.2) hr ((Wk.gc [4, 5, 6] [(0, true)] rfl trivial).to)
   refine .leave rfl ?_
   obtain rfl := oi hr
   exact ⟨rfl, ((Wk.gc [4, 5, 6] [(0, true)] rfl trivial).to)⟩
  replace hr := bW d hr
  refine .r0 G (.mu 2 (.p0 (v := aB false) (eB d) (.mu 10 (.done (.nh [4, 5, 6, 29] [.own [aB false, nS]] (.cF kRf (.leave rfl ?_)))))))
  obtain rfl := oi hr
  exact ⟨rfl, ((Wk.gc [4, 5, 6] [(0, true)] rfl trivial).to)⟩
 rcases D with ⟨i, j⟩
 rintro x st' o
 clear q
 obtain ⟨rfl, o⟩ := o
 refine aU _ rfl (.wk o (.seq (.seq (.r4 G [4, 5, 6] [(40, aB (((j.length : Int) : Int) == 0))] ?_))))
 refine .cd hr ?_ ?_ <;> intro T hr
 ·refine .seq ?_
  obtain ⟨w, J, hr⟩ := bd hr
  refine .g1 G (ok0 (aR n false i w J)) (.mu 1 (.ca cf0 (.mu 1 (.done (.nh [4] [.own (ae.c w)] (.ret ?_))))))
  obtain rfl := oi hr
  exact aH.r1 [.agg (ae.c w)]
 refine .skip (.seq ?_)
 obtain ⟨O, s, R, t, hr⟩ := bd2 hr
 refine .gn G (ca1 (ok0 (kr n i O s)) (ca3 (ok0 (kr n j R t)))) (.mu 1 (.ca cf0 (.mu 1 (.ca (cfA (fun h => by rw [sv t s (pA n h)]) cf0) (.mu 2 (.done (.nh [4, 9, 10] [.own [aB false, nS]] (.seq (.block ?_)))))))))
 replace hr := bd hr; obtain ⟨a, u, hr⟩ := hr
 refine .aN (σ := fun N => match N with | (f, b) => ⟨mkS 61 0 [(4, .hp 0 0), (9, cx f), (10, cx b)], [.own [aB false, nS]]⟩) (Q := fun x st' => x = .exit 2 /\ Wk 0 st' ⟨mkS 61 0 [(4, .hp 0 0), (9, cx a)], [.own [aB false, nS]]⟩) u ((Wk.gc [4, 9, 10] [(0, true)] rfl trivial).to) ?_ ?_
 ·clear hr
  rintro m ⟨f, b⟩ hr
  refine CQ.sh ?_
  refine .seq (.seq (.r4 G [4, 9, 10] [(48, aB (decide (b > 0)))] ?_))
  refine .cd hr ?_ ?_ <;> intro U hr
  ·refine .skip (.block ?_)
   obtain ⟨L, hr⟩ := gd hr
   refine .eX G bO (.mu 3 (.pk (v := cx (f.tmod b)) (mi (x := f) (y := b) kRf kRf L) (.mu 2 ?_)))
   refine .done (kRa ?_)
   refine .pop ?_
   exact az (b, f.tmod b) hr ((Wk.gc [4, 9, 10] [(0, true)] rfl trivial).to)
  refine .leave rfl ?_
  obtain rfl := oi hr
  exact ⟨rfl, ((Wk.gc [4, 9] [(0, true)] rfl trivial).to)⟩
 rintro x st' p
 clear u
 obtain ⟨rfl, p⟩ := p
 refine aU _ rfl (.wk p (.seq ?_))
 obtain ⟨z, M, hr⟩ := bd hr
 refine .gn G (ca4 [.own [aB false, nS], .own [a7 (aa .u32 (a.tmod 1000000000)), a7 (aa .u32 (wFu (a.tdiv 1000000000)))]] (b8 (args := [aB false, .hs 1 0 2 1]) (l := [1]) (Sp (SnL.cons (Sn.hs rfl (.inl rfl) (SnC.cons (Sn.pure rfl) (SnC.cons (Sn.pure rfl) SnC.nil)) (fun h => nomatch h)) SnL.nil)) (aR n false [(aa .u32 (a.tmod 1000000000)), (aa .u32 (wFu (a.tdiv 1000000000)))] z M))) (.mu 7 (.ca cf0 (.mu 1 (.done (.nh [4] [.own (ae.c z), .fix [a7 (aa .u32 (a.tmod 1000000000)), a7 (aa .u32 (wFu (a.tdiv 1000000000)))]] (.ret ?_))))))
 obtain rfl := oi hr
 exact aH.r1 [.agg (ae.c z)]

theorem iX (n : Nat) (b : ae) (r : ae) (hr : fS n b = some r) : aK Tryz.prog 126 [.agg (ae.c b)] (.agg (ae.c r)) := by
 unfold fS at hr
 refine aK.bd G Tryz.func126 [.cell 2 40] ?_
 unfold Tryz.f126
 simp only [gS]
 refine .seq (.r2 G 11 [(1, .hp 0 0), (2, .hp 1 0)] [.own (ae.c b), .own [aB false, nS]] (.seq ?_))
 obtain ⟨a, d, hr⟩ := bd hr
 refine .g1 G (ok0 (br n b a d)) (.mu 1 (.ca cf0 (.mu 1 (.done (.nh [1, 2] [.own (ae.c a), .own [aB false, nS]] (.seq ?_))))))
 obtain ⟨e, f, hr⟩ := bd hr
 refine .g1 G (ok0 (aR n (!a.Negative) a.Groups e f)) (.mu 5 (.ca cf0 (.mu 1 (.done (.nh [2] [.own (ae.c a), .own (ae.c e)] (.ret ?_))))))
 obtain rfl := oi hr
 exact aH.r1 [.agg (ae.c e)]

theorem pC (n : Nat) (a : List Int) (b : List Int) (r : List Int) (hr : jK n a b = some r) : aK Tryz.prog 154 [av a, av b] (av r) := by
 unfold jK at hr
 refine aK.bd G Tryz.func154 [.tmp 4] ?_
 unfold Tryz.f154
 simp only [gS]
 refine .seq (.r4 G [0, 1] [] (.seq (.r5 G [0, 1] [(5, .hs 0 0 0 1)] [.own []] (.seq (.r4 G [0, 1, 5] [(6, cx 0)] (.seq (.seq (.r4 G [0, 1, 5, 6] [(7, ag 0)] (.block ?_)))))))))
 replace hr := bd hr; obtain ⟨z, s, hr⟩ := hr
 refine .aN (σ := fun L => match L with | (c, d, o) => ⟨mkS 46 0 [(0, av a), (1, av b), (5, .hs 0 0 c.length 1), (6, cx d), (7, ag o)], [.own (c.flatMap iCu)]⟩) (Q := fun x st' => match (generalizing := false) z with | (f, e) => x = .exit 0 /\ Wk 0 st' ⟨mkS 46 0 [(5, .hs 0 0 f.length 1), (6, cx e)], [.own (f.flatMap iCu)]⟩) s ((Wk.gc [0, 1, 5, 6, 7] [(0, false)] rfl (pKc trivial)).to) ?_ ?_
 ·clear hr
  rintro m ⟨c, d, o⟩ hr
  refine CQ.sh ?_
  refine .seq (.seq ?_)
  rcases bT (decide (o < (a.length : Int))) with p | p
  ·replace hr := bY p hr
   refine .r0 G (.mu 3 (.p0 (v := aB true) (eB p) (.mu 6 (.done (.nh [0, 1, 5, 6, 7, 19] [.own (c.flatMap iCu)] (.cT kRf (.skip (.seq (.block (.seq ?_))))))))))
   obtain ⟨g, t, i, u, hr⟩ := bd2 hr
   refine .gn G (ca1 (ok0 (bn n a o g t)) (ca3 (ok0 (bn n b o i u)))) (.mu 2 (.ca cf0 (.mu 2 (.ca (cfA (fun h => by rw [sv u t (dL n h)]) cf0) (.mu 4 (.done (.nh [0, 1, 5, 7, 8] [.own (c.flatMap iCu)] (.seq ?_))))))))
   obtain ⟨A, B, hr⟩ := gd2 hr
   refine .r0 G (.mu 5 (.e0 (v := .hs 2 0 (c ++ [aa .u32 ((wFu ((wFu (g + i)) + d)).tmod 1000000000)]).length 1) (ws := [(0, .dead), (2, .own ((c ++ [aa .u32 ((wFu ((wFu (g + i)) + d)).tmod 1000000000)]).flatMap iCu))]) (tr (dX (new := [a7 (aa .u32 ((wFu ((wFu (g + i)) + d)).tmod 1000000000))]) (l := c) (xs := [aa .u32 ((wFu ((wFu (g + i)) + d)).tmod 1000000000)]) (aG .u32) rfl rfl kRf A B)) (.mu 1 (.done (.nh [0, 1, 5, 7, 8] [.dead, .own [a7 (aa .u32 ((wFu ((wFu (g + i)) + d)).tmod 1000000000))], .own ((c ++ [aa .u32 ((wFu ((wFu (g + i)) + d)).tmod 1000000000)]).flatMap iCu)] (.ru G (.pop (.ru G ?_))))))))
   exact az (c ++ [aa .u32 ((wFu ((wFu (g + i)) + d)).tmod 1000000000)], wFu ((wFu ((wFu (g + i)) + d)).tdiv 1000000000), G1 (o + 1)) hr ((Wk.gc [0, 1, 5, 6, 7] [(2, false)] rfl (pKo iCu (aA _) (c ++ [aa .u32 ((wFu ((wFu (g + i)) + d)).tmod 1000000000)]) trivial)).to)
  replace hr := bW p hr
  refine .r0 G (.mu 3 (.p0 (v := aB false) (eB p) (.mu 6 (.done (.nh [0, 1, 5, 6, 7, 19] [.own (c.flatMap iCu)] ?_)))))
  refine .cd hr ?_ ?_ <;> intro J hr
  ·refine .skip (.seq (.block (.seq ?_)))
   obtain ⟨j, w, k, y, hr⟩ := bd2 hr
   refine .gn G (ca1 (ok0 (bn n a o j w)) (ca3 (ok0 (bn n b o k y)))) (.mu 2 (.ca cf0 (.mu 2 (.ca (cfA (fun h => by rw [sv y w (dL n h)]) cf0) (.mu 4 (.done (.nh [0, 1, 5, 7, 8] [.own (c.flatMap iCu)] (.seq ?_))))))))
   obtain ⟨C, D, hr⟩ := gd2 hr
   refine .r0 G (.mu 5 (.e0 (v := .hs 2 0 (c ++ [aa .u32 ((wFu ((wFu (j + k)) + d)).tmod 1000000000)]).length 1) (ws := [(0, .dead), (2, .own ((c ++ [aa .u32 ((wFu ((wFu (j + k)) + d)).tmod 1000000000)]).flatMap iCu))]) (tr (dX (new := [a7 (aa .u32 ((wFu ((wFu (j + k)) + d)).tmod 1000000000))]) (l := c) (xs := [aa .u32 ((wFu ((wFu (j + k)) + d)).tmod 1000000000)]) (aG .u32) rfl rfl kRf C D)) (.mu 1 (.done (.nh [0, 1, 5, 7, 8] [.dead, .own [a7 (aa .u32 ((wFu ((wFu (j + k)) + d)).tmod 1000000000))], .own ((c ++ [aa .u32 ((wFu ((wFu (j + k)) + d)).tmod 1000000000)]).flatMap iCu)] (.ru G (.pop (.ru G ?_))))))))
   exact az (c ++ [aa .u32 ((wFu ((wFu (j + k)) + d)).tmod 1000000000)], wFu ((wFu ((wFu (j + k)) + d)).tdiv 1000000000), G1 (o + 1)) hr ((Wk.gc [0, 1, 5, 6, 7] [(2, false)] rfl (pKo iCu (aA _) (c ++ [aa .u32 ((wFu ((wFu (j + k)) + d)).tmod 1000000000)]) trivial)).to)
  refine .leave rfl ?_
  obtain rfl := oi hr
  exact ⟨rfl, ((Wk.gc [5, 6] [(0, false)] rfl (pKo iCu (aA _) c trivial)).to)⟩
 rcases z with ⟨f, e⟩
 rintro x st' q
 clear s
 obtain ⟨rfl, q⟩ := q
 refine aU _ rfl (.wk q (.seq ?_))
 obtain ⟨E, F, hr⟩ := gd2 hr
 obtain ⟨H, I, hr⟩ := bd hr
 refine .gn G (ca4 [.dead, .own [a7 (aa .u32 e)], .own ((f ++ [aa .u32 e]).flatMap iCu)] (b8 (args := [aB false, .hs 2 0 (f ++ [aa .u32 e]).length 1]) (l := [2]) (Sp (SnL.cons (Sn.hs rfl (.inl rfl) (SnC.pure (aY (aA _) _)) (fun h => cc h)) SnL.nil)) (aR n false (f ++ [aa .u32 e]) H I))) (.mu 4 (.e0 (v := .hs 2 0 (f ++ [aa .u32 e]).length 1) (ws := [(0, .dead), (2, .own ((f ++ [aa .u32 e]).flatMap iCu))]) (tr (dX (new := [a7 (aa .u32 e)]) (l := f) (xs := [aa .u32 e]) (aG .u32) rfl rfl kRf E F)) (.ca cf0 (.mu 2 (.done (.ret ?_))))))
 obtain rfl := oi hr
 exact aH.r1 [av H.Groups]

theorem lB (n : Nat) (q : ae) (y : ae) (r : ae) (hr : iH n q y = some r) : aK Tryz.prog 116 [.agg (ae.c q), .agg (ae.c y)] (.agg (ae.c r)) := by
 unfold iH at hr
 refine aK.bd G Tryz.func116 [.cell 4 40] ?_
 unfold Tryz.f116
 simp only [gS]
 refine .seq (.r2 G 44 [(2, .hp 0 0), (3, .hp 1 0), (4, .hp 2 0)] [.own (ae.c q), .own (ae.c y), .own [aB false, nS]] (.seq ?_))
 obtain ⟨a, f, b, g, hr⟩ := bd2 hr
 refine .tn G (ca1 (ok0 (br n q a f)) (ca3 (ok0 (br n y b g)))) (.mu 1 (.ca cf0 (.mu 1 (.ca (cfA (fun h => by rw [sv g f (fl n h)]) cf0) (.mu 2 ?_)))))
 refine .done (kRa ?_)
 refine .nh [2, 3, 4] [.own (ae.c a), .own (ae.c b), .own [aB false, nS]] (.seq (.seq (.r4 G [2, 3, 4] [(13, aB (a.Negative == b.Negative))] ?_)))
 refine .cd hr ?_ ?_ <;> intro z hr
 ·refine .seq ?_
  obtain ⟨w, s, t, u, hr⟩ := bd2 hr
  refine .tn G (ca1 (ok0 (pC n a.Groups b.Groups w s)) (ca3 (ok0 (aR n a.Negative w t u)))) (.mu 6 (.ca cf0 (.ca (cfF cf0) (.mu 1 ?_))))
  refine .done (kRa ?_)
  refine .nh [4] [.own (ae.c a), .own (ae.c b), .own (ae.c t)] (.ret ?_)
  obtain rfl := oi hr
  exact aH.r1 [.agg (ae.c t)]
 refine .skip (.seq (.seq ?_))
 obtain ⟨v, i, hr⟩ := bd hr
 refine .g1 G (ok0 (iD n a.Groups b.Groups v i)) (.mu 4 (.ca cf0 (.mu 1 (.done (.nh [2, 3, 4, 27] [.own (ae.c a), .own (ae.c b), .own [aB false, nS]] ?_)))))
 refine .cd hr ?_ ?_ <;> intro x hr
 ·refine .seq ?_
  obtain ⟨j, k, d, l, hr⟩ := bd2 hr
  refine .tn G (ca1 (ok0 (fj n a.Groups b.Groups j k)) (ca3 (ok0 (aR n a.Negative j d l)))) (.mu 6 (.ca cf0 (.ca (cfF cf0) (.mu 1 ?_))))
  refine .done (kRa ?_)
  refine .nh [4] [.own (ae.c a), .own (ae.c b), .own (ae.c d)] (.ret ?_)
  obtain rfl := oi hr
  exact aH.r1 [.agg (ae.c d)]
 refine .skip (.seq ?_)
 obtain ⟨m, o, e, p, hr⟩ := bd2 hr
 refine .tn G (ca1 (ok0 (fj n b.Groups a.Groups m o)) (ca3 (ok0 (aR n b.Negative m e p)))) (.mu 6 (.ca cf0 (.ca (cfF cf0) (.mu 1 ?_))))
 refine .done (kRa ?_)
 refine .nh [4] [.own (ae.c a), .own (ae.c b), .own (ae.c e)] (.ret ?_)
 obtain rfl := oi hr
 exact aH.r1 [.agg (ae.c e)]

theorem eQ (n : Nat) (a : ae) (y : ae) (r : ae) (hr : dG n a y = some r) : aK Tryz.prog 151 [.agg (ae.c a), .agg (ae.c y)] (.agg (ae.c r)) := by
 unfold dG at hr
 refine aK.bd G Tryz.func151 [.cell 4 40] ?_
 unfold Tryz.f151
 simp only [gS]
 refine .seq (.r2 G 9 [(2, .hp 0 0), (3, .hp 1 0), (4, .hp 2 0)] [.own (ae.c a), .own (ae.c y), .own [aB false, nS]] (.seq ?_))
 obtain ⟨f, b, d, e, hr⟩ := bd2 hr
 refine .tn G (ca1 (ok0 (iX n y f b)) (ca3 (ok0 (lB n a f d e)))) (.mu 2 (.ca cf0 (.ca (cfF cf0) (.mu 1 ?_))))
 refine .done (kRa ?_)
 refine .nh [4] [.own (ae.c a), .own (ae.c y), .own (ae.c d)] (.ret ?_)
 obtain rfl := oi hr
 exact aH.r1 [.agg (ae.c d)]

theorem iT (n : Nat) {b : ae} {y : ae} {a : ae} {d : ae} (h : ([.agg (ae.c b), .agg (ae.c y)] : List AV) = [.agg (ae.c a), .agg (ae.c d)]) : cm n b y = cm n a d := by
 obtain ⟨rfl, rfl⟩ := pt h
 rfl
theorem dm (n : Nat) (J : ae) (y : ae) (r : ae) (hr : cm n J y = some r) : aK Tryz.prog 87 [.agg (ae.c J), .agg (ae.c y)] (.agg (ae.c r)) := by
 unfold cm at hr
 refine aK.bd G Tryz.func87 [.cell 4 40] ?_
 unfold Tryz.f87
 simp only [gS]
 refine .seq (.r2 G 85 [(2, .hp 0 0), (3, .hp 1 0), (4, .hp 2 0)] [.own (ae.c J), .own (ae.c y), .own [aB false, nS]] (.seq ?_))
 obtain ⟨i, E, f, F, hr⟩ := bd2 hr
 refine .tn G (ca1 (ok0 (br n J i E)) (ca3 (ok0 (br n y f F)))) (.mu 1 (.ca cf0 (.mu 1 (.ca (cfA (fun h => by rw [sv F E (fl n h)]) cf0) (.mu 2 ?_)))))
 refine .done (kRa ?_)
 refine .nh [2, 3, 4] [.own (ae.c i), .own (ae.c f), .own [aB false, nS]] (.seq ?_)
 obtain ⟨L, M, N, hr⟩ := gd3 hr
 refine .r0 G (.mu 7 (.e0 (v := .hs 3 0 (List.replicate (G1 ((i.Groups.length : Int) + (f.Groups.length : Int))).toNat ((0 : Int) : Int)).length 1) (ws := [(3, .own ((List.replicate (G1 ((i.Groups.length : Int) + (f.Groups.length : Int))).toNat ((0 : Int) : Int)).flatMap iCu))]) (tr (ln (c := iCu) (z := (0 : Int)) (n := G1 ((i.Groups.length : Int) + (f.Groups.length : Int))) (by_ := 4) rfl L M N)) (.mu 1 (.done (.nh [2, 3, 4, 5] [.own (ae.c i), .own (ae.c f), .own [aB false, nS], .own ((List.replicate (G1 ((i.Groups.length : Int) + (f.Groups.length : Int))).toNat ((0 : Int) : Int)).flatMap iCu)] (.seq (.seq (.r4 G [2, 3, 4, 5] [(6, ag 0)] (.block ?_)))))))))
 replace hr := bd hr; obtain ⟨o, w, hr⟩ := hr
 refine .aN (σ := fun O => match O with | (q, d) => ⟨mkS 85 0 [(2, .hp 0 0), (3, .hp 1 0), (4, .hp 2 0), (5, .hs 3 0 q.length 1), (6, ag d)], [.own (ae.c i), .own (ae.c f), .own [aB false, nS], .own (q.flatMap iCu)]⟩) (Q := fun x st' => x = .exit 0 /\ Wk 0 st' ⟨mkS 85 0 [(2, .hp 0 0), (3, .hp 1 0), (4, .hp 2 0), (5, .hs 3 0 o.length 1)], [.own (ae.c i), .own (ae.c f), .own [aB false, nS], .own (o.flatMap iCu)]⟩) w ((Wk.gc [2, 3, 4, 5, 6] [(0, true), (1, true), (2, true), (3, false)] rfl (pKt (pKt (pKt (pKo iCu (aA _) (List.replicate (G1 ((i.Groups.length : Int) + (f.Groups.length : Int))).toNat ((0 : Int) : Int)) trivial))))).to) ?_ ?_
 ·clear hr
  rintro m ⟨q, d⟩ hr
  refine CQ.sh ?_
  refine .seq (.seq (.r4 G [2, 3, 4, 5, 6] [(26, aB (decide (d < (i.Groups.length : Int))))] ?_))
  refine .cd hr ?_ ?_ <;> intro R hr
  ·refine .skip (.seq (.block (.seq (.r4 G [2, 3, 4, 5, 6] [(7, cx 0)] (.seq (.seq (.r4 G [2, 3, 4, 5, 6, 7] [(8, ag 0)] (.block ?_))))))))
   replace hr := bd hr; obtain ⟨H, A, hr⟩ := hr
   refine .aN (σ := fun O => match O with | (e, g, a) => ⟨mkS 85 0 [(2, .hp 0 0), (3, .hp 1 0), (4, .hp 2 0), (5, .hs 3 0 e.length 1), (6, ag d), (7, cx g), (8, ag a)], [.own (ae.c i), .own (ae.c f), .own [aB false, nS], .own (e.flatMap iCu)]⟩) (Q := fun x st' => match (generalizing := false) H with | (j, k) => x = .exit 2 /\ Wk 0 st' ⟨mkS 85 0 [(2, .hp 0 0), (3, .hp 1 0), (4, .hp 2 0), (5, .hs 3 0 j.length 1), (6, ag d), (7, cx k)], [.own (ae.c i), .own (ae.c f), .own [aB false, nS], .own (j.flatMap iCu)]⟩) A ((Wk.gc [2, 3, 4, 5, 6, 7, 8] [(0, true), (1, true), (2, true), (3, false)] rfl (pKt (pKt (pKt (pKo iCu (aA _) q trivial))))).to) ?_ ?_
   ·clear hr
    rintro m ⟨e, g, a⟩ hr
    refine CQ.sh ?_
    refine .seq (.seq (.r4 G [2, 3, 4, 5, 6, 7, 8] [(33, aB (decide (a < (f.Groups.length : Int))))] ?_))
    refine .cd hr ?_ ?_ <;> intro S hr
    ·refine .skip (.seq (.block (.seq ?_)))
     obtain ⟨p, B, C, hr⟩ := gd3 hr
     refine .eX G bO (.mu 4 (.pk (v := .hp 3 (0 + (G1 (d + a)).toNat * 1)) (tr (ar p)) (.pk (v := a7 (gt e (G1 (d + a)))) (tr (aI (aJ (aG .u32) (aE p) z1 (by omega : 0 + (G1 (d + a)).toNat * 1 = (G1 (d + a)).toNat * 1 + 0) kRf))) (.mu 4 (.pk (v := .pp (i.Groups.flatMap iCu) (d.toNat * 1)) (tr (ar B)) (.pk (v := a7 (gt i.Groups d)) (tr (aI (aJ (aG .u32) (aE B) z1 (by omega : d.toNat * 1 = d.toNat * 1 + 0) kRf))) (.mu 4 (.pk (v := .pp (f.Groups.flatMap iCu) (a.toNat * 1)) (tr (ar C)) (.pk (v := a7 (gt f.Groups a)) (tr (aI (aJ (aG .u32) (aE C) z1 (by omega : a.toNat * 1 = a.toNat * 1 + 0) kRf))) (.mu 6 ?_))))))))))
     refine .done (kRa ?_)
     refine .nh [2, 3, 4, 5, 6, 8, 9] [.own (ae.c i), .own (ae.c f), .own [aB false, nS], .own (e.flatMap iCu)] (.seq (.r0 G (.mu 7 (.p0 (v := .hp 3 (0 + (G1 (d + a)).toNat * 1)) (tr (ar p)) (.e0 (v := .unk) (ws := [(3, .own ((e.set (G1 (d + a)).toNat (aa .u32 ((wFu ((wFu ((wFu (gt e (G1 (d + a)))) + (wFu ((wFu (gt i.Groups d)) * (wFu (gt f.Groups a)))))) + g)).tmod 1000000000))).flatMap iCu))]) (tr (jn (ju (cy (n := 1) (aG .u32) (aE p) (lbT rfl) (by omega : 0 + (G1 (d + a)).toNat * 1 = (G1 (d + a)).toNat * 1 + 0))) (congrArg Blk.own (dc (xs := [a7 (aa .u32 ((wFu ((wFu ((wFu (gt e (G1 (d + a)))) + (wFu ((wFu (gt i.Groups d)) * (wFu (gt f.Groups a)))))) + g)).tmod 1000000000))]) (aG .u32) (aE p) (lbT rfl) (by omega : 0 + (G1 (d + a)).toNat * 1 = (G1 (d + a)).toNat * 1 + 0) kRf)))) (.done (.nh [2, 3, 4, 5, 6, 8, 9] [.own (ae.c i), .own (ae.c f), .own [aB false, nS], .own ((e.set (G1 (d + a)).toNat (aa .u32 ((wFu ((wFu ((wFu (gt e (G1 (d + a)))) + (wFu ((wFu (gt i.Groups d)) * (wFu (gt f.Groups a)))))) + g)).tmod 1000000000))).flatMap iCu)] (.ru G (.pop (.ru G ?_))))))))))
     exact az (e.set (G1 (d + a)).toNat (aa .u32 ((wFu ((wFu ((wFu (gt e (G1 (d + a)))) + (wFu ((wFu (gt i.Groups d)) * (wFu (gt f.Groups a)))))) + g)).tmod 1000000000)), wFu ((wFu ((wFu ((wFu (gt e (G1 (d + a)))) + (wFu ((wFu (gt i.Groups d)) * (wFu (gt f.Groups a)))))) + g)).tdiv 1000000000), G1 (a + 1)) hr ((Wk.iF 5 (b := 3) (es := 1) (len := e.length) (e.set (G1 (d + a)).toNat (aa .u32 ((wFu ((wFu ((wFu (gt e (G1 (d + a)))) + (wFu ((wFu (gt i.Groups d)) * (wFu (gt f.Groups a)))))) + g)).tmod 1000000000))).length kRf (Eq.symm (List.length_set.trans rfl))).trans ((Wk.gc [2, 3, 4, 5, 6, 7, 8] [(0, true), (1, true), (2, true), (3, false)] rfl (pKt (pKt (pKt (pKo iCu (aA _) (e.set (G1 (d + a)).toNat (aa .u32 ((wFu ((wFu ((wFu (gt e (G1 (d + a)))) + (wFu ((wFu (gt i.Groups d)) * (wFu (gt f.Groups a)))))) + g)).tmod 1000000000))) trivial))))).to))
    refine .leave rfl ?_
    obtain rfl := oi hr
    exact ⟨rfl, ((Wk.gc [2, 3, 4, 5, 6, 7] [(0, true), (1, true), (2, true), (3, false)] rfl (pKt (pKt (pKt (pKo iCu (aA _) e trivial))))).to)⟩
   rcases H with ⟨j, k⟩
   rintro x st' s
   clear A
   obtain ⟨rfl, s⟩ := s
   refine aU _ rfl (.wk s ?_)
   obtain ⟨t, hr⟩ := gd hr
   refine .r0 G (.mu 8 (.p0 (v := .hp 3 (0 + (G1 (d + (f.Groups.length : Int))).toNat * 1)) (tr (ar t)) (.e0 (v := .unk) (ws := [(3, .own ((j.set (G1 (d + (f.Groups.length : Int))).toNat (aa .u32 k)).flatMap iCu))]) (tr (jn (ju (cy (n := 1) (aG .u32) (aE t) (lbT rfl) (by omega : 0 + (G1 (d + (f.Groups.length : Int))).toNat * 1 = (G1 (d + (f.Groups.length : Int))).toNat * 1 + 0))) (congrArg Blk.own (dc (xs := [a7 (aa .u32 k)]) (aG .u32) (aE t) (lbT rfl) (by omega : 0 + (G1 (d + (f.Groups.length : Int))).toNat * 1 = (G1 (d + (f.Groups.length : Int))).toNat * 1 + 0) kRf)))) (.done (.pop (.ru G ?_))))))
   exact az (j.set (G1 (d + (f.Groups.length : Int))).toNat (aa .u32 k), G1 (d + 1)) hr ((Wk.iF 5 (b := 3) (es := 1) (len := j.length) (j.set (G1 (d + (f.Groups.length : Int))).toNat (aa .u32 k)).length kRf (Eq.symm (List.length_set.trans rfl))).trans ((Wk.gc [2, 3, 4, 5, 6] [(0, true), (1, true), (2, true), (3, false)] rfl (pKt (pKt (pKt (pKo iCu (aA _) (j.set (G1 (d + (f.Groups.length : Int))).toNat (aa .u32 k)) trivial))))).to))
  refine .leave rfl ?_
  obtain rfl := oi hr
  exact ⟨rfl, ((Wk.gc [2, 3, 4, 5] [(0, true), (1, true), (2, true), (3, false)] rfl (pKt (pKt (pKt (pKo iCu (aA _) q trivial))))).to)⟩
 rintro x st' u
 clear w
 obtain ⟨rfl, u⟩ := u
 refine aU _ rfl (.wk u (.seq ?_))
 obtain ⟨D, I, hr⟩ := bd hr
 refine .g1 G (b8 (args := [aB (i.Negative != f.Negative), .hs 3 0 o.length 1]) (l := [3]) (Sp (SnL.cons (Sn.hs rfl (.inl rfl) (SnC.pure (aY (aA _) _)) (fun h => cc h)) SnL.nil)) (aR n (i.Negative != f.Negative) o D I)) (.mu 6 (.ca cf0 (.mu 1 (.done (.nh [4] [.own (ae.c i), .own (ae.c f), .own (ae.c D), .fix (o.flatMap iCu)] (.ret ?_))))))
 obtain rfl := oi hr
 exact aH.r1 [.agg (ae.c D)]

theorem eU (n : Nat) (C : ae) (y : ae) (r : ae × ae × Int) (hr : dy n C y = some r) : aK Tryz.prog 127 [.agg (ae.c C), .agg (ae.c y)] (.tup [.agg (ae.c r.1), .agg (ae.c r.2.1), ag r.2.2]) := by
 unfold dy at hr
 refine aK.bd G Tryz.func127 [.cell 4 40, .cell 5 40, .tmp 6] ?_
 unfold Tryz.f127
 simp only [gS]
 refine .seq (.r2 G 54 [(2, .hp 0 0), (3, .hp 1 0), (4, .hp 2 0), (5, .hp 3 0)] [.own (ae.c C), .own (ae.c y), .own [aB false, nS], .own [aB false, nS]] (.seq ?_))
 obtain ⟨d, k, a, l, hr⟩ := bd2 hr
 refine .tn G (ca1 (ok0 (br n C d k)) (ca3 (ok0 (br n y a l)))) (.mu 1 (.ca cf0 (.mu 1 (.ca (cfA (fun h => by rw [sv l k (fl n h)]) cf0) (.mu 2 ?_)))))
 refine .done (kRa ?_)
 refine .nh [2, 3, 4, 5] [.own (ae.c d), .own (ae.c a), .own [aB false, nS], .own [aB false, nS]] (.seq (.seq (.r4 G [2, 3, 4, 5] [(17, aB (((a.Groups.length : Int) : Int) == 0))] ?_)))
 refine .cd hr ?_ ?_ <;> intro I hr
 ·refine .seq (.r4 G [4, 5] [(6, ag 14)] (.ret ?_))
  obtain rfl := oi hr
  exact aH.ret (vs := [.agg [aB false, nS], .agg [aB false, nS], ag 14]) kRf (Sn.tup (SnL.cons (Sn.agg (Sp (SnL.cons Sn.ft SnL.nil))) (SnL.cons (Sn.agg (Sp (SnL.cons Sn.ft SnL.nil))) (Sp SnL.nil))))
 refine .skip (.seq ?_)
 obtain ⟨F, D, hr⟩ := bd hr
 refine .g1 G (ok0 (gK n d.Groups a.Groups F D)) (.mu 4 (.ca cf0 (.mu 5 (.done (.nh [2, 3, 4, 5, 7, 8] [.own (ae.c d), .own (ae.c a), .own [aB false, nS], .own [aB false, nS]] (.seq ?_))))))
 obtain ⟨e, E, hr⟩ := bd hr
 refine .g1 G (ok0 (aR n (d.Negative != a.Negative) F.1 e E)) (.mu 6 (.ca cf0 (.mu 2 (.done (.nh [2, 3, 4, 5, 8, 9] [.own (ae.c d), .own (ae.c a), .own [aB false, nS], .own [aB false, nS], .own (ae.c e)] (.seq (.seq ?_)))))))
 rcases bT (d.Negative != a.Negative) with b | b
 ·replace hr := bY b hr
  refine .r0 G (.mu 4 (.p0 (v := aB true) (eB b) (.mu 5 (.done (.nh [2, 3, 4, 5, 9, 44] [.own (ae.c d), .own (ae.c a), .own [aB false, nS], .own [aB false, nS], .own (ae.c e)] ?_)))))
  refine .cd hr ?_ ?_ <;> intro H hr
  ·obtain ⟨m, o, f, p, hr⟩ := bd2 hr
   refine .tn G (ca1 (ok0 (lU n 1 m o)) (ca3 (ok0 (eQ n e m f p)))) (.mu 1 (.ca cf0 (.ca (cfF cf0) (.mu 1 ?_))))
   refine .done (kRa ?_)
   refine .nh [2, 3, 4, 5, 9] [.own (ae.c d), .own (ae.c a), .own [aB false, nS], .own [aB false, nS], .own (ae.c f)] (.seq ?_)
   obtain ⟨q, s, g, t, hr⟩ := bd2 hr
   refine .tn G (ca1 (ok0 (dm n f a q s)) (ca3 (ok0 (eQ n d q g t)))) (.mu 4 (.ca cf0 (.ca (cfF cf0) (.mu 3 ?_))))
   refine .done (kRa ?_)
   refine .nh [4, 5, 6] [.own (ae.c d), .own (ae.c a), .own (ae.c f), .own (ae.c g), .own (ae.c f)] (.ret ?_)
   obtain rfl := oi hr
   exact aH.ret (vs := [.agg (ae.c f), .agg (ae.c g), ag 0]) kRf (Sn.tup (Sp (Sp (Sp SnL.nil))))
  refine .skip (.seq ?_)
  obtain ⟨u, w, i, x, hr⟩ := bd2 hr
  refine .tn G (ca1 (ok0 (dm n e a u w)) (ca3 (ok0 (eQ n d u i x)))) (.mu 4 (.ca cf0 (.ca (cfF cf0) (.mu 3 ?_))))
  refine .done (kRa ?_)
  refine .nh [4, 5, 6] [.own (ae.c d), .own (ae.c a), .own (ae.c e), .own (ae.c i), .own (ae.c e)] (.ret ?_)
  obtain rfl := oi hr
  exact aH.ret (vs := [.agg (ae.c e), .agg (ae.c i), ag 0]) kRf (Sn.tup (Sp (Sp (Sp SnL.nil))))
 replace hr := bW b hr
 refine .r0 G (.mu 4 (.p0 (v := aB false) (eB b) (.mu 5 (.done (.nh [2, 3, 4, 5, 9, 44] [.own (ae.c d), .own (ae.c a), .own [aB false, nS], .own [aB false, nS], .own (ae.c e)] (.cF kRf (.skip (.seq ?_))))))))
 obtain ⟨z, A, j, B, hr⟩ := bd2 hr
 refine .tn G (ca1 (ok0 (dm n e a z A)) (ca3 (ok0 (eQ n d z j B)))) (.mu 4 (.ca cf0 (.ca (cfF cf0) (.mu 3 ?_))))
 refine .done (kRa ?_)
 refine .nh [4, 5, 6] [.own (ae.c d), .own (ae.c a), .own (ae.c e), .own (ae.c j), .own (ae.c e)] (.ret ?_)
 obtain rfl := oi hr
 exact aH.ret (vs := [.agg (ae.c e), .agg (ae.c j), ag 0]) kRf (Sn.tup (Sp (Sp (Sp SnL.nil))))

theorem jq (n : Nat) (num : ae) (den : ae) (r : aj) (hr : fG n num den = some r) : aK Tryz.prog 86 [.agg (ae.c num), .agg (ae.c den)] (.agg (aj.c r)) := by
 unfold fG at hr
 refine aK.bd G Tryz.func86 [.cell 4 42] ?_
 unfold Tryz.f86
 simp only [gS]
 refine .seq (.r2 G 37 [(2, .hp 0 0), (3, .hp 1 0), (4, .hp 2 0)] [.own (ae.c num), .own (ae.c den), .own zN2] (.seq ?_))
 obtain ⟨f, k, hr⟩ := bd hr
 refine .g1 G (ok0 (kT n num den f k)) (.mu 2 (.ca cf0 (.mu 2 (.done (.nh [2, 3, 4, 5] [.own (ae.c num), .own (ae.c den), .own zN2, .own (ae.c f)] (.seq (.seq ?_)))))))
 obtain ⟨p, l, hr⟩ := bd hr
 refine .g1 G (ok0 (dY n den p l)) (.mu 1 (.ca cf0 (.mu 1 (.done (.nh [2, 3, 4, 5, 17] [.own (ae.c num), .own (ae.c den), .own zN2, .own (ae.c f)] ?_)))))
 refine .cd hr ?_ ?_ <;> intro q hr
 ·obtain ⟨g, m, hr⟩ := bd hr
  refine .g1 G (ok0 (iX n f g m)) (.mu 1 (.ca cf0 (.mu 1 (.done (.nh [2, 3, 4, 5] [.own (ae.c num), .own (ae.c den), .own zN2, .own (ae.c g)] (.seq ?_))))))
  obtain ⟨e, o, hr⟩ := bd hr
  refine .g1 G (ok0 (eU n num g e o)) (.mu 2 (.ca cf0 (.mu 9 (.done (.nh [3, 4, 5, 6] [.own (ae.c num), .own (ae.c den), .own zN2, .own (ae.c g), .own (ae.c e.1), .own (ae.c e.2.1)] (.seq ?_))))))
  obtain ⟨b, h, hr⟩ := bd hr
  refine .g1 G (ok0 (eU n den g b h)) (.mu 2 (.ca cf0 (.mu 9 (.done (.nh [4, 6, 9] [.own (ae.c num), .own (ae.c den), .own zN2, .own (ae.c g), .own (ae.c e.1), .own (ae.c e.2.1), .own (ae.c b.1), .own (ae.c b.2.1)] (.seq (.r5 G [4] [] [.own (ae.c num), .own (ae.c den), .own [aB e.1.Negative, av e.1.Groups, aB b.1.Negative, av b.1.Groups], .own (ae.c g), .own (ae.c e.1), .own (ae.c e.2.1), .own (ae.c b.1), .own (ae.c b.2.1)] (.ret ?_))))))))
  obtain rfl := oi hr
  exact aH.r1 [.agg [aB e.1.Negative, av e.1.Groups, aB b.1.Negative, av b.1.Groups]]
 refine .skip (.seq ?_)
 obtain ⟨a, i, hr⟩ := bd hr
 refine .g1 G (ok0 (eU n num f a i)) (.mu 2 (.ca cf0 (.mu 9 (.done (.nh [3, 4, 5, 6] [.own (ae.c num), .own (ae.c den), .own zN2, .own (ae.c f), .own (ae.c a.1), .own (ae.c a.2.1)] (.seq ?_))))))
 obtain ⟨d, j, hr⟩ := bd hr
 refine .g1 G (ok0 (eU n den f d j)) (.mu 2 (.ca cf0 (.mu 9 (.done (.nh [4, 6, 9] [.own (ae.c num), .own (ae.c den), .own zN2, .own (ae.c f), .own (ae.c a.1), .own (ae.c a.2.1), .own (ae.c d.1), .own (ae.c d.2.1)] (.seq (.r5 G [4] [] [.own (ae.c num), .own (ae.c den), .own [aB a.1.Negative, av a.1.Groups, aB d.1.Negative, av d.1.Groups], .own (ae.c f), .own (ae.c a.1), .own (ae.c a.2.1), .own (ae.c d.1), .own (ae.c d.2.1)] (.ret ?_))))))))
 obtain rfl := oi hr
 exact aH.r1 [.agg [aB a.1.Negative, av a.1.Groups, aB d.1.Negative, av d.1.Groups]]

theorem qe (n : Nat) (num : ae) (den : ae) (r : aj × Int) (hr : jU n num den = some r) : aK Tryz.prog 82 [.agg (ae.c num), .agg (ae.c den)] (.tup [.agg (aj.c r.1), ag r.2]) := by
 unfold jU at hr
 refine aK.bd G Tryz.func82 [.cell 4 42, .tmp 5] ?_
 unfold Tryz.f82
 simp only [gS]
 refine .seq (.r2 G 13 [(2, .hp 0 0), (3, .hp 1 0), (4, .hp 2 0)] [.own (ae.c num), .own (ae.c den), .own zN2] (.seq (.seq ?_)))
 obtain ⟨e, a, hr⟩ := bd hr
 refine .g1 G (ok0 (dY n den e a)) (.mu 1 (.ca cf0 (.mu 1 (.done (.nh [2, 3, 4, 8] [.own (ae.c num), .own (ae.c den), .own zN2] ?_)))))
 refine .cd hr ?_ ?_ <;> intro f hr
 ·refine .seq (.r4 G [4] [(5, ag 14)] (.ret ?_))
  obtain rfl := oi hr
  exact aH.ret (vs := [.agg zN2, ag 14]) kRf (Sn.tup (SnL.cons (Sn.agg (Sp (SnL.cons Sn.ft (Sp (SnL.cons Sn.ft SnL.nil))))) (Sp SnL.nil)))
 refine .skip (.seq ?_)
 obtain ⟨b, d, hr⟩ := bd hr
 refine .g1 G (ok0 (jq n num den b d)) (.mu 2 (.ca cf0 (.mu 2 (.done (.nh [4, 5] [.own (ae.c num), .own (ae.c den), .own (aj.c b)] (.ret ?_))))))
 obtain rfl := oi hr
 exact aH.ret (vs := [.agg (aj.c b), ag 0]) kRf (Sn.tup (Sp (Sp SnL.nil)))

theorem qN (n : Nat) (f : Int) (d : Int) (r : aj × Int) (hr : ky n f d = some r) : aK Tryz.prog 36 [ag f, ag d] (.tup [.agg (aj.c r.1), ag r.2]) := by
 unfold ky at hr
 refine aK.bd G Tryz.func36 [.cell 4 42, .tmp 5] ?_
 unfold Tryz.f36
 simp only [gS]
 refine .seq (.r5 G [0, 1] [(4, .hp 0 0)] [.own zN2] (.seq ?_))
 obtain ⟨i, a, j, b, e, g, hr⟩ := bd3 hr
 refine .gn G (ca1 (ok0 (dN n f i a)) (ca1 (ok0 (dN n d j b)) (ca3 (ok0 (qe n i j e g))))) (.mu 1 (.ca cf0 (.mu 1 (.ca (cfA (fun h => by rw [sv b a (ke n h)]) cf0) (.ca (cfF (cfF cf0)) (.mu 4 (.done (.nh [4, 5] [.own (aj.c e.1)] (.ret ?_)))))))))
 obtain rfl := oi hr
 exact aH.ret (vs := [.agg (aj.c e.1), ag e.2]) kRf (Sn.tup (Sp (Sp SnL.nil)))

theorem nw (n : Nat) (a : ae) (y : ae) (r : Int) (hr : iv n a y = some r) : aK Tryz.prog 114 [.agg (ae.c a), .agg (ae.c y)] (ag r) := by
 unfold iv at hr
 refine aK.bd G Tryz.func114 [.tmp 4] ?_
 unfold Tryz.f114
 simp only [gS]
 refine .seq (.r2 G 9 [(2, .hp 0 0), (3, .hp 1 0)] [.own (ae.c a), .own (ae.c y)] (.seq ?_))
 obtain ⟨e, b, f, d, hr⟩ := bd2 hr
 refine .gn G (ca1 (ok0 (eQ n a y e b)) (ca3 (ok0 (dY n e f d)))) (.mu 2 (.ca cf0 (.ca (cfF cf0) (.mu 1 (.done (.ret ?_))))))
 obtain rfl := oi hr
 exact aH.r1 [ag f]

theorem kd (n : Nat) {b : aj} {a : aj} (h : ([.agg (aj.c b)] : List AV) = [.agg (aj.c a)]) : cX n b = cX n a := by
 obtain rfl := gL h
 rfl
theorem cW (n : Nat) (a : aj) (r : Bool) (hr : cX n a = some r) : aK Tryz.prog 69 [.agg (aj.c a)] (aB r) := by
 unfold cX at hr
 refine aK.bd G Tryz.func69 [.tmp 2] ?_
 unfold Tryz.f69
 simp only [gS]
 refine .seq (.r2 G 27 [(1, .hp 0 0)] [.own (aj.c a)] (.seq (.seq ?_)))
 obtain ⟨o, d, hr⟩ := bd hr
 rcases bT (!o) with b | b
 ·replace hr := bY b hr
  refine .g1 G (ok0 (cV n a.Num o d)) (.mu 2 (.ca cf0 (.p0 (v := aB true) (eB b) (.mu 12 (.done (.nh [1, 18] [.own (aj.c a)] (.cT kRf (.seq (.ru G (.ret ?_))))))))))
  obtain rfl := oi hr
  exact aH.r1 [aB false]
 replace hr := bW b hr
 obtain ⟨p, f, hr⟩ := bd hr
 rcases bT (!p) with e | e
 ·replace hr := bY e hr
  refine .gn G (ca1 (ok0 (cV n a.Num o d)) (ca3 (ok0 (cV n a.Den p f)))) (.mu 2 (.ca cf0 (.p0 (v := aB false) (eB b) (.mu 3 (.ca (cfA (fun h => by rw [sv f d (kb n h)]) cf0) (.pure (v := aB true) kRf (eB e) (.mu 7 (.done (.nh [1, 18] [.own (aj.c a)] (.cT kRf (.seq (.ru G (.ret ?_)))))))))))))
  obtain rfl := oi hr
  exact aH.r1 [aB false]
 replace hr := bW e hr
 obtain ⟨s, q, hr⟩ := bd hr
 refine .gn G (ca1 (ok0 (cV n a.Num o d)) (ca1 (ok0 (cV n a.Den p f)) (ca3 (ok0 (dY n a.Den s q))))) (.mu 2 (.ca cf0 (.p0 (v := aB false) (eB b) (.mu 3 (.ca (cfA (fun h => by rw [sv f d (kb n h)]) cf0) (.pure (v := aB false) kRf (eB e) (.mu 4 (.ca (cfF (cfF cf0)) (.mu 2 (.done (.nh [1, 18] [.own (aj.c a)] ?_)))))))))))
 refine .cd hr ?_ ?_ <;> intro t hr
 ·refine .seq (.ru G (.ret ?_))
  obtain rfl := oi hr
  exact aH.r1 [aB false]
 refine .skip (.seq ?_)
 obtain ⟨g, i, j, k, l, m, hr⟩ := bd3 hr
 refine .gn G (ca1 (ok0 (kT n a.Num a.Den g i)) (ca1 (ok0 (dN n 1 j k)) (ca3 (ok0 (nw n g j l m))))) (.mu 4 (.ca cf0 (.ca (cfF cf0) (.ca (cfF (cfF cf0)) (.mu 2 (.done (.ret ?_)))))))
 obtain rfl := oi hr
 exact aH.r1 [aB ((l : Int) == 0)]

theorem oH (n : Nat) (f : Int) (r : aj) (hr : jl n f = some r) : aK Tryz.prog 65 [ag f] (.agg (aj.c r)) := by
 unfold jl at hr
 refine aK.bd G Tryz.func65 [.cell 2 42] ?_
 unfold Tryz.f65
 simp only [gS]
 refine .seq (.r5 G [0] [(2, .hp 0 0)] [.own zN2] (.seq ?_))
 obtain ⟨a, b, d, e, hr⟩ := bd2 hr
 refine .gn G (ca1 (ok0 (dN n f a b)) (ca3 (ok0 (dN n 1 d e)))) (.mu 1 (.ca cf0 (.ca (cfA (fun h => by rw [sv e b (ke n h)]) cf0) (.mu 2 (.done (.nh [2] [.own [aB a.Negative, av a.Groups, aB d.Negative, av d.Groups]] (.ret ?_)))))))
 obtain rfl := oi hr
 exact aH.r1 [.agg [aB a.Negative, av a.Groups, aB d.Negative, av d.Groups]]

theorem fh (n : Nat) (a : aj) (r : aj) (hr : dQ n a = some r) : aK Tryz.prog 85 [.agg (aj.c a)] (.agg (aj.c r)) := by
 unfold dQ at hr
 refine aK.bd G Tryz.func85 [.cell 2 42] ?_
 unfold Tryz.f85
 simp only [gS]
 refine .seq (.r2 G 7 [(1, .hp 0 0), (2, .hp 1 0)] [.own (aj.c a), .own zN2] (.seq (.seq ?_)))
 obtain ⟨f, b, hr⟩ := bd hr
 refine .g1 G (ok0 (cW n a f b)) (.mu 1 (.ca cf0 (.done (.nh [1, 2, 4] [.own (aj.c a), .own zN2] ?_))))
 refine .cd hr ?_ ?_ <;> intro g hr
 ·refine .seq (.r5 G [2] [] [.own (aj.c a), .own (aj.c a)] (.ret ?_))
  obtain rfl := oi hr
  exact aH.r1 [.agg (aj.c a)]
 refine .skip (.seq ?_)
 obtain ⟨d, e, hr⟩ := bd hr
 refine .g1 G (ok0 (oH n 0 d e)) (.ca cf0 (.mu 1 (.done (.nh [2] [.own (aj.c a), .own (aj.c d)] (.ret ?_)))))
 obtain rfl := oi hr
 exact aH.r1 [.agg (aj.c d)]

theorem pO (n : Nat) (b : aj) (r : aj) (hr : j2 n b = some r) : aK Tryz.prog 84 [.agg (aj.c b)] (.agg (aj.c r)) := by
 unfold j2 at hr
 refine aK.bd G Tryz.func84 [.cell 2 42] ?_
 unfold Tryz.f84
 simp only [gS]
 refine .seq (.r2 G 12 [(1, .hp 0 0), (2, .hp 1 0)] [.own (aj.c b), .own zN2] (.seq ?_))
 obtain ⟨a, e, hr⟩ := bd hr
 refine .g1 G (ok0 (fh n b a e)) (.mu 1 (.ca cf0 (.mu 2 (.done (.nh [2, 3] [.own (aj.c b), .own zN2, .own (aj.c a)] (.seq ?_))))))
 obtain ⟨d, f, hr⟩ := bd hr
 refine .t1 G (ok0 (iX n a.Num d f)) (.mu 2 (.ca cf0 (.mu 4 ?_)))
 refine .done (kRa ?_)
 refine .nh [2] [.own (aj.c b), .own [aB d.Negative, av d.Groups, aB a.Den.Negative, av a.Den.Groups], .own (aj.c a)] (.ret ?_)
 obtain rfl := oi hr
 exact aH.r1 [.agg [aB d.Negative, av d.Groups, aB a.Den.Negative, av a.Den.Groups]]

theorem p7 (n : Nat) (b : aj) (y : aj) (r : aj) (hr : jV n b y = some r) : aK Tryz.prog 71 [.agg (aj.c b), .agg (aj.c y)] (.agg (aj.c r)) := by
 unfold jV at hr
 refine aK.bd G Tryz.func71 [.cell 4 42] ?_
 unfold Tryz.f71
 simp only [gS]
 refine .seq (.r2 G 28 [(2, .hp 0 0), (3, .hp 1 0), (4, .hp 2 0)] [.own (aj.c b), .own (aj.c y), .own zN2] (.seq ?_))
 obtain ⟨d, m, hr⟩ := bd hr
 refine .g1 G (ok0 (fh n b d m)) (.mu 1 (.ca cf0 (.mu 2 (.done (.nh [3, 4, 5] [.own (aj.c b), .own (aj.c y), .own zN2, .own (aj.c d)] (.seq ?_))))))
 obtain ⟨i, o, hr⟩ := bd hr
 refine .g1 G (ok0 (fh n y i o)) (.mu 1 (.ca cf0 (.mu 2 (.done (.nh [4, 5, 6] [.own (aj.c b), .own (aj.c y), .own zN2, .own (aj.c d), .own (aj.c i)] (.seq ?_))))))
 obtain ⟨p, e, q, f, s, j, hr⟩ := bd3 hr
 obtain ⟨k, a, g, l, hr⟩ := bd2 hr
 refine .tn G (ca1 (ok0 (dm n d.Num i.Den p e)) (ca1 (ok0 (dm n i.Num d.Den q f)) (ca1 (ok0 (lB n p q s j)) (ca1 (ok0 (dm n d.Den i.Den k a)) (ca3 (ok0 (jq n s k g l))))))) (.mu 4 (.ca cf0 (.mu 4 (.ca (cfA (fun h => by rw [sv f e (iT n h)]) cf0) (.ca (cfF (cfF cf0)) (.mu 4 (.ca (cfA (fun h => by rw [sv a e (iT n h)]) (cfA (fun h => by rw [sv a f (iT n h)]) (cfF cf0))) (.ca (cfF (cfF (cfF (cfF cf0)))) (.mu 1 ?_)))))))))
 refine .done (kRa ?_)
 refine .nh [4] [.own (aj.c b), .own (aj.c y), .own (aj.c g), .own (aj.c d), .own (aj.c i)] (.ret ?_)
 obtain rfl := oi hr
 exact aH.r1 [.agg (aj.c g)]

theorem pW (n : Nat) (a : aj) (y : aj) (r : aj) (hr : j3 n a y = some r) : aK Tryz.prog 37 [.agg (aj.c a), .agg (aj.c y)] (.agg (aj.c r)) := by
 unfold j3 at hr
 refine aK.bd G Tryz.func37 [.cell 4 42] ?_
 unfold Tryz.f37
 simp only [gS]
 refine .seq (.r2 G 9 [(2, .hp 0 0), (3, .hp 1 0), (4, .hp 2 0)] [.own (aj.c a), .own (aj.c y), .own zN2] (.seq ?_))
 obtain ⟨f, b, d, e, hr⟩ := bd2 hr
 refine .tn G (ca1 (ok0 (pO n y f b)) (ca3 (ok0 (p7 n a f d e)))) (.mu 2 (.ca cf0 (.ca (cfF cf0) (.mu 1 ?_))))
 refine .done (kRa ?_)
 refine .nh [4] [.own (aj.c a), .own (aj.c y), .own (aj.c d)] (.ret ?_)
 obtain rfl := oi hr
 exact aH.r1 [.agg (aj.c d)]

theorem pD (n : Nat) (a : aj) (r : Int) (hr : jJ n a = some r) : aK Tryz.prog 70 [.agg (aj.c a)] (ag r) := by
 unfold jJ at hr
 refine aK.bd G Tryz.func70 [.tmp 2] ?_
 unfold Tryz.f70
 simp only [gS]
 refine .seq (.r2 G 7 [(1, .hp 0 0)] [.own (aj.c a)] (.seq ?_))
 obtain ⟨e, b, f, d, hr⟩ := bd2 hr
 refine .gn G (ca1 (ok0 (fh n a e b)) (ca3 (ok0 (dY n e.Num f d)))) (.mu 1 (.ca cf0 (.mu 1 (.ca (cfF cf0) (.mu 1 (.done (.ret ?_)))))))
 obtain rfl := oi hr
 exact aH.r1 [ag f]

theorem nr (n : Nat) (a : aj) (y : aj) (r : Int) (hr : iB n a y = some r) : aK Tryz.prog 38 [.agg (aj.c a), .agg (aj.c y)] (ag r) := by
 unfold iB at hr
 refine aK.bd G Tryz.func38 [.tmp 4] ?_
 unfold Tryz.f38
 simp only [gS]
 refine .seq (.r2 G 9 [(2, .hp 0 0), (3, .hp 1 0)] [.own (aj.c a), .own (aj.c y)] (.seq ?_))
 obtain ⟨e, b, f, d, hr⟩ := bd2 hr
 refine .gn G (ca1 (ok0 (pW n a y e b)) (ca3 (ok0 (pD n e f d)))) (.mu 2 (.ca cf0 (.ca (cfF cf0) (.mu 1 (.done (.ret ?_))))))
 obtain rfl := oi hr
 exact aH.r1 [ag f]

theorem kp (n : Nat) (d : aj) (y : aj) (r : Bool) (hr : jH n d y = some r) : aK Tryz.prog 32 [.agg (aj.c d), .agg (aj.c y)] (aB r) := by
 unfold jH at hr
 refine aK.bd G Tryz.func32 [.tmp 4] ?_
 unfold Tryz.f32
 simp only [gS]
 refine .seq (.r2 G 17 [(2, .hp 0 0), (3, .hp 1 0)] [.own (aj.c d), .own (aj.c y)] (.seq ?_))
 obtain ⟨j, a, hr⟩ := bd hr
 rcases bT j with e | e
 ·subst e
  replace hr := bY rfl hr
  obtain ⟨k, b, hr⟩ := bd hr
  rcases bT k with f | f
  ·subst f
   replace hr := bY rfl hr
   obtain ⟨i, g, hr⟩ := bd hr
   refine .gn G (ca1 (ok0 (cW n d true a)) (ca1 (ok0 (cW n y true b)) (ca3 (ok0 (nr n d y i g))))) (.mu 1 (.ca cf0 (.mu 2 (.ca (cfA (fun h => by rw [sv b a (kd n h)]) cf0) (.mu 4 (.ca (cfF (cfF cf0)) (.mu 3 (.done (.ret ?_)))))))))
   obtain rfl := oi hr
   exact aH.r1 [aB ((i : Int) == 0)]
  subst f
  replace hr := bW rfl hr
  refine .gn G (ca1 (ok0 (cW n d true a)) (ca3 (ok0 (cW n y false b)))) (.mu 1 (.ca cf0 (.mu 2 (.ca (cfA (fun h => by rw [sv b a (kd n h)]) cf0) (.mu 8 (.done (.ret ?_)))))))
  obtain rfl := oi hr
  exact aH.r1 [aB false]
 subst e
 replace hr := bW rfl hr
 refine .g1 G (ok0 (cW n d false a)) (.mu 1 (.ca cf0 (.mu 11 (.done (.ret ?_)))))
 obtain rfl := oi hr
 exact aH.r1 [aB false]

theorem dV (n : Nat) (a : Int) (r : List ak) (hr : bl n a = some r) : dz 0 Tryz.prog 131 [nS, ag a] [] (.hs 0 0 r.length 6) [.own (r.flatMap ak.c)] := by
 unfold bl at hr
 refine dz.qQ G Tryz.func131 (c := (Tryz.f131.body).getD .skip) rfl (us := [.hs 0 0 r.length 6]) (s := mkS 27 0 [(0, nS), (1, ag a)]) kRf (rs := [.tmp 4]) rfl ?_
 unfold Tryz.f131
 simp only [gS]
 refine .seq (.r4 G [0, 1] [] (.seq (.seq (.r4 G [0, 1] [(6, aB (decide (a < 0)))] ?_))))
 obtain ⟨g, hr⟩ := gdn hr
 refine .cN g (.skip (.seq (.seq (.r4 G [0] [(1, ag (G1 (a - 0)))] (.seq (.r4 G [0, 1] [(16, aB (decide ((G1 (a - 0)) > 0)))] ?_))))))
 refine .cd hr ?_ ?_ <;> intro h hr
 ·obtain ⟨b, d, e, hr⟩ := gd3 hr
  obtain ⟨f, hr⟩ := gd hr
  refine .r0 G (.mu 5 (.e0 (v := .hs 0 0 (G1 (a - 0)).toNat 6) (ws := [(0, .own (c8 [ag 0, ag 0, aB false, nS, aB false, nS] (G1 (a - 0)).toNat))]) (tr (y := ni (decide (0 < (G1 (a - 0))) && decide ((G1 (a - 0)) <= 4611686018427387904) && decide ((G1 (a - 0)).toNat * 80 <= 140737488355328) && true && true && true) (some (.eff (.hs 0 0 (G1 (a - 0)).toNat 6) [(0, .own (c8 [ag 0, ag 0, aB false, nS, aB false, nS] (G1 (a - 0)).toNat))]))) (BO b d e)) (.mu 2 (.p0 (v := .hs 0 0 (0 : Int).toNat 6) (tr (y := slH (inS 0 0 (G1 (a - 0)).toNat) true ((0 : Int).toNat) ((0 : Int).toNat) (fun z1 i => .hs 0 (0 + z1 * 6) (i - z1) 6)) (CI f kRf)) (.mu 1 (.done (.nh [0] [.own (c8 [ag 0, ag 0, aB false, nS, aB false, nS] (G1 (a - 0)).toNat)] (.wk ((Wk.mask [0]).trans ((Wk.cut 0 (cs := c8 [ag 0, ag 0, aB false, nS, aB false, nS] (G1 (a - 0)).toNat) 0 kRf).to (c := ⟨mkS 27 0 [(0, .hs 0 0 ([] : List ak).length 6)], [.own (([] : List ak).flatMap ak.c)]⟩) kRf)) (.seq (.r3 G 27 [(4, .hs 0 0 ([] : List ak).length 6)] (.ret ?_)))))))))))
  obtain rfl := oi hr
  exact gj.ret [.hs 0 0 ([] : List ak).length 6] ((Wk.gc [0] [(0, false)] rfl (pKo ak.c ak.pure ([] : List ak) trivial)).to)
 refine .skip (.seq (.r3 G 27 [(4, nS)] (.ret ?_)))
 obtain rfl := oi hr
 exact gj.ret [nS] ((Wk.nil 0 6 kRf).trans ((Wk.gc [0] [(0, false)] rfl (pKc trivial)).to))

theorem dW (n : Nat) (slices : List (List ak)) (r : List ak) (hr : bm n slices = some r) : aK Tryz.prog 96 [slT (slC ak.c) slices] (slT ak.c r) := by
 unfold bm at hr
 refine aK.bd G Tryz.func96 [.tmp 2] ?_
 unfold Tryz.f96
 simp only [gS]
 refine .seq (.r4 G [0] [] (.seq (.r4 G [0] [(3, ag 0)] (.seq (.seq (.r4 G [0, 3] [(9, slT (slC ak.c) slices), (10, ag (slices.length : Int)), (11, ag 0)] (.block ?_)))))))
 replace hr := bd hr; obtain ⟨p, j, hr⟩ := hr
 refine .aN (σ := fun A => match A with | (f, d) => ⟨mkS 36 0 [(0, slT (slC ak.c) slices), (3, ag f), (9, slT (slC ak.c) slices), (10, ag (slices.length : Int)), (11, ag d)], []⟩) (Q := fun x st' => x = .exit 0 /\ Wk 0 st' ⟨mkS 36 0 [(0, slT (slC ak.c) slices), (3, ag p)], []⟩) j ((Wk.gc [0, 3, 9, 10, 11] [] rfl pK0).to) ?_ ?_
 ·clear hr
  rintro m ⟨f, d⟩ hr
  refine CQ.sh ?_
  refine .seq (.r4 G [0, 3, 9, 10, 11] [(12, aB (decide (d < (slices.length : Int))))] (.seq ?_))
  refine .cd hr ?_ ?_ <;> intro D hr
  ·refine .skip (.seq (.block (.seq ?_)))
   obtain ⟨s, hr⟩ := gd hr
   refine .r0 G (.p0 (v := .pp (slices.flatMap (slC ak.c)) (d.toNat * 1)) (tr (ar s)) (.p0 (v := slT ak.c (gt slices d)) (tr (aI (aJ (AE ak.c) (aE s) z1 (by omega : d.toNat * 1 = d.toNat * 1 + 0) kRf))) (.mu 1 (.done (.nh [0, 3, 5, 9, 10, 11] [] (.seq (.r4 G [0, 9, 10, 11] [(3, ag (G1 (f + ((gt slices d).length : Int))))] (.seq (.r4 G [0, 3, 9, 10, 11] [(20, aB (decide ((G1 (f + ((gt slices d).length : Int))) < 0)))] ?_)))))))))
   obtain ⟨t, hr⟩ := gdn hr
   refine .cN t (.skip (.pop (.ru G ?_)))
   exact az (G1 (f + ((gt slices d).length : Int)), G1 (d + 1)) hr ((Wk.gc [0, 3, 9, 10, 11] [] rfl pK0).to)
  refine .leave rfl ?_
  obtain rfl := oi hr
  exact ⟨rfl, ((Wk.gc [0, 3] [] rfl pK0).to)⟩
 rintro x st' g
 clear j
 obtain ⟨rfl, g⟩ := g
 refine aU _ rfl (.wk g (.seq ?_))
 obtain ⟨q, u, hr⟩ := bd hr
 refine .g1 G (cL (args := [nS, ag p]) 0 1 [] [false] (dV n p q u) trivial (by exact ⟨aY ak.pure _, trivial⟩) rfl rfl kRf kRf) (.mu 1 (.ca cf0 (.mu 1 (.done (.nh [0, 6] [.own (q.flatMap ak.c)] (.seq (.seq (.r4 G [6] [(25, slT (slC ak.c) slices), (26, ag (slices.length : Int)), (27, ag 0)] (.block ?_)))))))))
 replace hr := bd hr; obtain ⟨e, k, hr⟩ := hr
 refine .aN (σ := fun A => match A with | (a, b) => ⟨mkS 36 0 [(6, .hs 0 0 a.length 6), (25, slT (slC ak.c) slices), (26, ag (slices.length : Int)), (27, ag b)], [.own (a.flatMap ak.c)]⟩) (Q := fun x st' => x = .exit 2 /\ Wk 0 st' ⟨mkS 36 0 [(6, .hs 0 0 e.length 6)], [.own (e.flatMap ak.c)]⟩) k ((Wk.gc [6, 25, 26, 27] [(0, false)] rfl (pKo ak.c ak.pure q trivial)).to) ?_ ?_
 ·clear hr
  rintro m ⟨a, b⟩ hr
  refine CQ.sh ?_
  refine .seq (.r4 G [6, 25, 26, 27] [(28, aB (decide (b < (slices.length : Int))))] (.seq ?_))
  refine .cd hr ?_ ?_ <;> intro C hr
  ·refine .skip (.seq (.block (.seq ?_)))
   obtain ⟨o, hr⟩ := gd hr
   refine .r0 G (.p0 (v := .pp (slices.flatMap (slC ak.c)) (b.toNat * 1)) (tr (ar o)) (.p0 (v := slT ak.c (gt slices b)) (tr (aI (aJ (AE ak.c) (aE o) z1 (by omega : b.toNat * 1 = b.toNat * 1 + 0) kRf))) (.mu 1 (.done (.nh [6, 8, 25, 26, 27] [.own (a.flatMap ak.c)] ?_)))))
   obtain ⟨w, z, hr⟩ := gd2 hr
   refine .r0 G (.mu 2 (.e0 (v := .hs 1 0 (a ++ (gt slices b)).length 6) (ws := [(0, .dead), (1, .own ((a ++ (gt slices b)).flatMap ak.c))]) (tr (y := zU (decide ((((gt slices b).flatMap ak.c)).length = (gt slices b).length * 6)) ((gt slices b).flatMap ak.c) (gt slices b).length (fun z1 B => ni (decide (0 + a.length * 6 <= (a.flatMap ak.c).length) && decide ((a.length + B) * 80 <= 140737488355328) && decide (a.length + B <= 4611686018427387904)) (some (.eff (.hs 1 0 (a.length + B) 6) [(0, .dead), (1, .own (((a.flatMap ak.c).drop 0).take (a.length * 6) ++ z1))])))) (tD (mc ak.len) rfl (dX (l := a) (xs := (gt slices b)) ak.len rfl rfl rfl w z))) (.mu 1 (.done (.pop (.ru G ?_))))))
   exact az (a ++ (gt slices b), G1 (b + 1)) hr ((Wk.gc [6, 25, 26, 27] [(1, false)] rfl (pKo ak.c ak.pure (a ++ (gt slices b)) trivial)).to)
  refine .leave rfl ?_
  obtain rfl := oi hr
  exact ⟨rfl, ((Wk.gc [6] [(0, false)] rfl (pKo ak.c ak.pure a trivial)).to)⟩
 rintro x st' i
 clear k
 obtain ⟨rfl, i⟩ := i
 refine aU _ rfl (.wk i (.seq (.r3 G 36 [(2, .hs 0 0 e.length 6)] (.ret ?_))))
 obtain rfl := oi hr
 exact aH.ret (vs := [.hs 0 0 e.length 6]) kRf (Sn.hs rfl (.inl rfl) (SnC.pure (aY ak.pure _)) (fun h => cc h))

theorem sg (n : Nat) (c : ah) (r : ah) (hr : mA n c = some r) : aK Tryz.prog 51 [.agg (ah.c c)] (.agg (ah.c r)) := by
 unfold mA at hr
 refine aK.bd G Tryz.func51 [.cell 2 35] ?_
 unfold Tryz.f51
 simp only [gS]
 refine .seq (.r2 G 49 [(1, .hp 0 0), (2, .hp 1 0)] [.own (ah.c c), .own [aB false, nS]] (.seq (.seq (.r4 G [1, 2] [(9, aB (!c.Closed))] ?_))))
 refine .cd hr ?_ ?_ <;> intro z hr
 ·refine .seq (.r5 G [2] [] [.own (ah.c c), .own (ah.c c)] (.ret ?_))
  obtain rfl := oi hr
  exact aH.r1 [.agg (ah.c c)]
 refine .skip (.seq (.r4 G [1, 2] [(3, ag 0)] (.seq (.seq (.r4 G [1, 2, 3] [(12, slT ak.c c.Points), (13, ag (c.Points.length : Int)), (14, ag 0)] (.block ?_))))))
 replace hr := bd hr; obtain ⟨a, f, hr⟩ := hr
 refine .aN (σ := fun C => match C with | (d, b) => ⟨mkS 49 0 [(1, .hp 0 0), (2, .hp 1 0), (3, ag d), (12, slT ak.c c.Points), (13, ag (c.Points.length : Int)), (14, ag b)], [.own (ah.c c), .own [aB false, nS]]⟩) (Q := fun x st' => x = .exit 0 /\ Wk 0 st' ⟨mkS 49 0 [(1, .hp 0 0), (2, .hp 1 0), (3, ag a)], [.own (ah.c c), .own [aB false, nS]]⟩) f ((Wk.gc [1, 2, 3, 12, 13, 14] [(0, true), (1, true)] rfl trivial).to) ?_ ?_
 ·clear hr
  rintro m ⟨d, b⟩ hr
  refine CQ.sh ?_
  refine .seq (.r4 G [1, 2, 3, 12, 13, 14] [(15, aB (decide (b < (c.Points.length : Int))))] (.seq ?_))
  refine .cd hr ?_ ?_ <;> intro u hr
  ·refine .skip (.seq (.block (.seq ?_)))
   obtain ⟨g, hr⟩ := gd hr
   refine .r0 G (.mu 1 (.p0 (v := .pp (c.Points.flatMap ak.c) (b.toNat * 6)) (tr (ar g)) (.p0 (v := .agg (ak.c (gt c.Points b))) (tr (y := bt.ofP (gO (decide (6 <= ((c.Points.flatMap ak.c).drop (b.toNat * 6)).length)) (.agg (((c.Points.flatMap ak.c).drop (b.toNat * 6)).take 6)))) (dr ak.len (aE g) (by decide) (by omega : b.toNat * 6 = b.toNat * 6 + 0) kRf)) (.mu 3 (.done (.nh [1, 2, 3, 4, 5, 12, 13, 14] [.own (ah.c c), .own [aB false, nS], .own (ak.c (gt c.Points b))] (.seq ?_)))))))
   obtain ⟨i, hr⟩ := gd hr
   refine .r0 G (.mu 3 (.p0 (v := .pp (c.Points.flatMap ak.c) (d.toNat * 6)) (tr (ar i)) (.p0 (v := .agg (ak.c (gt c.Points d))) (tr (y := bt.ofP (gO (decide (6 <= ((c.Points.flatMap ak.c).drop (d.toNat * 6)).length)) (.agg (((c.Points.flatMap ak.c).drop (d.toNat * 6)).take 6)))) (dr ak.len (aE i) (by decide) (by omega : d.toNat * 6 = d.toNat * 6 + 0) kRf)) (.mu 2 (.done (.nh [1, 2, 3, 4, 5, 6, 12, 13, 14] [.own (ah.c c), .own [aB false, nS], .own (ak.c (gt c.Points b)), .own (ak.c (gt c.Points d))] (.seq ?_)))))))
   obtain ⟨t, p, hr⟩ := bd hr
   refine .g1 G (ok0 (gP n (A2.mk (gt c.Points b).A (gt c.Points b).B) (A2.mk (gt c.Points d).A (gt c.Points d).B) t p)) (.mu 10 (.ca cf0 (.mu 1 (.done (.nh [1, 2, 3, 4, 12, 13, 14, 35] [.own (ah.c c), .own [aB false, nS], .own (ak.c (gt c.Points b)), .own (ak.c (gt c.Points d))] ?_)))))
   refine .cd hr ?_ ?_ <;> intro w hr
   ·refine .ru G (.pop (.ru G ?_))
    exact az (b, G1 (b + 1)) hr ((Wk.gc [1, 2, 3, 12, 13, 14] [(0, true), (1, true)] rfl trivial).to)
   refine .skip (.pop (.ru G ?_))
   exact az (d, G1 (b + 1)) hr ((Wk.gc [1, 2, 3, 12, 13, 14] [(0, true), (1, true)] rfl trivial).to)
  refine .leave rfl ?_
  obtain rfl := oi hr
  exact ⟨rfl, ((Wk.gc [1, 2, 3] [(0, true), (1, true)] rfl trivial).to)⟩
 rintro x st' e
 clear f
 obtain ⟨rfl, e⟩ := e
 refine aU _ rfl (.wk e (.seq ?_))
 obtain ⟨j, k, hr⟩ := gd2 hr
 obtain ⟨o, q, hr⟩ := bd hr
 refine .tn G (ca4 [.own (ah.c c), .own [aB false, nS], .own [slT ak.c ((c.Points.drop a.toNat).take ((c.Points.length : Int).toNat - a.toNat)), slT ak.c ((c.Points.drop (0 : Int).toNat).take (a.toNat - (0 : Int).toNat))]] (b8 (args := [.hs 2 0 2 1]) (l := [2]) (SnL.cons (Sn.hs rfl (.inl rfl) (SnC.cons (Sn.pure rfl) (SnC.cons (Sn.pure rfl) SnC.nil)) (fun h => nomatch h)) SnL.nil) (dW n [((c.Points.drop a.toNat).take ((c.Points.length : Int).toNat - a.toNat)), ((c.Points.drop (0 : Int).toNat).take (a.toNat - (0 : Int).toNat))] o q))) (.mu 3 (.pk (v := slT ak.c ((c.Points.drop a.toNat).take ((c.Points.length : Int).toNat - a.toNat))) (tr (y := slO (inS a (c.Points.length : Int) c.Points.length) a.toNat (c.Points.length : Int).toNat (fun z1 s => .sl true (((c.Points.flatMap ak.c).drop (z1 * 6)).take ((s - z1) * 6)) (s - z1))) (wu j (td ak.len (pR j)))) (.mu 3 (.pk (v := slT ak.c ((c.Points.drop (0 : Int).toNat).take (a.toNat - (0 : Int).toNat))) (tr (y := slO (inS 0 a c.Points.length) (0 : Int).toNat a.toNat (fun z1 s => .sl true (((c.Points.flatMap ak.c).drop (z1 * 6)).take ((s - z1) * 6)) (s - z1))) (wu k (td ak.len (pR k)))) (.mu 1 (.ca cf0 (.mu 2 ?_)))))))
 refine .done (kRa ?_)
 refine .nh [2] [.own (ah.c c), .own [aB true, slT ak.c o], .fix [slT ak.c ((c.Points.drop a.toNat).take ((c.Points.length : Int).toNat - a.toNat)), slT ak.c ((c.Points.drop (0 : Int).toNat).take (a.toNat - (0 : Int).toNat))]] (.ret ?_)
 obtain rfl := oi hr
 exact aH.r1 [.agg [aB true, slT ak.c o]]

theorem ri [Dr] (n : Nat) (a : ah) (b : ah) (r : Int) (hr : lF n a b = some r) : aK Tryz.prog 53 [.agg (ah.c a), .agg (ah.c b)] (ag r) := by
 unfold lF at hr
 refine aK.bd G Tryz.func53 [.tmp 4] ?_
 unfold Tryz.f53
 simp only [gS]
 refine .seq (.r2 G 10 [(2, .hp 0 0), (3, .hp 1 0)] [.own (ah.c a), .own (ah.c b)] (.seq ?_))
 obtain ⟨g, d, i, e, j, f, hr⟩ := bd3 hr
 refine .tn G (ca1 (ok0 (ja n a g d)) (ca1 (ok0 (ja n b i e)) (ca3 (ok0 (gP n g i j f))))) (.mu 1 (.ca cf0 (.mu 1 (.ca (cfA (fun h => by rw [sv e d (od n h)]) cf0) (.ca (cfF (cfF cf0)) (.mu 1 ?_))))))
 refine .done (kRa ?_)
 refine .ret ?_
 obtain rfl := oi hr
 exact aH.r1 [ag j]

theorem ct (n : Nat) (a : List ah) (r : List ah) (hr : aV n a = some r) : dz 1 Tryz.prog 52 [.hs 0 0 a.length 2, .fn 53 [] []] [.own (a.flatMap ah.c)] (.tup []) [.own (r.flatMap ah.c)] := by
 unfold aV at hr
 obtain ⟨b, hr⟩ := gd hr
 exact dz.Cb (c := ah.c) (caps' := []) (Go.Proofs.YtecdcgfclgmbpaaGreat.qU (enters_of Tryz.func53 kRf rfl)) Go.Proofs.YtecdcgfclgmbpaaGreat.wC ah.len ah.pure hr (dcT b) SnL.nil (fun x y r hc => @ri ⟨true⟩ n x y r hc)

theorem rT (n : Nat) (p : ak) (q : ak) (r : Bool) (hr : mr n p q = some r) : aK Tryz.prog 100 [.agg (ak.c p), .agg (ak.c q)] (aB r) := by
 unfold mr at hr
 refine aK.bd G Tryz.func100 [.tmp 4] ?_
 unfold Tryz.f100
 simp only [gS]
 refine .seq (.r2 G 35 [(2, .hp 0 0), (3, .hp 1 0)] [.own (ak.c p), .own (ak.c q)] (.seq ?_))
 rcases bT ((p.A : Int) == q.A) with a | a
 ·replace hr := bY a hr
  rcases bT ((p.B : Int) == q.B) with b | b
  ·replace hr := bY b hr
   obtain ⟨k, d, hr⟩ := bd hr
   rcases bT k with f | f
   ·subst f
    replace hr := bY rfl hr
    obtain ⟨l, e, hr⟩ := bd hr
    rcases bT l with g | g
    ·subst g
     replace hr := bY rfl hr
     obtain ⟨j, i, hr⟩ := bd hr
     refine .gn G (ca1 (ok0 (dO n p.At true d)) (ca1 (ok0 (dO n q.At true e)) (ca3 (ok0 (lV n p.At q.At j i))))) (.mu 4 (.p0 (v := aB true) (eB a) (.mu 5 (.pure (v := aB true) kRf (eB b) (.mu 4 (.ca cf0 (.mu 4 (.ca (cfA (fun h => by rw [sv e d (mS n h)]) cf0) (.mu 6 (.ca (cfF (cfF cf0)) (.mu 3 (.done (.ret ?_)))))))))))))
     obtain rfl := oi hr
     exact aH.r1 [aB ((j : Int) == 0)]
    subst g
    replace hr := bW rfl hr
    refine .gn G (ca1 (ok0 (dO n p.At true d)) (ca3 (ok0 (dO n q.At false e)))) (.mu 4 (.p0 (v := aB true) (eB a) (.mu 5 (.pure (v := aB true) kRf (eB b) (.mu 4 (.ca cf0 (.mu 4 (.ca (cfA (fun h => by rw [sv e d (mS n h)]) cf0) (.mu 10 (.done (.ret ?_)))))))))))
    obtain rfl := oi hr
    exact aH.r1 [aB false]
   subst f
   replace hr := bW rfl hr
   refine .g1 G (ok0 (dO n p.At false d)) (.mu 4 (.p0 (v := aB true) (eB a) (.mu 5 (.pure (v := aB true) kRf (eB b) (.mu 4 (.ca cf0 (.mu 15 (.done (.ret ?_)))))))))
   obtain rfl := oi hr
   exact aH.r1 [aB false]
  replace hr := bW b hr
  refine .r0 G (.mu 4 (.p0 (v := aB true) (eB a) (.mu 5 (.pure (v := aB false) kRf (eB b) (.mu 20 (.done (.ret ?_)))))))
  obtain rfl := oi hr
  exact aH.r1 [aB false]
 replace hr := bW a hr
 refine .r0 G (.mu 4 (.p0 (v := aB false) (eB a) (.mu 26 (.done (.ret ?_)))))
 obtain rfl := oi hr
 exact aH.r1 [aB false]

theorem bb (n : Nat) (d : List ak) (e : List ak) (r : Bool) (hr : aL n d e = some r) : aK Tryz.prog 99 [slT ak.c d, slT ak.c e, .fn 100 [] []] (aB r) := by
 unfold aL at hr
 refine aK.bd G Tryz.func99 [.tmp 6] ?_
 unfold Tryz.f99
 simp only [gS]
 refine .seq (.r4 G [0, 1, 2] [] (.seq (.seq (.r4 G [0, 1, 2] [(14, aB (((d.length : Int) : Int) != (e.length : Int)))] ?_))))
 refine .cd hr ?_ ?_ <;> intro p hr
 ·refine .seq (.ru G (.ret ?_))
  obtain rfl := oi hr
  exact aH.r1 [aB false]
 refine .skip (.seq (.seq (.r4 G [1, 2] [(15, slT ak.c d), (16, ag (d.length : Int)), (17, ag 0)] (.block ?_))))
 replace hr := bd hr; obtain ⟨i, f, hr⟩ := hr
 refine .aN (σ := fun q => match q with | a => ⟨mkS 32 0 [(1, slT ak.c e), (2, .fn 100 [] []), (15, slT ak.c d), (16, ag (d.length : Int)), (17, ag a)], []⟩) (Q := fun x st' => match (generalizing := false) i with | .inl _ => x = .exit 0 /\ Wk 0 st' ⟨mkS 32 0 [], []⟩ | .inr (r0) => x = .ret /\ aH Tryz.prog [.tmp 6] (aB r0) .ret st') f ((Wk.gc [1, 2, 15, 16, 17] [] rfl pK0).to) ?_ ?_
 ·clear hr
  rintro m a hr
  refine CQ.sh ?_
  refine .seq (.r4 G [1, 2, 15, 16, 17] [(18, aB (decide (a < (d.length : Int))))] (.seq ?_))
  refine .cd hr ?_ ?_ <;> intro l hr
  ·refine .skip (.seq (.block (.seq ?_)))
   obtain ⟨g, hr⟩ := gd hr
   refine .r0 G (.mu 1 (.p0 (v := .pp (d.flatMap ak.c) (a.toNat * 6)) (tr (ar g)) (.p0 (v := .agg (ak.c (gt d a))) (tr (y := bt.ofP (gO (decide (6 <= ((d.flatMap ak.c).drop (a.toNat * 6)).length)) (.agg (((d.flatMap ak.c).drop (a.toNat * 6)).take 6)))) (dr ak.len (aE g) (by decide) (by omega : a.toNat * 6 = a.toNat * 6 + 0) kRf)) (.mu 3 (.done (.nh [1, 2, 7, 8, 15, 16, 17] [.own (ak.c (gt d a))] (.seq ?_)))))))
   obtain ⟨h, hr⟩ := gd hr
   refine .r0 G (.mu 2 (.p0 (v := .pp (e.flatMap ak.c) (a.toNat * 6)) (tr (ar h)) (.p0 (v := .agg (ak.c (gt e a))) (tr (y := bt.ofP (gO (decide (6 <= ((e.flatMap ak.c).drop (a.toNat * 6)).length)) (.agg (((e.flatMap ak.c).drop (a.toNat * 6)).take 6)))) (dr ak.len (aE h) (by decide) (by omega : a.toNat * 6 = a.toNat * 6 + 0) kRf)) (.mu 2 (.done (.nh [1, 2, 8, 9, 15, 16, 17] [.own (ak.c (gt d a)), .own (ak.c (gt e a))] (.seq ?_)))))))
   obtain ⟨k, j, hr⟩ := bd hr
   refine .g1 G (ok0 (rT n (gt d a) (gt e a) k j)) (.mu 3 (.ca cf0 (.mu 1 (.done (.nh [1, 2, 15, 16, 17, 30] [.own (ak.c (gt d a)), .own (ak.c (gt e a))] ?_)))))
   refine .cd hr ?_ ?_ <;> intro o hr
   ·refine .seq (.ru G (.ret ?_))
    obtain rfl := oi hr
    exact ⟨rfl, aH.ret (vs := [aB false]) kRf (Sn.pure rfl)⟩
   refine .skip (.pop (.ru G ?_))
   exact az (G1 (a + 1)) hr ((Wk.gc [1, 2, 15, 16, 17] [] rfl pK0).to)
  refine .leave rfl ?_
  obtain rfl := oi hr
  exact ⟨rfl, ((Wk.gc [] [] rfl pK0).to)⟩
 rcases i with ⟨⟩ | r0
 ·rintro x st' b
  clear f
  obtain ⟨rfl, b⟩ := b
  refine aU _ rfl (.wk b (.seq (.ru G (.ret ?_))))
  obtain rfl := oi hr
  exact aH.r1 [aB true]
 rintro x st' b
 clear f
 obtain ⟨rfl, b⟩ := b
 obtain rfl := oi hr
 exact gJ _ b

theorem ud (n : Nat) (a : ah) (b : ah) (r : Bool) (hr : oZ n a b = some r) : aK Tryz.prog 56 [.agg (ah.c a), .agg (ah.c b)] (aB r) := by
 unfold oZ at hr
 refine aK.bd G Tryz.func56 [.tmp 4] ?_
 unfold Tryz.f56
 simp only [gS]
 refine .seq (.r2 G 17 [(2, .hp 0 0), (3, .hp 1 0)] [.own (ah.c a), .own (ah.c b)] (.seq ?_))
 rcases bT (a.Closed == b.Closed) with d | d
 ·replace hr := bY d hr
  obtain ⟨f, e, hr⟩ := bd hr
  refine .g1 G (ok0 (bb n a.Points b.Points f e)) (.mu 4 (.p0 (v := aB true) (eB d) (.mu 5 (.ca cf0 (.mu 2 (.done (.ret ?_)))))))
  obtain rfl := oi hr
  exact aH.r1 [aB f]
 replace hr := bW d hr
 refine .r0 G (.mu 4 (.p0 (v := aB false) (eB d) (.mu 8 (.done (.ret ?_)))))
 obtain rfl := oi hr
 exact aH.r1 [aB false]

theorem bf (n : Nat) (d : List ah) (e : List ah) (r : Bool) (hr : aO n d e = some r) : aK Tryz.prog 16 [slT ah.c d, slT ah.c e, .fn 56 [] []] (aB r) := by
 unfold aO at hr
 refine aK.bd G Tryz.func16 [.tmp 6] ?_
 unfold Tryz.f16
 simp only [gS]
 refine .seq (.r4 G [0, 1, 2] [] (.seq (.seq (.r4 G [0, 1, 2] [(14, aB (((d.length : Int) : Int) != (e.length : Int)))] ?_))))
 refine .cd hr ?_ ?_ <;> intro p hr
 ·refine .seq (.ru G (.ret ?_))
  obtain rfl := oi hr
  exact aH.r1 [aB false]
 refine .skip (.seq (.seq (.r4 G [1, 2] [(15, slT ah.c d), (16, ag (d.length : Int)), (17, ag 0)] (.block ?_))))
 replace hr := bd hr; obtain ⟨i, f, hr⟩ := hr
 refine .aN (σ := fun q => match q with | a => ⟨mkS 32 0 [(1, slT ah.c e), (2, .fn 56 [] []), (15, slT ah.c d), (16, ag (d.length : Int)), (17, ag a)], []⟩) (Q := fun x st' => match (generalizing := false) i with | .inl _ => x = .exit 0 /\ Wk 0 st' ⟨mkS 32 0 [], []⟩ | .inr (r0) => x = .ret /\ aH Tryz.prog [.tmp 6] (aB r0) .ret st') f ((Wk.gc [1, 2, 15, 16, 17] [] rfl pK0).to) ?_ ?_
 ·clear hr
  rintro m a hr
  refine CQ.sh ?_
  refine .seq (.r4 G [1, 2, 15, 16, 17] [(18, aB (decide (a < (d.length : Int))))] (.seq ?_))
  refine .cd hr ?_ ?_ <;> intro l hr
  ·refine .skip (.seq (.block (.seq ?_)))
   obtain ⟨g, hr⟩ := gd hr
   refine .r0 G (.mu 1 (.p0 (v := .pp (d.flatMap ah.c) (a.toNat * 2)) (tr (ar g)) (.p0 (v := .agg (ah.c (gt d a))) (tr (y := bt.ofP (gO (decide (2 <= ((d.flatMap ah.c).drop (a.toNat * 2)).length)) (.agg (((d.flatMap ah.c).drop (a.toNat * 2)).take 2)))) (dr ah.len (aE g) (by decide) (by omega : a.toNat * 2 = a.toNat * 2 + 0) kRf)) (.mu 3 (.done (.nh [1, 2, 7, 8, 15, 16, 17] [.own (ah.c (gt d a))] (.seq ?_)))))))
   obtain ⟨h, hr⟩ := gd hr
   refine .r0 G (.mu 2 (.p0 (v := .pp (e.flatMap ah.c) (a.toNat * 2)) (tr (ar h)) (.p0 (v := .agg (ah.c (gt e a))) (tr (y := bt.ofP (gO (decide (2 <= ((e.flatMap ah.c).drop (a.toNat * 2)).length)) (.agg (((e.flatMap ah.c).drop (a.toNat * 2)).take 2)))) (dr ah.len (aE h) (by decide) (by omega : a.toNat * 2 = a.toNat * 2 + 0) kRf)) (.mu 2 (.done (.nh [1, 2, 8, 9, 15, 16, 17] [.own (ah.c (gt d a)), .own (ah.c (gt e a))] (.seq ?_)))))))
   obtain ⟨k, j, hr⟩ := bd hr
   refine .g1 G (ok0 (ud n (gt d a) (gt e a) k j)) (.mu 3 (.ca cf0 (.mu 1 (.done (.nh [1, 2, 15, 16, 17, 30] [.own (ah.c (gt d a)), .own (ah.c (gt e a))] ?_)))))
   refine .cd hr ?_ ?_ <;> intro o hr
   ·refine .seq (.ru G (.ret ?_))
    obtain rfl := oi hr
    exact ⟨rfl, aH.ret (vs := [aB false]) kRf (Sn.pure rfl)⟩
   refine .skip (.pop (.ru G ?_))
   exact az (G1 (a + 1)) hr ((Wk.gc [1, 2, 15, 16, 17] [] rfl pK0).to)
  refine .leave rfl ?_
  obtain rfl := oi hr
  exact ⟨rfl, ((Wk.gc [] [] rfl pK0).to)⟩
 rcases i with ⟨⟩ | r0
 ·rintro x st' b
  clear f
  obtain ⟨rfl, b⟩ := b
  refine aU _ rfl (.wk b (.seq (.ru G (.ret ?_))))
  obtain rfl := oi hr
  exact aH.r1 [aB true]
 rintro x st' b
 clear f
 obtain ⟨rfl, b⟩ := b
 obtain rfl := oi hr
 exact gJ _ b

theorem tC (n : Nat) (g : al) (level : Int) (l : List ah) (r : Int) (hr : jr n g level l = some r) : aK Tryz.prog 20 [.agg (al.c g), ag level, slT ah.c l] (ag r) := by
 unfold jr at hr
 refine aK.bd G Tryz.func20 [.tmp 6] ?_
 unfold Tryz.f20
 simp only [gS]
 refine .seq (.r5 G [1, 2] [(3, .hp 0 0)] [.own (al.c g)] (.seq (.seq ?_)))
 obtain ⟨B, C, hr⟩ := bd hr
 refine .g1 G (ok0 (iA n g level B C)) (.mu 2 (.ca cf0 (.mu 1 (.done (.nh [1, 2, 3, 7] [.own (al.c g)] (.seq (.r4 G [1, 2, 3, 7] [(15, aB ((B : Int) != 0))] ?_)))))))
 refine .cd hr ?_ ?_ <;> intro I hr
 ·refine .seq (.ru G (.ret ?_))
  obtain rfl := oi hr
  exact aH.r1 [ag B]
 refine .skip (.seq (.r4 G [1, 2, 3] [(8, nS)] (.seq (.seq (.r4 G [1, 3, 8] [(17, slT ah.c l), (18, ag (l.length : Int)), (19, ag 0)] (.block ?_))))))
 replace hr := bd hr; obtain ⟨p, i, hr⟩ := hr
 refine .aN (σ := fun J => match J with | (d, a) => ⟨mkS 41 0 [(1, ag level), (3, .hp 0 0), (8, .hs 1 0 d.length 2), (17, slT ah.c l), (18, ag (l.length : Int)), (19, ag a)], [.own (al.c g), .own (d.flatMap ah.c)]⟩) (Q := fun x st' => match (generalizing := false) p with | .inl e => x = .exit 0 /\ Wk 0 st' ⟨mkS 41 0 [(1, ag level), (3, .hp 0 0), (8, .hs 1 0 e.length 2)], [.own (al.c g), .own (e.flatMap ah.c)]⟩ | .inr (r0) => x = .ret /\ aH Tryz.prog [.tmp 6] (ag r0) .ret st') i ((Wk.nil 8 2 kRf).trans ((Wk.gc [1, 3, 8, 17, 18, 19] [(0, true), (1, false)] rfl (pKt (pKc trivial))).to)) ?_ ?_
 ·clear hr
  rintro m ⟨d, a⟩ hr
  refine CQ.sh ?_
  refine .seq (.r4 G [1, 3, 8, 17, 18, 19] [(20, aB (decide (a < (l.length : Int))))] (.seq ?_))
  refine .cd hr ?_ ?_ <;> intro E hr
  ·refine .skip (.seq (.block (.seq ?_)))
   obtain ⟨k, hr⟩ := gd hr
   refine .r0 G (.p0 (v := .pp (l.flatMap ah.c) (a.toNat * 2)) (tr (ar k)) (.p0 (v := .agg (ah.c (gt l a))) (tr (y := bt.ofP (gO (decide (2 <= ((l.flatMap ah.c).drop (a.toNat * 2)).length)) (.agg (((l.flatMap ah.c).drop (a.toNat * 2)).take 2)))) (dr ah.len (aE k) (by decide) (by omega : a.toNat * 2 = a.toNat * 2 + 0) kRf)) (.mu 2 (.done (.nh [1, 3, 8, 10, 17, 18, 19] [.own (al.c g), .own (d.flatMap ah.c), .own (ah.c (gt l a))] (.seq (.seq (.r4 G [1, 3, 8, 10, 17, 18, 19] [(26, aB ((((gt l a).Points.length : Int) : Int) == 0))] ?_))))))))
   refine .cd hr ?_ ?_ <;> intro F hr
   ·refine .seq (.ru G (.ret ?_))
    obtain rfl := oi hr
    exact ⟨rfl, aH.ret (vs := [ag 12]) kRf (Sn.pure rfl)⟩
   refine .skip ?_
   obtain ⟨f, q, hr⟩ := bd hr
   obtain ⟨s, t, hr⟩ := gd2 hr
   refine .g1 G (ok0 (sg n (gt l a) f q)) (.mu 2 (.ca cf0 (.mu 1 (.e0 (v := .hs 4 0 (d ++ [f]).length 2) (ws := [(1, .dead), (4, .own ((d ++ [f]).flatMap ah.c))]) (tr (dX (new := (ah.c f)) (l := d) (xs := [f]) ah.len rfl rfl kRf s t)) (.mu 1 (.done (.pop (.ru G ?_))))))))
   exact az (d ++ [f], G1 (a + 1)) hr ((Wk.gc [1, 3, 8, 17, 18, 19] [(0, true), (4, false)] rfl (pKt (pKo ah.c ah.pure (d ++ [f]) trivial))).to)
  refine .leave rfl ?_
  obtain rfl := oi hr
  exact ⟨rfl, ((Wk.gc [1, 3, 8] [(0, true), (1, false)] rfl (pKt (pKo ah.c ah.pure d trivial))).to)⟩
 rcases p with e | r0
 ·rintro x st' b
  clear i
  obtain ⟨rfl, b⟩ := b
  refine aU _ rfl (.wk b (.seq ?_))
  obtain ⟨j, u, hr⟩ := bd hr
  obtain ⟨w, hr⟩ := gd hr
  refine .g1 G (cL (args := [.hs 1 0 e.length 2, .fn 53 [] []]) 1 0 [(1, false)] [false] (ct n e j u) (by exact ⟨aY ah.pure _, trivial⟩) (by exact ⟨aY ah.pure _, trivial⟩) rfl rfl kRf kRf) (.mu 1 (.ca cf0 (.done (.nh [1, 3, 8] [.own (al.c g), .own (j.flatMap ah.c)] (.seq (.seq ?_))))))
  obtain ⟨o, z, D, A, hr⟩ := bd2 hr
  refine .gn G (ca1 (ok0 (nE n g level o z)) (ca3 (fF (args := [.hs 1 0 e.length 2, slT ah.c o, .fn 56 [] []]) (l := [1]) rfl (SnL.cons (Sn.hse (dcT w) rfl (.inl rfl) (SnC.pure (aY ah.pure _)) (fun h => cc h)) (Sp (Sp SnL.nil))) (bf n j o D A)))) (.mu 3 (.ca cf0 (.ca (cfF cf0) (.mu 1 (.done (.nh [40] [.own (al.c g), .own (j.flatMap ah.c)] ?_))))))
  refine .cd hr ?_ ?_ <;> intro H hr
  ·refine .seq (.ru G (.ret ?_))
   obtain rfl := oi hr
   exact aH.r1 [ag 12]
  refine .skip (.seq (.ru G (.ret ?_)))
  obtain rfl := oi hr
  exact aH.r1 [ag 0]
 rintro x st' b
 clear i
 obtain ⟨rfl, b⟩ := b
 obtain rfl := oi hr
 exact gJ _ b

theorem oU (n : Nat) (r : Bool) (hr : fg n = some r) : aK Tryz.prog 12 [] (aB r) := by
 unfold fg at hr
 refine aK.bd G Tryz.func12 [.tmp 0] ?_
 unfold Tryz.f12
 simp only [gS]
 refine .seq (.r3 G 93 [] (.seq ?_))
 obtain ⟨N, J, a, L, hr⟩ := bd2 hr
 refine .gn G (ca1 (ok0 (eM n N J)) (ca3 (ok0 (nY n N 1 a L)))) (.ca cf0 (.ca (cfF cf0) (.mu 5 (.done (.n2 93 [(1, slT ah.c a.1), (2, ag a.2)] [] (.seq (.seq ?_)))))))
 rcases bT ((a.2 : Int) != 0) with i | i
 ·replace hr := bY i hr
  refine .r0 G (.mu 1 (.p0 (v := aB true) (eB i) (.mu 40 (.done (.n2 93 [(1, slT ah.c a.1), (54, aB true)] [] (.cT kRf (.seq (.ru G (.ret ?_)))))))))
  obtain rfl := oi hr
  exact aH.r1 [aB false]
 replace hr := bW i hr
 rcases bT (((a.1.length : Int) : Int) != 1) with j | j
 ·replace hr := bY j hr
  refine .r0 G (.mu 1 (.p0 (v := aB false) (eB i) (.mu 3 (.pure (v := aB true) kRf (eB j) (.mu 36 (.done (.n2 93 [(1, slT ah.c a.1), (54, aB true)] [] (.cT kRf (.seq (.ru G (.ret ?_)))))))))))
  obtain rfl := oi hr
  exact aH.r1 [aB false]
 replace hr := bW j hr
 obtain ⟨b, hr⟩ := gd hr
 rcases bT (!(gt a.1 0).Closed) with l | l
 ·replace hr := bY l hr
  refine .r0 G (.mu 1 (.p0 (v := aB false) (eB i) (.mu 3 (.pure (v := aB false) kRf (eB j) (.mu 3 (.pure (v := .pp (a.1.flatMap ah.c) ((0 : Int).toNat * 2)) kRf (tr (ar b)) (.mu 1 (.pure (v := aB (gt a.1 0).Closed) kRf (tr (aI (aJ ah.len (aE b) (by decide : 0 < 2) (by omega : (0 : Int).toNat * 2 + 0 = (0 : Int).toNat * 2 + 0) kRf))) (.pure (v := aB true) kRf (eB l) (.mu 29 (.done (.n2 93 [(1, slT ah.c a.1), (54, aB true)] [] (.cT kRf (.seq (.ru G (.ret ?_))))))))))))))))
  obtain rfl := oi hr
  exact aH.r1 [aB false]
 replace hr := bW l hr
 rcases bT ((((gt a.1 0).Points.length : Int) : Int) != 6) with o | o
 ·replace hr := bY o hr
  refine .r0 G (.mu 1 (.p0 (v := aB false) (eB i) (.mu 3 (.pure (v := aB false) kRf (eB j) (.mu 3 (.pure (v := .pp (a.1.flatMap ah.c) ((0 : Int).toNat * 2)) kRf (tr (ar b)) (.mu 1 (.pure (v := aB (gt a.1 0).Closed) kRf (tr (aI (aJ ah.len (aE b) (by decide : 0 < 2) (by omega : (0 : Int).toNat * 2 + 0 = (0 : Int).toNat * 2 + 0) kRf))) (.pure (v := aB false) kRf (eB l) (.mu 3 (.pure (v := .pp (a.1.flatMap ah.c) ((0 : Int).toNat * 2)) kRf (tr (ar b)) (.mu 1 (.pure (v := slT ak.c (gt a.1 0).Points) kRf (tr (aI (aJ ah.len (aE b) (by decide : 1 < 2) (by omega : (0 : Int).toNat * 2 + 1 = (0 : Int).toNat * 2 + 1) kRf))) (.mu 1 (.pure (v := aB true) kRf (eB o) (.mu 21 (.done (.n2 93 [(1, slT ah.c a.1), (54, aB true)] [] (.cT kRf (.seq (.ru G (.ret ?_))))))))))))))))))))))
  obtain rfl := oi hr
  exact aH.r1 [aB false]
 replace hr := bW o hr
 obtain ⟨g, hr⟩ := gd hr
 rcases bT (((gt (gt a.1 0).Points 1).A : Int) != 1) with k | k
 ·replace hr := bY k hr
  refine .r0 G (.mu 1 (.p0 (v := aB false) (eB i) (.mu 3 (.pure (v := aB false) kRf (eB j) (.mu 3 (.pure (v := .pp (a.1.flatMap ah.c) ((0 : Int).toNat * 2)) kRf (tr (ar b)) (.mu 1 (.pure (v := aB (gt a.1 0).Closed) kRf (tr (aI (aJ ah.len (aE b) (by decide : 0 < 2) (by omega : (0 : Int).toNat * 2 + 0 = (0 : Int).toNat * 2 + 0) kRf))) (.pure (v := aB false) kRf (eB l) (.mu 3 (.pure (v := .pp (a.1.flatMap ah.c) ((0 : Int).toNat * 2)) kRf (tr (ar b)) (.mu 1 (.pure (v := slT ak.c (gt a.1 0).Points) kRf (tr (aI (aJ ah.len (aE b) (by decide : 1 < 2) (by omega : (0 : Int).toNat * 2 + 1 = (0 : Int).toNat * 2 + 1) kRf))) (.mu 1 (.pure (v := aB false) kRf (eB o) (.mu 3 (.pure (v := .pp (a.1.flatMap ah.c) ((0 : Int).toNat * 2)) kRf (tr (ar b)) (.mu 1 (.pure (v := slT ak.c (gt a.1 0).Points) kRf (tr (aI (aJ ah.len (aE b) (by decide : 1 < 2) (by omega : (0 : Int).toNat * 2 + 1 = (0 : Int).toNat * 2 + 1) kRf))) (.pure (v := .pp ((gt a.1 0).Points.flatMap ak.c) ((1 : Int).toNat * 6)) kRf (tr (ar g)) (.mu 1 (.pure (v := ag (gt (gt a.1 0).Points 1).A) kRf (tr (aI (aJ ak.len (aE g) (by decide : 0 < 6) (by omega : (1 : Int).toNat * 6 + 0 = (1 : Int).toNat * 6 + 0) kRf))) (.pure (v := aB true) kRf (eB k) (.mu 11 (.done (.n2 93 [(1, slT ah.c a.1), (54, aB true)] [] (.cT kRf (.seq (.ru G (.ret ?_))))))))))))))))))))))))))))))
  obtain rfl := oi hr
  exact aH.r1 [aB false]
 replace hr := bW k hr
 refine .r0 G (.mu 1 (.p0 (v := aB false) (eB i) (.mu 3 (.pure (v := aB false) kRf (eB j) (.mu 3 (.pure (v := .pp (a.1.flatMap ah.c) ((0 : Int).toNat * 2)) kRf (tr (ar b)) (.mu 1 (.pure (v := aB (gt a.1 0).Closed) kRf (tr (aI (aJ ah.len (aE b) (by decide : 0 < 2) (by omega : (0 : Int).toNat * 2 + 0 = (0 : Int).toNat * 2 + 0) kRf))) (.pure (v := aB false) kRf (eB l) (.mu 3 (.pure (v := .pp (a.1.flatMap ah.c) ((0 : Int).toNat * 2)) kRf (tr (ar b)) (.mu 1 (.pure (v := slT ak.c (gt a.1 0).Points) kRf (tr (aI (aJ ah.len (aE b) (by decide : 1 < 2) (by omega : (0 : Int).toNat * 2 + 1 = (0 : Int).toNat * 2 + 1) kRf))) (.mu 1 (.pure (v := aB false) kRf (eB o) (.mu 3 (.pure (v := .pp (a.1.flatMap ah.c) ((0 : Int).toNat * 2)) kRf (tr (ar b)) (.mu 1 (.pure (v := slT ak.c (gt a.1 0).Points) kRf (tr (aI (aJ ah.len (aE b) (by decide : 1 < 2) (by omega : (0 : Int).toNat * 2 + 1 = (0 : Int).toNat * 2 + 1) kRf))) (.pure (v := .pp ((gt a.1 0).Points.flatMap ak.c) ((1 : Int).toNat * 6)) kRf (tr (ar g)) (.mu 1 (.pure (v := ag (gt (gt a.1 0).Points 1).A) kRf (tr (aI (aJ ak.len (aE g) (by decide : 0 < 6) (by omega : (1 : Int).toNat * 6 + 0 = (1 : Int).toNat * 6 + 0) kRf))) (.pure (v := aB false) kRf (eB k) (.mu 3 (.pure (v := .pp (a.1.flatMap ah.c) ((0 : Int).toNat * 2)) kRf (tr (ar b)) (.mu 1 (.pure (v := slT ak.c (gt a.1 0).Points) kRf (tr (aI (aJ ah.len (aE b) (by decide : 1 < 2) (by omega : (0 : Int).toNat * 2 + 1 = (0 : Int).toNat * 2 + 1) kRf))) (.pure (v := .pp ((gt a.1 0).Points.flatMap ak.c) ((1 : Int).toNat * 6)) kRf (tr (ar g)) (.mu 1 (.pure (v := ag (gt (gt a.1 0).Points 1).B) kRf (tr (aI (aJ ak.len (aE g) (by decide : 1 < 6) (by omega : (1 : Int).toNat * 6 + 1 = (1 : Int).toNat * 6 + 1) kRf))) (.mu 2 (.done (.n2 93 [(1, slT ah.c a.1), (54, aB (((gt (gt a.1 0).Points 1).B : Int) != 4))] [] ?_)))))))))))))))))))))))))))))))))
 refine .cd hr ?_ ?_ <;> intro O hr
 ·refine .seq (.ru G (.ret ?_))
  obtain rfl := oi hr
  exact aH.r1 [aB false]
 refine .skip (.seq ?_)
 obtain ⟨t, u, f, w, hr⟩ := bd2 hr
 refine .gn G (ca1 (ok0 (eM n t u)) (ca3 (ok0 (tw n t 1 f w)))) (.ca cf0 (.ca (cfF cf0) (.mu 6 (.done (.n2 93 [(1, slT ah.c a.1), (2, ag f.2), (3, .hp 0 0)] [.own (aj.c f.1)] (.seq ?_))))))
 obtain ⟨x, z, m, C, hr⟩ := bd2 hr
 refine .tn G (ca1 (ok0 (eM n x z)) (ca3 (ok0 (nV n x (gt a.1 0) 1 1 m C)))) (.ca cf0 (.mu 1 (.pk (v := .pp (a.1.flatMap ah.c) ((0 : Int).toNat * 2)) (tr (ar b)) (.pk (v := .agg (ah.c (gt a.1 0))) (tr (y := bt.ofP (gO (decide (2 <= ((a.1.flatMap ah.c).drop ((0 : Int).toNat * 2)).length)) (.agg (((a.1.flatMap ah.c).drop ((0 : Int).toNat * 2)).take 2)))) (dr ah.len (aE b) (by decide) (by omega : (0 : Int).toNat * 2 = (0 : Int).toNat * 2 + 0) kRf)) (.ca (cfF cf0) (.mu 5 ?_))))))
 refine .done (kRa ?_)
 refine .n2 93 [(1, slT ah.c a.1), (2, ag f.2), (3, .hp 0 0), (4, ag m.1), (5, ag m.2)] [.own (aj.c f.1)] (.seq ?_)
 obtain ⟨q, D, hr⟩ := bd hr
 refine .g1 G (ok0 (qN n 147 16 q D)) (.ca cf0 (.mu 6 (.done (.n2 93 [(1, slT ah.c a.1), (2, ag f.2), (3, .hp 0 0), (4, ag m.1), (5, ag m.2), (6, .hp 1 0)] [.own (aj.c f.1), .own (aj.c q.1)] (.seq ?_)))))
 rcases bT ((f.2 : Int) == 0) with d | d
 ·replace hr := bY d hr
  rcases bT ((m.2 : Int) == 0) with e | e
  ·replace hr := bY e hr
   rcases bT ((m.1 : Int) == 1) with h | h
   ·replace hr := bY h hr
    obtain ⟨M, s, hr⟩ := bd hr
    rcases bT M with p | p
    ·subst p
     replace hr := bY rfl hr
     obtain ⟨E, F, H, I, hr⟩ := bd2 hr
     refine .gn G (ca1 (ok0 (kp n f.1 q.1 true s)) (ca1 (ok0 (eM n E F)) (ca3 (ok0 (tC n E 1 a.1 H I))))) (.mu 1 (.p0 (v := aB true) (eB d) (.mu 2 (.pure (v := aB true) kRf (eB e) (.mu 3 (.pure (v := aB true) kRf (eB h) (.mu 4 (.ca cf0 (.mu 2 (.ca (cfF cf0) (.mu 1 (.ca (cfF (cfF cf0)) (.mu 3 (.done (.ret ?_)))))))))))))))
     obtain rfl := oi hr
     exact aH.r1 [aB ((H : Int) == 0)]
    subst p
    replace hr := bW rfl hr
    refine .g1 G (ok0 (kp n f.1 q.1 false s)) (.mu 1 (.p0 (v := aB true) (eB d) (.mu 2 (.pure (v := aB true) kRf (eB e) (.mu 3 (.pure (v := aB true) kRf (eB h) (.mu 4 (.ca cf0 (.mu 8 (.done (.ret ?_)))))))))))
    obtain rfl := oi hr
    exact aH.r1 [aB false]
   replace hr := bW h hr
   refine .r0 G (.mu 1 (.p0 (v := aB true) (eB d) (.mu 2 (.pure (v := aB true) kRf (eB e) (.mu 3 (.pure (v := aB false) kRf (eB h) (.mu 13 (.done (.ret ?_)))))))))
   obtain rfl := oi hr
   exact aH.r1 [aB false]
  replace hr := bW e hr
  refine .r0 G (.mu 1 (.p0 (v := aB true) (eB d) (.mu 2 (.pure (v := aB false) kRf (eB e) (.mu 17 (.done (.ret ?_)))))))
  obtain rfl := oi hr
  exact aH.r1 [aB false]
 replace hr := bW d hr
 refine .r0 G (.mu 1 (.p0 (v := aB false) (eB d) (.mu 20 (.done (.ret ?_)))))
 obtain rfl := oi hr
 exact aH.r1 [aB false]

theorem kU (n : Nat) (g : al) (a : Int) (r : Bool) (hr : kh n g a = some r) : aK Tryz.prog 13 [.agg (al.c g), ag a] (aB r) := by
 unfold kh at hr
 refine aK.bd G Tryz.func13 [.tmp 4] ?_
 unfold Tryz.f13
 simp only [gS]
 refine .seq (.r5 G [1] [(2, .hp 0 0)] [.own (al.c g)] (.seq (.ru G (.ret ?_))))
 obtain rfl := oi hr
 exact aH.r1 [aB (decide ((g.Z.length : Int) <= a))]

theorem qa (n : Nat) {b : Int} {a : Int} (h : ([.at (.int .i64 b)] : List AV) = [.at (.int .i64 a)]) : c6 n b = c6 n a := by
 obtain rfl := dP h
 rfl
theorem fW (n : Nat) (b : Int) (r : Bool) (hr : c6 n b = some r) : aK Tryz.prog 62 [ag b] (aB r) := by
 unfold c6 at hr
 refine aK.bd G Tryz.func62 [.tmp 2] ?_
 unfold Tryz.f62
 simp only [gS]
 refine .seq (.r4 G [0] [] (.seq ?_))
 rcases bT (decide (b < (-1048576))) with a | a
 ·replace hr := bY a hr
  refine .r0 G (.mu 1 (.p0 (v := aB true) (eB a) (.mu 5 (.done (.ret ?_)))))
  obtain rfl := oi hr
  exact aH.r1 [aB true]
 replace hr := bW a hr
 refine .r0 G (.mu 1 (.p0 (v := aB false) (eB a) (.mu 5 (.done (.ret ?_)))))
 obtain rfl := oi hr
 exact aH.r1 [aB (decide (b > 1048576))]

theorem oX (n : Nat) (g : al) (r : Int) (hr : fe n g = some r) : aK Tryz.prog 23 [.agg (al.c g)] (ag r) := by
 unfold fe at hr
 refine aK.bd G Tryz.func23 [.tmp 2] ?_
 unfold Tryz.f23
 simp only [gS]
 refine .seq (.r2 G 72 [(1, .hp 0 0)] [.own (al.c g)] (.seq (.seq ?_)))
 rcases bT (decide (g.Width < 2)) with b | b
 ·replace hr := bY b hr
  refine .r0 G (.mu 2 (.p0 (v := aB true) (eB b) (.mu 41 (.done (.nh [1, 48] [.own (al.c g)] (.cT kRf (.seq (.ru G (.ret ?_)))))))))
  obtain rfl := oi hr
  exact aH.r1 [ag 2]
 replace hr := bW b hr
 rcases bT (decide (g.Width > 64)) with d | d
 ·replace hr := bY d hr
  refine .r0 G (.mu 2 (.p0 (v := aB false) (eB b) (.mu 3 (.pure (v := aB true) kRf (eB d) (.mu 37 (.done (.nh [1, 48] [.own (al.c g)] (.cT kRf (.seq (.ru G (.ret ?_)))))))))))
  obtain rfl := oi hr
  exact aH.r1 [ag 2]
 replace hr := bW d hr
 rcases bT (decide (g.Height < 2)) with f | f
 ·replace hr := bY f hr
  refine .r0 G (.mu 2 (.p0 (v := aB false) (eB b) (.mu 3 (.pure (v := aB false) kRf (eB d) (.mu 4 (.pure (v := aB true) kRf (eB f) (.mu 32 (.done (.nh [1, 48] [.own (al.c g)] (.cT kRf (.seq (.ru G (.ret ?_)))))))))))))
  obtain rfl := oi hr
  exact aH.r1 [ag 2]
 replace hr := bW f hr
 rcases bT (decide (g.Height > 64)) with i | i
 ·replace hr := bY i hr
  refine .r0 G (.mu 2 (.p0 (v := aB false) (eB b) (.mu 3 (.pure (v := aB false) kRf (eB d) (.mu 4 (.pure (v := aB false) kRf (eB f) (.mu 4 (.pure (v := aB true) kRf (eB i) (.mu 27 (.done (.nh [1, 48] [.own (al.c g)] (.cT kRf (.seq (.ru G (.ret ?_)))))))))))))))
  obtain rfl := oi hr
  exact aH.r1 [ag 2]
 replace hr := bW i hr
 rcases bT (decide (g.Step < 2)) with j | j
 ·replace hr := bY j hr
  refine .r0 G (.mu 2 (.p0 (v := aB false) (eB b) (.mu 3 (.pure (v := aB false) kRf (eB d) (.mu 4 (.pure (v := aB false) kRf (eB f) (.mu 4 (.pure (v := aB false) kRf (eB i) (.mu 4 (.pure (v := aB true) kRf (eB j) (.mu 22 (.done (.nh [1, 48] [.own (al.c g)] (.cT kRf (.seq (.ru G (.ret ?_)))))))))))))))))
  obtain rfl := oi hr
  exact aH.r1 [ag 2]
 replace hr := bW j hr
 rcases bT (decide (g.Step > 65536)) with l | l
 ·replace hr := bY l hr
  refine .r0 G (.mu 2 (.p0 (v := aB false) (eB b) (.mu 3 (.pure (v := aB false) kRf (eB d) (.mu 4 (.pure (v := aB false) kRf (eB f) (.mu 4 (.pure (v := aB false) kRf (eB i) (.mu 4 (.pure (v := aB false) kRf (eB j) (.mu 4 (.pure (v := aB true) kRf (eB l) (.mu 17 (.done (.nh [1, 48] [.own (al.c g)] (.cT kRf (.seq (.ru G (.ret ?_)))))))))))))))))))
  obtain rfl := oi hr
  exact aH.r1 [ag 2]
 replace hr := bW l hr
 rcases bT (((g.Step.tmod 2) : Int) != 0) with o | o
 ·replace hr := bY o hr
  refine .r0 G (.mu 2 (.p0 (v := aB false) (eB b) (.mu 3 (.pure (v := aB false) kRf (eB d) (.mu 4 (.pure (v := aB false) kRf (eB f) (.mu 4 (.pure (v := aB false) kRf (eB i) (.mu 4 (.pure (v := aB false) kRf (eB j) (.mu 4 (.pure (v := aB false) kRf (eB l) (.mu 5 (.pure (v := aB true) kRf (eB o) (.mu 11 (.done (.nh [1, 48] [.own (al.c g)] (.cT kRf (.seq (.ru G (.ret ?_)))))))))))))))))))))
  obtain rfl := oi hr
  exact aH.r1 [ag 2]
 replace hr := bW o hr
 obtain ⟨F, u, hr⟩ := bd hr
 rcases bT F with p | p
 ·subst p
  replace hr := bY rfl hr
  refine .g1 G (ok0 (fW n g.X0 true u)) (.mu 2 (.p0 (v := aB false) (eB b) (.mu 3 (.pure (v := aB false) kRf (eB d) (.mu 4 (.pure (v := aB false) kRf (eB f) (.mu 4 (.pure (v := aB false) kRf (eB i) (.mu 4 (.pure (v := aB false) kRf (eB j) (.mu 4 (.pure (v := aB false) kRf (eB l) (.mu 5 (.pure (v := aB false) kRf (eB o) (.mu 4 (.ca cf0 (.mu 6 (.done (.nh [1, 48] [.own (al.c g)] (.cT kRf (.seq (.ru G (.ret ?_)))))))))))))))))))))))
  obtain rfl := oi hr
  exact aH.r1 [ag 2]
 subst p
 replace hr := bW rfl hr
 obtain ⟨z, s, hr⟩ := bd hr
 refine .gn G (ca1 (ok0 (fW n g.X0 false u)) (ca3 (ok0 (fW n g.Y0 z s)))) (.mu 2 (.p0 (v := aB false) (eB b) (.mu 3 (.pure (v := aB false) kRf (eB d) (.mu 4 (.pure (v := aB false) kRf (eB f) (.mu 4 (.pure (v := aB false) kRf (eB i) (.mu 4 (.pure (v := aB false) kRf (eB j) (.mu 4 (.pure (v := aB false) kRf (eB l) (.mu 5 (.pure (v := aB false) kRf (eB o) (.mu 4 (.ca cf0 (.mu 4 (.ca (cfA (fun h => by rw [sv s u (qa n h)]) cf0) (.mu 1 (.done (.nh [1, 48] [.own (al.c g)] ?_)))))))))))))))))))))
 refine .cd hr ?_ ?_ <;> intro B hr
 ·refine .seq (.ru G (.ret ?_))
  obtain rfl := oi hr
  exact aH.r1 [ag 2]
 refine .skip (.seq (.seq (.r4 G [1] [(57, aB (((g.Z.length : Int) : Int) != (G1 (g.Width * g.Height))))] ?_)))
 refine .cd hr ?_ ?_ <;> intro C hr
 ·refine .seq (.ru G (.ret ?_))
  obtain rfl := oi hr
  exact aH.r1 [ag 4]
 refine .skip (.seq (.seq (.r3 G 72 [(59, bu g.Z), (60, ag (g.Z.length : Int)), (61, ag 0)] (.block ?_))))
 replace hr := bd hr; obtain ⟨w, q, hr⟩ := hr
 refine .aN (σ := fun H => match H with | a => ⟨mkS 72 0 [(59, bu g.Z), (60, ag (g.Z.length : Int)), (61, ag a)], []⟩) (Q := fun x st' => match (generalizing := false) w with | .inl _ => x = .exit 0 /\ Wk 0 st' ⟨mkS 72 0 [], []⟩ | .inr (r0) => x = .ret /\ aH Tryz.prog [.tmp 2] (ag r0) .ret st') q ((Wk.gc [59, 60, 61] [] rfl pK0).to) ?_ ?_
 ·clear hr
  rintro m a hr
  refine CQ.sh ?_
  refine .seq (.r4 G [59, 60, 61] [(62, aB (decide (a < (g.Z.length : Int))))] (.seq ?_))
  refine .cd hr ?_ ?_ <;> intro D hr
  ·refine .skip (.seq (.block (.seq ?_)))
   obtain ⟨t, hr⟩ := gd hr
   refine .r0 G (.p0 (v := .pp (g.Z.flatMap (iC .i64)) (a.toNat * 1)) (tr (ar t)) (.p0 (v := ag (gt g.Z a)) (tr (aI (aJ (aG .i64) (aE t) z1 (by omega : a.toNat * 1 = a.toNat * 1 + 0) kRf))) (.mu 1 (.done (.nh [4, 59, 60, 61] [] (.seq ?_))))))
   rcases bT (((gt g.Z a) : Int) != (-2147483648)) with k | k
   ·replace hr := bY k hr
    obtain ⟨A, y, hr⟩ := bd hr
    refine .g1 G (ok0 (fW n (gt g.Z a) A y)) (.mu 1 (.p0 (v := aB true) (eB k) (.mu 2 (.ca cf0 (.mu 1 (.done (.nh [59, 60, 61, 70] [] ?_)))))))
    refine .cd hr ?_ ?_ <;> intro E hr
    ·refine .seq (.ru G (.ret ?_))
     obtain rfl := oi hr
     exact ⟨rfl, aH.ret (vs := [ag 2]) kRf (Sn.pure rfl)⟩
    refine .skip (.pop (.ru G ?_))
    exact az (G1 (a + 1)) hr ((Wk.gc [59, 60, 61] [] rfl pK0).to)
   replace hr := bW k hr
   refine .r0 G (.mu 1 (.p0 (v := aB false) (eB k) (.mu 4 (.done (.nh [59, 60, 61, 70] [] (.cF kRf (.skip (.pop (.ru G ?_)))))))))
   exact az (G1 (a + 1)) hr ((Wk.gc [59, 60, 61] [] rfl pK0).to)
  refine .leave rfl ?_
  obtain rfl := oi hr
  exact ⟨rfl, ((Wk.gc [] [] rfl pK0).to)⟩
 rcases w with ⟨⟩ | r0
 ·rintro x st' e
  clear q
  obtain ⟨rfl, e⟩ := e
  refine aU _ rfl (.wk e (.seq (.ru G (.ret ?_))))
  obtain rfl := oi hr
  exact aH.r1 [ag 0]
 rintro x st' e
 clear q
 obtain ⟨rfl, e⟩ := e
 obtain rfl := oi hr
 exact gJ _ e

theorem nB (n : Nat) (g : al) (level : Int) (r : Int) (hr : dZ n g level = some r) : aK Tryz.prog 15 [.agg (al.c g), ag level] (ag r) := by
 unfold dZ at hr
 refine aK.bd G Tryz.func15 [.tmp 4] ?_
 unfold Tryz.f15
 simp only [gS]
 refine .seq (.r5 G [1] [(2, .hp 0 0)] [.own (al.c g)] (.seq (.seq ?_)))
 obtain ⟨b, d, hr⟩ := bd hr
 refine .g1 G (ok0 (oX n g b d)) (.mu 1 (.ca cf0 (.mu 1 (.done (.nh [1, 5] [.own (al.c g)] (.seq (.r4 G [1, 5] [(9, aB ((b : Int) != 0))] ?_)))))))
 refine .cd hr ?_ ?_ <;> intro e hr
 ·refine .seq (.ru G (.ret ?_))
  obtain rfl := oi hr
  exact aH.r1 [ag b]
 refine .skip (.seq (.seq (.r4 G [1] [(13, aB (((level.tmod 2) : Int) == 0))] ?_)))
 refine .cd hr ?_ ?_ <;> intro f hr
 ·refine .seq (.ru G (.ret ?_))
  obtain rfl := oi hr
  exact aH.r1 [ag 1]
 refine .skip (.seq (.seq ?_))
 rcases bT (decide (level < (-2097153))) with a | a
 ·replace hr := bY a hr
  refine .r0 G (.mu 1 (.p0 (v := aB true) (eB a) (.mu 4 (.done (.nh [19] [.own (al.c g)] (.cT kRf (.seq (.ru G (.ret ?_)))))))))
  obtain rfl := oi hr
  exact aH.r1 [ag 2]
 replace hr := bW a hr
 refine .r0 G (.mu 1 (.p0 (v := aB false) (eB a) (.mu 4 (.done (.nh [19] [.own (al.c g)] ?_)))))
 refine .cd hr ?_ ?_ <;> intro h hr
 ·refine .seq (.ru G (.ret ?_))
  obtain rfl := oi hr
  exact aH.r1 [ag 2]
 refine .skip (.seq (.ru G (.ret ?_)))
 obtain rfl := oi hr
 exact aH.r1 [ag 0]

theorem nJ {g : al} {level : Int} {k : Int} {a : al} {level_ : Int} {b : Int} (h : ([.agg [.at (.int .i64 g.X0), .at (.int .i64 g.Y0), .at (.int .i64 g.Step), .at (.int .i64 g.Width), .at (.int .i64 g.Height), slT (iC .i64) g.Z], .at (.int .i64 level), .at (.int .i64 k)] : List AV) = [.agg [.at (.int .i64 a.X0), .at (.int .i64 a.Y0), .at (.int .i64 a.Step), .at (.int .i64 a.Width), .at (.int .i64 a.Height), slT (iC .i64) a.Z], .at (.int .i64 level_), .at (.int .i64 b)]) : g = a /\ level = level_ /\ k = b := by
 obtain ⟨_, _, _, _, _, _⟩ := g
 obtain ⟨_, _, _, _, _, _⟩ := a
 simp only [List.cons.injEq, AV.agg.injEq, AV.at.injEq, Value.int.injEq, Value.bool.injEq, AV.fn.injEq, AV.pp.injEq, true_and, and_true, dt] at h
 simp_all
theorem oW (n : Nat) {g : al} {level : Int} {k : Int} {a : al} {level_ : Int} {b : Int} (h : ([.agg [.at (.int .i64 g.X0), .at (.int .i64 g.Y0), .at (.int .i64 g.Step), .at (.int .i64 g.Width), .at (.int .i64 g.Height), slT (iC .i64) g.Z], .at (.int .i64 level), .at (.int .i64 k)] : List AV) = [.agg [.at (.int .i64 a.X0), .at (.int .i64 a.Y0), .at (.int .i64 a.Step), .at (.int .i64 a.Width), .at (.int .i64 a.Height), slT (iC .i64) a.Z], .at (.int .i64 level_), .at (.int .i64 b)]) : cg n g level k = cg n a level_ b := by
 obtain ⟨rfl, rfl, rfl⟩ := nJ h
 rfl
theorem dF (n : Nat) (g : al) (level : Int) (k : Int) (r : Bool) (hr : cg n g level k = some r) : aK Tryz.prog 27 [.agg (al.c g), ag level, ag k] (aB r) := by
 unfold cg at hr
 refine aK.bd G Tryz.func27 [.tmp 6] ?_
 unfold Tryz.f27
 simp only [gS]
 refine .seq (.r5 G [1, 2] [(3, .hp 0 0)] [.own (al.c g)] (.seq ?_))
 obtain ⟨a, hr⟩ := gd hr
 refine .r0 G (.mu 3 (.p0 (v := .pp (g.Z.flatMap (iC .i64)) (k.toNat * 1)) (tr (ar a)) (.p0 (v := ag (gt g.Z k)) (tr (aI (aJ (aG .i64) (aE a) z1 (by omega : k.toNat * 1 = k.toNat * 1 + 0) kRf))) (.mu 4 (.done (.ret ?_))))))
 obtain rfl := oi hr
 exact aH.r1 [aB (decide ((G1 (2 * (gt g.Z k))) > level))]

theorem kZ (n : Nat) (g : al) (level : Int) (at' : A2 Int) (r : Bool) (hr : cI n g level at' = some r) : aK Tryz.prog 6 [.agg (al.c g), ag level, .agg [aU8 at'.e0, aU8 at'.e1]] (aB r) := by
 unfold cI at hr
 refine aK.bd G Tryz.func6 [.tmp 6] ?_
 unfold Tryz.f6
 simp only [gS]
 refine .seq (.r5 G [1] [(3, .hp 0 0), (5, .hp 1 0)] [.own (al.c g), .own [aU8 at'.e0, aU8 at'.e1]] (.seq (.seq ?_)))
 obtain ⟨v1, lP, hr⟩ := bd hr
 refine .g1 G (ok0 (oU n v1 lP)) (.ca cf0 (.mu 1 (.done (.nh [1, 3, 5, 22] [.own (al.c g), .own [aU8 at'.e0, aU8 at'.e1]] ?_))))
 refine .cd hr ?_ ?_ <;> intro mZ hr
 ·refine .seq (.ru G (.ret ?_))
  obtain rfl := oi hr
  exact aH.r1 [aB false]
 refine .skip (.seq (.seq ?_))
 obtain ⟨v4, R, hr⟩ := bd hr
 rcases bT (!v4) with C | C
 ·replace hr := bY C hr
  refine .g1 G (ok0 (kU n g 36 v4 R)) (.mu 1 (.ca cf0 (.p0 (v := aB true) (eB C) (.mu 6 (.done (.nh [1, 3, 5, 31] [.own (al.c g), .own [aU8 at'.e0, aU8 at'.e1]] (.cT kRf (.seq (.ru G (.ret ?_))))))))))
  obtain rfl := oi hr
  exact aH.r1 [aB true]
 replace hr := bW C hr
 obtain ⟨v7, l8, hr⟩ := bd hr
 refine .gn G (ca1 (ok0 (kU n g 36 v4 R)) (ca3 (ok0 (nB n g level v7 l8)))) (.mu 1 (.ca cf0 (.p0 (v := aB false) (eB C) (.mu 3 (.ca (cfF cf0) (.mu 2 (.done (.nh [1, 3, 5, 31] [.own (al.c g), .own [aU8 at'.e0, aU8 at'.e1]] ?_))))))))
 refine .cd hr ?_ ?_ <;> intro na hr
 ·refine .seq (.ru G (.ret ?_))
  obtain rfl := oi hr
  exact aH.r1 [aB true]
 refine .skip (.seq (.seq (.r4 G [1, 3, 5] [(33, bu g.Z), (34, ag (g.Z.length : Int)), (35, ag 0)] (.block ?_))))
 replace hr := bd hr; obtain ⟨S, D, hr⟩ := hr
 refine .aN (σ := fun z0 => match z0 with | a => ⟨mkS 154 0 [(1, ag level), (3, .hp 0 0), (5, .hp 1 0), (33, bu g.Z), (34, ag (g.Z.length : Int)), (35, ag a)], [.own (al.c g), .own [aU8 at'.e0, aU8 at'.e1]]⟩) (Q := fun x st' => match (generalizing := false) S with | .inl _ => x = .exit 0 /\ Wk 0 st' ⟨mkS 154 0 [(1, ag level), (3, .hp 0 0), (5, .hp 1 0)], [.own (al.c g), .own [aU8 at'.e0, aU8 at'.e1]]⟩ | .inr (r0) => x = .ret /\ aH Tryz.prog [.tmp 6] (aB r0) .ret st') D ((Wk.gc [1, 3, 5, 33, 34, 35] [(0, true), (1, true)] rfl trivial).to) ?_ ?_
 ·clear hr
  rintro m a hr
  refine CQ.sh ?_
  refine .seq (.r4 G [1, 3, 5, 33, 34, 35] [(36, aB (decide (a < (g.Z.length : Int))))] (.seq ?_))
  refine .cd hr ?_ ?_ <;> intro mM hr
  ·refine .skip (.seq (.block (.seq ?_)))
   obtain ⟨I, hr⟩ := gd hr
   refine .r0 G (.mu 1 (.p0 (v := .pp (g.Z.flatMap (iC .i64)) (a.toNat * 1)) (tr (ar I)) (.p0 (v := ag (gt g.Z a)) (tr (aI (aJ (aG .i64) (aE I) z1 (by omega : a.toNat * 1 = a.toNat * 1 + 0) kRf))) (.mu 2 (.done (.nh [1, 3, 5, 7, 8, 33, 34, 35] [.own (al.c g), .own [aU8 at'.e0, aU8 at'.e1]] (.seq ?_)))))))
   obtain ⟨J, hr⟩ := gd hr
   refine .eX G bO (.mu 3 (.pk (v := ag (a.tmod g.Width)) (mi (x := a) (y := g.Width) kRf kRf J) (.mu 3 (.pk (v := ag (G1 (a.tdiv g.Width))) (oD (x := a) (y := g.Width) kRf kRf J) (.mu 2 ?_)))))
   refine .done (kRa ?_)
   refine .nh [1, 3, 5, 8, 9, 10, 33, 34, 35] [.own (al.c g), .own [aU8 at'.e0, aU8 at'.e1]] (.seq ?_)
   rcases bT (((a.tmod g.Width) : Int) == 0) with f | f
   ·replace hr := bY f hr
    refine .r0 G (.mu 1 (.p0 (v := aB true) (eB f) (.mu 19 (.done (.nh [1, 3, 5, 8, 11, 33, 34, 35] [.own (al.c g), .own [aU8 at'.e0, aU8 at'.e1]] (.seq ?_))))))
    rcases bT (((gt g.Z a) : Int) == (-2147483648)) with o | o
    ·replace hr := bY o hr
     refine .r0 G (.mu 1 (.p0 (v := aB true) (eB o) (.mu 9 (.done (.nh [1, 3, 5, 33, 34, 35, 78] [.own (al.c g), .own [aU8 at'.e0, aU8 at'.e1]] (.cT kRf (.seq (.ru G (.ret ?_)))))))))
     obtain rfl := oi hr
     exact ⟨rfl, aH.ret (vs := [aB true]) kRf (Sn.pure rfl)⟩
    replace hr := bW o hr
    refine .r0 G (.mu 1 (.p0 (v := aB false) (eB o) (.mu 9 (.done (.nh [1, 3, 5, 33, 34, 35, 78] [.own (al.c g), .own [aU8 at'.e0, aU8 at'.e1]] ?_)))))
    refine .cd hr ?_ ?_ <;> intro mz hr
    ·refine .seq (.ru G (.ret ?_))
     obtain rfl := oi hr
     exact ⟨rfl, aH.ret (vs := [aB true]) kRf (Sn.pure rfl)⟩
    refine .skip (.pop (.ru G ?_))
    exact az (G1 (a + 1)) hr ((Wk.gc [1, 3, 5, 33, 34, 35] [(0, true), (1, true)] rfl trivial).to)
   replace hr := bW f hr
   rcases bT (((G1 (a.tdiv g.Width)) : Int) == 0) with k | k
   ·replace hr := bY k hr
    refine .r0 G (.mu 1 (.p0 (v := aB false) (eB f) (.mu 2 (.pure (v := aB true) kRf (eB k) (.mu 16 (.done (.nh [1, 3, 5, 8, 11, 33, 34, 35] [.own (al.c g), .own [aU8 at'.e0, aU8 at'.e1]] (.seq ?_))))))))
    rcases bT (((gt g.Z a) : Int) == (-2147483648)) with p | p
    ·replace hr := bY p hr
     refine .r0 G (.mu 1 (.p0 (v := aB true) (eB p) (.mu 9 (.done (.nh [1, 3, 5, 33, 34, 35, 78] [.own (al.c g), .own [aU8 at'.e0, aU8 at'.e1]] (.cT kRf (.seq (.ru G (.ret ?_)))))))))
     obtain rfl := oi hr
     exact ⟨rfl, aH.ret (vs := [aB true]) kRf (Sn.pure rfl)⟩
    replace hr := bW p hr
    refine .r0 G (.mu 1 (.p0 (v := aB false) (eB p) (.mu 9 (.done (.nh [1, 3, 5, 33, 34, 35, 78] [.own (al.c g), .own [aU8 at'.e0, aU8 at'.e1]] ?_)))))
    refine .cd hr ?_ ?_ <;> intro oq hr
    ·refine .seq (.ru G (.ret ?_))
     obtain rfl := oi hr
     exact ⟨rfl, aH.ret (vs := [aB true]) kRf (Sn.pure rfl)⟩
    refine .skip (.pop (.ru G ?_))
    exact az (G1 (a + 1)) hr ((Wk.gc [1, 3, 5, 33, 34, 35] [(0, true), (1, true)] rfl trivial).to)
   replace hr := bW k hr
   rcases bT (((a.tmod g.Width) : Int) == (G1 (g.Width - 1))) with q | q
   ·replace hr := bY q hr
    refine .r0 G (.mu 1 (.p0 (v := aB false) (eB f) (.mu 2 (.pure (v := aB false) kRf (eB k) (.mu 6 (.pure (v := aB true) kRf (eB q) (.mu 9 (.done (.nh [1, 3, 5, 8, 11, 33, 34, 35] [.own (al.c g), .own [aU8 at'.e0, aU8 at'.e1]] (.seq ?_))))))))))
    rcases bT (((gt g.Z a) : Int) == (-2147483648)) with s | s
    ·replace hr := bY s hr
     refine .r0 G (.mu 1 (.p0 (v := aB true) (eB s) (.mu 9 (.done (.nh [1, 3, 5, 33, 34, 35, 78] [.own (al.c g), .own [aU8 at'.e0, aU8 at'.e1]] (.cT kRf (.seq (.ru G (.ret ?_)))))))))
     obtain rfl := oi hr
     exact ⟨rfl, aH.ret (vs := [aB true]) kRf (Sn.pure rfl)⟩
    replace hr := bW s hr
    refine .r0 G (.mu 1 (.p0 (v := aB false) (eB s) (.mu 9 (.done (.nh [1, 3, 5, 33, 34, 35, 78] [.own (al.c g), .own [aU8 at'.e0, aU8 at'.e1]] ?_)))))
    refine .cd hr ?_ ?_ <;> intro ov hr
    ·refine .seq (.ru G (.ret ?_))
     obtain rfl := oi hr
     exact ⟨rfl, aH.ret (vs := [aB true]) kRf (Sn.pure rfl)⟩
    refine .skip (.pop (.ru G ?_))
    exact az (G1 (a + 1)) hr ((Wk.gc [1, 3, 5, 33, 34, 35] [(0, true), (1, true)] rfl trivial).to)
   replace hr := bW q hr
   refine .r0 G (.mu 1 (.p0 (v := aB false) (eB f) (.mu 2 (.pure (v := aB false) kRf (eB k) (.mu 6 (.pure (v := aB false) kRf (eB q) (.mu 9 (.done (.nh [1, 3, 5, 8, 11, 33, 34, 35] [.own (al.c g), .own [aU8 at'.e0, aU8 at'.e1]] (.seq ?_))))))))))
   rcases bT (((gt g.Z a) : Int) == (-2147483648)) with l | l
   ·replace hr := bY l hr
    refine .r0 G (.mu 1 (.p0 (v := aB true) (eB l) (.mu 9 (.done (.nh [1, 3, 5, 33, 34, 35, 78] [.own (al.c g), .own [aU8 at'.e0, aU8 at'.e1]] (.cT kRf (.seq (.ru G (.ret ?_)))))))))
    obtain rfl := oi hr
    exact ⟨rfl, aH.ret (vs := [aB true]) kRf (Sn.pure rfl)⟩
   replace hr := bW l hr
   rcases bT (((G1 (a.tdiv g.Width)) : Int) == (G1 (g.Height - 1))) with t | t
   ·replace hr := bY t hr
    refine .r0 G (.mu 1 (.p0 (v := aB false) (eB l) (.mu 1 (.pure (v := aB true) kRf (eB t) (.mu 7 (.done (.nh [1, 3, 5, 33, 34, 35, 78] [.own (al.c g), .own [aU8 at'.e0, aU8 at'.e1]] ?_)))))))
    refine .cd hr ?_ ?_ <;> intro py hr
    ·refine .seq (.ru G (.ret ?_))
     obtain rfl := oi hr
     exact ⟨rfl, aH.ret (vs := [aB true]) kRf (Sn.pure rfl)⟩
    refine .skip (.pop (.ru G ?_))
    exact az (G1 (a + 1)) hr ((Wk.gc [1, 3, 5, 33, 34, 35] [(0, true), (1, true)] rfl trivial).to)
   replace hr := bW t hr
   refine .r0 G (.mu 1 (.p0 (v := aB false) (eB l) (.mu 1 (.pure (v := aB false) kRf (eB t) (.mu 7 (.done (.nh [1, 3, 5, 33, 34, 35, 78] [.own (al.c g), .own [aU8 at'.e0, aU8 at'.e1]] (.cF kRf (.skip (.pop (.ru G ?_)))))))))))
   exact az (G1 (a + 1)) hr ((Wk.gc [1, 3, 5, 33, 34, 35] [(0, true), (1, true)] rfl trivial).to)
  refine .leave rfl ?_
  obtain rfl := oi hr
  exact ⟨rfl, ((Wk.gc [1, 3, 5] [(0, true), (1, true)] rfl trivial).to)⟩
 rcases S with ⟨⟩ | r0
 ·rintro x st' i
  clear D
  obtain ⟨rfl, i⟩ := i
  refine aU _ rfl (.wk i (.seq ?_))
  obtain ⟨d, T, hr⟩ := bd hr
  refine .g1 G (ok0 (nY n g level d T)) (.mu 2 (.ca cf0 (.mu 5 (.done (.nh [1, 3, 5, 12, 13] [.own (al.c g), .own [aU8 at'.e0, aU8 at'.e1]] (.seq (.seq (.r4 G [1, 3, 5, 12] [(87, aB ((d.2 : Int) != 0))] ?_))))))))
  refine .cd hr ?_ ?_ <;> intro km hr
  ·refine .seq (.ru G (.ret ?_))
   obtain rfl := oi hr
   exact aH.r1 [aB false]
  refine .skip (.seq ?_)
  obtain ⟨U, V, hr⟩ := gd2 hr
  refine .eX G bO (.mu 5 (.pk (v := ag ((G1 at'.e0).tmod g.Width)) (mi (x := G1 at'.e0) (y := g.Width) kRf kRf U) (.mu 5 (.pk (v := ag ((G1 at'.e1).tmod g.Height)) (mi (x := G1 at'.e1) (y := g.Height) kRf kRf V) (.mu 2 ?_)))))
  refine .done (kRa ?_)
  refine .nh [1, 3, 12, 14, 15] [.own (al.c g), .own [aU8 at'.e0, aU8 at'.e1]] (.seq (.r4 G [1, 3, 12, 14, 15] [(16, ag 0)] (.seq (.seq (.r4 G [1, 3, 14, 15, 16] [(100, slT ah.c d.1), (101, ag (d.1.length : Int)), (102, ag 0)] (.block ?_))))))
  replace hr := bd hr; obtain ⟨W, E, hr⟩ := hr
  refine .aN (σ := fun z0 => match z0 with | (F, b) => ⟨mkS 154 0 [(1, ag level), (3, .hp 0 0), (14, ag ((G1 at'.e0).tmod g.Width)), (15, ag ((G1 at'.e1).tmod g.Height)), (16, ag F), (100, slT ah.c d.1), (101, ag (d.1.length : Int)), (102, ag b)], [.own (al.c g)]⟩) (Q := fun x st' => match (generalizing := false) W with | .inl u => x = .exit 2 /\ Wk 0 st' ⟨mkS 154 0 [(1, ag level), (3, .hp 0 0), (14, ag ((G1 at'.e0).tmod g.Width)), (15, ag ((G1 at'.e1).tmod g.Height)), (16, ag u)], [.own (al.c g)]⟩ | .inr (r0) => x = .ret /\ aH Tryz.prog [.tmp 6] (aB r0) .ret st') E ((Wk.gc [1, 3, 14, 15, 16, 100, 101, 102] [(0, true)] rfl trivial).to) ?_ ?_
  ·clear hr
   rintro m ⟨F, b⟩ hr
   refine CQ.sh ?_
   refine .seq (.r4 G [1, 3, 14, 15, 16, 100, 101, 102] [(103, aB (decide (b < (d.1.length : Int))))] (.seq ?_))
   refine .cd hr ?_ ?_ <;> intro lY hr
   ·refine .skip (.seq (.block (.seq ?_)))
    obtain ⟨M, hr⟩ := gd hr
    refine .r0 G (.p0 (v := .pp (d.1.flatMap ah.c) (b.toNat * 2)) (tr (ar M)) (.p0 (v := .agg (ah.c (gt d.1 b))) (tr (y := bt.ofP (gO (decide (2 <= ((d.1.flatMap ah.c).drop (b.toNat * 2)).length)) (.agg (((d.1.flatMap ah.c).drop (b.toNat * 2)).take 2)))) (dr ah.len (aE M) (by decide) (by omega : b.toNat * 2 = b.toNat * 2 + 0) kRf)) (.mu 2 (.done (.nh [1, 3, 14, 15, 16, 18, 100, 101, 102] [.own (al.c g), .own (ah.c (gt d.1 b))] (.seq ?_))))))
    obtain ⟨O, X, hr⟩ := bd hr
    refine .g1 G (ok0 (nV n g (gt d.1 b) ((G1 at'.e0).tmod g.Width) ((G1 at'.e1).tmod g.Height) O X)) (.mu 4 (.ca cf0 (.mu 5 (.done (.nh [1, 3, 14, 15, 16, 18, 19, 20, 100, 101, 102] [.own (al.c g), .own (ah.c (gt d.1 b))] (.seq (.seq ?_)))))))
    rcases bT ((O.2 : Int) != 0) with w | w
    ·replace hr := bY w hr
     refine .r0 G (.mu 1 (.p0 (v := aB true) (eB w) (.mu 5 (.done (.nh [1, 3, 14, 15, 16, 19, 100, 101, 102, 120] [.own (al.c g), .own (ah.c (gt d.1 b))] (.cT kRf (.seq (.ru G (.ret ?_)))))))))
     obtain rfl := oi hr
     exact ⟨rfl, aH.ret (vs := [aB false]) kRf (Sn.pure rfl)⟩
    replace hr := bW w hr
    refine .r0 G (.mu 1 (.p0 (v := aB false) (eB w) (.mu 5 (.done (.nh [1, 3, 14, 15, 16, 19, 100, 101, 102, 120] [.own (al.c g), .own (ah.c (gt d.1 b))] ?_)))))
    refine .cd hr ?_ ?_ <;> intro lW hr
    ·refine .seq (.ru G (.ret ?_))
     obtain rfl := oi hr
     exact ⟨rfl, aH.ret (vs := [aB false]) kRf (Sn.pure rfl)⟩
    refine .skip (.ru G (.pop (.ru G ?_)))
    exact az (G1 (F + O.1), G1 (b + 1)) hr ((Wk.gc [1, 3, 14, 15, 16, 100, 101, 102] [(0, true)] rfl trivial).to)
   refine .leave rfl ?_
   obtain rfl := oi hr
   exact ⟨rfl, ((Wk.gc [1, 3, 14, 15, 16] [(0, true)] rfl trivial).to)⟩
  rcases W with u | r0
  ·rintro x st' j
   clear E
   obtain ⟨rfl, j⟩ := j
   refine aU _ rfl (.wk j (.seq ?_))
   rcases bT ((u : Int) == 1) with e | e
   ·replace hr := bY e hr
    obtain ⟨lG, B, hr⟩ := bd hr
    rcases bT lG with H | H
    ·subst H
     replace hr := bY rfl hr
     refine .g1 G (ok0 (dF n g level (G1 ((G1 (((G1 at'.e1).tmod g.Height) * g.Width)) + ((G1 at'.e0).tmod g.Width))) true B)) (.mu 1 (.p0 (v := aB true) (eB e) (.mu 9 (.ca cf0 (.mu 18 (.done (.ret ?_)))))))
     obtain rfl := oi hr
     exact aH.r1 [aB true]
    subst H
    replace hr := bW rfl hr
    rcases bT ((u : Int) == 0) with z | z
    ·replace hr := bY z hr
     obtain ⟨Y, N, hr⟩ := bd hr
     refine .gn G (ca1 (ok0 (dF n g level (G1 ((G1 (((G1 at'.e1).tmod g.Height) * g.Width)) + ((G1 at'.e0).tmod g.Width))) false B)) (ca3 (ok0 (dF n g level (G1 ((G1 (((G1 at'.e1).tmod g.Height) * g.Width)) + ((G1 at'.e0).tmod g.Width))) Y N)))) (.mu 1 (.p0 (v := aB true) (eB e) (.mu 9 (.ca cf0 (.mu 3 (.pure (v := aB true) kRf (eB z) (.mu 9 (.ca (cfA (fun h => by rw [sv N B (oW n h)]) cf0) (.mu 4 (.done (.ret ?_)))))))))))
     obtain rfl := oi hr
     exact aH.r1 [aB (!Y)]
    replace hr := bW z hr
    refine .g1 G (ok0 (dF n g level (G1 ((G1 (((G1 at'.e1).tmod g.Height) * g.Width)) + ((G1 at'.e0).tmod g.Width))) false B)) (.mu 1 (.p0 (v := aB true) (eB e) (.mu 9 (.ca cf0 (.mu 3 (.pure (v := aB false) kRf (eB z) (.mu 14 (.done (.ret ?_)))))))))
    obtain rfl := oi hr
    exact aH.r1 [aB false]
   replace hr := bW e hr
   rcases bT ((u : Int) == 0) with A | A
   ·replace hr := bY A hr
    obtain ⟨jD, ki, hr⟩ := bd hr
    refine .g1 G (ok0 (dF n g level (G1 ((G1 (((G1 at'.e1).tmod g.Height) * g.Width)) + ((G1 at'.e0).tmod g.Width))) jD ki)) (.mu 1 (.p0 (v := aB false) (eB e) (.mu 13 (.pure (v := aB true) kRf (eB A) (.mu 9 (.ca cf0 (.mu 4 (.done (.ret ?_)))))))))
    obtain rfl := oi hr
    exact aH.r1 [aB (!jD)]
   replace hr := bW A hr
   refine .r0 G (.mu 1 (.p0 (v := aB false) (eB e) (.mu 13 (.pure (v := aB false) kRf (eB A) (.mu 14 (.done (.ret ?_)))))))
   obtain rfl := oi hr
   exact aH.r1 [aB false]
  rintro x st' j
  clear E
  obtain ⟨rfl, j⟩ := j
  obtain rfl := oi hr
  exact gJ _ j
 rintro x st' i
 clear D
 obtain ⟨rfl, i⟩ := i
 obtain rfl := oi hr
 exact gJ _ i
end Go.L
