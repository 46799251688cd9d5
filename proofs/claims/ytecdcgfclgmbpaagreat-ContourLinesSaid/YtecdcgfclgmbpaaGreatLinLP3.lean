
import Derived.Test.YtecdcgfclgmbpaaGreatLinLP2
import Derived.Test.YtecdcgfclgmbpaaGreatL0Lins
import Derived.Test.YtecdcgfclgmbpaaGreatSortCLins
import Derived.Test.YtecdcgfclgmbpaaGreatSortKLins
import Derived.Test.YtecdcgfclgmbpaaGreatChecked
import Derived.KernelRfl
set_option linter.all false
set_option maxRecDepth 100000
set_option maxHeartbeats 4000000
namespace Go.L
open Go Go.Eng Go.Proofs
theorem kx (n : Nat) (a : List Int) (d : Int) (r : List Int × Int) (hr : eO n a d = some r) : aO Tryz.prog 186 [az a, cU d] (.tup [az r.1, cU r.2]) := by
 unfold eO at hr
 refine aO.bd G Tryz.func186 [.tmp 4, .tmp 5] ?_
 unfold Tryz.f186
 simp only [gS]
 refine .seq (.r4 G [0, 1] [] (.seq ?_))
 obtain ⟨A, B, C, hr⟩ := gd3 hr
 refine .r0 G (.mu 2 (.e0 (v := .hs 0 0 (List.replicate (a.length : Int).toNat ((0 : Int) : Int)).length 1) (ws := [(0, .own ((List.replicate (a.length : Int).toNat ((0 : Int) : Int)).flatMap iCu))]) (tr (lT (c := iCu) (z := (0 : Int)) (n := (a.length : Int)) (by_ := 4) rfl A B C)) (.mu 1 (.done (.nh [0, 1, 6] [.own ((List.replicate (a.length : Int).toNat ((0 : Int) : Int)).flatMap iCu)] (.seq (.r4 G [0, 1, 6] [(7, cU 0)] (.seq (.seq (.r4 G [0, 1, 6, 7] [(8, ag (FK ((a.length : Int) - 1)))] (.block ?_)))))))))))
 replace hr := bd hr; obtain ⟨t, p, hr⟩ := hr
 refine .aN (σ := fun E => match E with | (g, f, e) => ⟨mkS 42 0 [(0, az a), (1, cU d), (6, .hs 0 0 g.length 1), (7, cU f), (8, ag e)], [.own (g.flatMap iCu)]⟩) (Q := fun x st' => match (generalizing := false) t with | (i, j) => x = .exit 0 /\ Wk 0 st' ⟨mkS 42 0 [(6, .hs 0 0 i.length 1), (7, cU j)], [.own (i.flatMap iCu)]⟩) p ((Wk.gc [0, 1, 6, 7, 8] [(0, false)] rfl (pKo iCu (aD _) (List.replicate (a.length : Int).toNat ((0 : Int) : Int)) trivial)).to) ?_ ?_
 ·clear hr
  rintro m ⟨g, f, e⟩ hr
  refine CQ.sh ?_
  refine .seq (.seq (.r4 G [0, 1, 6, 7, 8] [(17, aB (decide (e >= 0)))] ?_))
  refine .cd hr ?_ ?_ <;> intro D hr
  ·refine .skip (.seq (.block (.seq ?_)))
   obtain ⟨q, hr⟩ := gd hr
   refine .r0 G (.mu 4 (.p0 (v := .pp (a.flatMap iCu) (e.toNat * 1)) (tr (au q)) (.p0 (v := bj (gt a e)) (tr (aE (aF (aG .u32) (aC q) z1 (by omega : e.toNat * 1 = e.toNat * 1 + 0) kRf))) (.mu 3 (.done (.nh [0, 1, 6, 8, 9] [.own (g.flatMap iCu)] (.seq ?_)))))))
   obtain ⟨s, k, hr⟩ := gd2 hr
   refine .r0 G (.mu 4 (.p0 (v := cU (wFu ((wFu ((wFu (f * 1000000000)) + (wFu (gt a e)))).tdiv d))) (qL (x := wFu ((wFu (f * 1000000000)) + (wFu (gt a e)))) (y := d) kRf kRf s) (.mu 1 (.p0 (v := .hp 0 (0 + e.toNat * 1)) (tr (au k)) (.e0 (v := .unk) (ws := [(0, .own ((g.set e.toNat (aa .u32 (wFu ((wFu ((wFu (f * 1000000000)) + (wFu (gt a e)))).tdiv d)))).flatMap iCu))]) (tr (jC (jA (cD (n := 1) (aG .u32) (aC k) (lbT rfl) (by omega : 0 + e.toNat * 1 = e.toNat * 1 + 0))) (congrArg Blk.own (c9 (xs := [bj (aa .u32 (wFu ((wFu ((wFu (f * 1000000000)) + (wFu (gt a e)))).tdiv d)))]) (aG .u32) (aC k) (lbT rfl) (by omega : 0 + e.toNat * 1 = e.toNat * 1 + 0) kRf)))) (.done (.nh [0, 1, 6, 8, 9] [.own ((g.set e.toNat (aa .u32 (wFu ((wFu ((wFu (f * 1000000000)) + (wFu (gt a e)))).tdiv d)))).flatMap iCu)] (.r0 G (.mu 2 (.p0 (v := cU ((wFu ((wFu (f * 1000000000)) + (wFu (gt a e)))).tmod d)) (qn (x := wFu ((wFu (f * 1000000000)) + (wFu (gt a e)))) (y := d) kRf kRf s) (.mu 1 (.done (.pop (.ru G ?_))))))))))))))
   exact av (g.set e.toNat (aa .u32 (wFu ((wFu ((wFu (f * 1000000000)) + (wFu (gt a e)))).tdiv d))), (wFu ((wFu (f * 1000000000)) + (wFu (gt a e)))).tmod d, FK (e - 1)) hr ((Wk.jl 6 (b := 0) (es := 1) (len := g.length) (g.set e.toNat (aa .u32 (wFu ((wFu ((wFu (f * 1000000000)) + (wFu (gt a e)))).tdiv d)))).length kRf (Eq.symm (List.length_set.trans rfl))).trans ((Wk.gc [0, 1, 6, 7, 8] [(0, false)] rfl (pKo iCu (aD _) (g.set e.toNat (aa .u32 (wFu ((wFu ((wFu (f * 1000000000)) + (wFu (gt a e)))).tdiv d)))) trivial)).to))
  refine .leave rfl ?_
  obtain rfl := oi hr
  exact ⟨rfl, ((Wk.gc [6, 7] [(0, false)] rfl (pKo iCu (aD _) g trivial)).to)⟩
 rcases t with ⟨i, j⟩
 rintro x st' o
 clear p
 obtain ⟨rfl, o⟩ := o
 refine aW _ rfl (.wk o (.seq ?_))
 obtain ⟨u, w, hr⟩ := bd hr
 refine .g1 G (cx (args := [aB false, .hs 0 0 i.length 1]) (l := [0]) (Sp (SnL.cons (Sn.hs rfl (.inl rfl) (SnC.pure (a7 (aD _) _)) (fun h => bZ h)) SnL.nil)) (aX n false i u w)) (.mu 1 (.ca cf0 (.mu 4 (.done (.ret ?_)))))
 obtain rfl := oi hr
 exact aK.ret (vs := [az u.Groups, cU j]) kRf (Sn.tup (Sp (Sp SnL.nil)))

theorem jf (n : Nat) (a : List Int) (b : List Int) (r : Int) (hr : cM n a b = some r) : aO Tryz.prog 155 [az a, az b] (ag r) := by
 unfold cM at hr
 refine aO.bd G Tryz.func155 [.tmp 4] ?_
 unfold Tryz.f155
 simp only [gS]
 refine .seq (.r4 G [0, 1] [] (.seq (.seq (.r4 G [0, 1] [(10, aB (((a.length : Int) : Int) != (b.length : Int)))] ?_))))
 refine .cd hr ?_ ?_ <;> intro l hr
 ·refine .seq (.seq (.r3 G 41 [(15, aB (decide ((a.length : Int) < (b.length : Int))))] ?_))
  refine .cd hr ?_ ?_ <;> intro o hr
  ·refine .seq (.ru G (.ret ?_))
   obtain rfl := oi hr
   exact aK.r1 [ag (-1)]
  refine .skip (.seq (.ru G (.ret ?_)))
  obtain rfl := oi hr
  exact aK.r1 [ag 1]
 refine .skip (.seq (.seq (.r4 G [0, 1] [(5, ag (FK ((a.length : Int) - 1)))] (.block ?_))))
 replace hr := bd hr; obtain ⟨h, g, hr⟩ := hr
 refine .aN (σ := fun p => match p with | c => ⟨mkS 41 0 [(0, az a), (1, az b), (5, ag c)], []⟩) (Q := fun x st' => match (generalizing := false) h with | .inl _ => x = .exit 0 /\ Wk 0 st' ⟨mkS 41 0 [], []⟩ | .inr (r0) => x = .ret /\ aK Tryz.prog [.tmp 4] (ag r0) .ret st') g ((Wk.gc [0, 1, 5] [] rfl pK0).to) ?_ ?_
 ·clear hr
  rintro m c hr
  refine CQ.sh ?_
  refine .seq (.seq (.r4 G [0, 1, 5] [(20, aB (decide (c >= 0)))] ?_))
  refine .cd hr ?_ ?_ <;> intro i hr
  ·refine .skip (.seq (.block (.seq (.seq ?_))))
   obtain ⟨e, f, hr⟩ := gd2 hr
   refine .dS G bF (.mu 2 (.pk (v := .pp (a.flatMap iCu) (c.toNat * 1)) (tr (au e)) (.pk (v := bj (gt a c)) (tr (aE (aF (aG .u32) (aC e) z1 (by omega : c.toNat * 1 = c.toNat * 1 + 0) kRf))) (.mu 2 (.pk (v := .pp (b.flatMap iCu) (c.toNat * 1)) (tr (au f)) (.pk (v := bj (gt b c)) (tr (aE (aF (aG .u32) (aC f) z1 (by omega : c.toNat * 1 = c.toNat * 1 + 0) kRf))) (.mu 1 ?_)))))))
   refine .done (kRa ?_)
   refine .nh [0, 1, 5, 31] [] ?_
   refine .cd hr ?_ ?_ <;> intro j hr
   ·refine .seq (.ru G (.ret ?_))
    obtain rfl := oi hr
    exact ⟨rfl, aK.ret (vs := [ag (-1)]) kRf (Sn.pure rfl)⟩
   refine .skip (.seq (.dS G bF (.mu 2 (.pk (v := .pp (a.flatMap iCu) (c.toNat * 1)) (tr (au e)) (.pk (v := bj (gt a c)) (tr (aE (aF (aG .u32) (aC e) z1 (by omega : c.toNat * 1 = c.toNat * 1 + 0) kRf))) (.mu 2 (.pk (v := .pp (b.flatMap iCu) (c.toNat * 1)) (tr (au f)) (.pk (v := bj (gt b c)) (tr (aE (aF (aG .u32) (aC f) z1 (by omega : c.toNat * 1 = c.toNat * 1 + 0) kRf))) (.mu 1 ?_)))))))))
   refine .done (kRa ?_)
   refine .nh [0, 1, 5, 40] [] ?_
   refine .cd hr ?_ ?_ <;> intro k hr
   ·refine .seq (.ru G (.ret ?_))
    obtain rfl := oi hr
    exact ⟨rfl, aK.ret (vs := [ag 1]) kRf (Sn.pure rfl)⟩
   refine .skip (.pop (.ru G ?_))
   exact av (FK (c - 1)) hr ((Wk.gc [0, 1, 5] [] rfl pK0).to)
  refine .leave rfl ?_
  obtain rfl := oi hr
  exact ⟨rfl, ((Wk.gc [] [] rfl pK0).to)⟩
 rcases h with ⟨⟩ | r0
 ·rintro x st' d
  clear g
  obtain ⟨rfl, d⟩ := d
  refine aW _ rfl (.wk d (.seq (.ru G (.ret ?_))))
  obtain rfl := oi hr
  exact aK.r1 [ag 0]
 rintro x st' d
 clear g
 obtain ⟨rfl, d⟩ := d
 obtain rfl := oi hr
 exact iM _ d

theorem n5 {a : List Int} {d : Int} {b : List Int} {c : Int} (h : ([slT iCu a, .at (.int .u64 d)] : List AV) = [slT iCu b, .at (.int .u64 c)]) : a = b /\ d = c := by
 simp only [List.cons.injEq, AV.agg.injEq, AV.at.injEq, Value.int.injEq, Value.bool.injEq, AV.fn.injEq, AV.pp.injEq, true_and, and_true, dV] at h
 simp_all
theorem ox (n : Nat) {a : List Int} {d : Int} {b : List Int} {c : Int} (h : ([slT iCu a, .at (.int .u64 d)] : List AV) = [slT iCu b, .at (.int .u64 c)]) : b7 n a d = b7 n b c := by
 obtain ⟨rfl, rfl⟩ := n5 h
 rfl
theorem iq (n : Nat) (a : List Int) (d : Int) (r : List Int) (hr : b7 n a d = some r) : aO Tryz.prog 187 [az a, cU d] (az r) := by
 unfold b7 at hr
 refine aO.bd G Tryz.func187 [.tmp 4] ?_
 unfold Tryz.f187
 simp only [gS]
 refine .seq (.r4 G [0, 1] [] (.seq (.r5 G [0, 1] [(5, .hs 0 0 0 1)] [.own []] (.seq (.r4 G [0, 1, 5] [(6, cU 0)] (.seq (.seq (.r4 G [0, 1, 5, 6] [(7, ag 0)] (.block ?_)))))))))
 replace hr := bd hr; obtain ⟨o, j, hr⟩ := hr
 refine .aN (σ := fun z => match z with | (c, e, b) => ⟨mkS 40 0 [(0, az a), (1, cU d), (5, .hs 0 0 c.length 1), (6, cU e), (7, ag b)], [.own (c.flatMap iCu)]⟩) (Q := fun x st' => match (generalizing := false) o with | (g, f) => x = .exit 0 /\ Wk 0 st' ⟨mkS 40 0 [(5, .hs 0 0 g.length 1), (6, cU f)], [.own (g.flatMap iCu)]⟩) j ((Wk.gc [0, 1, 5, 6, 7] [(0, false)] rfl (pKc trivial)).to) ?_ ?_
 ·clear hr
  rintro m ⟨c, e, b⟩ hr
  refine CQ.sh ?_
  refine .seq (.seq (.r4 G [0, 1, 5, 6, 7] [(13, aB (decide (b < (a.length : Int))))] ?_))
  refine .cd hr ?_ ?_ <;> intro y hr
  ·refine .skip (.seq (.block (.seq ?_)))
   obtain ⟨k, hr⟩ := gd hr
   refine .r0 G (.mu 2 (.p0 (v := .pp (a.flatMap iCu) (b.toNat * 1)) (tr (au k)) (.p0 (v := bj (gt a b)) (tr (aE (aF (aG .u32) (aC k) z1 (by omega : b.toNat * 1 = b.toNat * 1 + 0) kRf))) (.mu 6 (.done (.nh [0, 1, 5, 7, 8] [.own (c.flatMap iCu)] (.seq ?_)))))))
   obtain ⟨p, q, hr⟩ := gd2 hr
   refine .r0 G (.mu 5 (.e0 (v := .hs 2 0 (c ++ [aa .u32 ((wFu ((wFu ((wFu (gt a b)) * d)) + e)).tmod 1000000000)]).length 1) (ws := [(0, .dead), (2, .own ((c ++ [aa .u32 ((wFu ((wFu ((wFu (gt a b)) * d)) + e)).tmod 1000000000)]).flatMap iCu))]) (tr (dB (new := [bj (aa .u32 ((wFu ((wFu ((wFu (gt a b)) * d)) + e)).tmod 1000000000))]) (l := c) (xs := [aa .u32 ((wFu ((wFu ((wFu (gt a b)) * d)) + e)).tmod 1000000000)]) (aG .u32) rfl rfl kRf p q)) (.mu 1 (.done (.nh [0, 1, 5, 7, 8] [.dead, .own [bj (aa .u32 ((wFu ((wFu ((wFu (gt a b)) * d)) + e)).tmod 1000000000))], .own ((c ++ [aa .u32 ((wFu ((wFu ((wFu (gt a b)) * d)) + e)).tmod 1000000000)]).flatMap iCu)] (.ru G (.pop (.ru G ?_))))))))
   exact av (c ++ [aa .u32 ((wFu ((wFu ((wFu (gt a b)) * d)) + e)).tmod 1000000000)], wFu ((wFu ((wFu ((wFu (gt a b)) * d)) + e)).tdiv 1000000000), FK (b + 1)) hr ((Wk.gc [0, 1, 5, 6, 7] [(2, false)] rfl (pKo iCu (aD _) (c ++ [aa .u32 ((wFu ((wFu ((wFu (gt a b)) * d)) + e)).tmod 1000000000)]) trivial)).to)
  refine .leave rfl ?_
  obtain rfl := oi hr
  exact ⟨rfl, ((Wk.gc [5, 6] [(0, false)] rfl (pKo iCu (aD _) c trivial)).to)⟩
 rcases o with ⟨g, f⟩
 rintro x st' i
 clear j
 obtain ⟨rfl, i⟩ := i
 refine aW _ rfl (.wk i (.seq ?_))
 obtain ⟨s, t, hr⟩ := gd2 hr
 obtain ⟨u, w, hr⟩ := bd hr
 refine .gn G (ca4 [.dead, .own [bj (aa .u32 f)], .own ((g ++ [aa .u32 f]).flatMap iCu)] (cx (args := [aB false, .hs 2 0 (g ++ [aa .u32 f]).length 1]) (l := [2]) (Sp (SnL.cons (Sn.hs rfl (.inl rfl) (SnC.pure (a7 (aD _) _)) (fun h => bZ h)) SnL.nil)) (aX n false (g ++ [aa .u32 f]) u w))) (.mu 4 (.e0 (v := .hs 2 0 (g ++ [aa .u32 f]).length 1) (ws := [(0, .dead), (2, .own ((g ++ [aa .u32 f]).flatMap iCu))]) (tr (dB (new := [bj (aa .u32 f)]) (l := g) (xs := [aa .u32 f]) (aG .u32) rfl rfl kRf s t)) (.ca cf0 (.mu 2 (.done (.ret ?_))))))
 obtain rfl := oi hr
 exact aK.r1 [az u.Groups]

theorem oc (n : Nat) (a : List Int) (d : Int) (r : List Int) (hr : dH n a d = some r) : aO Tryz.prog 188 [az a, bj d] (az r) := by
 unfold dH at hr
 refine aO.bd G Tryz.func188 [.tmp 4] ?_
 unfold Tryz.f188
 simp only [gS]
 refine .seq (.r4 G [0, 1] [] (.seq ?_))
 obtain ⟨b, c, hr⟩ := gd2 hr
 obtain ⟨g, e, hr⟩ := bd hr
 refine .gn G (ca4 [.dead, .own (([d] ++ a).flatMap iCu)] (cx (args := [aB false, .hs 1 0 ([d] ++ a).length 1]) (l := [1]) (Sp (SnL.cons (Sn.hs rfl (.inl rfl) (SnC.pure (a7 (aD _) _)) (fun h => bZ h)) SnL.nil)) (aX n false ([d] ++ a) g e))) (.mu 3 (.e0 (v := .hs 1 0 ([d] ++ a).length 1) (ws := [(0, .dead), (1, .own (([d] ++ a).flatMap iCu))]) (tr (y := zo (decide (((a.flatMap iCu)).length = a.length * 1)) (a.flatMap iCu) a.length (fun z1 f => og (decide (0 + 1 * 1 <= ([d].flatMap iCu).length) && decide ((1 + f) * 4 <= 140737488355328) && decide (1 + f <= 4611686018427387904)) (some (.eff (.hs 1 0 (1 + f) 1) [(0, .dead), (1, .own ((([d].flatMap iCu).drop 0).take (1 * 1) ++ z1))])))) (tt (mP (aG _)) rfl (dB (l := [d]) (xs := a) (aG _) rfl rfl rfl b c))) (.ca cf0 (.mu 2 (.done (.ret ?_))))))
 obtain rfl := oi hr
 exact aK.r1 [az g.Groups]

theorem eK (n : Nat) {l : List Int} {i : Int} {a : List Int} {b : Int} (h : ([slT iCu l, .at (.int .i64 i)] : List AV) = [slT iCu a, .at (.int .i64 b)]) : aZ n l i = aZ n a b := by
 obtain ⟨rfl, rfl⟩ := qC h
 rfl
theorem bJ (n : Nat) (l : List Int) (i : Int) (r : Int) (hr : aZ n l i = some r) : aO Tryz.prog 189 [az l, ag i] (cU r) := by
 unfold aZ at hr
 refine aO.bd G Tryz.func189 [.tmp 4] ?_
 unfold Tryz.f189
 simp only [gS]
 refine .seq (.r4 G [0, 1] [] (.seq (.seq (.r4 G [0, 1] [(8, aB (decide (i < (l.length : Int))))] ?_))))
 refine .cd hr ?_ ?_ <;> intro b hr
 ·refine .seq ?_
  obtain ⟨a, hr⟩ := gd hr
  refine .r0 G (.mu 2 (.p0 (v := .pp (l.flatMap iCu) (i.toNat * 1)) (tr (au a)) (.p0 (v := bj (gt l i)) (tr (aE (aF (aG .u32) (aC a) z1 (by omega : i.toNat * 1 = i.toNat * 1 + 0) kRf))) (.mu 2 (.done (.ret ?_))))))
  obtain rfl := oi hr
  exact aK.r1 [cU (wFu (gt l i))]
 refine .skip (.seq (.ru G (.ret ?_)))
 obtain rfl := oi hr
 exact aK.r1 [cU 0]

theorem fN (n : Nat) (a : List Int) (b : List Int) (r : List Int) (hr : bX n a b = some r) : aO Tryz.prog 156 [az a, az b] (az r) := by
 unfold bX at hr
 refine aO.bd G Tryz.func156 [.tmp 4] ?_
 unfold Tryz.f156
 simp only [gS]
 refine .seq (.r4 G [0, 1] [] (.seq (.r5 G [0, 1] [(5, .hs 0 0 0 1)] [.own []] (.seq (.r4 G [0, 1, 5] [(6, cU 0)] (.seq (.seq (.r4 G [0, 1, 5, 6] [(7, ag 0)] (.block ?_)))))))))
 replace hr := bd hr; obtain ⟨g, k, hr⟩ := hr
 refine .aN (σ := fun y => match y with | (c, d, i) => ⟨mkS 38 0 [(0, az a), (1, az b), (5, .hs 0 0 c.length 1), (6, cU d), (7, ag i)], [.own (c.flatMap iCu)]⟩) (Q := fun x st' => x = .exit 0 /\ Wk 0 st' ⟨mkS 38 0 [(5, .hs 0 0 g.length 1)], [.own (g.flatMap iCu)]⟩) k ((Wk.gc [0, 1, 5, 6, 7] [(0, false)] rfl (pKc trivial)).to) ?_ ?_
 ·clear hr
  rintro m ⟨c, d, i⟩ hr
  refine CQ.sh ?_
  refine .seq (.seq (.r4 G [0, 1, 5, 6, 7] [(13, aB (decide (i < (a.length : Int))))] ?_))
  refine .cd hr ?_ ?_ <;> intro w hr
  ·refine .skip (.seq (.block (.seq ?_)))
   obtain ⟨e, o, f, p, hr⟩ := bd2 hr
   refine .gn G (ca1 (ok0 (bJ n a i e o)) (ca3 (ok0 (bJ n b i f p)))) (.mu 2 (.ca cf0 (.mu 3 (.ca (cfA (fun h => by rw [sv p o (eK n h)]) cf0) (.mu 4 (.done (.nh [0, 1, 5, 7, 8] [.own (c.flatMap iCu)] (.seq ?_))))))))
   obtain ⟨q, s, hr⟩ := gd2 hr
   refine .r0 G (.mu 5 (.e0 (v := .hs 2 0 (c ++ [aa .u32 ((wFu ((wFu ((wFu (1000000000 + e)) - f)) - d)).tmod 1000000000)]).length 1) (ws := [(0, .dead), (2, .own ((c ++ [aa .u32 ((wFu ((wFu ((wFu (1000000000 + e)) - f)) - d)).tmod 1000000000)]).flatMap iCu))]) (tr (dB (new := [bj (aa .u32 ((wFu ((wFu ((wFu (1000000000 + e)) - f)) - d)).tmod 1000000000))]) (l := c) (xs := [aa .u32 ((wFu ((wFu ((wFu (1000000000 + e)) - f)) - d)).tmod 1000000000)]) (aG .u32) rfl rfl kRf q s)) (.mu 1 (.done (.nh [0, 1, 5, 7, 8] [.dead, .own [bj (aa .u32 ((wFu ((wFu ((wFu (1000000000 + e)) - f)) - d)).tmod 1000000000))], .own ((c ++ [aa .u32 ((wFu ((wFu ((wFu (1000000000 + e)) - f)) - d)).tmod 1000000000)]).flatMap iCu)] (.ru G (.pop (.ru G ?_))))))))
   exact av (c ++ [aa .u32 ((wFu ((wFu ((wFu (1000000000 + e)) - f)) - d)).tmod 1000000000)], wFu (1 - (wFu ((wFu ((wFu ((wFu (1000000000 + e)) - f)) - d)).tdiv 1000000000))), FK (i + 1)) hr ((Wk.gc [0, 1, 5, 6, 7] [(2, false)] rfl (pKo iCu (aD _) (c ++ [aa .u32 ((wFu ((wFu ((wFu (1000000000 + e)) - f)) - d)).tmod 1000000000)]) trivial)).to)
  refine .leave rfl ?_
  obtain rfl := oi hr
  exact ⟨rfl, ((Wk.gc [5] [(0, false)] rfl (pKo iCu (aD _) c trivial)).to)⟩
 rintro x st' j
 clear k
 obtain ⟨rfl, j⟩ := j
 refine aW _ rfl (.wk j (.seq ?_))
 obtain ⟨t, u, hr⟩ := bd hr
 refine .g1 G (cx (args := [aB false, .hs 0 0 g.length 1]) (l := [0]) (Sp (SnL.cons (Sn.hs rfl (.inl rfl) (SnC.pure (a7 (aD _) _)) (fun h => bZ h)) SnL.nil)) (aX n false g t u)) (.mu 1 (.ca cf0 (.mu 2 (.done (.ret ?_)))))
 obtain rfl := oi hr
 exact aK.r1 [az t.Groups]

theorem iH (n : Nat) (a : List Int) (b : List Int) (r : List Int × List Int) (hr : cX n a b = some r) : aO Tryz.prog 152 [az a, az b] (.tup [az r.1, az r.2]) := by
 unfold cX at hr
 refine aO.bd G Tryz.func152 [.tmp 4, .tmp 5] ?_
 unfold Tryz.f152
 simp only [gS]
 refine .seq (.r4 G [0, 1] [] (.seq (.r4 G [0, 1] [(6, ag (b.length : Int))] (.seq (.seq (.r4 G [0, 1, 6] [(19, aB (((b.length : Int) : Int) == 1))] ?_))))))
 refine .cd hr ?_ ?_ <;> intro pK hr
 ·refine .seq ?_
  obtain ⟨S, hr⟩ := gd hr
  obtain ⟨v3, ki, hr⟩ := bd hr
  refine .g1 G (ok0 (kx n a (wFu (gt b 0)) v3 ki)) (.mu 2 (.p0 (v := .pp (b.flatMap iCu) ((0 : Int).toNat * 1)) (tr (au S)) (.p0 (v := bj (gt b 0)) (tr (aE (aF (aG .u32) (aC S) z1 (by omega : (0 : Int).toNat * 1 = (0 : Int).toNat * 1 + 0) kRf))) (.mu 1 (.ca cf0 (.mu 5 (.done (.nh [7, 8] [] (.seq ?_)))))))))
  obtain ⟨v5, kp, hr⟩ := bd hr
  refine .gn G (ca4 [.own [bj (aa .u32 v3.2)]] (cx (args := [aB false, .hs 0 0 1 1]) (l := [0]) (Sp (SnL.cons (Sn.hs rfl (.inl rfl) (SnC.cons (Sn.pure rfl) SnC.nil) (fun h => nomatch h)) SnL.nil)) (aX n false [(aa .u32 v3.2)] v5 kp))) (.mu 4 (.ca cf0 (.mu 3 (.done (.ret ?_)))))
  obtain rfl := oi hr
  exact aK.ret (vs := [az v3.1, az v5.Groups]) kRf (Sn.tup (Sp (Sp SnL.nil)))
 refine .skip (.seq (.seq ?_))
 obtain ⟨v7, kX, hr⟩ := bd hr
 refine .g1 G (ok0 (jf n a b v7 kX)) (.mu 2 (.ca cf0 (.mu 1 (.done (.nh [0, 1, 6, 38] [] ?_)))))
 refine .cd hr ?_ ?_ <;> intro qd hr
 ·refine .seq (.r5 G [] [(4, .hs 0 0 0 1), (5, az a)] [.own []] (.ret ?_))
  obtain rfl := oi hr
  exact aK.ret (vs := [.hs 0 0 0 1, az a]) kRf (Sn.tup (SnL.cons (Sn.hs rfl (.inl rfl) SnC.nil (fun _ => rfl)) (Sp SnL.nil)))
 refine .skip (.seq ?_)
 obtain ⟨D, T, hr⟩ := gd2 hr
 refine .r0 G (.mu 3 (.p0 (v := .pp (b.flatMap iCu) ((FK ((b.length : Int) - 1)).toNat * 1)) (tr (au D)) (.p0 (v := bj (gt b (FK ((b.length : Int) - 1)))) (tr (aE (aF (aG .u32) (aC D) z1 (by omega : (FK ((b.length : Int) - 1)).toNat * 1 = (FK ((b.length : Int) - 1)).toNat * 1 + 0) kRf))) (.mu 2 (.p0 (v := cU (wFu ((1000000000 : Int).tdiv (wFu ((wFu (gt b (FK ((b.length : Int) - 1)))) + 1))))) (qL (x := 1000000000) (y := wFu ((wFu (gt b (FK ((b.length : Int) - 1)))) + 1)) kRf kRf T) (.mu 1 (.done (.nh [0, 1, 6, 9] [] (.seq ?_)))))))))
 obtain ⟨f, E, g, F, hr⟩ := bd2 hr
 refine .gn G (ca1 (ok0 (iq n a (wFu ((1000000000 : Int).tdiv (wFu ((wFu (gt b (FK ((b.length : Int) - 1)))) + 1)))) f E)) (ca3 (ok0 (iq n b (wFu ((1000000000 : Int).tdiv (wFu ((wFu (gt b (FK ((b.length : Int) - 1)))) + 1)))) g F)))) (.mu 2 (.ca cf0 (.mu 2 (.ca (cfA (fun h => by rw [sv F E (ox n h)]) cf0) (.mu 2 (.done (.nh [0, 1, 6, 9] [] (.seq ?_))))))))
 obtain ⟨H, hr⟩ := gd hr
 obtain ⟨kV, U, hr⟩ := bd hr
 refine .g1 G (ok0 (aX n false ((f.drop (FK ((FK ((f.length : Int) - (b.length : Int))) + 1)).toNat).take ((f.length : Int).toNat - (FK ((FK ((f.length : Int) - (b.length : Int))) + 1)).toNat)) kV U)) (.mu 6 (.p0 (v := az ((f.drop (FK ((FK ((f.length : Int) - (b.length : Int))) + 1)).toNat).take ((f.length : Int).toNat - (FK ((FK ((f.length : Int) - (b.length : Int))) + 1)).toNat))) (tr (y := slO (inS (FK ((FK ((f.length : Int) - (b.length : Int))) + 1)) (f.length : Int) f.length) (FK ((FK ((f.length : Int) - (b.length : Int))) + 1)).toNat (f.length : Int).toNat (fun z1 z2 => .sl true (((f.flatMap iCu).drop (z1 * 1)).take ((z2 - z1) * 1)) (z2 - z1))) (wG H (tm (aG _) (pY H)))) (.ca cf0 (.mu 2 (.done (.nh [0, 1, 6, 9, 10] [] (.seq ?_)))))))
 obtain ⟨V, W, X, hr⟩ := gd3 hr
 refine .r0 G (.mu 5 (.e0 (v := .hs 0 0 (List.replicate (FK ((FK ((f.length : Int) - (b.length : Int))) + 1)).toNat ((0 : Int) : Int)).length 1) (ws := [(0, .own ((List.replicate (FK ((FK ((f.length : Int) - (b.length : Int))) + 1)).toNat ((0 : Int) : Int)).flatMap iCu))]) (tr (lT (c := iCu) (z := (0 : Int)) (n := FK ((FK ((f.length : Int) - (b.length : Int))) + 1)) (by_ := 4) rfl V W X)) (.mu 1 (.done (.nh [0, 1, 6, 9, 10, 11] [.own ((List.replicate (FK ((FK ((f.length : Int) - (b.length : Int))) + 1)).toNat ((0 : Int) : Int)).flatMap iCu)] (.seq (.seq (.r4 G [0, 1, 6, 9, 10, 11] [(12, ag (FK ((f.length : Int) - (b.length : Int))))] (.block ?_)))))))))
 replace hr := bd hr; obtain ⟨Y, I, hr⟩ := hr
 refine .aN (σ := fun z0 => match z0 with | (o, d, e) => ⟨mkS 130 0 [(0, az f), (1, az g), (6, ag (b.length : Int)), (9, cU (wFu ((1000000000 : Int).tdiv (wFu ((wFu (gt b (FK ((b.length : Int) - 1)))) + 1))))), (10, az o), (11, .hs 0 0 d.length 1), (12, ag e)], [.own (d.flatMap iCu)]⟩) (Q := fun x st' => match (generalizing := false) Y with | (p, j) => x = .exit 0 /\ Wk 0 st' ⟨mkS 130 0 [(9, cU (wFu ((1000000000 : Int).tdiv (wFu ((wFu (gt b (FK ((b.length : Int) - 1)))) + 1))))), (10, az p), (11, .hs 0 0 j.length 1)], [.own (j.flatMap iCu)]⟩) I ((Wk.gc [0, 1, 6, 9, 10, 11, 12] [(0, false)] rfl (pKo iCu (aD _) (List.replicate (FK ((FK ((f.length : Int) - (b.length : Int))) + 1)).toNat ((0 : Int) : Int)) trivial)).to) ?_ ?_
 ·clear hr
  rintro m ⟨o, d, e⟩ hr
  refine CQ.sh ?_
  refine .seq (.seq (.r4 G [0, 1, 6, 9, 10, 11, 12] [(75, aB (decide (e >= 0)))] ?_))
  refine .cd hr ?_ ?_ <;> intro nH hr
  ·refine .skip (.seq (.block (.seq ?_)))
   obtain ⟨J, hr⟩ := gd hr
   obtain ⟨A, Z, hr⟩ := bd hr
   refine .g1 G (ok0 (oc n o (gt f e) A Z)) (.mu 3 (.p0 (v := .pp (f.flatMap iCu) (e.toNat * 1)) (tr (au J)) (.p0 (v := bj (gt f e)) (tr (aE (aF (aG .u32) (aC J) z1 (by omega : e.toNat * 1 = e.toNat * 1 + 0) kRf))) (.ca cf0 (.mu 1 (.done (.nh [0, 1, 6, 9, 10, 11, 12] [.own (d.flatMap iCu)] (.seq ?_))))))))
   obtain ⟨B, L, C, M, hr⟩ := bd2 hr
   obtain ⟨N, jB, hr⟩ := gd2 hr
   refine .tn G (ca1 (ok0 (bJ n A (b.length : Int) B L)) (ca3 (ok0 (bJ n A (FK ((b.length : Int) - 1)) C M)))) (.mu 2 (.ca cf0 (.mu 4 (.ca (cfA (fun h => by rw [sv M L (eK n h)]) cf0) (.mu 4 (.pk (v := .pp (g.flatMap iCu) ((FK ((b.length : Int) - 1)).toNat * 1)) (tr (au N)) (.pk (v := bj (gt g (FK ((b.length : Int) - 1)))) (tr (aE (aF (aG .u32) (aC N) z1 (by omega : (FK ((b.length : Int) - 1)).toNat * 1 = (FK ((b.length : Int) - 1)).toNat * 1 + 0) kRf))) (.mu 2 (.pk (v := cU (wFu ((wFu ((wFu (B * 1000000000)) + C)).tdiv (wFu ((wFu (gt g (FK ((b.length : Int) - 1)))) + 1))))) (qL (x := wFu ((wFu (B * 1000000000)) + C)) (y := wFu ((wFu (gt g (FK ((b.length : Int) - 1)))) + 1)) kRf kRf jB) (.mu 1 ?_))))))))))
   refine .done (kRa ?_)
   refine .nh [0, 1, 6, 9, 10, 11, 12, 13] [.own (d.flatMap iCu)] (.seq ?_)
   obtain ⟨jQ, j8, mA, kB, hr⟩ := bd2 hr
   refine .gn G (ca1 (ok0 (iq n g (wFu ((wFu ((wFu (B * 1000000000)) + C)).tdiv (wFu ((wFu (gt g (FK ((b.length : Int) - 1)))) + 1)))) jQ j8)) (ca3 (ok0 (fN n A jQ mA kB)))) (.mu 3 (.ca cf0 (.ca (cfF cf0) (.mu 1 (.done (.nh [0, 1, 6, 9, 10, 11, 12, 13] [.own (d.flatMap iCu)] (.seq (.block ?_))))))))
   replace hr := bd hr; obtain ⟨j9, O, hr⟩ := hr
   refine .aN (σ := fun z0 => match z0 with | (k, q) => ⟨mkS 130 0 [(0, az f), (1, az g), (6, ag (b.length : Int)), (9, cU (wFu ((1000000000 : Int).tdiv (wFu ((wFu (gt b (FK ((b.length : Int) - 1)))) + 1))))), (10, az k), (11, .hs 0 0 d.length 1), (12, ag e), (13, cU q)], [.own (d.flatMap iCu)]⟩) (Q := fun x st' => match (generalizing := false) j9 with | (s, i) => x = .exit 2 /\ Wk 0 st' ⟨mkS 130 0 [(0, az f), (1, az g), (6, ag (b.length : Int)), (9, cU (wFu ((1000000000 : Int).tdiv (wFu ((wFu (gt b (FK ((b.length : Int) - 1)))) + 1))))), (10, az s), (11, .hs 0 0 d.length 1), (12, ag e), (13, cU i)], [.own (d.flatMap iCu)]⟩) O ((Wk.gc [0, 1, 6, 9, 10, 11, 12, 13] [(0, false)] rfl (pKo iCu (aD _) d trivial)).to) ?_ ?_
   ·clear hr
    rintro m ⟨k, q⟩ hr
    refine CQ.sh ?_
    refine .seq (.seq ?_)
    obtain ⟨mw, kO, hr⟩ := bd hr
    refine .g1 G (ok0 (jf n k g mw kO)) (.mu 2 (.ca cf0 (.mu 1 (.done (.nh [0, 1, 6, 9, 10, 11, 12, 13, 109] [.own (d.flatMap iCu)] ?_)))))
    refine .cd hr ?_ ?_ <;> intro oD hr
    ·refine .skip (.block (.seq ?_))
     obtain ⟨lH, mN, hr⟩ := bd hr
     refine .g1 G (ok0 (fN n k g lH mN)) (.mu 2 (.ca cf0 (.mu 1 (.done (.nh [0, 1, 6, 9, 10, 11, 12, 13] [.own (d.flatMap iCu)] (.ru G (.pop ?_)))))))
     exact av (lH, wFu (q + 1)) hr ((Wk.gc [0, 1, 6, 9, 10, 11, 12, 13] [(0, false)] rfl (pKo iCu (aD _) d trivial)).to)
    refine .leave rfl ?_
    obtain rfl := oi hr
    exact ⟨rfl, ((Wk.gc [0, 1, 6, 9, 10, 11, 12, 13] [(0, false)] rfl (pKo iCu (aD _) d trivial)).to)⟩
   rcases j9 with ⟨s, i⟩
   rintro x st' t
   clear O
   obtain ⟨rfl, t⟩ := t
   refine aW _ rfl (.wk t ?_)
   obtain ⟨u, hr⟩ := gd hr
   refine .r0 G (.mu 4 (.p0 (v := .hp 0 (0 + e.toNat * 1)) (tr (au u)) (.e0 (v := .unk) (ws := [(0, .own ((d.set e.toNat (aa .u32 i)).flatMap iCu))]) (tr (jC (jA (cD (n := 1) (aG .u32) (aC u) (lbT rfl) (by omega : 0 + e.toNat * 1 = e.toNat * 1 + 0))) (congrArg Blk.own (c9 (xs := [bj (aa .u32 i)]) (aG .u32) (aC u) (lbT rfl) (by omega : 0 + e.toNat * 1 = e.toNat * 1 + 0) kRf)))) (.done (.pop (.ru G ?_))))))
   exact av (s, d.set e.toNat (aa .u32 i), FK (e - 1)) hr ((Wk.jl 11 (b := 0) (es := 1) (len := d.length) (d.set e.toNat (aa .u32 i)).length kRf (Eq.symm (List.length_set.trans rfl))).trans ((Wk.gc [0, 1, 6, 9, 10, 11, 12] [(0, false)] rfl (pKo iCu (aD _) (d.set e.toNat (aa .u32 i)) trivial)).to))
  refine .leave rfl ?_
  obtain rfl := oi hr
  exact ⟨rfl, ((Wk.gc [9, 10, 11] [(0, false)] rfl (pKo iCu (aD _) d trivial)).to)⟩
 rcases Y with ⟨p, j⟩
 rintro x st' w
 clear I
 obtain ⟨rfl, w⟩ := w
 refine aW _ rfl (.wk w (.seq ?_))
 obtain ⟨mF, nw, hr⟩ := bd hr
 refine .g1 G (ok0 (kx n p (wFu ((1000000000 : Int).tdiv (wFu ((wFu (gt b (FK ((b.length : Int) - 1)))) + 1)))) mF nw)) (.mu 2 (.ca cf0 (.mu 5 (.done (.nh [11, 14] [.own (j.flatMap iCu)] (.seq ?_))))))
 obtain ⟨jS, R, hr⟩ := bd hr
 refine .g1 G (cx (args := [aB false, .hs 0 0 j.length 1]) (l := [0]) (Sp (SnL.cons (Sn.hs rfl (.inl rfl) (SnC.pure (a7 (aD _) _)) (fun h => bZ h)) SnL.nil)) (aX n false j jS R)) (.mu 1 (.ca cf0 (.mu 4 (.done (.ret ?_)))))
 obtain rfl := oi hr
 exact aK.ret (vs := [az jS.Groups, az mF.1]) kRf (Sn.tup (Sp (Sp SnL.nil)))

theorem o6 {a : List Int} {b : List Int} (h : ([slT iCu a] : List AV) = [slT iCu b]) : a = b := by
 simp only [List.cons.injEq, AV.agg.injEq, AV.at.injEq, Value.int.injEq, Value.bool.injEq, AV.fn.injEq, AV.pp.injEq, true_and, and_true, dV] at h
 simp_all
theorem pT (n : Nat) {a : List Int} {b : List Int} (h : ([slT iCu a] : List AV) = [slT iCu b]) : df n a = df n b := by
 obtain rfl := o6 h
 rfl
theorem kU (n : Nat) (a : List Int) (r : Int) (hr : df n a = some r) : aO Tryz.prog 153 [az a] (cU r) := by
 unfold df at hr
 refine aO.bd G Tryz.func153 [.tmp 2] ?_
 unfold Tryz.f153
 simp only [gS]
 refine .seq (.r4 G [0] [] (.seq ?_))
 obtain ⟨d, b, e, c, hr⟩ := bd2 hr
 refine .gn G (ca1 (ok0 (bJ n a 1 d b)) (ca3 (ok0 (bJ n a 0 e c)))) (.mu 1 (.ca cf0 (.mu 2 (.ca (cfA (fun h => by rw [sv c b (eK n h)]) cf0) (.mu 2 (.done (.ret ?_)))))))
 obtain rfl := oi hr
 exact aK.r1 [cU (wFu ((wFu (d * 1000000000)) + e))]

theorem l7 (n : Nat) (A : ah) (y : ah) (r : ah) (hr : fu n A y = some r) : aO Tryz.prog 115 [.agg (ah.c A), .agg (ah.c y)] (.agg (ah.c r)) := by
 unfold fu at hr
 refine aO.bd G Tryz.func115 [.cell 4 40] ?_
 unfold Tryz.f115
 simp only [gS]
 refine .seq (.r2 G 61 [(2, .hp 0 0), (3, .hp 1 0), (4, .hp 2 0)] [.own (ah.c A), .own (ah.c y), .own [aB false, nS]] (.seq ?_))
 obtain ⟨V, B, W, C, hr⟩ := bd2 hr
 refine .tn G (ca1 (ok0 (bL n A V B)) (ca3 (ok0 (bL n y W C)))) (.mu 1 (.ca cf0 (.mu 2 (.ca (cfA (fun h => by rw [sv C B (fQ n h)]) cf0) (.mu 3 ?_)))))
 refine .done (kRa ?_)
 refine .nh [4, 5, 6] [.own (ah.c A), .own (ah.c y), .own [aB false, nS]] (.seq (.block ?_))
 replace hr := bd hr; obtain ⟨D, q, hr⟩ := hr
 refine .aN (σ := fun N => match N with | (k, g) => ⟨mkS 61 0 [(4, .hp 0 0), (5, az k), (6, az g)], [.own [aB false, nS]]⟩) (Q := fun x st' => match (generalizing := false) D with | (i, j) => x = .exit 0 /\ Wk 0 st' ⟨mkS 61 0 [(4, .hp 0 0), (5, az i), (6, az j)], [.own [aB false, nS]]⟩) q ((Wk.gc [4, 5, 6] [(2, true)] rfl trivial).to) ?_ ?_
 ·clear hr
  rintro m ⟨k, g⟩ hr
  refine CQ.sh ?_
  refine .seq (.seq ?_)
  rcases bT (decide ((g.length : Int) > 0)) with d | d
  ·replace hr := cg d hr
   rcases bT (decide ((k.length : Int) > 2)) with e | e
   ·replace hr := cg e hr
    refine .r0 G (.mu 2 (.p0 (v := aB true) (eB d) (.mu 3 (.pure (v := aB true) kRf (eB e) (.mu 6 (.done (.nh [4, 5, 6, 29] [.own [aB false, nS]] (.cT kRf (.skip (.block (.seq ?_)))))))))))
    obtain ⟨E, F, hr⟩ := bd hr
    refine .g1 G (ok0 (iH n k g E F)) (.mu 2 (.ca cf0 (.mu 5 (.done (.nh [4, 6, 8] [.own [aB false, nS]] (.ru G (.pop ?_)))))))
    exact av (g, E.2) hr ((Wk.gc [4, 5, 6] [(0, true)] rfl trivial).to)
   replace hr := ch e hr
   refine .r0 G (.mu 2 (.p0 (v := aB true) (eB d) (.mu 3 (.pure (v := aB false) kRf (eB e) (.mu 6 (.done (.nh [4, 5, 6, 29] [.own [aB false, nS]] ?_)))))))
   refine .cd hr ?_ ?_ <;> intro S hr
   ·refine .skip (.block (.seq ?_))
    obtain ⟨H, I, hr⟩ := bd hr
    refine .g1 G (ok0 (iH n k g H I)) (.mu 2 (.ca cf0 (.mu 5 (.done (.nh [4, 6, 8] [.own [aB false, nS]] (.ru G (.pop ?_)))))))
    exact av (g, H.2) hr ((Wk.gc [4, 5, 6] [(0, true)] rfl trivial).to)
   refine .leave rfl ?_
   obtain rfl := oi hr
   exact ⟨rfl, ((Wk.gc [4, 5, 6] [(0, true)] rfl trivial).to)⟩
  replace hr := ch d hr
  refine .r0 G (.mu 2 (.p0 (v := aB false) (eB d) (.mu 10 (.done (.nh [4, 5, 6, 29] [.own [aB false, nS]] (.cF kRf (.leave rfl ?_)))))))
  obtain rfl := oi hr
  exact ⟨rfl, ((Wk.gc [4, 5, 6] [(0, true)] rfl trivial).to)⟩
 rcases D with ⟨i, j⟩
 rintro x st' o
 clear q
 obtain ⟨rfl, o⟩ := o
 refine aW _ rfl (.wk o (.seq (.seq (.r4 G [4, 5, 6] [(40, aB (((j.length : Int) : Int) == 0))] ?_))))
 refine .cd hr ?_ ?_ <;> intro T hr
 ·refine .seq ?_
  obtain ⟨w, J, hr⟩ := bd hr
  refine .g1 G (ok0 (aX n false i w J)) (.mu 1 (.ca cf0 (.mu 1 (.done (.nh [4] [.own (ah.c w)] (.ret ?_))))))
  obtain rfl := oi hr
  exact aK.r1 [.agg (ah.c w)]
 refine .skip (.seq ?_)
 obtain ⟨O, s, R, t, hr⟩ := bd2 hr
 refine .gn G (ca1 (ok0 (kU n i O s)) (ca3 (ok0 (kU n j R t)))) (.mu 1 (.ca cf0 (.mu 1 (.ca (cfA (fun h => by rw [sv t s (pT n h)]) cf0) (.mu 2 (.done (.nh [4, 9, 10] [.own [aB false, nS]] (.seq (.block ?_)))))))))
 replace hr := bd hr; obtain ⟨a, u, hr⟩ := hr
 refine .aN (σ := fun N => match N with | (f, b) => ⟨mkS 61 0 [(4, .hp 0 0), (9, cU f), (10, cU b)], [.own [aB false, nS]]⟩) (Q := fun x st' => x = .exit 2 /\ Wk 0 st' ⟨mkS 61 0 [(4, .hp 0 0), (9, cU a)], [.own [aB false, nS]]⟩) u ((Wk.gc [4, 9, 10] [(0, true)] rfl trivial).to) ?_ ?_
 ·clear hr
  rintro m ⟨f, b⟩ hr
  refine CQ.sh ?_
  refine .seq (.seq (.r4 G [4, 9, 10] [(48, aB (decide (b > 0)))] ?_))
  refine .cd hr ?_ ?_ <;> intro U hr
  ·refine .skip (.block ?_)
   obtain ⟨L, hr⟩ := gd hr
   refine .dS G bF (.mu 3 (.pk (v := cU (f.tmod b)) (qn (x := f) (y := b) kRf kRf L) (.mu 2 ?_)))
   refine .done (kRa ?_)
   refine .pop ?_
   exact av (b, f.tmod b) hr ((Wk.gc [4, 9, 10] [(0, true)] rfl trivial).to)
  refine .leave rfl ?_
  obtain rfl := oi hr
  exact ⟨rfl, ((Wk.gc [4, 9] [(0, true)] rfl trivial).to)⟩
 rintro x st' p
 clear u
 obtain ⟨rfl, p⟩ := p
 refine aW _ rfl (.wk p (.seq ?_))
 obtain ⟨z, M, hr⟩ := bd hr
 refine .gn G (ca4 [.own [aB false, nS], .own [bj (aa .u32 (a.tmod 1000000000)), bj (aa .u32 (wFu (a.tdiv 1000000000)))]] (cx (args := [aB false, .hs 1 0 2 1]) (l := [1]) (Sp (SnL.cons (Sn.hs rfl (.inl rfl) (SnC.cons (Sn.pure rfl) (SnC.cons (Sn.pure rfl) SnC.nil)) (fun h => nomatch h)) SnL.nil)) (aX n false [(aa .u32 (a.tmod 1000000000)), (aa .u32 (wFu (a.tdiv 1000000000)))] z M))) (.mu 7 (.ca cf0 (.mu 1 (.done (.nh [4] [.own (ah.c z), .fix [bj (aa .u32 (a.tmod 1000000000)), bj (aa .u32 (wFu (a.tdiv 1000000000)))]] (.ret ?_))))))
 obtain rfl := oi hr
 exact aK.r1 [.agg (ah.c z)]

theorem jy (n : Nat) (b : ah) (r : ah) (hr : eF n b = some r) : aO Tryz.prog 126 [.agg (ah.c b)] (.agg (ah.c r)) := by
 unfold eF at hr
 refine aO.bd G Tryz.func126 [.cell 2 40] ?_
 unfold Tryz.f126
 simp only [gS]
 refine .seq (.r2 G 11 [(1, .hp 0 0), (2, .hp 1 0)] [.own (ah.c b), .own [aB false, nS]] (.seq ?_))
 obtain ⟨a, d, hr⟩ := bd hr
 refine .g1 G (ok0 (bL n b a d)) (.mu 1 (.ca cf0 (.mu 1 (.done (.nh [1, 2] [.own (ah.c a), .own [aB false, nS]] (.seq ?_))))))
 obtain ⟨e, f, hr⟩ := bd hr
 refine .g1 G (ok0 (aX n (!a.Negative) a.Groups e f)) (.mu 5 (.ca cf0 (.mu 1 (.done (.nh [2] [.own (ah.c a), .own (ah.c e)] (.ret ?_))))))
 obtain rfl := oi hr
 exact aK.r1 [.agg (ah.c e)]

theorem pS (n : Nat) (a : List Int) (b : List Int) (r : List Int) (hr : gg n a b = some r) : aO Tryz.prog 154 [az a, az b] (az r) := by
 unfold gg at hr
 refine aO.bd G Tryz.func154 [.tmp 4] ?_
 unfold Tryz.f154
 simp only [gS]
 refine .seq (.r4 G [0, 1] [] (.seq (.r5 G [0, 1] [(5, .hs 0 0 0 1)] [.own []] (.seq (.r4 G [0, 1, 5] [(6, cU 0)] (.seq (.seq (.r4 G [0, 1, 5, 6] [(7, ag 0)] (.block ?_)))))))))
 replace hr := bd hr; obtain ⟨z, s, hr⟩ := hr
 refine .aN (σ := fun L => match L with | (c, d, o) => ⟨mkS 46 0 [(0, az a), (1, az b), (5, .hs 0 0 c.length 1), (6, cU d), (7, ag o)], [.own (c.flatMap iCu)]⟩) (Q := fun x st' => match (generalizing := false) z with | (f, e) => x = .exit 0 /\ Wk 0 st' ⟨mkS 46 0 [(5, .hs 0 0 f.length 1), (6, cU e)], [.own (f.flatMap iCu)]⟩) s ((Wk.gc [0, 1, 5, 6, 7] [(0, false)] rfl (pKc trivial)).to) ?_ ?_
 ·clear hr
  rintro m ⟨c, d, o⟩ hr
  refine CQ.sh ?_
  refine .seq (.seq ?_)
  rcases bT (decide (o < (a.length : Int))) with p | p
  ·replace hr := cg p hr
   refine .r0 G (.mu 3 (.p0 (v := aB true) (eB p) (.mu 6 (.done (.nh [0, 1, 5, 6, 7, 19] [.own (c.flatMap iCu)] (.cT kRf (.skip (.seq (.block (.seq ?_))))))))))
   obtain ⟨g, t, i, u, hr⟩ := bd2 hr
   refine .gn G (ca1 (ok0 (bJ n a o g t)) (ca3 (ok0 (bJ n b o i u)))) (.mu 2 (.ca cf0 (.mu 2 (.ca (cfA (fun h => by rw [sv u t (eK n h)]) cf0) (.mu 4 (.done (.nh [0, 1, 5, 7, 8] [.own (c.flatMap iCu)] (.seq ?_))))))))
   obtain ⟨A, B, hr⟩ := gd2 hr
   refine .r0 G (.mu 5 (.e0 (v := .hs 2 0 (c ++ [aa .u32 ((wFu ((wFu (g + i)) + d)).tmod 1000000000)]).length 1) (ws := [(0, .dead), (2, .own ((c ++ [aa .u32 ((wFu ((wFu (g + i)) + d)).tmod 1000000000)]).flatMap iCu))]) (tr (dB (new := [bj (aa .u32 ((wFu ((wFu (g + i)) + d)).tmod 1000000000))]) (l := c) (xs := [aa .u32 ((wFu ((wFu (g + i)) + d)).tmod 1000000000)]) (aG .u32) rfl rfl kRf A B)) (.mu 1 (.done (.nh [0, 1, 5, 7, 8] [.dead, .own [bj (aa .u32 ((wFu ((wFu (g + i)) + d)).tmod 1000000000))], .own ((c ++ [aa .u32 ((wFu ((wFu (g + i)) + d)).tmod 1000000000)]).flatMap iCu)] (.ru G (.pop (.ru G ?_))))))))
   exact av (c ++ [aa .u32 ((wFu ((wFu (g + i)) + d)).tmod 1000000000)], wFu ((wFu ((wFu (g + i)) + d)).tdiv 1000000000), FK (o + 1)) hr ((Wk.gc [0, 1, 5, 6, 7] [(2, false)] rfl (pKo iCu (aD _) (c ++ [aa .u32 ((wFu ((wFu (g + i)) + d)).tmod 1000000000)]) trivial)).to)
  replace hr := ch p hr
  refine .r0 G (.mu 3 (.p0 (v := aB false) (eB p) (.mu 6 (.done (.nh [0, 1, 5, 6, 7, 19] [.own (c.flatMap iCu)] ?_)))))
  refine .cd hr ?_ ?_ <;> intro J hr
  ·refine .skip (.seq (.block (.seq ?_)))
   obtain ⟨j, w, k, y, hr⟩ := bd2 hr
   refine .gn G (ca1 (ok0 (bJ n a o j w)) (ca3 (ok0 (bJ n b o k y)))) (.mu 2 (.ca cf0 (.mu 2 (.ca (cfA (fun h => by rw [sv y w (eK n h)]) cf0) (.mu 4 (.done (.nh [0, 1, 5, 7, 8] [.own (c.flatMap iCu)] (.seq ?_))))))))
   obtain ⟨C, D, hr⟩ := gd2 hr
   refine .r0 G (.mu 5 (.e0 (v := .hs 2 0 (c ++ [aa .u32 ((wFu ((wFu (j + k)) + d)).tmod 1000000000)]).length 1) (ws := [(0, .dead), (2, .own ((c ++ [aa .u32 ((wFu ((wFu (j + k)) + d)).tmod 1000000000)]).flatMap iCu))]) (tr (dB (new := [bj (aa .u32 ((wFu ((wFu (j + k)) + d)).tmod 1000000000))]) (l := c) (xs := [aa .u32 ((wFu ((wFu (j + k)) + d)).tmod 1000000000)]) (aG .u32) rfl rfl kRf C D)) (.mu 1 (.done (.nh [0, 1, 5, 7, 8] [.dead, .own [bj (aa .u32 ((wFu ((wFu (j + k)) + d)).tmod 1000000000))], .own ((c ++ [aa .u32 ((wFu ((wFu (j + k)) + d)).tmod 1000000000)]).flatMap iCu)] (.ru G (.pop (.ru G ?_))))))))
   exact av (c ++ [aa .u32 ((wFu ((wFu (j + k)) + d)).tmod 1000000000)], wFu ((wFu ((wFu (j + k)) + d)).tdiv 1000000000), FK (o + 1)) hr ((Wk.gc [0, 1, 5, 6, 7] [(2, false)] rfl (pKo iCu (aD _) (c ++ [aa .u32 ((wFu ((wFu (j + k)) + d)).tmod 1000000000)]) trivial)).to)
  refine .leave rfl ?_
  obtain rfl := oi hr
  exact ⟨rfl, ((Wk.gc [5, 6] [(0, false)] rfl (pKo iCu (aD _) c trivial)).to)⟩
 rcases z with ⟨f, e⟩
 rintro x st' q
 clear s
 obtain ⟨rfl, q⟩ := q
 refine aW _ rfl (.wk q (.seq ?_))
 obtain ⟨E, F, hr⟩ := gd2 hr
 obtain ⟨H, I, hr⟩ := bd hr
 refine .gn G (ca4 [.dead, .own [bj (aa .u32 e)], .own ((f ++ [aa .u32 e]).flatMap iCu)] (cx (args := [aB false, .hs 2 0 (f ++ [aa .u32 e]).length 1]) (l := [2]) (Sp (SnL.cons (Sn.hs rfl (.inl rfl) (SnC.pure (a7 (aD _) _)) (fun h => bZ h)) SnL.nil)) (aX n false (f ++ [aa .u32 e]) H I))) (.mu 4 (.e0 (v := .hs 2 0 (f ++ [aa .u32 e]).length 1) (ws := [(0, .dead), (2, .own ((f ++ [aa .u32 e]).flatMap iCu))]) (tr (dB (new := [bj (aa .u32 e)]) (l := f) (xs := [aa .u32 e]) (aG .u32) rfl rfl kRf E F)) (.ca cf0 (.mu 2 (.done (.ret ?_))))))
 obtain rfl := oi hr
 exact aK.r1 [az H.Groups]

theorem l5 (n : Nat) (q : ah) (y : ah) (r : ah) (hr : fw n q y = some r) : aO Tryz.prog 116 [.agg (ah.c q), .agg (ah.c y)] (.agg (ah.c r)) := by
 unfold fw at hr
 refine aO.bd G Tryz.func116 [.cell 4 40] ?_
 unfold Tryz.f116
 simp only [gS]
 refine .seq (.r2 G 44 [(2, .hp 0 0), (3, .hp 1 0), (4, .hp 2 0)] [.own (ah.c q), .own (ah.c y), .own [aB false, nS]] (.seq ?_))
 obtain ⟨a, f, b, g, hr⟩ := bd2 hr
 refine .tn G (ca1 (ok0 (bL n q a f)) (ca3 (ok0 (bL n y b g)))) (.mu 1 (.ca cf0 (.mu 1 (.ca (cfA (fun h => by rw [sv g f (fQ n h)]) cf0) (.mu 2 ?_)))))
 refine .done (kRa ?_)
 refine .nh [2, 3, 4] [.own (ah.c a), .own (ah.c b), .own [aB false, nS]] (.seq (.seq (.r4 G [2, 3, 4] [(13, aB (a.Negative == b.Negative))] ?_)))
 refine .cd hr ?_ ?_ <;> intro z hr
 ·refine .seq ?_
  obtain ⟨w, s, t, u, hr⟩ := bd2 hr
  refine .tn G (ca1 (ok0 (pS n a.Groups b.Groups w s)) (ca3 (ok0 (aX n a.Negative w t u)))) (.mu 6 (.ca cf0 (.ca (cfF cf0) (.mu 1 ?_))))
  refine .done (kRa ?_)
  refine .nh [4] [.own (ah.c a), .own (ah.c b), .own (ah.c t)] (.ret ?_)
  obtain rfl := oi hr
  exact aK.r1 [.agg (ah.c t)]
 refine .skip (.seq (.seq ?_))
 obtain ⟨v, i, hr⟩ := bd hr
 refine .g1 G (ok0 (jf n a.Groups b.Groups v i)) (.mu 4 (.ca cf0 (.mu 1 (.done (.nh [2, 3, 4, 27] [.own (ah.c a), .own (ah.c b), .own [aB false, nS]] ?_)))))
 refine .cd hr ?_ ?_ <;> intro x hr
 ·refine .seq ?_
  obtain ⟨j, k, d, l, hr⟩ := bd2 hr
  refine .tn G (ca1 (ok0 (fN n a.Groups b.Groups j k)) (ca3 (ok0 (aX n a.Negative j d l)))) (.mu 6 (.ca cf0 (.ca (cfF cf0) (.mu 1 ?_))))
  refine .done (kRa ?_)
  refine .nh [4] [.own (ah.c a), .own (ah.c b), .own (ah.c d)] (.ret ?_)
  obtain rfl := oi hr
  exact aK.r1 [.agg (ah.c d)]
 refine .skip (.seq ?_)
 obtain ⟨m, o, e, p, hr⟩ := bd2 hr
 refine .tn G (ca1 (ok0 (fN n b.Groups a.Groups m o)) (ca3 (ok0 (aX n b.Negative m e p)))) (.mu 6 (.ca cf0 (.ca (cfF cf0) (.mu 1 ?_))))
 refine .done (kRa ?_)
 refine .nh [4] [.own (ah.c a), .own (ah.c b), .own (ah.c e)] (.ret ?_)
 obtain rfl := oi hr
 exact aK.r1 [.agg (ah.c e)]

theorem fp (n : Nat) (a : ah) (y : ah) (r : ah) (hr : cH n a y = some r) : aO Tryz.prog 151 [.agg (ah.c a), .agg (ah.c y)] (.agg (ah.c r)) := by
 unfold cH at hr
 refine aO.bd G Tryz.func151 [.cell 4 40] ?_
 unfold Tryz.f151
 simp only [gS]
 refine .seq (.r2 G 9 [(2, .hp 0 0), (3, .hp 1 0), (4, .hp 2 0)] [.own (ah.c a), .own (ah.c y), .own [aB false, nS]] (.seq ?_))
 obtain ⟨f, b, d, e, hr⟩ := bd2 hr
 refine .tn G (ca1 (ok0 (jy n y f b)) (ca3 (ok0 (l5 n a f d e)))) (.mu 2 (.ca cf0 (.ca (cfF cf0) (.mu 1 ?_))))
 refine .done (kRa ?_)
 refine .nh [4] [.own (ah.c a), .own (ah.c y), .own (ah.c d)] (.ret ?_)
 obtain rfl := oi hr
 exact aK.r1 [.agg (ah.c d)]

theorem jq (n : Nat) {b : ah} {y : ah} {a : ah} {d : ah} (h : ([.agg (ah.c b), .agg (ah.c y)] : List AV) = [.agg (ah.c a), .agg (ah.c d)]) : bO n b y = bO n a d := by
 obtain ⟨rfl, rfl⟩ := pP h
 rfl
theorem dY (n : Nat) (J : ah) (y : ah) (r : ah) (hr : bO n J y = some r) : aO Tryz.prog 87 [.agg (ah.c J), .agg (ah.c y)] (.agg (ah.c r)) := by
 unfold bO at hr
 refine aO.bd G Tryz.func87 [.cell 4 40] ?_
 unfold Tryz.f87
 simp only [gS]
 refine .seq (.r2 G 85 [(2, .hp 0 0), (3, .hp 1 0), (4, .hp 2 0)] [.own (ah.c J), .own (ah.c y), .own [aB false, nS]] (.seq ?_))
 obtain ⟨i, E, f, F, hr⟩ := bd2 hr
 refine .tn G (ca1 (ok0 (bL n J i E)) (ca3 (ok0 (bL n y f F)))) (.mu 1 (.ca cf0 (.mu 1 (.ca (cfA (fun h => by rw [sv F E (fQ n h)]) cf0) (.mu 2 ?_)))))
 refine .done (kRa ?_)
 refine .nh [2, 3, 4] [.own (ah.c i), .own (ah.c f), .own [aB false, nS]] (.seq ?_)
 obtain ⟨L, M, N, hr⟩ := gd3 hr
 refine .r0 G (.mu 7 (.e0 (v := .hs 3 0 (List.replicate (FK ((i.Groups.length : Int) + (f.Groups.length : Int))).toNat ((0 : Int) : Int)).length 1) (ws := [(3, .own ((List.replicate (FK ((i.Groups.length : Int) + (f.Groups.length : Int))).toNat ((0 : Int) : Int)).flatMap iCu))]) (tr (lT (c := iCu) (z := (0 : Int)) (n := FK ((i.Groups.length : Int) + (f.Groups.length : Int))) (by_ := 4) rfl L M N)) (.mu 1 (.done (.nh [2, 3, 4, 5] [.own (ah.c i), .own (ah.c f), .own [aB false, nS], .own ((List.replicate (FK ((i.Groups.length : Int) + (f.Groups.length : Int))).toNat ((0 : Int) : Int)).flatMap iCu)] (.seq (.seq (.r4 G [2, 3, 4, 5] [(6, ag 0)] (.block ?_)))))))))
 replace hr := bd hr; obtain ⟨o, w, hr⟩ := hr
 refine .aN (σ := fun O => match O with | (q, d) => ⟨mkS 85 0 [(2, .hp 0 0), (3, .hp 1 0), (4, .hp 2 0), (5, .hs 3 0 q.length 1), (6, ag d)], [.own (ah.c i), .own (ah.c f), .own [aB false, nS], .own (q.flatMap iCu)]⟩) (Q := fun x st' => x = .exit 0 /\ Wk 0 st' ⟨mkS 85 0 [(2, .hp 0 0), (3, .hp 1 0), (4, .hp 2 0), (5, .hs 3 0 o.length 1)], [.own (ah.c i), .own (ah.c f), .own [aB false, nS], .own (o.flatMap iCu)]⟩) w ((Wk.gc [2, 3, 4, 5, 6] [(0, true), (1, true), (2, true), (3, false)] rfl (pKt (pKt (pKt (pKo iCu (aD _) (List.replicate (FK ((i.Groups.length : Int) + (f.Groups.length : Int))).toNat ((0 : Int) : Int)) trivial))))).to) ?_ ?_
 ·clear hr
  rintro m ⟨q, d⟩ hr
  refine CQ.sh ?_
  refine .seq (.seq (.r4 G [2, 3, 4, 5, 6] [(26, aB (decide (d < (i.Groups.length : Int))))] ?_))
  refine .cd hr ?_ ?_ <;> intro R hr
  ·refine .skip (.seq (.block (.seq (.r4 G [2, 3, 4, 5, 6] [(7, cU 0)] (.seq (.seq (.r4 G [2, 3, 4, 5, 6, 7] [(8, ag 0)] (.block ?_))))))))
   replace hr := bd hr; obtain ⟨H, A, hr⟩ := hr
   refine .aN (σ := fun O => match O with | (e, g, a) => ⟨mkS 85 0 [(2, .hp 0 0), (3, .hp 1 0), (4, .hp 2 0), (5, .hs 3 0 e.length 1), (6, ag d), (7, cU g), (8, ag a)], [.own (ah.c i), .own (ah.c f), .own [aB false, nS], .own (e.flatMap iCu)]⟩) (Q := fun x st' => match (generalizing := false) H with | (j, k) => x = .exit 2 /\ Wk 0 st' ⟨mkS 85 0 [(2, .hp 0 0), (3, .hp 1 0), (4, .hp 2 0), (5, .hs 3 0 j.length 1), (6, ag d), (7, cU k)], [.own (ah.c i), .own (ah.c f), .own [aB false, nS], .own (j.flatMap iCu)]⟩) A ((Wk.gc [2, 3, 4, 5, 6, 7, 8] [(0, true), (1, true), (2, true), (3, false)] rfl (pKt (pKt (pKt (pKo iCu (aD _) q trivial))))).to) ?_ ?_
   ·clear hr
    rintro m ⟨e, g, a⟩ hr
    refine CQ.sh ?_
    refine .seq (.seq (.r4 G [2, 3, 4, 5, 6, 7, 8] [(33, aB (decide (a < (f.Groups.length : Int))))] ?_))
    refine .cd hr ?_ ?_ <;> intro S hr
    ·refine .skip (.seq (.block (.seq ?_)))
     obtain ⟨p, B, C, hr⟩ := gd3 hr
     refine .dS G bF (.mu 4 (.pk (v := .hp 3 (0 + (FK (d + a)).toNat * 1)) (tr (au p)) (.pk (v := bj (gt e (FK (d + a)))) (tr (aE (aF (aG .u32) (aC p) z1 (by omega : 0 + (FK (d + a)).toNat * 1 = (FK (d + a)).toNat * 1 + 0) kRf))) (.mu 4 (.pk (v := .pp (i.Groups.flatMap iCu) (d.toNat * 1)) (tr (au B)) (.pk (v := bj (gt i.Groups d)) (tr (aE (aF (aG .u32) (aC B) z1 (by omega : d.toNat * 1 = d.toNat * 1 + 0) kRf))) (.mu 4 (.pk (v := .pp (f.Groups.flatMap iCu) (a.toNat * 1)) (tr (au C)) (.pk (v := bj (gt f.Groups a)) (tr (aE (aF (aG .u32) (aC C) z1 (by omega : a.toNat * 1 = a.toNat * 1 + 0) kRf))) (.mu 6 ?_))))))))))
     refine .done (kRa ?_)
     refine .nh [2, 3, 4, 5, 6, 8, 9] [.own (ah.c i), .own (ah.c f), .own [aB false, nS], .own (e.flatMap iCu)] (.seq (.r0 G (.mu 7 (.p0 (v := .hp 3 (0 + (FK (d + a)).toNat * 1)) (tr (au p)) (.e0 (v := .unk) (ws := [(3, .own ((e.set (FK (d + a)).toNat (aa .u32 ((wFu ((wFu ((wFu (gt e (FK (d + a)))) + (wFu ((wFu (gt i.Groups d)) * (wFu (gt f.Groups a)))))) + g)).tmod 1000000000))).flatMap iCu))]) (tr (jC (jA (cD (n := 1) (aG .u32) (aC p) (lbT rfl) (by omega : 0 + (FK (d + a)).toNat * 1 = (FK (d + a)).toNat * 1 + 0))) (congrArg Blk.own (c9 (xs := [bj (aa .u32 ((wFu ((wFu ((wFu (gt e (FK (d + a)))) + (wFu ((wFu (gt i.Groups d)) * (wFu (gt f.Groups a)))))) + g)).tmod 1000000000))]) (aG .u32) (aC p) (lbT rfl) (by omega : 0 + (FK (d + a)).toNat * 1 = (FK (d + a)).toNat * 1 + 0) kRf)))) (.done (.nh [2, 3, 4, 5, 6, 8, 9] [.own (ah.c i), .own (ah.c f), .own [aB false, nS], .own ((e.set (FK (d + a)).toNat (aa .u32 ((wFu ((wFu ((wFu (gt e (FK (d + a)))) + (wFu ((wFu (gt i.Groups d)) * (wFu (gt f.Groups a)))))) + g)).tmod 1000000000))).flatMap iCu)] (.ru G (.pop (.ru G ?_))))))))))
     exact av (e.set (FK (d + a)).toNat (aa .u32 ((wFu ((wFu ((wFu (gt e (FK (d + a)))) + (wFu ((wFu (gt i.Groups d)) * (wFu (gt f.Groups a)))))) + g)).tmod 1000000000)), wFu ((wFu ((wFu ((wFu (gt e (FK (d + a)))) + (wFu ((wFu (gt i.Groups d)) * (wFu (gt f.Groups a)))))) + g)).tdiv 1000000000), FK (a + 1)) hr ((Wk.jl 5 (b := 3) (es := 1) (len := e.length) (e.set (FK (d + a)).toNat (aa .u32 ((wFu ((wFu ((wFu (gt e (FK (d + a)))) + (wFu ((wFu (gt i.Groups d)) * (wFu (gt f.Groups a)))))) + g)).tmod 1000000000))).length kRf (Eq.symm (List.length_set.trans rfl))).trans ((Wk.gc [2, 3, 4, 5, 6, 7, 8] [(0, true), (1, true), (2, true), (3, false)] rfl (pKt (pKt (pKt (pKo iCu (aD _) (e.set (FK (d + a)).toNat (aa .u32 ((wFu ((wFu ((wFu (gt e (FK (d + a)))) + (wFu ((wFu (gt i.Groups d)) * (wFu (gt f.Groups a)))))) + g)).tmod 1000000000))) trivial))))).to))
    refine .leave rfl ?_
    obtain rfl := oi hr
    exact ⟨rfl, ((Wk.gc [2, 3, 4, 5, 6, 7] [(0, true), (1, true), (2, true), (3, false)] rfl (pKt (pKt (pKt (pKo iCu (aD _) e trivial))))).to)⟩
   rcases H with ⟨j, k⟩
   rintro x st' s
   clear A
   obtain ⟨rfl, s⟩ := s
   refine aW _ rfl (.wk s ?_)
   obtain ⟨t, hr⟩ := gd hr
   refine .r0 G (.mu 8 (.p0 (v := .hp 3 (0 + (FK (d + (f.Groups.length : Int))).toNat * 1)) (tr (au t)) (.e0 (v := .unk) (ws := [(3, .own ((j.set (FK (d + (f.Groups.length : Int))).toNat (aa .u32 k)).flatMap iCu))]) (tr (jC (jA (cD (n := 1) (aG .u32) (aC t) (lbT rfl) (by omega : 0 + (FK (d + (f.Groups.length : Int))).toNat * 1 = (FK (d + (f.Groups.length : Int))).toNat * 1 + 0))) (congrArg Blk.own (c9 (xs := [bj (aa .u32 k)]) (aG .u32) (aC t) (lbT rfl) (by omega : 0 + (FK (d + (f.Groups.length : Int))).toNat * 1 = (FK (d + (f.Groups.length : Int))).toNat * 1 + 0) kRf)))) (.done (.pop (.ru G ?_))))))
   exact av (j.set (FK (d + (f.Groups.length : Int))).toNat (aa .u32 k), FK (d + 1)) hr ((Wk.jl 5 (b := 3) (es := 1) (len := j.length) (j.set (FK (d + (f.Groups.length : Int))).toNat (aa .u32 k)).length kRf (Eq.symm (List.length_set.trans rfl))).trans ((Wk.gc [2, 3, 4, 5, 6] [(0, true), (1, true), (2, true), (3, false)] rfl (pKt (pKt (pKt (pKo iCu (aD _) (j.set (FK (d + (f.Groups.length : Int))).toNat (aa .u32 k)) trivial))))).to))
  refine .leave rfl ?_
  obtain rfl := oi hr
  exact ⟨rfl, ((Wk.gc [2, 3, 4, 5] [(0, true), (1, true), (2, true), (3, false)] rfl (pKt (pKt (pKt (pKo iCu (aD _) q trivial))))).to)⟩
 rintro x st' u
 clear w
 obtain ⟨rfl, u⟩ := u
 refine aW _ rfl (.wk u (.seq ?_))
 obtain ⟨D, I, hr⟩ := bd hr
 refine .g1 G (cx (args := [aB (i.Negative != f.Negative), .hs 3 0 o.length 1]) (l := [3]) (Sp (SnL.cons (Sn.hs rfl (.inl rfl) (SnC.pure (a7 (aD _) _)) (fun h => bZ h)) SnL.nil)) (aX n (i.Negative != f.Negative) o D I)) (.mu 6 (.ca cf0 (.mu 1 (.done (.nh [4] [.own (ah.c i), .own (ah.c f), .own (ah.c D), .fix (o.flatMap iCu)] (.ret ?_))))))
 obtain rfl := oi hr
 exact aK.r1 [.agg (ah.c D)]

theorem ft (n : Nat) (C : ah) (y : ah) (r : ah × ah × Int) (hr : cK n C y = some r) : aO Tryz.prog 127 [.agg (ah.c C), .agg (ah.c y)] (.tup [.agg (ah.c r.1), .agg (ah.c r.2.1), ag r.2.2]) := by
 unfold cK at hr
 refine aO.bd G Tryz.func127 [.cell 4 40, .cell 5 40, .tmp 6] ?_
 unfold Tryz.f127
 simp only [gS]
 refine .seq (.r2 G 54 [(2, .hp 0 0), (3, .hp 1 0), (4, .hp 2 0), (5, .hp 3 0)] [.own (ah.c C), .own (ah.c y), .own [aB false, nS], .own [aB false, nS]] (.seq ?_))
 obtain ⟨d, k, a, l, hr⟩ := bd2 hr
 refine .tn G (ca1 (ok0 (bL n C d k)) (ca3 (ok0 (bL n y a l)))) (.mu 1 (.ca cf0 (.mu 1 (.ca (cfA (fun h => by rw [sv l k (fQ n h)]) cf0) (.mu 2 ?_)))))
 refine .done (kRa ?_)
 refine .nh [2, 3, 4, 5] [.own (ah.c d), .own (ah.c a), .own [aB false, nS], .own [aB false, nS]] (.seq (.seq (.r4 G [2, 3, 4, 5] [(17, aB (((a.Groups.length : Int) : Int) == 0))] ?_)))
 refine .cd hr ?_ ?_ <;> intro I hr
 ·refine .seq (.r4 G [4, 5] [(6, ag 14)] (.ret ?_))
  obtain rfl := oi hr
  exact aK.ret (vs := [.agg [aB false, nS], .agg [aB false, nS], ag 14]) kRf (Sn.tup (SnL.cons (Sn.agg (Sp (SnL.cons Sn.gh SnL.nil))) (SnL.cons (Sn.agg (Sp (SnL.cons Sn.gh SnL.nil))) (Sp SnL.nil))))
 refine .skip (.seq ?_)
 obtain ⟨F, D, hr⟩ := bd hr
 refine .g1 G (ok0 (iH n d.Groups a.Groups F D)) (.mu 4 (.ca cf0 (.mu 5 (.done (.nh [2, 3, 4, 5, 7, 8] [.own (ah.c d), .own (ah.c a), .own [aB false, nS], .own [aB false, nS]] (.seq ?_))))))
 obtain ⟨e, E, hr⟩ := bd hr
 refine .g1 G (ok0 (aX n (d.Negative != a.Negative) F.1 e E)) (.mu 6 (.ca cf0 (.mu 2 (.done (.nh [2, 3, 4, 5, 8, 9] [.own (ah.c d), .own (ah.c a), .own [aB false, nS], .own [aB false, nS], .own (ah.c e)] (.seq (.seq ?_)))))))
 rcases bT (d.Negative != a.Negative) with b | b
 ·replace hr := cg b hr
  refine .r0 G (.mu 4 (.p0 (v := aB true) (eB b) (.mu 5 (.done (.nh [2, 3, 4, 5, 9, 44] [.own (ah.c d), .own (ah.c a), .own [aB false, nS], .own [aB false, nS], .own (ah.c e)] ?_)))))
  refine .cd hr ?_ ?_ <;> intro H hr
  ·obtain ⟨m, o, f, p, hr⟩ := bd2 hr
   refine .tn G (ca1 (ok0 (mB n 1 m o)) (ca3 (ok0 (fp n e m f p)))) (.mu 1 (.ca cf0 (.ca (cfF cf0) (.mu 1 ?_))))
   refine .done (kRa ?_)
   refine .nh [2, 3, 4, 5, 9] [.own (ah.c d), .own (ah.c a), .own [aB false, nS], .own [aB false, nS], .own (ah.c f)] (.seq ?_)
   obtain ⟨q, s, g, t, hr⟩ := bd2 hr
   refine .tn G (ca1 (ok0 (dY n f a q s)) (ca3 (ok0 (fp n d q g t)))) (.mu 4 (.ca cf0 (.ca (cfF cf0) (.mu 3 ?_))))
   refine .done (kRa ?_)
   refine .nh [4, 5, 6] [.own (ah.c d), .own (ah.c a), .own (ah.c f), .own (ah.c g), .own (ah.c f)] (.ret ?_)
   obtain rfl := oi hr
   exact aK.ret (vs := [.agg (ah.c f), .agg (ah.c g), ag 0]) kRf (Sn.tup (Sp (Sp (Sp SnL.nil))))
  refine .skip (.seq ?_)
  obtain ⟨u, w, i, x, hr⟩ := bd2 hr
  refine .tn G (ca1 (ok0 (dY n e a u w)) (ca3 (ok0 (fp n d u i x)))) (.mu 4 (.ca cf0 (.ca (cfF cf0) (.mu 3 ?_))))
  refine .done (kRa ?_)
  refine .nh [4, 5, 6] [.own (ah.c d), .own (ah.c a), .own (ah.c e), .own (ah.c i), .own (ah.c e)] (.ret ?_)
  obtain rfl := oi hr
  exact aK.ret (vs := [.agg (ah.c e), .agg (ah.c i), ag 0]) kRf (Sn.tup (Sp (Sp (Sp SnL.nil))))
 replace hr := ch b hr
 refine .r0 G (.mu 4 (.p0 (v := aB false) (eB b) (.mu 5 (.done (.nh [2, 3, 4, 5, 9, 44] [.own (ah.c d), .own (ah.c a), .own [aB false, nS], .own [aB false, nS], .own (ah.c e)] (.cF kRf (.skip (.seq ?_))))))))
 obtain ⟨z, A, j, B, hr⟩ := bd2 hr
 refine .tn G (ca1 (ok0 (dY n e a z A)) (ca3 (ok0 (fp n d z j B)))) (.mu 4 (.ca cf0 (.ca (cfF cf0) (.mu 3 ?_))))
 refine .done (kRa ?_)
 refine .nh [4, 5, 6] [.own (ah.c d), .own (ah.c a), .own (ah.c e), .own (ah.c j), .own (ah.c e)] (.ret ?_)
 obtain rfl := oi hr
 exact aK.ret (vs := [.agg (ah.c e), .agg (ah.c j), ag 0]) kRf (Sn.tup (Sp (Sp (Sp SnL.nil))))

theorem jY (n : Nat) (num : ah) (den : ah) (r : ak) (hr : dI n num den = some r) : aO Tryz.prog 86 [.agg (ah.c num), .agg (ah.c den)] (.agg (ak.c r)) := by
 unfold dI at hr
 refine aO.bd G Tryz.func86 [.cell 4 42] ?_
 unfold Tryz.f86
 simp only [gS]
 refine .seq (.r2 G 37 [(2, .hp 0 0), (3, .hp 1 0), (4, .hp 2 0)] [.own (ah.c num), .own (ah.c den), .own zN2] (.seq ?_))
 obtain ⟨f, k, hr⟩ := bd hr
 refine .g1 G (ok0 (l7 n num den f k)) (.mu 2 (.ca cf0 (.mu 2 (.done (.nh [2, 3, 4, 5] [.own (ah.c num), .own (ah.c den), .own zN2, .own (ah.c f)] (.seq (.seq ?_)))))))
 obtain ⟨p, l, hr⟩ := bd hr
 refine .g1 G (ok0 (eX n den p l)) (.mu 1 (.ca cf0 (.mu 1 (.done (.nh [2, 3, 4, 5, 17] [.own (ah.c num), .own (ah.c den), .own zN2, .own (ah.c f)] ?_)))))
 refine .cd hr ?_ ?_ <;> intro q hr
 ·obtain ⟨g, m, hr⟩ := bd hr
  refine .g1 G (ok0 (jy n f g m)) (.mu 1 (.ca cf0 (.mu 1 (.done (.nh [2, 3, 4, 5] [.own (ah.c num), .own (ah.c den), .own zN2, .own (ah.c g)] (.seq ?_))))))
  obtain ⟨e, o, hr⟩ := bd hr
  refine .g1 G (ok0 (ft n num g e o)) (.mu 2 (.ca cf0 (.mu 9 (.done (.nh [3, 4, 5, 6] [.own (ah.c num), .own (ah.c den), .own zN2, .own (ah.c g), .own (ah.c e.1), .own (ah.c e.2.1)] (.seq ?_))))))
  obtain ⟨b, h, hr⟩ := bd hr
  refine .g1 G (ok0 (ft n den g b h)) (.mu 2 (.ca cf0 (.mu 9 (.done (.nh [4, 6, 9] [.own (ah.c num), .own (ah.c den), .own zN2, .own (ah.c g), .own (ah.c e.1), .own (ah.c e.2.1), .own (ah.c b.1), .own (ah.c b.2.1)] (.seq (.r5 G [4] [] [.own (ah.c num), .own (ah.c den), .own [aB e.1.Negative, az e.1.Groups, aB b.1.Negative, az b.1.Groups], .own (ah.c g), .own (ah.c e.1), .own (ah.c e.2.1), .own (ah.c b.1), .own (ah.c b.2.1)] (.ret ?_))))))))
  obtain rfl := oi hr
  exact aK.r1 [.agg [aB e.1.Negative, az e.1.Groups, aB b.1.Negative, az b.1.Groups]]
 refine .skip (.seq ?_)
 obtain ⟨a, i, hr⟩ := bd hr
 refine .g1 G (ok0 (ft n num f a i)) (.mu 2 (.ca cf0 (.mu 9 (.done (.nh [3, 4, 5, 6] [.own (ah.c num), .own (ah.c den), .own zN2, .own (ah.c f), .own (ah.c a.1), .own (ah.c a.2.1)] (.seq ?_))))))
 obtain ⟨d, j, hr⟩ := bd hr
 refine .g1 G (ok0 (ft n den f d j)) (.mu 2 (.ca cf0 (.mu 9 (.done (.nh [4, 6, 9] [.own (ah.c num), .own (ah.c den), .own zN2, .own (ah.c f), .own (ah.c a.1), .own (ah.c a.2.1), .own (ah.c d.1), .own (ah.c d.2.1)] (.seq (.r5 G [4] [] [.own (ah.c num), .own (ah.c den), .own [aB a.1.Negative, az a.1.Groups, aB d.1.Negative, az d.1.Groups], .own (ah.c f), .own (ah.c a.1), .own (ah.c a.2.1), .own (ah.c d.1), .own (ah.c d.2.1)] (.ret ?_))))))))
 obtain rfl := oi hr
 exact aK.r1 [.agg [aB a.1.Negative, az a.1.Groups, aB d.1.Negative, az d.1.Groups]]

theorem qj (n : Nat) (num : ah) (den : ah) (r : ak × Int) (hr : jn n num den = some r) : aO Tryz.prog 82 [.agg (ah.c num), .agg (ah.c den)] (.tup [.agg (ak.c r.1), ag r.2]) := by
 unfold jn at hr
 refine aO.bd G Tryz.func82 [.cell 4 42, .tmp 5] ?_
 unfold Tryz.f82
 simp only [gS]
 refine .seq (.r2 G 13 [(2, .hp 0 0), (3, .hp 1 0), (4, .hp 2 0)] [.own (ah.c num), .own (ah.c den), .own zN2] (.seq (.seq ?_)))
 obtain ⟨e, a, hr⟩ := bd hr
 refine .g1 G (ok0 (eX n den e a)) (.mu 1 (.ca cf0 (.mu 1 (.done (.nh [2, 3, 4, 8] [.own (ah.c num), .own (ah.c den), .own zN2] ?_)))))
 refine .cd hr ?_ ?_ <;> intro f hr
 ·refine .seq (.r4 G [4] [(5, ag 14)] (.ret ?_))
  obtain rfl := oi hr
  exact aK.ret (vs := [.agg zN2, ag 14]) kRf (Sn.tup (SnL.cons (Sn.agg (Sp (SnL.cons Sn.gh (Sp (SnL.cons Sn.gh SnL.nil))))) (Sp SnL.nil)))
 refine .skip (.seq ?_)
 obtain ⟨b, d, hr⟩ := bd hr
 refine .g1 G (ok0 (jY n num den b d)) (.mu 2 (.ca cf0 (.mu 2 (.done (.nh [4, 5] [.own (ah.c num), .own (ah.c den), .own (ak.c b)] (.ret ?_))))))
 obtain rfl := oi hr
 exact aK.ret (vs := [.agg (ak.c b), ag 0]) kRf (Sn.tup (Sp (Sp SnL.nil)))

theorem mz (n : Nat) (f : Int) (d : Int) (r : ak × Int) (hr : fW n f d = some r) : aO Tryz.prog 36 [ag f, ag d] (.tup [.agg (ak.c r.1), ag r.2]) := by
 unfold fW at hr
 refine aO.bd G Tryz.func36 [.cell 4 42, .tmp 5] ?_
 unfold Tryz.f36
 simp only [gS]
 refine .seq (.r5 G [0, 1] [(4, .hp 0 0)] [.own zN2] (.seq ?_))
 obtain ⟨i, a, j, b, e, g, hr⟩ := bd3 hr
 refine .gn G (ca1 (ok0 (eJ n f i a)) (ca1 (ok0 (eJ n d j b)) (ca3 (ok0 (qj n i j e g))))) (.mu 1 (.ca cf0 (.mu 1 (.ca (cfA (fun h => by rw [sv b a (kH n h)]) cf0) (.ca (cfF (cfF cf0)) (.mu 4 (.done (.nh [4, 5] [.own (ak.c e.1)] (.ret ?_)))))))))
 obtain rfl := oi hr
 exact aK.ret (vs := [.agg (ak.c e.1), ag e.2]) kRf (Sn.tup (Sp (Sp SnL.nil)))

theorem nU (n : Nat) (a : ah) (y : ah) (r : Int) (hr : eZ n a y = some r) : aO Tryz.prog 114 [.agg (ah.c a), .agg (ah.c y)] (ag r) := by
 unfold eZ at hr
 refine aO.bd G Tryz.func114 [.tmp 4] ?_
 unfold Tryz.f114
 simp only [gS]
 refine .seq (.r2 G 9 [(2, .hp 0 0), (3, .hp 1 0)] [.own (ah.c a), .own (ah.c y)] (.seq ?_))
 obtain ⟨e, b, f, d, hr⟩ := bd2 hr
 refine .gn G (ca1 (ok0 (fp n a y e b)) (ca3 (ok0 (eX n e f d)))) (.mu 2 (.ca cf0 (.ca (cfF cf0) (.mu 1 (.done (.ret ?_))))))
 obtain rfl := oi hr
 exact aK.r1 [ag f]

theorem kA (n : Nat) {b : ak} {a : ak} (h : ([.agg (ak.c b)] : List AV) = [.agg (ak.c a)]) : cB n b = cB n a := by
 obtain rfl := iK h
 rfl
theorem dw (n : Nat) (a : ak) (r : Bool) (hr : cB n a = some r) : aO Tryz.prog 69 [.agg (ak.c a)] (aB r) := by
 unfold cB at hr
 refine aO.bd G Tryz.func69 [.tmp 2] ?_
 unfold Tryz.f69
 simp only [gS]
 refine .seq (.r2 G 27 [(1, .hp 0 0)] [.own (ak.c a)] (.seq (.seq ?_)))
 obtain ⟨o, d, hr⟩ := bd hr
 rcases bT (!o) with b | b
 ·replace hr := cg b hr
  refine .g1 G (ok0 (dm n a.Num o d)) (.mu 2 (.ca cf0 (.p0 (v := aB true) (eB b) (.mu 12 (.done (.nh [1, 18] [.own (ak.c a)] (.cT kRf (.seq (.ru G (.ret ?_))))))))))
  obtain rfl := oi hr
  exact aK.r1 [aB false]
 replace hr := ch b hr
 obtain ⟨p, f, hr⟩ := bd hr
 rcases bT (!p) with e | e
 ·replace hr := cg e hr
  refine .gn G (ca1 (ok0 (dm n a.Num o d)) (ca3 (ok0 (dm n a.Den p f)))) (.mu 2 (.ca cf0 (.p0 (v := aB false) (eB b) (.mu 3 (.ca (cfA (fun h => by rw [sv f d (kE n h)]) cf0) (.pure (v := aB true) kRf (eB e) (.mu 7 (.done (.nh [1, 18] [.own (ak.c a)] (.cT kRf (.seq (.ru G (.ret ?_)))))))))))))
  obtain rfl := oi hr
  exact aK.r1 [aB false]
 replace hr := ch e hr
 obtain ⟨s, q, hr⟩ := bd hr
 refine .gn G (ca1 (ok0 (dm n a.Num o d)) (ca1 (ok0 (dm n a.Den p f)) (ca3 (ok0 (eX n a.Den s q))))) (.mu 2 (.ca cf0 (.p0 (v := aB false) (eB b) (.mu 3 (.ca (cfA (fun h => by rw [sv f d (kE n h)]) cf0) (.pure (v := aB false) kRf (eB e) (.mu 4 (.ca (cfF (cfF cf0)) (.mu 2 (.done (.nh [1, 18] [.own (ak.c a)] ?_)))))))))))
 refine .cd hr ?_ ?_ <;> intro t hr
 ·refine .seq (.ru G (.ret ?_))
  obtain rfl := oi hr
  exact aK.r1 [aB false]
 refine .skip (.seq ?_)
 obtain ⟨g, i, j, k, l, m, hr⟩ := bd3 hr
 refine .gn G (ca1 (ok0 (l7 n a.Num a.Den g i)) (ca1 (ok0 (eJ n 1 j k)) (ca3 (ok0 (nU n g j l m))))) (.mu 4 (.ca cf0 (.ca (cfF cf0) (.ca (cfF (cfF cf0)) (.mu 2 (.done (.ret ?_)))))))
 obtain rfl := oi hr
 exact aK.r1 [aB ((l : Int) == 0)]

theorem po (n : Nat) (f : Int) (r : ak) (hr : jT n f = some r) : aO Tryz.prog 65 [ag f] (.agg (ak.c r)) := by
 unfold jT at hr
 refine aO.bd G Tryz.func65 [.cell 2 42] ?_
 unfold Tryz.f65
 simp only [gS]
 refine .seq (.r5 G [0] [(2, .hp 0 0)] [.own zN2] (.seq ?_))
 obtain ⟨a, b, d, e, hr⟩ := bd2 hr
 refine .gn G (ca1 (ok0 (eJ n f a b)) (ca3 (ok0 (eJ n 1 d e)))) (.mu 1 (.ca cf0 (.ca (cfA (fun h => by rw [sv e b (kH n h)]) cf0) (.mu 2 (.done (.nh [2] [.own [aB a.Negative, az a.Groups, aB d.Negative, az d.Groups]] (.ret ?_)))))))
 obtain rfl := oi hr
 exact aK.r1 [.agg [aB a.Negative, az a.Groups, aB d.Negative, az d.Groups]]

theorem fM (n : Nat) (a : ak) (r : ak) (hr : cW n a = some r) : aO Tryz.prog 85 [.agg (ak.c a)] (.agg (ak.c r)) := by
 unfold cW at hr
 refine aO.bd G Tryz.func85 [.cell 2 42] ?_
 unfold Tryz.f85
 simp only [gS]
 refine .seq (.r2 G 7 [(1, .hp 0 0), (2, .hp 1 0)] [.own (ak.c a), .own zN2] (.seq (.seq ?_)))
 obtain ⟨f, b, hr⟩ := bd hr
 refine .g1 G (ok0 (dw n a f b)) (.mu 1 (.ca cf0 (.done (.nh [1, 2, 4] [.own (ak.c a), .own zN2] ?_))))
 refine .cd hr ?_ ?_ <;> intro g hr
 ·refine .seq (.r5 G [2] [] [.own (ak.c a), .own (ak.c a)] (.ret ?_))
  obtain rfl := oi hr
  exact aK.r1 [.agg (ak.c a)]
 refine .skip (.seq ?_)
 obtain ⟨d, e, hr⟩ := bd hr
 refine .g1 G (ok0 (po n 0 d e)) (.ca cf0 (.mu 1 (.done (.nh [2] [.own (ak.c a), .own (ak.c d)] (.ret ?_)))))
 obtain rfl := oi hr
 exact aK.r1 [.agg (ak.c d)]

theorem qE (n : Nat) (b : ak) (r : ak) (hr : gG n b = some r) : aO Tryz.prog 84 [.agg (ak.c b)] (.agg (ak.c r)) := by
 unfold gG at hr
 refine aO.bd G Tryz.func84 [.cell 2 42] ?_
 unfold Tryz.f84
 simp only [gS]
 refine .seq (.r2 G 12 [(1, .hp 0 0), (2, .hp 1 0)] [.own (ak.c b), .own zN2] (.seq ?_))
 obtain ⟨a, e, hr⟩ := bd hr
 refine .g1 G (ok0 (fM n b a e)) (.mu 1 (.ca cf0 (.mu 2 (.done (.nh [2, 3] [.own (ak.c b), .own zN2, .own (ak.c a)] (.seq ?_))))))
 obtain ⟨d, f, hr⟩ := bd hr
 refine .t1 G (ok0 (jy n a.Num d f)) (.mu 2 (.ca cf0 (.mu 4 ?_)))
 refine .done (kRa ?_)
 refine .nh [2] [.own (ak.c b), .own [aB d.Negative, az d.Groups, aB a.Den.Negative, az a.Den.Groups], .own (ak.c a)] (.ret ?_)
 obtain rfl := oi hr
 exact aK.r1 [.agg [aB d.Negative, az d.Groups, aB a.Den.Negative, az a.Den.Groups]]

theorem qk (n : Nat) (b : ak) (y : ak) (r : ak) (hr : gI n b y = some r) : aO Tryz.prog 71 [.agg (ak.c b), .agg (ak.c y)] (.agg (ak.c r)) := by
 unfold gI at hr
 refine aO.bd G Tryz.func71 [.cell 4 42] ?_
 unfold Tryz.f71
 simp only [gS]
 refine .seq (.r2 G 28 [(2, .hp 0 0), (3, .hp 1 0), (4, .hp 2 0)] [.own (ak.c b), .own (ak.c y), .own zN2] (.seq ?_))
 obtain ⟨d, m, hr⟩ := bd hr
 refine .g1 G (ok0 (fM n b d m)) (.mu 1 (.ca cf0 (.mu 2 (.done (.nh [3, 4, 5] [.own (ak.c b), .own (ak.c y), .own zN2, .own (ak.c d)] (.seq ?_))))))
 obtain ⟨i, o, hr⟩ := bd hr
 refine .g1 G (ok0 (fM n y i o)) (.mu 1 (.ca cf0 (.mu 2 (.done (.nh [4, 5, 6] [.own (ak.c b), .own (ak.c y), .own zN2, .own (ak.c d), .own (ak.c i)] (.seq ?_))))))
 obtain ⟨p, e, q, f, s, j, hr⟩ := bd3 hr
 obtain ⟨k, a, g, l, hr⟩ := bd2 hr
 refine .tn G (ca1 (ok0 (dY n d.Num i.Den p e)) (ca1 (ok0 (dY n i.Num d.Den q f)) (ca1 (ok0 (l5 n p q s j)) (ca1 (ok0 (dY n d.Den i.Den k a)) (ca3 (ok0 (jY n s k g l))))))) (.mu 4 (.ca cf0 (.mu 4 (.ca (cfA (fun h => by rw [sv f e (jq n h)]) cf0) (.ca (cfF (cfF cf0)) (.mu 4 (.ca (cfA (fun h => by rw [sv a e (jq n h)]) (cfA (fun h => by rw [sv a f (jq n h)]) (cfF cf0))) (.ca (cfF (cfF (cfF (cfF cf0)))) (.mu 1 ?_)))))))))
 refine .done (kRa ?_)
 refine .nh [4] [.own (ak.c b), .own (ak.c y), .own (ak.c g), .own (ak.c d), .own (ak.c i)] (.ret ?_)
 obtain rfl := oi hr
 exact aK.r1 [.agg (ak.c g)]

theorem p7 (n : Nat) (a : ak) (y : ak) (r : ak) (hr : gF n a y = some r) : aO Tryz.prog 37 [.agg (ak.c a), .agg (ak.c y)] (.agg (ak.c r)) := by
 unfold gF at hr
 refine aO.bd G Tryz.func37 [.cell 4 42] ?_
 unfold Tryz.f37
 simp only [gS]
 refine .seq (.r2 G 9 [(2, .hp 0 0), (3, .hp 1 0), (4, .hp 2 0)] [.own (ak.c a), .own (ak.c y), .own zN2] (.seq ?_))
 obtain ⟨f, b, d, e, hr⟩ := bd2 hr
 refine .tn G (ca1 (ok0 (qE n y f b)) (ca3 (ok0 (qk n a f d e)))) (.mu 2 (.ca cf0 (.ca (cfF cf0) (.mu 1 ?_))))
 refine .done (kRa ?_)
 refine .nh [4] [.own (ak.c a), .own (ak.c y), .own (ak.c d)] (.ret ?_)
 obtain rfl := oi hr
 exact aK.r1 [.agg (ak.c d)]

theorem pV (n : Nat) (a : ak) (r : Int) (hr : ga n a = some r) : aO Tryz.prog 70 [.agg (ak.c a)] (ag r) := by
 unfold ga at hr
 refine aO.bd G Tryz.func70 [.tmp 2] ?_
 unfold Tryz.f70
 simp only [gS]
 refine .seq (.r2 G 7 [(1, .hp 0 0)] [.own (ak.c a)] (.seq ?_))
 obtain ⟨e, b, f, d, hr⟩ := bd2 hr
 refine .gn G (ca1 (ok0 (fM n a e b)) (ca3 (ok0 (eX n e.Num f d)))) (.mu 1 (.ca cf0 (.mu 1 (.ca (cfF cf0) (.mu 1 (.done (.ret ?_)))))))
 obtain rfl := oi hr
 exact aK.r1 [ag f]

theorem nZ (n : Nat) (a : ak) (y : ak) (r : Int) (hr : eW n a y = some r) : aO Tryz.prog 38 [.agg (ak.c a), .agg (ak.c y)] (ag r) := by
 unfold eW at hr
 refine aO.bd G Tryz.func38 [.tmp 4] ?_
 unfold Tryz.f38
 simp only [gS]
 refine .seq (.r2 G 9 [(2, .hp 0 0), (3, .hp 1 0)] [.own (ak.c a), .own (ak.c y)] (.seq ?_))
 obtain ⟨e, b, f, d, hr⟩ := bd2 hr
 refine .gn G (ca1 (ok0 (p7 n a y e b)) (ca3 (ok0 (pV n e f d)))) (.mu 2 (.ca cf0 (.ca (cfF cf0) (.mu 1 (.done (.ret ?_))))))
 obtain rfl := oi hr
 exact aK.r1 [ag f]

theorem jg (n : Nat) (d : ak) (y : ak) (r : Bool) (hr : e8 n d y = some r) : aO Tryz.prog 32 [.agg (ak.c d), .agg (ak.c y)] (aB r) := by
 unfold e8 at hr
 refine aO.bd G Tryz.func32 [.tmp 4] ?_
 unfold Tryz.f32
 simp only [gS]
 refine .seq (.r2 G 17 [(2, .hp 0 0), (3, .hp 1 0)] [.own (ak.c d), .own (ak.c y)] (.seq ?_))
 obtain ⟨j, a, hr⟩ := bd hr
 rcases bT j with e | e
 ·subst e
  replace hr := cg rfl hr
  obtain ⟨k, b, hr⟩ := bd hr
  rcases bT k with f | f
  ·subst f
   replace hr := cg rfl hr
   obtain ⟨i, g, hr⟩ := bd hr
   refine .gn G (ca1 (ok0 (dw n d true a)) (ca1 (ok0 (dw n y true b)) (ca3 (ok0 (nZ n d y i g))))) (.mu 1 (.ca cf0 (.mu 2 (.ca (cfA (fun h => by rw [sv b a (kA n h)]) cf0) (.mu 4 (.ca (cfF (cfF cf0)) (.mu 3 (.done (.ret ?_)))))))))
   obtain rfl := oi hr
   exact aK.r1 [aB ((i : Int) == 0)]
  subst f
  replace hr := ch rfl hr
  refine .gn G (ca1 (ok0 (dw n d true a)) (ca3 (ok0 (dw n y false b)))) (.mu 1 (.ca cf0 (.mu 2 (.ca (cfA (fun h => by rw [sv b a (kA n h)]) cf0) (.mu 8 (.done (.ret ?_)))))))
  obtain rfl := oi hr
  exact aK.r1 [aB false]
 subst e
 replace hr := ch rfl hr
 refine .g1 G (ok0 (dw n d false a)) (.mu 1 (.ca cf0 (.mu 11 (.done (.ret ?_)))))
 obtain rfl := oi hr
 exact aK.r1 [aB false]

theorem eV (n : Nat) (a : Int) (r : List ai) (hr : bM n a = some r) : dK 0 Tryz.prog 131 [nS, ag a] [] (.hs 0 0 r.length 6) [.own (r.flatMap ai.c)] := by
 unfold bM at hr
 refine dK.qf G Tryz.func131 (c := (Tryz.f131.body).getD .skip) rfl (us := [.hs 0 0 r.length 6]) (s := mkS 27 0 [(0, nS), (1, ag a)]) kRf (rs := [.tmp 4]) rfl ?_
 unfold Tryz.f131
 simp only [gS]
 refine .seq (.r4 G [0, 1] [] (.seq (.seq (.r4 G [0, 1] [(6, aB (decide (a < 0)))] ?_))))
 obtain ⟨g, hr⟩ := gdn hr
 refine .cN g (.skip (.seq (.seq (.r4 G [0] [(1, ag (FK (a - 0)))] (.seq (.r4 G [0, 1] [(16, aB (decide ((FK (a - 0)) > 0)))] ?_))))))
 refine .cd hr ?_ ?_ <;> intro h hr
 ·obtain ⟨b, d, e, hr⟩ := gd3 hr
  obtain ⟨f, hr⟩ := gd hr
  refine .r0 G (.mu 5 (.e0 (v := .hs 0 0 (FK (a - 0)).toNat 6) (ws := [(0, .own (dL [ag 0, ag 0, aB false, nS, aB false, nS] (FK (a - 0)).toNat))]) (tr (y := og (decide (0 < (FK (a - 0))) && decide ((FK (a - 0)) <= 4611686018427387904) && decide ((FK (a - 0)).toNat * 80 <= 140737488355328) && true && true && true) (some (.eff (.hs 0 0 (FK (a - 0)).toNat 6) [(0, .own (dL [ag 0, ag 0, aB false, nS, aB false, nS] (FK (a - 0)).toNat))]))) (Br b d e)) (.mu 2 (.p0 (v := .hs 0 0 (0 : Int).toNat 6) (tr (y := slH (inS 0 0 (FK (a - 0)).toNat) true ((0 : Int).toNat) ((0 : Int).toNat) (fun z1 i => .hs 0 (0 + z1 * 6) (i - z1) 6)) (Cb f kRf)) (.mu 1 (.done (.nh [0] [.own (dL [ag 0, ag 0, aB false, nS, aB false, nS] (FK (a - 0)).toNat)] (.wk ((Wk.mask [0]).trans ((Wk.cut 0 (cs := dL [ag 0, ag 0, aB false, nS, aB false, nS] (FK (a - 0)).toNat) 0 kRf).to (c := ⟨mkS 27 0 [(0, .hs 0 0 ([] : List ai).length 6)], [.own (([] : List ai).flatMap ai.c)]⟩) kRf)) (.seq (.r3 G 27 [(4, .hs 0 0 ([] : List ai).length 6)] (.ret ?_)))))))))))
  obtain rfl := oi hr
  exact gR.ret [.hs 0 0 ([] : List ai).length 6] ((Wk.gc [0] [(0, false)] rfl (pKo ai.c ai.pure ([] : List ai) trivial)).to)
 refine .skip (.seq (.r3 G 27 [(4, nS)] (.ret ?_)))
 obtain rfl := oi hr
 exact gR.ret [nS] ((Wk.nil 0 6 kRf).trans ((Wk.gc [0] [(0, false)] rfl (pKc trivial)).to))

theorem eU (n : Nat) (slices : List (List ai)) (r : List ai) (hr : bK n slices = some r) : aO Tryz.prog 96 [slT (slC ai.c) slices] (slT ai.c r) := by
 unfold bK at hr
 refine aO.bd G Tryz.func96 [.tmp 2] ?_
 unfold Tryz.f96
 simp only [gS]
 refine .seq (.r4 G [0] [] (.seq (.r4 G [0] [(3, ag 0)] (.seq (.seq (.r4 G [0, 3] [(9, slT (slC ai.c) slices), (10, ag (slices.length : Int)), (11, ag 0)] (.block ?_)))))))
 replace hr := bd hr; obtain ⟨p, j, hr⟩ := hr
 refine .aN (σ := fun A => match A with | (f, d) => ⟨mkS 36 0 [(0, slT (slC ai.c) slices), (3, ag f), (9, slT (slC ai.c) slices), (10, ag (slices.length : Int)), (11, ag d)], []⟩) (Q := fun x st' => x = .exit 0 /\ Wk 0 st' ⟨mkS 36 0 [(0, slT (slC ai.c) slices), (3, ag p)], []⟩) j ((Wk.gc [0, 3, 9, 10, 11] [] rfl pK0).to) ?_ ?_
 ·clear hr
  rintro m ⟨f, d⟩ hr
  refine CQ.sh ?_
  refine .seq (.r4 G [0, 3, 9, 10, 11] [(12, aB (decide (d < (slices.length : Int))))] (.seq ?_))
  refine .cd hr ?_ ?_ <;> intro D hr
  ·refine .skip (.seq (.block (.seq ?_)))
   obtain ⟨s, hr⟩ := gd hr
   refine .r0 G (.p0 (v := .pp (slices.flatMap (slC ai.c)) (d.toNat * 1)) (tr (au s)) (.p0 (v := slT ai.c (gt slices d)) (tr (aE (aF (Af ai.c) (aC s) z1 (by omega : d.toNat * 1 = d.toNat * 1 + 0) kRf))) (.mu 1 (.done (.nh [0, 3, 5, 9, 10, 11] [] (.seq (.r4 G [0, 9, 10, 11] [(3, ag (FK (f + ((gt slices d).length : Int))))] (.seq (.r4 G [0, 3, 9, 10, 11] [(20, aB (decide ((FK (f + ((gt slices d).length : Int))) < 0)))] ?_)))))))))
   obtain ⟨t, hr⟩ := gdn hr
   refine .cN t (.skip (.pop (.ru G ?_)))
   exact av (FK (f + ((gt slices d).length : Int)), FK (d + 1)) hr ((Wk.gc [0, 3, 9, 10, 11] [] rfl pK0).to)
  refine .leave rfl ?_
  obtain rfl := oi hr
  exact ⟨rfl, ((Wk.gc [0, 3] [] rfl pK0).to)⟩
 rintro x st' g
 clear j
 obtain ⟨rfl, g⟩ := g
 refine aW _ rfl (.wk g (.seq ?_))
 obtain ⟨q, u, hr⟩ := bd hr
 refine .g1 G (cL (args := [nS, ag p]) 0 1 [] [false] (eV n p q u) trivial (by exact ⟨a7 ai.pure _, trivial⟩) rfl rfl kRf kRf) (.mu 1 (.ca cf0 (.mu 1 (.done (.nh [0, 6] [.own (q.flatMap ai.c)] (.seq (.seq (.r4 G [6] [(25, slT (slC ai.c) slices), (26, ag (slices.length : Int)), (27, ag 0)] (.block ?_)))))))))
 replace hr := bd hr; obtain ⟨e, k, hr⟩ := hr
 refine .aN (σ := fun A => match A with | (a, b) => ⟨mkS 36 0 [(6, .hs 0 0 a.length 6), (25, slT (slC ai.c) slices), (26, ag (slices.length : Int)), (27, ag b)], [.own (a.flatMap ai.c)]⟩) (Q := fun x st' => x = .exit 2 /\ Wk 0 st' ⟨mkS 36 0 [(6, .hs 0 0 e.length 6)], [.own (e.flatMap ai.c)]⟩) k ((Wk.gc [6, 25, 26, 27] [(0, false)] rfl (pKo ai.c ai.pure q trivial)).to) ?_ ?_
 ·clear hr
  rintro m ⟨a, b⟩ hr
  refine CQ.sh ?_
  refine .seq (.r4 G [6, 25, 26, 27] [(28, aB (decide (b < (slices.length : Int))))] (.seq ?_))
  refine .cd hr ?_ ?_ <;> intro C hr
  ·refine .skip (.seq (.block (.seq ?_)))
   obtain ⟨o, hr⟩ := gd hr
   refine .r0 G (.p0 (v := .pp (slices.flatMap (slC ai.c)) (b.toNat * 1)) (tr (au o)) (.p0 (v := slT ai.c (gt slices b)) (tr (aE (aF (Af ai.c) (aC o) z1 (by omega : b.toNat * 1 = b.toNat * 1 + 0) kRf))) (.mu 1 (.done (.nh [6, 8, 25, 26, 27] [.own (a.flatMap ai.c)] ?_)))))
   obtain ⟨w, z, hr⟩ := gd2 hr
   refine .r0 G (.mu 2 (.e0 (v := .hs 1 0 (a ++ (gt slices b)).length 6) (ws := [(0, .dead), (1, .own ((a ++ (gt slices b)).flatMap ai.c))]) (tr (y := zo (decide ((((gt slices b).flatMap ai.c)).length = (gt slices b).length * 6)) ((gt slices b).flatMap ai.c) (gt slices b).length (fun z1 B => og (decide (0 + a.length * 6 <= (a.flatMap ai.c).length) && decide ((a.length + B) * 80 <= 140737488355328) && decide (a.length + B <= 4611686018427387904)) (some (.eff (.hs 1 0 (a.length + B) 6) [(0, .dead), (1, .own (((a.flatMap ai.c).drop 0).take (a.length * 6) ++ z1))])))) (tt (mP ai.len) rfl (dB (l := a) (xs := (gt slices b)) ai.len rfl rfl rfl w z))) (.mu 1 (.done (.pop (.ru G ?_))))))
   exact av (a ++ (gt slices b), FK (b + 1)) hr ((Wk.gc [6, 25, 26, 27] [(1, false)] rfl (pKo ai.c ai.pure (a ++ (gt slices b)) trivial)).to)
  refine .leave rfl ?_
  obtain rfl := oi hr
  exact ⟨rfl, ((Wk.gc [6] [(0, false)] rfl (pKo ai.c ai.pure a trivial)).to)⟩
 rintro x st' i
 clear k
 obtain ⟨rfl, i⟩ := i
 refine aW _ rfl (.wk i (.seq (.r3 G 36 [(2, .hs 0 0 e.length 6)] (.ret ?_))))
 obtain rfl := oi hr
 exact aK.ret (vs := [.hs 0 0 e.length 6]) kRf (Sn.hs rfl (.inl rfl) (SnC.pure (a7 ai.pure _)) (fun h => bZ h))

theorem sL (n : Nat) (c : ae) (r : ae) (hr : m7 n c = some r) : aO Tryz.prog 51 [.agg (ae.c c)] (.agg (ae.c r)) := by
 unfold m7 at hr
 refine aO.bd G Tryz.func51 [.cell 2 35] ?_
 unfold Tryz.f51
 simp only [gS]
 refine .seq (.r2 G 49 [(1, .hp 0 0), (2, .hp 1 0)] [.own (ae.c c), .own [aB false, nS]] (.seq (.seq (.r4 G [1, 2] [(9, aB (!c.Closed))] ?_))))
 refine .cd hr ?_ ?_ <;> intro z hr
 ·refine .seq (.r5 G [2] [] [.own (ae.c c), .own (ae.c c)] (.ret ?_))
  obtain rfl := oi hr
  exact aK.r1 [.agg (ae.c c)]
 refine .skip (.seq (.r4 G [1, 2] [(3, ag 0)] (.seq (.seq (.r4 G [1, 2, 3] [(12, slT ai.c c.Points), (13, ag (c.Points.length : Int)), (14, ag 0)] (.block ?_))))))
 replace hr := bd hr; obtain ⟨a, f, hr⟩ := hr
 refine .aN (σ := fun C => match C with | (d, b) => ⟨mkS 49 0 [(1, .hp 0 0), (2, .hp 1 0), (3, ag d), (12, slT ai.c c.Points), (13, ag (c.Points.length : Int)), (14, ag b)], [.own (ae.c c), .own [aB false, nS]]⟩) (Q := fun x st' => x = .exit 0 /\ Wk 0 st' ⟨mkS 49 0 [(1, .hp 0 0), (2, .hp 1 0), (3, ag a)], [.own (ae.c c), .own [aB false, nS]]⟩) f ((Wk.gc [1, 2, 3, 12, 13, 14] [(0, true), (1, true)] rfl trivial).to) ?_ ?_
 ·clear hr
  rintro m ⟨d, b⟩ hr
  refine CQ.sh ?_
  refine .seq (.r4 G [1, 2, 3, 12, 13, 14] [(15, aB (decide (b < (c.Points.length : Int))))] (.seq ?_))
  refine .cd hr ?_ ?_ <;> intro u hr
  ·refine .skip (.seq (.block (.seq ?_)))
   obtain ⟨g, hr⟩ := gd hr
   refine .r0 G (.mu 1 (.p0 (v := .pp (c.Points.flatMap ai.c) (b.toNat * 6)) (tr (au g)) (.p0 (v := .agg (ai.c (gt c.Points b))) (tr (y := br.ofP (ei (decide (6 <= ((c.Points.flatMap ai.c).drop (b.toNat * 6)).length)) (.agg (((c.Points.flatMap ai.c).drop (b.toNat * 6)).take 6)))) (b6 ai.len (aC g) (by decide) (by omega : b.toNat * 6 = b.toNat * 6 + 0) kRf)) (.mu 3 (.done (.nh [1, 2, 3, 4, 5, 12, 13, 14] [.own (ae.c c), .own [aB false, nS], .own (ai.c (gt c.Points b))] (.seq ?_)))))))
   obtain ⟨i, hr⟩ := gd hr
   refine .r0 G (.mu 3 (.p0 (v := .pp (c.Points.flatMap ai.c) (d.toNat * 6)) (tr (au i)) (.p0 (v := .agg (ai.c (gt c.Points d))) (tr (y := br.ofP (ei (decide (6 <= ((c.Points.flatMap ai.c).drop (d.toNat * 6)).length)) (.agg (((c.Points.flatMap ai.c).drop (d.toNat * 6)).take 6)))) (b6 ai.len (aC i) (by decide) (by omega : d.toNat * 6 = d.toNat * 6 + 0) kRf)) (.mu 2 (.done (.nh [1, 2, 3, 4, 5, 6, 12, 13, 14] [.own (ae.c c), .own [aB false, nS], .own (ai.c (gt c.Points b)), .own (ai.c (gt c.Points d))] (.seq ?_)))))))
   obtain ⟨t, p, hr⟩ := bd hr
   refine .g1 G (ok0 (iE n (A2.mk (gt c.Points b).A (gt c.Points b).B) (A2.mk (gt c.Points d).A (gt c.Points d).B) t p)) (.mu 10 (.ca cf0 (.mu 1 (.done (.nh [1, 2, 3, 4, 12, 13, 14, 35] [.own (ae.c c), .own [aB false, nS], .own (ai.c (gt c.Points b)), .own (ai.c (gt c.Points d))] ?_)))))
   refine .cd hr ?_ ?_ <;> intro w hr
   ·refine .ru G (.pop (.ru G ?_))
    exact av (b, FK (b + 1)) hr ((Wk.gc [1, 2, 3, 12, 13, 14] [(0, true), (1, true)] rfl trivial).to)
   refine .skip (.pop (.ru G ?_))
   exact av (d, FK (b + 1)) hr ((Wk.gc [1, 2, 3, 12, 13, 14] [(0, true), (1, true)] rfl trivial).to)
  refine .leave rfl ?_
  obtain rfl := oi hr
  exact ⟨rfl, ((Wk.gc [1, 2, 3] [(0, true), (1, true)] rfl trivial).to)⟩
 rintro x st' e
 clear f
 obtain ⟨rfl, e⟩ := e
 refine aW _ rfl (.wk e (.seq ?_))
 obtain ⟨j, k, hr⟩ := gd2 hr
 obtain ⟨o, q, hr⟩ := bd hr
 refine .tn G (ca4 [.own (ae.c c), .own [aB false, nS], .own [slT ai.c ((c.Points.drop a.toNat).take ((c.Points.length : Int).toNat - a.toNat)), slT ai.c ((c.Points.drop (0 : Int).toNat).take (a.toNat - (0 : Int).toNat))]] (cx (args := [.hs 2 0 2 1]) (l := [2]) (SnL.cons (Sn.hs rfl (.inl rfl) (SnC.cons (Sn.pure rfl) (SnC.cons (Sn.pure rfl) SnC.nil)) (fun h => nomatch h)) SnL.nil) (eU n [((c.Points.drop a.toNat).take ((c.Points.length : Int).toNat - a.toNat)), ((c.Points.drop (0 : Int).toNat).take (a.toNat - (0 : Int).toNat))] o q))) (.mu 3 (.pk (v := slT ai.c ((c.Points.drop a.toNat).take ((c.Points.length : Int).toNat - a.toNat))) (tr (y := slO (inS a (c.Points.length : Int) c.Points.length) a.toNat (c.Points.length : Int).toNat (fun z1 s => .sl true (((c.Points.flatMap ai.c).drop (z1 * 6)).take ((s - z1) * 6)) (s - z1))) (wG j (tm ai.len (pY j)))) (.mu 3 (.pk (v := slT ai.c ((c.Points.drop (0 : Int).toNat).take (a.toNat - (0 : Int).toNat))) (tr (y := slO (inS 0 a c.Points.length) (0 : Int).toNat a.toNat (fun z1 s => .sl true (((c.Points.flatMap ai.c).drop (z1 * 6)).take ((s - z1) * 6)) (s - z1))) (wG k (tm ai.len (pY k)))) (.mu 1 (.ca cf0 (.mu 2 ?_)))))))
 refine .done (kRa ?_)
 refine .nh [2] [.own (ae.c c), .own [aB true, slT ai.c o], .fix [slT ai.c ((c.Points.drop a.toNat).take ((c.Points.length : Int).toNat - a.toNat)), slT ai.c ((c.Points.drop (0 : Int).toNat).take (a.toNat - (0 : Int).toNat))]] (.ret ?_)
 obtain rfl := oi hr
 exact aK.r1 [.agg [aB true, slT ai.c o]]

theorem r8 [Dr] (n : Nat) (a : ae) (b : ae) (r : Int) (hr : mq n a b = some r) : aO Tryz.prog 53 [.agg (ae.c a), .agg (ae.c b)] (ag r) := by
 unfold mq at hr
 refine aO.bd G Tryz.func53 [.tmp 4] ?_
 unfold Tryz.f53
 simp only [gS]
 refine .seq (.r2 G 10 [(2, .hp 0 0), (3, .hp 1 0)] [.own (ae.c a), .own (ae.c b)] (.seq ?_))
 obtain ⟨g, d, i, e, j, f, hr⟩ := bd3 hr
 refine .tn G (ca1 (ok0 (jH n a g d)) (ca1 (ok0 (jH n b i e)) (ca3 (ok0 (iE n g i j f))))) (.mu 1 (.ca cf0 (.mu 1 (.ca (cfA (fun h => by rw [sv e d (oF n h)]) cf0) (.ca (cfF (cfF cf0)) (.mu 1 ?_))))))
 refine .done (kRa ?_)
 refine .ret ?_
 obtain rfl := oi hr
 exact aK.r1 [ag j]

theorem cP (n : Nat) (a : List ae) (r : List ae) (hr : a8 n a = some r) : dK 1 Tryz.prog 52 [.hs 0 0 a.length 2, .fn 53 [] []] [.own (a.flatMap ae.c)] (.tup []) [.own (r.flatMap ae.c)] := by
 unfold a8 at hr
 obtain ⟨b, hr⟩ := gd hr
 exact dK.BD (c := ae.c) (caps' := []) (Go.Proofs.YtecdcgfclgmbpaaGreat.rD (enters_of Tryz.func53 kRf rfl)) Go.Proofs.YtecdcgfclgmbpaaGreat.wQ ae.len ae.pure hr (dcT b) SnL.nil (fun x y r hc => @r8 ⟨true⟩ n x y r hc)

theorem sy (n : Nat) (p : ai) (q : ai) (r : Bool) (hr : na n p q = some r) : aO Tryz.prog 100 [.agg (ai.c p), .agg (ai.c q)] (aB r) := by
 unfold na at hr
 refine aO.bd G Tryz.func100 [.tmp 4] ?_
 unfold Tryz.f100
 simp only [gS]
 refine .seq (.r2 G 35 [(2, .hp 0 0), (3, .hp 1 0)] [.own (ai.c p), .own (ai.c q)] (.seq ?_))
 rcases bT ((p.A : Int) == q.A) with a | a
 ·replace hr := cg a hr
  rcases bT ((p.B : Int) == q.B) with b | b
  ·replace hr := cg b hr
   obtain ⟨k, d, hr⟩ := bd hr
   rcases bT k with f | f
   ·subst f
    replace hr := cg rfl hr
    obtain ⟨l, e, hr⟩ := bd hr
    rcases bT l with g | g
    ·subst g
     replace hr := cg rfl hr
     obtain ⟨j, i, hr⟩ := bd hr
     refine .gn G (ca1 (ok0 (eG n p.At true d)) (ca1 (ok0 (eG n q.At true e)) (ca3 (ok0 (mD n p.At q.At j i))))) (.mu 4 (.p0 (v := aB true) (eB a) (.mu 5 (.pure (v := aB true) kRf (eB b) (.mu 4 (.ca cf0 (.mu 4 (.ca (cfA (fun h => by rw [sv e d (nK n h)]) cf0) (.mu 6 (.ca (cfF (cfF cf0)) (.mu 3 (.done (.ret ?_)))))))))))))
     obtain rfl := oi hr
     exact aK.r1 [aB ((j : Int) == 0)]
    subst g
    replace hr := ch rfl hr
    refine .gn G (ca1 (ok0 (eG n p.At true d)) (ca3 (ok0 (eG n q.At false e)))) (.mu 4 (.p0 (v := aB true) (eB a) (.mu 5 (.pure (v := aB true) kRf (eB b) (.mu 4 (.ca cf0 (.mu 4 (.ca (cfA (fun h => by rw [sv e d (nK n h)]) cf0) (.mu 10 (.done (.ret ?_)))))))))))
    obtain rfl := oi hr
    exact aK.r1 [aB false]
   subst f
   replace hr := ch rfl hr
   refine .g1 G (ok0 (eG n p.At false d)) (.mu 4 (.p0 (v := aB true) (eB a) (.mu 5 (.pure (v := aB true) kRf (eB b) (.mu 4 (.ca cf0 (.mu 15 (.done (.ret ?_)))))))))
   obtain rfl := oi hr
   exact aK.r1 [aB false]
  replace hr := ch b hr
  refine .r0 G (.mu 4 (.p0 (v := aB true) (eB a) (.mu 5 (.pure (v := aB false) kRf (eB b) (.mu 20 (.done (.ret ?_)))))))
  obtain rfl := oi hr
  exact aK.r1 [aB false]
 replace hr := ch a hr
 refine .r0 G (.mu 4 (.p0 (v := aB false) (eB a) (.mu 26 (.done (.ret ?_)))))
 obtain rfl := oi hr
 exact aK.r1 [aB false]

theorem bt (n : Nat) (d : List ai) (e : List ai) (r : Bool) (hr : aP n d e = some r) : aO Tryz.prog 99 [slT ai.c d, slT ai.c e, .fn 100 [] []] (aB r) := by
 unfold aP at hr
 refine aO.bd G Tryz.func99 [.tmp 6] ?_
 unfold Tryz.f99
 simp only [gS]
 refine .seq (.r4 G [0, 1, 2] [] (.seq (.seq (.r4 G [0, 1, 2] [(14, aB (((d.length : Int) : Int) != (e.length : Int)))] ?_))))
 refine .cd hr ?_ ?_ <;> intro p hr
 ·refine .seq (.ru G (.ret ?_))
  obtain rfl := oi hr
  exact aK.r1 [aB false]
 refine .skip (.seq (.seq (.r4 G [1, 2] [(15, slT ai.c d), (16, ag (d.length : Int)), (17, ag 0)] (.block ?_))))
 replace hr := bd hr; obtain ⟨i, f, hr⟩ := hr
 refine .aN (σ := fun q => match q with | a => ⟨mkS 32 0 [(1, slT ai.c e), (2, .fn 100 [] []), (15, slT ai.c d), (16, ag (d.length : Int)), (17, ag a)], []⟩) (Q := fun x st' => match (generalizing := false) i with | .inl _ => x = .exit 0 /\ Wk 0 st' ⟨mkS 32 0 [], []⟩ | .inr (r0) => x = .ret /\ aK Tryz.prog [.tmp 6] (aB r0) .ret st') f ((Wk.gc [1, 2, 15, 16, 17] [] rfl pK0).to) ?_ ?_
 ·clear hr
  rintro m a hr
  refine CQ.sh ?_
  refine .seq (.r4 G [1, 2, 15, 16, 17] [(18, aB (decide (a < (d.length : Int))))] (.seq ?_))
  refine .cd hr ?_ ?_ <;> intro l hr
  ·refine .skip (.seq (.block (.seq ?_)))
   obtain ⟨g, hr⟩ := gd hr
   refine .r0 G (.mu 1 (.p0 (v := .pp (d.flatMap ai.c) (a.toNat * 6)) (tr (au g)) (.p0 (v := .agg (ai.c (gt d a))) (tr (y := br.ofP (ei (decide (6 <= ((d.flatMap ai.c).drop (a.toNat * 6)).length)) (.agg (((d.flatMap ai.c).drop (a.toNat * 6)).take 6)))) (b6 ai.len (aC g) (by decide) (by omega : a.toNat * 6 = a.toNat * 6 + 0) kRf)) (.mu 3 (.done (.nh [1, 2, 7, 8, 15, 16, 17] [.own (ai.c (gt d a))] (.seq ?_)))))))
   obtain ⟨h, hr⟩ := gd hr
   refine .r0 G (.mu 2 (.p0 (v := .pp (e.flatMap ai.c) (a.toNat * 6)) (tr (au h)) (.p0 (v := .agg (ai.c (gt e a))) (tr (y := br.ofP (ei (decide (6 <= ((e.flatMap ai.c).drop (a.toNat * 6)).length)) (.agg (((e.flatMap ai.c).drop (a.toNat * 6)).take 6)))) (b6 ai.len (aC h) (by decide) (by omega : a.toNat * 6 = a.toNat * 6 + 0) kRf)) (.mu 2 (.done (.nh [1, 2, 8, 9, 15, 16, 17] [.own (ai.c (gt d a)), .own (ai.c (gt e a))] (.seq ?_)))))))
   obtain ⟨k, j, hr⟩ := bd hr
   refine .g1 G (ok0 (sy n (gt d a) (gt e a) k j)) (.mu 3 (.ca cf0 (.mu 1 (.done (.nh [1, 2, 15, 16, 17, 30] [.own (ai.c (gt d a)), .own (ai.c (gt e a))] ?_)))))
   refine .cd hr ?_ ?_ <;> intro o hr
   ·refine .seq (.ru G (.ret ?_))
    obtain rfl := oi hr
    exact ⟨rfl, aK.ret (vs := [aB false]) kRf (Sn.pure rfl)⟩
   refine .skip (.pop (.ru G ?_))
   exact av (FK (a + 1)) hr ((Wk.gc [1, 2, 15, 16, 17] [] rfl pK0).to)
  refine .leave rfl ?_
  obtain rfl := oi hr
  exact ⟨rfl, ((Wk.gc [] [] rfl pK0).to)⟩
 rcases i with ⟨⟩ | r0
 ·rintro x st' b
  clear f
  obtain ⟨rfl, b⟩ := b
  refine aW _ rfl (.wk b (.seq (.ru G (.ret ?_))))
  obtain rfl := oi hr
  exact aK.r1 [aB true]
 rintro x st' b
 clear f
 obtain ⟨rfl, b⟩ := b
 obtain rfl := oi hr
 exact iM _ b

theorem uD (n : Nat) (a : ae) (b : ae) (r : Bool) (hr : pq n a b = some r) : aO Tryz.prog 56 [.agg (ae.c a), .agg (ae.c b)] (aB r) := by
 unfold pq at hr
 refine aO.bd G Tryz.func56 [.tmp 4] ?_
 unfold Tryz.f56
 simp only [gS]
 refine .seq (.r2 G 17 [(2, .hp 0 0), (3, .hp 1 0)] [.own (ae.c a), .own (ae.c b)] (.seq ?_))
 rcases bT (a.Closed == b.Closed) with d | d
 ·replace hr := cg d hr
  obtain ⟨f, e, hr⟩ := bd hr
  refine .g1 G (ok0 (bt n a.Points b.Points f e)) (.mu 4 (.p0 (v := aB true) (eB d) (.mu 5 (.ca cf0 (.mu 2 (.done (.ret ?_)))))))
  obtain rfl := oi hr
  exact aK.r1 [aB f]
 replace hr := ch d hr
 refine .r0 G (.mu 4 (.p0 (v := aB false) (eB d) (.mu 8 (.done (.ret ?_)))))
 obtain rfl := oi hr
 exact aK.r1 [aB false]

theorem bB (n : Nat) (d : List ae) (e : List ae) (r : Bool) (hr : aR n d e = some r) : aO Tryz.prog 16 [slT ae.c d, slT ae.c e, .fn 56 [] []] (aB r) := by
 unfold aR at hr
 refine aO.bd G Tryz.func16 [.tmp 6] ?_
 unfold Tryz.f16
 simp only [gS]
 refine .seq (.r4 G [0, 1, 2] [] (.seq (.seq (.r4 G [0, 1, 2] [(14, aB (((d.length : Int) : Int) != (e.length : Int)))] ?_))))
 refine .cd hr ?_ ?_ <;> intro p hr
 ·refine .seq (.ru G (.ret ?_))
  obtain rfl := oi hr
  exact aK.r1 [aB false]
 refine .skip (.seq (.seq (.r4 G [1, 2] [(15, slT ae.c d), (16, ag (d.length : Int)), (17, ag 0)] (.block ?_))))
 replace hr := bd hr; obtain ⟨i, f, hr⟩ := hr
 refine .aN (σ := fun q => match q with | a => ⟨mkS 32 0 [(1, slT ae.c e), (2, .fn 56 [] []), (15, slT ae.c d), (16, ag (d.length : Int)), (17, ag a)], []⟩) (Q := fun x st' => match (generalizing := false) i with | .inl _ => x = .exit 0 /\ Wk 0 st' ⟨mkS 32 0 [], []⟩ | .inr (r0) => x = .ret /\ aK Tryz.prog [.tmp 6] (aB r0) .ret st') f ((Wk.gc [1, 2, 15, 16, 17] [] rfl pK0).to) ?_ ?_
 ·clear hr
  rintro m a hr
  refine CQ.sh ?_
  refine .seq (.r4 G [1, 2, 15, 16, 17] [(18, aB (decide (a < (d.length : Int))))] (.seq ?_))
  refine .cd hr ?_ ?_ <;> intro l hr
  ·refine .skip (.seq (.block (.seq ?_)))
   obtain ⟨g, hr⟩ := gd hr
   refine .r0 G (.mu 1 (.p0 (v := .pp (d.flatMap ae.c) (a.toNat * 2)) (tr (au g)) (.p0 (v := .agg (ae.c (gt d a))) (tr (y := br.ofP (ei (decide (2 <= ((d.flatMap ae.c).drop (a.toNat * 2)).length)) (.agg (((d.flatMap ae.c).drop (a.toNat * 2)).take 2)))) (b6 ae.len (aC g) (by decide) (by omega : a.toNat * 2 = a.toNat * 2 + 0) kRf)) (.mu 3 (.done (.nh [1, 2, 7, 8, 15, 16, 17] [.own (ae.c (gt d a))] (.seq ?_)))))))
   obtain ⟨h, hr⟩ := gd hr
   refine .r0 G (.mu 2 (.p0 (v := .pp (e.flatMap ae.c) (a.toNat * 2)) (tr (au h)) (.p0 (v := .agg (ae.c (gt e a))) (tr (y := br.ofP (ei (decide (2 <= ((e.flatMap ae.c).drop (a.toNat * 2)).length)) (.agg (((e.flatMap ae.c).drop (a.toNat * 2)).take 2)))) (b6 ae.len (aC h) (by decide) (by omega : a.toNat * 2 = a.toNat * 2 + 0) kRf)) (.mu 2 (.done (.nh [1, 2, 8, 9, 15, 16, 17] [.own (ae.c (gt d a)), .own (ae.c (gt e a))] (.seq ?_)))))))
   obtain ⟨k, j, hr⟩ := bd hr
   refine .g1 G (ok0 (uD n (gt d a) (gt e a) k j)) (.mu 3 (.ca cf0 (.mu 1 (.done (.nh [1, 2, 15, 16, 17, 30] [.own (ae.c (gt d a)), .own (ae.c (gt e a))] ?_)))))
   refine .cd hr ?_ ?_ <;> intro o hr
   ·refine .seq (.ru G (.ret ?_))
    obtain rfl := oi hr
    exact ⟨rfl, aK.ret (vs := [aB false]) kRf (Sn.pure rfl)⟩
   refine .skip (.pop (.ru G ?_))
   exact av (FK (a + 1)) hr ((Wk.gc [1, 2, 15, 16, 17] [] rfl pK0).to)
  refine .leave rfl ?_
  obtain rfl := oi hr
  exact ⟨rfl, ((Wk.gc [] [] rfl pK0).to)⟩
 rcases i with ⟨⟩ | r0
 ·rintro x st' b
  clear f
  obtain ⟨rfl, b⟩ := b
  refine aW _ rfl (.wk b (.seq (.ru G (.ret ?_))))
  obtain rfl := oi hr
  exact aK.r1 [aB true]
 rintro x st' b
 clear f
 obtain ⟨rfl, b⟩ := b
 obtain rfl := oi hr
 exact iM _ b

theorem tH (n : Nat) (g : al) (level : Int) (l : List ae) (r : Int) (hr : jW n g level l = some r) : aO Tryz.prog 20 [.agg (al.c g), ag level, slT ae.c l] (ag r) := by
 unfold jW at hr
 refine aO.bd G Tryz.func20 [.tmp 6] ?_
 unfold Tryz.f20
 simp only [gS]
 refine .seq (.r5 G [1, 2] [(3, .hp 0 0)] [.own (al.c g)] (.seq (.seq ?_)))
 obtain ⟨B, C, hr⟩ := bd hr
 refine .g1 G (ok0 (je n g level B C)) (.mu 2 (.ca cf0 (.mu 1 (.done (.nh [1, 2, 3, 7] [.own (al.c g)] (.seq (.r4 G [1, 2, 3, 7] [(15, aB ((B : Int) != 0))] ?_)))))))
 refine .cd hr ?_ ?_ <;> intro I hr
 ·refine .seq (.ru G (.ret ?_))
  obtain rfl := oi hr
  exact aK.r1 [ag B]
 refine .skip (.seq (.r4 G [1, 2, 3] [(8, nS)] (.seq (.seq (.r4 G [1, 3, 8] [(17, slT ae.c l), (18, ag (l.length : Int)), (19, ag 0)] (.block ?_))))))
 replace hr := bd hr; obtain ⟨p, i, hr⟩ := hr
 refine .aN (σ := fun J => match J with | (d, a) => ⟨mkS 41 0 [(1, ag level), (3, .hp 0 0), (8, .hs 1 0 d.length 2), (17, slT ae.c l), (18, ag (l.length : Int)), (19, ag a)], [.own (al.c g), .own (d.flatMap ae.c)]⟩) (Q := fun x st' => match (generalizing := false) p with | .inl e => x = .exit 0 /\ Wk 0 st' ⟨mkS 41 0 [(1, ag level), (3, .hp 0 0), (8, .hs 1 0 e.length 2)], [.own (al.c g), .own (e.flatMap ae.c)]⟩ | .inr (r0) => x = .ret /\ aK Tryz.prog [.tmp 6] (ag r0) .ret st') i ((Wk.nil 8 2 kRf).trans ((Wk.gc [1, 3, 8, 17, 18, 19] [(0, true), (1, false)] rfl (pKt (pKc trivial))).to)) ?_ ?_
 ·clear hr
  rintro m ⟨d, a⟩ hr
  refine CQ.sh ?_
  refine .seq (.r4 G [1, 3, 8, 17, 18, 19] [(20, aB (decide (a < (l.length : Int))))] (.seq ?_))
  refine .cd hr ?_ ?_ <;> intro E hr
  ·refine .skip (.seq (.block (.seq ?_)))
   obtain ⟨k, hr⟩ := gd hr
   refine .r0 G (.p0 (v := .pp (l.flatMap ae.c) (a.toNat * 2)) (tr (au k)) (.p0 (v := .agg (ae.c (gt l a))) (tr (y := br.ofP (ei (decide (2 <= ((l.flatMap ae.c).drop (a.toNat * 2)).length)) (.agg (((l.flatMap ae.c).drop (a.toNat * 2)).take 2)))) (b6 ae.len (aC k) (by decide) (by omega : a.toNat * 2 = a.toNat * 2 + 0) kRf)) (.mu 2 (.done (.nh [1, 3, 8, 10, 17, 18, 19] [.own (al.c g), .own (d.flatMap ae.c), .own (ae.c (gt l a))] (.seq (.seq (.r4 G [1, 3, 8, 10, 17, 18, 19] [(26, aB ((((gt l a).Points.length : Int) : Int) == 0))] ?_))))))))
   refine .cd hr ?_ ?_ <;> intro F hr
   ·refine .seq (.ru G (.ret ?_))
    obtain rfl := oi hr
    exact ⟨rfl, aK.ret (vs := [ag 12]) kRf (Sn.pure rfl)⟩
   refine .skip ?_
   obtain ⟨f, q, hr⟩ := bd hr
   obtain ⟨s, t, hr⟩ := gd2 hr
   refine .g1 G (ok0 (sL n (gt l a) f q)) (.mu 2 (.ca cf0 (.mu 1 (.e0 (v := .hs 4 0 (d ++ [f]).length 2) (ws := [(1, .dead), (4, .own ((d ++ [f]).flatMap ae.c))]) (tr (dB (new := (ae.c f)) (l := d) (xs := [f]) ae.len rfl rfl kRf s t)) (.mu 1 (.done (.pop (.ru G ?_))))))))
   exact av (d ++ [f], FK (a + 1)) hr ((Wk.gc [1, 3, 8, 17, 18, 19] [(0, true), (4, false)] rfl (pKt (pKo ae.c ae.pure (d ++ [f]) trivial))).to)
  refine .leave rfl ?_
  obtain rfl := oi hr
  exact ⟨rfl, ((Wk.gc [1, 3, 8] [(0, true), (1, false)] rfl (pKt (pKo ae.c ae.pure d trivial))).to)⟩
 rcases p with e | r0
 ·rintro x st' b
  clear i
  obtain ⟨rfl, b⟩ := b
  refine aW _ rfl (.wk b (.seq ?_))
  obtain ⟨j, u, hr⟩ := bd hr
  obtain ⟨w, hr⟩ := gd hr
  refine .g1 G (cL (args := [.hs 1 0 e.length 2, .fn 53 [] []]) 1 0 [(1, false)] [false] (cP n e j u) (by exact ⟨a7 ae.pure _, trivial⟩) (by exact ⟨a7 ae.pure _, trivial⟩) rfl rfl kRf kRf) (.mu 1 (.ca cf0 (.done (.nh [1, 3, 8] [.own (al.c g), .own (j.flatMap ae.c)] (.seq (.seq ?_))))))
  obtain ⟨o, z, D, A, hr⟩ := bd2 hr
  refine .gn G (ca1 (ok0 (oG n g level o z)) (ca3 (gb (args := [.hs 1 0 e.length 2, slT ae.c o, .fn 56 [] []]) (l := [1]) rfl (SnL.cons (Sn.hse (dcT w) rfl (.inl rfl) (SnC.pure (a7 ae.pure _)) (fun h => bZ h)) (Sp (Sp SnL.nil))) (bB n j o D A)))) (.mu 3 (.ca cf0 (.ca (cfF cf0) (.mu 1 (.done (.nh [40] [.own (al.c g), .own (j.flatMap ae.c)] ?_))))))
  refine .cd hr ?_ ?_ <;> intro H hr
  ·refine .seq (.ru G (.ret ?_))
   obtain rfl := oi hr
   exact aK.r1 [ag 12]
  refine .skip (.seq (.ru G (.ret ?_)))
  obtain rfl := oi hr
  exact aK.r1 [ag 0]
 rintro x st' b
 clear i
 obtain ⟨rfl, b⟩ := b
 obtain rfl := oi hr
 exact iM _ b

theorem oY (n : Nat) (r : Bool) (hr : fH n = some r) : aO Tryz.prog 12 [] (aB r) := by
 unfold fH at hr
 refine aO.bd G Tryz.func12 [.tmp 0] ?_
 unfold Tryz.f12
 simp only [gS]
 refine .seq (.r3 G 93 [] (.seq ?_))
 obtain ⟨N, J, a, L, hr⟩ := bd2 hr
 refine .gn G (ca1 (ok0 (fl n N J)) (ca3 (ok0 (ou n N 1 a L)))) (.ca cf0 (.ca (cfF cf0) (.mu 5 (.done (.n2 93 [(1, slT ae.c a.1), (2, ag a.2)] [] (.seq (.seq ?_)))))))
 rcases bT ((a.2 : Int) != 0) with i | i
 ·replace hr := cg i hr
  refine .r0 G (.mu 1 (.p0 (v := aB true) (eB i) (.mu 40 (.done (.n2 93 [(1, slT ae.c a.1), (54, aB true)] [] (.cT kRf (.seq (.ru G (.ret ?_)))))))))
  obtain rfl := oi hr
  exact aK.r1 [aB false]
 replace hr := ch i hr
 rcases bT (((a.1.length : Int) : Int) != 1) with j | j
 ·replace hr := cg j hr
  refine .r0 G (.mu 1 (.p0 (v := aB false) (eB i) (.mu 3 (.pure (v := aB true) kRf (eB j) (.mu 36 (.done (.n2 93 [(1, slT ae.c a.1), (54, aB true)] [] (.cT kRf (.seq (.ru G (.ret ?_)))))))))))
  obtain rfl := oi hr
  exact aK.r1 [aB false]
 replace hr := ch j hr
 obtain ⟨b, hr⟩ := gd hr
 rcases bT (!(gt a.1 0).Closed) with l | l
 ·replace hr := cg l hr
  refine .r0 G (.mu 1 (.p0 (v := aB false) (eB i) (.mu 3 (.pure (v := aB false) kRf (eB j) (.mu 3 (.pure (v := .pp (a.1.flatMap ae.c) ((0 : Int).toNat * 2)) kRf (tr (au b)) (.mu 1 (.pure (v := aB (gt a.1 0).Closed) kRf (tr (aE (aF ae.len (aC b) (by decide : 0 < 2) (by omega : (0 : Int).toNat * 2 + 0 = (0 : Int).toNat * 2 + 0) kRf))) (.pure (v := aB true) kRf (eB l) (.mu 29 (.done (.n2 93 [(1, slT ae.c a.1), (54, aB true)] [] (.cT kRf (.seq (.ru G (.ret ?_))))))))))))))))
  obtain rfl := oi hr
  exact aK.r1 [aB false]
 replace hr := ch l hr
 rcases bT ((((gt a.1 0).Points.length : Int) : Int) != 6) with o | o
 ·replace hr := cg o hr
  refine .r0 G (.mu 1 (.p0 (v := aB false) (eB i) (.mu 3 (.pure (v := aB false) kRf (eB j) (.mu 3 (.pure (v := .pp (a.1.flatMap ae.c) ((0 : Int).toNat * 2)) kRf (tr (au b)) (.mu 1 (.pure (v := aB (gt a.1 0).Closed) kRf (tr (aE (aF ae.len (aC b) (by decide : 0 < 2) (by omega : (0 : Int).toNat * 2 + 0 = (0 : Int).toNat * 2 + 0) kRf))) (.pure (v := aB false) kRf (eB l) (.mu 3 (.pure (v := .pp (a.1.flatMap ae.c) ((0 : Int).toNat * 2)) kRf (tr (au b)) (.mu 1 (.pure (v := slT ai.c (gt a.1 0).Points) kRf (tr (aE (aF ae.len (aC b) (by decide : 1 < 2) (by omega : (0 : Int).toNat * 2 + 1 = (0 : Int).toNat * 2 + 1) kRf))) (.mu 1 (.pure (v := aB true) kRf (eB o) (.mu 21 (.done (.n2 93 [(1, slT ae.c a.1), (54, aB true)] [] (.cT kRf (.seq (.ru G (.ret ?_))))))))))))))))))))))
  obtain rfl := oi hr
  exact aK.r1 [aB false]
 replace hr := ch o hr
 obtain ⟨g, hr⟩ := gd hr
 rcases bT (((gt (gt a.1 0).Points 1).A : Int) != 1) with k | k
 ·replace hr := cg k hr
  refine .r0 G (.mu 1 (.p0 (v := aB false) (eB i) (.mu 3 (.pure (v := aB false) kRf (eB j) (.mu 3 (.pure (v := .pp (a.1.flatMap ae.c) ((0 : Int).toNat * 2)) kRf (tr (au b)) (.mu 1 (.pure (v := aB (gt a.1 0).Closed) kRf (tr (aE (aF ae.len (aC b) (by decide : 0 < 2) (by omega : (0 : Int).toNat * 2 + 0 = (0 : Int).toNat * 2 + 0) kRf))) (.pure (v := aB false) kRf (eB l) (.mu 3 (.pure (v := .pp (a.1.flatMap ae.c) ((0 : Int).toNat * 2)) kRf (tr (au b)) (.mu 1 (.pure (v := slT ai.c (gt a.1 0).Points) kRf (tr (aE (aF ae.len (aC b) (by decide : 1 < 2) (by omega : (0 : Int).toNat * 2 + 1 = (0 : Int).toNat * 2 + 1) kRf))) (.mu 1 (.pure (v := aB false) kRf (eB o) (.mu 3 (.pure (v := .pp (a.1.flatMap ae.c) ((0 : Int).toNat * 2)) kRf (tr (au b)) (.mu 1 (.pure (v := slT ai.c (gt a.1 0).Points) kRf (tr (aE (aF ae.len (aC b) (by decide : 1 < 2) (by omega : (0 : Int).toNat * 2 + 1 = (0 : Int).toNat * 2 + 1) kRf))) (.pure (v := .pp ((gt a.1 0).Points.flatMap ai.c) ((1 : Int).toNat * 6)) kRf (tr (au g)) (.mu 1 (.pure (v := ag (gt (gt a.1 0).Points 1).A) kRf (tr (aE (aF ai.len (aC g) (by decide : 0 < 6) (by omega : (1 : Int).toNat * 6 + 0 = (1 : Int).toNat * 6 + 0) kRf))) (.pure (v := aB true) kRf (eB k) (.mu 11 (.done (.n2 93 [(1, slT ae.c a.1), (54, aB true)] [] (.cT kRf (.seq (.ru G (.ret ?_))))))))))))))))))))))))))))))
  obtain rfl := oi hr
  exact aK.r1 [aB false]
 replace hr := ch k hr
 refine .r0 G (.mu 1 (.p0 (v := aB false) (eB i) (.mu 3 (.pure (v := aB false) kRf (eB j) (.mu 3 (.pure (v := .pp (a.1.flatMap ae.c) ((0 : Int).toNat * 2)) kRf (tr (au b)) (.mu 1 (.pure (v := aB (gt a.1 0).Closed) kRf (tr (aE (aF ae.len (aC b) (by decide : 0 < 2) (by omega : (0 : Int).toNat * 2 + 0 = (0 : Int).toNat * 2 + 0) kRf))) (.pure (v := aB false) kRf (eB l) (.mu 3 (.pure (v := .pp (a.1.flatMap ae.c) ((0 : Int).toNat * 2)) kRf (tr (au b)) (.mu 1 (.pure (v := slT ai.c (gt a.1 0).Points) kRf (tr (aE (aF ae.len (aC b) (by decide : 1 < 2) (by omega : (0 : Int).toNat * 2 + 1 = (0 : Int).toNat * 2 + 1) kRf))) (.mu 1 (.pure (v := aB false) kRf (eB o) (.mu 3 (.pure (v := .pp (a.1.flatMap ae.c) ((0 : Int).toNat * 2)) kRf (tr (au b)) (.mu 1 (.pure (v := slT ai.c (gt a.1 0).Points) kRf (tr (aE (aF ae.len (aC b) (by decide : 1 < 2) (by omega : (0 : Int).toNat * 2 + 1 = (0 : Int).toNat * 2 + 1) kRf))) (.pure (v := .pp ((gt a.1 0).Points.flatMap ai.c) ((1 : Int).toNat * 6)) kRf (tr (au g)) (.mu 1 (.pure (v := ag (gt (gt a.1 0).Points 1).A) kRf (tr (aE (aF ai.len (aC g) (by decide : 0 < 6) (by omega : (1 : Int).toNat * 6 + 0 = (1 : Int).toNat * 6 + 0) kRf))) (.pure (v := aB false) kRf (eB k) (.mu 3 (.pure (v := .pp (a.1.flatMap ae.c) ((0 : Int).toNat * 2)) kRf (tr (au b)) (.mu 1 (.pure (v := slT ai.c (gt a.1 0).Points) kRf (tr (aE (aF ae.len (aC b) (by decide : 1 < 2) (by omega : (0 : Int).toNat * 2 + 1 = (0 : Int).toNat * 2 + 1) kRf))) (.pure (v := .pp ((gt a.1 0).Points.flatMap ai.c) ((1 : Int).toNat * 6)) kRf (tr (au g)) (.mu 1 (.pure (v := ag (gt (gt a.1 0).Points 1).B) kRf (tr (aE (aF ai.len (aC g) (by decide : 1 < 6) (by omega : (1 : Int).toNat * 6 + 1 = (1 : Int).toNat * 6 + 1) kRf))) (.mu 2 (.done (.n2 93 [(1, slT ae.c a.1), (54, aB (((gt (gt a.1 0).Points 1).B : Int) != 4))] [] ?_)))))))))))))))))))))))))))))))))
 refine .cd hr ?_ ?_ <;> intro O hr
 ·refine .seq (.ru G (.ret ?_))
  obtain rfl := oi hr
  exact aK.r1 [aB false]
 refine .skip (.seq ?_)
 obtain ⟨t, u, f, w, hr⟩ := bd2 hr
 refine .gn G (ca1 (ok0 (fl n t u)) (ca3 (ok0 (tq n t 1 f w)))) (.ca cf0 (.ca (cfF cf0) (.mu 6 (.done (.n2 93 [(1, slT ae.c a.1), (2, ag f.2), (3, .hp 0 0)] [.own (ak.c f.1)] (.seq ?_))))))
 obtain ⟨x, z, m, C, hr⟩ := bd2 hr
 refine .tn G (ca1 (ok0 (fl n x z)) (ca3 (ok0 (tQ n x (gt a.1 0) 1 1 m C)))) (.ca cf0 (.mu 1 (.pk (v := .pp (a.1.flatMap ae.c) ((0 : Int).toNat * 2)) (tr (au b)) (.pk (v := .agg (ae.c (gt a.1 0))) (tr (y := br.ofP (ei (decide (2 <= ((a.1.flatMap ae.c).drop ((0 : Int).toNat * 2)).length)) (.agg (((a.1.flatMap ae.c).drop ((0 : Int).toNat * 2)).take 2)))) (b6 ae.len (aC b) (by decide) (by omega : (0 : Int).toNat * 2 = (0 : Int).toNat * 2 + 0) kRf)) (.ca (cfF cf0) (.mu 5 ?_))))))
 refine .done (kRa ?_)
 refine .n2 93 [(1, slT ae.c a.1), (2, ag f.2), (3, .hp 0 0), (4, ag m.1), (5, ag m.2)] [.own (ak.c f.1)] (.seq ?_)
 obtain ⟨q, D, hr⟩ := bd hr
 refine .g1 G (ok0 (mz n 147 16 q D)) (.ca cf0 (.mu 6 (.done (.n2 93 [(1, slT ae.c a.1), (2, ag f.2), (3, .hp 0 0), (4, ag m.1), (5, ag m.2), (6, .hp 1 0)] [.own (ak.c f.1), .own (ak.c q.1)] (.seq ?_)))))
 rcases bT ((f.2 : Int) == 0) with d | d
 ·replace hr := cg d hr
  rcases bT ((m.2 : Int) == 0) with e | e
  ·replace hr := cg e hr
   rcases bT ((m.1 : Int) == 1) with h | h
   ·replace hr := cg h hr
    obtain ⟨M, s, hr⟩ := bd hr
    rcases bT M with p | p
    ·subst p
     replace hr := cg rfl hr
     obtain ⟨E, F, H, I, hr⟩ := bd2 hr
     refine .gn G (ca1 (ok0 (jg n f.1 q.1 true s)) (ca1 (ok0 (fl n E F)) (ca3 (ok0 (tH n E 1 a.1 H I))))) (.mu 1 (.p0 (v := aB true) (eB d) (.mu 2 (.pure (v := aB true) kRf (eB e) (.mu 3 (.pure (v := aB true) kRf (eB h) (.mu 4 (.ca cf0 (.mu 2 (.ca (cfF cf0) (.mu 1 (.ca (cfF (cfF cf0)) (.mu 3 (.done (.ret ?_)))))))))))))))
     obtain rfl := oi hr
     exact aK.r1 [aB ((H : Int) == 0)]
    subst p
    replace hr := ch rfl hr
    refine .g1 G (ok0 (jg n f.1 q.1 false s)) (.mu 1 (.p0 (v := aB true) (eB d) (.mu 2 (.pure (v := aB true) kRf (eB e) (.mu 3 (.pure (v := aB true) kRf (eB h) (.mu 4 (.ca cf0 (.mu 8 (.done (.ret ?_)))))))))))
    obtain rfl := oi hr
    exact aK.r1 [aB false]
   replace hr := ch h hr
   refine .r0 G (.mu 1 (.p0 (v := aB true) (eB d) (.mu 2 (.pure (v := aB true) kRf (eB e) (.mu 3 (.pure (v := aB false) kRf (eB h) (.mu 13 (.done (.ret ?_)))))))))
   obtain rfl := oi hr
   exact aK.r1 [aB false]
  replace hr := ch e hr
  refine .r0 G (.mu 1 (.p0 (v := aB true) (eB d) (.mu 2 (.pure (v := aB false) kRf (eB e) (.mu 17 (.done (.ret ?_)))))))
  obtain rfl := oi hr
  exact aK.r1 [aB false]
 replace hr := ch d hr
 refine .r0 G (.mu 1 (.p0 (v := aB false) (eB d) (.mu 20 (.done (.ret ?_)))))
 obtain rfl := oi hr
 exact aK.r1 [aB false]

theorem ql (n : Nat) (g : al) (a : Int) (r : Bool) (hr : kP n g a = some r) : aO Tryz.prog 13 [.agg (al.c g), ag a] (aB r) := by
 unfold kP at hr
 refine aO.bd G Tryz.func13 [.tmp 4] ?_
 unfold Tryz.f13
 simp only [gS]
 refine .seq (.r5 G [1] [(2, .hp 0 0)] [.own (al.c g)] (.seq (.ru G (.ret ?_))))
 obtain rfl := oi hr
 exact aK.r1 [aB (decide ((g.Z.length : Int) <= a))]

theorem qG (n : Nat) {b : Int} {a : Int} (h : ([.at (.int .i64 b)] : List AV) = [.at (.int .i64 a)]) : dD n b = dD n a := by
 obtain rfl := eN h
 rfl
theorem gP (n : Nat) (b : Int) (r : Bool) (hr : dD n b = some r) : aO Tryz.prog 62 [ag b] (aB r) := by
 unfold dD at hr
 refine aO.bd G Tryz.func62 [.tmp 2] ?_
 unfold Tryz.f62
 simp only [gS]
 refine .seq (.r4 G [0] [] (.seq ?_))
 rcases bT (decide (b < (-1048576))) with a | a
 ·replace hr := cg a hr
  refine .r0 G (.mu 1 (.p0 (v := aB true) (eB a) (.mu 5 (.done (.ret ?_)))))
  obtain rfl := oi hr
  exact aK.r1 [aB true]
 replace hr := ch a hr
 refine .r0 G (.mu 1 (.p0 (v := aB false) (eB a) (.mu 5 (.done (.ret ?_)))))
 obtain rfl := oi hr
 exact aK.r1 [aB (decide (b > 1048576))]

theorem o5 (n : Nat) (g : al) (r : Int) (hr : fG n g = some r) : aO Tryz.prog 23 [.agg (al.c g)] (ag r) := by
 unfold fG at hr
 refine aO.bd G Tryz.func23 [.tmp 2] ?_
 unfold Tryz.f23
 simp only [gS]
 refine .seq (.r2 G 72 [(1, .hp 0 0)] [.own (al.c g)] (.seq (.seq ?_)))
 rcases bT (decide (g.Width < 2)) with b | b
 ·replace hr := cg b hr
  refine .r0 G (.mu 2 (.p0 (v := aB true) (eB b) (.mu 41 (.done (.nh [1, 48] [.own (al.c g)] (.cT kRf (.seq (.ru G (.ret ?_)))))))))
  obtain rfl := oi hr
  exact aK.r1 [ag 2]
 replace hr := ch b hr
 rcases bT (decide (g.Width > 64)) with d | d
 ·replace hr := cg d hr
  refine .r0 G (.mu 2 (.p0 (v := aB false) (eB b) (.mu 3 (.pure (v := aB true) kRf (eB d) (.mu 37 (.done (.nh [1, 48] [.own (al.c g)] (.cT kRf (.seq (.ru G (.ret ?_)))))))))))
  obtain rfl := oi hr
  exact aK.r1 [ag 2]
 replace hr := ch d hr
 rcases bT (decide (g.Height < 2)) with f | f
 ·replace hr := cg f hr
  refine .r0 G (.mu 2 (.p0 (v := aB false) (eB b) (.mu 3 (.pure (v := aB false) kRf (eB d) (.mu 4 (.pure (v := aB true) kRf (eB f) (.mu 32 (.done (.nh [1, 48] [.own (al.c g)] (.cT kRf (.seq (.ru G (.ret ?_)))))))))))))
  obtain rfl := oi hr
  exact aK.r1 [ag 2]
 replace hr := ch f hr
 rcases bT (decide (g.Height > 64)) with i | i
 ·replace hr := cg i hr
  refine .r0 G (.mu 2 (.p0 (v := aB false) (eB b) (.mu 3 (.pure (v := aB false) kRf (eB d) (.mu 4 (.pure (v := aB false) kRf (eB f) (.mu 4 (.pure (v := aB true) kRf (eB i) (.mu 27 (.done (.nh [1, 48] [.own (al.c g)] (.cT kRf (.seq (.ru G (.ret ?_)))))))))))))))
  obtain rfl := oi hr
  exact aK.r1 [ag 2]
 replace hr := ch i hr
 rcases bT (decide (g.Step < 2)) with j | j
 ·replace hr := cg j hr
  refine .r0 G (.mu 2 (.p0 (v := aB false) (eB b) (.mu 3 (.pure (v := aB false) kRf (eB d) (.mu 4 (.pure (v := aB false) kRf (eB f) (.mu 4 (.pure (v := aB false) kRf (eB i) (.mu 4 (.pure (v := aB true) kRf (eB j) (.mu 22 (.done (.nh [1, 48] [.own (al.c g)] (.cT kRf (.seq (.ru G (.ret ?_)))))))))))))))))
  obtain rfl := oi hr
  exact aK.r1 [ag 2]
 replace hr := ch j hr
 rcases bT (decide (g.Step > 65536)) with l | l
 ·replace hr := cg l hr
  refine .r0 G (.mu 2 (.p0 (v := aB false) (eB b) (.mu 3 (.pure (v := aB false) kRf (eB d) (.mu 4 (.pure (v := aB false) kRf (eB f) (.mu 4 (.pure (v := aB false) kRf (eB i) (.mu 4 (.pure (v := aB false) kRf (eB j) (.mu 4 (.pure (v := aB true) kRf (eB l) (.mu 17 (.done (.nh [1, 48] [.own (al.c g)] (.cT kRf (.seq (.ru G (.ret ?_)))))))))))))))))))
  obtain rfl := oi hr
  exact aK.r1 [ag 2]
 replace hr := ch l hr
 rcases bT (((g.Step.tmod 2) : Int) != 0) with o | o
 ·replace hr := cg o hr
  refine .r0 G (.mu 2 (.p0 (v := aB false) (eB b) (.mu 3 (.pure (v := aB false) kRf (eB d) (.mu 4 (.pure (v := aB false) kRf (eB f) (.mu 4 (.pure (v := aB false) kRf (eB i) (.mu 4 (.pure (v := aB false) kRf (eB j) (.mu 4 (.pure (v := aB false) kRf (eB l) (.mu 5 (.pure (v := aB true) kRf (eB o) (.mu 11 (.done (.nh [1, 48] [.own (al.c g)] (.cT kRf (.seq (.ru G (.ret ?_)))))))))))))))))))))
  obtain rfl := oi hr
  exact aK.r1 [ag 2]
 replace hr := ch o hr
 obtain ⟨F, u, hr⟩ := bd hr
 rcases bT F with p | p
 ·subst p
  replace hr := cg rfl hr
  refine .g1 G (ok0 (gP n g.X0 true u)) (.mu 2 (.p0 (v := aB false) (eB b) (.mu 3 (.pure (v := aB false) kRf (eB d) (.mu 4 (.pure (v := aB false) kRf (eB f) (.mu 4 (.pure (v := aB false) kRf (eB i) (.mu 4 (.pure (v := aB false) kRf (eB j) (.mu 4 (.pure (v := aB false) kRf (eB l) (.mu 5 (.pure (v := aB false) kRf (eB o) (.mu 4 (.ca cf0 (.mu 6 (.done (.nh [1, 48] [.own (al.c g)] (.cT kRf (.seq (.ru G (.ret ?_)))))))))))))))))))))))
  obtain rfl := oi hr
  exact aK.r1 [ag 2]
 subst p
 replace hr := ch rfl hr
 obtain ⟨z, s, hr⟩ := bd hr
 refine .gn G (ca1 (ok0 (gP n g.X0 false u)) (ca3 (ok0 (gP n g.Y0 z s)))) (.mu 2 (.p0 (v := aB false) (eB b) (.mu 3 (.pure (v := aB false) kRf (eB d) (.mu 4 (.pure (v := aB false) kRf (eB f) (.mu 4 (.pure (v := aB false) kRf (eB i) (.mu 4 (.pure (v := aB false) kRf (eB j) (.mu 4 (.pure (v := aB false) kRf (eB l) (.mu 5 (.pure (v := aB false) kRf (eB o) (.mu 4 (.ca cf0 (.mu 4 (.ca (cfA (fun h => by rw [sv s u (qG n h)]) cf0) (.mu 1 (.done (.nh [1, 48] [.own (al.c g)] ?_)))))))))))))))))))))
 refine .cd hr ?_ ?_ <;> intro B hr
 ·refine .seq (.ru G (.ret ?_))
  obtain rfl := oi hr
  exact aK.r1 [ag 2]
 refine .skip (.seq (.seq (.r4 G [1] [(57, aB (((g.Z.length : Int) : Int) != (FK (g.Width * g.Height))))] ?_)))
 refine .cd hr ?_ ?_ <;> intro C hr
 ·refine .seq (.ru G (.ret ?_))
  obtain rfl := oi hr
  exact aK.r1 [ag 4]
 refine .skip (.seq (.seq (.r3 G 72 [(59, bE g.Z), (60, ag (g.Z.length : Int)), (61, ag 0)] (.block ?_))))
 replace hr := bd hr; obtain ⟨w, q, hr⟩ := hr
 refine .aN (σ := fun H => match H with | a => ⟨mkS 72 0 [(59, bE g.Z), (60, ag (g.Z.length : Int)), (61, ag a)], []⟩) (Q := fun x st' => match (generalizing := false) w with | .inl _ => x = .exit 0 /\ Wk 0 st' ⟨mkS 72 0 [], []⟩ | .inr (r0) => x = .ret /\ aK Tryz.prog [.tmp 2] (ag r0) .ret st') q ((Wk.gc [59, 60, 61] [] rfl pK0).to) ?_ ?_
 ·clear hr
  rintro m a hr
  refine CQ.sh ?_
  refine .seq (.r4 G [59, 60, 61] [(62, aB (decide (a < (g.Z.length : Int))))] (.seq ?_))
  refine .cd hr ?_ ?_ <;> intro D hr
  ·refine .skip (.seq (.block (.seq ?_)))
   obtain ⟨t, hr⟩ := gd hr
   refine .r0 G (.p0 (v := .pp (g.Z.flatMap (iC .i64)) (a.toNat * 1)) (tr (au t)) (.p0 (v := ag (gt g.Z a)) (tr (aE (aF (aG .i64) (aC t) z1 (by omega : a.toNat * 1 = a.toNat * 1 + 0) kRf))) (.mu 1 (.done (.nh [4, 59, 60, 61] [] (.seq ?_))))))
   rcases bT (((gt g.Z a) : Int) != (-2147483648)) with k | k
   ·replace hr := cg k hr
    obtain ⟨A, y, hr⟩ := bd hr
    refine .g1 G (ok0 (gP n (gt g.Z a) A y)) (.mu 1 (.p0 (v := aB true) (eB k) (.mu 2 (.ca cf0 (.mu 1 (.done (.nh [59, 60, 61, 70] [] ?_)))))))
    refine .cd hr ?_ ?_ <;> intro E hr
    ·refine .seq (.ru G (.ret ?_))
     obtain rfl := oi hr
     exact ⟨rfl, aK.ret (vs := [ag 2]) kRf (Sn.pure rfl)⟩
    refine .skip (.pop (.ru G ?_))
    exact av (FK (a + 1)) hr ((Wk.gc [59, 60, 61] [] rfl pK0).to)
   replace hr := ch k hr
   refine .r0 G (.mu 1 (.p0 (v := aB false) (eB k) (.mu 4 (.done (.nh [59, 60, 61, 70] [] (.cF kRf (.skip (.pop (.ru G ?_)))))))))
   exact av (FK (a + 1)) hr ((Wk.gc [59, 60, 61] [] rfl pK0).to)
  refine .leave rfl ?_
  obtain rfl := oi hr
  exact ⟨rfl, ((Wk.gc [] [] rfl pK0).to)⟩
 rcases w with ⟨⟩ | r0
 ·rintro x st' e
  clear q
  obtain ⟨rfl, e⟩ := e
  refine aW _ rfl (.wk e (.seq (.ru G (.ret ?_))))
  obtain rfl := oi hr
  exact aK.r1 [ag 0]
 rintro x st' e
 clear q
 obtain ⟨rfl, e⟩ := e
 obtain rfl := oi hr
 exact iM _ e

theorem oa (n : Nat) (g : al) (level : Int) (r : Int) (hr : eY n g level = some r) : aO Tryz.prog 15 [.agg (al.c g), ag level] (ag r) := by
 unfold eY at hr
 refine aO.bd G Tryz.func15 [.tmp 4] ?_
 unfold Tryz.f15
 simp only [gS]
 refine .seq (.r5 G [1] [(2, .hp 0 0)] [.own (al.c g)] (.seq (.seq ?_)))
 obtain ⟨b, d, hr⟩ := bd hr
 refine .g1 G (ok0 (o5 n g b d)) (.mu 1 (.ca cf0 (.mu 1 (.done (.nh [1, 5] [.own (al.c g)] (.seq (.r4 G [1, 5] [(9, aB ((b : Int) != 0))] ?_)))))))
 refine .cd hr ?_ ?_ <;> intro e hr
 ·refine .seq (.ru G (.ret ?_))
  obtain rfl := oi hr
  exact aK.r1 [ag b]
 refine .skip (.seq (.seq (.r4 G [1] [(13, aB (((level.tmod 2) : Int) == 0))] ?_)))
 refine .cd hr ?_ ?_ <;> intro f hr
 ·refine .seq (.ru G (.ret ?_))
  obtain rfl := oi hr
  exact aK.r1 [ag 1]
 refine .skip (.seq (.seq ?_))
 rcases bT (decide (level < (-2097153))) with a | a
 ·replace hr := cg a hr
  refine .r0 G (.mu 1 (.p0 (v := aB true) (eB a) (.mu 4 (.done (.nh [19] [.own (al.c g)] (.cT kRf (.seq (.ru G (.ret ?_)))))))))
  obtain rfl := oi hr
  exact aK.r1 [ag 2]
 replace hr := ch a hr
 refine .r0 G (.mu 1 (.p0 (v := aB false) (eB a) (.mu 4 (.done (.nh [19] [.own (al.c g)] ?_)))))
 refine .cd hr ?_ ?_ <;> intro h hr
 ·refine .seq (.ru G (.ret ?_))
  obtain rfl := oi hr
  exact aK.r1 [ag 2]
 refine .skip (.seq (.ru G (.ret ?_)))
 obtain rfl := oi hr
 exact aK.r1 [ag 0]

theorem m9 (n : Nat) (g : al) (r : List (A3 Int)) (hr : dW n g = some r) : aO Tryz.prog 67 [.agg (al.c g)] (slT ar.c r) := by
 unfold dW at hr
 refine aO.bd G Tryz.func67 [.tmp 2] ?_
 unfold Tryz.f67
 simp only [gS]
 refine .seq (.r2 G 87 [(1, .hp 0 0)] [.own (al.c g)] (.seq (.r5 G [1] [(3, .hs 1 0 0 3)] [.own (al.c g), .own []] (.seq (.seq (.r4 G [1, 3] [(12, ag (FK (g.Height - 1))), (13, ag 0)] (.block ?_)))))))
 replace hr := bd hr; obtain ⟨A, B, hr⟩ := hr
 refine .aN (σ := fun N => match N with | (C, e) => ⟨mkS 87 0 [(1, .hp 0 0), (3, .hs 1 0 C.length 3), (12, ag (FK (g.Height - 1))), (13, ag e)], [.own (al.c g), .own (C.flatMap ar.c)]⟩) (Q := fun x st' => x = .exit 0 /\ Wk 0 st' ⟨mkS 87 0 [(3, .hs 0 0 A.length 3)], [.own (A.flatMap ar.c)]⟩) B ((Wk.gc [1, 3, 12, 13] [(0, true), (1, false)] rfl (pKt (pKc trivial))).to) ?_ ?_
 ·clear hr
  rintro m ⟨C, e⟩ hr
  refine CQ.sh ?_
  refine .seq (.r4 G [1, 3, 12, 13] [(14, aB (decide (e < (FK (g.Height - 1)))))] (.seq ?_))
  refine .cd hr ?_ ?_ <;> intro T hr
  ·refine .skip (.seq (.block (.seq (.r4 G [1, 3, 12, 13] [(4, ag e)] (.seq (.r4 G [1, 3, 4, 12, 13] [(18, ag (FK (g.Width - 1))), (19, ag 0)] (.block ?_)))))))
   replace hr := bd hr; obtain ⟨q, D, hr⟩ := hr
   refine .aN (σ := fun N => match N with | (f, i) => ⟨mkS 87 0 [(1, .hp 0 0), (3, .hs 1 0 f.length 3), (4, ag e), (12, ag (FK (g.Height - 1))), (13, ag e), (18, ag (FK (g.Width - 1))), (19, ag i)], [.own (al.c g), .own (f.flatMap ar.c)]⟩) (Q := fun x st' => x = .exit 2 /\ Wk 0 st' ⟨mkS 87 0 [(1, .hp 0 0), (3, .hs 1 0 q.length 3), (12, ag (FK (g.Height - 1))), (13, ag e)], [.own (al.c g), .own (q.flatMap ar.c)]⟩) D ((Wk.gc [1, 3, 4, 12, 13, 18, 19] [(0, true), (1, false)] rfl (pKt (pKo ar.c ar.pure C trivial))).to) ?_ ?_
   ·clear hr
    rintro m ⟨f, i⟩ hr
    refine CQ.sh ?_
    refine .seq (.r4 G [1, 3, 4, 12, 13, 18, 19] [(20, aB (decide (i < (FK (g.Width - 1)))))] (.seq ?_))
    refine .cd hr ?_ ?_ <;> intro O hr
    ·refine .skip (.seq (.block (.seq (.r4 G [1, 3, 4, 12, 13, 18, 19] [(5, ag i)] (.seq (.r4 G [1, 3, 4, 12, 13, 18, 19] [(6, ag (FK ((FK (e * g.Width)) + i)))] ?_))))))
     obtain ⟨o, I, hr⟩ := bd hr
     refine .wk ((Wk.refl _).to (c := ⟨mkS 87 0 [(1, .hp 0 0), (3, .hs 1 0 f.length 3), (4, ag e), (6, ag o), (12, ag (FK (g.Height - 1))), (13, ag e), (18, ag (FK (g.Width - 1))), (19, ag i)], [.own (al.c g), .own (f.flatMap ar.c)]⟩) (by rw [oi I]; first | done | kernel_rfl)) <| .seq <| .r5 G [1, 3, 4, 12, 13, 18, 19] [(48, .hs 2 0 2 3), (49, ag 2), (50, ag 0)] [.own (al.c g), .own (f.flatMap ar.c), .own [ag o, ag (FK (o + 1)), ag (FK ((FK (o + g.Width)) + 1)), ag o, ag (FK ((FK (o + g.Width)) + 1)), ag (FK (o + g.Width))]] <| .block ?_
     obtain ⟨b, J, hr⟩ := bd hr
     refine .wk ((Wk.refl _).to (c := ⟨mkS 87 0 [(1, .hp 0 0), (3, .hs 1 0 f.length 3), (4, ag e), (12, ag (FK (g.Height - 1))), (13, ag e), (18, ag (FK (g.Width - 1))), (19, ag i), (48, .hs 2 0 b.length 3), (49, ag 2), (50, ag 0)], [.own (al.c g), .own (f.flatMap ar.c), .own (b.flatMap ar.c)]⟩) (by rw [<- oi J]; kernel_rfl)) ?_
     replace hr := bd hr; obtain ⟨s, E, hr⟩ := hr
     refine .aN (σ := fun N => match N with | (d, a) => ⟨mkS 87 0 [(1, .hp 0 0), (3, .hs 1 0 d.length 3), (4, ag e), (12, ag (FK (g.Height - 1))), (13, ag e), (18, ag (FK (g.Width - 1))), (19, ag i), (48, .hs 2 0 b.length 3), (49, ag 2), (50, ag a)], [.own (al.c g), .own (d.flatMap ar.c), .own (b.flatMap ar.c)]⟩) (Q := fun x st' => x = .exit 4 /\ Wk 0 st' ⟨mkS 87 0 [(1, .hp 0 0), (3, .hs 1 0 s.length 3), (4, ag e), (12, ag (FK (g.Height - 1))), (13, ag e), (18, ag (FK (g.Width - 1))), (19, ag i)], [.own (al.c g), .own (s.flatMap ar.c)]⟩) E ((Wk.gc [1, 3, 4, 12, 13, 18, 19, 48, 49, 50] [(0, true), (1, false), (2, false)] rfl (pKt (pKo ar.c ar.pure f (pKo ar.c ar.pure b trivial)))).to) ?_ ?_
     ·clear hr
      rintro m ⟨d, a⟩ hr
      refine CQ.sh ?_
      refine .seq (.r4 G [1, 3, 4, 12, 13, 18, 19, 48, 49, 50] [(51, aB (decide (a < 2)))] (.seq ?_))
      refine .cd hr ?_ ?_ <;> intro R hr
      ·refine .skip (.seq (.block (.seq ?_)))
       obtain ⟨F, hr⟩ := gd hr
       refine .r0 G (.p0 (v := .hp 2 (0 + a.toNat * 3)) (tr (au F)) (.p0 (v := .agg (ar.c (gt b a))) (tr (y := br.ofP (ei (decide (3 <= ((b.flatMap ar.c).drop (0 + a.toNat * 3)).length)) (.agg (((b.flatMap ar.c).drop (0 + a.toNat * 3)).take 3)))) (b6 ar.len (aC F) (by decide) (by omega : 0 + a.toNat * 3 = a.toNat * 3 + 0) kRf)) (.mu 2 (.done (.nh [1, 3, 4, 8, 12, 13, 18, 19, 48, 49, 50] [.own (al.c g), .own (d.flatMap ar.c), .own (b.flatMap ar.c), .own (ar.c (gt b a))] (.seq ?_))))))
       obtain ⟨j, hr⟩ := gd hr
       rcases bT (((gt g.Z (gt b a).e0) : Int) != (-2147483648)) with k | k
       ·replace hr := cg k hr
        obtain ⟨t, hr⟩ := gd hr
        rcases bT (((gt g.Z (gt b a).e1) : Int) != (-2147483648)) with p | p
        ·replace hr := cg p hr
         obtain ⟨H, hr⟩ := gd hr
         refine .r0 G (.mu 4 (.p0 (v := .pp (g.Z.flatMap (iC .i64)) ((gt b a).e0.toNat * 1)) (tr (au j)) (.p0 (v := ag (gt g.Z (gt b a).e0)) (tr (aE (aF (aG .i64) (aC j) z1 (by omega : (gt b a).e0.toNat * 1 = (gt b a).e0.toNat * 1 + 0) kRf))) (.p0 (v := aB true) (eB k) (.mu 5 (.pure (v := .pp (g.Z.flatMap (iC .i64)) ((gt b a).e1.toNat * 1)) kRf (tr (au t)) (.pure (v := ag (gt g.Z (gt b a).e1)) kRf (tr (aE (aF (aG .i64) (aC t) z1 (by omega : (gt b a).e1.toNat * 1 = (gt b a).e1.toNat * 1 + 0) kRf))) (.pure (v := aB true) kRf (eB p) (.mu 6 (.pure (v := .pp (g.Z.flatMap (iC .i64)) ((gt b a).e2.toNat * 1)) kRf (tr (au H)) (.pure (v := ag (gt g.Z (gt b a).e2)) kRf (tr (aE (aF (aG .i64) (aC H) z1 (by omega : (gt b a).e2.toNat * 1 = (gt b a).e2.toNat * 1 + 0) kRf))) (.mu 2 (.done (.nh [1, 3, 4, 8, 12, 13, 18, 19, 48, 49, 50, 78] [.own (al.c g), .own (d.flatMap ar.c), .own (b.flatMap ar.c), .own (ar.c (gt b a))] ?_))))))))))))))
         refine .cd hr ?_ ?_ <;> intro S hr
         ·obtain ⟨L, M, hr⟩ := gd2 hr
          refine .r0 G (.mu 3 (.e0 (v := .hs 5 0 (d ++ [(gt b a)]).length 3) (ws := [(1, .dead), (5, .own ((d ++ [(gt b a)]).flatMap ar.c))]) (tr (dB (new := (ar.c (gt b a))) (l := d) (xs := [(gt b a)]) ar.len rfl rfl kRf L M)) (.mu 1 (.done (.pop (.ru G ?_))))))
          exact av (d ++ [(gt b a)], FK (a + 1)) hr ((Wk.gc [1, 3, 4, 12, 13, 18, 19, 48, 49, 50] [(0, true), (5, false), (2, false)] rfl (pKt (pKo ar.c ar.pure (d ++ [(gt b a)]) (pKo ar.c ar.pure b trivial)))).to)
         refine .skip (.pop (.ru G ?_))
         exact av (d, FK (a + 1)) hr ((Wk.gc [1, 3, 4, 12, 13, 18, 19, 48, 49, 50] [(0, true), (1, false), (2, false)] rfl (pKt (pKo ar.c ar.pure d (pKo ar.c ar.pure b trivial)))).to)
        replace hr := ch p hr
        refine .r0 G (.mu 4 (.p0 (v := .pp (g.Z.flatMap (iC .i64)) ((gt b a).e0.toNat * 1)) (tr (au j)) (.p0 (v := ag (gt g.Z (gt b a).e0)) (tr (aE (aF (aG .i64) (aC j) z1 (by omega : (gt b a).e0.toNat * 1 = (gt b a).e0.toNat * 1 + 0) kRf))) (.p0 (v := aB true) (eB k) (.mu 5 (.pure (v := .pp (g.Z.flatMap (iC .i64)) ((gt b a).e1.toNat * 1)) kRf (tr (au t)) (.pure (v := ag (gt g.Z (gt b a).e1)) kRf (tr (aE (aF (aG .i64) (aC t) z1 (by omega : (gt b a).e1.toNat * 1 = (gt b a).e1.toNat * 1 + 0) kRf))) (.pure (v := aB false) kRf (eB p) (.mu 10 (.done (.nh [1, 3, 4, 8, 12, 13, 18, 19, 48, 49, 50, 78] [.own (al.c g), .own (d.flatMap ar.c), .own (b.flatMap ar.c), .own (ar.c (gt b a))] (.cF kRf (.skip (.pop (.ru G ?_)))))))))))))))
        exact av (d, FK (a + 1)) hr ((Wk.gc [1, 3, 4, 12, 13, 18, 19, 48, 49, 50] [(0, true), (1, false), (2, false)] rfl (pKt (pKo ar.c ar.pure d (pKo ar.c ar.pure b trivial)))).to)
       replace hr := ch k hr
       refine .r0 G (.mu 4 (.p0 (v := .pp (g.Z.flatMap (iC .i64)) ((gt b a).e0.toNat * 1)) (tr (au j)) (.p0 (v := ag (gt g.Z (gt b a).e0)) (tr (aE (aF (aG .i64) (aC j) z1 (by omega : (gt b a).e0.toNat * 1 = (gt b a).e0.toNat * 1 + 0) kRf))) (.p0 (v := aB false) (eB k) (.mu 18 (.done (.nh [1, 3, 4, 8, 12, 13, 18, 19, 48, 49, 50, 78] [.own (al.c g), .own (d.flatMap ar.c), .own (b.flatMap ar.c), .own (ar.c (gt b a))] (.cF kRf (.skip (.pop (.ru G ?_)))))))))))
       exact av (d, FK (a + 1)) hr ((Wk.gc [1, 3, 4, 12, 13, 18, 19, 48, 49, 50] [(0, true), (1, false), (2, false)] rfl (pKt (pKo ar.c ar.pure d (pKo ar.c ar.pure b trivial)))).to)
      refine .leave rfl ?_
      obtain rfl := oi hr
      exact ⟨rfl, ((Wk.gc [1, 3, 4, 12, 13, 18, 19] [(0, true), (1, false)] rfl (pKt (pKo ar.c ar.pure d trivial))).to)⟩
     rintro x st' u
     clear E
     obtain ⟨rfl, u⟩ := u
     refine aW _ rfl (.pop (.wk u (.ru G ?_)))
     exact av (s, FK (i + 1)) hr ((Wk.gc [1, 3, 4, 12, 13, 18, 19] [(0, true), (1, false)] rfl (pKt (pKo ar.c ar.pure s trivial))).to)
    refine .leave rfl ?_
    obtain rfl := oi hr
    exact ⟨rfl, ((Wk.gc [1, 3, 12, 13] [(0, true), (1, false)] rfl (pKt (pKo ar.c ar.pure f trivial))).to)⟩
   rintro x st' w
   clear D
   obtain ⟨rfl, w⟩ := w
   refine aW _ rfl (.pop (.wk w (.ru G ?_)))
   exact av (q, FK (e + 1)) hr ((Wk.gc [1, 3, 12, 13] [(0, true), (1, false)] rfl (pKt (pKo ar.c ar.pure q trivial))).to)
  refine .leave rfl ?_
  obtain rfl := oi hr
  exact ⟨rfl, ((Wk.gc [3] [(1, false)] rfl (pKo ar.c ar.pure C trivial)).to)⟩
 rintro x st' z
 clear B
 obtain ⟨rfl, z⟩ := z
 refine aW _ rfl (.wk z (.seq (.r3 G 87 [(2, .hs 0 0 A.length 3)] (.ret ?_))))
 obtain rfl := oi hr
 exact aK.ret (vs := [.hs 0 0 A.length 3]) kRf (Sn.hs rfl (.inl rfl) (SnC.pure (a7 ar.pure _)) (fun h => bZ h))

theorem oC {g : al} {level : Int} {k : Int} {a : al} {level_ : Int} {b : Int} (h : ([.agg [.at (.int .i64 g.X0), .at (.int .i64 g.Y0), .at (.int .i64 g.Step), .at (.int .i64 g.Width), .at (.int .i64 g.Height), slT (iC .i64) g.Z], .at (.int .i64 level), .at (.int .i64 k)] : List AV) = [.agg [.at (.int .i64 a.X0), .at (.int .i64 a.Y0), .at (.int .i64 a.Step), .at (.int .i64 a.Width), .at (.int .i64 a.Height), slT (iC .i64) a.Z], .at (.int .i64 level_), .at (.int .i64 b)]) : g = a /\ level = level_ /\ k = b := by
 obtain ⟨_, _, _, _, _, _⟩ := g
 obtain ⟨_, _, _, _, _, _⟩ := a
 simp only [List.cons.injEq, AV.agg.injEq, AV.at.injEq, Value.int.injEq, Value.bool.injEq, AV.fn.injEq, AV.pp.injEq, true_and, and_true, dV] at h
 simp_all
theorem fR (n : Nat) {g : al} {level : Int} {k : Int} {a : al} {level_ : Int} {b : Int} (h : ([.agg [.at (.int .i64 g.X0), .at (.int .i64 g.Y0), .at (.int .i64 g.Step), .at (.int .i64 g.Width), .at (.int .i64 g.Height), slT (iC .i64) g.Z], .at (.int .i64 level), .at (.int .i64 k)] : List AV) = [.agg [.at (.int .i64 a.X0), .at (.int .i64 a.Y0), .at (.int .i64 a.Step), .at (.int .i64 a.Width), .at (.int .i64 a.Height), slT (iC .i64) a.Z], .at (.int .i64 level_), .at (.int .i64 b)]) : bn n g level k = bn n a level_ b := by
 obtain ⟨rfl, rfl, rfl⟩ := oC h
 rfl
theorem bl (n : Nat) (g : al) (level : Int) (k : Int) (r : Bool) (hr : bn n g level k = some r) : aO Tryz.prog 27 [.agg (al.c g), ag level, ag k] (aB r) := by
 unfold bn at hr
 refine aO.bd G Tryz.func27 [.tmp 6] ?_
 unfold Tryz.f27
 simp only [gS]
 refine .seq (.r5 G [1, 2] [(3, .hp 0 0)] [.own (al.c g)] (.seq ?_))
 obtain ⟨a, hr⟩ := gd hr
 refine .r0 G (.mu 3 (.p0 (v := .pp (g.Z.flatMap (iC .i64)) (k.toNat * 1)) (tr (au a)) (.p0 (v := ag (gt g.Z k)) (tr (aE (aF (aG .i64) (aC a) z1 (by omega : k.toNat * 1 = k.toNat * 1 + 0) kRf))) (.mu 4 (.done (.ret ?_))))))
 obtain rfl := oi hr
 exact aK.r1 [aB (decide ((FK (2 * (gt g.Z k))) > level))]

theorem gp (n : Nat) (a : Int) (b : Int) (r : A2 Int) (hr : ff n a b = some r) : aO Tryz.prog 68 [ag a, ag b] (.agg (aj.c r)) := by
 unfold ff at hr
 refine aO.bd G Tryz.func68 [.cell 4 49] ?_
 unfold Tryz.f68
 simp only [gS]
 refine .seq (.r5 G [0, 1] [(4, .hp 0 0)] [.own [ag 0, ag 0]] (.seq (.r5 G [4] [] [.own [ag (mn a b), ag (mx a b)]] (.ret ?_))))
 obtain rfl := oi hr
 exact aK.r1 [.agg [ag (mn a b), ag (mx a b)]]

theorem nA (n : Nat) (g : al) (level : Int) (r : List (A2 (A2 Int))) (hr : eC n g level = some r) : aO Tryz.prog 46 [.agg (al.c g), ag level] (slT aI.c r) := by
 unfold eC at hr
 refine aO.bd G Tryz.func46 [.tmp 4] ?_
 unfold Tryz.f46
 simp only [gS]
 refine .seq (.r5 G [1] [(2, .hp 0 0)] [.own (al.c g)] (.seq (.r5 G [1, 2] [(5, .hs 1 0 0 4)] [.own (al.c g), .own []] (.seq (.seq ?_)))))
 obtain ⟨o, oD, hr⟩ := bd hr
 refine .g1 G (ok0 (m9 n g o oD)) (.mu 1 (.ca cf0 (.mu 2 (.done (.nh [1, 2, 5, 15, 16, 17] [.own (al.c g), .own []] (.block ?_))))))
 replace hr := bd hr; obtain ⟨N, O, hr⟩ := hr
 refine .aN (σ := fun z0 => match z0 with | (d, b) => ⟨mkS 71 0 [(1, ag level), (2, .hp 0 0), (5, .hs 1 0 d.length 4), (15, slT ar.c o), (16, ag (o.length : Int)), (17, ag b)], [.own (al.c g), .own (d.flatMap aI.c)]⟩) (Q := fun x st' => x = .exit 0 /\ Wk 0 st' ⟨mkS 71 0 [(5, .hs 0 0 N.length 4)], [.own (N.flatMap aI.c)]⟩) O ((Wk.gc [1, 2, 5, 15, 16, 17] [(0, true), (1, false)] rfl (pKt (pKc trivial))).to) ?_ ?_
 ·clear hr
  rintro m ⟨d, b⟩ hr
  refine CQ.sh ?_
  refine .seq (.r4 G [1, 2, 5, 15, 16, 17] [(18, aB (decide (b < (o.length : Int))))] (.seq ?_))
  refine .cd hr ?_ ?_ <;> intro pK hr
  ·refine .skip (.seq (.block (.seq ?_)))
   obtain ⟨R, hr⟩ := gd hr
   refine .r0 G (.p0 (v := .pp (o.flatMap ar.c) (b.toNat * 3)) (tr (au R)) (.p0 (v := .agg (ar.c (gt o b))) (tr (y := br.ofP (ei (decide (3 <= ((o.flatMap ar.c).drop (b.toNat * 3)).length)) (.agg (((o.flatMap ar.c).drop (b.toNat * 3)).take 3)))) (b6 ar.len (aC R) (by decide) (by omega : b.toNat * 3 = b.toNat * 3 + 0) kRf)) (.mu 2 (.done (.nh [1, 2, 5, 7, 15, 16, 17] [.own (al.c g), .own (d.flatMap aI.c), .own (ar.c (gt o b))] (.seq (.r5 G [1, 2, 5, 7, 15, 16, 17] [(8, .hp 3 0)] [.own (al.c g), .own (d.flatMap aI.c), .own (ar.c (gt o b)), .own [ag 0, ag 0, ag 0, ag 0]] (.seq (.r4 G [1, 2, 5, 7, 8, 15, 16, 17] [(9, aB false)] (.seq (.seq (.r4 G [1, 2, 5, 7, 8, 9, 15, 16, 17] [(22, ag 0)] (.block ?_)))))))))))))
   replace hr := bd hr; obtain ⟨kO, S, hr⟩ := hr
   refine .aN (σ := fun z0 => match z0 with | (i, j, e, f, q, a) => ⟨mkS 71 0 [(1, ag level), (2, .hp 0 0), (5, .hs 1 0 d.length 4), (7, .hp 2 0), (8, .hp 3 0), (9, aB q), (15, slT ar.c o), (16, ag (o.length : Int)), (17, ag b), (22, ag a)], [.own (al.c g), .own (d.flatMap aI.c), .own (ar.c (gt o b)), .own [ag i, ag j, ag e, ag f]]⟩) (Q := fun x st' => match (generalizing := false) kO with | (s, t, u, w, D) => x = .exit 2 /\ Wk 0 st' ⟨mkS 71 0 [(1, ag level), (2, .hp 0 0), (5, .hs 1 0 d.length 4), (8, .hp 2 0), (9, aB D), (15, slT ar.c o), (16, ag (o.length : Int)), (17, ag b)], [.own (al.c g), .own (d.flatMap aI.c), .own [ag s, ag t, ag u, ag w]]⟩) S ((Wk.gc [1, 2, 5, 7, 8, 9, 15, 16, 17, 22] [(0, true), (1, false), (2, true), (3, true)] rfl (pKt (pKo aI.c aI.pure d trivial))).to) ?_ ?_
   ·clear hr
    rintro m ⟨i, j, e, f, q, a⟩ hr
    refine CQ.sh ?_
    refine .seq (.r4 G [1, 2, 5, 7, 8, 9, 15, 16, 17, 22] [(23, aB (decide (a < 3)))] (.seq ?_))
    refine .cd hr ?_ ?_ <;> intro qd hr
    ·refine .skip (.seq (.block (.seq (.r4 G [1, 2, 5, 7, 8, 9, 15, 16, 17, 22] [(10, ag a)] (.seq ?_)))))
     obtain ⟨T, U, hr⟩ := gd2 hr
     refine .dS G bF (.mu 1 (.pk (v := .hp 2 (0 + a.toNat * 1)) (tr (au T)) (.pk (v := ag (A3.get (gt o b) a)) (tr (y := br.ofP ((ar.c (gt o b))[0 + a.toNat * 1]?)) (aE (tf (k := .i64) (kk := 0) (xs := [(gt o b).e0, (gt o b).e1, (gt o b).e2]) T rfl kRf))) (.mu 3 (.pk (v := .hp 2 (0 + ((FK (a + 1)).tmod 3).toNat * 1)) (tr (au U)) (.pk (v := ag (A3.get (gt o b) ((FK (a + 1)).tmod 3))) (tr (y := br.ofP ((ar.c (gt o b))[0 + ((FK (a + 1)).tmod 3).toNat * 1]?)) (aE (tf (k := .i64) (kk := 0) (xs := [(gt o b).e0, (gt o b).e1, (gt o b).e2]) U rfl kRf))) (.mu 2 ?_)))))))
     refine .done (kRa ?_)
     refine .nh [1, 2, 5, 7, 8, 9, 11, 12, 15, 16, 17, 22] [.own (al.c g), .own (d.flatMap aI.c), .own (ar.c (gt o b)), .own [ag i, ag j, ag e, ag f]] ?_
     obtain ⟨z, lH, hr⟩ := bd hr
     refine .wk ((Wk.refl _).to (c := ⟨mkS 71 0 [(1, ag level), (2, .hp 0 0), (5, .hs 1 0 d.length 4), (7, .hp 2 0), (8, .hp 3 0), (9, aB q), (11, ag (A3.get (gt o b) a)), (12, ag z), (15, slT ar.c o), (16, ag (o.length : Int)), (17, ag b), (22, ag a)], [.own (al.c g), .own (d.flatMap aI.c), .own (ar.c (gt o b)), .own [ag i, ag j, ag e, ag f]]⟩) (by rw [oi lH]; first | done | kernel_rfl)) <| .seq <| .seq ?_
     obtain ⟨kX, E, hr⟩ := bd hr
     rcases bT kX with F | F
     ·subst F
      replace hr := cg rfl hr
      obtain ⟨kV, V, hr⟩ := bd hr
      refine .gn G (ca1 (ok0 (bl n g level (A3.get (gt o b) a) true E)) (ca3 (ok0 (bl n g level z kV V)))) (.mu 3 (.ca cf0 (.mu 4 (.ca (cfA (fun h => by rw [sv V E (fR n h)]) cf0) (.mu 2 (.done (.nh [1, 2, 5, 7, 8, 9, 11, 12, 15, 16, 17, 22, 43] [.own (al.c g), .own (d.flatMap aI.c), .own (ar.c (gt o b)), .own [ag i, ag j, ag e, ag f]] ?_)))))))
      refine .cd hr ?_ ?_ <;> intro so hr
      ·refine .seq ?_
       obtain ⟨p, mN, hr⟩ := bd hr
       refine .g1 G (ok0 (gp n (A3.get (gt o b) a) z p mN)) (.mu 2 (.ca cf0 (.mu 2 (.done (.nh [1, 2, 5, 7, 8, 11, 12, 15, 16, 17, 22] [.own (al.c g), .own (d.flatMap aI.c), .own (ar.c (gt o b)), .own [ag p.e0, ag p.e1, ag e, ag f]] (.r4 G [1, 2, 5, 7, 8, 11, 12, 15, 16, 17, 22] [(9, aB true)] (.seq ?_)))))))
       obtain ⟨W, H, hr⟩ := bd hr
       rcases bT (!W) with A | A
       ·replace hr := cg A hr
        obtain ⟨mA, X, hr⟩ := bd hr
        refine .gn G (ca1 (ok0 (bl n g level (A3.get (gt o b) a) W H)) (ca3 (ok0 (bl n g level z mA X)))) (.mu 3 (.ca cf0 (.p0 (v := aB true) (eB A) (.mu 4 (.ca (cfA (fun h => by rw [sv X H (fR n h)]) cf0) (.mu 1 (.done (.nh [1, 2, 5, 7, 8, 9, 11, 12, 15, 16, 17, 22, 58] [.own (al.c g), .own (d.flatMap aI.c), .own (ar.c (gt o b)), .own [ag p.e0, ag p.e1, ag e, ag f]] ?_))))))))
        refine .cd hr ?_ ?_ <;> intro rz hr
        ·obtain ⟨Y, mF, hr⟩ := bd hr
         refine .g1 G (ok0 (gp n (A3.get (gt o b) a) z Y mF)) (.mu 2 (.ca cf0 (.mu 2 (.done (.pop (.ru G ?_))))))
         exact av (p.e0, p.e1, Y.e0, Y.e1, true, FK (a + 1)) hr ((Wk.gc [1, 2, 5, 7, 8, 9, 15, 16, 17, 22] [(0, true), (1, false), (2, true), (3, true)] rfl (pKt (pKo aI.c aI.pure d trivial))).to)
        refine .skip (.pop (.ru G ?_))
        exact av (p.e0, p.e1, e, f, true, FK (a + 1)) hr ((Wk.gc [1, 2, 5, 7, 8, 9, 15, 16, 17, 22] [(0, true), (1, false), (2, true), (3, true)] rfl (pKt (pKo aI.c aI.pure d trivial))).to)
       replace hr := ch A hr
       refine .g1 G (ok0 (bl n g level (A3.get (gt o b) a) W H)) (.mu 3 (.ca cf0 (.p0 (v := aB false) (eB A) (.mu 6 (.done (.nh [1, 2, 5, 7, 8, 9, 11, 12, 15, 16, 17, 22, 58] [.own (al.c g), .own (d.flatMap aI.c), .own (ar.c (gt o b)), .own [ag p.e0, ag p.e1, ag e, ag f]] (.cF kRf (.skip (.pop (.ru G ?_))))))))))
       exact av (p.e0, p.e1, e, f, true, FK (a + 1)) hr ((Wk.gc [1, 2, 5, 7, 8, 9, 15, 16, 17, 22] [(0, true), (1, false), (2, true), (3, true)] rfl (pKt (pKo aI.c aI.pure d trivial))).to)
      refine .skip (.seq ?_)
      obtain ⟨Z, I, hr⟩ := bd hr
      rcases bT (!Z) with B | B
      ·replace hr := cg B hr
       obtain ⟨mw, jB, hr⟩ := bd hr
       refine .gn G (ca1 (ok0 (bl n g level (A3.get (gt o b) a) Z I)) (ca3 (ok0 (bl n g level z mw jB)))) (.mu 3 (.ca cf0 (.p0 (v := aB true) (eB B) (.mu 4 (.ca (cfA (fun h => by rw [sv jB I (fR n h)]) cf0) (.mu 1 (.done (.nh [1, 2, 5, 7, 8, 9, 11, 12, 15, 16, 17, 22, 58] [.own (al.c g), .own (d.flatMap aI.c), .own (ar.c (gt o b)), .own [ag i, ag j, ag e, ag f]] ?_))))))))
       refine .cd hr ?_ ?_ <;> intro rC hr
       ·obtain ⟨jQ, nw, hr⟩ := bd hr
        refine .g1 G (ok0 (gp n (A3.get (gt o b) a) z jQ nw)) (.mu 2 (.ca cf0 (.mu 2 (.done (.pop (.ru G ?_))))))
        exact av (i, j, jQ.e0, jQ.e1, q, FK (a + 1)) hr ((Wk.gc [1, 2, 5, 7, 8, 9, 15, 16, 17, 22] [(0, true), (1, false), (2, true), (3, true)] rfl (pKt (pKo aI.c aI.pure d trivial))).to)
       refine .skip (.pop (.ru G ?_))
       exact av (i, j, e, f, q, FK (a + 1)) hr ((Wk.gc [1, 2, 5, 7, 8, 9, 15, 16, 17, 22] [(0, true), (1, false), (2, true), (3, true)] rfl (pKt (pKo aI.c aI.pure d trivial))).to)
      replace hr := ch B hr
      refine .g1 G (ok0 (bl n g level (A3.get (gt o b) a) Z I)) (.mu 3 (.ca cf0 (.p0 (v := aB false) (eB B) (.mu 6 (.done (.nh [1, 2, 5, 7, 8, 9, 11, 12, 15, 16, 17, 22, 58] [.own (al.c g), .own (d.flatMap aI.c), .own (ar.c (gt o b)), .own [ag i, ag j, ag e, ag f]] (.cF kRf (.skip (.pop (.ru G ?_))))))))))
      exact av (i, j, e, f, q, FK (a + 1)) hr ((Wk.gc [1, 2, 5, 7, 8, 9, 15, 16, 17, 22] [(0, true), (1, false), (2, true), (3, true)] rfl (pKt (pKo aI.c aI.pure d trivial))).to)
     subst F
     replace hr := ch rfl hr
     refine .g1 G (ok0 (bl n g level (A3.get (gt o b) a) false E)) (.mu 3 (.ca cf0 (.mu 7 (.done (.nh [1, 2, 5, 7, 8, 9, 11, 12, 15, 16, 17, 22, 43] [.own (al.c g), .own (d.flatMap aI.c), .own (ar.c (gt o b)), .own [ag i, ag j, ag e, ag f]] (.cF kRf (.skip (.seq ?_))))))))
     obtain ⟨j8, J, hr⟩ := bd hr
     rcases bT (!j8) with C | C
     ·replace hr := cg C hr
      obtain ⟨nH, kB, hr⟩ := bd hr
      refine .gn G (ca1 (ok0 (bl n g level (A3.get (gt o b) a) j8 J)) (ca3 (ok0 (bl n g level z nH kB)))) (.mu 3 (.ca cf0 (.p0 (v := aB true) (eB C) (.mu 4 (.ca (cfA (fun h => by rw [sv kB J (fR n h)]) cf0) (.mu 1 (.done (.nh [1, 2, 5, 7, 8, 9, 11, 12, 15, 16, 17, 22, 58] [.own (al.c g), .own (d.flatMap aI.c), .own (ar.c (gt o b)), .own [ag i, ag j, ag e, ag f]] ?_))))))))
      refine .cd hr ?_ ?_ <;> intro uq hr
      ·obtain ⟨j9, jS, hr⟩ := bd hr
       refine .g1 G (ok0 (gp n (A3.get (gt o b) a) z j9 jS)) (.mu 2 (.ca cf0 (.mu 2 (.done (.pop (.ru G ?_))))))
       exact av (i, j, j9.e0, j9.e1, q, FK (a + 1)) hr ((Wk.gc [1, 2, 5, 7, 8, 9, 15, 16, 17, 22] [(0, true), (1, false), (2, true), (3, true)] rfl (pKt (pKo aI.c aI.pure d trivial))).to)
      refine .skip (.pop (.ru G ?_))
      exact av (i, j, e, f, q, FK (a + 1)) hr ((Wk.gc [1, 2, 5, 7, 8, 9, 15, 16, 17, 22] [(0, true), (1, false), (2, true), (3, true)] rfl (pKt (pKo aI.c aI.pure d trivial))).to)
     replace hr := ch C hr
     refine .g1 G (ok0 (bl n g level (A3.get (gt o b) a) j8 J)) (.mu 3 (.ca cf0 (.p0 (v := aB false) (eB C) (.mu 6 (.done (.nh [1, 2, 5, 7, 8, 9, 11, 12, 15, 16, 17, 22, 58] [.own (al.c g), .own (d.flatMap aI.c), .own (ar.c (gt o b)), .own [ag i, ag j, ag e, ag f]] (.cF kRf (.skip (.pop (.ru G ?_))))))))))
     exact av (i, j, e, f, q, FK (a + 1)) hr ((Wk.gc [1, 2, 5, 7, 8, 9, 15, 16, 17, 22] [(0, true), (1, false), (2, true), (3, true)] rfl (pKt (pKo aI.c aI.pure d trivial))).to)
    refine .leave rfl ?_
    obtain rfl := oi hr
    exact ⟨rfl, ((Wk.gc [1, 2, 5, 8, 9, 15, 16, 17] [(0, true), (1, false), (3, true)] rfl (pKt (pKo aI.c aI.pure d trivial))).to)⟩
   rcases kO with ⟨s, t, u, w, D⟩
   rintro x st' L
   clear S
   obtain ⟨rfl, L⟩ := L
   refine aW _ rfl (.wk L (.seq (.r4 G [1, 2, 5, 8, 15, 16, 17] [(64, aB D)] ?_)))
   refine .cd hr ?_ ?_ <;> intro uh hr
   ·obtain ⟨ki, kp, hr⟩ := gd2 hr
    refine .r0 G (.mu 3 (.e0 (v := .hs 4 0 (d ++ [A2.mk (A2.mk s t) (A2.mk u w)]).length 4) (ws := [(1, .dead), (4, .own ((d ++ [A2.mk (A2.mk s t) (A2.mk u w)]).flatMap aI.c))]) (tr (dB (new := [ag s, ag t, ag u, ag w]) (l := d) (xs := [A2.mk (A2.mk s t) (A2.mk u w)]) aI.len rfl rfl kRf ki kp)) (.mu 1 (.done (.pop (.ru G ?_))))))
    exact av (d ++ [A2.mk (A2.mk s t) (A2.mk u w)], FK (b + 1)) hr ((Wk.gc [1, 2, 5, 15, 16, 17] [(0, true), (4, false)] rfl (pKt (pKo aI.c aI.pure (d ++ [A2.mk (A2.mk s t) (A2.mk u w)]) trivial))).to)
   refine .skip (.pop (.ru G ?_))
   exact av (d, FK (b + 1)) hr ((Wk.gc [1, 2, 5, 15, 16, 17] [(0, true), (1, false)] rfl (pKt (pKo aI.c aI.pure d trivial))).to)
  refine .leave rfl ?_
  obtain rfl := oi hr
  exact ⟨rfl, ((Wk.gc [5] [(1, false)] rfl (pKo aI.c aI.pure d trivial)).to)⟩
 rintro x st' M
 clear O
 obtain ⟨rfl, M⟩ := M
 refine aW _ rfl (.wk M (.seq (.r3 G 71 [(4, .hs 0 0 N.length 4)] (.ret ?_))))
 obtain rfl := oi hr
 exact aK.ret (vs := [.hs 0 0 N.length 4]) kRf (Sn.hs rfl (.inl rfl) (SnC.pure (a7 aI.pure _)) (fun h => bZ h))

theorem nv (n : Nat) (g : al) (level : Int) (e : A2 Int) (r : ai) (hr : bx n g level e = some r) : aO Tryz.prog 48 [.agg (al.c g), ag level, .agg (aj.c e)] (.agg (ai.c r)) := by
 unfold bx at hr
 refine aO.bd G Tryz.func48 [.cell 6 44] ?_
 unfold Tryz.f48
 simp only [gS]
 refine .seq (.r5 G [1] [(3, .hp 0 0), (5, .hp 1 0), (6, .hp 2 0)] [.own (al.c g), .own (aj.c e), .own [ag 0, ag 0, aB false, nS, aB false, nS]] (.seq ?_))
 obtain ⟨b, d, hr⟩ := gd2 hr
 refine .dS G bF (.mu 4 (.pk (v := .pp (g.Z.flatMap (iC .i64)) (e.e0.toNat * 1)) (tr (au b)) (.pk (v := ag (gt g.Z e.e0)) (tr (aE (aF (aG .i64) (aC b) z1 (by omega : e.e0.toNat * 1 = e.e0.toNat * 1 + 0) kRf))) (.mu 4 (.pk (v := .pp (g.Z.flatMap (iC .i64)) (e.e1.toNat * 1)) (tr (au d)) (.pk (v := ag (gt g.Z e.e1)) (tr (aE (aF (aG .i64) (aC d) z1 (by omega : e.e1.toNat * 1 = e.e1.toNat * 1 + 0) kRf))) (.mu 2 ?_)))))))
 refine .done (kRa ?_)
 refine .nh [1, 5, 6, 7, 8] [.own (al.c g), .own (aj.c e), .own [ag 0, ag 0, aB false, nS, aB false, nS]] (.seq ?_)
 obtain ⟨a, f, hr⟩ := bd hr
 refine .g1 G (ok0 (mz n (FK (level - (FK (2 * (gt g.Z e.e0))))) (FK (2 * (FK ((gt g.Z e.e1) - (gt g.Z e.e0))))) a f)) (.mu 8 (.ca cf0 (.mu 6 (.done (.nh [5, 6, 9] [.own (al.c g), .own (aj.c e), .own [ag 0, ag 0, aB false, nS, aB false, nS], .own (ak.c a.1)] (.seq (.r5 G [6] [] [.own (al.c g), .own (aj.c e), .own [ag e.e0, ag e.e1, aB a.1.Num.Negative, az a.1.Num.Groups, aB a.1.Den.Negative, az a.1.Den.Groups], .own (ak.c a.1)] (.ret ?_))))))))
 obtain rfl := oi hr
 exact aK.r1 [.agg [ag e.e0, ag e.e1, aB a.1.Num.Negative, az a.1.Num.Groups, aB a.1.Den.Negative, az a.1.Den.Groups]]

theorem jz (n : Nat) (e : A2 Int) (closed : Bool) (p : List (A2 Int × Bool)) (C : List (A2 Int × A2 Int)) (B : Int) (w : Int) (t : Int) (o : Int) (i : Int) (g : List Int) (d : Int) (a : List ae) (r : List (A2 Int × Bool) × List ae) (hr : cE n e closed p C B w t o i g d a = some r) : dK 5 Tryz.prog 47 [.agg (aj.c e), aB closed, .hp 0 0, .hp 1 0, .hp 2 0, .hp 3 0, .hp 4 0] [.own [.mp 5], .own [.mp 6], .own [ag B, ag w, ag t, ag o, ag i, bE g], .own [ag d], .own [.hs 7 0 a.length 2], .map (p.map (mpK an.K bA)), .map (C.map (mpK an.K (gA aT.c))), .own (a.flatMap ae.c)] (.tup []) [.own [.mp 5], .own [.mp 6], .own [ag B, ag w, ag t, ag o, ag i, bE g], .own [ag d], .own [.hs 7 0 r.2.length 2], .map (r.1.map (mpK an.K bA)), .map (C.map (mpK an.K (gA aT.c))), .own (r.2.flatMap ae.c)] := by
 unfold cE at hr
 refine dK.qf G Tryz.func47 (c := (Tryz.f47.body).getD .skip) rfl (us := []) (s := mkS 41 0 [(0, .agg (aj.c e)), (1, aB closed), (2, .hp 0 0), (3, .hp 1 0), (4, .hp 2 0), (5, .hp 3 0), (6, .hp 4 0)]) kRf (rs := []) rfl ?_
 unfold Tryz.f47
 simp only [gS]
 refine .seq (.r5 G [1, 2, 3, 4, 5, 6] [(7, .hp 8 0)] [.own [.mp 5], .own [.mp 6], .own [ag B, ag w, ag t, ag o, ag i, bE g], .own [ag d], .own [.hs 7 0 a.length 2], .map (p.map (mpK an.K bA)), .map (C.map (mpK an.K (gA aT.c))), .own (a.flatMap ae.c), .own (aj.c e)] (.seq (.r5 G [2, 3, 4, 5, 6, 7] [(9, .hp 9 0)] [.own [.mp 5], .own [.mp 6], .own [ag B, ag w, ag t, ag o, ag i, bE g], .own [ag d], .own [.hs 7 0 a.length 2], .map (p.map (mpK an.K bA)), .map (C.map (mpK an.K (gA aT.c))), .own (a.flatMap ae.c), .own (aj.c e), .own [aB closed, nS]] (.seq (.seq (.r4 G [2, 3, 4, 5, 6, 7, 9] [(10, aB true)] (.block ?_)))))))
 replace hr := bd hr; obtain ⟨L, J, hr⟩ := hr
 refine .aN (σ := fun U => match U with | (u, j, k, q, H) => ⟨mkS 41 0 [(2, .hp 0 0), (3, .hp 1 0), (4, .hp 2 0), (5, .hp 3 0), (6, .hp 4 0), (7, .hp 8 0), (9, .hp 9 0), (10, aB H)], [.own [.mp 5], .own [.mp 6], .own [ag B, ag w, ag t, ag o, ag i, bE g], .own [ag d], .own [.hs 7 0 a.length 2], .map (u.map (mpK an.K bA)), .map (C.map (mpK an.K (gA aT.c))), .own (a.flatMap ae.c), .own [ag j, ag k], .own [aB closed, .hs 10 0 q.length 6], .own (q.flatMap ai.c)]⟩) (Q := fun x st' => match (generalizing := false) L with | (F, A) => x = .exit 0 /\ Wk 5 st' ⟨mkS 41 0 [(6, .hp 4 0), (9, .hp 8 0)], [.own [.mp 5], .own [.mp 6], .own [ag B, ag w, ag t, ag o, ag i, bE g], .own [ag d], .own [.hs 7 0 a.length 2], .map (F.map (mpK an.K bA)), .map (C.map (mpK an.K (gA aT.c))), .own (a.flatMap ae.c), .own [aB closed, .hs 9 0 A.length 6], .own (A.flatMap ai.c)]⟩) J ((Wk.xR 9 1 6 (cs := [aB closed, nS]) kRf kRf).trans ((Wk.gc [2, 3, 4, 5, 6, 7, 9, 10] [(0, true), (1, true), (2, true), (3, true), (4, true), (5, false), (6, false), (7, false), (8, true), (9, true), (10, false)] rfl (pKt (pKt (pKt (pKt (pKt (pKM an.K bA (fun _ => rfl) p (pKM an.K (gA aT.c) (fun _ => rfl) C (pKo ae.c ae.pure a (pKt (pKt (pKc trivial)))))))))))).to)) ?_ ?_
 ·clear hr
  rintro m ⟨u, j, k, q, H⟩ hr
  refine CQ.sh ?_
  refine .seq (.seq ?_)
  rcases bT H with E | E
  ·replace hr := cg E hr
   refine .r0 G (.p0 (v := aB true) (eB E) (.mu 3 (.pure (v := aB (getM false u (A2.mk j k))) kRf (tr (y := br.ofP (dF Tryz.prog [.own [.mp 5], .own [.mp 6], .own [ag B, ag w, ag t, ag o, ag i, bE g], .own [ag d], .own [.hs 7 0 a.length 2], .map (u.map (mpK an.K bA)), .map (C.map (mpK an.K (gA aT.c))), .own (a.flatMap ae.c), .own [ag j, ag k], .own [aB closed, .hs 10 0 q.length 6], .own (q.flatMap ai.c)] 92 (.mp 5) (.agg [ag j, ag k]) false)) (tu (kt := 49) (e := 4) (l := u) (f := bA) (z := false) (K := an.K) (x := A2.mk j k) an.key kRf kRf kRf kRf kRf)) (.mu 2 (.done (.nh [2, 3, 4, 5, 6, 7, 9, 19] [.own [.mp 5], .own [.mp 6], .own [ag B, ag w, ag t, ag o, ag i, bE g], .own [ag d], .own [.hs 7 0 a.length 2], .map (u.map (mpK an.K bA)), .map (C.map (mpK an.K (gA aT.c))), .own (a.flatMap ae.c), .own [ag j, ag k], .own [aB closed, .hs 10 0 q.length 6], .own (q.flatMap ai.c)] ?_))))))
   refine .cd hr ?_ ?_ <;> intro T hr
   ·refine .skip (.seq (.block (.seq (.r0 G (.mu 2 (.e0 (v := .unk) (ws := [(5, .map ((cV u (A2.mk j k) true).map (mpK an.K bA)))]) (tr (y := fI Tryz.prog [.own [.mp 5], .own [.mp 6], .own [ag B, ag w, ag t, ag o, ag i, bE g], .own [ag d], .own [.hs 7 0 a.length 2], .map (u.map (mpK an.K bA)), .map (C.map (mpK an.K (gA aT.c))), .own (a.flatMap ae.c), .own [ag j, ag k], .own [aB closed, .hs 10 0 q.length 6], .own (q.flatMap ai.c)] 92 (.mp 5) (.agg [ag j, ag k]) (aB true)) (xj (kt := 49) (e := 4) (l := u) (f := bA) (v := true) (K := an.K) (x := A2.mk j k) an.key kRf kRf kRf kRf)) (.done (.nh [2, 3, 4, 5, 6, 7, 9] [.own [.mp 5], .own [.mp 6], .own [ag B, ag w, ag t, ag o, ag i, bE g], .own [ag d], .own [.hs 7 0 a.length 2], .map ((cV u (A2.mk j k) true).map (mpK an.K bA)), .map (C.map (mpK an.K (gA aT.c))), .own (a.flatMap ae.c), .own [ag j, ag k], .own [aB closed, .hs 10 0 q.length 6], .own (q.flatMap ai.c)] ?_))))))))
    obtain ⟨D, M, hr⟩ := bd hr
    obtain ⟨N, O, hr⟩ := gd2 hr
    refine .t1 G (ok0 (nv n (al.mk B w t o i g) d (A2.mk j k) D M)) (.mu 5 (.ca cf0 (.mu 1 (.ek (v := .hs 12 0 (q ++ [D]).length 6) (ws := [(10, .dead), (12, .own ((q ++ [D]).flatMap ai.c))]) (tr (dB (new := (ai.c D)) (l := q) (xs := [D]) ai.len rfl rfl kRf N O)) (.mu 2 ?_)))))
    refine .done (kRa ?_)
    refine .pop (.r0 G (.mu 2 (.p0 (v := .tup [.agg (aj.c (getM (A2.mk 0 0 : A2 Int) C (A2.mk j k))), aB (dG C (A2.mk j k))]) (tr (y := br.ofP (dF Tryz.prog [.own [.mp 5], .own [.mp 6], .own [ag B, ag w, ag t, ag o, ag i, bE g], .own [ag d], .own [.hs 7 0 a.length 2], .map ((cV u (A2.mk j k) true).map (mpK an.K bA)), .map (C.map (mpK an.K (gA aT.c))), .own (a.flatMap ae.c), .own [ag j, ag k], .own [aB closed, .hs 12 0 (q ++ [D]).length 6], .dead, .own (ai.c D), .own ((q ++ [D]).flatMap ai.c)] 91 (.mp 6) (.agg [ag j, ag k]) true)) (xF (kt := 49) (e := 49) (l := C) (f := (gA aT.c)) (z := (A2.mk 0 0 : A2 Int)) (K := an.K) (x := A2.mk j k) an.key kRf kRf kRf kRf kRf)) (.mu 5 (.done ?_)))))
    exact av (cV u (A2.mk j k) true, (getM (A2.mk 0 0 : A2 Int) C (A2.mk j k)).e0, (getM (A2.mk 0 0 : A2 Int) C (A2.mk j k)).e1, q ++ [D], dG C (A2.mk j k)) hr ((Wk.gc [2, 3, 4, 5, 6, 7, 9, 10] [(0, true), (1, true), (2, true), (3, true), (4, true), (5, false), (6, false), (7, false), (8, true), (9, true), (12, false)] rfl (pKt (pKt (pKt (pKt (pKt (pKM an.K bA (fun _ => rfl) (cV u (A2.mk j k) true) (pKM an.K (gA aT.c) (fun _ => rfl) C (pKo ae.c ae.pure a (pKt (pKt (pKo ai.c ai.pure (q ++ [D]) trivial)))))))))))).to)
   refine .leave rfl ?_
   obtain rfl := oi hr
   exact ⟨rfl, ((Wk.gc [6, 9] [(0, true), (1, true), (2, true), (3, true), (4, true), (5, false), (6, false), (7, false), (9, true), (10, false)] rfl (pKt (pKt (pKt (pKt (pKt (pKM an.K bA (fun _ => rfl) u (pKM an.K (gA aT.c) (fun _ => rfl) C (pKo ae.c ae.pure a (pKt (pKo ai.c ai.pure q trivial))))))))))).to)⟩
  replace hr := ch E hr
  refine .r0 G (.p0 (v := aB false) (eB E) (.mu 6 (.done (.nh [2, 3, 4, 5, 6, 7, 9, 19] [.own [.mp 5], .own [.mp 6], .own [ag B, ag w, ag t, ag o, ag i, bE g], .own [ag d], .own [.hs 7 0 a.length 2], .map (u.map (mpK an.K bA)), .map (C.map (mpK an.K (gA aT.c))), .own (a.flatMap ae.c), .own [ag j, ag k], .own [aB closed, .hs 10 0 q.length 6], .own (q.flatMap ai.c)] (.cF kRf (.leave rfl ?_))))))
  obtain rfl := oi hr
  exact ⟨rfl, ((Wk.gc [6, 9] [(0, true), (1, true), (2, true), (3, true), (4, true), (5, false), (6, false), (7, false), (9, true), (10, false)] rfl (pKt (pKt (pKt (pKt (pKt (pKM an.K bA (fun _ => rfl) u (pKM an.K (gA aT.c) (fun _ => rfl) C (pKo ae.c ae.pure a (pKt (pKo ai.c ai.pure q trivial))))))))))).to)⟩
 rcases L with ⟨F, A⟩
 rintro x st' I
 clear J
 obtain ⟨rfl, I⟩ := I
 refine aW _ rfl (.wk I (.wk (((Wk.fix 9 (cs := (A.flatMap ai.c)) kRf).trans (Wk.AT 8 1 (b := 9) (len := A.length) (es := 6) (cs := (A.flatMap ai.c)) (cs' := [aB closed, .hs 9 0 A.length 6]) kRf kRf kRf (a7 ai.pure _) (fun h => bZ h))).to (c := ⟨mkS 41 0 [(6, .hp 4 0), (9, .hp 8 0)], [.own [.mp 5], .own [.mp 6], .own [ag B, ag w, ag t, ag o, ag i, bE g], .own [ag d], .own [.hs 7 0 a.length 2], .map (F.map (mpK an.K bA)), .map (C.map (mpK an.K (gA aT.c))), .own (a.flatMap ae.c), .own [aB closed, slT ai.c A], .fix (A.flatMap ai.c)]⟩) kRf) ?_))
 obtain ⟨R, S, hr⟩ := gd2 hr
 refine .r0 G (.mu 3 (.e0 (v := .hs 11 0 (a ++ [ae.mk closed A]).length 2) (ws := [(7, .dead), (11, .own ((a ++ [ae.mk closed A]).flatMap ae.c))]) (tr (dB (new := [aB closed, slT ai.c A]) (l := a) (xs := [ae.mk closed A]) ae.len rfl rfl kRf R S)) (.mu 1 (.done ?_))))
 obtain rfl := oi hr
 exact gR.normal [] ((Wk.gc [] [(0, true), (1, true), (2, true), (3, true), (4, true), (5, false), (6, false), (11, false)] rfl (pKt (pKt (pKt (pKt (pKt (pKM an.K bA (fun _ => rfl) F (pKM an.K (gA aT.c) (fun _ => rfl) C (pKo ae.c ae.pure (a ++ [ae.mk closed A]) trivial))))))))).to)

theorem pD (n : Nat) {c : ae} {a : ae} (h : ([.agg [.at (.bool c.Closed), slT ai.c c.Points]] : List AV) = [.agg [.at (.bool a.Closed), slT ai.c a.Points]]) : bm n c = bm n a := by
 obtain rfl := nT h
 rfl
theorem kr (n : Nat) (c : ae) (r : A2 Int) (hr : bm n c = some r) : aO Tryz.prog 50 [.agg (ae.c c)] (.agg (aj.c r)) := by
 unfold bm at hr
 refine aO.bd G Tryz.func50 [.cell 2 49] ?_
 unfold Tryz.f50
 simp only [gS]
 refine .seq (.r2 G 14 [(1, .hp 0 0), (2, .hp 1 0)] [.own (ae.c c), .own [ag 0, ag 0]] (.seq ?_))
 obtain ⟨a, hr⟩ := gd hr
 refine .dS G bF (.mu 2 (.pk (v := .pp (c.Points.flatMap ai.c) ((0 : Int).toNat * 6)) (tr (au a)) (.mu 1 (.pk (v := ag (gt c.Points 0).A) (tr (aE (aF ai.len (aC a) (by decide : 0 < 6) (by omega : (0 : Int).toNat * 6 + 0 = (0 : Int).toNat * 6 + 0) kRf))) (.mu 2 (.pk (v := .pp (c.Points.flatMap ai.c) ((0 : Int).toNat * 6)) (tr (au a)) (.mu 1 (.pk (v := ag (gt c.Points 0).B) (tr (aE (aF ai.len (aC a) (by decide : 1 < 6) (by omega : (0 : Int).toNat * 6 + 1 = (0 : Int).toNat * 6 + 1) kRf))) (.mu 2 ?_)))))))))
 refine .done (kRa ?_)
 refine .nh [2] [.own (ae.c c), .own [ag (gt c.Points 0).A, ag (gt c.Points 0).B]] (.ret ?_)
 obtain rfl := oi hr
 exact aK.r1 [.agg [ag (gt c.Points 0).A, ag (gt c.Points 0).B]]

theorem pR (n : Nat) (a : A2 Int) (b : A2 Int) (r : Bool) (hr : dh n a b = some r) : aO Tryz.prog 49 [.agg (aj.c a), .agg (aj.c b)] (aB r) := by
 unfold dh at hr
 refine aO.bd G Tryz.func49 [.tmp 4] ?_
 unfold Tryz.f49
 simp only [gS]
 refine .seq (.r2 G 24 [(2, .hp 0 0), (3, .hp 1 0)] [.own (aj.c a), .own (aj.c b)] (.seq ?_))
 rcases bT (decide (a.e0 < b.e0)) with d | d
 ·replace hr := cg d hr
  refine .r0 G (.mu 4 (.p0 (v := aB true) (eB d) (.mu 15 (.done (.ret ?_)))))
  obtain rfl := oi hr
  exact aK.r1 [aB true]
 replace hr := ch d hr
 rcases bT ((a.e0 : Int) == b.e0) with e | e
 ·replace hr := cg e hr
  refine .r0 G (.mu 4 (.p0 (v := aB false) (eB d) (.mu 5 (.pure (v := aB true) kRf (eB e) (.mu 9 (.done (.ret ?_)))))))
  obtain rfl := oi hr
  exact aK.r1 [aB (decide (a.e1 < b.e1))]
 replace hr := ch e hr
 refine .r0 G (.mu 4 (.p0 (v := aB false) (eB d) (.mu 5 (.pure (v := aB false) kRf (eB e) (.mu 9 (.done (.ret ?_)))))))
 obtain rfl := oi hr
 exact aK.r1 [aB false]
end Go.L
