import Derived.Test.YtecdcgfclgmbpaaGreatSidL51i
import Derived.Test.YtecdcgfclgmbpaaGreatSidLsrt
set_option linter.all false
namespace Go.L
open Go Go.Eng
theorem uO {α : Type} {κ : α -> Int} : ∀ {l m : List α}, l.Pairwise (fun a b => κ a < κ b) -> m.Pairwise (fun a b => κ a < κ b) -> (∀ x, x ∈ l ↔ x ∈ m) -> l = m
 | [], [], _, _, _ => rfl
 | [], y :: m, _, _, h => by have := (h y).2 (by simp); cases this
 | x :: l, [], _, _, h => by have := (h x).1 (by simp); cases this
 | x :: l, y :: m, hl, hm, h => by
  rw [List.pairwise_cons] at hl hm
  have e : x = y := by
   rcases List.mem_cons.1 ((h x).1 (by simp)) with e | e
   · exact e
   · rcases List.mem_cons.1 ((h y).2 (by simp)) with e' | e'
     · exact e'.symm
     · have a := hm.1 x e; have b := hl.1 y e'; omega
  subst e
  congr 1
  refine uO hl.2 hm.2 fun z => ⟨fun hz => ?_, fun hz => ?_⟩
  · rcases List.mem_cons.1 ((h z).1 (List.mem_cons_of_mem _ hz)) with e | e
    · subst e; have := hl.1 z hz; omega
    · exact e
  · rcases List.mem_cons.1 ((h z).2 (List.mem_cons_of_mem _ hz)) with e | e
    · subst e; have := hm.1 z hz; omega
    · exact e
abbrev Ln := Bool × List K2
def toL (cr : K2 -> ak) (x : Ln) : ah := toC cr x.1 x.2
def kL (x : Ln) : Int := kap (x.2.headD (A2.mk 0 0))
def stK (S : List (K2 × K2)) : List K2 := iS (ltK kap) (S.map (·.1))
def opK (S : List (K2 × K2)) : List K2 := (stK S).filter (opn S)
def dnK (S : List (K2 × K2)) (x : K2) : Bool := (opK S).any fun e => (path S e).contains x
def opL (S : List (K2 × K2)) (e : K2) : Ln := (false, path S e)
def vC (S : List (K2 × K2)) (A : List K2) : List Ln := A.map (opL S) ++ (CLs S (stK S) (dnK S)).map fun l => (true, l)
def sq (S : List (K2 × K2)) : List Ln := iS (ltK kL) (vC S (opK S))
theorem qt {S : List (K2 × K2)} {e : K2} : ∃ t, path S e = e :: t := z8 (by omega) rfl
section
variable {g : al} {level : Int} {S : List (K2 × K2)}
structure SS (g : al) (level : Int) (S : List (K2 × K2)) : Prop where
 z40 : g.Z.length <= 40
 pw : S.Pairwise Rq
 ge : Ge S (Cr g.Z level)
 len : S.length <= 60
theorem Da {w h : Nat} (hg : Gd g w h) (hb : g.Z.any n8 = false) (h40 : g.Z.length <= 40) (level : Int) : SS g level (nZ g w h level) := by
 refine ⟨h40, AN hg level, Ax hg hb, ?_⟩
 have h1 : (nZ g w h level).length <= (kj g w h).length := List.length_filterMap_le _ _
 have h2 := FT hg.w1.1 hg.h1.1 (by rw [<- hg.m]; exact h40)
 have h3 : (kj g w h).length <= 2 * ((w - 1) * (h - 1)) := Ei
 omega
theorem xw {e : K2} : e ∈ stK S ↔ dB S e = true := by
 unfold stK
 rw [jS, List.mem_map, iM]
theorem SS.cr (h : SS g level S) {e : K2} (he : e ∈ stK S) : Cr g.Z level e := by
 obtain ⟨q, hq, rfl⟩ := iM.1 (xw.1 he)
 exact (h.ge.k q hq).1
theorem SS.keys (h : SS g level S) : (stK S).Pairwise fun a b => kap a < kap b := by
 unfold stK
 refine uW ?_
 rw [List.pairwise_map]
 refine h.pw.imp_of_mem fun {a b} ha hb hr hk => hr.1 ?_
 exact sA h.z40 (h.ge.k a ha).1 (h.ge.k b hb).1 hk
theorem SS.nd (h : SS g level S) : (stK S).Nodup := h.keys.imp fun {a b} k => by rintro rfl; omega
theorem AP {x : K2} : dnK S x = true ↔ ∃ e ∈ opK S, x ∈ path S e := by
 unfold dnK
 rw [List.any_eq_true]
 simp only [List.contains_iff_mem]
theorem Op.FD {cr : K2 -> ak} {A : List K2} {c : List (K2 × Bool) × List ah} (hA : ∀ e, e ∈ A ↔ e ∈ opK S) (h : Op S cr A c) : dn c.1 = dnK S := by
 funext x
 have h1 := h.mem x
 have h2 := AP (S := S) (x := x)
 have h3 : dn c.1 x = true ↔ dnK S x = true := by
  rw [h1, h2]
  exact ⟨fun ⟨e, a, b⟩ => ⟨e, (hA e).1 a, b⟩, fun ⟨e, a, b⟩ => ⟨e, (hA e).2 a, b⟩⟩
 cases ha : dn c.1 x <;> cases hb : dnK S x <;> simp [ha, hb] at h3 ⊢
theorem Op.AX {cr : K2 -> ak} {A : List K2} {c : List (K2 × Bool) × List ah} (hA : ∀ e, e ∈ A ↔ e ∈ opK S) (h : Op S cr A c) : c.2 ++ (CLs S (stK S) (dn c.1)).map (toC cr true) = (vC S A).map (toL cr) := by
 unfold vC
 rw [h.FD hA, h.out, List.map_append, List.map_map, List.map_map]; rfl
theorem SS.A6 (h : SS g level S) {A : List K2} (hA : ∀ e, e ∈ A ↔ e ∈ opK S) : ∀ x ∈ vC S A, ∃ e t, x.2 = e :: t /\ Cr g.Z level e := by
 intro x hx
 unfold vC at hx
 rcases List.mem_append.1 hx with hx | hx
 · obtain ⟨e, he, rfl⟩ := List.mem_map.1 hx
   obtain ⟨t, ht⟩ := qt (S := S) (e := e)
   exact ⟨e, t, ht, h.cr (List.mem_filter.1 ((hA e).1 he)).1⟩
 · obtain ⟨l, hl, rfl⟩ := List.mem_map.1 hx
   obtain ⟨e, t, e1, e2, -⟩ := (qj (stK S) (dnK S)).1 l hl
   exact ⟨e, t, e1, h.cr e2⟩
theorem qC {b : Bool} {e : K2} {t : List K2} : kL (b, e :: t) = kap e := rfl
theorem SS.pwL (h : SS g level S) {A : List K2} (hA : ∀ e, e ∈ A ↔ e ∈ opK S) (hn : A.Nodup) : (vC S A).Pairwise fun a b => kL a ≠ kL b := by
 unfold vC
 have crA : ∀ e ∈ A, Cr g.Z level e := fun e he => h.cr (List.mem_filter.1 ((hA e).1 he)).1
 obtain ⟨c1, c2⟩ := qj (S := S) (stK S) (dnK S)
 rw [List.pairwise_append]
 refine ⟨?_, ?_, ?_⟩
 · rw [List.pairwise_map]
   refine List.Pairwise.imp_of_mem (fun {a b} ha hb hne hk => hne ?_) hn
   obtain ⟨t, ht⟩ := qt (S := S) (e := a)
   obtain ⟨u, hu⟩ := qt (S := S) (e := b)
   unfold opL at hk
   rw [ht, hu, qC, qC] at hk
   exact sA h.z40 (crA a ha) (crA b hb) hk
 · rw [List.pairwise_map]
   refine List.Pairwise.imp_of_mem (fun {a b} ha hb hne hk => hne ?_) c2
   obtain ⟨e, t, e1, e2, -⟩ := c1 a ha
   obtain ⟨f, u, f1, f2, -⟩ := c1 b hb
   rw [e1, f1, qC, qC] at hk
   rw [e1, f1, sA h.z40 (h.cr e2) (h.cr f2) hk]; rfl
 · intro x hx y hy hk
   obtain ⟨e, he, rfl⟩ := List.mem_map.1 hx
   obtain ⟨l, hl, rfl⟩ := List.mem_map.1 hy
   obtain ⟨t, ht⟩ := qt (S := S) (e := e)
   obtain ⟨f, u, f1, f2, f3⟩ := c1 l hl
   unfold opL at hk
   rw [ht, f1, qC, qC] at hk
   have ef := sA h.z40 (crA e he) (h.cr f2) hk
   have : dnK S f = true := AP.2 ⟨e, (hA e).1 he, by rw [ht, ef]; simp⟩
   rw [this] at f3; cases f3
theorem zf {cr : K2 -> ak} {x : Ln} {e : K2} {t : List K2} (h : x.2 = e :: t) (hc : (cr e).A = e.e0 /\ (cr e).B = e.e1) : kC (toL cr x) = kL x := by
 unfold kC fK toL toC kL
 rw [h]
 show kap (A2.mk (cr e).A (cr e).B) = kap e
 rw [hc.1, hc.2]
theorem D2 (h40 : g.Z.length <= 40) {cr : K2 -> ak} {x : Ln} {e : K2} {t : List K2} (h : x.2 = e :: t) (hc : (cr e).A = e.e0 /\ (cr e).B = e.e1) (he : Cr g.Z level e) : okC (toL cr x) := by
 have := he.bd
 unfold okC fK toL toC
 rw [h]
 show 0 < (t.map cr).length + 1 /\ 0 <= (cr e).A /\ (cr e).A < 40 /\ 0 <= (cr e).B /\ (cr e).B < 40
 rw [hc.1, hc.2]
 omega
theorem y7 {A : List K2} (hA : A.length <= 60) (hS : S.length <= 60) : (vC S A).length <= 120 := by
 unfold vC
 rw [List.length_append, List.length_map, List.length_map]
 have h1 := wX (S := S) (stK S) (dnK S)
 have h2 : (stK S).length = S.length := by unfold stK; rw [mf, List.length_map]
 omega
theorem Dt {w h : Nat} (hg : Gd g w h) (hb : g.Z.any n8 = false) (h40 : g.Z.length <= 40) (hl : -2097153 <= level /\ level <= 2097153) : fp 20000 g level = some ((sq (nZ g w h level)).map (toL (crP g level))) := by
 have hs := Da hg hb h40 level
 have hpw := AN hg level
 have hP : ∀ e, Cr g.Z level e -> cj 20000 g level e = some (crP g level e) := fun e he => (uu hl he).1
 have nx := Ff (n := 20000) (level := level) (by omega) hg hb g.X0 g.Y0 g.Step g.Width g.Height
 have fold := y5 (nZ g w h level) [] (by rw [List.nil_append]; exact hpw)
 rw [List.map_nil, List.nil_append] at fold
 rw [fold] at nx
 generalize eS : nZ g w h level = S at *
 have lK : (stK S).length = S.length := by unfold stK; rw [mf, List.length_map]
 have lA : (opK S).length <= 60 := by
  have h1 : (opK S).length <= (stK S).length := List.length_filter_le _ _
  have := hs.len; omega
 have hcP : ∀ {e}, Cr g.Z level e -> (crP g level e).A = e.e0 /\ (crP g level e).B = e.e1 := fun he => ⟨(uu hl he).2.1, (uu hl he).2.2.1⟩
 refine yp (S := stK S) nx (by have := hs.len; show S.length <= 100000; omega) (fun p hp => ?_) lK ?_
 · have hp : p.Perm (S.map (·.1)) := hp
   have hk : ∀ e ∈ p, Cr g.Z level e := fun e he => by
    obtain ⟨q, hq, rfl⟩ := List.mem_map.1 (hp.mem_iff.1 he)
    exact (hs.ge.k q hq).1
   rw [BE (by rw [hp.length_eq, List.length_map]; have := hs.len; omega) fun e he => by have := (hk e he).bd; omega]
   congr 1
   refine uO (κ := kap) (uW ?_) hs.keys fun e => ?_
   · have h1 : p.Nodup := hp.nodup_iff.2 (by unfold List.Nodup; rw [List.pairwise_map]; exact hpw.imp fun h => h.1)
     exact List.Pairwise.imp_of_mem (fun {a b} ha hb hne hk2 => hne (sA h40 (hk a ha) (hk b hb) hk2)) h1
   · unfold stK
     rw [jS, jS, hp.mem_iff]
 · have key := BS (F := iS (ltK kC)) hpw hs.ge hP hs.len hs.nd (by have := hs.len; omega) (fun e he => hs.cr he) ?_
   · rw [lK] at key
     obtain ⟨r, e, c, hO, hr⟩ := key
     show pX 20000 g level (S, bk S) (S.length : Int) (stK S) = _
     rw [e, hr, hO.AX (fun _ => Iff.rfl)]
     congr 1
     refine vV fun y hy => ?_
     obtain ⟨e, t, h1, h2⟩ := hs.A6 (fun _ => Iff.rfl) y hy
     exact zf h1 (hcP h2)
   · intro c hO
     have hO : Op S (crP g level) (opK S) c := hO
     rw [hO.AX (fun _ => Iff.rfl)]
     refine ⟨ET (by rw [List.length_map]; have := y7 lA hs.len; omega) (fun y hy => ?_) ?_, mf⟩
     · obtain ⟨x, hx, rfl⟩ := List.mem_map.1 hy
       obtain ⟨e, t, h1, h2⟩ := hs.A6 (fun _ => Iff.rfl) x hx
       exact D2 h40 h1 (hcP h2) h2
     · rw [List.pairwise_map]
       refine (hs.pwL (fun _ => Iff.rfl) (hs.nd.sublist List.filter_sublist)).imp_of_mem fun {a b} ha hb hne hk => hne ?_
       obtain ⟨e, t, h1, h2⟩ := hs.A6 (fun _ => Iff.rfl) a ha
       obtain ⟨f, u, h3, h4⟩ := hs.A6 (fun _ => Iff.rfl) b hb
       rw [zf h1 (hcP h2), zf h3 (hcP h4)] at hk
       exact hk
end
end Go.L


set_option linter.all false
namespace Go.L
open Go Go.Eng
def loT (k w : Int) : A3 Int := A3.mk k (k + 1) (k + w + 1)
def upT (k w : Int) : A3 Int := A3.mk k (k + w + 1) (k + w)
def cel (w j i : Nat) : Int := ((j * w + i : Nat) : Int)
theorem tz {w h : Nat} (hw : 2 <= w /\ w <= 64) (hh : 2 <= h /\ h <= 64) {t : A3 Int} : t ∈ kz (w : Int) (w - 1) (h - 1) ↔ ∃ j i : Nat, j < h - 1 /\ i < w - 1 /\ (t = loT (cel w j i) w \/ t = upT (cel w j i) w) := by
 unfold kz y9
 rw [List.mem_flatMap]
 constructor
 · rintro ⟨j, hj, ht⟩
   obtain ⟨i, hi, ht⟩ := List.mem_flatMap.1 ht
   rw [List.mem_range] at hj hi
   rw [vj hw.2 (by omega) (by omega)] at ht
   simp only [List.mem_cons, List.not_mem_nil, or_false] at ht
   exact ⟨j, i, hj, hi, ht⟩
 · rintro ⟨j, i, hj, hi, ht⟩
   refine ⟨j, List.mem_range.2 hj, List.mem_flatMap.2 ⟨i, List.mem_range.2 hi, ?_⟩⟩
   rw [vj hw.2 (by omega) (by omega)]
   simp only [List.mem_cons, List.not_mem_nil, or_false]
   exact ht
structure Lw (g : al) (w h : Nat) (level : Int) : Prop where
 data : ∀ k : Nat, k < g.Z.length -> gt g.Z (k : Int) ≠ -2147483648
 low : ∀ j i : Nat, j < h -> i < w -> (i = 0 \/ j = 0 \/ i = w - 1 \/ j = h - 1) -> abv g.Z level (cel w j i) = false
section
variable {g : al} {w h : Nat} {level : Int}
theorem Lw.all (hL : Lw g w h level) (hg : Gd g w h) : kj g w h = kz (w : Int) (w - 1) (h - 1) := by
 unfold kj
 rw [hg.W]
 refine List.filter_eq_self.2 fun t ht => ?_
 have ht' : t ∈ kz g.Width (w - 1) (h - 1) := by rw [hg.W]; exact ht
 obtain ⟨i0, i1, i2⟩ := zZ hg ht'
 have key : ∀ {k : Int}, inR k g.Z.length = true -> (gt g.Z k != -2147483648) = true := by
  intro k hk
  have hk2 := j5.1 hk
  obtain ⟨m, rfl⟩ : ∃ m : Nat, k = (m : Int) := ⟨k.toNat, by omega⟩
  simpa using hL.data m (by omega)
 unfold nt
 rw [key i0, key i1, key i2]; rfl
theorem EO {w j i : Nat} (hj : 1 <= j) : cel w (j - 1) i + w = cel w j i := by
 unfold cel
 obtain ⟨j, rfl⟩ : ∃ m, j = m + 1 := ⟨j - 1, by omega⟩
 rw [Nat.add_sub_cancel, Nat.add_mul, Nat.one_mul]; omega
theorem qb {w j i : Nat} : cel w (j + 1) i = cel w j i + w := by
 unfold cel
 rw [Nat.add_mul, Nat.one_mul]; omega
theorem oC {w j i : Nat} : cel w j (i + 1) = cel w j i + 1 := by unfold cel; omega
theorem Fi {w j i : Nat} (hi : 1 <= i) : cel w j (i - 1) + 1 = cel w j i := by unfold cel; omega
theorem nbr (hL : Lw g w h level) (hg : Gd g w h) {t : A3 Int} (ht : t ∈ kj g w h) {a b : Int} (hm : (a, b) ∈ dE t) (hn : abv g.Z level a ≠ abv g.Z level b) : ∃ t' ∈ kj g w h, (b, a) ∈ dE t' := by
 rw [hL.all hg] at ht ⊢
 have hw := hg.w1; have hh := hg.h1
 obtain ⟨j, i, hj, hi, ht⟩ := (tz hw hh).1 ht
 have put : ∀ (j' i' : Nat), j' < h - 1 -> i' < w - 1 -> ∀ t', (t' = loT (cel w j' i') w \/ t' = upT (cel w j' i') w) -> (b, a) ∈ dE t' -> ∃ t' ∈ kz (w : Int) (w - 1) (h - 1), (b, a) ∈ dE t' := fun j' i' h1 h2 t' h3 h4 => ⟨t', (tz hw hh).2 ⟨j', i', h1, h2, h3⟩, h4⟩
 have bad : ∀ {x y : Int}, abv g.Z level x = false -> abv g.Z level y = false -> x = a -> y = b -> False := fun h1 h2 e1 e2 => hn (by rw [<- e1, <- e2, h1, h2])
 rcases ht with rfl | rfl
 · simp only [dE, loT, List.mem_cons, List.not_mem_nil, or_false, Prod.mk.injEq] at hm
   rcases hm with ⟨rfl, rfl⟩ | ⟨rfl, rfl⟩ | ⟨rfl, rfl⟩
   · by_cases h0 : j = 0
     · exact (bad (hL.low j i (by omega) (by omega) (by omega)) (hL.low j (i + 1) (by omega) (by omega) (by omega)) rfl oC).elim
     · refine put (j - 1) i (by omega) hi _ (.inr rfl) ?_
       have := EO (w := w) (j := j) (i := i) (by omega)
       simp only [dE, upT, List.mem_cons, List.not_mem_nil, or_false, Prod.mk.injEq]
       omega
   · by_cases h0 : i = w - 2
     · refine (bad (hL.low j (i + 1) (by omega) (by omega) (by omega)) (hL.low (j + 1) (i + 1) (by omega) (by omega) (by omega)) oC ?_).elim
       rw [qb, oC]; omega
     · refine put j (i + 1) hj (by omega) _ (.inr rfl) ?_
       have := oC (w := w) (j := j) (i := i)
       simp only [dE, upT, List.mem_cons, List.not_mem_nil, or_false, Prod.mk.injEq]
       omega
   · refine put j i hj hi _ (.inr rfl) ?_
     simp only [dE, upT, List.mem_cons, List.not_mem_nil, or_false, Prod.mk.injEq]
     simp
 · simp only [dE, upT, List.mem_cons, List.not_mem_nil, or_false, Prod.mk.injEq] at hm
   rcases hm with ⟨rfl, rfl⟩ | ⟨rfl, rfl⟩ | ⟨rfl, rfl⟩
   · refine put j i hj hi _ (.inl rfl) ?_
     simp only [dE, loT, List.mem_cons, List.not_mem_nil, or_false, Prod.mk.injEq]
     simp
   · by_cases h0 : j = h - 2
     · refine (bad (hL.low (j + 1) (i + 1) (by omega) (by omega) (by omega)) (hL.low (j + 1) i (by omega) (by omega) (by omega)) ?_ qb).elim
       rw [qb, oC]; omega
     · refine put (j + 1) i (by omega) hi _ (.inl rfl) ?_
       have := qb (w := w) (j := j) (i := i)
       simp only [dE, loT, List.mem_cons, List.not_mem_nil, or_false, Prod.mk.injEq]
       omega
   · by_cases h0 : i = 0
     · exact (bad (hL.low (j + 1) i (by omega) (by omega) (by omega)) (hL.low j i (by omega) (by omega) (by omega)) qb rfl).elim
     · refine put j (i - 1) hj (by omega) _ (.inl rfl) ?_
       have := Fi (w := w) (j := j) (i := i) (by omega)
       simp only [dE, loT, List.mem_cons, List.not_mem_nil, or_false, Prod.mk.injEq]
       omega
theorem CJ {Z : List Int} {t : A3 Int} {a b : Int} (hm : (a, b) ∈ dE t) (hn : abv Z level a ≠ abv Z level b) : ∃ q, seg Z level t = some q /\ (abv Z level a = true -> q.1 = A2.mk (mn a b) (mx a b)) /\ (abv Z level a = false -> q.2 = A2.mk (mn a b) (mx a b)) := by
 have e : zB Z level t 3 = stp Z level (stp Z level (stp Z level (0, 0, 0, 0, false) t.e0 t.e1) t.e1 t.e2) t.e2 t.e0 := rfl
 unfold seg
 rw [e]
 clear e
 simp only [dE, List.mem_cons, List.not_mem_nil, or_false, Prod.mk.injEq] at hm
 rcases hm with ⟨rfl, rfl⟩ | ⟨rfl, rfl⟩ | ⟨rfl, rfl⟩ <;>
  cases ha : abv Z level t.e0 <;> cases hb : abv Z level t.e1 <;> cases hc : abv Z level t.e2 <;> simp_all [stp, zm]
theorem Eo (a b : Int) : A2.mk (mn a b) (mx a b) = A2.mk (mn b a) (mx b a) := by
 unfold mn mx
 by_cases h : b < a
 · rw [if_pos h, if_neg (by omega), if_neg (by omega), if_pos (by omega)]
 · by_cases h2 : a < b
   · rw [if_neg h, if_pos (by omega), if_pos h2, if_neg (by omega)]
   · have : a = b := by omega
     subst this; rfl
structure Cy (S : List (K2 × K2)) : Prop where
 pw : S.Pairwise Rq
 len : S.length <= 60
 fw : ∀ q ∈ S, dB S q.2 = true
 bw : ∀ q ∈ S, ∃ q' ∈ S, q'.2 = q.1
theorem Ga (hL : Lw g w h level) (hg : Gd g w h) (hb : g.Z.any n8 = false) (h40 : g.Z.length <= 40) : Cy (nZ g w h level) := by
 have hs := Da hg hb h40 level
 refine ⟨hs.pw, hs.len, fun q hq => ?_, fun q hq => ?_⟩
 · unfold nZ at hq
   obtain ⟨t, ht, e⟩ := List.mem_filterMap.1 hq
   obtain ⟨-, a, b, m, h1, h2, h3⟩ := oA e
   obtain ⟨t', ht', m'⟩ := nbr hL hg ht m (by rw [h1, h2]; simp)
   obtain ⟨q', e', h4, -⟩ := CJ (Z := g.Z) (level := level) m' (by rw [h1, h2]; simp)
   refine iM.2 ⟨q', List.mem_filterMap.2 ⟨t', ht', e'⟩, ?_⟩
   rw [h4 h2, h3, Eo]
 · unfold nZ at hq
   obtain ⟨t, ht, e⟩ := List.mem_filterMap.1 hq
   obtain ⟨⟨a, b, m, h1, h2, h3⟩, -⟩ := oA e
   obtain ⟨t', ht', m'⟩ := nbr hL hg ht m (by rw [h1, h2]; simp)
   obtain ⟨q', e', -, h4⟩ := CJ (Z := g.Z) (level := level) m' (by rw [h1, h2]; simp)
   refine ⟨q', List.mem_filterMap.2 ⟨t', ht', e'⟩, ?_⟩
   rw [h4 h2, h3, Eo]
end
end Go.L


set_option linter.all false
namespace Go.L
open Go Go.Eng
section
variable {g : al} {level : Int} {S : List (K2 × K2)}
theorem Dg (h : SS g level S) : (sq S).length <= 120 := by
 unfold sq
 rw [mf]
 refine y7 ?_ h.len
 have h1 : (opK S).length <= (stK S).length := List.length_filter_le _ _
 have h2 : (stK S).length = S.length := by unfold stK; rw [mf, List.length_map]
 have := h.len; omega
theorem ES {α β : Type} [Inhabited α] [Inhabited β] {f : α -> β} {l : List α} {k : Nat} (h : k < l.length) : gt (l.map f) (k : Int) = f l[k] := by
 rw [xn (by rw [List.length_map]; exact h), List.getElem_map]
end
end Go.L

