import Derived.Test.YtlpfiiejhikalaaGreatTrkL26C
import Derived.Test.YtlpfiiejhikalaaGreatTrkL26C
import Derived.Test.YtlpfiiejhikalaaGreatTrkL26C
import Derived.Test.YtlpfiiejhikalaaGreatTrkL26C
set_option linter.all false
namespace Go.L
open Go Go.Eng
abbrev Tis := List ai
theorem rZ {γ : Type} {κ : γ -> Int} : ∀ {a b : List γ}, a.Pairwise (fun x y => κ x < κ y) -> b.Pairwise (fun x y => κ x < κ y) -> (∀ x, x ∈ a ↔ x ∈ b) -> a = b
 | [], [], _, _, _ => rfl
 | [], y :: b, _, _, h => by have := (h y).2 (by simp); cases this
 | x :: a, [], _, _, h => by have := (h x).1 (by simp); cases this
 | x :: a, y :: b, ha, hb, h => by
  obtain ⟨a1, a2⟩ := List.pairwise_cons.1 ha
  obtain ⟨b1, b2⟩ := List.pairwise_cons.1 hb
  have e : x = y := by
   rcases List.mem_cons.1 ((h x).1 (by simp)) with e | hx
   · exact e
   · rcases List.mem_cons.1 ((h y).2 (by simp)) with e | hy
     · exact e.symm
     · have := a1 y hy; have := b1 x hx; omega
  subst e
  rw [rZ a2 b2 fun z => ?_]
  constructor
  · intro hz
    rcases List.mem_cons.1 ((h z).1 (by simp [hz])) with rfl | hz'
    · have := a1 _ hz; omega
    · exact hz'
  · intro hz
    rcases List.mem_cons.1 ((h z).2 (by simp [hz])) with rfl | hz'
    · have := b1 _ hz; omega
    · exact hz'
def kM (m : aa) : Int := m.Image * 4096 + m.Feature
def okM (m : aa) : Prop := (0 <= m.Image /\ m.Image < 64) /\ 0 <= m.Feature /\ m.Feature <= 4095
theorem tG {a b : aa} (ha : okM a) (hb : okM b) (h : kM a = kM b) : a = b := by
 obtain ⟨i, f⟩ := a
 obtain ⟨j, g⟩ := b
 simp only [kM, okM] at *
 have : i = j := by omega
 subst this
 have : f = g := by omega
 subst this; rfl
theorem ji {a : aa} (ha : okM a) : 0 <= kM a /\ kM a < 262144 := by simp only [kM, okM] at *; omega
def kT (t : ai) : Int := (t.Cost * 262144 + kM t.A) * 262144 + kM t.B
def okT (t : ai) : Prop := okM t.A /\ okM t.B /\ (0 <= t.Cost /\ t.Cost <= 1048576) /\ t.A.Image < t.B.Image
theorem vS {a b : ai} (ha : okT a) (hb : okT b) (h : kT a = kT b) : a = b := by
 obtain ⟨A, B, c⟩ := a
 obtain ⟨C, D, d⟩ := b
 obtain ⟨h1, h2, h3, _⟩ := ha
 obtain ⟨g1, g2, g3, _⟩ := hb
 simp only [kT] at h h1 h2 h3 g1 g2 g3
 have r1 := ji h1
 have r2 := ji h2
 have r3 := ji g1
 have r4 := ji g2
 have : c = d := by omega
 subst this
 have e1 : kM A = kM C := by omega
 have e2 : kM B = kM D := by omega
 rw [tG h1 g1 e1, tG h2 g2 e2]
theorem Bf {n : Nat} (x y : Int) : fP n x y = some (if x < y then -1 else if x > y then 1 else 0) := by
 unfold fP cmp_isNaN_int
 have e : ∀ z : Int, (z != z) = false := fun z => by simp
 rw [e, e]
 show cdO (decide (x < y)) _ _ = _
 by_cases h : x < y
 · rw [decide_eq_true h, if_pos h]; rfl
 · rw [decide_eq_false h, if_neg h]
   show cdO (decide (x > y)) _ _ = _
   by_cases h2 : x > y
   · rw [decide_eq_true h2, if_pos h2]; rfl
   · rw [decide_eq_false h2, if_neg h2]; rfl
def cM (a b : aa) : Int := if a.Image < b.Image then -1 else if a.Image > b.Image then 1 else if a.Feature < b.Feature then -1 else if a.Feature > b.Feature then 1 else 0
theorem vM {n : Nat} (hn : 5 < n) (a b : aa) : de n a b = some (cM a b) := by
 apply Ok.eq
 unfold de
 refine Ok.bd (R := fun o => o = cM a b) ?_ (fun o ho => aw.2 ho)
 unfold eD
 refine Ok.bd (R := fun o => o = if cM a b = 0 then Sum.inl () else Sum.inr (cM a b)) ?_ ?_
 · have l2 : ∀ x y : Int, ([x, y] : List Int).length = 2 := fun _ _ => rfl
   refine rB (len := 2) (fun k => (1 <= k -> a.Image = b.Image) /\ (2 <= k -> cM a b = 0)) (by omega) (by omega) ⟨by omega, by omega⟩ ?_ ?_
   · rintro again k hk ⟨h1, h2⟩ ih
     rw [l2, l2]
     refine Ok.cd (fun _ => ?_) (fun h => by have := dcF h; omega)
     refine Ok.gd (by rw [aJ]; exact decide_eq_true hk) ?_
     refine Ok.cd (fun h => by have := dcT h; omega) (fun _ => ?_)
     refine Ok.gd (by rw [aJ]; exact decide_eq_true hk) ?_
     refine Ok.bde (Bf _ _) ?_
     match k, hk with
     | 0, _ =>
      show Ok (cdO ((if a.Image < b.Image then (-1 : Int) else if a.Image > b.Image then 1 else 0) != 0) (some (Sum.inr (if a.Image < b.Image then (-1 : Int) else if a.Image > b.Image then 1 else 0))) (again (Ew (((0 : Nat) : Int) + 1)))) _
      unfold cM
      by_cases g1 : a.Image < b.Image
      · rw [if_pos g1, if_pos g1]
        exact Ok.cd (fun _ => aw.2 rfl) (fun h => by cases h)
      · rw [if_neg g1, if_neg g1]
        by_cases g2 : a.Image > b.Image
        · rw [if_pos g2, if_pos g2]
          exact Ok.cd (fun _ => aw.2 rfl) (fun h => by cases h)
        · rw [if_neg g2, if_neg g2]
          refine Ok.cd (fun h => by cases h) (fun _ => ?_)
          have := ih ⟨fun _ => by omega, by omega⟩
          unfold cM at this
          rw [if_neg g1, if_neg g2] at this
          exact this
     | 1, _ =>
      have e := h1 (by omega)
      have c0 : cM a b = if a.Feature < b.Feature then -1 else if a.Feature > b.Feature then 1 else 0 := by unfold cM; rw [if_neg (by omega), if_neg (by omega)]
      show Ok (cdO ((if a.Feature < b.Feature then (-1 : Int) else if a.Feature > b.Feature then 1 else 0) != 0) (some (Sum.inr (if a.Feature < b.Feature then (-1 : Int) else if a.Feature > b.Feature then 1 else 0))) (again (Ew (((1 : Nat) : Int) + 1)))) _
      rw [<- c0]
      refine Ok.cd (fun h => aw.2 ?_) (fun h => ?_)
      · rw [if_neg (by simpa using h)]
      · have h : cM a b = 0 := by simpa using h
        exact ih ⟨fun _ => e, fun _ => h⟩
   · rintro again ⟨_, h2⟩
     rw [l2]
     refine Ok.cd (fun h => by have := dcT h; omega) (fun _ => aw.2 ?_)
     rw [if_pos (h2 (by omega))]
 · rintro o rfl
   by_cases h : cM a b = 0
   · rw [if_pos h, h]; exact Ok.cd (fun h => by cases h) (fun _ => aw.2 rfl)
   · rw [if_neg h]; exact aw.2 rfl
theorem vR {a b : aa} (ha : okM a) (hb : okM b) : (cM a b < 0 ↔ kM a < kM b) /\ (cM a b = 0 ↔ kM a = kM b) := by
 unfold cM kM
 simp only [okM] at ha hb
 split
 · omega
 · split
   · omega
   · split
     · omega
     · split <;> omega
theorem B1 {n : Nat} (hn : 5 < n) {a b : ai} (ha : okT a) (hb : okT b) : ∃ c, fg n a b = some c /\ (c < 0 ↔ kT a < kT b) := by
 obtain ⟨h1, h2, h3, _⟩ := ha
 obtain ⟨g1, g2, g3, _⟩ := hb
 have r1 := ji h1
 have r2 := ji h2
 have r3 := ji g1
 have r4 := ji g2
 unfold fg kT
 by_cases hc : a.Cost = b.Cost
 · rw [hc, show ((b.Cost : Int) != b.Cost) = false by simp]
   rw [vM hn, vM hn]
   have k1 := vR h1 g1
   have k2 := vR h2 g2
   by_cases h0 : cM a.A b.A = 0
   · refine ⟨cM a.B b.B, ?_, ?_⟩
     · show cdO (cM a.A b.A != 0) _ _ = _
       rw [h0]; rfl
     · have := k1.2.1 h0; omega
   · refine ⟨cM a.A b.A, ?_, ?_⟩
     · show cdO (cM a.A b.A != 0) _ _ = _
       rw [show (cM a.A b.A != 0) = true by simpa using h0]; rfl
     · have : kM a.A ≠ kM b.A := fun e => h0 (k1.2.2 e)
       omega
 · rw [show ((a.Cost : Int) != b.Cost) = true by simpa using hc]
   refine ⟨a.Cost - b.Cost, ?_, by omega⟩
   show some _ = _
   rw [wrap64_in (by omega) (by omega)]
theorem xn {γ : Type} [Inhabited γ] {κ : γ -> Int} {E : γ -> γ -> Bool} {s : List γ} (hE : ∀ x ∈ s, ∀ y ∈ s, (E x y = true ↔ κ x = κ y)) (inj : ∀ x ∈ s, ∀ y ∈ s, κ x = κ y -> x = y) (hs : s.Pairwise (fun a b => κ a <= κ b)) :
  ∀ t, t <= s.length -> (kpG E s t).Pairwise (fun a b => κ a < κ b) /\ (∀ x, x ∈ kpG E s t ↔ x ∈ s.take t) /\ (∀ x, x ∈ kpG E s t -> 0 < t /\ κ x <= κ (s.getD (t - 1) default))
 | 0, _ => ⟨.nil, fun x => by simp [kpG], fun x h => by cases h⟩
 | t + 1, ht => by
  obtain ⟨h1, h2, h3⟩ := xn hE inj hs t (by omega)
  have hmt : s.getD t default ∈ s := pg (by omega)
  have hm : ∀ x, x ∈ s.take (t + 1) ↔ x ∈ s.take t \/ x = s.getD t default := fun x => by rw [uj (by omega)]; simp
  have hle : 0 < t -> κ (s.getD (t - 1) default) <= κ (s.getD t default) := fun h0 => by
   have := List.pairwise_iff_getElem.1 hs (t - 1) t (by omega) (by omega) (by omega)
   simpa [List.getD, geT (show t - 1 < s.length by omega), geT (show t < s.length by omega)] using this
  rw [kpG]
  by_cases hk : t = 0 \/ E (s.getD t default) (s.getD (t - 1) default) = false
  · rw [if_pos hk]
    refine ⟨List.pairwise_append.2 ⟨h1, by simp, fun x hx y hy => ?_⟩, fun x => by rw [hm, <- h2]; simp, fun x hx => ⟨by omega, ?_⟩⟩
    · obtain rfl : y = s.getD t default := by simpa using hy
      obtain ⟨p1, p2⟩ := h3 x hx
      have hk := hk.resolve_left (by omega)
      have : κ (s.getD t default) ≠ κ (s.getD (t - 1) default) := fun e => by
       rw [(hE _ hmt _ (pg (by omega))).2 e] at hk; cases hk
      have := hle p1
      omega
    · rw [Nat.add_sub_cancel]
      rcases List.mem_append.1 hx with hx | hx
      · obtain ⟨p1, p2⟩ := h3 x hx
        have := hle p1
        omega
      · obtain rfl : x = s.getD t default := by simpa using hx
        exact Int.le_refl _
  · rw [if_neg hk]
    have h0 : 0 < t := by omega
    have he : E (s.getD t default) (s.getD (t - 1) default) = true := by
     cases h : E (s.getD t default) (s.getD (t - 1) default) with
     | true => rfl
     | false => exact (hk (.inr h)).elim
    have hm1 : s.getD (t - 1) default ∈ s := pg (by omega)
    have e1 := inj _ hmt _ hm1 ((hE _ hmt _ hm1).1 he)
    refine ⟨h1, fun x => ?_, fun x hx => ⟨by omega, ?_⟩⟩
    · rw [hm, h2]
      constructor
      · exact .inl
      · rintro (h | rfl)
        · exact h
        · rw [e1]
          have : s.take t = s.take (t - 1) ++ [s.getD (t - 1) default] := by
           have := uj (s := s) (k := t - 1) (by omega)
           rwa [Nat.sub_add_cancel h0] at this
          rw [this]; simp
    · rw [Nat.add_sub_cancel, e1]; exact (h3 x hx).2
def eqT (x y : ai) : Bool := ((((x.A.Image : Int) == y.A.Image) && (((x.A.Feature : Int) == y.A.Feature) && true)) && ((((x.B.Image : Int) == y.B.Image) && (((x.B.Feature : Int) == y.B.Feature) && true)) && (((x.Cost : Int) == y.Cost) && true)))
theorem xm {x y : ai} : eqT x y = true ↔ x = y := by
 obtain ⟨⟨a, b⟩, ⟨c, d⟩, e⟩ := x
 obtain ⟨⟨a', b'⟩, ⟨c', d'⟩, e'⟩ := y
 simp [eqT, and_assoc]
theorem vI {n : Nat} (hn : 1024 < n) {s : Tis} (hl : s.length <= 1024) : aW n s = some (kpG eqT s s.length) := by
 have := yy (n := n) (s := s) (z := ai.mk (aa.mk 0 0) (aa.mk 0 0) 0) (f := fun x y => some (eqT x y)) (E := eqT) (fun _ _ _ _ => rfl) hl hn
 rw [<- this]
 unfold aW
 congr 1
 congr 1
 funext o
 cases o <;> rfl
def km (l : Tis) : Tis := kpG eqT (fG (ltK kT) l) l.length
theorem tY {γ : Type} {κ : γ -> Int} : ∀ {l : List γ}, (fG (ltK κ) l).Pairwise (fun a b => κ a <= κ b)
 | [] => .nil
 | x :: l => by
  have ih := tY (κ := κ) (l := l)
  show (kV (ltK κ) x (fG (ltK κ) l)).Pairwise _
  generalize fG (ltK κ) l = r at ih
  induction r with
  | nil => simp [kV]
  | cons y r ihr =>
   obtain ⟨h1, h2⟩ := List.pairwise_cons.1 ih
   unfold kV
   by_cases hlt : κ y < κ x
   · rw [if_pos (decide_eq_true hlt)]
     refine List.pairwise_cons.2 ⟨fun z hz => ?_, ihr h2⟩
     rcases oq.1 hz with rfl | hz
     · omega
     · exact h1 z hz
   · rw [if_neg (by simpa [ltK] using hlt)]
     refine List.pairwise_cons.2 ⟨fun z hz => ?_, ih⟩
     rcases List.mem_cons.1 hz with rfl | hz
     · omega
     · have := h1 z hz; omega
theorem qk {l : Tis} (hv : ∀ t ∈ l, okT t) : (km l).Pairwise (fun a b => kT a < kT b) /\ (∀ t, t ∈ km l ↔ t ∈ l) /\ (km l).length <= l.length := by
 have hm : ∀ t, t ∈ fG (ltK kT) l ↔ t ∈ l := fun t => lx
 have h := xn (κ := kT) (E := eqT) (s := fG (ltK kT) l) (fun x hx y hy => ⟨fun h => by rw [xm.1 h], fun h => xm.2 (vS (hv _ ((hm x).1 hx)) (hv _ ((hm y).1 hy)) h)⟩) (fun x hx y hy h => vS (hv _ ((hm x).1 hx)) (hv _ ((hm y).1 hy)) h) tY l.length (by rw [iV]; exact Nat.le_refl _)
 refine ⟨h.1, fun t => ?_, ti _⟩
 unfold km
 rw [h.2.1, List.take_of_length_le (by rw [iV]; exact Nat.le_refl _), hm]
theorem yY {n : Nat} {s : Tis} (hl : s.length <= 1024) : bj n s = some s := by
 unfold bj
 rw [decide_eq_true (show (0 + s.length) * 40 <= 140737488355328 by omega), decide_eq_true (show 0 + s.length <= 4611686018427387904 by omega)]; rfl
theorem zW {n : Nat} (hn : 5 < n) {l : Tis} (hl : l.length <= 1024) (hv : ∀ t ∈ l, okT t) : aR n l = some (fG (ltK kT) l) := by
 unfold aR
 rw [decide_eq_true (show l.length < 4611686018427387904 by omega)]
 exact sP (κ := kT) (fun x y hx hy => B1 hn (hv x hx) (hv y hy)) (fun x y hx hy h => vS (hv x hx) (hv y hy) h)
def lT (m : aa) : Bool := decide (m.Image < 0) || decide (m.Image >= 64) || decide (m.Feature < 0) || decide (m.Feature > 4095)
theorem sH {m : aa} : lT m = false ↔ okM m := by simp [lT, okM]; omega
def gG (t : ai) : Int := if lT t.A = true \/ lT t.B = true \/ t.Cost < 0 \/ t.Cost > 1048576 then 2 else if t.A.Image >= t.B.Image then 5 else 0
theorem mg {t : ai} : gG t = 0 ↔ okT t := by
 unfold gG okT
 rw [<- sH, <- sH]
 split
 · rename_i h
   constructor
   · intro h; omega
   · rintro ⟨h1, h2, h3, _⟩
     rw [h1, h2] at h
     rcases h with h | h | h | h
     · cases h
     · cases h
     · omega
     · omega
 · rename_i h
   have h1 : lT t.A = false := by cases hb : lT t.A <;> simp_all
   have h2 : lT t.B = false := by cases hb : lT t.B <;> simp_all
   split
   · constructor
     · intro h; omega
     · rintro ⟨_, _, _, h⟩; omega
   · exact ⟨fun _ => ⟨h1, h2, by omega, by omega⟩, fun _ => rfl⟩
def jV : Tis -> Int
 | [] => 0
 | t :: l => if gG t = 0 then jV l else gG t
def nt (l : Tis) : Int := if l.length > 256 then 3 else jV l
theorem mH : ∀ {l : Tis}, jV l = 0 ↔ ∀ t ∈ l, okT t
 | [] => by simp [jV]
 | t :: l => by
  unfold jV
  by_cases h : gG t = 0
  · rw [if_pos h, mH (l := l)]
    exact ⟨fun g x hx => by rcases List.mem_cons.1 hx with rfl | hx; exact mg.1 h; exact g x hx, fun g x hx => g x (by simp [hx])⟩
  · rw [if_neg h]
    exact ⟨fun g => (h g).elim, fun g => (h (mg.2 (g t (by simp)))).elim⟩
theorem yl {l : Tis} {k : Nat} (h : ∀ j, j < k -> gG (l.getD j default) = 0) (hk : k < l.length) (hc : gG (l.getD k default) ≠ 0) : jV l = gG (l.getD k default) := by
 induction l generalizing k with
 | nil => simp at hk
 | cons t l ih =>
  unfold jV
  cases k with
  | zero => rw [if_neg (by simpa using hc)]; simp
  | succ k =>
   rw [if_pos (by simpa using h 0 (by omega))]
   have := ih (k := k) (fun j hj => by simpa using h (j + 1) (by omega)) (by simpa using hk) (by simpa using hc)
   simpa using this
theorem xE {l : Tis} (h : ∀ j, j < l.length -> gG (l.getD j default) = 0) : jV l = 0 := by
 rw [mH]
 intro t ht
 obtain ⟨j, hj, rfl⟩ := List.getElem_of_mem ht
 have := h j hj
 rw [List.getD_eq_getElem?_getD, geT hj] at this
 exact mg.1 this
theorem xj {n : Nat} {m : aa} : fI n m = some (lT m) := by
 unfold fI lT
 cases h1 : decide (m.Image < 0) with
 | true => rfl
 | false =>
  cases h2 : decide (m.Image >= 64) with
  | true => rfl
  | false =>
   cases h3 : decide (m.Feature < 0) with
   | true => rfl
   | false => rfl
theorem sU {n : Nat} (hn : 300 < n) {l : Tis} : ir n l = some (nt l) := by
 apply Ok.eq
 unfold ir nt
 refine Ok.cd (fun h => aw.2 ?_) (fun h => ?_)
 · rw [if_pos (by have := dcT h; omega)]
 · have hl : l.length <= 256 := by have := dcF h; omega
   rw [if_neg (by omega)]
   refine Ok.bd (R := fun o => o = if jV l = 0 then Sum.inl () else Sum.inr (jV l)) ?_ ?_
   · refine rB (len := l.length) (fun k => ∀ j, j < k -> gG (l.getD j default) = 0) (by omega) (by omega) (fun j hj => by omega) ?_ ?_
     · intro again k hk hP ih
       refine Ok.cd (fun _ => ?_) (fun h => by have := dcF h; omega)
       refine Ok.gd (by rw [aJ]; exact decide_eq_true hk) ?_
       rw [cO]
       have bad : ∀ c, gG (l.getD k default) = c -> c ≠ 0 -> (Sum.inr c : Sum Unit Int) = if jV l = 0 then Sum.inl () else Sum.inr (jV l) := fun c h0 h => by
        have e := yl hP hk (by rw [h0]; exact h)
        rw [e, h0, if_neg h]
       have nx : gG (l.getD k default) = 0 -> Ok (again (Ew ((k : Int) + 1))) (fun o => o = if jV l = 0 then Sum.inl () else Sum.inr (jV l)) := fun h0 => ih fun j hj => by
        by_cases e : j < k
        · exact hP j e
        · obtain rfl : j = k := by omega
          exact h0
       generalize l.getD k default = t at *
       unfold gG at bad nx
       refine Ok.bde xj (Ok.cd (fun h => aw.2 (bad 2 (by rw [if_pos (.inl h)]) (by omega))) (fun h1 => ?_))
       refine Ok.bde xj (Ok.cd (fun h => aw.2 (bad 2 (by rw [if_pos (.inr (.inl h))]) (by omega))) (fun h2 => ?_))
       refine Ok.cd (fun h => aw.2 (bad 2 (by rw [if_pos (.inr (.inr (.inl (dcT h))))]) (by omega))) (fun h3 => ?_)
       refine Ok.cd (fun h => aw.2 (bad 2 (by rw [if_pos (.inr (.inr (.inr (dcT h))))]) (by omega))) (fun h4 => ?_)
       have hno : ¬ (lT t.A = true \/ lT t.B = true \/ t.Cost < 0 \/ t.Cost > 1048576) := by
        rw [h1, h2]; have := dcF h3; have := dcF h4; simp; omega
       refine Ok.cd (fun h => aw.2 (bad 5 (by rw [if_neg hno, if_pos (dcT h)]) (by omega))) (fun h5 => ?_)
       exact nx (by rw [if_neg hno, if_neg (dcF h5)])
     · intro again hP
       refine Ok.cd (fun h => by have := dcT h; omega) (fun _ => aw.2 ?_)
       rw [if_pos (xE hP)]
   · rintro o rfl
     by_cases h0 : jV l = 0
     · rw [if_pos h0, h0]; exact aw.2 rfl
     · rw [if_neg h0]; exact aw.2 rfl
end Go.L


set_option linter.all false
namespace Go.L
open Go Go.Eng
def oQ (M : Mks) : List (aa × Int) := (List.range M.length).map fun i => (M.getD i default, (i : Int))
theorem xT {M : Mks} {m : aa} : oQ (M ++ [m]) = oQ M ++ [(m, (M.length : Int))] := by
 unfold oQ
 rw [List.length_append, List.length_singleton, List.range_succ, List.map_append]
 congr 1
 · refine List.map_congr_left fun i hi => ?_
   have := List.mem_range.1 hi
   simp [List.getD, List.getElem?_append_left this]
 · simp [List.getD]
theorem qF {M : Mks} {m : aa} {v : Int} : (m, v) ∈ oQ M ↔ ∃ k, k < M.length /\ M.getD k default = m /\ v = (k : Int) := by
 unfold oQ
 simp only [List.mem_map, List.mem_range, Prod.mk.injEq]
 constructor
 · rintro ⟨k, h1, h2, h3⟩; exact ⟨k, h1, h2, h3.symm⟩
 · rintro ⟨k, h1, h2, h3⟩; exact ⟨k, h1, h2, h3.symm⟩
theorem uV {M : Mks} {m : aa} : m ∈ M ↔ ∃ k, k < M.length /\ M.getD k default = m := by
 constructor
 · intro h
   obtain ⟨k, hk, e⟩ := List.getElem_of_mem h
   exact ⟨k, hk, by simp [List.getD, geT hk, e]⟩
 · rintro ⟨k, hk, rfl⟩; exact pg hk
theorem u4 {M : Mks} {m : aa} : cW (oQ M) m = true ↔ m ∈ M := by
 rw [iK, uV]
 constructor
 · rintro ⟨⟨x, v⟩, hp, rfl⟩
   obtain ⟨k, h1, h2, _⟩ := qF.1 hp
   exact ⟨k, h1, h2⟩
 · rintro ⟨k, h1, h2⟩
   exact ⟨(m, (k : Int)), qF.2 ⟨k, h1, h2, rfl⟩, rfl⟩
theorem Bn {M : Mks} (h : M.Nodup) {i j : Nat} (hi : i < M.length) (hj : j < M.length) (e : M.getD i default = M.getD j default) : i = j := by
 simp only [List.getD, geT hi, geT hj, Option.getD_some] at e
 exact (List.getElem_inj h).1 e
theorem tW {M : Mks} (h : M.Nodup) {k : Nat} (hk : k < M.length) : getM 0 (oQ M) (M.getD k default) = (k : Int) := by
 refine qO ?_ (qF.2 ⟨k, hk, rfl, rfl⟩)
 unfold oQ
 rw [List.pairwise_map]
 refine List.Pairwise.imp_of_mem ?_ (List.nodup_range)
 intro a b ha hb hab e
 exact hab (Bn h (List.mem_range.1 ha) (List.mem_range.1 hb) e)
structure UF (p : List Int) (r τ : Nat -> Nat) (T n : Nat) : Prop where
 len : p.length = n
 up : ∀ k, k < n -> ∃ q : Nat, p.getD k default = (q : Int) /\ q < n /\ r q = r k /\ τ k <= T /\ (q ≠ k -> τ k < τ q) /\ (q = k -> r k = k)
 root : ∀ k, k < n -> r k < n /\ r (r k) = r k /\ p.getD (r k) default = (r k : Int)
theorem kX {l : List Int} {i j : Nat} {x : Int} : (l.set i x).getD j default = if i = j /\ i < l.length then x else l.getD j default := by
 simp only [List.getD, List.getElem?_set]
 by_cases h : i = j
 · subst h
   by_cases h2 : i < l.length
   · simp [h2]
   · rw [if_pos rfl, if_neg h2, if_neg (by omega), List.getElem?_eq_none (by omega)]
 · rw [if_neg h, if_neg (by omega)]
theorem sL {n : Nat} {p : List Int} {r τ : Nat -> Nat} {T m k0 : Nat} (h : UF p r τ T m) (hk : k0 < m) (hn : T < n) :
  Ok (aP (α := List Int × Int) (β := List Int × Int) n (fun again24 (c_17, k_18) => (
  gdO (inR k_18 c_17.length) (
  cdO (((gt c_17 k_18) : Int) != k_18) (
   gdO (inR (gt c_17 k_18) c_17.length) (
   again24 (c_17.set k_18.toNat (gt c_17 (gt c_17 k_18)), (gt (c_17.set k_18.toNat (gt c_17 (gt c_17 k_18))) k_18))
   )
  ) (
   some ((c_17, k_18))
  )
  )
 )) (p, (k0 : Int))) (fun o => UF o.1 r τ T m /\ o.2 = (r k0 : Int)) := by
 refine bI (fun q => ∃ k : Nat, q.2 = (k : Int) /\ k < m /\ r k = r k0 /\ UF q.1 r τ T m) (fun q => T - τ q.2.toNat) ?_ n _ ⟨k0, rfl, hk, rfl, h⟩ (by show T - τ ((k0 : Int)).toNat < n; omega)
 rintro again ⟨c, x⟩ ⟨k, hx, hk1, hr, hU⟩ ih
 obtain rfl : x = (k : Int) := hx
 dsimp only at hU ⊢
 obtain ⟨q, q1, q2, q3, q4, q5, q6⟩ := hU.up k hk1
 have hcl := hU.len
 refine Ok.gd (by rw [aJ]; exact decide_eq_true (by omega)) ?_
 rw [cO, q1]
 refine Ok.cd (fun hne => ?_) (fun he => ?_)
 · have hne : q ≠ k := fun e => by rw [e] at hne; simp at hne
   obtain ⟨q', p1, p2, p3, p4, p5, p6⟩ := hU.up q q2
   refine Ok.gd (by rw [aJ]; exact decide_eq_true (by omega)) ?_
   rw [cO, p1, cO, Int.toNat_natCast, kX, if_pos ⟨rfl, by omega⟩]
   have hlt : τ k < τ q' := by
    have := q5 hne
    by_cases e : q' = q
    · rw [e]; exact this
    · have := p5 e; omega
   have hkk : q' ≠ k := fun e => by rw [e] at hlt; omega
   have hnr : r k ≠ k := fun e => by
    have := (hU.root k hk1).2.2
    rw [e, q1] at this
    exact hne (by omega)
   have hτ : τ q' <= T := by obtain ⟨_, _, _, _, h, _, _⟩ := hU.up q' p2; exact h
   refine ih _ ⟨q', rfl, p2, by rw [p3, q3, hr], ⟨by rw [List.length_set]; exact hcl, fun j hj => ?_, fun j hj => ?_⟩⟩ (by show T - τ ((q' : Int)).toNat < T - τ ((k : Int)).toNat; simp only [Int.toNat_natCast]; omega)
   · dsimp only
     rw [kX]
     by_cases e : k = j
     · subst e
       rw [if_pos ⟨rfl, by omega⟩]
       exact ⟨q', rfl, p2, by rw [p3, q3], q4, fun _ => hlt, fun e => (hkk e).elim⟩
     · rw [if_neg (fun h => e h.1)]; exact hU.up j hj
   · dsimp only
     obtain ⟨g1, g2, g3⟩ := hU.root j hj
     refine ⟨g1, g2, ?_⟩
     rw [kX, if_neg]
     · exact g3
     · rintro ⟨e, _⟩
       rw [<- e] at g2
       exact hnr g2
 · have he : q = k := by have : (q : Int) = k := by simpa using he
                         omega
   refine aw.2 ⟨hU, ?_⟩
   show (k : Int) = _
   rw [<- hr, q6 he]
theorem oz {n : Nat} {c0 : Tis} {num : List (aa × Int)} {M : Mks} {p img : List Int} {r τ : Nat -> Nat} {T k : Nat} (hn : T < n) (hM : M.Nodup) (hnum : num = oQ M) (h : UF p r τ T M.length) (hk : k < M.length) :
  Ok (bD n c0 num M p img (M.getD k default)) (fun o => UF o.1 r τ T M.length /\ o.2 = (r k : Int)) := by
 unfold bD
 rw [hnum, tW hM hk]
 refine Ok.bd (sL h hk hn) ?_
 rintro ⟨a, b⟩ ho
 exact aw.2 ho
end Go.L

