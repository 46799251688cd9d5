import Derived.Test.YtecdcgfclgmbpaaGreatTurL51q
set_option linter.all false
namespace Go.L
open Go Go.Eng
def PlQ (p1 p2 : an) : Prop := ∃ x y : Rat, Qx p1.X x 27 /\ Qx p1.Y y 27 /\ R.Qx p2.X x 27 /\ R.Qx p2.Y y 27
def B9 (c : al) : Prop := C3 c.At /\ c.At.Num.Groups.length <= 16 /\ c.At.Den.Groups.length <= 16
def yH (L1 L2 : List an) (k : Nat) : Prop := L1.length = k /\ L2.length = k /\ ∀ j, j < k -> PlQ (L1.getD j default) (L2.getD j default)
theorem yH.snoc {L1 L2 : List an} {k : Nat} (h : yH L1 L2 k) {p1 p2 : an} (hp : PlQ p1 p2) : yH (L1 ++ [p1]) (L2 ++ [p2]) (k + 1) := by
 obtain ⟨a, b, c⟩ := h
 refine ⟨by simp [a], by simp [b], fun j hj => ?_⟩
 by_cases hjk : j = k
 · have e1 : (L1 ++ [p1]).getD j default = p1 := by rw [hjk, <- a]; simp [List.getD]
   have e2 : (L2 ++ [p2]).getD j default = p2 := by rw [hjk, <- b]; simp [List.getD]
   rw [e1, e2]; exact hp
 · have e1 : (L1 ++ [p1]).getD j default = L1.getD j default := by simp only [List.getD]; rw [List.getElem?_append_left (by omega)]
   have e2 : (L2 ++ [p2]).getD j default = L2.getD j default := by simp only [List.getD]; rw [List.getElem?_append_left (by omega)]
   rw [e1, e2]; exact c j (by omega)
def PsR (c : ae) (r1 r2 : List an × Int) : Prop := (r1.2 ≠ 0 /\ r2.2 = r1.2) \/ (r1.2 = 0 /\ r2.2 = 0 /\ yH r1.1 r2.1 c.Points.length)
def kd (f : al -> Option (an × Int)) : List al -> List an -> Option (List an × Int)
 | [], out => some (out, 0)
 | x :: l, out => bdO (f x) fun v => bif v.2 != 0 then some ([], v.2) else kd f l (out ++ [v.1])
theorem yx {n : Nat} {f : al -> Option (an × Int)} {L : List al} {F : (List an × Int -> Option (Sum (List an) (List an × Int))) -> List an × Int -> Option (Sum (List an) (List an × Int))}
  (hn : L.length < n) (hl : L.length <= 100000) (hf : ∀ x ∈ L, ∃ v, f x = some v)
  (hF : ∀ again out k, F again (out, k) = cdO (decide (k < (L.length : Int))) (gdO (inR k L.length) (bdO (f (gt L k)) fun v => cdO ((v.2 : Int) != 0) (some (Sum.inr (([], v.2)))) (gdO (decide ((out.length + 1) * 128 <= 140737488355328)) (gdO (decide (out.length + 1 <= 4611686018427387904)) (again (out ++ [v.1], EN (k + 1))))))) (some (Sum.inl out))) :
  Ok (aL n F ([], 0)) fun o => kd f L [] = some (match o with | .inl l => (l, 0) | .inr r => r) := by
 refine qX (len := L.length) (fun k out => kd f L [] = kd f (L.drop k) out /\ out.length = k) hn (by omega) ⟨rfl, rfl⟩ ?_ ?_
 · rintro again k out hk ⟨e, hlen⟩ ih
   rw [hF]
   refine Ok.cd (fun _ => ?_) (fun h => by have := dcF h; omega)
   refine Ok.gd (by rw [bh]; exact decide_eq_true hk) ?_
   have hm : L.getD k default ∈ L := by simp only [List.getD, geT hk, Option.getD_some]; exact List.getElem_mem hk
   have hd : L.drop k = L.getD k default :: L.drop (k + 1) := by
    rw [List.drop_eq_getElem_cons hk]
    simp only [List.getD, geT hk, Option.getD_some]
   obtain ⟨v, hv⟩ := hf _ hm
   rw [lG]
   refine Ok.bde hv (Ok.cd (fun h => az.2 ?_) (fun h => ?_))
   · rw [e, hd, kd, hv]
     show (bif v.2 != 0 then _ else _) = _
     rw [h]; rfl
   · refine Ok.gd (decide_eq_true (by omega)) (Ok.gd (decide_eq_true (by omega)) (ih _ ⟨?_, by simp [hlen]⟩))
     rw [e, hd, kd, hv]
     show (bif v.2 != 0 then _ else _) = _
     rw [h]; rfl
 · rintro again out ⟨e, _⟩
   rw [hF]
   refine Ok.cd (fun h => by simp at h) (fun _ => az.2 ?_)
   rw [e, List.drop_length]; rfl
theorem AS {g : ar} {c : ae} (hl : c.Points.length <= 80) (hf : ∀ x ∈ c.Points, ∃ v, eM 20000 g x = some v) : fB 20000 g c = kd (eM 20000 g) c.Points [] := by
 obtain ⟨o, eo, ho⟩ := yx (f := eM 20000 g) (n := 20000) (F := fun again12 (out_1, x_2) => cdO (decide (x_2 < (c.Points.length : Int))) (gdO (inR x_2 c.Points.length) (bdO (eM 20000 g (gt c.Points x_2)) fun v => cdO ((v.2 : Int) != 0) (some (Sum.inr (([], v.2)))) (gdO (decide ((out_1.length + 1) * 128 <= 140737488355328)) (gdO (decide (out_1.length + 1 <= 4611686018427387904)) (again12 (out_1 ++ [v.1], EN (x_2 + 1))))))) (some (Sum.inl out_1))) (by omega) (by omega) hf (fun _ _ _ => rfl)
 rw [ho]
 unfold fB
 show bdO (aL 20000 _ ([], 0)) _ = _
 rw [eo]
 cases o <;> rfl
theorem Bh {g : ar} {c : ae} (hl : c.Points.length <= 80) (hf : ∀ x ∈ c.Points, ∃ v, cm 20000 g x = some v) : dI 20000 g c = kd (cm 20000 g) c.Points [] := by
 obtain ⟨o, eo, ho⟩ := yx (f := cm 20000 g) (n := 20000) (F := fun again12 (out_1, x_2) => cdO (decide (x_2 < (c.Points.length : Int))) (gdO (inR x_2 c.Points.length) (bdO (cm 20000 g (gt c.Points x_2)) fun v => cdO ((v.2 : Int) != 0) (some (Sum.inr (([], v.2)))) (gdO (decide ((out_1.length + 1) * 128 <= 140737488355328)) (gdO (decide (out_1.length + 1 <= 4611686018427387904)) (again12 (out_1 ++ [v.1], EN (x_2 + 1))))))) (some (Sum.inl out_1))) (by omega) (by omega) hf (fun _ _ _ => rfl)
 rw [ho]
 unfold dI
 show bdO (aL 20000 _ ([], 0)) _ = _
 rw [eo]
 cases o <;> rfl
theorem ug {g : ar} {T : List (A3 Int)} {f1 f2 : al -> Option (an × Int)} : ∀ (L : List al) (o1 o2 : List an) (k : Nat), (∀ x ∈ L, ∃ r1 r2, f1 x = some r1 /\ f2 x = some r2 /\ WhQ g T x r1 r2) -> yH o1 o2 k ->
  ∃ R1 R2, kd f1 L o1 = some R1 /\ kd f2 L o2 = some R2 /\ ((R1.2 ≠ 0 /\ R2.2 = R1.2) \/ (R1.2 = 0 /\ R2.2 = 0 /\ yH R1.1 R2.1 (k + L.length)))
 | [], o1, o2, k, _, h => ⟨(o1, 0), (o2, 0), rfl, rfl, .inr ⟨rfl, rfl, h⟩⟩
 | x :: l, o1, o2, k, hx, h => by
  obtain ⟨r1, r2, e1, e2, hr⟩ := hx x (by simp)
  rw [kd, kd, e1, e2]
  rcases hr with ⟨a, b, _⟩ | ⟨a, b, _, r, _, _, _, x1, y1, x2, y2⟩
  · refine ⟨([], r1.2), ([], r2.2), ?_, ?_, .inl ⟨a, b⟩⟩
    · show (bif r1.2 != 0 then _ else _) = _
      rw [bne_iff_ne.2 a]; rfl
    · show (bif r2.2 != 0 then _ else _) = _
      rw [bne_iff_ne.2 (by rw [b]; exact a)]; rfl
  · obtain ⟨R1, R2, q1, q2, q⟩ := ug l (o1 ++ [r1.1]) (o2 ++ [r2.1]) (k + 1) (fun y hy => hx y (by simp [hy])) (h.snoc ⟨_, _, x1, y1, x2, y2⟩)
    refine ⟨R1, R2, ?_, ?_, ?_⟩
    · show (bif r1.2 != 0 then _ else _) = _
      rw [a]; exact q1
    · show (bif r2.2 != 0 then _ else _) = _
      rw [b]; exact q2
    · rw [List.length_cons, show k + (l.length + 1) = k + 1 + l.length by omega]; exact q
theorem zf {g : ar} {w h : Nat} (hg : Gd g w h) {c : ae} (hl : c.Points.length <= 80) (hc : ∀ x ∈ c.Points, B9 x) : ∃ R1 R2, fB 20000 g c = some R1 /\ dI 20000 g c = some R2 /\ PsR c R1 R2 := by
 have hw : ∀ x ∈ c.Points, ∃ r1 r2, eM 20000 g x = some r1 /\ cm 20000 g x = some r2 /\ WhQ g (oA g w h) x r1 r2 := fun x hx => by
  obtain ⟨⟨d1, d2⟩, l1, l2⟩ := hc x hx
  exact z7 hg d1 d2 l1 l2
 rw [AS hl fun x hx => by obtain ⟨r1, _, e, _⟩ := hw x hx; exact ⟨r1, e⟩, Bh hl fun x hx => by obtain ⟨_, r2, _, e, _⟩ := hw x hx; exact ⟨r2, e⟩]
 obtain ⟨R1, R2, a, b, q⟩ := ug c.Points [] [] 0 hw ⟨rfl, rfl, fun j hj => by omega⟩
 rw [Nat.zero_add] at q
 exact ⟨R1, R2, a, b, q⟩
end Go.L


set_option linter.all false
namespace Go.L
open Go Go.Eng
def nQ (on : Nat -> Bool) (st : Nat -> Int -> Int) : Nat -> Nat -> Int -> Option Int
 | 0, _, n => some n
 | r + 1, j, n => bif on j then none else nQ on st r (j + 1) (st j n)
theorem BM {ρ : Type} {n len : Nat} {on : Nat -> Bool} {st : Nat -> Int -> Int} {bad : ρ} {F : (Int × Int -> Option (Sum Int ρ)) -> Int × Int -> Option (Sum Int ρ)} (hn : len < n) (hl : len <= 100000)
  (hstep : ∀ again (k : Nat) (m : Int) (Q : Sum Int ρ -> Prop), k < len -> (on k = true -> Q (.inr bad)) -> (on k = false -> Ok (again (st k m, EN ((k : Int) + 1))) Q) -> Ok (F again (m, (k : Int))) Q)
  (hend : ∀ again (m : Int), F again (m, (len : Int)) = some (.inl m)) : aL n F (0, 0) = some (match nQ on st len 0 0 with | none => .inr bad | some m => .inl m) := by
 apply Ok.eq
 refine qX (len := len) (fun k m => nQ on st len 0 0 = nQ on st (len - k) k m) hn (by omega) rfl ?_ ?_
 · rintro again k m hk e ih
   have hd : len - k = (len - (k + 1)) + 1 := by omega
   refine hstep again k m _ hk (fun h => ?_) (fun h => ih _ ?_)
   · rw [e, hd, nQ, h]; rfl
   · rw [e, hd, nQ, h]; rfl
 · rintro again m e
   rw [hend]
   refine az.2 ?_
   rw [e, Nat.sub_self]; rfl
def crQ (ax ay bx by' : Rat) : Rat := ax * by' - ay * bx
def onQ (ax ay bx by' : Rat) : Bool := decide (crQ ax ay bx by' = 0 /\ ax * bx + ay * by' <= 0)
def stQ (ax ay bx by' : Rat) (m : Int) : Int := if ay <= 0 /\ 0 < by' /\ 0 < crQ ax ay bx by' then EN (m + 1) else if 0 < ay /\ by' <= 0 /\ crQ ax ay bx by' < 0 then EN (m - 1) else m
theorem sq_nonneg (r : Rat) : 0 <= r * r := by
 by_cases h : 0 <= r
 · exact Rat.mul_nonneg h h
 · have := Rat.mul_nonneg (a := -r) (b := -r) (by grind) (by grind)
   grind
theorem B3 {ax ay bx by' : Rat} (h : ax * by' - ay * bx = 0) : ax * bx + ay * by' <= 0 ↔ (ax * bx <= 0 /\ ay * by' <= 0) := by
 have key : (ax * bx) * (ay * by') = (ax * by') * (ax * by') := by grind
 have hs := sq_nonneg (ax * by')
 constructor
 · intro hh
   refine ⟨?_, ?_⟩
   · apply Classical.byContradiction
     intro hc
     have := Rat.mul_pos (a := ax * bx) (b := -(ay * by')) (by grind) (by grind)
     grind
   · apply Classical.byContradiction
     intro hc
     have := Rat.mul_pos (a := -(ax * bx)) (b := ay * by') (by grind) (by grind)
     grind
 · rintro ⟨a, b⟩; grind
theorem De (a : Rat) : (a < 0 /\ sgn a.num = -1) \/ (a = 0 /\ sgn a.num = 0) \/ (0 < a /\ sgn a.num = 1) := by
 rcases cM a.num with ⟨h, e⟩ | ⟨h, e⟩ | ⟨h, e⟩
 · refine .inl ⟨?_, e⟩
   have : ¬ 0 <= a := fun k => by have := Rat.num_nonneg.2 k; omega
   grind
 · exact .inr (.inl ⟨Rat.num_eq_zero.1 h, e⟩)
 · exact .inr (.inr ⟨AY.1 h, e⟩)
theorem B4 (a b : Rat) : decide (EN (sgn a.num * sgn (-b).num) >= 0) = decide (a * b <= 0) := by
 have w1 : EN 1 = 1 := wrap64_in (by omega) (by omega)
 have w2 : EN (-1) = -1 := wrap64_in (by omega) (by omega)
 have w0 : EN 0 = 0 := wrap64_in (by omega) (by omega)
 rcases De a with ⟨h1, e1⟩ | ⟨h1, e1⟩ | ⟨h1, e1⟩ <;> rcases De (-b) with ⟨h2, e2⟩ | ⟨h2, e2⟩ | ⟨h2, e2⟩ <;> rw [e1, e2]
 · have := Rat.mul_pos (a := -a) (b := b) (by grind) (by grind)
   rw [show (-1 : Int) * -1 = 1 from rfl, w1, decide_eq_true (by omega : (1 : Int) >= 0), decide_eq_true (by grind)]
 · have hb : b = 0 := by grind
   rw [show (-1 : Int) * 0 = 0 from rfl, w0, decide_eq_true (by omega : (0 : Int) >= 0), decide_eq_true (by rw [hb, Rat.mul_zero]; exact Rat.le_refl)]
 · have := Rat.mul_pos (a := -a) (b := -b) (by grind) (by grind)
   rw [show (-1 : Int) * 1 = -1 from rfl, w2, decide_eq_false (by omega : ¬ (-1 : Int) >= 0), decide_eq_false (by grind)]
 · rw [show (0 : Int) * -1 = 0 from rfl, w0, decide_eq_true (by omega : (0 : Int) >= 0), decide_eq_true (by rw [h1, Rat.zero_mul]; exact Rat.le_refl)]
 · rw [show (0 : Int) * 0 = 0 from rfl, w0, decide_eq_true (by omega : (0 : Int) >= 0), decide_eq_true (by rw [h1, Rat.zero_mul]; exact Rat.le_refl)]
 · rw [show (0 : Int) * 1 = 0 from rfl, w0, decide_eq_true (by omega : (0 : Int) >= 0), decide_eq_true (by rw [h1, Rat.zero_mul]; exact Rat.le_refl)]
 · have := Rat.mul_pos (a := a) (b := b) (by grind) (by grind)
   rw [show (1 : Int) * -1 = -1 from rfl, w2, decide_eq_false (by omega : ¬ (-1 : Int) >= 0), decide_eq_false (by grind)]
 · have hb : b = 0 := by grind
   rw [show (1 : Int) * 0 = 0 from rfl, w0, decide_eq_true (by omega : (0 : Int) >= 0), decide_eq_true (by rw [hb, Rat.mul_zero]; exact Rat.le_refl)]
 · have := Rat.mul_pos (a := a) (b := -b) (by grind) (by grind)
   rw [show (1 : Int) * 1 = 1 from rfl, w1, decide_eq_true (by omega : (1 : Int) >= 0), decide_eq_true (by grind)]
end Go.L


set_option linter.all false
namespace Go.L
open Go Go.Eng
theorem Be {a b p : an} {xa ya xb yb ox oy : Rat} (h1 : R.Qx a.X xa 27) (h2 : R.Qx a.Y ya 27) (h3 : R.Qx b.X xb 27) (h4 : R.Qx b.Y yb 27) (h5 : R.Qx p.X ox 27) (h6 : R.Qx p.Y oy 27) :
  gx 20000 a b p = some (sgn (crQ (xa - ox) (ya - oy) (xb - ox) (yb - oy)).num) := by
 apply Ok.eq
 unfold gx
 refine Ok.bd (R.ka (by omega) (by omega) h3 h1) fun v1 k1 => Ok.bd (R.ka (by omega) (by omega) h6 h2) fun v2 k2 => Ok.bd (R.mR (by omega) (by omega) k1 k2) fun v3 k3 => ?_
 refine Ok.bd (R.ka (by omega) (by omega) h4 h2) fun v4 k4 => Ok.bd (R.ka (by omega) (by omega) h5 h1) fun v5 k5 => Ok.bd (R.mR (by omega) (by omega) k4 k5) fun v6 k6 => ?_
 refine Ok.bde (R.kA (by omega) (by omega) k3 k6) (az.2 ?_)
 have e : (xb - xa) * (oy - ya) - (yb - ya) * (ox - xa) = crQ (xa - ox) (ya - oy) (xb - ox) (yb - oy) := by unfold crQ; grind
 rw [e]
theorem vS {a b p : ak} {x y o : Rat} (h1 : R.Qx a x 27) (h2 : R.Qx b y 27) (h3 : R.Qx p o 27) : cQ 20000 a b p = some (decide ((x - o) * (y - o) <= 0)) := by
 apply Ok.eq
 unfold cQ
 refine Ok.bde (R.kA (by omega) (by omega) h1 h3) (Ok.bde (R.kA (by omega) (by omega) h3 h2) (az.2 ?_))
 rw [show o - y = -(y - o) by grind]
 exact B4 (x - o) (y - o)
theorem Bo {a b p : an} {xa ya xb yb ox oy : Rat} (h1 : R.Qx a.X xa 27) (h2 : R.Qx a.Y ya 27) (h3 : R.Qx b.X xb 27) (h4 : R.Qx b.Y yb 27) (h5 : R.Qx p.X ox 27) (h6 : R.Qx p.Y oy 27) :
  fz 20000 a b p = some (decide ((xa - ox) * (xb - ox) <= 0) && decide ((ya - oy) * (yb - oy) <= 0)) := by
 unfold fz
 rw [vS h1 h3 h5, vS h2 h4 h6]
 cases decide ((xa - ox) * (xb - ox) <= 0) <;> rfl
theorem C0 {ax ay bx by' : Rat} : onQ ax ay bx by' = (decide (crQ ax ay bx by' = 0) && (decide (ax * bx <= 0) && decide (ay * by' <= 0))) := by
 unfold onQ
 by_cases h : crQ ax ay bx by' = 0
 · have hd := B3 (ax := ax) (ay := ay) (bx := bx) (by' := by') (by unfold crQ at h; exact h)
   simp only [h, hd, true_and, decide_true, Bool.true_and, Bool.decide_and]
 · simp [h]
theorem xX {r : Rat} : (sgn r.num == 0) = decide (r = 0) := by
 rcases De r with ⟨h, e⟩ | ⟨h, e⟩ | ⟨h, e⟩
 · rw [e, decide_eq_false (by grind)]; rfl
 · rw [e, decide_eq_true h]; rfl
 · rw [e, decide_eq_false (by grind)]; rfl
def At (L1 L2 : List an) (len : Nat) (X Y : Nat -> Rat) : Prop := L1.length = len /\ L2.length = len /\ ∀ j, j < len -> Qx (L1.getD j default).X (X j) 27 /\ Qx (L1.getD j default).Y (Y j) 27 /\ R.Qx (L2.getD j default).X (X j) 27 /\ R.Qx (L2.getD j default).Y (Y j) 27
theorem D7 {L1 L2 : List an} {len : Nat} (h : yH L1 L2 len) : ∃ X Y, At L1 L2 len X Y := by
 obtain ⟨a, b, c⟩ := h
 have hc : ∀ j, ∃ q : Rat × Rat, j < len -> Qx (L1.getD j default).X q.1 27 /\ Qx (L1.getD j default).Y q.2 27 /\ R.Qx (L2.getD j default).X q.1 27 /\ R.Qx (L2.getD j default).Y q.2 27 := fun j => by
  by_cases hj : j < len
  · obtain ⟨x, y, q⟩ := c j hj
    exact ⟨(x, y), fun _ => q⟩
  · exact ⟨(0, 0), fun k => absurd k hj⟩
 obtain ⟨f, hf⟩ := Classical.axiomOfChoice hc
 exact ⟨fun j => (f j).1, fun j => (f j).2, a, b, hf⟩
def onW (X Y : Nat -> Rat) (ox oy : Rat) (len k : Nat) : Bool := onQ (X k - ox) (Y k - oy) (X ((k + 1) % len) - ox) (Y ((k + 1) % len) - oy)
def stW (X Y : Nat -> Rat) (ox oy : Rat) (len k : Nat) (m : Int) : Int := stQ (X k - ox) (Y k - oy) (X ((k + 1) % len) - ox) (Y ((k + 1) % len) - oy) m
theorem CI {k len : Nat} (hk : k < len) (hl : len <= 100000) : (EN ((k : Int) + 1)).tmod (len : Int) = (((k + 1) % len : Nat) : Int) := by
 rw [wrap64_in (by omega) (by omega)]
 exact AO (a := k + 1) (b := len)
theorem zD {β : Type} {Q : β -> Prop} {again : Int × Int -> Option β} {ax ay bx by' : Rat} {m q : Int} (h : Ok (again (stQ ax ay bx by' m, q)) Q) :
  Ok (cdO (decide (sgn ay.num <= 0)) (cdO (!(decide (sgn by'.num <= 0))) (cdO (decide (sgn (crQ ax ay bx by').num > 0)) (again (EN (m + 1), q)) (again (m, q))) (again (m, q)))
   (cdO (decide (sgn by'.num <= 0)) (cdO (decide (sgn (crQ ax ay bx by').num < 0)) (again (EN (m - 1), q)) (again (m, q))) (again (m, q)))) Q := by
 have ha := zV (a := ay); have hb := zV (a := by'); have hc := A5 (a := crQ ax ay bx by')
 have hc2 : sgn (crQ ax ay bx by').num < 0 ↔ crQ ax ay bx by' < 0 := by
  have := AP (a := crQ ax ay bx by')
  constructor
  · intro k; apply Classical.byContradiction; intro hh; have := this.2 (by grind); omega
  · intro k; apply Classical.byContradiction; intro hh; have := this.1 (by omega); grind
 have same : stQ ax ay bx by' m = m -> Ok (again (m, q)) Q := fun e => by rw [<- e]; simpa [e] using h
 refine Ok.cd (fun h1 => ?_) (fun h1 => ?_)
 · have h1 := ha.1 (dcT h1)
   refine Ok.cd (fun h2 => ?_) (fun h2 => same ?_)
   · have h2 : ¬ by' <= 0 := fun k => by rw [decide_eq_true (hb.2 k)] at h2; cases h2
     refine Ok.cd (fun h3 => ?_) (fun h3 => same ?_)
     · have h3 := hc.1 (dcT h3)
       have e : stQ ax ay bx by' m = EN (m + 1) := by unfold stQ; rw [if_pos ⟨h1, by grind, h3⟩]
       rw [<- e]; exact h
     · have h3 : ¬ 0 < crQ ax ay bx by' := fun k => dcF h3 (hc.2 k)
       unfold stQ; rw [if_neg fun k => h3 k.2.2, if_neg fun k => by grind]
   · have h2 : by' <= 0 := by
      apply hb.1
      cases hd : decide (sgn by'.num <= 0) with
      | true => exact dcT hd
      | false => rw [hd] at h2; cases h2
     unfold stQ; rw [if_neg fun k => by grind, if_neg fun k => by grind]
 · have h1 : ¬ ay <= 0 := fun k => dcF h1 (ha.2 k)
   refine Ok.cd (fun h2 => ?_) (fun h2 => same ?_)
   · have h2 := hb.1 (dcT h2)
     refine Ok.cd (fun h3 => ?_) (fun h3 => same ?_)
     · have h3 := hc2.1 (dcT h3)
       have e : stQ ax ay bx by' m = EN (m - 1) := by unfold stQ; rw [if_neg fun k => h1 k.1, if_pos ⟨by grind, h2, h3⟩]
       rw [<- e]; exact h
     · have h3 : ¬ crQ ax ay bx by' < 0 := fun k => dcF h3 (hc2.2 k)
       unfold stQ; rw [if_neg fun k => h1 k.1, if_neg fun k => h3 k.2.2]
   · have h2 : ¬ by' <= 0 := fun k => dcF h2 (hb.2 k)
     unfold stQ; rw [if_neg fun k => h1 k.1, if_neg fun k => h2 k.2.1]
theorem BS {β : Type} {Q : β -> Prop} {again : Int × Int -> Option β} {ax ay bx by' : Rat} {m q : Int} (h : Ok (again (stQ ax ay bx by' m, q)) Q) :
  Ok (bdO (α := Bool) (cdO (decide (sgn ay.num <= 0)) (cdO (!(decide (sgn by'.num <= 0))) (some (decide (sgn (crQ ax ay bx by').num > 0))) (some false)) (some false)) fun x_91 =>
   cdO x_91 (again (EN (m + 1), q)) (cdO (!(decide (sgn ay.num <= 0))) (cdO (decide (sgn by'.num <= 0)) (cdO (decide (sgn (crQ ax ay bx by').num < 0)) (again (EN (m - 1), q)) (again (m, q))) (again (m, q))) (again (m, q)))) Q := by
 have h := zD h
 cases h1 : decide (sgn ay.num <= 0) <;> cases h2 : decide (sgn by'.num <= 0) <;> cases h3 : decide (sgn (crQ ax ay bx by').num > 0) <;> cases h4 : decide (sgn (crQ ax ay bx by').num < 0) <;> rw [h1, h2, h3, h4] at h <;> exact h
theorem CU {L1 L2 : List an} {len : Nat} {X Y : Nat -> Rat} (h : At L1 L2 len X Y) (hl : len <= 80) {p : an} {ox oy : Rat} (h5 : R.Qx p.X ox 27) (h6 : R.Qx p.Y oy 27) :
  cR 20000 L2 p = some (match nQ (onW X Y ox oy len) (stW X Y ox oy len) len 0 0 with | none => (0, false) | some m => (m, decide ((len : Int) > 0))) := by
 obtain ⟨_, hL, hq⟩ := h
 unfold cR
 rw [hL, BM (len := len) (on := onW X Y ox oy len) (st := stW X Y ox oy len) (bad := ((0 : Int), false)) (by omega) (by omega) ?_ ?_]
 · show (match (match nQ (onW X Y ox oy len) (stW X Y ox oy len) len 0 0 with | none => Sum.inr ((0 : Int), false) | some m => Sum.inl m : Sum Int (Int × Bool)) with | .inl n_31 => _ | .inr r0 => _) = _
   cases nQ (onW X Y ox oy len) (stW X Y ox oy len) len 0 0 <;> rfl
 · intro again k m Q hk hon hoff
   have hk' : (k + 1) % len < len := Nat.mod_lt _ (by omega)
   obtain ⟨_, _, a1, a2⟩ := hq k hk
   obtain ⟨_, _, b1, b2⟩ := hq _ hk'
   dsimp only
   rw [CI hk (by omega), lG, lG]
   refine Ok.cd (fun _ => ?_) (fun h => by have := dcF h; omega)
   refine Ok.gd (by rw [bh]; exact decide_eq_true hk) (Ok.gd (by simp; omega) (Ok.gd (by rw [bh]; exact decide_eq_true hk') ?_))
   refine Ok.bde (Be a1 a2 b1 b2 h5 h6) ?_
   have hon' : onW X Y ox oy len k = (decide (crQ (X k - ox) (Y k - oy) (X ((k + 1) % len) - ox) (Y ((k + 1) % len) - oy) = 0) && (decide ((X k - ox) * (X ((k + 1) % len) - ox) <= 0) && decide ((Y k - oy) * (Y ((k + 1) % len) - oy) <= 0))) := C0
   rw [xX]
   have rest : onW X Y ox oy len k = false -> Ok (bdO (aS 20000 (L2.getD k default).Y p.Y) fun v43 => bdO (aS 20000 (L2.getD ((k + 1) % len) default).Y p.Y) fun v45 =>
     cdO (decide (v43 <= 0)) (cdO (!(decide (v45 <= 0))) (cdO (decide (sgn (crQ (X k - ox) (Y k - oy) (X ((k + 1) % len) - ox) (Y ((k + 1) % len) - oy)).num > 0)) (again (EN (m + 1), EN ((k : Int) + 1))) (again (m, EN ((k : Int) + 1)))) (again (m, EN ((k : Int) + 1))))
      (cdO (decide (v45 <= 0)) (cdO (decide (sgn (crQ (X k - ox) (Y k - oy) (X ((k + 1) % len) - ox) (Y ((k + 1) % len) - oy)).num < 0)) (again (EN (m - 1), EN ((k : Int) + 1))) (again (m, EN ((k : Int) + 1)))) (again (m, EN ((k : Int) + 1))))) Q := fun hf => by
    refine Ok.bde (R.kA (by omega) (by omega) a2 h6) (Ok.bde (R.kA (by omega) (by omega) b2 h6) ?_)
    exact zD (hoff hf)
   refine Ok.cd (fun hc => ?_) (fun hc => rest (by rw [hon', hc]; rfl))
   refine Ok.bde (Bo a1 a2 b1 b2 h5 h6) (Ok.cd (fun hw => az.2 (hon (by rw [hon', hc, hw]; rfl))) (fun hw => rest (by rw [hon', hc, hw]; rfl)))
 · intro again m
   dsimp only
   have : decide ((len : Int) < (len : Int)) = false := by simp
   rw [this]; rfl
theorem CZ {L1 L2 : List an} {len : Nat} {X Y : Nat -> Rat} (h : At L1 L2 len X Y) (hl : len <= 80) {p : an} {ox oy : Rat} (h5 : Qx p.X ox 27) (h6 : Qx p.Y oy 27) :
  fM 20000 L1 p = some (match nQ (onW X Y ox oy len) (stW X Y ox oy len) len 0 0 with | none => (0, true) | some m => (m, false)) := by
 obtain ⟨hL, _, hq⟩ := h
 unfold fM
 rw [hL, BM (len := len) (on := onW X Y ox oy len) (st := stW X Y ox oy len) (bad := ((0 : Int), true)) (by omega) (by omega) ?_ ?_]
 · show (match (match nQ (onW X Y ox oy len) (stW X Y ox oy len) len 0 0 with | none => Sum.inr ((0 : Int), true) | some m => Sum.inl m : Sum Int (Int × Bool)) with | .inl n_31 => _ | .inr r0 => _) = _
   cases nQ (onW X Y ox oy len) (stW X Y ox oy len) len 0 0 <;> rfl
 · intro again k m Q hk hon hoff
   have hk' : (k + 1) % len < len := Nat.mod_lt _ (by omega)
   obtain ⟨a1, a2, _, _⟩ := hq k hk
   obtain ⟨b1, b2, _, _⟩ := hq _ hk'
   dsimp only
   rw [CI hk (by omega), lG, lG]
   refine Ok.cd (fun _ => ?_) (fun h => by have := dcF h; omega)
   refine Ok.gd (by rw [bh]; exact decide_eq_true hk) (Ok.gd (by simp; omega) (Ok.gd (by rw [bh]; exact decide_eq_true hk') ?_))
   refine Ok.bd (ka (by omega) (by omega) a1 h5) fun ax kax => Ok.bd (ka (by omega) (by omega) a2 h6) fun ay kay => Ok.bd (ka (by omega) (by omega) b1 h5) fun bx kbx => Ok.bd (ka (by omega) (by omega) b2 h6) fun by' kby => ?_
   refine Ok.bd (mR (by omega) (by omega) kax kby) fun u1 ku1 => Ok.bd (mR (by omega) (by omega) kay kbx) fun u2 ku2 => Ok.bd (ka (by omega) (by omega) ku1 ku2) fun u3 ku3 => ?_
   refine Ok.bde (s9 (by omega) (by omega) ku3) ?_
   have hcr : (X k - ox) * (Y ((k + 1) % len) - oy) - (Y k - oy) * (X ((k + 1) % len) - ox) = crQ (X k - ox) (Y k - oy) (X ((k + 1) % len) - ox) (Y ((k + 1) % len) - oy) := rfl
   rw [hcr, xX]
   refine Ok.bd (R := fun o => (o = Sum.inr ((0 : Int), true) /\ onW X Y ox oy len k = true) \/ (o = Sum.inl () /\ onW X Y ox oy len k = false)) ?_ ?_
   · refine Ok.cd (fun hc => ?_) (fun hc => az.2 (.inr ⟨rfl, ?_⟩))
     · refine Ok.bd (mR (by omega) (by omega) kax kbx) fun w1 kw1 => Ok.bd (mR (by omega) (by omega) kay kby) fun w2 kw2 => Ok.bd (qK (by omega) (by omega) kw1 kw2) fun w3 kw3 => ?_
       refine Ok.bde (s9 (by omega) (by omega) kw3) ?_
       have hc := dcT hc
       refine Ok.cd (fun hd => az.2 (.inl ⟨rfl, ?_⟩)) (fun hd => az.2 (.inr ⟨rfl, ?_⟩))
       · exact decide_eq_true ⟨hc, zV.1 (dcT hd)⟩
       · exact decide_eq_false fun q => dcF hd (zV.2 q.2)
     · exact decide_eq_false fun q => dcF hc q.1
   · rintro o (⟨rfl, ho⟩ | ⟨rfl, ho⟩)
     · exact az.2 (hon ho)
     · refine Ok.bde (s9 (by omega) (by omega) kay) (Ok.bde (s9 (by omega) (by omega) kby) ?_)
       exact BS (hoff ho)
 · intro again m
   dsimp only
   have : decide ((len : Int) < (len : Int)) = false := by simp
   rw [this]; rfl
end Go.L

