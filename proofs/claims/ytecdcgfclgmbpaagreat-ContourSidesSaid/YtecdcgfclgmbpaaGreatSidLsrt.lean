import Derived.Test.YtecdcgfclgmbpaaGreatSidL51q
import Derived.Test.YtecdcgfclgmbpaaGreatSidL51q
import Derived.Test.YtecdcgfclgmbpaaGreatSidL02oB
import Derived.KernelRfl
import Derived.Test.YtecdcgfclgmbpaaGreatSidL51q
import Derived.Test.YtecdcgfclgmbpaaGreatSidL51q
import Derived.Test.YtecdcgfclgmbpaaGreatSidL51q
import Derived.Test.YtecdcgfclgmbpaaGreatSidL02oB
import Derived.Test.YtecdcgfclgmbpaaGreatSidL51q
import Derived.Test.YtecdcgfclgmbpaaGreatPl2Sids
import Derived.Test.YtecdcgfclgmbpaaGreatScSSids
set_option linter.all false
namespace Go.L
open Go Go.Eng
def jz (f : ak -> Option (aw × Int)) : List ak -> List aw -> Option (List aw × Int)
 | [], out => some (out, 0)
 | x :: l, out => bdO (f x) fun v => bif v.2 != 0 then some ([], v.2) else jz f l (out ++ [v.1])
theorem CB {n : Nat} {f : ak -> Option (aw × Int)} {L : List ak} {F : (List aw × Int -> Option (Sum (List aw) (List aw × Int))) -> List aw × Int -> Option (Sum (List aw) (List aw × Int))}
  (hn : L.length < n) (hl : L.length <= 100000) (hf : ∀ x ∈ L, ∃ v, f x = some v)
  (hF : ∀ again out k, F again (out, k) = cdO (decide (k < (L.length : Int))) (gdO (inR k L.length) (bdO (f (gt L k)) fun v => cdO ((v.2 : Int) != 0) (some (Sum.inr (([], v.2)))) (gdO (decide ((out.length + 1) * 128 <= 140737488355328)) (gdO (decide (out.length + 1 <= 4611686018427387904)) (again (out ++ [v.1], G1 (k + 1))))))) (some (Sum.inl out))) :
  Ok (aN n F ([], 0)) fun o => jz f L [] = some (match o with | .inl l => (l, 0) | .inr r => r) := by
 refine vX (len := L.length) (fun k out => jz f L [] = jz f (L.drop k) out /\ out.length = k) hn (by omega) ⟨rfl, rfl⟩ ?_ ?_
 · rintro again k out hk ⟨e, hlen⟩ ih
   rw [hF]
   refine Ok.cd (fun _ => ?_) (fun h => by have := dcF h; omega)
   refine Ok.gd (by rw [b9]; exact decide_eq_true hk) ?_
   have hm : L.getD k default ∈ L := by simp only [List.getD, geT hk, Option.getD_some]; exact List.getElem_mem hk
   have hd : L.drop k = L.getD k default :: L.drop (k + 1) := by
    rw [List.drop_eq_getElem_cons hk]
    simp only [List.getD, geT hk, Option.getD_some]
   obtain ⟨v, hv⟩ := hf _ hm
   rw [pe]
   refine Ok.bde hv (Ok.cd (fun h => aC.2 ?_) (fun h => ?_))
   · rw [e, hd, jz, hv]
     show (bif v.2 != 0 then _ else _) = _
     rw [h]; rfl
   · refine Ok.gd (decide_eq_true (by omega)) (Ok.gd (decide_eq_true (by omega)) (ih _ ⟨?_, by simp [hlen]⟩))
     rw [e, hd, jz, hv]
     show (bif v.2 != 0 then _ else _) = _
     rw [h]; rfl
 · rintro again out ⟨e, _⟩
   rw [hF]
   refine Ok.cd (fun h => by simp at h) (fun _ => aC.2 ?_)
   rw [e, List.drop_length]; rfl
theorem B3 {g : al} {c : ah} (hl : c.Points.length <= 80) (hf : ∀ x ∈ c.Points, ∃ v, cS 20000 g x = some v) : gq 20000 g c = jz (cS 20000 g) c.Points [] := by
 obtain ⟨o, eo, ho⟩ := CB (f := cS 20000 g) (n := 20000) (F := fun again12 (out_1, x_2) => cdO (decide (x_2 < (c.Points.length : Int))) (gdO (inR x_2 c.Points.length) (bdO (cS 20000 g (gt c.Points x_2)) fun v => cdO ((v.2 : Int) != 0) (some (Sum.inr (([], v.2)))) (gdO (decide ((out_1.length + 1) * 128 <= 140737488355328)) (gdO (decide (out_1.length + 1 <= 4611686018427387904)) (again12 (out_1 ++ [v.1], G1 (x_2 + 1))))))) (some (Sum.inl out_1))) (by omega) (by omega) hf (fun _ _ _ => rfl)
 rw [ho]
 unfold gq
 show bdO (aN 20000 _ ([], 0)) _ = _
 rw [eo]
 cases o <;> rfl
end Go.L


set_option linter.all false
namespace Go.L
open Go Go.Eng
def nW (on : Nat -> Bool) (st : Nat -> Int -> Int) : Nat -> Nat -> Int -> Option Int
 | 0, _, n => some n
 | r + 1, j, n => bif on j then none else nW on st r (j + 1) (st j n)
theorem EG {ρ : Type} {n len : Nat} {on : Nat -> Bool} {st : Nat -> Int -> Int} {bad : ρ} {F : (Int × Int -> Option (Sum Int ρ)) -> Int × Int -> Option (Sum Int ρ)} (hn : len < n) (hl : len <= 100000)
  (hstep : ∀ again (k : Nat) (m : Int) (Q : Sum Int ρ -> Prop), k < len -> (on k = true -> Q (.inr bad)) -> (on k = false -> Ok (again (st k m, G1 ((k : Int) + 1))) Q) -> Ok (F again (m, (k : Int))) Q)
  (hend : ∀ again (m : Int), F again (m, (len : Int)) = some (.inl m)) : aN n F (0, 0) = some (match nW on st len 0 0 with | none => .inr bad | some m => .inl m) := by
 apply Ok.eq
 refine vX (len := len) (fun k m => nW on st len 0 0 = nW on st (len - k) k m) hn (by omega) rfl ?_ ?_
 · rintro again k m hk e ih
   have hd : len - k = (len - (k + 1)) + 1 := by omega
   refine hstep again k m _ hk (fun h => ?_) (fun h => ih _ ?_)
   · rw [e, hd, nW, h]; rfl
   · rw [e, hd, nW, h]; rfl
 · rintro again m e
   rw [hend]
   refine aC.2 ?_
   rw [e, Nat.sub_self]; rfl
def crQ (ax ay bx by' : Rat) : Rat := ax * by' - ay * bx
def onQ (ax ay bx by' : Rat) : Bool := decide (crQ ax ay bx by' = 0 /\ ax * bx + ay * by' <= 0)
def stQ (ax ay bx by' : Rat) (m : Int) : Int := if ay <= 0 /\ 0 < by' /\ 0 < crQ ax ay bx by' then G1 (m + 1) else if 0 < ay /\ by' <= 0 /\ crQ ax ay bx by' < 0 then G1 (m - 1) else m
theorem sq_nonneg (r : Rat) : 0 <= r * r := by
 by_cases h : 0 <= r
 · exact Rat.mul_nonneg h h
 · have := Rat.mul_nonneg (a := -r) (b := -r) (by grind) (by grind)
   grind
theorem AK {ax ay bx by' : Rat} (h : ax * by' - ay * bx = 0) : ax * bx + ay * by' <= 0 ↔ (ax * bx <= 0 /\ ay * by' <= 0) := by
 have key : (ax * bx) * (ay * by') = (ax * by') * (ax * by') := by grind
 have hs := sq_nonneg (ax * by')
 constructor
 · intro hh
   refine ⟨?_, ?_⟩
   · apply Classical.byContradiction
     intro hc
     have := Rat.mul_pos (a := ax * bx) (b := -(ay * by')) (by grind) (by grind)
     grind
   · apply Classical.byContradiction
     intro hc
     have := Rat.mul_pos (a := -(ax * bx)) (b := ay * by') (by grind) (by grind)
     grind
 · rintro ⟨a, b⟩; grind
theorem GM (a : Rat) : (a < 0 /\ sgn a.num = -1) \/ (a = 0 /\ sgn a.num = 0) \/ (0 < a /\ sgn a.num = 1) := by
 rcases c7 a.num with ⟨h, e⟩ | ⟨h, e⟩ | ⟨h, e⟩
 · refine .inl ⟨?_, e⟩
   have : ¬ 0 <= a := fun k => by have := Rat.num_nonneg.2 k; omega
   grind
 · exact .inr (.inl ⟨Rat.num_eq_zero.1 h, e⟩)
 · exact .inr (.inr ⟨Cq.1 h, e⟩)
end Go.L


set_option linter.all false
namespace Go.L
open Go Go.Eng
theorem C7 {r : Rat} : (sgn r.num == 0) = decide (r = 0) := by
 rcases GM r with ⟨h, e⟩ | ⟨h, e⟩ | ⟨h, e⟩
 · rw [e, decide_eq_false (by grind)]; rfl
 · rw [e, decide_eq_true h]; rfl
 · rw [e, decide_eq_false (by grind)]; rfl
def At (L1 L2 : List aw) (len : Nat) (X Y : Nat -> Rat) : Prop := L1.length = len /\ L2.length = len /\ ∀ j, j < len -> Qx (L1.getD j default).X (X j) 27 /\ Qx (L1.getD j default).Y (Y j) 27 /\ R.Qx (L2.getD j default).X (X j) 27 /\ R.Qx (L2.getD j default).Y (Y j) 27
def onW (X Y : Nat -> Rat) (ox oy : Rat) (len k : Nat) : Bool := onQ (X k - ox) (Y k - oy) (X ((k + 1) % len) - ox) (Y ((k + 1) % len) - oy)
def stW (X Y : Nat -> Rat) (ox oy : Rat) (len k : Nat) (m : Int) : Int := stQ (X k - ox) (Y k - oy) (X ((k + 1) % len) - ox) (Y ((k + 1) % len) - oy) m
theorem FW {k len : Nat} (hk : k < len) (hl : len <= 100000) : (G1 ((k : Int) + 1)).tmod (len : Int) = (((k + 1) % len : Nat) : Int) := by
 rw [wrap64_in (by omega) (by omega)]
 exact yS (a := k + 1) (b := len)
theorem Dm {β : Type} {Q : β -> Prop} {again : Int × Int -> Option β} {ax ay bx by' : Rat} {m q : Int} (h : Ok (again (stQ ax ay bx by' m, q)) Q) :
  Ok (cdO (decide (sgn ay.num <= 0)) (cdO (!(decide (sgn by'.num <= 0))) (cdO (decide (sgn (crQ ax ay bx by').num > 0)) (again (G1 (m + 1), q)) (again (m, q))) (again (m, q)))
   (cdO (decide (sgn by'.num <= 0)) (cdO (decide (sgn (crQ ax ay bx by').num < 0)) (again (G1 (m - 1), q)) (again (m, q))) (again (m, q)))) Q := by
 have ha := Ah (a := ay); have hb := Ah (a := by'); have hc := FM (a := crQ ax ay bx by')
 have hc2 : sgn (crQ ax ay bx by').num < 0 ↔ crQ ax ay bx by' < 0 := by
  have := El (a := crQ ax ay bx by')
  constructor
  · intro k; apply Classical.byContradiction; intro hh; have := this.2 (by grind); omega
  · intro k; apply Classical.byContradiction; intro hh; have := this.1 (by omega); grind
 have same : stQ ax ay bx by' m = m -> Ok (again (m, q)) Q := fun e => by rw [<- e]; simpa [e] using h
 refine Ok.cd (fun h1 => ?_) (fun h1 => ?_)
 · have h1 := ha.1 (dcT h1)
   refine Ok.cd (fun h2 => ?_) (fun h2 => same ?_)
   · have h2 : ¬ by' <= 0 := fun k => by rw [decide_eq_true (hb.2 k)] at h2; cases h2
     refine Ok.cd (fun h3 => ?_) (fun h3 => same ?_)
     · have h3 := hc.1 (dcT h3)
       have e : stQ ax ay bx by' m = G1 (m + 1) := by unfold stQ; rw [if_pos ⟨h1, by grind, h3⟩]
       rw [<- e]; exact h
     · have h3 : ¬ 0 < crQ ax ay bx by' := fun k => dcF h3 (hc.2 k)
       unfold stQ; rw [if_neg fun k => h3 k.2.2, if_neg fun k => by grind]
   · have h2 : by' <= 0 := by
      apply hb.1
      cases hd : decide (sgn by'.num <= 0) with
      | true => exact dcT hd
      | false => rw [hd] at h2; cases h2
     unfold stQ; rw [if_neg fun k => by grind, if_neg fun k => by grind]
 · have h1 : ¬ ay <= 0 := fun k => dcF h1 (ha.2 k)
   refine Ok.cd (fun h2 => ?_) (fun h2 => same ?_)
   · have h2 := hb.1 (dcT h2)
     refine Ok.cd (fun h3 => ?_) (fun h3 => same ?_)
     · have h3 := hc2.1 (dcT h3)
       have e : stQ ax ay bx by' m = G1 (m - 1) := by unfold stQ; rw [if_neg fun k => h1 k.1, if_pos ⟨by grind, h2, h3⟩]
       rw [<- e]; exact h
     · have h3 : ¬ crQ ax ay bx by' < 0 := fun k => dcF h3 (hc2.2 k)
       unfold stQ; rw [if_neg fun k => h1 k.1, if_neg fun k => h3 k.2.2]
   · have h2 : ¬ by' <= 0 := fun k => dcF h2 (hb.2 k)
     unfold stQ; rw [if_neg fun k => h1 k.1, if_neg fun k => h2 k.2.1]
theorem Cj {β : Type} {Q : β -> Prop} {again : Int × Int -> Option β} {ax ay bx by' : Rat} {m q : Int} (h : Ok (again (stQ ax ay bx by' m, q)) Q) :
  Ok (bdO (α := Bool) (cdO (decide (sgn ay.num <= 0)) (cdO (!(decide (sgn by'.num <= 0))) (some (decide (sgn (crQ ax ay bx by').num > 0))) (some false)) (some false)) fun x_91 =>
   cdO x_91 (again (G1 (m + 1), q)) (cdO (!(decide (sgn ay.num <= 0))) (cdO (decide (sgn by'.num <= 0)) (cdO (decide (sgn (crQ ax ay bx by').num < 0)) (again (G1 (m - 1), q)) (again (m, q))) (again (m, q))) (again (m, q)))) Q := by
 have h := Dm h
 cases h1 : decide (sgn ay.num <= 0) <;> cases h2 : decide (sgn by'.num <= 0) <;> cases h3 : decide (sgn (crQ ax ay bx by').num > 0) <;> cases h4 : decide (sgn (crQ ax ay bx by').num < 0) <;> rw [h1, h2, h3, h4] at h <;> exact h
theorem EX {L1 L2 : List aw} {len : Nat} {X Y : Nat -> Rat} (h : At L1 L2 len X Y) (hl : len <= 80) {p : aw} {ox oy : Rat} (h5 : Qx p.X ox 27) (h6 : Qx p.Y oy 27) :
  fQ 20000 L1 p = some (match nW (onW X Y ox oy len) (stW X Y ox oy len) len 0 0 with | none => (0, true) | some m => (m, false)) := by
 obtain ⟨hL, _, hq⟩ := h
 unfold fQ
 rw [hL, EG (len := len) (on := onW X Y ox oy len) (st := stW X Y ox oy len) (bad := ((0 : Int), true)) (by omega) (by omega) ?_ ?_]
 · show (match (match nW (onW X Y ox oy len) (stW X Y ox oy len) len 0 0 with | none => Sum.inr ((0 : Int), true) | some m => Sum.inl m : Sum Int (Int × Bool)) with | .inl n_31 => _ | .inr r0 => _) = _
   cases nW (onW X Y ox oy len) (stW X Y ox oy len) len 0 0 <;> rfl
 · intro again k m Q hk hon hoff
   have hk' : (k + 1) % len < len := Nat.mod_lt _ (by omega)
   obtain ⟨a1, a2, _, _⟩ := hq k hk
   obtain ⟨b1, b2, _, _⟩ := hq _ hk'
   dsimp only
   rw [FW hk (by omega), pe, pe]
   refine Ok.cd (fun _ => ?_) (fun h => by have := dcF h; omega)
   refine Ok.gd (by rw [b9]; exact decide_eq_true hk) (Ok.gd (by simp; omega) (Ok.gd (by rw [b9]; exact decide_eq_true hk') ?_))
   refine Ok.bd (si (by omega) (by omega) a1 h5) fun ax kax => Ok.bd (si (by omega) (by omega) a2 h6) fun ay kay => Ok.bd (si (by omega) (by omega) b1 h5) fun bx kbx => Ok.bd (si (by omega) (by omega) b2 h6) fun by' kby => ?_
   refine Ok.bd (sM (by omega) (by omega) kax kby) fun u1 ku1 => Ok.bd (sM (by omega) (by omega) kay kbx) fun u2 ku2 => Ok.bd (si (by omega) (by omega) ku1 ku2) fun u3 ku3 => ?_
   refine Ok.bde (rQ (by omega) (by omega) ku3) ?_
   have hcr : (X k - ox) * (Y ((k + 1) % len) - oy) - (Y k - oy) * (X ((k + 1) % len) - ox) = crQ (X k - ox) (Y k - oy) (X ((k + 1) % len) - ox) (Y ((k + 1) % len) - oy) := rfl
   rw [hcr, C7]
   refine Ok.bd (R := fun o => (o = Sum.inr ((0 : Int), true) /\ onW X Y ox oy len k = true) \/ (o = Sum.inl () /\ onW X Y ox oy len k = false)) ?_ ?_
   · refine Ok.cd (fun hc => ?_) (fun hc => aC.2 (.inr ⟨rfl, ?_⟩))
     · refine Ok.bd (sM (by omega) (by omega) kax kbx) fun w1 kw1 => Ok.bd (sM (by omega) (by omega) kay kby) fun w2 kw2 => Ok.bd (xL (by omega) (by omega) kw1 kw2) fun w3 kw3 => ?_
       refine Ok.bde (rQ (by omega) (by omega) kw3) ?_
       have hc := dcT hc
       refine Ok.cd (fun hd => aC.2 (.inl ⟨rfl, ?_⟩)) (fun hd => aC.2 (.inr ⟨rfl, ?_⟩))
       · exact decide_eq_true ⟨hc, Ah.1 (dcT hd)⟩
       · exact decide_eq_false fun q => dcF hd (Ah.2 q.2)
     · exact decide_eq_false fun q => dcF hc q.1
   · rintro o (⟨rfl, ho⟩ | ⟨rfl, ho⟩)
     · exact aC.2 (hon ho)
     · refine Ok.bde (rQ (by omega) (by omega) kay) (Ok.bde (rQ (by omega) (by omega) kby) ?_)
       exact Cj (hoff ho)
 · intro again m
   dsimp only
   have : decide ((len : Int) < (len : Int)) = false := by simp
   rw [this]; rfl
end Go.L


set_option linter.unusedVariables false
namespace Go.L
open Go Go.Eng
def Bd1 (r : Rat) : Prop := ∃ p q : Int, r = Rat.divInt p q /\ 0 < q /\ q <= 1000000000000000 /\ -100000000000000000000000 <= p /\ p <= 100000000000000000000000
theorem Bd1.neg {r : Rat} (h : Bd1 r) : Bd1 (-r) := by
 obtain ⟨p, q, h1, h2, h3, h4, h5⟩ := h
 exact ⟨-p, q, by rw [h1, Rat.neg_divInt], h2, h3, by omega, by omega⟩
def Bd (r : Rat) (i : Nat) : Prop := ∃ p q : Int, r = Rat.divInt p q /\ 0 < q /\ q <= 1000000000000000 ^ i /\ -(i * 100000000 * 1000000000000000 ^ i) <= p /\ p <= i * 100000000 * 1000000000000000 ^ i
theorem BY {i : Nat} (h : i <= 56) : (1000000000000000 : Int) ^ i <= 1000000000000000 ^ 56 := by
 obtain ⟨j, hj⟩ : ∃ j, 56 = i + j := ⟨56 - i, by omega⟩
 rw [show (1000000000000000 : Int) ^ 56 = 1000000000000000 ^ i * 1000000000000000 ^ j by rw [<- Int.pow_add, <- hj]]
 have h1 : (1 : Int) <= 1000000000000000 ^ j := Int.pow_pos (by omega)
 have h2 : (0 : Int) < 1000000000000000 ^ i := Int.pow_pos (by omega)
 have := mlT h1 (Int.le_of_lt h2)
 omega
theorem GC : (5600000000 : Int) * 1000000000000000 ^ 56 < pB 95 := dcT (by kernel_rfl)
theorem Bd.len {nn dn : Bool} {ng dg : List Int} {r : Rat} {i j : Nat} (h : Bd r i) (hi : i <= 56) (q : QL nn ng dn dg r j) : QL nn ng dn dg r 95 := by
 obtain ⟨p, d, h1, h2, h3, h4, h5⟩ := h
 have hp := BY hi
 have hb := GC
 have h0 : (0 : Int) < 1000000000000000 ^ i := Int.pow_pos (by omega)
 have hm : (i : Int) * 100000000 * 1000000000000000 ^ i <= 5600000000 * 1000000000000000 ^ 56 := Int.mul_le_mul (by omega) hp (by omega) (by omega)
 generalize (i : Int) * 100000000 * 1000000000000000 ^ i = M at *
 generalize (1000000000000000 : Int) ^ i = P at *
 generalize (1000000000000000 : Int) ^ 56 = R at *
 exact QL.tight q h1 h2 (by omega) (by omega) (by omega)
end Go.L


set_option linter.all false
namespace Go.L
open Go Go.Eng
def h2 (A : Int) : Rat := Rat.divInt A 2
end Go.L


set_option linter.all false
namespace Go.L
open Go Go.Eng
abbrev T12 := Bool × List Int × Bool × List Int × Bool × List Int × Bool × List Int × Bool × List Int × Bool × List Int
def r1 (o : T12) : aj := aj.mk (ae.mk o.1 o.2.1) (ae.mk o.2.2.1 o.2.2.2.1)
def r2 (o : T12) : aj := aj.mk (ae.mk o.2.2.2.2.1 o.2.2.2.2.2.1) (ae.mk o.2.2.2.2.2.2.1 o.2.2.2.2.2.2.2.1)
def r3 (o : T12) : aj := aj.mk (ae.mk o.2.2.2.2.2.2.2.2.1 o.2.2.2.2.2.2.2.2.2.1) (ae.mk o.2.2.2.2.2.2.2.2.2.2.1 o.2.2.2.2.2.2.2.2.2.2.2)
end Go.L


set_option linter.all false
namespace Go.L
open Go Go.Eng
def okZ (z : Int) : Prop := -1048576 <= z /\ z <= 1048576
def okL (level : Int) : Prop := level.tmod 2 ≠ 0 /\ -2097153 <= level /\ level <= 2097153
theorem FT {w h : Nat} (hw : 2 <= w) (hh : 2 <= h) (hm : w * h <= 40) : 2 * ((w - 1) * (h - 1)) <= 56 := by
 have h1 : w * 2 <= w * h := Nat.mul_le_mul_left w hh
 have h2 : 2 * h <= w * h := Nat.mul_le_mul_right h hw
 have : ∀ w, w < 21 -> ∀ h, h < 21 -> 2 <= w -> 2 <= h -> w * h <= 40 -> 2 * ((w - 1) * (h - 1)) <= 56 := by decide
 exact this w (by omega) h (by omega) hw hh hm
end Go.L


set_option linter.all false
namespace Go.L
open Go Go.Eng
theorem nn {a : Rat} (h : a ≠ 0) : (0 < -a) ↔ ¬ 0 < a := by constructor <;> intro k <;> grind
end Go.L


set_option linter.all false
namespace Go.L
open Go Go.Eng
theorem Ei {g : al} {w h : Nat} : (kj g w h).length <= 2 * ((w - 1) * (h - 1)) := by
 have := List.length_filter_le (nt g.Z) (kz g.Width (w - 1) (h - 1))
 rw [xr, Nat.mul_assoc] at this
 exact this
def zx (c level : Int) : Int := if c ≠ 0 then c else if level.tmod 2 = 0 then 1 else if level < -2097153 then 2 else if 2097153 < level then 2 else 0
theorem Gf {α : Type} {c level : Int} : (cdO ((c : Int) != 0) (some c) (cdO (((level.tmod 2) : Int) == 0) (some 1) (cdO (decide (level < (-2097153))) (some 2) (cdO (decide (level > 2097153)) (some 2) (some 0)))) : Option Int) = some (zx c level) := by
 unfold zx
 by_cases h0 : c = 0
 · subst h0
   by_cases h1 : level.tmod 2 = 0
   · rw [h1]; rfl
   · rw [show (level.tmod 2 == 0) = false by simpa using h1, if_neg (by simp), if_neg h1]
     by_cases h2 : level < -2097153
     · rw [decide_eq_true h2, if_pos h2]; rfl
     · rw [decide_eq_false h2, if_neg h2]
       by_cases h3 : level > 2097153
       · rw [decide_eq_true h3, if_pos h3]; rfl
       · rw [decide_eq_false h3, if_neg h3]; rfl
 · rw [show (c != 0) = true by simpa using h0, if_pos h0]; rfl
theorem Fk (g : al) (level : Int) : dh 20000 g level = some (zx (mJ g) level) := by
 unfold dh
 rw [yj (by omega)]
 exact Gf (α := Int)
theorem Bz (g : al) (level : Int) : dZ 20000 g level = some (zx (mJ g) level) := by
 unfold dZ
 rw [BJ (by omega)]
 exact Gf (α := Int)
theorem CP {g : al} {level : Int} (h : zx (mJ g) level = 0) : mJ g = 0 /\ okL level := by
 unfold zx at h
 split at h
 · omega
 · rename_i h0
   split at h
   · omega
   · rename_i h1
     split at h
     · omega
     · split at h
       · omega
       · exact ⟨by omega, h1, by omega, by omega⟩
end Go.L


set_option linter.all false
namespace Go.L
open Go Go.Eng
section
variable {γ : Type} {κ : γ -> Int}
abbrev ltK (κ : γ -> Int) : γ -> γ -> Bool := fun x y => decide (κ x < κ y)
theorem uR {lt lt' : γ -> γ -> Bool} {x : γ} : ∀ {l : List γ}, (∀ y, y ∈ l -> lt y x = lt' y x) -> lJ lt x l = lJ lt' x l
 | [], _ => rfl
 | y :: l, h => by
  unfold lJ
  rw [h y (by simp), uR (l := l) fun z hz => h z (List.mem_cons_of_mem _ hz)]
theorem uS {lt : γ -> γ -> Bool} {x z : γ} : ∀ {l : List γ}, z ∈ lJ lt x l ↔ z = x \/ z ∈ l
 | [] => by simp [lJ]
 | y :: l => by
  unfold lJ
  split
  · rw [List.mem_cons, uS (l := l), List.mem_cons]
    constructor
    · rintro (h | h | h)
      · exact .inr (.inl h)
      · exact .inl h
      · exact .inr (.inr h)
    · rintro (h | h | h)
      · exact .inr (.inl h)
      · exact .inl h
      · exact .inr (.inr h)
  · rw [List.mem_cons]
theorem jS {lt : γ -> γ -> Bool} {z : γ} : ∀ {l : List γ}, z ∈ iS lt l ↔ z ∈ l
 | [] => Iff.rfl
 | x :: l => by unfold iS; rw [uS, jS (l := l), List.mem_cons]
theorem xR {lt : γ -> γ -> Bool} {x : γ} : ∀ {l : List γ}, (lJ lt x l).length = l.length + 1
 | [] => rfl
 | y :: l => by
  unfold lJ
  split
  · rw [List.length_cons, xR (l := l), List.length_cons]
  · rw [List.length_cons]
theorem mf {lt : γ -> γ -> Bool} : ∀ {l : List γ}, (iS lt l).length = l.length
 | [] => rfl
 | x :: l => by unfold iS; rw [xR, mf (l := l), List.length_cons]
theorem tY {lt lt' : γ -> γ -> Bool} : ∀ {l : List γ}, (∀ x y, x ∈ l -> y ∈ l -> lt x y = lt' x y) -> iS lt l = iS lt' l
 | [], _ => rfl
 | x :: l, h => by
  unfold iS
  rw [tY (l := l) fun y z hy hz => h y z (List.mem_cons_of_mem _ hy) (List.mem_cons_of_mem _ hz)]
  exact uR fun y hy => h y x (List.mem_cons_of_mem _ (jS.1 hy)) (by simp)
theorem Ba {x : γ} : ∀ {l : List γ}, l.Pairwise (fun a b => κ a < κ b) -> (∀ y, y ∈ l -> κ y ≠ κ x) -> (lJ (ltK κ) x l).Pairwise (fun a b => κ a < κ b)
 | [], _, _ => by simp [lJ]
 | y :: l, h, hx => by
  unfold lJ
  rw [List.pairwise_cons] at h
  have hy := hx y (by simp)
  by_cases hlt : κ y < κ x
  · rw [if_pos (decide_eq_true hlt), List.pairwise_cons]
    refine ⟨fun z hz => ?_, Ba h.2 fun z hz => hx z (List.mem_cons_of_mem _ hz)⟩
    rcases uS.1 hz with rfl | hz
    · exact hlt
    · exact h.1 z hz
  · rw [if_neg (by simpa [ltK] using hlt), List.pairwise_cons]
    refine ⟨fun z hz => ?_, List.pairwise_cons.2 h⟩
    rcases List.mem_cons.1 hz with rfl | hz
    · omega
    · have := h.1 z hz; omega
theorem uW : ∀ {l : List γ}, l.Pairwise (fun a b => κ a ≠ κ b) -> (iS (ltK κ) l).Pairwise (fun a b => κ a < κ b)
 | [], _ => .nil
 | x :: l, h => by
  rw [List.pairwise_cons] at h
  exact Ba (uW h.2) fun y hy => (fun e => h.1 y (jS.1 hy) e.symm)
theorem wI [DecidableEq γ] {cmp : γ -> γ -> Option Int} {l : List γ} (hs : ∀ x y, x ∈ l -> y ∈ l -> ∃ c, cmp x y = some c /\ (c < 0 ↔ κ x < κ y)) (inj : ∀ x y, x ∈ l -> y ∈ l -> κ x = κ y -> x = y) : r6 cmp l = some (iS (ltK κ) l) := by
 have hc : ∀ x y, x ∈ l -> y ∈ l -> (cfO cmp x y < 0 ↔ κ x < κ y) := fun x y hx hy => by
  obtain ⟨c, h1, h2⟩ := hs x y hx hy
  unfold cfO; rw [h1]; exact h2
 have ok : xD cmp l = true := by
  unfold xD
  rw [List.all_eq_true]
  intro x hx
  rw [Bool.and_eq_true, List.all_eq_true]
  refine ⟨decide_eq_true (by rw [hc x x hx hx]; omega), fun y hy => ?_⟩
  rw [Bool.and_eq_true]
  refine ⟨by obtain ⟨c, h1, _⟩ := hs x y hx hy; rw [h1]; rfl, ?_⟩
  rw [Bool.and_eq_true, List.all_eq_true]
  refine ⟨decide_eq_true ?_, fun z hz => ?_⟩
  · rw [hc x y hx hy, hc y x hy hx]
    by_cases h : κ x = κ y
    · exact .inr (.inr (inj x y hx hy h))
    · omega
  · rw [Bool.and_eq_true]
    refine ⟨decide_eq_true ?_, decide_eq_true ?_⟩
    · rw [hc x y hx hy, hc y z hy hz, hc x z hx hz]; omega
    · rw [hc x y hx hy, hc y z hy hz, hc x z hx hz]; omega
 unfold r6
 rw [if_pos ok, tY (lt' := ltK κ) fun x y hx hy => by rw [decide_eq_decide]; exact hc x y hx hy]
end
end Go.L

