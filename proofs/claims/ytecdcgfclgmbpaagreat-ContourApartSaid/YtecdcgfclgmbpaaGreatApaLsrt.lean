import Derived.Test.YtecdcgfclgmbpaaGreatApaL51p
import Derived.Test.YtecdcgfclgmbpaaGreatApaL52tB
import Derived.Test.YtecdcgfclgmbpaaGreatApaL52tB
import Derived.KernelRfl
import Derived.Test.YtecdcgfclgmbpaaGreatApaL51p
import Derived.Test.YtecdcgfclgmbpaaGreatApaL52tB
import Derived.Test.YtecdcgfclgmbpaaGreatApaL52tB
import Derived.Test.YtecdcgfclgmbpaaGreatApaL52tB
import Derived.Test.YtecdcgfclgmbpaaGreatApaL51p
import Derived.Test.YtecdcgfclgmbpaaGreatPl2Apas
import Derived.Test.YtecdcgfclgmbpaaGreatScSApas
set_option linter.all false
namespace Go.L
open Go Go.Eng
def pxG (g : al) (k : Int) : Int := g.X0 + k.tmod g.Width * g.Step
def pyG (g : al) (k : Int) : Int := g.Y0 + k.tdiv g.Width * g.Step
theorem G7 {a b : Nat} : ((a : Int)).tdiv (b : Int) = ((a / b : Nat) : Int) := rfl
theorem FN {a b : Nat} : ((a : Int)).tmod (b : Int) = ((a % b : Nat) : Int) := by rw [Int.tmod_eq_emod_of_nonneg (by omega)]; rfl
theorem Am {z : Int} : wE z = false ↔ -1048576 <= z /\ z <= 1048576 := by
 unfold wE; simp
theorem G0 {g : al} {w h : Nat} (j : Gd g w h) {k : Int} (D : 0 <= k) (h1 : k < g.Z.length) :
  (IE (g.X0 + (IE ((k.tmod g.Width) * g.Step))) = pxG g k /\ -8000000 <= pxG g k /\ pxG g k <= 8000000) /\ (IE (g.Y0 + (IE ((IE (k.tdiv g.Width)) * g.Step))) = pyG g k /\ -8000000 <= pyG g k /\ pyG g k <= 8000000) := by
 obtain ⟨m, rfl⟩ : ∃ m : Nat, k = (m : Int) := ⟨k.toNat, by omega⟩
 have hw := j.w1; have E := j.h1; have hs := j.dim.s
 have I := (Am.1 j.dim.x); have J := (Am.1 j.dim.y)
 have hm : m < w * h := by rw [<- j.m]; omega
 unfold pxG pyG
 rw [j.W, FN, G7]
 have z : m % w < w := Nat.mod_lt _ (by omega)
 have C : m / w < h := Nat.div_lt_of_lt_mul hm
 generalize m % w = p at z ⊢
 generalize m / w = q at C ⊢
 have M := xw (a := (p : Int)) (b := g.Step) (A := 63) (B := 65536) (by omega) (by omega) (by omega) (by omega)
 have b2 := xw (a := (q : Int)) (b := g.Step) (A := 63) (B := 65536) (by omega) (by omega) (by omega) (by omega)
 rw [wrap64_in (n := (p : Int) * g.Step) (by omega) (by omega), wrap64_in (n := (q : Int)) (by omega) (by omega), wrap64_in (n := (q : Int) * g.Step) (by omega) (by omega), wrap64_in (n := g.X0 + _) (by omega) (by omega), wrap64_in (n := g.Y0 + _) (by omega) (by omega)]
 omega
def pG (r : Rat) (a b : Int) : Rat := Rat.divInt a 1 + r * Rat.divInt (b - a) 1
theorem BS {c : an} {r : Rat} (E : Qx c.At r 16) {a b : Int} {u v : ai} (hu : R.Qx u (Rat.divInt a 1) 3) (I : R.Qx v (Rat.divInt b 1) 3) {α : Type} {Q : α -> Prop} {K : ai -> Option α} (k : ∀ z, R.Qx z (pG r a b) 27 -> Ok (K z) Q) :
  Ok (bdO (bf 20000 v u) fun q => bdO (bn 20000 c.At q) fun C => bdO (bE 20000 u C) K) Q := by
 refine Ok.bd (R.re (by omega) (by omega) I hu) fun d hd => ?_
 have D : R.Qx c.At r 16 := E
 refine Ok.bd (R.xP (by omega) (by omega) D hd) fun m hm => ?_
 refine Ok.bd (R.Ch (by omega) (by omega) hu hm) fun z j => k z ?_
 have j : R.Qx z (Rat.divInt a 1 + r * (Rat.divInt b 1 - Rat.divInt a 1)) _ := j
 rw [sub_one] at j
 exact QL.mono j (by omega)
theorem BB {g : al} {w h : Nat} (j : Gd g w h) {k : Int} (m : 0 <= k) (h1 : k < g.Z.length) : Ok (bJ 20000 g k) fun p => R.Qx p.X (Rat.divInt (pxG g k) 1) 3 /\ R.Qx p.Y (Rat.divInt (pyG g k) 1) 3 := by
 obtain ⟨⟨e1, z⟩, e2, b2⟩ := G0 j m h1
 unfold bJ
 rw [e1, e2]
 refine Ok.gd (by have := j.dim.w; simp; omega) (Ok.bd (R.tQ (by omega) (by omega) (by omega)) fun u hu => Ok.bd (R.tQ (by omega) (by omega) (by omega)) fun v q => az.2 ⟨hu, q⟩)
def whR (n : Nat) (j m : ar) (c : an) : Option (ar × Int) :=
 bdO (bf n m.X j.X) fun q => bdO (bn n c.At q) fun z => bdO (bE n j.X z) fun C =>
 bdO (bf n m.Y j.Y) fun D => bdO (bn n c.At D) fun E => bdO (bE n j.Y E) fun I => some (ar.mk C I, 0)
end Go.L


set_option linter.all false
namespace Go.L
open Go Go.Eng
def jD (f : an -> Option (ar × Int)) : List an -> List ar -> Option (List ar × Int)
 | [], out => some (out, 0)
 | x :: l, out => bdO (f x) fun v => bif v.2 != 0 then some ([], v.2) else jD f l (out ++ [v.1])
theorem Ej {n : Nat} {f : an -> Option (ar × Int)} {L : List an} {F : (List ar × Int -> Option (Sum (List ar) (List ar × Int))) -> List ar × Int -> Option (Sum (List ar) (List ar × Int))}
  (z : L.length < n) (E : L.length <= 100000) (C : ∀ x ∈ L, ∃ v, f x = some v)
  (q : ∀ again out k, F again (out, k) = cdO (decide (k < (L.length : Int))) (gdO (inR k L.length) (bdO (f (gt L k)) fun v => cdO ((v.2 : Int) != 0) (some (Sum.inr (([], v.2)))) (gdO (decide ((out.length + 1) * 128 <= 140737488355328)) (gdO (decide (out.length + 1 <= 4611686018427387904)) (again (out ++ [v.1], IE (k + 1))))))) (some (Sum.inl out))) :
  Ok (aP n F ([], 0)) fun o => jD f L [] = some (match o with | .inl l => (l, 0) | .inr r => r) := by
 refine ui (len := L.length) (fun k out => jD f L [] = jD f (L.drop k) out /\ out.length = k) z (by omega) ⟨rfl, rfl⟩ ?_ ?_
 · rintro again k out j ⟨e, hlen⟩ D
   rw [q]
   refine Ok.cd (fun _ => ?_) (fun h => by have := dcF h; omega)
   refine Ok.gd (by rw [bg]; exact decide_eq_true j) ?_
   have hm : L.getD k default ∈ L := by simp only [List.getD, geT j, Option.getD_some]; exact List.getElem_mem j
   have hd : L.drop k = L.getD k default :: L.drop (k + 1) := by
    rw [List.drop_eq_getElem_cons j]
    simp only [List.getD, geT j, Option.getD_some]
   obtain ⟨v, m⟩ := C _ hm
   rw [oP]
   refine Ok.bde m (Ok.cd (fun h => az.2 ?_) (fun h => ?_))
   · rw [e, hd, jD, m]
     show (bif v.2 != 0 then _ else _) = _
     rw [h]; rfl
   · refine Ok.gd (decide_eq_true (by omega)) (Ok.gd (decide_eq_true (by omega)) (D _ ⟨?_, by simp [hlen]⟩))
     rw [e, hd, jD, m]
     show (bif v.2 != 0 then _ else _) = _
     rw [h]; rfl
 · rintro again out ⟨e, _⟩
   rw [q]
   refine Ok.cd (fun h => by simp at h) (fun _ => az.2 ?_)
   rw [e, List.drop_length]; rfl
theorem DP {g : al} {c : ak} (E : c.Points.length <= 80) (z : ∀ x ∈ c.Points, ∃ v, bt 20000 g x = some v) : cL 20000 g c = jD (bt 20000 g) c.Points [] := by
 obtain ⟨o, C, D⟩ := Ej (f := bt 20000 g) (n := 20000) (F := fun m (j, q) => cdO (decide (q < (c.Points.length : Int))) (gdO (inR q c.Points.length) (bdO (bt 20000 g (gt c.Points q)) fun v => cdO ((v.2 : Int) != 0) (some (Sum.inr (([], v.2)))) (gdO (decide ((j.length + 1) * 128 <= 140737488355328)) (gdO (decide (j.length + 1 <= 4611686018427387904)) (m (j ++ [v.1], IE (q + 1))))))) (some (Sum.inl j))) (by omega) (by omega) z (fun _ _ _ => rfl)
 rw [D]
 unfold cL
 show bdO (aP 20000 _ ([], 0)) _ = _
 rw [C]
 cases o <;> rfl
end Go.L


set_option linter.all false
namespace Go.L
open Go Go.Eng
def crQ (ax ay bx by' : Rat) : Rat := ax * by' - ay * bx
def onQ (ax ay bx by' : Rat) : Bool := decide (crQ ax ay bx by' = 0 /\ ax * bx + ay * by' <= 0)
theorem sq_nonneg (r : Rat) : 0 <= r * r := by
 by_cases h : 0 <= r
 · exact Rat.mul_nonneg h h
 · have := Rat.mul_nonneg (a := -r) (b := -r) (by grind) (by grind)
   grind
theorem x6 {ax ay bx by' : Rat} (h : ax * by' - ay * bx = 0) : ax * bx + ay * by' <= 0 ↔ (ax * bx <= 0 /\ ay * by' <= 0) := by
 have key : (ax * bx) * (ay * by') = (ax * by') * (ax * by') := by grind
 have hs := sq_nonneg (ax * by')
 constructor
 · intro j
   refine ⟨?_, ?_⟩
   · apply Classical.byContradiction
     intro hc
     have := Rat.mul_pos (a := ax * bx) (b := -(ay * by')) (by grind) (by grind)
     grind
   · apply Classical.byContradiction
     intro hc
     have := Rat.mul_pos (a := -(ax * bx)) (b := ay * by') (by grind) (by grind)
     grind
 · rintro ⟨a, b⟩; grind
theorem AZ (a : Rat) : (a < 0 /\ sgn a.num = -1) \/ (a = 0 /\ sgn a.num = 0) \/ (0 < a /\ sgn a.num = 1) := by
 rcases fB a.num with ⟨h, e⟩ | ⟨h, e⟩ | ⟨h, e⟩
 · refine .inl ⟨?_, e⟩
   have : ¬ 0 <= a := fun k => by have := Rat.num_nonneg.2 k; omega
   grind
 · exact .inr (.inl ⟨Rat.num_eq_zero.1 h, e⟩)
 · exact .inr (.inr ⟨DE.1 h, e⟩)
theorem Fe (a b : Rat) : decide (IE (sgn a.num * sgn (-b).num) >= 0) = decide (a * b <= 0) := by
 have w1 : IE 1 = 1 := wrap64_in (by omega) (by omega)
 have m : IE (-1) = -1 := wrap64_in (by omega) (by omega)
 have j : IE 0 = 0 := wrap64_in (by omega) (by omega)
 rcases AZ a with ⟨h1, e1⟩ | ⟨h1, e1⟩ | ⟨h1, e1⟩ <;> rcases AZ (-b) with ⟨h2, e2⟩ | ⟨h2, e2⟩ | ⟨h2, e2⟩ <;> rw [e1, e2]
 · have := Rat.mul_pos (a := -a) (b := b) (by grind) (by grind)
   rw [show (-1 : Int) * -1 = 1 from rfl, w1, decide_eq_true (by omega : (1 : Int) >= 0), decide_eq_true (by grind)]
 · have hb : b = 0 := by grind
   rw [show (-1 : Int) * 0 = 0 from rfl, j, decide_eq_true (by omega : (0 : Int) >= 0), decide_eq_true (by rw [hb, Rat.mul_zero]; exact Rat.le_refl)]
 · have := Rat.mul_pos (a := -a) (b := -b) (by grind) (by grind)
   rw [show (-1 : Int) * 1 = -1 from rfl, m, decide_eq_false (by omega : ¬ (-1 : Int) >= 0), decide_eq_false (by grind)]
 · rw [show (0 : Int) * -1 = 0 from rfl, j, decide_eq_true (by omega : (0 : Int) >= 0), decide_eq_true (by rw [h1, Rat.zero_mul]; exact Rat.le_refl)]
 · rw [show (0 : Int) * 0 = 0 from rfl, j, decide_eq_true (by omega : (0 : Int) >= 0), decide_eq_true (by rw [h1, Rat.zero_mul]; exact Rat.le_refl)]
 · rw [show (0 : Int) * 1 = 0 from rfl, j, decide_eq_true (by omega : (0 : Int) >= 0), decide_eq_true (by rw [h1, Rat.zero_mul]; exact Rat.le_refl)]
 · have := Rat.mul_pos (a := a) (b := b) (by grind) (by grind)
   rw [show (1 : Int) * -1 = -1 from rfl, m, decide_eq_false (by omega : ¬ (-1 : Int) >= 0), decide_eq_false (by grind)]
 · have hb : b = 0 := by grind
   rw [show (1 : Int) * 0 = 0 from rfl, j, decide_eq_true (by omega : (0 : Int) >= 0), decide_eq_true (by rw [hb, Rat.mul_zero]; exact Rat.le_refl)]
 · have := Rat.mul_pos (a := a) (b := -b) (by grind) (by grind)
   rw [show (1 : Int) * 1 = 1 from rfl, w1, decide_eq_true (by omega : (1 : Int) >= 0), decide_eq_true (by grind)]
end Go.L


set_option linter.all false
namespace Go.L
open Go Go.Eng
theorem C5 {a b p : ar} {q z C D j m : Rat} (h1 : R.Qx a.X q 27) (h2 : R.Qx a.Y z 27) (E : R.Qx b.X C 27) (I : R.Qx b.Y D 27) (J : R.Qx p.X j 27) (M : R.Qx p.Y m 27) :
  bZ 20000 a b p = some (sgn (crQ (q - j) (z - m) (C - j) (D - m)).num) := by
 apply Ok.eq
 unfold bZ
 refine Ok.bd (R.re (by omega) (by omega) E h1) fun v1 N => Ok.bd (R.re (by omega) (by omega) M h2) fun v2 O => Ok.bd (R.xP (by omega) (by omega) N O) fun v3 T => ?_
 refine Ok.bd (R.re (by omega) (by omega) I h2) fun v4 U => Ok.bd (R.re (by omega) (by omega) J h1) fun v5 k5 => Ok.bd (R.xP (by omega) (by omega) U k5) fun v6 k6 => ?_
 refine Ok.bde (R.nB (by omega) (by omega) T k6) (az.2 ?_)
 have e : (C - q) * (m - z) - (D - z) * (j - q) = crQ (q - j) (z - m) (C - j) (D - m) := by unfold crQ; grind
 rw [e]
theorem xL {a b p : ai} {x y o : Rat} (h1 : R.Qx a x 27) (h2 : R.Qx b y 27) (j : R.Qx p o 27) : cw 20000 a b p = some (decide ((x - o) * (y - o) <= 0)) := by
 apply Ok.eq
 unfold cw
 refine Ok.bde (R.nB (by omega) (by omega) h1 j) (Ok.bde (R.nB (by omega) (by omega) j h2) (az.2 ?_))
 rw [show o - y = -(y - o) by grind]
 exact Fe (x - o) (y - o)
theorem D7 {a b p : ar} {m C q D j z : Rat} (h1 : R.Qx a.X m 27) (h2 : R.Qx a.Y C 27) (E : R.Qx b.X q 27) (I : R.Qx b.Y D 27) (J : R.Qx p.X j 27) (M : R.Qx p.Y z 27) :
  aQ 20000 a b p = some (decide ((m - j) * (q - j) <= 0) && decide ((C - z) * (D - z) <= 0)) := by
 unfold aQ
 rw [xL h1 E J, xL h2 I M]
 cases decide ((m - j) * (q - j) <= 0) <;> rfl
theorem Gk {ax ay bx by' : Rat} : onQ ax ay bx by' = (decide (crQ ax ay bx by' = 0) && (decide (ax * bx <= 0) && decide (ay * by' <= 0))) := by
 unfold onQ
 by_cases h : crQ ax ay bx by' = 0
 · have hd := x6 (ax := ax) (ay := ay) (bx := bx) (by' := by') (by unfold crQ at h; exact h)
   simp only [h, hd, true_and, decide_true, Bool.true_and, Bool.decide_and]
 · simp [h]
theorem C9 {r : Rat} : (sgn r.num == 0) = decide (r = 0) := by
 rcases AZ r with ⟨h, e⟩ | ⟨h, e⟩ | ⟨h, e⟩
 · rw [e, decide_eq_false (by grind)]; rfl
 · rw [e, decide_eq_true h]; rfl
 · rw [e, decide_eq_false (by grind)]; rfl
def At (m q : List ar) (len : Nat) (X Y : Nat -> Rat) : Prop := m.length = len /\ q.length = len /\ ∀ j, j < len -> Qx (m.getD j default).X (X j) 27 /\ Qx (m.getD j default).Y (Y j) 27 /\ R.Qx (q.getD j default).X (X j) 27 /\ R.Qx (q.getD j default).Y (Y j) 27
theorem HI {k len : Nat} (j : k < len) (m : len <= 100000) : (IE ((k : Int) + 1)).tmod (len : Int) = (((k + 1) % len : Nat) : Int) := by
 rw [wrap64_in (by omega) (by omega)]
 exact FN (a := k + 1) (b := len)
end Go.L


set_option linter.unusedVariables false
namespace Go.L
open Go Go.Eng
def Bd1 (r : Rat) : Prop := ∃ p q : Int, r = Rat.divInt p q /\ 0 < q /\ q <= 1000000000000000 /\ -100000000000000000000000 <= p /\ p <= 100000000000000000000000
theorem Bd1.neg {r : Rat} (h : Bd1 r) : Bd1 (-r) := by
 obtain ⟨p, q, h1, h2, j, m, z⟩ := h
 exact ⟨-p, q, by rw [h1, Rat.neg_divInt], h2, j, by omega, by omega⟩
def Bd (r : Rat) (i : Nat) : Prop := ∃ p q : Int, r = Rat.divInt p q /\ 0 < q /\ q <= 1000000000000000 ^ i /\ -(i * 100000000 * 1000000000000000 ^ i) <= p /\ p <= i * 100000000 * 1000000000000000 ^ i
theorem Dh {i : Nat} (h : i <= 56) : (1000000000000000 : Int) ^ i <= 1000000000000000 ^ 56 := by
 obtain ⟨j, m⟩ : ∃ j, 56 = i + j := ⟨56 - i, by omega⟩
 rw [show (1000000000000000 : Int) ^ 56 = 1000000000000000 ^ i * 1000000000000000 ^ j by rw [<- Int.pow_add, <- m]]
 have h1 : (1 : Int) <= 1000000000000000 ^ j := Int.pow_pos (by omega)
 have h2 : (0 : Int) < 1000000000000000 ^ i := Int.pow_pos (by omega)
 have := mlT h1 (Int.le_of_lt h2)
 omega
theorem HX : (5600000000 : Int) * 1000000000000000 ^ 56 < pB 95 := dcT (by kernel_rfl)
theorem Bd.len {nn dn : Bool} {ng m : List Int} {r : Rat} {i j : Nat} (h : Bd r i) (hi : i <= 56) (q : QL nn ng dn m r j) : QL nn ng dn m r 95 := by
 obtain ⟨p, d, h1, h2, z, C, D⟩ := h
 have hp := Dh hi
 have hb := HX
 have E : (0 : Int) < 1000000000000000 ^ i := Int.pow_pos (by omega)
 have hm : (i : Int) * 100000000 * 1000000000000000 ^ i <= 5600000000 * 1000000000000000 ^ 56 := Int.mul_le_mul (by omega) hp (by omega) (by omega)
 generalize (i : Int) * 100000000 * 1000000000000000 ^ i = M at *
 generalize (1000000000000000 : Int) ^ i = P at *
 generalize (1000000000000000 : Int) ^ 56 = R at *
 exact QL.tight q h1 h2 (by omega) (by omega) (by omega)
end Go.L


set_option linter.all false
namespace Go.L
open Go Go.Eng
def h2 (A : Int) : Rat := Rat.divInt A 2
end Go.L


set_option linter.all false
namespace Go.L
open Go Go.Eng
abbrev T4 := Bool × List Int × Bool × List Int
abbrev T12 := Bool × List Int × Bool × List Int × Bool × List Int × Bool × List Int × Bool × List Int × Bool × List Int
def rs (s : T4) : ai := ai.mk (ah.mk s.1 s.2.1) (ah.mk s.2.2.1 s.2.2.2)
def r1 (o : T12) : ai := ai.mk (ah.mk o.1 o.2.1) (ah.mk o.2.2.1 o.2.2.2.1)
def r2 (o : T12) : ai := ai.mk (ah.mk o.2.2.2.2.1 o.2.2.2.2.2.1) (ah.mk o.2.2.2.2.2.2.1 o.2.2.2.2.2.2.2.1)
def r3 (o : T12) : ai := ai.mk (ah.mk o.2.2.2.2.2.2.2.2.1 o.2.2.2.2.2.2.2.2.2.1) (ah.mk o.2.2.2.2.2.2.2.2.2.2.1 o.2.2.2.2.2.2.2.2.2.2.2)
end Go.L


set_option linter.all false
namespace Go.L
open Go Go.Eng
def okL (level : Int) : Prop := level.tmod 2 ≠ 0 /\ -2097153 <= level /\ level <= 2097153
theorem Hu {w h : Nat} (hw : 2 <= w) (j : 2 <= h) (hm : w * h <= 40) : 2 * ((w - 1) * (h - 1)) <= 56 := by
 have h1 : w * 2 <= w * h := Nat.mul_le_mul_left w j
 have h2 : 2 * h <= w * h := Nat.mul_le_mul_right h hw
 have : ∀ w, w < 21 -> ∀ h, h < 21 -> 2 <= w -> 2 <= h -> w * h <= 40 -> 2 * ((w - 1) * (h - 1)) <= 56 := by decide
 exact this w (by omega) h (by omega) hw j hm
end Go.L


set_option linter.all false
namespace Go.L
open Go Go.Eng
theorem nn {a : Rat} (h : a ≠ 0) : (0 < -a) ↔ ¬ 0 < a := by constructor <;> intro k <;> grind
end Go.L


set_option linter.all false
namespace Go.L
open Go Go.Eng
theorem E4 {g : al} {w h : Nat} : (lD g w h).length <= 2 * ((w - 1) * (h - 1)) := by
 have := List.length_filter_le (np g.Z) (lK g.Width (w - 1) (h - 1))
 rw [va, Nat.mul_assoc] at this
 exact this
def Af (c level : Int) : Int := if c ≠ 0 then c else if level.tmod 2 = 0 then 1 else if level < -2097153 then 2 else if 2097153 < level then 2 else 0
theorem HC {α : Type} {c level : Int} : (cdO ((c : Int) != 0) (some c) (cdO (((level.tmod 2) : Int) == 0) (some 1) (cdO (decide (level < (-2097153))) (some 2) (cdO (decide (level > 2097153)) (some 2) (some 0)))) : Option Int) = some (Af c level) := by
 unfold Af
 by_cases m : c = 0
 · subst m
   by_cases h1 : level.tmod 2 = 0
   · rw [h1]; rfl
   · rw [show (level.tmod 2 == 0) = false by simpa using h1, if_neg (by simp), if_neg h1]
     by_cases h2 : level < -2097153
     · rw [decide_eq_true h2, if_pos h2]; rfl
     · rw [decide_eq_false h2, if_neg h2]
       by_cases j : level > 2097153
       · rw [decide_eq_true j, if_pos j]; rfl
       · rw [decide_eq_false j, if_neg j]; rfl
 · rw [show (c != 0) = true by simpa using m, if_pos m]; rfl
theorem DT (g : al) (level : Int) : fG 20000 g level = some (Af (mK g) level) := by
 unfold fG
 rw [Dl (by omega)]
 exact HC (α := Int)
theorem xH (g : al) (level : Int) : cx 20000 g level = some (Af (mK g) level) := by
 unfold cx
 rw [Cx (by omega)]
 exact HC (α := Int)
theorem zO {g : al} {level : Int} (h : Af (mK g) level = 0) : mK g = 0 /\ okL level := by
 unfold Af at h
 split at h
 · omega
 · rename_i j
   split at h
   · omega
   · rename_i h1
     split at h
     · omega
     · split at h
       · omega
       · exact ⟨by omega, h1, by omega, by omega⟩
end Go.L


set_option linter.all false
namespace Go.L
open Go Go.Eng
section
variable {γ : Type} {κ : γ -> Int}
abbrev ltK (κ : γ -> Int) : γ -> γ -> Bool := fun x y => decide (κ x < κ y)
theorem vv {lt lt' : γ -> γ -> Bool} {x : γ} : ∀ {l : List γ}, (∀ y, y ∈ l -> lt y x = lt' y x) -> ma lt x l = ma lt' x l
 | [], _ => rfl
 | y :: l, h => by
  unfold ma
  rw [h y (by simp), vv (l := l) fun z j => h z (List.mem_cons_of_mem _ j)]
theorem wv {lt : γ -> γ -> Bool} {x z : γ} : ∀ {l : List γ}, z ∈ ma lt x l ↔ z = x \/ z ∈ l
 | [] => by simp [ma]
 | y :: l => by
  unfold ma
  split
  · rw [List.mem_cons, wv (l := l), List.mem_cons]
    constructor
    · rintro (h | h | h)
      · exact .inr (.inl h)
      · exact .inl h
      · exact .inr (.inr h)
    · rintro (h | h | h)
      · exact .inr (.inl h)
      · exact .inl h
      · exact .inr (.inr h)
  · rw [List.mem_cons]
theorem jN {lt : γ -> γ -> Bool} {z : γ} : ∀ {l : List γ}, z ∈ iT lt l ↔ z ∈ l
 | [] => Iff.rfl
 | x :: l => by unfold iT; rw [wv, jN (l := l), List.mem_cons]
theorem Aj {lt : γ -> γ -> Bool} {x : γ} : ∀ {l : List γ}, (ma lt x l).length = l.length + 1
 | [] => rfl
 | y :: l => by
  unfold ma
  split
  · rw [List.length_cons, Aj (l := l), List.length_cons]
  · rw [List.length_cons]
theorem mG {lt : γ -> γ -> Bool} : ∀ {l : List γ}, (iT lt l).length = l.length
 | [] => rfl
 | x :: l => by unfold iT; rw [Aj, mG (l := l), List.length_cons]
theorem ur {lt lt' : γ -> γ -> Bool} : ∀ {l : List γ}, (∀ x y, x ∈ l -> y ∈ l -> lt x y = lt' x y) -> iT lt l = iT lt' l
 | [], _ => rfl
 | x :: l, h => by
  unfold iT
  rw [ur (l := l) fun y z j m => h y z (List.mem_cons_of_mem _ j) (List.mem_cons_of_mem _ m)]
  exact vv fun y j => h y x (List.mem_cons_of_mem _ (jN.1 j)) (by simp)
theorem Cm {x : γ} : ∀ {l : List γ}, l.Pairwise (fun a b => κ a < κ b) -> (∀ y, y ∈ l -> κ y ≠ κ x) -> (ma (ltK κ) x l).Pairwise (fun a b => κ a < κ b)
 | [], _, _ => by simp [ma]
 | y :: l, h, hx => by
  unfold ma
  rw [List.pairwise_cons] at h
  have q := hx y (by simp)
  by_cases m : κ y < κ x
  · rw [if_pos (decide_eq_true m), List.pairwise_cons]
    refine ⟨fun z j => ?_, Cm h.2 fun z j => hx z (List.mem_cons_of_mem _ j)⟩
    rcases wv.1 j with rfl | j
    · exact m
    · exact h.1 z j
  · rw [if_neg (by simpa [ltK] using m), List.pairwise_cons]
    refine ⟨fun z j => ?_, List.pairwise_cons.2 h⟩
    rcases List.mem_cons.1 j with rfl | j
    · omega
    · have := h.1 z j; omega
theorem wB : ∀ {l : List γ}, l.Pairwise (fun a b => κ a ≠ κ b) -> (iT (ltK κ) l).Pairwise (fun a b => κ a < κ b)
 | [], _ => .nil
 | x :: l, h => by
  rw [List.pairwise_cons] at h
  exact Cm (wB h.2) fun y j => (fun e => h.1 y (jN.1 j) e.symm)
theorem xz [DecidableEq γ] {cmp : γ -> γ -> Option Int} {l : List γ} (hs : ∀ x y, x ∈ l -> y ∈ l -> ∃ c, cmp x y = some c /\ (c < 0 ↔ κ x < κ y)) (inj : ∀ x y, x ∈ l -> y ∈ l -> κ x = κ y -> x = y) : ux cmp l = some (iT (ltK κ) l) := by
 have hc : ∀ x y, x ∈ l -> y ∈ l -> (cfO cmp x y < 0 ↔ κ x < κ y) := fun x y hx j => by
  obtain ⟨c, h1, h2⟩ := hs x y hx j
  unfold cfO; rw [h1]; exact h2
 have ok : yR cmp l = true := by
  unfold yR
  rw [List.all_eq_true]
  intro x hx
  rw [Bool.and_eq_true, List.all_eq_true]
  refine ⟨decide_eq_true (by rw [hc x x hx hx]; omega), fun y j => ?_⟩
  rw [Bool.and_eq_true]
  refine ⟨by obtain ⟨c, h1, _⟩ := hs x y hx j; rw [h1]; rfl, ?_⟩
  rw [Bool.and_eq_true, List.all_eq_true]
  refine ⟨decide_eq_true ?_, fun z m => ?_⟩
  · rw [hc x y hx j, hc y x j hx]
    by_cases h : κ x = κ y
    · exact .inr (.inr (inj x y hx j h))
    · omega
  · rw [Bool.and_eq_true]
    refine ⟨decide_eq_true ?_, decide_eq_true ?_⟩
    · rw [hc x y hx j, hc y z j m, hc x z hx m]; omega
    · rw [hc x y hx j, hc y z j m, hc x z hx m]; omega
 unfold ux
 rw [if_pos ok, ur (lt' := ltK κ) fun x y hx j => by rw [decide_eq_decide]; exact hc x y hx j]
end
end Go.L

