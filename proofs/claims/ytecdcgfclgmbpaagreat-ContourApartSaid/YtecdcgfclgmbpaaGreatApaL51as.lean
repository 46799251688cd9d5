import Derived.Test.YtecdcgfclgmbpaaGreatApaL51aq
import Derived.Test.YtecdcgfclgmbpaaGreatApaL51aq
set_option linter.all false
namespace Go.L
open Go Go.Eng
section
variable {w : Nat} {Z : List Int}
def eH (w j i : Nat) : K2 := A2.mk (cel w j i) (cel w j (i + 1))
def eV (w j i : Nat) : K2 := A2.mk (cel w j i) (cel w (j + 1) i)
def eD (w j i : Nat) : K2 := A2.mk (cel w j i) (cel w (j + 1) (i + 1))
def uP (w : Nat) (Z : List Int) (level : Int) (e : K2) : R2 := (uX w Z level e, uY w Z level e)
abbrev nR (i : Nat) : Rat := ((i : Int) : Rat)
theorem uR (i : Nat) : nR (i + 1) = nR i + 1 := by unfold nR; rw [show ((i + 1 : Nat) : Int) = (i : Int) + 1 by omega, ics]
theorem d1 {a : Nat} : ((((a + 1 : Nat) : Int) - (a : Int) : Int) : Rat) = 1 := by rw [show (((a + 1 : Nat) : Int) - (a : Int) : Int) = 1 by omega, Rat.intCast_one]
theorem sQ {level : Int} {j i : Nat} (hi : i + 1 < w) : uP w Z level (eH w j i) = (nR i + crE Z level (eH w j i), nR j) := by
 obtain ⟨a, b⟩ := F8 (Z := Z) (level := level) (j := j) (j' := j) (show i < w by omega) hi
 unfold uP eH
 rw [a, b, BV, d1, Rat.mul_one]
theorem sP {level : Int} {j i : Nat} (hi : i < w) : uP w Z level (eV w j i) = (nR i, nR j + crE Z level (eV w j i)) := by
 obtain ⟨a, b⟩ := F8 (Z := Z) (level := level) (j := j) (j' := j + 1) hi hi
 unfold uP eV
 rw [a, b, BV, d1, Rat.mul_one]
theorem ti {level : Int} {j i : Nat} (hi : i + 1 < w) : uP w Z level (eD w j i) = (nR i + crE Z level (eD w j i), nR j + crE Z level (eD w j i)) := by
 obtain ⟨a, b⟩ := F8 (Z := Z) (level := level) (j := j) (j' := j + 1) (show i < w by omega) hi
 unfold uP eD
 rw [a, b, d1, d1, Rat.mul_one]
theorem EB {l j : Int} {e : K2} (h : gt Z e.e0 ≠ gt Z e.e1) (he : crE Z l e = crE Z j e) : l = j := by
 have a := sL (level := l) h; have b := sL (level := j) h
 rw [he, b] at a
 have := Rat.intCast_inj.1 a
 omega
structure Sg (w : Nat) (Z : List Int) (level : Int) (up : Bool) (j i : Nat) (q : K2 × K2) : Prop where
 hi : i + 1 < w
 a : if up = true then q.1 = eV w j i \/ q.1 = eD w j i \/ q.1 = eH w (j + 1) i else q.1 = eH w j i \/ q.1 = eD w j i \/ q.1 = eV w j (i + 1)
 b : if up = true then q.2 = eV w j i \/ q.2 = eD w j i \/ q.2 = eH w (j + 1) i else q.2 = eH w j i \/ q.2 = eD w j i \/ q.2 = eV w j (i + 1)
 n : q.1 ≠ q.2
 ra : 0 < crE Z level q.1 /\ crE Z level q.1 < 1
 rb : 0 < crE Z level q.2 /\ crE Z level q.2 < 1
 za : gt Z q.1.e0 ≠ gt Z q.1.e1
 zb : gt Z q.2.e0 ≠ gt Z q.2.e1
 t : seg Z level (if up = true then upT (cel w j i) w else loT (cel w j i) w) = some q
theorem GB {a b : Nat} {r s : Rat} (h : nR a + r = nR b + s) (j : 0 < r /\ r < 1) (hs : 0 < s /\ s < 1) : a = b /\ r = s := by
 unfold nR at h
 by_cases h1 : a < b
 · have := icl (show (a : Int) + 1 <= (b : Int) by omega); rw [ics] at this; grind
 · by_cases h2 : b < a
   · have := icl (show (b : Int) + 1 <= (a : Int) by omega); rw [ics] at this; grind
   · have e : a = b := by omega
     subst e; exact ⟨rfl, by grind⟩
theorem D5 {a b : Nat} (h : a <= b) : nR a <= nR b := icl (by omega)
theorem Bx {a b : Nat} (h : nR a = nR b) : a = b := by have := Rat.intCast_inj.1 h; omega
theorem Fx {level : Int} {up : Bool} {j i c : Nat} {q : K2 × K2} (h : Sg w Z level up j i q) (hc : i + 1 <= c) : ∀ e, (e = q.1 \/ e = q.2) -> 0 <= nR c - (uP w Z level e).1 /\ (nR c - (uP w Z level e).1 = 0 -> e = eV w j c) := by
 have hi := h.hi
 have hm := D5 hc
 rw [uR] at hm
 have key : ∀ e, (if up = true then e = eV w j i \/ e = eD w j i \/ e = eH w (j + 1) i else e = eH w j i \/ e = eD w j i \/ e = eV w j (i + 1)) -> (0 < crE Z level e /\ crE Z level e < 1) -> 0 <= nR c - (uP w Z level e).1 /\ (nR c - (uP w Z level e).1 = 0 -> e = eV w j c) := by
  intro e he C
  have m : ∀ {z : K2} {x : Rat}, (uP w Z level e).1 = x -> x < nR i + 1 -> 0 <= nR c - (uP w Z level e).1 /\ (nR c - (uP w Z level e).1 = 0 -> e = z) := fun hx h1 => by rw [hx]; exact ⟨by grind, fun k => by grind⟩
  cases up with
  | true =>
   rw [if_pos rfl] at he
   rcases he with rfl | rfl | rfl
   · exact m (by rw [sP (by omega)]) (by grind)
   · exact m (by rw [ti hi]) (by grind)
   · exact m (by rw [sQ hi]) (by grind)
  | false =>
   rw [if_neg (by simp)] at he
   rcases he with rfl | rfl | rfl
   · exact m (by rw [sQ hi]) (by grind)
   · exact m (by rw [ti hi]) (by grind)
   · rw [sP hi]
     show 0 <= nR c - nR (i + 1) /\ (nR c - nR (i + 1) = 0 -> _)
     rw [uR]
     refine ⟨by grind, fun k => ?_⟩
     have : c = i + 1 := Bx (by rw [uR]; grind)
     rw [this]
 rintro e (rfl | rfl)
 · exact key _ h.a h.ra
 · exact key _ h.b h.rb
theorem D6 {level : Int} {up : Bool} {j i : Nat} {q : K2 × K2} (h : Sg w Z level up j i q) : ∀ e, (e = q.1 \/ e = q.2) -> nR i - (uP w Z level e).1 <= 0 /\ (nR i - (uP w Z level e).1 = 0 -> e = eV w j i) := by
 have hi := h.hi
 have key : ∀ e, (if up = true then e = eV w j i \/ e = eD w j i \/ e = eH w (j + 1) i else e = eH w j i \/ e = eD w j i \/ e = eV w j (i + 1)) -> (0 < crE Z level e /\ crE Z level e < 1) -> nR i - (uP w Z level e).1 <= 0 /\ (nR i - (uP w Z level e).1 = 0 -> e = eV w j i) := by
  intro e he C
  have m : ∀ {z : K2} {x : Rat}, (uP w Z level e).1 = x -> nR i < x -> nR i - (uP w Z level e).1 <= 0 /\ (nR i - (uP w Z level e).1 = 0 -> e = z) := fun hx h1 => by rw [hx]; exact ⟨by grind, fun k => by grind⟩
  cases up with
  | true =>
   rw [if_pos rfl] at he
   rcases he with rfl | rfl | rfl
   · refine ⟨?_, fun _ => rfl⟩
     rw [sP (by omega)]; show nR i - nR i <= 0; grind
   · exact m (by rw [ti hi]) (by grind)
   · exact m (by rw [sQ hi]) (by grind)
  | false =>
   rw [if_neg (by simp)] at he
   rcases he with rfl | rfl | rfl
   · exact m (by rw [sQ hi]) (by grind)
   · exact m (by rw [ti hi]) (by grind)
   · exact m (by rw [sP hi]) (by rw [uR]; grind)
 rintro e (rfl | rfl)
 · exact key _ h.a h.ra
 · exact key _ h.b h.rb
theorem D0 {level : Int} {up : Bool} {j i c : Nat} {q : K2 × K2} (h : Sg w Z level up j i q) (hc : j + 1 <= c) : ∀ e, (e = q.1 \/ e = q.2) -> 0 <= nR c - (uP w Z level e).2 /\ (nR c - (uP w Z level e).2 = 0 -> e = eH w c i) := by
 have hi := h.hi
 have hm := D5 hc
 rw [uR] at hm
 have key : ∀ e, (if up = true then e = eV w j i \/ e = eD w j i \/ e = eH w (j + 1) i else e = eH w j i \/ e = eD w j i \/ e = eV w j (i + 1)) -> (0 < crE Z level e /\ crE Z level e < 1) -> 0 <= nR c - (uP w Z level e).2 /\ (nR c - (uP w Z level e).2 = 0 -> e = eH w c i) := by
  intro e he C
  have m : ∀ {z : K2} {x : Rat}, (uP w Z level e).2 = x -> x < nR j + 1 -> 0 <= nR c - (uP w Z level e).2 /\ (nR c - (uP w Z level e).2 = 0 -> e = z) := fun hx h1 => by rw [hx]; exact ⟨by grind, fun k => by grind⟩
  cases up with
  | true =>
   rw [if_pos rfl] at he
   rcases he with rfl | rfl | rfl
   · exact m (by rw [sP (by omega)]) (by grind)
   · exact m (by rw [ti hi]) (by grind)
   · rw [sQ hi]
     show 0 <= nR c - nR (j + 1) /\ (nR c - nR (j + 1) = 0 -> _)
     rw [uR]
     refine ⟨by grind, fun k => ?_⟩
     have : c = j + 1 := Bx (by rw [uR]; grind)
     rw [this]
  | false =>
   rw [if_neg (by simp)] at he
   rcases he with rfl | rfl | rfl
   · exact m (by rw [sQ hi]) (by grind)
   · exact m (by rw [ti hi]) (by grind)
   · exact m (by rw [sP hi]) (by grind)
 rintro e (rfl | rfl)
 · exact key _ h.a h.ra
 · exact key _ h.b h.rb
theorem Dx {level : Int} {up : Bool} {j i : Nat} {q : K2 × K2} (h : Sg w Z level up j i q) : ∀ e, (e = q.1 \/ e = q.2) -> nR j - (uP w Z level e).2 <= 0 /\ (nR j - (uP w Z level e).2 = 0 -> e = eH w j i) := by
 have hi := h.hi
 have key : ∀ e, (if up = true then e = eV w j i \/ e = eD w j i \/ e = eH w (j + 1) i else e = eH w j i \/ e = eD w j i \/ e = eV w j (i + 1)) -> (0 < crE Z level e /\ crE Z level e < 1) -> nR j - (uP w Z level e).2 <= 0 /\ (nR j - (uP w Z level e).2 = 0 -> e = eH w j i) := by
  intro e he C
  have m : ∀ {z : K2} {x : Rat}, (uP w Z level e).2 = x -> nR j < x -> nR j - (uP w Z level e).2 <= 0 /\ (nR j - (uP w Z level e).2 = 0 -> e = z) := fun hx h1 => by rw [hx]; exact ⟨by grind, fun k => by grind⟩
  cases up with
  | true =>
   rw [if_pos rfl] at he
   rcases he with rfl | rfl | rfl
   · exact m (by rw [sP (by omega)]) (by grind)
   · exact m (by rw [ti hi]) (by grind)
   · exact m (by rw [sQ hi]) (by rw [uR]; grind)
  | false =>
   rw [if_neg (by simp)] at he
   rcases he with rfl | rfl | rfl
   · refine ⟨?_, fun _ => rfl⟩
     rw [sQ hi]; show nR j - nR j <= 0; grind
   · exact m (by rw [ti hi]) (by grind)
   · exact m (by rw [sP hi]) (by grind)
 rintro e (rfl | rfl)
 · exact key _ h.a h.ra
 · exact key _ h.b h.rb
theorem Ff {level : Int} {j i : Nat} {q : K2 × K2} (h : Sg w Z level false j i q) : ∀ e, (e = q.1 \/ e = q.2) -> 0 <= (uP w Z level e).1 - nR i - ((uP w Z level e).2 - nR j) /\ ((uP w Z level e).1 - nR i - ((uP w Z level e).2 - nR j) = 0 -> e = eD w j i) := by
 have hi := h.hi
 have key : ∀ e, (e = eH w j i \/ e = eD w j i \/ e = eV w j (i + 1)) -> (0 < crE Z level e /\ crE Z level e < 1) -> 0 <= (uP w Z level e).1 - nR i - ((uP w Z level e).2 - nR j) /\ ((uP w Z level e).1 - nR i - ((uP w Z level e).2 - nR j) = 0 -> e = eD w j i) := by
  intro e he m
  rcases he with rfl | rfl | rfl
  · rw [sQ hi]; dsimp only; exact ⟨by grind, fun k => by grind⟩
  · rw [ti hi]; dsimp only; exact ⟨by grind, fun k => rfl⟩
  · rw [sP hi]; dsimp only; rw [uR]; exact ⟨by grind, fun k => by grind⟩
 have a := h.a; have b := h.b
 rw [if_neg (by simp)] at a b
 rintro e (rfl | rfl)
 · exact key _ a h.ra
 · exact key _ b h.rb
theorem Ex {level : Int} {j i : Nat} {q : K2 × K2} (h : Sg w Z level true j i q) : ∀ e, (e = q.1 \/ e = q.2) -> (uP w Z level e).1 - nR i - ((uP w Z level e).2 - nR j) <= 0 /\ ((uP w Z level e).1 - nR i - ((uP w Z level e).2 - nR j) = 0 -> e = eD w j i) := by
 have hi := h.hi
 have key : ∀ e, (e = eV w j i \/ e = eD w j i \/ e = eH w (j + 1) i) -> (0 < crE Z level e /\ crE Z level e < 1) -> (uP w Z level e).1 - nR i - ((uP w Z level e).2 - nR j) <= 0 /\ ((uP w Z level e).1 - nR i - ((uP w Z level e).2 - nR j) = 0 -> e = eD w j i) := by
  intro e he m
  rcases he with rfl | rfl | rfl
  · rw [sP (by omega)]; dsimp only; exact ⟨by grind, fun k => by grind⟩
  · rw [ti hi]; dsimp only; exact ⟨by grind, fun k => rfl⟩
  · rw [sQ hi]; dsimp only; rw [uR]; exact ⟨by grind, fun k => by grind⟩
 have a := h.a; have b := h.b
 rw [if_pos rfl] at a b
 rintro e (rfl | rfl)
 · exact key _ a h.ra
 · exact key _ b h.rb
theorem C6 {level : Int} {j i : Nat} {q : K2 × K2} (h : Sg w Z level false j i q) : ∀ e, (e = q.1 \/ e = q.2) -> ((2 * gt Z (cel w j i) : Int) : Rat) + ((2 * (gt Z (cel w j (i + 1)) - gt Z (cel w j i)) : Int) : Rat) * ((uP w Z level e).1 - nR i) + ((2 * (gt Z (cel w (j + 1) (i + 1)) - gt Z (cel w j (i + 1))) : Int) : Rat) * ((uP w Z level e).2 - nR j) = (level : Rat) := by
 have hi := h.hi
 have key : ∀ e, (e = eH w j i \/ e = eD w j i \/ e = eV w j (i + 1)) -> gt Z e.e0 ≠ gt Z e.e1 -> ((2 * gt Z (cel w j i) : Int) : Rat) + ((2 * (gt Z (cel w j (i + 1)) - gt Z (cel w j i)) : Int) : Rat) * ((uP w Z level e).1 - nR i) + ((2 * (gt Z (cel w (j + 1) (i + 1)) - gt Z (cel w j (i + 1))) : Int) : Rat) * ((uP w Z level e).2 - nR j) = (level : Rat) := by
  intro e he m
  have hm := sL (level := level) m
  rcases he with rfl | rfl | rfl
  · rw [sQ hi]; dsimp only
    generalize crE Z level (eH w j i) = r at *
    unfold eH at hm; dsimp only at hm
    generalize gt Z (cel w j i) = z0 at *
    generalize gt Z (cel w j (i + 1)) = z1 at *
    simp only [Rat.intCast_mul, Rat.intCast_sub] at *
    grind
  · rw [ti hi]; dsimp only
    generalize crE Z level (eD w j i) = r at *
    unfold eD at hm; dsimp only at hm
    generalize gt Z (cel w j i) = z0 at *
    generalize gt Z (cel w j (i + 1)) = z1 at *
    generalize gt Z (cel w (j + 1) (i + 1)) = z at *
    simp only [Rat.intCast_mul, Rat.intCast_sub] at *
    grind
  · rw [sP hi]; dsimp only; rw [uR]
    generalize crE Z level (eV w j (i + 1)) = r at *
    unfold eV at hm; dsimp only at hm
    generalize gt Z (cel w j i) = z0 at *
    generalize gt Z (cel w j (i + 1)) = z1 at *
    generalize gt Z (cel w (j + 1) (i + 1)) = z at *
    simp only [Rat.intCast_mul, Rat.intCast_sub] at *
    grind
 have a := h.a; have b := h.b
 rw [if_neg (by simp)] at a b
 rintro e (rfl | rfl)
 · exact key _ a h.za
 · exact key _ b h.zb
theorem Db {level : Int} {j i : Nat} {q : K2 × K2} (h : Sg w Z level true j i q) : ∀ e, (e = q.1 \/ e = q.2) -> ((2 * gt Z (cel w j i) : Int) : Rat) + ((2 * (gt Z (cel w (j + 1) (i + 1)) - gt Z (cel w (j + 1) i)) : Int) : Rat) * ((uP w Z level e).1 - nR i) + ((2 * (gt Z (cel w (j + 1) i) - gt Z (cel w j i)) : Int) : Rat) * ((uP w Z level e).2 - nR j) = (level : Rat) := by
 have hi := h.hi
 have key : ∀ e, (e = eV w j i \/ e = eD w j i \/ e = eH w (j + 1) i) -> gt Z e.e0 ≠ gt Z e.e1 -> ((2 * gt Z (cel w j i) : Int) : Rat) + ((2 * (gt Z (cel w (j + 1) (i + 1)) - gt Z (cel w (j + 1) i)) : Int) : Rat) * ((uP w Z level e).1 - nR i) + ((2 * (gt Z (cel w (j + 1) i) - gt Z (cel w j i)) : Int) : Rat) * ((uP w Z level e).2 - nR j) = (level : Rat) := by
  intro e he m
  have hm := sL (level := level) m
  rcases he with rfl | rfl | rfl
  · rw [sP (by omega)]; dsimp only
    generalize crE Z level (eV w j i) = r at *
    unfold eV at hm; dsimp only at hm
    generalize gt Z (cel w j i) = z0 at *
    generalize gt Z (cel w (j + 1) i) = z1 at *
    simp only [Rat.intCast_mul, Rat.intCast_sub] at *
    grind
  · rw [ti hi]; dsimp only
    generalize crE Z level (eD w j i) = r at *
    unfold eD at hm; dsimp only at hm
    generalize gt Z (cel w j i) = z0 at *
    generalize gt Z (cel w (j + 1) i) = z1 at *
    generalize gt Z (cel w (j + 1) (i + 1)) = z at *
    simp only [Rat.intCast_mul, Rat.intCast_sub] at *
    grind
  · rw [sQ hi]; dsimp only; rw [uR]
    generalize crE Z level (eH w (j + 1) i) = r at *
    unfold eH at hm; dsimp only at hm
    generalize gt Z (cel w j i) = z0 at *
    generalize gt Z (cel w (j + 1) i) = z1 at *
    generalize gt Z (cel w (j + 1) (i + 1)) = z at *
    simp only [Rat.intCast_mul, Rat.intCast_sub] at *
    grind
 have a := h.a; have b := h.b
 rw [if_pos rfl] at a b
 rintro e (rfl | rfl)
 · exact key _ a h.za
 · exact key _ b h.zb
end
end Go.L


set_option linter.all false
namespace Go.L
open Go Go.Eng
section
variable {w : Nat} {Z : List Int}
def Dis (l1 l2 : Int) (j m : K2 × K2) : Prop := l1 = l2 -> j ≠ m /\ ∀ e, (e = j.1 \/ e = j.2) -> ¬ (e = m.1 \/ e = m.2)
theorem Dis.symm {l1 l2 : Int} {j m : K2 × K2} (h : Dis l1 l2 j m) : Dis l2 l1 m j := fun e => ⟨fun k => (h e.symm).1 k.symm, fun x hx q => (h e.symm).2 x q hx⟩
theorem xR {l1 l2 : Int} {j m : K2 × K2} {α β γ : Rat} {E1 E2 : K2} (D : j.1 ≠ j.2) (n2 : m.1 ≠ m.2) (h1 : ∀ e, (e = j.1 \/ e = j.2) -> 0 <= fL α β γ (uP w Z l1 e) /\ (fL α β γ (uP w Z l1 e) = 0 -> e = E1)) (h2 : ∀ e, (e = m.1 \/ e = m.2) -> fL α β γ (uP w Z l2 e) <= 0 /\ (fL α β γ (uP w Z l2 e) = 0 -> e = E2))
  (E : (E1 = j.1 \/ E1 = j.2) -> (E2 = m.1 \/ E2 = m.2) -> uP w Z l1 E1 = uP w Z l2 E2 -> False) : NM (uP w Z l1 j.1) (uP w Z l1 j.2) (uP w Z l2 m.1) (uP w Z l2 m.2) := by
 obtain ⟨I, J⟩ := h1 j.1 (.inl rfl)
 obtain ⟨M, b2⟩ := h1 j.2 (.inr rfl)
 obtain ⟨N, O⟩ := h2 m.1 (.inl rfl)
 obtain ⟨d1, d2⟩ := h2 m.2 (.inr rfl)
 refine Gx I M ?_ N d1 ?_ ?_
 · by_cases h : fL α β γ (uP w Z l1 j.1) = 0
   · by_cases k : fL α β γ (uP w Z l1 j.2) = 0
     · exact absurd ((J h).trans (b2 k).symm) D
     · exact .inr (by grind)
   · exact .inl (by grind)
 · by_cases h : fL α β γ (uP w Z l2 m.1) = 0
   · by_cases k : fL α β γ (uP w Z l2 m.2) = 0
     · exact absurd ((O h).trans (d2 k).symm) n2
     · exact .inr (by grind)
   · exact .inl (by grind)
 · intro p q hp T f1 f2 C
   have g1 : ∃ e, (e = j.1 \/ e = j.2) /\ p = uP w Z l1 e := by rcases hp with h | h <;> exact ⟨_, by first | exact .inl rfl | exact .inr rfl, h⟩
   have U : ∃ e, (e = m.1 \/ e = m.2) /\ q = uP w Z l2 e := by rcases T with h | h <;> exact ⟨_, by first | exact .inl rfl | exact .inr rfl, h⟩
   obtain ⟨e, he, rfl⟩ := g1
   obtain ⟨Y, z, rfl⟩ := U
   have x1 := (h1 e he).2 f1
   have x2 := (h2 Y z).2 f2
   subst x1; subst x2
   exact E he z C
theorem Sg.in1 {level : Int} {up : Bool} {j i : Nat} {q : K2 × K2} (h : Sg w Z level up j i q) {e : K2} (he : e = q.1 \/ e = q.2) : (0 < crE Z level e /\ crE Z level e < 1) /\ gt Z e.e0 ≠ gt Z e.e1 := by
 rcases he with rfl | rfl
 · exact ⟨h.ra, h.za⟩
 · exact ⟨h.rb, h.zb⟩
theorem vW {l1 l2 : Int} {u1 u2 : Bool} {q i1 z i2 : Nat} {j m : K2 × K2} (h1 : Sg w Z l1 u1 q i1 j) (h2 : Sg w Z l2 u2 z i2 m) (hx : Dis l1 l2 j m) {e : K2} (e1 : e = j.1 \/ e = j.2) (e2 : e = m.1 \/ e = m.2) (C : crE Z l1 e = crE Z l2 e) : False := by
 have := EB (h1.in1 e1).2 C
 exact (hx this).2 e e1 e2
theorem fLx {c : Rat} {p : R2} : fL (-1) 0 c p = c - p.1 := by unfold fL; grind
theorem fLy {c : Rat} {p : R2} : fL 0 (-1) c p = c - p.2 := by unfold fL; grind
theorem fLd {a b : Rat} {p : R2} : fL 1 (-1) (b - a) p = p.1 - a - (p.2 - b) := by unfold fL; grind
theorem Bl {l1 l2 : Int} {u1 u2 : Bool} {q i1 z i2 : Nat} {j m : K2 × K2} (h1 : Sg w Z l1 u1 q i1 j) (h2 : Sg w Z l2 u2 z i2 m) (hx : Dis l1 l2 j m) (hi : i1 < i2) : NM (uP w Z l1 j.1) (uP w Z l1 j.2) (uP w Z l2 m.1) (uP w Z l2 m.2) := by
 have hw := h2.hi
 refine xR (α := -1) (β := 0) (γ := nR i2) (E1 := eV w q i2) (E2 := eV w z i2) h1.n h2.n (fun e he => by rw [fLx]; exact Fx h1 hi e he) (fun e he => by rw [fLx]; exact D6 h2 e he) fun C D hp => ?_
 rw [sP (by omega), sP (by omega)] at hp
 obtain ⟨-, E⟩ := Prod.mk.inj hp
 obtain ⟨e, I⟩ := GB E (h1.in1 C).1 (h2.in1 D).1
 subst e
 exact vW h1 h2 hx C D I
theorem BC {l1 l2 : Int} {u1 u2 : Bool} {z i j : Nat} {m q : K2 × K2} (h1 : Sg w Z l1 u1 z i m) (h2 : Sg w Z l2 u2 j i q) (hx : Dis l1 l2 m q) (C : z < j) : NM (uP w Z l1 m.1) (uP w Z l1 m.2) (uP w Z l2 q.1) (uP w Z l2 q.2) := by
 have hw := h2.hi
 refine xR (α := 0) (β := -1) (γ := nR j) (E1 := eH w j i) (E2 := eH w j i) h1.n h2.n (fun e he => by rw [fLy]; exact D0 h1 C e he) (fun e he => by rw [fLy]; exact Dx h2 e he) fun D E hp => ?_
 rw [sQ hw, sQ hw] at hp
 obtain ⟨I, -⟩ := Prod.mk.inj hp
 exact vW h1 h2 hx D E (by grind)
theorem Bo {l1 l2 : Int} {j i : Nat} {m q : K2 × K2} (h1 : Sg w Z l1 false j i m) (h2 : Sg w Z l2 true j i q) (hx : Dis l1 l2 m q) : NM (uP w Z l1 m.1) (uP w Z l1 m.2) (uP w Z l2 q.1) (uP w Z l2 q.2) := by
 have hw := h2.hi
 refine xR (α := 1) (β := -1) (γ := nR j - nR i) (E1 := eD w j i) (E2 := eD w j i) h1.n h2.n (fun e he => by rw [fLd]; exact Ff h1 e he) (fun e he => by rw [fLd]; exact Ex h2 e he) fun z C hp => ?_
 rw [ti hw, ti hw] at hp
 obtain ⟨D, -⟩ := Prod.mk.inj hp
 exact vW h1 h2 hx z C (by grind)
theorem BP {l1 l2 : Int} {up : Bool} {j i : Nat} {m q : K2 × K2} (h1 : Sg w Z l1 up j i m) (h2 : Sg w Z l2 up j i q) (J : l2 < l1) : NM (uP w Z l1 m.1) (uP w Z l1 m.2) (uP w Z l2 q.1) (uP w Z l2 q.2) := by
 have M : (l2 : Rat) < (l1 : Rat) := Rat.intCast_lt_intCast.2 J
 have key : ∃ a b c : Rat, (∀ e, (e = m.1 \/ e = m.2) -> a + b * ((uP w Z l1 e).1 - nR i) + c * ((uP w Z l1 e).2 - nR j) = (l1 : Rat)) /\ ∀ e, (e = q.1 \/ e = q.2) -> a + b * ((uP w Z l2 e).1 - nR i) + c * ((uP w Z l2 e).2 - nR j) = (l2 : Rat) := by
  cases up with
  | false => exact ⟨_, _, _, C6 h1, C6 h2⟩
  | true => exact ⟨_, _, _, Db h1, Db h2⟩
 obtain ⟨a, b, c, D, E⟩ := key
 have I : ∀ p : R2, fL b c (a - b * nR i - c * nR j - ((l1 : Rat) + (l2 : Rat)) / 2) p = a + b * (p.1 - nR i) + c * (p.2 - nR j) - ((l1 : Rat) + (l2 : Rat)) / 2 := fun p => by unfold fL; grind
 refine xR (α := b) (β := c) (γ := a - b * nR i - c * nR j - ((l1 : Rat) + (l2 : Rat)) / 2) (E1 := eD w j i) (E2 := eD w j i) h1.n h2.n (fun e he => ?_) (fun e he => ?_) fun z C hp => ?_
 · rw [I, D e he]; exact ⟨by grind, fun h => by grind⟩
 · rw [I, E e he]; exact ⟨by grind, fun h => by grind⟩
 · have N := D _ z; have O := E _ C
   rw [hp, O] at N; grind
theorem Cv {l1 l2 : Int} {u1 u2 : Bool} {q i1 z i2 : Nat} {j m : K2 × K2} (h1 : Sg w Z l1 u1 q i1 j) (h2 : Sg w Z l2 u2 z i2 m) (hx : Dis l1 l2 j m) : NM (uP w Z l1 j.1) (uP w Z l1 j.2) (uP w Z l2 m.1) (uP w Z l2 m.2) := by
 by_cases a : i1 < i2
 · exact Bl h1 h2 hx a
 by_cases b : i2 < i1
 · exact (Bl h2 h1 hx.symm b).symm
 have e : i1 = i2 := by omega
 subst e
 by_cases c : q < z
 · exact BC h1 h2 hx c
 by_cases d : z < q
 · exact (BC h2 h1 hx.symm d).symm
 have e : q = z := by omega
 subst e
 have same : u1 = u2 -> NM (uP w Z l1 j.1) (uP w Z l1 j.2) (uP w Z l2 m.1) (uP w Z l2 m.2) := by
  rintro rfl
  by_cases D : l2 < l1
  · exact BP h1 h2 D
  by_cases C : l1 < l2
  · exact (BP h2 h1 C).symm
  have e : l1 = l2 := by omega
  subst e
  have t1 := h1.t; have t2 := h2.t
  rw [t1] at t2
  exact absurd (Option.some.inj t2) (hx rfl).1
 cases u1 <;> cases u2
 · exact same rfl
 · exact Bo h1 h2 hx
 · exact (Bo h2 h1 hx.symm).symm
 · exact same rfl
theorem Em {level : Int} {j i : Nat} {q : K2 × K2} (hw : 0 < w) (h : seg Z level (loT (cel w j i) w) = some q) : (q.1 = eH w j i \/ q.1 = eD w j i \/ q.1 = eV w j (i + 1)) /\ (q.2 = eH w j i \/ q.2 = eD w j i \/ q.2 = eV w j (i + 1)) /\ q.1 ≠ q.2 := by
 obtain ⟨l1, -, m⟩ := yr (w := w) (j := j) (i := i)
 have l2 : cel w j (i + 1) < cel w (j + 1) (i + 1) := (yr (w := w) (j := j) (i := i + 1)).2.1 hw
 have z := xN l1; have D := xN l2; have E := xN m
 rw [Fg, Hv] at h
 unfold eH eD eV
 dsimp only at h
 generalize cel w j i = A at *
 generalize cel w j (i + 1) = B at *
 generalize cel w (j + 1) (i + 1) = C at *
 cases I : abv Z level A <;> cases J : abv Z level B <;> cases M : abv Z level C <;> simp only [stp, CS, I, J, M, z, D, E, Bool.not_false, Bool.not_true, Bool.and_true, Bool.and_false, Bool.true_and, Bool.false_and, if_true, if_false, Bool.false_eq_true, Option.some.injEq, reduceCtorEq] at h <;> subst h <;> refine ⟨by simp, by simp, fun e => ?_⟩ <;> have e0 := congrArg A2.e0 e <;> have e1 := congrArg A2.e1 e <;> dsimp only at e0 e1 <;> omega
theorem Dy {level : Int} {j i : Nat} {q : K2 × K2} (hw : 0 < w) (h : seg Z level (upT (cel w j i) w) = some q) : (q.1 = eV w j i \/ q.1 = eD w j i \/ q.1 = eH w (j + 1) i) /\ (q.2 = eV w j i \/ q.2 = eD w j i \/ q.2 = eH w (j + 1) i) /\ q.1 ≠ q.2 := by
 obtain ⟨-, m, z⟩ := yr (w := w) (j := j) (i := i)
 have l2 : cel w j i < cel w (j + 1) i := m hw
 have l1 : cel w (j + 1) i < cel w (j + 1) (i + 1) := (yr (w := w) (j := j + 1) (i := i)).1
 have D := xN l1; have E := xN l2; have I := xN z
 rw [EH, Hv] at h
 unfold eH eD eV
 dsimp only at h
 generalize cel w j i = A at *
 generalize cel w (j + 1) i = B at *
 generalize cel w (j + 1) (i + 1) = C at *
 cases J : abv Z level A <;> cases M : abv Z level B <;> cases N : abv Z level C <;> simp only [stp, CS, J, M, N, D, E, I, Bool.not_false, Bool.not_true, Bool.and_true, Bool.and_false, Bool.true_and, Bool.false_and, if_true, if_false, Bool.false_eq_true, Option.some.injEq, reduceCtorEq] at h <;> subst h <;> refine ⟨by simp, by simp, fun e => ?_⟩ <;> have e0 := congrArg A2.e0 e <;> have e1 := congrArg A2.e1 e <;> dsimp only at e0 e1 <;> omega
theorem FT {g : al} {h : Nat} {level : Int} (z : Gd g w h) (hb : g.Z.any p4 = false) (C : level.tmod 2 ≠ 0) {q : K2 × K2} (I : q ∈ mq g w h level) : ∃ up j i, Sg w g.Z level up j i q := by
 have hw := z.w1
 obtain ⟨D, E⟩ := (yw z hb).k q I
 unfold mq at I
 obtain ⟨t, m, e⟩ := List.mem_filterMap.1 I
 unfold lD at m
 have m := (List.mem_filter.1 m).1
 rw [z.W] at m
 obtain ⟨j, i, J, hi, m⟩ := (CR z.w1 z.h1).1 m
 rcases m with rfl | rfl
 · obtain ⟨a, b, n⟩ := Em (by omega) e
   exact ⟨false, j, i, by omega, a, b, n, wC C D.ab, wC C E.ab, D.cr.ne, E.cr.ne, e⟩
 · obtain ⟨a, b, n⟩ := Dy (by omega) e
   exact ⟨true, j, i, by omega, a, b, n, wC C D.ab, wC C E.ab, D.cr.ne, E.cr.ne, e⟩
end
end Go.L

