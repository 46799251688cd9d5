import Derived.Test.YtecdcgfclgmbpaaGreatMonL51b
import Derived.Test.YtecdcgfclgmbpaaGreatMonL51b
import Derived.Test.YtecdcgfclgmbpaaGreatMonL51b
import Derived.Test.YtecdcgfclgmbpaaGreatMonL02sB
set_option linter.all false
namespace Go.L
open Go Go.Eng
def shQ (a b c : Rat) : Rat := a * a / ((a - b) * (a - c))
def ib (f : Rat -> Rat -> Rat -> Rat) (m a b c : Rat) : Rat :=
 if 0 < a then (if 0 < b then (if 0 < c then m else m - f c a b) else (if 0 < c then m - f b c a else f a b c))
 else if 0 < b then (if 0 < c then m - f a b c else f b c a) else if 0 < c then f c a b else 0
def h2 (A : Int) : Rat := Rat.divInt A 2
theorem kW (A : Int) : h2 A = (A : Rat) / 2 := by unfold h2; rw [Rat.divInt_eq_div]; rfl
theorem cast_pos {A : Int} : (0 : Rat) < (A : Rat) ↔ 0 < A := by rw [<- Rat.intCast_zero, Rat.intCast_lt_intCast]
theorem qR {A : Int} : 0 < h2 A ↔ 0 < A := by
 rw [kW, <- cast_pos]
 constructor <;> intro h <;> grind
theorem uo {A B : Int} (h : A ≠ B) : (A : Rat) - (B : Rat) ≠ 0 := by
 intro e
 have : (A : Rat) = (B : Rat) := by grind
 exact h (Rat.intCast_inj.1 this)
def inH (A : Int) : Prop := A ≠ 0 /\ -4194305 <= A /\ A <= 4194305
theorem zu {A B C : Int} (hA : inH A) (hB : inH B) (hC : inH C) (h : 0 < (A - B) * (A - C)) : (A - B) * (A - C) <= 8388610 * 8388610 /\ A ≠ B /\ A ≠ C := by
 obtain ⟨a1, a2, a3⟩ := hA; obtain ⟨b1, b2, b3⟩ := hB; obtain ⟨c1, c2, c3⟩ := hC
 have n1 : A ≠ B := by rintro rfl; simp at h
 have n2 : A ≠ C := by rintro rfl; simp at h
 refine ⟨?_, n1, n2⟩
 by_cases hp : 0 < A - B
 · have hq : 0 < A - C := by
    apply Classical.byContradiction; intro hc
    have := Int.mul_nonneg (show 0 <= A - B by omega) (show 0 <= -(A - C) by omega)
    rw [Int.mul_neg] at this; omega
   exact Int.mul_le_mul (by omega) (by omega) (by omega) (by omega)
 · have hq : A - C < 0 := by
    apply Classical.byContradiction; intro hc
    have := Int.mul_nonneg (show 0 <= -(A - B) by omega) (show 0 <= A - C by omega)
    rw [Int.neg_mul] at this; omega
   rw [<- Int.neg_mul_neg]
   exact Int.mul_le_mul (by omega) (by omega) (by omega) (by omega)
theorem EG {A B C : Int} (hA : inH A) (hB : inH B) (hC : inH C) (h : 0 < (A - B) * (A - C)) : Bd1 (shQ (h2 A) (h2 B) (h2 C)) /\ Bd1 (1 - shQ (h2 A) (h2 B) (h2 C)) := by
 obtain ⟨d, n1, n2⟩ := zu hA hB hC h
 have hb := uo n1; have hc := uo n2
 have qA := hA.2; have qB := hB.2; have qC := hC.2
 have a2 := jt (a := A) (b := A) (A := 4194305) (B := 4194305) (by omega) (by omega) (by omega) (by omega)
 refine ⟨⟨A * A, (A - B) * (A - C), ?_, h, by omega, by omega, by omega⟩, ⟨(A - B) * (A - C) - A * A, (A - B) * (A - C), ?_, h, by omega, by omega, by omega⟩⟩
 all_goals
  rw [Rat.divInt_eq_div, kW, kW, kW]; unfold shQ; push_cast; grind
theorem DB {A B C : Int} (hA : inH A) (hB : inH B) (hC : inH C) (h : 0 < (A - B) * (A - C)) : Bd1 (gk (h2 A) (h2 B) (h2 C)) /\ Bd1 (cL (h2 A) (h2 B) (h2 C) - gk (h2 A) (h2 B) (h2 C)) := by
 obtain ⟨d, n1, n2⟩ := zu hA hB hC h
 have hb := uo n1; have hc := uo n2
 have qA := hA.2; have qB := hB.2; have qC := hC.2
 have a2 := jt (a := A) (b := A) (A := 4194305) (B := 4194305) (by omega) (by omega) (by omega) (by omega)
 have a3 := jt (a := A) (b := A * A) (A := 4194305) (B := 17592194433025) (by omega) (by omega) (by omega) (by omega)
 have s1 := jt (a := A + (B + C)) (b := (A - B) * (A - C)) (A := 12582915) (B := 70368777732100) (by omega) (by omega) (by omega) (by omega)
 refine ⟨⟨A * (A * A), 6 * ((A - B) * (A - C)), ?_, by omega, by omega, by omega, by omega⟩, ⟨(A + (B + C)) * ((A - B) * (A - C)) - A * (A * A), 6 * ((A - B) * (A - C)), ?_, by omega, by omega, by omega, by omega⟩⟩
 all_goals
  rw [Rat.divInt_eq_div, kW, kW, kW]; unfold gk; try unfold cL
  push_cast; grind
theorem mF (a b c : Rat) : cL b c a = cL a b c := by unfold cL; grind
theorem CP {A B C : Int} (hA : inH A) (hB : inH B) (hC : inH C) : Bd1 (cL (h2 A) (h2 B) (h2 C)) := by
 have := hA.2; have := hB.2; have := hC.2
 refine ⟨A + (B + C), 6, ?_, by omega, by omega, by omega, by omega⟩
 rw [Rat.divInt_eq_div, kW, kW, kW]; unfold cL; push_cast; grind
structure Ptr (f m : Rat -> Rat -> Rat -> Rat) : Prop where
 one : ∀ {A B C : Int}, inH A -> inH B -> inH C -> 0 < (A - B) * (A - C) -> Bd1 (f (h2 A) (h2 B) (h2 C)) /\ Bd1 (m (h2 A) (h2 B) (h2 C) - f (h2 A) (h2 B) (h2 C))
 all : ∀ {A B C : Int}, inH A -> inH B -> inH C -> Bd1 (m (h2 A) (h2 B) (h2 C))
 rot : ∀ a b c, m b c a = m a b c
theorem D0 : Ptr shQ (fun _ _ _ => 1) := ⟨EG, fun _ _ _ => ⟨1, 1, by rw [jX]; rfl, by omega, by omega, by omega, by omega⟩, fun _ _ _ => rfl⟩
theorem Df : Ptr gk cL := ⟨DB, CP, mF⟩
theorem jh {A B C : Int} (hA : inH A) (hB : inH B) (hC : inH C) (h1 : 0 < A ↔ ¬ 0 < B) (h2 : 0 < A ↔ ¬ 0 < C) : 0 < (A - B) * (A - C) := by
 have := hA.1; have := hB.1; have := hC.1
 by_cases h : 0 < A
 · exact Int.mul_pos (by omega) (by omega)
 · rw [<- Int.neg_mul_neg]; exact Int.mul_pos (by omega) (by omega)
def ptQ (f m : Rat -> Rat -> Rat -> Rat) (A B C : Int) : Rat := ib f (m (h2 A) (h2 B) (h2 C)) (h2 A) (h2 B) (h2 C)
theorem Ep {f m : Rat -> Rat -> Rat -> Rat} (p : Ptr f m) {A B C : Int} (hA : inH A) (hB : inH B) (hC : inH C) : Bd1 (ptQ f m A B C) := by
 unfold ptQ ib
 rw [show m (h2 A) (h2 B) (h2 C) = m (h2 A) (h2 B) (h2 C) from rfl]
 by_cases a : 0 < A <;> by_cases b : 0 < B <;> by_cases c : 0 < C <;> simp only [qR, a, b, c, if_true, if_false]
 · exact p.all hA hB hC
 · have := (p.one hC hA hB (jh hC hA hB (by simp [a, c]) (by simp [b, c]))).2
   rw [p.rot, p.rot] at this; rw [<- p.rot, <- p.rot, p.rot, p.rot]; exact this
 · have := (p.one hB hC hA (jh hB hC hA (by simp [b, c]) (by simp [a, b]))).2
   rw [p.rot] at this; exact this
 · exact (p.one hA hB hC (jh hA hB hC (by simp [a, b]) (by simp [a, c]))).1
 · exact (p.one hA hB hC (jh hA hB hC (by simp [a, b]) (by simp [a, c]))).2
 · exact (p.one hB hC hA (jh hB hC hA (by simp [b, c]) (by simp [a, b]))).1
 · exact (p.one hC hA hB (jh hC hA hB (by simp [a, c]) (by simp [b, c]))).1
 · exact BO
end Go.L


set_option linter.all false
namespace Go.L
open Go Go.Eng
abbrev T4 := Bool × List Int × Bool × List Int
abbrev T12 := Bool × List Int × Bool × List Int × Bool × List Int × Bool × List Int × Bool × List Int × Bool × List Int
def rs (s : T4) : ai := ai.mk (ah.mk s.1 s.2.1) (ah.mk s.2.2.1 s.2.2.2)
def qd (w : ai) : T4 := (w.Num.Negative, w.Num.Groups, w.Den.Negative, w.Den.Groups)
def r1 (o : T12) : ai := ai.mk (ah.mk o.1 o.2.1) (ah.mk o.2.2.1 o.2.2.2.1)
def r2 (o : T12) : ai := ai.mk (ah.mk o.2.2.2.2.1 o.2.2.2.2.2.1) (ah.mk o.2.2.2.2.2.2.1 o.2.2.2.2.2.2.2.1)
def r3 (o : T12) : ai := ai.mk (ah.mk o.2.2.2.2.2.2.2.2.1 o.2.2.2.2.2.2.2.2.2.1) (ah.mk o.2.2.2.2.2.2.2.2.2.2.1 o.2.2.2.2.2.2.2.2.2.2.2)
def tp (x y z : ai) : T12 := (x.Num.Negative, x.Num.Groups, x.Den.Negative, x.Den.Groups, y.Num.Negative, y.Num.Groups, y.Den.Negative, y.Den.Groups, z.Num.Negative, z.Num.Groups, z.Den.Negative, z.Den.Groups)
def Bc (n : Nat) (gd : Bool) (e u1 u0 : Int) : Option (Bool × List Int × Bool × List Int × Int) :=
 gdO gd (bdO (dS n e 2) fun v => bdO (a7 n v.1) fun s => cdO (decide (s > 0)) (some (v.1.Num.Negative, v.1.Num.Groups, v.1.Den.Negative, v.1.Den.Groups, u1)) (some (v.1.Num.Negative, v.1.Num.Groups, v.1.Den.Negative, v.1.Den.Groups, u0)))
def BF (n : Nat) (up : Int) : (T12 -> Option T12) -> T12 -> Option T12 := fun again o =>
 bdO (bdO (a7 n (r1 o)) fun a => cdO ((decide (a > 0)) != ((up : Int) == 1)) (some (Sum.inr ())) (bdO (a7 n (r2 o)) fun b => bdO (a7 n (r3 o)) fun c => cdO ((decide (b > 0)) != (decide (c > 0))) (some (Sum.inr ())) (some (Sum.inl ())))) fun (q : Sum Unit Unit) => match q with
  | .inl _ => some o
  | .inr _ => again (tp (r2 o) (r3 o) (r1 o))
def rq (x : Bool × List Int × Bool × List Int × Int) : ai := ai.mk (ah.mk x.1 x.2.1) (ah.mk x.2.2.1 x.2.2.2.1)
def B5 (n : Nat) (tip : ai -> ai -> ai -> Option ai) (rest : ai -> ai -> ai -> ai -> Option ai) (Z : List Int) (level : Int) (t : A3 Int) (S : T4) : Option T4 :=
 bdO (Bc n (inR t.e0 Z.length) (Fj ((Fj (2 * (gt Z t.e0))) - level)) 1 0) fun x =>
 bdO (Bc n (inR t.e1 Z.length) (Fj ((Fj (2 * (gt Z t.e1))) - level)) (Fj (x.2.2.2.2 + 1)) x.2.2.2.2) fun y =>
 bdO (Bc n (inR t.e2 Z.length) (Fj ((Fj (2 * (gt Z t.e2))) - level)) (Fj (y.2.2.2.2 + 1)) y.2.2.2.2) fun z =>
 cdO ((z.2.2.2.2 : Int) == 0) (some S) (cdO ((z.2.2.2.2 : Int) == 3) (bdO (bF n 0) fun u => bdO (rest (rq x) (rq y) (rq z) u) fun v => bdO (b7 n (rs S) v) fun w => some (qd w))
  (bdO (aM n (BF n z.2.2.2.2) (tp (rq x) (rq y) (rq z))) fun o => bdO (tip (r1 o) (r2 o) (r3 o)) fun v => cdO ((z.2.2.2.2 : Int) == 2) (bdO (rest (r1 o) (r2 o) (r3 o) v) fun w => bdO (b7 n (rs S) w) fun q => some (qd q)) (bdO (b7 n (rs S) v) fun q => some (qd q))))
theorem DE (n : Nat) (t : A3 Int) (a b c d e : Int) (Z : List Int) (level : Int) (S : T4) : ia n t a b c d e Z level S.1 S.2.1 S.2.2.1 S.2.2.2 = B5 n (gh n) (eZ n) Z level t S := rfl
theorem DZ (n : Nat) (t : A3 Int) (a b c d e : Int) (Z : List Int) (level : Int) (S : T4) : fU n t a b c d e Z level S.1 S.2.1 S.2.2.1 S.2.2.2 = B5 n (fm n) (eA n) Z level t S := rfl
theorem zt {gd : Bool} {z level : Int} (hg : gd = true) (hz : -1048576 <= z /\ z <= 1048576) (hl : -2097153 <= level /\ level <= 2097153) (u1 u0 : Int) :
  Ok (Bc 20000 gd (Fj ((Fj (2 * z)) - level)) u1 u0) fun o => Qx (rq o) (h2 (2 * z - level)) 1 /\ o.2.2.2.2 = if 0 < 2 * z - level then u1 else u0 := by
 unfold Bc
 rw [wrap64_in (n := 2 * z) (by omega) (by omega), wrap64_in (by omega) (by omega)]
 refine Ok.gd hg (Ok.bd (vY (by omega) (by omega) (by omega) (by omega) (by omega) (by omega)) ?_)
 rintro v ⟨hv, -⟩
 have hv1 : Qx v.1 (h2 (2 * z - level)) 1 := QL.tight hv rfl (by omega) (by show -1000000000 < 2 * z - level; omega) (by show 2 * z - level < 1000000000; omega) (by show (2 : Int) < 1000000000; omega)
 refine Ok.bde (zU (by omega) (by omega) hv1) (Ok.cd (fun h => az.2 ⟨hv1, ?_⟩) (fun h => az.2 ⟨hv1, ?_⟩))
 · have := qR.1 (A9.1 (dcT h)); rw [if_pos this]
 · rw [if_neg]; intro k; exact dcF h (A9.2 (qR.2 k))
theorem jj {m : Nat} {x y z : ai} {a b c : Rat} {up : Int} (hx : Qx x a 1) (hy : Qx y b 1) (hz : Qx z c 1) {Q : T12 -> Prop}
  (h1 : decide (0 < a) = (up == 1) -> decide (0 < b) = decide (0 < c) -> Q (tp x y z)) (h2 : ¬ (decide (0 < a) = (up == 1) /\ decide (0 < b) = decide (0 < c)) -> Ok (aM m (BF 20000 up) (tp y z x)) Q) : Ok (aM (m + 1) (BF 20000 up) (tp x y z)) Q := by
 refine Ct ?_
 have ea : ∀ {u : ai} {r : Rat}, Qx u r 1 -> ∃ s, a7 20000 u = some s /\ decide (s > 0) = decide (0 < r) := fun h => ⟨_, zU (by omega) (by omega) h, by rw [decide_eq_decide]; exact A9⟩
 obtain ⟨s, e1, d1⟩ := ea hx
 obtain ⟨p, e2, d2⟩ := ea hy
 obtain ⟨q, e3, d3⟩ := ea hz
 unfold BF
 refine Ok.bd (R := fun o => (o = Sum.inl () /\ decide (0 < a) = (up == 1) /\ decide (0 < b) = decide (0 < c)) \/ (o = Sum.inr () /\ ¬ (decide (0 < a) = (up == 1) /\ decide (0 < b) = decide (0 < c)))) ?_ ?_
 · refine Ok.bde e1 ?_
   rw [d1]
   refine Ok.cd (fun h => az.2 (.inr ⟨rfl, fun k => ?_⟩)) (fun h => Ok.bde e2 (Ok.bde e3 ?_))
   · rw [k.1] at h; simp at h
   · rw [d2, d3]
     refine Ok.cd (fun h' => az.2 (.inr ⟨rfl, fun k => ?_⟩)) (fun h' => az.2 (.inl ⟨rfl, by simpa using h, by simpa using h'⟩))
     rw [k.2] at h'; simp at h'
 · rintro o (⟨rfl, k1, k2⟩ | ⟨rfl, k⟩)
   · exact az.2 (h1 k1 k2)
   · exact h2 k
def Rot (a b c : Rat) (up : Int) (o : T12) : Prop := ∃ a' b' c', Qx (r1 o) a' 1 /\ Qx (r2 o) b' 1 /\ Qx (r3 o) c' 1 /\ a' - b' ≠ 0 /\ a' - c' ≠ 0 /\ (∀ m : Rat -> Rat -> Rat -> Rat, (∀ a b c, m b c a = m a b c) -> m a' b' c' = m a b c) /\
 (∀ f m, (up = 1 -> ib f m a b c = f a' b' c') /\ (up = 2 -> ib f m a b c = m - f a' b' c'))
def cn (a : Rat) : Int := if 0 < a then 1 else 0
theorem DA {x y z : ai} {a b c : Rat} {up : Int} (hx : Qx x a 1) (hy : Qx y b 1) (hz : Qx z c 1) (hu : up = cn a + cn b + cn c) (h0 : up ≠ 0) (h3 : up ≠ 3) : Ok (aM 20000 (BF 20000 up) (tp x y z)) (Rot a b c up) := by
 have ne : ∀ {p q : Rat}, (0 < p ↔ ¬ 0 < q) -> p - q ≠ 0 := fun h e => by grind
 unfold cn at hu
 by_cases ha : 0 < a <;> by_cases hb : 0 < b <;> by_cases hc : 0 < c <;> simp only [ha, hb, hc, if_true, if_false] at hu <;> subst hu
 · exact absurd rfl h3
 · refine jj (m := 19999) hx hy hz (by simp [ha, hb, hc]) fun _ => jj (m := 19998) hy hz hx (by simp [ha, hb, hc]) fun _ => jj (m := 19997) hz hx hy (fun _ _ => ⟨c, a, b, hz, hx, hy, ne (by simp [ha, hc]), ne (by simp [hb, hc]), fun m hm => by rw [hm, hm], fun f m => ⟨by simp, fun _ => by unfold ib; simp [ha, hb, hc]⟩⟩) (by simp [ha, hb, hc])
 · refine jj (m := 19999) hx hy hz (by simp [ha, hb, hc]) fun _ => jj (m := 19998) hy hz hx (fun _ _ => ⟨b, c, a, hy, hz, hx, ne (by simp [hb, hc]), ne (by simp [ha, hb]), fun m hm => by rw [hm], fun f m => ⟨by simp, fun _ => by unfold ib; simp [ha, hb, hc]⟩⟩) (by simp [ha, hb, hc])
 · refine jj (m := 19999) hx hy hz (fun _ _ => ⟨a, b, c, hx, hy, hz, ne (by simp [ha, hb]), ne (by simp [ha, hc]), fun m hm => rfl, fun f m => ⟨fun _ => by unfold ib; simp [ha, hb, hc], by simp⟩⟩) (by simp [ha, hb, hc])
 · refine jj (m := 19999) hx hy hz (fun _ _ => ⟨a, b, c, hx, hy, hz, ne (by simp [ha, hb]), ne (by simp [ha, hc]), fun m hm => rfl, fun f m => ⟨by simp, fun _ => by unfold ib; simp [ha, hb, hc]⟩⟩) (by simp [ha, hb, hc])
 · refine jj (m := 19999) hx hy hz (by simp [ha, hb, hc]) fun _ => jj (m := 19998) hy hz hx (fun _ _ => ⟨b, c, a, hy, hz, hx, ne (by simp [hb, hc]), ne (by simp [ha, hb]), fun m hm => by rw [hm], fun f m => ⟨fun _ => by unfold ib; simp [ha, hb, hc], by simp⟩⟩) (by simp [ha, hb, hc])
 · refine jj (m := 19999) hx hy hz (by simp [ha, hb, hc]) fun _ => jj (m := 19998) hy hz hx (by simp [ha, hb, hc]) fun _ => jj (m := 19997) hz hx hy (fun _ _ => ⟨c, a, b, hz, hx, hy, ne (by simp [ha, hc]), ne (by simp [hb, hc]), fun m hm => by rw [hm, hm], fun f m => ⟨fun _ => by unfold ib; simp [ha, hb, hc], by simp⟩⟩) (by simp [ha, hb, hc])
 · exact absurd rfl h0
end Go.L

