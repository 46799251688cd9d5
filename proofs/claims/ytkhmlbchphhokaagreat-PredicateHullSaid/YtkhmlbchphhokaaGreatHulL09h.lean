import Derived.Test.YtkhmlbchphhokaaGreatHulL09bt
set_option linter.all false
namespace Go.L
open Go Go.Eng
def lf (A B : Int) (p : api_Pix) : Int := A * p.X + B * p.Y
theorem pos_of_mul {x y z : Int} (h : x * y = z) (hz : 0 < z) (hy : 0 < y) : 0 < x := by
 rcases Int.lt_or_le 0 x with h1 | h1
 · exact h1
 · have := Int.mul_nonpos_of_nonpos_of_nonneg h1 (Int.le_of_lt hy); omega
theorem nonneg_of_mul {x y z : Int} (h : x * y = z) (hz : 0 ≤ z) (hy : 0 < y) : 0 ≤ x := by
 rcases Int.lt_or_le x 0 with h1 | h1
 · have := Int.mul_neg_of_neg_of_pos h1 hy; omega
 · exact h1
theorem lf_chain {A B : Int} {a b c d : api_Pix} (h1 : lf A B a < lf A B b) (h2 : lf A B b < lf A B d) (h3 : lf A B b < lf A B c) (hx : 0 < crossZ a b d) (hy : 0 < crossZ b d c) : 0 < crossZ a b c := by
 have e : crossZ a b c * (lf A B d - lf A B b) = crossZ a b d * (lf A B c - lf A B b) + crossZ b d c * (lf A B b - lf A B a) := by unfold crossZ lf; grind
 have p1 := Int.mul_pos hx (show 0 < lf A B c - lf A B b by omega)
 have p2 := Int.mul_pos hy (show 0 < lf A B b - lf A B a by omega)
 exact pos_of_mul e (by omega) (by omega)
theorem lf_left {A B : Int} {a b c p : api_Pix} (h1 : lf A B a < lf A B b) (h2 : lf A B p < lf A B b) (h3 : lf A B b < lf A B c) (hx : 0 ≤ crossZ a b p) (hy : 0 < crossZ a b c) : 0 < crossZ b c p := by
 have e : crossZ b c p * (lf A B b - lf A B a) = crossZ a b p * (lf A B c - lf A B b) + crossZ a b c * (lf A B b - lf A B p) := by unfold crossZ lf; grind
 have p1 := Int.mul_nonneg hx (show 0 ≤ lf A B c - lf A B b by omega)
 have p2 := Int.mul_pos hy (show 0 < lf A B b - lf A B p by omega)
 exact pos_of_mul e (by omega) (by omega)
theorem lf_pop {A B : Int} {a b c p : api_Pix} (h1 : lf A B a < lf A B b) (h2 : lf A B a < lf A B p) (h3 : lf A B a < lf A B c) (hx : crossZ a b c ≤ 0) (hy : 0 ≤ crossZ a b p) : 0 ≤ crossZ a c p := by
 have e : crossZ a c p * (lf A B b - lf A B a) = -crossZ a b c * (lf A B p - lf A B a) + crossZ a b p * (lf A B c - lf A B a) := by unfold crossZ lf; grind
 have p1 := Int.mul_nonneg (show 0 ≤ -crossZ a b c by omega) (show 0 ≤ lf A B p - lf A B a by omega)
 have p2 := Int.mul_nonneg hy (show 0 ≤ lf A B c - lf A B a by omega)
 exact nonneg_of_mul e (by omega) (by omega)
theorem cross_same (a b : api_Pix) : crossZ a b a = 0 ∧ crossZ a b b = 0 := by unfold crossZ; constructor <;> grind
theorem lf_dot {A B : Int} {a b c : api_Pix} (h : crossZ a b c = 0) (h1 : lf A B a ≠ lf A B c) :
  (0 < (lf A B a - lf A B c) * (lf A B b - lf A B c) → 0 < dotZ c a b) ∧ ((lf A B a - lf A B c) * (lf A B b - lf A B c) < 0 → dotZ c a b < 0) := by
 obtain ⟨U, hU⟩ : ∃ U, U = (a.X - c.X) * (a.X - c.X) + (a.Y - c.Y) * (a.Y - c.Y) := ⟨_, rfl⟩
 have hs : ∀ z : Int, 0 ≤ z * z := fun z => (Int.le_total 0 z).elim (fun h => Int.mul_nonneg h h) (fun h => Int.mul_nonneg_of_nonpos_of_nonpos h h)
 have hp : ∀ z : Int, z ≠ 0 → 0 < z * z := fun z hz => by
  rcases Int.lt_or_gt_of_ne hz with h | h
  · exact Int.mul_pos_of_neg_of_neg h h
  · exact Int.mul_pos h h
 have hU0 : 0 < U := by
  rw [hU]
  by_cases hx : a.X - c.X = 0
  · by_cases hy : a.Y - c.Y = 0
    · refine absurd ?_ h1
      unfold lf
      rw [show a.X = c.X by omega, show a.Y = c.Y by omega]
    · have := hp _ hy; have := hs (a.X - c.X); omega
  · have := hp _ hx; have := hs (a.Y - c.Y); omega
 have e : dotZ c a b * ((lf A B a - lf A B c) * (lf A B a - lf A B c)) = U * ((lf A B a - lf A B c) * (lf A B b - lf A B c)) := by
  have e0 : dotZ c a b * (lf A B a - lf A B c) = U * (lf A B b - lf A B c) + (A * (a.Y - c.Y) - B * (a.X - c.X)) * crossZ a b c := by
   rw [hU]; unfold dotZ lf crossZ; grind
  rw [h] at e0
  have : dotZ c a b * ((lf A B a - lf A B c) * (lf A B a - lf A B c)) = (dotZ c a b * (lf A B a - lf A B c)) * (lf A B a - lf A B c) := by grind
  rw [this, e0]; grind
 have hq := hp (lf A B a - lf A B c) (by omega)
 generalize (lf A B a - lf A B c) * (lf A B b - lf A B c) = t at *
 generalize (lf A B a - lf A B c) * (lf A B a - lf A B c) = s at *
 constructor
 · intro ht; exact pos_of_mul e (Int.mul_pos hU0 ht) hq
 · intro ht
   have := Int.mul_neg_of_pos_of_neg hU0 ht
   rcases Int.lt_or_le (dotZ c a b) 0 with h | h
   · exact h
   · have := Int.mul_nonneg h (Int.le_of_lt hq); omega
section
variable (g : Int → api_Pix) (A B : Int)
def Edg (S : List Int) (a b : Int) : Prop := ∀ p, p ∈ S → p ≠ a → p ≠ b → 0 < crossZ (g a) (g b) (g p) ∨ (crossZ (g a) (g b) (g p) = 0 ∧ lf A B (g a) < lf A B (g p) ∧ lf A B (g p) < lf A B (g b))
def Cha (S : List Int) : List Int → Prop
 | [] => True
 | [_] => True
 | b :: a :: r => lf A B (g a) < lf A B (g b) ∧ Edg g A B S a b ∧ Cha S (a :: r)
def popC (c : Int) : List Int → List Int
 | b :: a :: r => if crossZ (g a) (g b) (g c) ≤ 0 then popC c (a :: r) else b :: a :: r
 | r => r
def sideC : List Int → List Int → List Int
 | R, [] => R
 | R, c :: l => sideC (c :: popC g c R) l
variable {g A B}
theorem Edg.nonneg {S : List Int} {a b p : Int} (h : Edg g A B S a b) (hp : p ∈ S) : 0 ≤ crossZ (g a) (g b) (g p) := by
 by_cases h1 : p = a
 · rw [h1, (cross_same _ _).1]; exact Int.le_refl 0
 · by_cases h2 : p = b
   · rw [h2, (cross_same _ _).2]; exact Int.le_refl 0
   · rcases h p hp h1 h2 with h | h <;> omega
theorem pop_ok {S : List Int} {c : Int} (hc : ∀ p, p ∈ S → lf A B (g p) < lf A B (g c)) : ∀ (R : List Int) (t : Int), R.head? = some t → Cha g A B S R → (∀ p, p ∈ R → p ∈ S) → (∀ p, p ∈ S → lf A B (g t) < lf A B (g p) → 0 ≤ crossZ (g t) (g c) (g p)) →
  ∃ t', (popC g c R).head? = some t' ∧ Cha g A B S (popC g c R) ∧ (∀ p, p ∈ popC g c R → p ∈ S) ∧ (∀ p, p ∈ S → lf A B (g t') < lf A B (g p) → 0 ≤ crossZ (g t') (g c) (g p)) ∧ (∀ b a r, popC g c R = b :: a :: r → 0 < crossZ (g a) (g b) (g c)) ∧ (popC g c R).getLast? = R.getLast?
 | [], t, h, _, _, _ => by cases h
 | [b], t, h, hC, hS, hJ => by
  have e : popC g c [b] = [b] := by simp [popC]
  rw [e]
  exact ⟨t, h, hC, hS, hJ, fun _ _ _ h => (by cases h), rfl⟩
 | b :: a :: r, t, h, hC, hS, hJ => by
  obtain rfl : b = t := by simpa using h
  unfold popC
  by_cases hx : crossZ (g a) (g b) (g c) ≤ 0
  · rw [if_pos hx]
    obtain ⟨h1, h2, h3⟩ := hC
    have haS : a ∈ S := hS a (by simp)
    obtain ⟨t', q1, q2, q3, q4, q5, q6⟩ := pop_ok hc (a :: r) a rfl h3 (fun p hp => hS p (List.mem_cons_of_mem _ hp)) (fun p hp hlt => lf_pop h1 hlt (hc a haS) hx (h2.nonneg hp))
    exact ⟨t', q1, q2, q3, q4, q5, by rw [q6]; simp⟩
  · rw [if_neg hx]
    refine ⟨b, rfl, hC, hS, hJ, fun b' a' r' h => ?_, rfl⟩
    cases h; omega
theorem cha_new {S : List Int} {c : Int} (hc : ∀ p, p ∈ S → lf A B (g p) < lf A B (g c)) : ∀ (R : List Int), Cha g A B S R → (∀ p, p ∈ R → p ∈ S) → (∀ b a r, R = b :: a :: r → 0 < crossZ (g a) (g b) (g c)) → Cha g A B (S ++ [c]) R
 | [], _, _, _ => trivial
 | [_], _, _, _ => trivial
 | b :: a :: r, h, hS, hx => by
  obtain ⟨h1, h2, h3⟩ := h
  have hx0 := hx b a r rfl
  have hbS : b ∈ S := hS b (by simp)
  refine ⟨h1, ?_, cha_new hc (a :: r) h3 (fun p hp => hS p (List.mem_cons_of_mem _ hp)) ?_⟩
  · intro p hp hpa hpb
    rcases List.mem_append.1 hp with hp | hp
    · exact h2 p hp hpa hpb
    · obtain rfl : p = c := by simpa using hp
      exact .inl hx0
  · intro b' a' r' e
    obtain ⟨rfl, rfl⟩ : a = b' ∧ r = a' :: r' := by simpa using e
    obtain ⟨k1, k2, k3⟩ := h3
    have hbb : 0 < crossZ (g a') (g a) (g b) := by
     rcases k2 b hbS (fun h => by rw [h] at h1; omega) (fun h => by rw [h] at h1; omega) with h | h
     · exact h
     · omega
    exact lf_chain (A := A) (B := B) k1 h1 (hc a (hS a (by simp))) hbb hx0
theorem side_step {S R : List Int} {c t p0 : Int} (hinj : ∀ p q, p ∈ S → q ∈ S → lf A B (g p) = lf A B (g q) → p = q) (hc : ∀ p, p ∈ S → lf A B (g p) < lf A B (g c)) (ht : R.head? = some t) (hC : Cha g A B S R) (hR : ∀ p, p ∈ R → p ∈ S)
  (htop : ∀ p, p ∈ S → lf A B (g p) ≤ lf A B (g t)) (hlast : R.getLast? = some p0) (hmin : ∀ p, p ∈ S → lf A B (g p0) ≤ lf A B (g p)) :
  Cha g A B (S ++ [c]) (c :: popC g c R) ∧ (∀ p, p ∈ c :: popC g c R → p ∈ S ++ [c]) ∧ (c :: popC g c R).getLast? = some p0 := by
 obtain ⟨t', q1, q2, q3, q4, q5, q6⟩ := pop_ok hc R t ht hC hR (fun p hp h => by have := htop p hp; omega)
 have qn := cha_new hc (popC g c R) q2 q3 q5
 generalize popC g c R = R' at *
 refine ⟨?_, ?_, ?_⟩
 · cases R' with
   | nil => cases q1
   | cons b r =>
    obtain rfl : b = t' := by simpa using q1
    have hbS : b ∈ S := q3 b (by simp)
    refine ⟨hc b hbS, ?_, qn⟩
    intro p hp hpa hpc
    rcases List.mem_append.1 hp with hp | hp
    · rcases Int.lt_or_le (lf A B (g p)) (lf A B (g b)) with hlt | hge
      · cases r with
        | nil =>
         have : b = p0 := by rw [hlast] at q6; simpa using q6
         have := hmin p hp
         subst b; omega
        | cons a r' => exact .inl (lf_left (A := A) (B := B) q2.1 hlt (hc b hbS) (q2.2.1.nonneg hp) (q5 b a r' rfl))
      · have hne : lf A B (g p) ≠ lf A B (g b) := fun e => hpa (hinj p b hp hbS e)
        have := q4 p hp (by omega)
        rcases Int.lt_or_le 0 (crossZ (g b) (g c) (g p)) with h | h
        · exact .inl h
        · exact .inr ⟨by omega, by omega, hc p hp⟩
    · exact absurd (by simpa using hp) hpc
 · intro p hp
   rcases List.mem_cons.1 hp with h | h
   · subst h; simp
   · exact List.mem_append_left _ (q3 p h)
 · cases R' with
   | nil => cases q1
   | cons b r => rw [← hlast, ← q6]; simp
theorem side_ok {p0 : Int} : ∀ (l S R : List Int) (t : Int), (S ++ l).Pairwise (fun p q => lf A B (g p) < lf A B (g q)) → R.head? = some t → S.getLast? = some t → Cha g A B S R → (∀ p, p ∈ R → p ∈ S) → R.getLast? = some p0 → S.head? = some p0 →
  Cha g A B (S ++ l) (sideC g R l) ∧ (∀ p, p ∈ sideC g R l → p ∈ S ++ l) ∧ (sideC g R l).getLast? = some p0 ∧ (sideC g R l).head? = (S ++ l).getLast?
 | [], S, R, t, hP, ht, hl, hC, hR, hlast, h0 => by
  rw [List.append_nil]; exact ⟨hC, hR, hlast, ht.trans hl.symm⟩
 | c :: l, S, R, t, hP, ht, hl, hC, hR, hlast, h0 => by
  have hPS : S.Pairwise (fun p q => lf A B (g p) < lf A B (g q)) := (List.pairwise_append.1 hP).1
  have hc : ∀ p, p ∈ S → lf A B (g p) < lf A B (g c) := fun p hp => (List.pairwise_append.1 hP).2.2 p hp c (by simp)
  have hinj : ∀ (S : List Int), S.Pairwise (fun p q => lf A B (g p) < lf A B (g q)) → ∀ p q, p ∈ S → q ∈ S → lf A B (g p) = lf A B (g q) → p = q := by
   intro S
   induction S with
   | nil => intro _ p q hp; cases hp
   | cons a S ih =>
    intro h p q hp hq e
    rw [List.pairwise_cons] at h
    rcases List.mem_cons.1 hp with h1 | h1 <;> rcases List.mem_cons.1 hq with h2 | h2
    · rw [h1, h2]
    · have := h.1 q h2; rw [h1] at e; omega
    · have := h.1 p h1; rw [h2] at e; omega
    · exact ih h.2 p q h1 h2 e
  have htop : ∀ p, p ∈ S → lf A B (g p) ≤ lf A B (g t) := by
   obtain ⟨S', rfl⟩ : ∃ S', S = S' ++ [t] := by
    rcases List.eq_nil_or_concat S with h | ⟨S', b, h⟩
    · subst h; cases hl
    · rw [h] at hl; simp at hl; subst hl; exact ⟨S', by rw [h, List.concat_eq_append]⟩
   intro p hp
   rcases List.mem_append.1 hp with h | h
   · exact Int.le_of_lt ((List.pairwise_append.1 hPS).2.2 p h t (by simp))
   · obtain rfl : p = t := by simpa using h
     exact Int.le_refl _
  have hmin : ∀ p, p ∈ S → lf A B (g p0) ≤ lf A B (g p) := by
   cases S with
   | nil => cases h0
   | cons a S =>
    obtain rfl : a = p0 := by simpa using h0
    intro p hp
    rcases List.mem_cons.1 hp with h | h
    · subst h; exact Int.le_refl _
    · exact Int.le_of_lt ((List.pairwise_cons.1 hPS).1 p h)
  obtain ⟨s1, s2, s3⟩ := side_step (hinj S hPS) hc ht hC hR htop hlast hmin
  have := side_ok l (S ++ [c]) (c :: popC g c R) c (by simpa using hP) rfl (by simp) s1 s2 s3 (by cases S with | nil => cases h0 | cons a S => exact h0)
  have e : S ++ c :: l = S ++ [c] ++ l := by simp
  rw [e]; exact this
theorem side_all {l : List Int} {p0 : Int} (hP : l.Pairwise (fun p q => lf A B (g p) < lf A B (g q))) (h0 : l.head? = some p0) :
  Cha g A B l (sideC g [] l) ∧ (∀ p, p ∈ sideC g [] l → p ∈ l) ∧ (sideC g [] l).getLast? = some p0 ∧ (sideC g [] l).head? = l.getLast? := by
 cases l with
 | nil => cases h0
 | cons a l =>
  obtain rfl : a = p0 := by simpa using h0
  have := side_ok l [a] [a] a (by simpa using hP) rfl rfl trivial (fun p h => h) rfl rfl
  simpa [sideC, popC] using this
end
end Go.L

