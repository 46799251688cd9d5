import Derived.Test.YtkhmlbchphhokaaGreatHulL09h
set_option linter.all false
namespace Go.L
open Go Go.Eng
section
variable {g : Int → api_Pix} {A B : Int}
structure Edge (g : Int → api_Pix) (A B : Int) (F : List Int) (a b : Int) : Prop where
 ne : lf A B (g a) ≠ lf A B (g b)
 ma : a ∈ F
 mb : b ∈ F
 out : ∀ p, p ∈ F → p ≠ a → p ≠ b → 0 < crossZ (g a) (g b) (g p) ∨ (crossZ (g a) (g b) (g p) = 0 ∧ ((lf A B (g a) < lf A B (g p) ∧ lf A B (g p) < lf A B (g b)) ∨ (lf A B (g b) < lf A B (g p) ∧ lf A B (g p) < lf A B (g a))))
theorem getD_rev {l : List Int} {k : Nat} (h : k < l.length) : l.reverse.getD k default = l.getD (l.length - 1 - k) default := by
 simp [List.getD, List.getElem?_reverse h]
theorem head_at {l : List Int} {a : Int} (h : l.head? = some a) : l.getD 0 default = a := by cases l with | nil => cases h | cons b l => simpa using h
theorem last_at {l : List Int} {a : Int} (h : l.getLast? = some a) : l.getD (l.length - 1) default = a := by
 rw [List.getLast?_eq_getElem?] at h; simp [List.getD, h]
theorem cha_at {S : List Int} : ∀ (R : List Int), Cha g A B S R → ∀ k, k + 1 < R.length → lf A B (g (R.getD (k + 1) default)) < lf A B (g (R.getD k default)) ∧ Edg g A B S (R.getD (k + 1) default) (R.getD k default)
 | [], _, k, h => by simp at h
 | [_], _, k, h => by simp at h
 | b :: a :: r, h, 0, _ => ⟨h.1, h.2.1⟩
 | b :: a :: r, h, k + 1, hk => cha_at (a :: r) h.2.2 k (by simpa using hk)
theorem cha_rev {S R : List Int} (h : Cha g A B S R) {k : Nat} (hk : k + 1 < R.length) : lf A B (g (R.reverse.getD k default)) < lf A B (g (R.reverse.getD (k + 1) default)) ∧ Edg g A B S (R.reverse.getD k default) (R.reverse.getD (k + 1) default) := by
 have := cha_at R h (R.length - 1 - (k + 1)) (by omega)
 rw [getD_rev (by omega), getD_rev (by omega)]
 have e : R.length - 1 - (k + 1) + 1 = R.length - 1 - k := by omega
 rw [e] at this; exact this
theorem mem_at {l : List Int} {k : Nat} (h : k < l.length) : l.getD k default ∈ l := by
 rw [List.getD_eq_getElem?_getD, List.getElem?_eq_getElem h]; exact List.getElem_mem h
def hullC (g : Int → api_Pix) (l : List Int) : List Int :=
 ((sideC g [] l).reverse.take ((sideC g [] l).length - 1)) ++ ((sideC g [] l.reverse).reverse.take ((sideC g [] l.reverse).length - 1))
structure Around (g : Int → api_Pix) (A B : Int) (F : List Int) (p0 : Int) (h : List Int) : Prop where
 two : 2 ≤ h.length
 st : h.getD 0 default = p0
 edge : ∀ k, k < h.length → Edge g A B F (h.getD k default) (h.getD ((k + 1) % h.length) default)
 away : ∀ k, 0 < k → k < h.length → h.getD k default ≠ p0
theorem hull_around {l : List Int} {p0 : Int} (hP : l.Pairwise (fun p q => lf A B (g p) < lf A B (g q))) (h0 : l.head? = some p0) (h2 : 2 ≤ l.length) : Around g A B l p0 (hullC g l) := by
 obtain ⟨pN, hN⟩ : ∃ pN, l.getLast? = some pN := by
  rcases List.eq_nil_or_concat l with h | ⟨l', b, h⟩
  · rw [h] at h0; cases h0
  · exact ⟨b, by rw [h]; simp⟩
 have hneg : ∀ p, lf (-A) (-B) p = -lf A B p := fun p => by unfold lf; grind
 have hPr : l.reverse.Pairwise (fun p q => lf (-A) (-B) (g p) < lf (-A) (-B) (g q)) := by
  rw [List.pairwise_reverse]; exact hP.imp (fun h => by rw [hneg, hneg]; omega)
 obtain ⟨c1, c2, c3, c4⟩ := side_all hP h0
 obtain ⟨d1, d2, d3, d4⟩ := side_all hPr (p0 := pN) (by rw [List.head?_reverse]; exact hN)
 have hmin : ∀ p, p ∈ l → lf A B (g p0) ≤ lf A B (g p) := by
  cases l with
  | nil => cases h0
  | cons a l =>
   obtain rfl : a = p0 := by simpa using h0
   intro p hp
   rcases List.mem_cons.1 hp with h | h
   · subst h; exact Int.le_refl _
   · exact Int.le_of_lt ((List.pairwise_cons.1 hP).1 p h)
 have hlt : lf A B (g p0) < lf A B (g pN) := by
  cases l with
  | nil => cases h0
  | cons a l =>
   obtain rfl : a = p0 := by simpa using h0
   refine (List.pairwise_cons.1 hP).1 pN ?_
   cases l with
   | nil => simp at h2
   | cons b l => rw [List.getLast?_cons_cons] at hN; exact List.mem_of_getLast? hN
 unfold hullC
 obtain ⟨R, hR⟩ : ∃ R, R = sideC g [] l := ⟨_, rfl⟩
 obtain ⟨U, hU⟩ : ∃ U, U = sideC g [] l.reverse := ⟨_, rfl⟩
 rw [← hR] at c1 c2 c3 c4 ⊢
 rw [← hU] at d1 d2 d3 d4 ⊢
 have a0 : R.reverse.getD 0 default = p0 := head_at (by rw [List.head?_reverse]; exact c3)
 have aN : R.reverse.getD (R.length - 1) default = pN := by
  have := last_at (l := R.reverse) (a := pN) (by rw [List.getLast?_reverse, c4]; exact hN)
  rwa [List.length_reverse] at this
 have b0 : U.reverse.getD 0 default = pN := head_at (by rw [List.head?_reverse]; exact d3)
 have bN : U.reverse.getD (U.length - 1) default = p0 := by
  have := last_at (l := U.reverse) (a := p0) (by rw [List.getLast?_reverse, d4, List.getLast?_reverse]; exact h0)
  rwa [List.length_reverse] at this
 have hne : p0 ≠ pN := fun h => by rw [h] at hlt; omega
 have lR : 2 ≤ R.length := by
  rcases Nat.lt_or_ge R.length 2 with h | h
  · have : R.length - 1 = 0 := by omega
    rw [this, a0] at aN; exact absurd aN hne
  · exact h
 have lU : 2 ≤ U.length := by
  rcases Nat.lt_or_ge U.length 2 with h | h
  · have : U.length - 1 = 0 := by omega
    rw [this, b0] at bN; exact absurd bN.symm hne
  · exact h
 have eR : ∀ k, k + 1 < R.length → lf A B (g (R.reverse.getD k default)) < lf A B (g (R.reverse.getD (k + 1) default)) ∧ Edge g A B l (R.reverse.getD k default) (R.reverse.getD (k + 1) default) := by
  intro k hk
  obtain ⟨q1, q2⟩ := cha_rev c1 hk
  refine ⟨q1, by omega, c2 _ (List.mem_reverse.1 (mem_at (by simpa using (by omega : k < R.length)))), c2 _ (List.mem_reverse.1 (mem_at (by simpa using hk))), fun p hp h1 h2 => ?_⟩
  rcases q2 p hp h1 h2 with h | h
  · exact .inl h
  · exact .inr ⟨h.1, .inl h.2⟩
 have eU : ∀ k, k + 1 < U.length → lf A B (g (U.reverse.getD (k + 1) default)) < lf A B (g (U.reverse.getD k default)) ∧ Edge g A B l (U.reverse.getD k default) (U.reverse.getD (k + 1) default) := by
  intro k hk
  obtain ⟨q1, q2⟩ := cha_rev d1 hk
  rw [hneg, hneg] at q1
  refine ⟨by omega, by omega, List.mem_reverse.1 (d2 _ (List.mem_reverse.1 (mem_at (by simpa using (by omega : k < U.length))))), List.mem_reverse.1 (d2 _ (List.mem_reverse.1 (mem_at (by simpa using hk)))), fun p hp h1 h2 => ?_⟩
  rcases q2 p (List.mem_reverse.2 hp) h1 h2 with h | h
  · exact .inl h
  · rw [hneg, hneg, hneg] at h
    exact .inr ⟨h.1, .inr (by omega)⟩
 have hlen : (R.reverse.take (R.length - 1) ++ U.reverse.take (U.length - 1)).length = (R.length - 1) + (U.length - 1) := by
  rw [List.length_append, List.length_take, List.length_take, List.length_reverse, List.length_reverse]; omega
 have hat : ∀ k, k < (R.length - 1) + (U.length - 1) → (R.reverse.take (R.length - 1) ++ U.reverse.take (U.length - 1)).getD k default = if k < R.length - 1 then R.reverse.getD k default else U.reverse.getD (k - (R.length - 1)) default := by
  intro k hk
  have hl1 : (R.reverse.take (R.length - 1)).length = R.length - 1 := by rw [List.length_take, List.length_reverse]; omega
  simp only [List.getD]
  by_cases h : k < R.length - 1
  · rw [if_pos h, List.getElem?_append_left (by omega), List.getElem?_take, if_pos h]
  · rw [if_neg h, List.getElem?_append_right (by omega), hl1, List.getElem?_take, if_pos (by omega)]
 generalize hh : R.reverse.take (R.length - 1) ++ U.reverse.take (U.length - 1) = h at hlen hat
 refine ⟨by omega, ?_, ?_, ?_⟩
 · rw [hat 0 (by omega), if_pos (by omega)]; exact a0
 · intro k hk
   rw [hlen] at hk ⊢
   rw [hat k hk, hat _ (Nat.mod_lt _ (by omega))]
   by_cases h1 : k + 1 < R.length - 1
   · rw [Nat.mod_eq_of_lt (by omega), if_pos (by omega), if_pos h1]
     exact (eR k (by omega)).2
   · by_cases h2 : k < R.length - 1
     · rw [Nat.mod_eq_of_lt (by omega), if_pos h2, if_neg h1]
       have := (eR k (by omega)).2
       have e1 : k + 1 = R.length - 1 := by omega
       have e2 : k + 1 - (R.length - 1) = 0 := by omega
       rw [e1, aN] at this
       rw [e2, b0]; exact this
     · rw [if_neg h2]
       by_cases h3 : k + 1 < (R.length - 1) + (U.length - 1)
       · rw [Nat.mod_eq_of_lt h3, if_neg h1]
         have := (eU (k - (R.length - 1)) (by omega)).2
         have e : k - (R.length - 1) + 1 = k + 1 - (R.length - 1) := by omega
         rw [e] at this; exact this
       · have e : k + 1 = (R.length - 1) + (U.length - 1) := by omega
         rw [e, Nat.mod_self, if_pos (by omega), a0]
         have := (eU (k - (R.length - 1)) (by omega)).2
         have e2 : k - (R.length - 1) + 1 = U.length - 1 := by omega
         rw [e2, bN] at this; exact this
 · intro k h0 hk
   rw [hlen] at hk
   rw [hat k hk]
   by_cases h1 : k < R.length - 1
   · rw [if_pos h1]
     have q := eR (k - 1) (by omega)
     have e : k - 1 + 1 = k := by omega
     rw [e] at q
     have := hmin _ q.2.ma
     intro hx
     rw [hx] at q; omega
   · rw [if_neg h1]
     have q := eU (k - (R.length - 1)) (by omega)
     have := hmin _ q.2.mb
     intro hx
     rw [hx] at q; omega
theorem left_turn {F : List Int} {a b d p0 : Int} (h1 : Edge g A B F a b) (h2 : Edge g A B F b d) (hne : a ≠ d) : 0 < crossZ (g a) (g b) (g d) := by
 have hab : a ≠ b := fun h => h1.ne (by rw [h])
 have hbd : b ≠ d := fun h => h2.ne (by rw [h])
 rcases h1.out d h2.mb (fun h => hne h.symm) (fun h => hbd h.symm) with h | h
 · exact h
 · have hc : crossZ (g b) (g d) (g a) = crossZ (g a) (g b) (g d) := cross_turn _ _ _
   rcases h2.out a h1.ma hab hne with h' | h'
   · omega
   · omega
theorem back_forth {F : List Int} {a b p0 : Int} (h1 : Edge g A B F a b) (h2 : Edge g A B F b a) (hp : p0 ∈ F) (hmin : ∀ p, p ∈ F → lf A B (g p0) ≤ lf A B (g p)) : p0 = a ∨ p0 = b := by
 by_cases ha : p0 = a
 · exact .inl ha
 · by_cases hb : p0 = b
   · exact .inr hb
   · have q1 := h1.out p0 hp ha hb
     have q2 := h2.out p0 hp hb ha
     rw [cross_swap] at q2
     have m1 := hmin a h1.ma
     have m2 := hmin b h1.mb
     omega
theorem edge_det {F : List Int} {a b c : Int} (h1 : Edge g A B F a b) (h2 : Edge g A B F a c) : b = c := by
 by_cases h : b = c
 · exact h
 · have hab : a ≠ b := fun h => h1.ne (by rw [h])
   have hac : a ≠ c := fun h => h2.ne (by rw [h])
   have q1 := h1.out c h2.mb (fun h => hac h.symm) (fun e => h e.symm)
   have q2 := h2.out b h1.mb (fun h => hab h.symm) h
   have e : crossZ (g a) (g c) (g b) = -crossZ (g a) (g b) (g c) := by unfold crossZ; grind
   rw [e] at q2
   omega
theorem Around.apart {F h : List Int} {p0 : Int} (w : Around g A B F p0 h) (hp : p0 ∈ F) (hmin : ∀ p, p ∈ F → lf A B (g p0) ≤ lf A B (g p)) (h3 : 2 < h.length) {k : Nat} (hk : k < h.length) : h.getD k default ≠ h.getD ((k + 2) % h.length) default := by
 intro e
 have e1 := w.edge k hk
 have hk1 : (k + 1) % h.length < h.length := Nat.mod_lt _ (by omega)
 have e2 := w.edge ((k + 1) % h.length) hk1
 have em : ((k + 1) % h.length + 1) % h.length = (k + 2) % h.length := by rw [Nat.mod_add_mod]
 rw [em, ← e] at e2
 rcases back_forth e1 e2 hp hmin with h0 | h0
 ·
  have k0 : k = 0 := by
   rcases Nat.eq_zero_or_pos k with h | h
   · exact h
   · exact absurd h0.symm (w.away k h hk)
  subst k0
  have : (0 + 2) % h.length = 2 := Nat.mod_eq_of_lt h3
  rw [this, w.st] at e
  exact w.away 2 (by omega) h3 e.symm
 · have k1 : (k + 1) % h.length = 0 := by
    rcases Nat.eq_zero_or_pos ((k + 1) % h.length) with h | h
    · exact h
    · exact absurd h0.symm (w.away _ h hk1)
   have kl : k + 1 = h.length := by
    rcases Nat.lt_or_ge (k + 1) h.length with h | h
    · rw [Nat.mod_eq_of_lt h] at k1; omega
    · omega
   have e3 : (k + 2) % h.length = 1 := by
    have : k + 2 = h.length + 1 := by omega
    rw [this, Nat.add_mod_left, Nat.mod_eq_of_lt (by omega)]
   rw [e3] at e
   have q := w.edge 1 (by omega)
   rw [← e] at q
   have q2 := edge_det q e1
   rw [k1, w.st, Nat.mod_eq_of_lt (by omega : 1 + 1 < h.length)] at q2
   exact w.away 2 (by omega) h3 q2
end
end Go.L

