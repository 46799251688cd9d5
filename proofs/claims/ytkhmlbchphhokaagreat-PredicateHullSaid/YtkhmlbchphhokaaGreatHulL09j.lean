import Derived.Test.YtkhmlbchphhokaaGreatHulL09i
import Derived.Test.YtkhmlbchphhokaaGreatHulLsrt
set_option linter.all false
namespace Go.L
open Go Go.Eng
abbrev lfP (p : api_Pix) : Int := lf 4194304 1 p
theorem lfP_inj {p q : api_Pix} (hp : In p) (hq : In q) (h : lfP p = lfP q) : p = q := by
 rw [In.iff] at hp hq
 unfold lfP lf at h
 cases p; cases q; simp at *; omega
def ptE (p q : api_Pix) : Bool := ((p.X : Int) == q.X) && (((p.Y : Int) == q.Y) && true)
theorem ptE_iff {p q : api_Pix} : ptE p q = true ↔ p = q := by
 unfold ptE; cases p; cases q; simp
theorem before_v {n : Nat} {p q : api_Pix} (hp : In p) (hq : In q) : fiducialref09_before n p q = some (decide (lfP p < lfP q)) := by
 rw [In.iff] at hp hq
 unfold fiducialref09_before lfP lf
 by_cases h1 : p.X < q.X
 · rw [show decide (p.X < q.X) = true from decide_eq_true h1, show decide (4194304 * p.X + 1 * p.Y < 4194304 * q.X + 1 * q.Y) = true from decide_eq_true (by omega)]; rfl
 · rw [show decide (p.X < q.X) = false from decide_eq_false h1]
   by_cases h2 : p.X = q.X
   · rw [show ((p.X : Int) == q.X) = true by simpa using h2]
     show some (decide (p.Y < q.Y)) = _
     congr 1; rw [decide_eq_decide]; omega
   · rw [show ((p.X : Int) == q.X) = false by simpa using h2, show decide (4194304 * p.X + 1 * p.Y < 4194304 * q.X + 1 * q.Y) = false from decide_eq_false (by omega)]; rfl
def kap (l : List api_Pix) (i : Int) : Int := lfP (gt l i) * 2048 + i
theorem compare_v (n : Nat) (x y : Int) : cmp_Compare_int n x y = some (sgn (x - y)) := by
 unfold cmp_Compare_int cmp_isNaN_int sgn
 simp only [bne_self_eq_false, bdO, cdO]
 by_cases h : x < y
 · simp [h]; omega
 · by_cases h2 : x > y
   · simp [h, h2]; omega
   · simp [h, h2]; omega
theorem or_v {n : Nat} (h : 4 < n) (a b c : Int) : cmp_Or_int n [a, b, c] = some (if a ≠ 0 then a else if b ≠ 0 then b else c) := by
 apply Ok.eq
 unfold cmp_Or_int
 refine Ok.bd (R := fun o => match o with | .inl _ => (if a ≠ 0 then a else if b ≠ 0 then b else c) = 0 | .inr r => r = if a ≠ 0 then a else if b ≠ 0 then b else c) ?_ (fun o ho => by cases o <;> exact ok_some.2 (by first | exact ho.symm | exact ho))
 refine ok_range (len := 3) (fun k => (0 < k → a = 0) ∧ (1 < k → b = 0) ∧ (2 < k → c = 0)) (by omega) (by omega) (by omega) ?_ ?_
 · intro again k hk hP ih
   refine Ok.cd (fun _ => ?_) (fun h => by simp at h; omega)
   refine Ok.gd (by rw [inR_nat]; simpa using hk) ?_
   match k, hk, hP, ih with
   | 0, _, hP, ih =>
    refine Ok.cd (fun h => ok_some.2 ?_) (fun h => ih ?_)
    · have : a ≠ 0 := by simpa [gt] using h
      show a = _; rw [if_pos this]
    · have : a = 0 := by simpa [gt] using h
      exact ⟨fun _ => this, by omega, by omega⟩
   | 1, _, hP, ih =>
    refine Ok.cd (fun h => ok_some.2 ?_) (fun h => ih ?_)
    · have : b ≠ 0 := by simpa [gt] using h
      show b = _; rw [if_neg (by have := hP.1; simp; omega), if_pos this]
    · have : b = 0 := by simpa [gt] using h
      exact ⟨fun _ => hP.1 (by omega), fun _ => this, by omega⟩
   | 2, _, hP, ih =>
    refine Ok.cd (fun h => ok_some.2 ?_) (fun h => ih ?_)
    · have ha := hP.1 (by omega); have hb := hP.2.1 (by omega)
      show c = _; rw [if_neg (by simpa using ha), if_neg (by simpa using hb)]
    · have : c = 0 := by simpa [gt] using h
      exact ⟨fun _ => hP.1 (by omega), fun _ => hP.2.1 (by omega), fun _ => this⟩
   | k + 3, hk, _, _ => omega
 · intro again hP
   refine Ok.cd (fun h => by simp at h) (fun _ => ok_some.2 ?_)
   have ha := hP.1 (by omega); have hb := hP.2.1 (by omega); have hc := hP.2.2 (by omega)
   rw [if_neg (by simpa using ha), if_neg (by simpa using hb)]; exact hc
theorem hull1_v {n : Nat} (h : 4 < n) {l : List api_Pix} (hl : l.length ≤ 1024) (hI : ∀ p, p ∈ l → In p) {i j : Int} (hi : 0 ≤ i ∧ i < l.length) (hj : 0 ≤ j ∧ j < l.length) : ∃ c, predicate_Hull_1 n i j l = some c ∧ (c < 0 ↔ kap l i < kap l j) := by
 obtain ⟨a, rfl⟩ : ∃ a : Nat, i = a := ⟨i.toNat, by omega⟩
 obtain ⟨b, rfl⟩ : ∃ b : Nat, j = b := ⟨j.toNat, by omega⟩
 have ha : a < l.length := by omega
 have hb : b < l.length := by omega
 have hp := hI (gt l (a : Int)) (by rw [gt_nat, List.getD_eq_getElem?_getD, List.getElem?_eq_getElem ha]; exact List.getElem_mem ha)
 have hq := hI (gt l (b : Int)) (by rw [gt_nat, List.getD_eq_getElem?_getD, List.getElem?_eq_getElem hb]; exact List.getElem_mem hb)
 rw [In.iff] at hp hq
 unfold predicate_Hull_1 kap
 rw [inR_nat, inR_nat, decide_eq_true ha, decide_eq_true hb]
 simp only [compare_v, bdO, or_v h]
 generalize gt l (a : Int) = p at *
 generalize gt l (b : Int) = q at *
 refine ⟨_, rfl, ?_⟩
 unfold lfP lf
 have h1 := sgn_cases (p.X - q.X)
 have h2 := sgn_cases (p.Y - q.Y)
 have h3 := sgn_cases ((a : Int) - (b : Int))
 split
 · omega
 · split <;> omega
def KP (eq : Int → Int → Bool) (s : List Int) : Nat → List Int
 | 0 => []
 | t + 1 => if t = 0 ∨ eq (s.getD t default) (s.getD (t - 1) default) = false then KP eq s t ++ [s.getD t default] else KP eq s t
theorem KP_len {eq : Int → Int → Bool} {s : List Int} : ∀ t, (KP eq s t).length ≤ t
 | 0 => Nat.le_refl _
 | t + 1 => by
  unfold KP; have := KP_len (eq := eq) (s := s) t
  split
  · simp; omega
  · omega
theorem KP_pos {eq : Int → Int → Bool} {s : List Int} : ∀ t, 0 < t → 0 < (KP eq s t).length
 | 1, _ => by simp [KP]
 | t + 2, _ => by
  have := KP_pos (eq := eq) (s := s) (t + 1) (by omega)
  rw [KP]
  split
  · simp
  · exact this
theorem KP_mem {eq : Int → Int → Bool} {s : List Int} {x : Int} : ∀ t, x ∈ KP eq s t → ∃ j, j < t ∧ x = s.getD j default ∧ (j = 0 ∨ eq (s.getD j default) (s.getD (j - 1) default) = false)
 | 0, h => by cases h
 | t + 1, h => by
  rw [KP] at h
  split at h
  · rename_i hk
    rcases List.mem_append.1 h with h | h
    · obtain ⟨j, h1, h2⟩ := KP_mem t h; exact ⟨j, by omega, h2⟩
    · exact ⟨t, by omega, by simpa using h, hk⟩
  · obtain ⟨j, h1, h2⟩ := KP_mem t h; exact ⟨j, by omega, h2⟩
theorem mem_KP {eq : Int → Int → Bool} {s : List Int} {j : Nat} (hk : j = 0 ∨ eq (s.getD j default) (s.getD (j - 1) default) = false) : ∀ t, j < t → s.getD j default ∈ KP eq s t
 | 0, h => by omega
 | t + 1, h => by
  rw [KP]
  by_cases e : j = t
  · subst e; rw [if_pos hk]; simp
  · have := mem_KP hk t (by omega)
    split
    · exact List.mem_append_left _ this
    · exact this
theorem KP_pw {l : List api_Pix} {s : List Int} (hI : ∀ p, p ∈ s → In (gt l p)) (hr : ∀ p, p ∈ s → 0 ≤ p ∧ p < 2048) (hs : ∀ j, j + 1 < s.length → kap l (s.getD j default) < kap l (s.getD (j + 1) default)) : ∀ t, t ≤ s.length → (KP (fun i j => ptE (gt l i) (gt l j)) s t).Pairwise (fun p q => lfP (gt l p) < lfP (gt l q)) ∧ (0 < t → ∀ p, p ∈ KP (fun i j => ptE (gt l i) (gt l j)) s t → lfP (gt l p) ≤ lfP (gt l (s.getD (t - 1) default)))
 | 0, _ => ⟨.nil, by omega⟩
 | t + 1, ht => by
  obtain ⟨h1, h2⟩ := KP_pw hI hr hs t (by omega)
  have hst : s.getD t default ∈ s := mem_at (by omega)
  rw [KP]
  by_cases h0 : t = 0
  · subst h0
    rw [if_pos (.inl rfl)]
    simp [KP]
  · have hsp : s.getD (t - 1) default ∈ s := mem_at (by omega)
    have hlt := hs (t - 1) (by omega)
    have e : t - 1 + 1 = t := by omega
    rw [e] at hlt
    unfold kap at hlt
    have r1 := hr _ hst; have r2 := hr _ hsp
    have hle : lfP (gt l (s.getD (t - 1) default)) ≤ lfP (gt l (s.getD t default)) := by omega
    have h2 := h2 (by omega)
    split
    · rename_i hk
      have hne : lfP (gt l (s.getD (t - 1) default)) ≠ lfP (gt l (s.getD t default)) := by
       intro e
       have := lfP_inj (hI _ hsp) (hI _ hst) e
       rcases hk with h | h
       · exact h0 h
       · rw [← this] at h
         have : ptE (gt l (s.getD (t - 1) default)) (gt l (s.getD (t - 1) default)) = true := ptE_iff.2 rfl
         rw [this] at h; cases h
      refine ⟨List.pairwise_append.2 ⟨h1, by simp, fun p hp q hq => ?_⟩, fun _ p hp => ?_⟩
      · obtain rfl : q = s.getD t default := by simpa using hq
        have := h2 p hp; omega
      · rw [Nat.add_sub_cancel]
        rcases List.mem_append.1 hp with h | h
        · have := h2 p h; omega
        · obtain rfl : p = s.getD t default := by simpa using h
          exact Int.le_refl _
    · refine ⟨h1, fun _ p hp => ?_⟩
      rw [Nat.add_sub_cancel]
      have := h2 p hp; omega
theorem pw_at {s : List Int} {κ : Int → Int} : ∀ {s : List Int}, s.Pairwise (fun a b => κ a < κ b) → ∀ i j, i < j → j < s.length → κ (s.getD i default) < κ (s.getD j default)
 | [], _, i, j, _, h => by simp at h
 | a :: s, h, 0, j + 1, _, hj => (List.pairwise_cons.1 h).1 _ (mem_at (by simpa using hj))
 | a :: s, h, i + 1, j + 1, hij, hj => pw_at (s := s) (List.pairwise_cons.1 h).2 i j (by omega) (by simpa using hj)
theorem at_mem {s : List Int} {x : Int} (h : x ∈ s) : ∃ j, j < s.length ∧ s.getD j default = x := by
 obtain ⟨j, hj, e⟩ := List.getElem_of_mem h
 exact ⟨j, hj, by simp [List.getD, List.getElem?_eq_getElem hj, e]⟩
end Go.L

