import Derived.Test.YtiicieaabeamoaaGreatPl2dhijbmli
set_option linter.all false
namespace Go.L
open Go Go.Eng
def kpZ (s : List Int) : Nat → List Int
 | 0 => []
 | t + 1 => if t = 0 ∨ s.getD t default ≠ s.getD (t - 1) default then kpZ s t ++ [s.getD t default] else kpZ s t
theorem kpZ_len {s : List Int} : ∀ t, (kpZ s t).length ≤ t
 | 0 => Nat.le_refl _
 | t + 1 => by
  unfold kpZ; have := kpZ_len (s := s) t
  split
  · simp; omega
  · omega
theorem kpZ_pos {s : List Int} : ∀ t, 0 < t → 0 < (kpZ s t).length
 | 1, _ => by simp [kpZ]
 | t + 2, _ => by
  have := kpZ_pos (s := s) (t + 1) (by omega)
  rw [kpZ]
  split
  · simp
  · exact this
theorem memAt {l : List Int} {k : Nat} (h : k < l.length) : l.getD k default ∈ l := by
 rw [List.getD_eq_getElem?_getD, List.getElem?_eq_getElem h]; exact List.getElem_mem h
theorem atMem {s : List Int} {x : Int} (h : x ∈ s) : ∃ j, j < s.length ∧ s.getD j default = x := by
 obtain ⟨j, hj, e⟩ := List.getElem_of_mem h
 exact ⟨j, hj, by simp [List.getD, List.getElem?_eq_getElem hj, e]⟩
theorem takeS {s : List Int} {k : Nat} (hk : k < s.length) : s.take (k + 1) = s.take k ++ [s.getD k default] := by
 rw [List.take_add_one, List.getD_eq_getElem?_getD, List.getElem?_eq_getElem hk]; rfl
theorem pwAt : ∀ {s : List Int}, s.Pairwise (fun a b => a ≤ b) → ∀ i j, i < j → j < s.length → s.getD i default ≤ s.getD j default
 | [], _, i, j, _, h => by simp at h
 | a :: s, h, 0, j + 1, _, hj => (List.pairwise_cons.1 h).1 _ (memAt (by simpa using hj))
 | a :: s, h, i + 1, j + 1, hij, hj => pwAt (s := s) (List.pairwise_cons.1 h).2 i j (by omega) (by simpa using hj)
theorem kpZ_ok {s : List Int} (hs : s.Pairwise (fun a b => a ≤ b)) : ∀ t, t ≤ s.length → (kpZ s t).Pairwise (fun a b => a < b) ∧ (∀ x, x ∈ kpZ s t ↔ x ∈ s.take t) ∧ (∀ x, x ∈ kpZ s t → ∀ j, t ≤ j + 1 → j < s.length → x ≤ s.getD j default)
 | 0, _ => ⟨.nil, by simp [kpZ], fun x h => by cases h⟩
 | t + 1, ht => by
  obtain ⟨h1, h2, h3⟩ := kpZ_ok hs t (by omega)
  have hle : ∀ x, x ∈ kpZ s t → x ≤ s.getD t default := fun x hx => by
   have := h3 x hx (t - 1) (by omega) (by omega)
   rcases Nat.eq_zero_or_pos t with h0 | h0
   · subst h0; cases hx
   · have := pwAt hs (t - 1) t (by omega) (by omega); omega
  have hj : ∀ j, t + 1 ≤ j + 1 → j < s.length → s.getD t default ≤ s.getD j default := fun j h hj => by
   rcases Nat.eq_or_lt_of_le (show t ≤ j by omega) with e | e
   · subst e; exact Int.le_refl _
   · exact pwAt hs t j e hj
  have hm : ∀ x, x ∈ s.take (t + 1) ↔ x ∈ s.take t ∨ x = s.getD t default := fun x => by rw [takeS (by omega)]; simp
  rw [kpZ]
  by_cases hk : t = 0 ∨ s.getD t default ≠ s.getD (t - 1) default
  · rw [if_pos hk]
    refine ⟨List.pairwise_append.2 ⟨h1, by simp, fun x hx y hy => ?_⟩, fun x => by rw [hm, ← h2]; simp, fun x hx j h hjl => ?_⟩
    · obtain rfl : y = s.getD t default := by simpa using hy
      rcases Nat.eq_zero_or_pos t with h0 | h0
      · subst h0; cases hx
      · have a1 := h3 x hx (t - 1) (by omega) (by omega)
        have a2 := pwAt hs (t - 1) t (by omega) (by omega)
        have a3 := hk.resolve_left (by omega)
        omega
    · rcases List.mem_append.1 hx with hx | hx
      · have := hle x hx; have := hj j h hjl; omega
      · obtain rfl : x = s.getD t default := by simpa using hx
        exact hj j h hjl
  · rw [if_neg hk]
    have h0 : t ≠ 0 := fun h => hk (.inl h)
    have he : s.getD t default = s.getD (t - 1) default := Decidable.byContradiction fun h => hk (.inr h)
    refine ⟨h1, fun x => ?_, fun x hx j h hjl => ?_⟩
    · rw [hm, ← h2]
      constructor
      · exact .inl
      · rintro (h | h)
        · exact h
        · rw [h, he]
          refine (h2 _).2 ?_
          have e : t = t - 1 + 1 := by omega
          rw [e, takeS (by omega)]; simp
    · have := hle x hx; have := hj j h hjl; omega
end Go.L

