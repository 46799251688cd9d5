import Derived.Test.YtlmndpmjbgnmbaaGreatFusLD
import Derived.Test.YtlmndpmjbgnmbaaGreatPl6lekkacha
set_option linter.unusedVariables false
set_option linter.unusedSimpArgs false
namespace Go.L
open Go Go.Eng
theorem swap_perm {l : List Int} {k : Nat} (h : k + 1 < l.length) : ((l.set (k + 1) (l.getD k default)).set k (l.getD (k + 1) default)).Perm l := by
  induction l generalizing k with
  | nil => simp at h
  | cons a t ih =>
    cases k with
    | zero =>
      cases t with
      | nil => simp at h
      | cons b s => simpa using List.Perm.swap a b s
    | succ k =>
      have := ih (k := k) (by simpa using h)
      simpa using List.Perm.cons a this
theorem getD_sw {l : List Int} {k j : Nat} (h : k + 1 < l.length) : ((l.set (k + 1) (l.getD k default)).set k (l.getD (k + 1) default)).getD j default = if j = k then l.getD (k + 1) default else if j = k + 1 then l.getD k default else l.getD j default := by
  simp only [List.getD, List.getElem?_set, List.length_set]
  by_cases h1 : k = j
  · subst h1
    have : k < l.length := by omega
    simp [this]
  · have h1' : ¬ j = k := fun e => h1 e.symm
    by_cases h2 : k + 1 = j
    · subst h2; simp [h]
    · have h2' : ¬ j = k + 1 := fun e => h2 e.symm
      simp [h1, h1', h2, h2']
theorem less_v (n : Nat) (x y : Int) : cmp_Less_int n x y = some (decide (x < y)) := by
  unfold cmp_Less_int cmp_isNaN_int
  simp [bdO, cdO]
def Ord (l : List Int) (i : Nat) : Prop := ∀ p q, p < q → q < i → l.getD p default ≤ l.getD q default
theorem insertion_v {n : Nat} {l : List Int} (hn : l.length < n) (hl : l.length ≤ 9223372036854775806) : Ok (slices_insertionSortOrdered_int_w n l 0 (l.length : Int)) (fun r => r.Perm l ∧ r.length = l.length ∧ Ord r l.length) := by
  unfold slices_insertionSortOrdered_int_w
  refine Ok.bd (R := fun r => r.Perm l ∧ r.length = l.length ∧ Ord r l.length) ?_ (fun r h => ok_some.2 h)
  refine ok_loop (fun s : List Int × Int => ∃ i : Nat, s.2 = (i : Int) ∧ 1 ≤ i ∧ i ≤ l.length + 1 ∧ s.1.Perm l ∧ s.1.length = l.length ∧ Ord s.1 i) (fun s => l.length + 1 - s.2.toNat) ?_ n _ ?_ ?_
  · rintro again ⟨d, ii⟩ ⟨i, hi, h1, h2, hp, hlen, ho⟩ ih
    obtain rfl : ii = (i : Int) := hi
    dsimp only at hp hlen ho ih ⊢
    refine Ok.cd (fun hlt => ?_) (fun hge => ?_)
    · have hlt := of_decide_eq_true hlt
      refine Ok.bd (R := fun r => r.Perm l ∧ r.length = l.length ∧ Ord r (i + 1)) ?_ ?_
      · refine ok_loop (fun s : List Int × Int => ∃ j : Nat, s.2 = (j : Int) ∧ j ≤ i ∧ s.1.Perm l ∧ s.1.length = l.length ∧ ∀ p q, p < q → q < i + 1 → q ≠ j → s.1.getD p default ≤ s.1.getD q default) (fun s => s.2.toNat) ?_ n _ ?_ ?_
        · rintro again2 ⟨e, jj⟩ ⟨j, hj, hji, ep, elen, eo⟩ ih2
          obtain rfl : jj = (j : Int) := hj
          dsimp only at ep elen eo ih2 ⊢
          refine Ok.cd (fun hj0 => ?_) (fun hj0 => ?_)
          · have hj0 := of_decide_eq_true hj0
            obtain ⟨k, rfl⟩ : ∃ k, j = k + 1 := ⟨j - 1, by omega⟩
            rw [wrap64_in (n := ((k + 1 : Nat) : Int) - 1) (by omega) (by omega)]
            have ek : ((k + 1 : Nat) : Int) - 1 = (k : Int) := by omega
            rw [ek, inR_nat, inR_nat, gt_nat, gt_nat, less_v]
            refine Ok.gd (by simp; omega) (Ok.gd (by simp; omega) ?_)
            refine Ok.cd (fun hl2 => ?_) (fun hl2 => ?_)
            · have hl2 := of_decide_eq_true hl2
              have et1 : (((k + 1 : Nat) : Int)).toNat = k + 1 := by omega
              have et2 : ((k : Int)).toNat = k := by omega
              rw [et1, et2]
              refine ih2 _ ⟨k, rfl, by omega, (swap_perm (by omega)).trans ep, by simpa using elen, ?_⟩ ?_
              · intro p q hpq hq hqk
                dsimp only
                rw [getD_sw (by omega), getD_sw (by omega), if_neg hqk]
                by_cases h1 : q = k + 1
                · subst h1
                  rw [if_pos rfl]
                  by_cases h2 : p = k
                  · subst h2; rw [if_pos rfl]; omega
                  · rw [if_neg h2, if_neg (by omega)]
                    exact eo p k (by omega) (by omega) (by omega)
                · rw [if_neg h1]
                  by_cases h2 : p = k
                  · subst h2; rw [if_pos rfl]
                    exact eo (p + 1) q (by omega) hq h1
                  · rw [if_neg h2]
                    by_cases h3 : p = k + 1
                    · subst h3; rw [if_pos rfl]
                      exact eo k q (by omega) hq h1
                    · rw [if_neg h3]
                      exact eo p q hpq hq h1
              · show ((k : Int)).toNat < (((k + 1 : Nat) : Int)).toNat
                omega
            · have hl2 := of_decide_eq_false hl2
              refine ok_some.2 ⟨ep, elen, ?_⟩
              intro p q hpq hq
              by_cases h1 : q = k + 1
              · subst h1
                by_cases h2 : p = k
                · subst h2; omega
                · have := eo p k (by omega) (by omega) (by omega)
                  omega
              · exact eo p q hpq hq h1
          · have hj0 := of_decide_eq_false hj0
            obtain rfl : j = 0 := by omega
            exact ok_some.2 ⟨ep, elen, fun p q hpq hq => eo p q hpq hq (by omega)⟩
        · exact ⟨i, rfl, Nat.le_refl _, hp, hlen, fun p q hpq hq hqi => ho p q hpq (by omega)⟩
        · show ((i : Int)).toNat < n
          omega
      · rintro r ⟨rp, rl, ro⟩
        rw [wrap64_in (by omega) (by omega)]
        refine ih _ ⟨i + 1, by simp, by omega, by omega, rp, rl, ro⟩ ?_
        show l.length + 1 - ((i : Int) + 1).toNat < l.length + 1 - ((i : Int)).toNat
        omega
    · have hge := of_decide_eq_false hge
      exact ok_some.2 ⟨hp, hlen, fun p q hpq hq => ho p q hpq (by omega)⟩
  · exact ⟨1, rfl, Nat.le_refl _, by omega, List.Perm.refl _, rfl, fun p q hpq hq => by omega⟩
  · show l.length + 1 - 1 < n
    omega
theorem ord_pairwise {r : List Int} (h : Ord r r.length) : r.Pairwise (fun a b => decide (a ≤ b) = true) := by
  rw [List.pairwise_iff_getElem]
  intro i j hi hj hij
  have := h i j hij hj
  simp only [List.getD, List.getElem?_eq_getElem hi, List.getElem?_eq_getElem hj, Option.getD_some] at this
  exact decide_eq_true this
def srt (l : List Int) : List Int := l.mergeSort (fun a b => decide (a ≤ b))
theorem srt_pw (l : List Int) : (srt l).Pairwise (fun a b => decide (a ≤ b) = true) :=
  List.pairwise_mergeSort (fun a b c h1 h2 => by simp at *; omega) (fun a b => by simp; omega) l
theorem srt_eq {r l : List Int} (h : r.Perm l) (ho : r.Pairwise (fun a b => decide (a ≤ b) = true)) : r = srt l :=
  List.Perm.eq_of_pairwise (le := fun a b => decide (a ≤ b) = true) (fun a b _ _ h1 h2 => by simp at h1 h2; omega) ho (srt_pw l) (h.trans (List.mergeSort_perm l _).symm)
theorem srt_perm {l m : List Int} (h : l.Perm m) : srt l = srt m :=
  srt_eq ((List.mergeSort_perm l _).trans h) (srt_pw l)
theorem srt_len (l : List Int) : (srt l).length = l.length := (List.mergeSort_perm l _).length_eq
theorem len64_small {n : Nat} {k : Nat} (h : k ≤ 12) : Ok (math_bits_Len n (wrapF .u64 (k : Int))) (fun _ => True) := by
  rw [wrapU64_in (by omega) (by omega)]
  unfold math_bits_Len math_bits_Len64
  refine Ok.bd (R := fun _ => True) ?_ (fun _ _ => ok_some.2 trivial)
  refine Ok.cd (fun h => by have := of_decide_eq_true h; omega) (fun _ => Ok.cd (fun h => by have := of_decide_eq_true h; omega) (fun _ => Ok.cd (fun h => by have := of_decide_eq_true h; omega) (fun _ => Ok.gd ?_ (ok_some.2 trivial))))
  have e : ∀ k : Nat, k ≤ 12 → inR (wrapF .u8 (k : Int)) 256 = true := by decide
  exact e k h
theorem sort_v {n : Nat} {l : List Int} (hn : 12 < n) (h : l.length ≤ 12) : slices_Sort_int_int_w n l = some (srt l) := by
  apply Ok.eq
  unfold slices_Sort_int_int_w
  refine Ok.bd (len64_small h) (fun v6 _ => ?_)
  refine Ok.bd (R := fun r => r = srt l) ?_ (fun r hr => ok_some.2 hr)
  unfold slices_pdqsortOrdered_int_w
  obtain ⟨m, rfl⟩ : ∃ m, n = m + 1 := ⟨n - 1, by omega⟩
  rw [loop_step]
  refine Ok.bd (R := fun r => r = srt l) ?_ (fun r hr => ok_some.2 hr)
  dsimp only
  rw [wrap64_in (by omega) (by omega)]
  refine Ok.gd (by simp; omega) ?_
  refine Ok.bd (insertion_v (by omega) (by omega)) (fun r hr => ok_some.2 ?_)
  exact srt_eq hr.1 (ord_pairwise (by rw [hr.2.1]; exact hr.2.2))
theorem getD_set2 {γ : Type} [Inhabited γ] {l : List γ} {i j p : Nat} {v w : γ} (hi : i < l.length) (hj : j < l.length) : ((l.set i v).set j w).getD p default = if p = j then w else if p = i then v else l.getD p default := by
  simp only [List.getD, List.getElem?_set, List.length_set]
  by_cases h1 : j = p
  · subst h1; simp [hj]
  · have h1' : ¬ p = j := fun e => h1 e.symm
    by_cases h2 : i = p
    · subst h2; simp [hi, h1, h1']
    · have h2' : ¬ p = i := fun e => h2 e.symm
      simp [h1, h1', h2, h2']
end Go.L

