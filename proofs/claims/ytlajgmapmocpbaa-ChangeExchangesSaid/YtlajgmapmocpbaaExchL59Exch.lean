/- The law ChangeExchanges answers true. -/
import Derived.Test.YtlajgmapmocpbaaExchL59c
set_option linter.unusedVariables false
set_option linter.unusedSimpArgs false
namespace Go.L
open Go Go.Eng

theorem codeB_two {a b : api_Banded} (h : codeF [a, b] = 0) : codeB a = 0 ∧ codeB b = 0 ∧ sameG a.Grid b.Grid = true := by
  unfold codeF at h
  cases ha : (codeB a != 0) with
  | true => rw [List.find?_cons_of_pos (by simpa using ha)] at h; simp at ha; exact (ha h).elim
  | false =>
  rw [List.find?_cons_of_neg (by simp at ha; simp [ha])] at h
  cases hb : (codeB b != 0) with
  | true => rw [List.find?_cons_of_pos (by simpa using hb)] at h; simp at hb; exact (hb h).elim
  | false =>
  rw [List.find?_cons_of_neg (by simp at hb; simp [hb]), List.find?_nil] at h
  simp at ha hb
  simp [sameG] at h
  exact ⟨ha, hb, by simp [sameG, h]⟩
theorem codeF_mk {a b : api_Banded} (ha : codeB a = 0) (hb : codeB b = 0) (hs : sameG a.Grid b.Grid = true) : codeF [a, b] = 0 := by
  unfold codeF
  rw [List.find?_cons_of_neg (by simp [ha]), List.find?_cons_of_neg (by simp [hb]), List.find?_nil]
  simp only [sameG, Bool.and_eq_true, beq_iff_eq] at hs
  simp [sameG, hs]
theorem sameG_symm {f g : api_Grid} (h : sameG f g = true) : sameG g f = true := by
  simp only [sameG, Bool.and_eq_true, beq_iff_eq] at *
  omega
theorem codeB_err {b : api_Banded} {s : List Int} (h : codeB b = 0) (hl : s.length = b.Err.length) (he : ∀ j, j < b.Err.length → 0 ≤ s.getD j default ∧ s.getD j default ≤ b.Err.getD j default) : codeB ⟨b.Grid, s⟩ = 0 := by
  have g := good_of h
  unfold codeB at *
  simp only at *
  by_cases h1 : (codeG b.Grid != 0) = true
  · rw [if_pos h1] at h; simp at h1; exact (h1 h).elim
  · rw [if_neg h1] at h ⊢
    by_cases h2 : ((b.Err.length : Int) != b.Grid.Z.length) = true
    · rw [if_pos h2] at h; cases h
    · rw [if_neg h2] at h
      rw [hl, if_neg h2]
      have : s.any eBad = false := any_false_iff.2 fun j hj => by
        have a1 := he j (by omega)
        have a2 := g.e j (by omega)
        simp only [eBad, Bool.or_eq_false_iff, decide_eq_false_iff_not]; omega
      rw [this]; rfl
theorem verd_swap {a b : api_Banded} {k : Nat} (hb : 0 ≤ bnd a b k) : verd b a k = if verd a b k = 1 then 2 else if verd a b k = 2 then 1 else verd a b k := by
  have e1 : isOk b a k = isOk a b k := by unfold isOk; rw [Bool.or_comm]
  have e2 : bnd b a k = bnd a b k := by unfold bnd; omega
  have e3 : dif b a k = -dif a b k := by unfold dif; omega
  unfold verd
  rw [e1, e2, e3]
  cases isOk a b k with
  | false => rfl
  | true =>
  simp only [if_true]
  repeat' split
  all_goals first | rfl | omega
theorem verd_less {a b : api_Banded} {s : List Int} {k : Nat} (ha : 0 ≤ a.Err.getD k default) (h0 : 0 ≤ s.getD k default) (h : s.getD k default ≤ b.Err.getD k default) (hv : verd a b k ≠ 0) : verd a ⟨b.Grid, s⟩ k = verd a b k := by
  have e1 : isOk a ⟨b.Grid, s⟩ k = isOk a b k := rfl
  have e3 : dif a ⟨b.Grid, s⟩ k = dif a b k := rfl
  have e2 : bnd a ⟨b.Grid, s⟩ k = a.Err.getD k default + s.getD k default := rfl
  have e4 : bnd a b k = a.Err.getD k default + b.Err.getD k default := rfl
  unfold verd at hv ⊢
  rw [e1, e2, e3]
  cases hok : isOk a b k with
  | false => rfl
  | true =>
  rw [hok] at hv
  simp only [if_true] at hv ⊢
  split at hv
  · rw [if_pos (by omega)]
    split <;> first | rfl | omega
  · split at hv
    · rw [if_neg (by omega), if_pos (by omega)]
      split
      · omega
      · first | rfl | (split <;> first | rfl | omega)
    · exact (hv rfl).elim
theorem mn_nat {m l : Nat} : mn (m : Int) (l : Int) = ((min m l : Nat) : Int) := by
  unfold mn; split <;> omega

theorem exch_v (a b : api_Banded) (less : List Int) (h0 : Bytes less) : fiduciallaw59_ChangeExchanges 5000 a b less = some true := by
  apply Ok.eq
  unfold fiduciallaw59_ChangeExchanges
  refine Ok.bde known59_v ?_
  refine Ok.cd (fun h => by cases h) (fun _ => ?_)
  refine Ok.bde (few_v (by simp) (by simp)) ?_
  refine Ok.cd (fun h => ok_some.2 rfl) (fun hfew => ?_)
  have hfew : fewB [a, b] = true := by simpa using hfew
  have hs := short_of_few (l := [a, b]) (by simp) hfew
  refine Ok.bde (fits_v hs) ?_
  refine Ok.cd (fun h => ok_some.2 rfl) (fun hc => ?_)
  have hc : codeF [a, b] = 0 := by simpa using hc
  have f := codeF_two hc
  obtain ⟨ca, cb, sg⟩ := codeB_two hc
  have hc2 := codeF_mk cb ca (sameG_symm sg)
  have f2 := codeF_two hc2
  have hs2 : Short 5000 [b, a] := by
    refine ⟨by simp, by simp, fun k hk => ?_⟩
    have k0 := hs.2.2 0 (by simp)
    have k1 := hs.2.2 1 (by simp)
    rcases k with _ | _ | k
    · exact k1
    · exact k0
    · simp at hk; omega
  refine Ok.bde (compare_v (by decide) f hs hc) ?_
  refine Ok.bde (compare_v (by decide) f2 hs2 hc2) ?_
  have k1 := hs.2.2 1 (by simp)
  have hb1 : b.Err.length < 5000 := k1.2.1
  refine Ok.bde (b := b.Err) (by
    unfold slices_Clone_int_int
    rw [show decide ((0 + b.Err.length) * 8 ≤ 140737488355328) = true by simp; omega, show decide (0 + b.Err.length ≤ 4611686018427387904) = true by simp; omega]
    rfl) ?_
  refine Ok.bd (R := fun c => c.length = b.Err.length ∧ ∀ j, j < b.Err.length → 0 ≤ c.getD j default ∧ c.getD j default ≤ b.Err.getD j default) ?_ ?_
  · refine ok_rangeR (len := min less.length b.Err.length) (fun k c => c.length = b.Err.length ∧ ∀ j, j < b.Err.length → 0 ≤ c.getD j default ∧ c.getD j default ≤ b.Err.getD j default) (by omega) (by omega) ⟨rfl, fun j hj => ⟨(f.gb.e j hj).1, Int.le_refl _⟩⟩ ?_ ?_
    · rintro again k c hk ⟨hl, hc⟩ ih
      refine Ok.cd (fun _ => ?_) (fun h => by rw [mn_nat] at h; simp only [decide_eq_false_iff_not] at h; omega)
      refine Ok.gd (by rw [inR_nat]; simp; omega) (Ok.gd (by rw [inR_nat]; simp; omega) (Ok.gd (by rw [inR_nat]; simp; omega) ?_))
      rw [gt_nat, gt_nat]
      have e := f.gb.e k (by omega)
      have p := h0 k (by omega)
      have h1 : 0 ≤ b.Err.getD k default * less.getD k default := Int.mul_nonneg e.1 p.1
      have h2 : b.Err.getD k default * less.getD k default ≤ b.Err.getD k default * 255 := Int.mul_le_mul_of_nonneg_left p.2 e.1
      rw [wrap64_in (n := less.getD k default) (by omega) (by omega), wrap64_in (n := b.Err.getD k default * less.getD k default) (by omega) (by omega), Int.tdiv_eq_ediv_of_nonneg h1, wrap64_in (n := b.Err.getD k default * less.getD k default / 255) (by omega) (by omega)]
      refine ih _ ⟨by simpa using hl, fun j hj => ?_⟩
      simp only [Int.toNat_natCast]
      by_cases hjk : j = k
      · subst hjk
        rw [List.getD_eq_getElem?_getD, List.getElem?_set_self (by omega)]
        simp only [Option.getD_some]
        omega
      · rw [List.getD_eq_getElem?_getD, List.getElem?_set_ne (by omega), ← List.getD_eq_getElem?_getD]
        exact hc j hj
    · rintro again c hP
      refine Ok.cd (fun h => by rw [mn_nat] at h; simp only [decide_eq_true_eq] at h; omega) (fun _ => ok_some.2 hP)
  · rintro c ⟨hl, hcl⟩
    have cs := codeB_err cb hl hcl
    have hc3 : codeF [a, ⟨b.Grid, c⟩] = 0 := codeF_mk ca cs sg
    have f3 := codeF_two hc3
    have hs3 : Short 5000 [a, ⟨b.Grid, c⟩] := by
      refine ⟨by simp, by simp, fun k hk => ?_⟩
      have k0 := hs.2.2 0 (by simp)
      rcases k with _ | _ | k
      · exact k0
      · refine ⟨k1.1, ?_⟩
        show c.length < 5000 ∧ c.length ≤ _
        rw [hl]; exact k1.2
      · simp at hk; omega
    refine Ok.bde (compare_v (by decide) f3 hs3 hc3) ?_
    refine Ok.cd (fun h => by simp at h) (fun _ => Ok.cd (fun h => by simp at h) (fun _ => Ok.cd (fun h => by simp at h) (fun _ => ?_)))
    refine Ok.cd (fun h => by simp [f.len] at h) (fun _ => Ok.cd (fun h => by simp at h) (fun _ => ?_))
    have hlen := good_short f.ga
    refine Ok.bd (R := fun o => match o with | .inl _ => True | .inr r => r = true) ?_ ?_
    · refine ok_range (len := ((List.range a.Grid.Z.length).map (verd a b)).length) (fun k => True) (by simp; omega) (by simp; omega) trivial ?_ ?_
      · intro again k hk _ ih
        simp only [List.length_map, List.length_range] at hk
        have hkb : k < b.Grid.Z.length := by rw [f.len]; exact hk
        have i1 : inR (k : Int) ((List.range a.Grid.Z.length).map (verd a b)).length = true := by rw [inR_nat]; simpa using hk
        have i2 : inR (k : Int) ((List.range b.Grid.Z.length).map (verd b a)).length = true := by rw [inR_nat]; simpa using hkb
        have i3 : inR (k : Int) ((List.range a.Grid.Z.length).map (verd a ⟨b.Grid, c⟩)).length = true := by rw [inR_nat]; simpa using hk
        have g1 := verd_swap (a := a) (b := b) (k := k) (by have := (f.ga.e k (by rw [f.ga.elen]; exact hk)).1; have := (f.gb.e k (by rw [f.gb.elen]; exact hkb)).1; unfold bnd; omega)
        have g2 := verd_less (a := a) (b := b) (s := c) (k := k) (f.ga.e k (by rw [f.ga.elen]; exact hk)).1 (hcl k (by rw [f.gb.elen]; exact hkb)).1 (hcl k (by rw [f.gb.elen]; exact hkb)).2
        have hi := ih trivial
        refine Ok.cd (fun _ => ?_) (fun h => by simp at h; omega)
        rw [i1, i2, i3]
        simp only [gt_nat, getD_map_range hk, getD_map_range hkb]
        generalize verd a b k = v at *
        generalize verd b a k = m at *
        generalize verd a ⟨b.Grid, c⟩ k = w at *
        simp only [ok_cd, ok_gd, ok_some, beq_iff_eq, bne_iff_ne, beq_eq_false_iff_ne, bne_eq_false_iff_eq, hi, true_and, and_true, implies_true, Bool.false_eq_true]
        have g1' : (v = 1 → m = 2) ∧ (v = 2 → m = 1) ∧ (v ≠ 1 → v ≠ 2 → m = v) := by
          subst g1
          refine ⟨fun h => by simp [h], fun h => by simp [h], fun h h' => by simp [h, h']⟩
        omega
      · intro again _
        exact Ok.cd (fun h => by simp at h) (fun _ => ok_some.2 trivial)
    · rintro (_ | r) h
      · exact ok_some.2 rfl
      · exact ok_some.2 h
end Go.L
