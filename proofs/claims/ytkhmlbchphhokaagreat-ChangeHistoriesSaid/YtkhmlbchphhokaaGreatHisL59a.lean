import Derived.Test.YtkhmlbchphhokaaGreatHisLD
import Derived.Test.YtkhmlbchphhokaaGreatPl2pecfeoja
set_option linter.unusedVariables false
set_option linter.unusedSimpArgs false
namespace Go.L
open Go Go.Eng
def farB (z : Int) : Bool := decide (z < -1048576) || decide (z > 1048576)
def zBad (z : Int) : Bool := (z != -2147483648) && farB z
def eBad (z : Int) : Bool := decide (z < 0) || decide (z > 1048576)
theorem far_v (n : Nat) (z : Int) : terrain_far n z = some (farB z) := by
  unfold terrain_far farB; cases decide (z < -1048576) <;> rfl
theorem out_v (n : Nat) (z : Int) : fiduciallaw51_out n z = some (farB z) := by
  unfold fiduciallaw51_out farB; cases decide (z < -1048576) <;> rfl
theorem side_v (n : Nat) (z : Int) : terrain_Check_1 n z = some (decide (2 ≤ z) && decide (z ≤ 64)) := by
  unfold terrain_Check_1; by_cases h : 2 ≤ z <;> simp [cdO, h]
theorem c2_v (n : Nat) (z : Int) : terrain_Check_2 n z = some (zBad z) := by
  unfold terrain_Check_2 zBad; rw [far_v]; cases (z != -2147483648) <;> rfl
theorem e1_v (n : Nat) (z : Int) : change_Check_1 n z = some (eBad z) := by
  unfold change_Check_1 eBad; cases decide (z < 0) <;> rfl
theorem any_c2 {n : Nat} {s : List Int} (hn : s.length < n) (hl : s.length ≤ 9223372036854775806) : slices_ContainsFunc_int_int_of_terrain_Check_2 n s = some (s.any zBad) := by
  apply Ok.eq
  unfold slices_ContainsFunc_int_int_of_terrain_Check_2
  refine Ok.bd (R := fun r => decide (r ≥ 0) = s.any zBad) ?_ (fun r hr => ok_some.2 hr)
  unfold slices_IndexFunc_int_int_of_terrain_Check_2
  refine Ok.bd (R := fun o => match o with | .inl _ => s.any zBad = false | .inr r => decide (r ≥ 0) = true ∧ s.any zBad = true) ?_ ?_
  · refine ok_range (len := s.length) (fun k => ∀ j, j < k → zBad (s.getD j default) = false) hn hl (by intro j hj; omega) ?_ ?_
    · intro again k hk hP ih
      refine Ok.cd (fun _ => ?_) (fun h => ?_)
      · refine Ok.gd (by rw [inR_nat]; simpa using hk) ?_
        rw [gt_nat, c2_v]
        refine Ok.cd (fun h => ?_) (fun h => ?_)
        · exact ok_some.2 ⟨by simp, any_of_at hk h⟩
        · exact ih fun j hj => by
            by_cases hjk : j = k
            · rw [hjk]; exact h
            · exact hP j (by omega)
      · simp at h; omega
    · intro again hP
      refine Ok.cd (fun h => ?_) (fun _ => ?_)
      · simp at h
      · exact ok_some.2 (any_false_iff.2 hP)
  · rintro (_ | r) h
    · exact ok_some.2 (by simp only at h; rw [h]; rfl)
    · exact ok_some.2 (by simp only at h; rw [h.1, h.2])
theorem any_e1 {n : Nat} {s : List Int} (hn : s.length < n) (hl : s.length ≤ 9223372036854775806) : slices_ContainsFunc_int_int_of_change_Check_1 n s = some (s.any eBad) := by
  apply Ok.eq
  unfold slices_ContainsFunc_int_int_of_change_Check_1
  refine Ok.bd (R := fun r => decide (r ≥ 0) = s.any eBad) ?_ (fun r hr => ok_some.2 hr)
  unfold slices_IndexFunc_int_int_of_change_Check_1
  refine Ok.bd (R := fun o => match o with | .inl _ => s.any eBad = false | .inr r => decide (r ≥ 0) = true ∧ s.any eBad = true) ?_ ?_
  · refine ok_range (len := s.length) (fun k => ∀ j, j < k → eBad (s.getD j default) = false) hn hl (by intro j hj; omega) ?_ ?_
    · intro again k hk hP ih
      refine Ok.cd (fun _ => ?_) (fun h => ?_)
      · refine Ok.gd (by rw [inR_nat]; simpa using hk) ?_
        rw [gt_nat, e1_v]
        refine Ok.cd (fun h => ?_) (fun h => ?_)
        · exact ok_some.2 ⟨by simp, any_of_at hk h⟩
        · exact ih fun j hj => by
            by_cases hjk : j = k
            · rw [hjk]; exact h
            · exact hP j (by omega)
      · simp at h; omega
    · intro again hP
      refine Ok.cd (fun h => ?_) (fun _ => ?_)
      · simp at h
      · exact ok_some.2 (any_false_iff.2 hP)
  · rintro (_ | r) h
    · exact ok_some.2 (by simp only at h; rw [h]; rfl)
    · exact ok_some.2 (by simp only at h; rw [h.1, h.2])
def gridBad (g : api_Grid) : Bool := !(decide (2 ≤ g.Width) && decide (g.Width ≤ 64)) || !(decide (2 ≤ g.Height) && decide (g.Height ≤ 64)) || decide (g.Step < 2) || decide (g.Step > 65536) || (g.Step.tmod 2 != 0) || farB g.X0 || farB g.Y0
def codeG (g : api_Grid) : Int := if gridBad g = true then 2 else if (((g.Z.length : Int)) != wrapF .i64 (g.Width * g.Height)) = true then 4 else if g.Z.any zBad = true then 2 else 0
def codeB (b : api_Banded) : Int := if (codeG b.Grid != 0) = true then codeG b.Grid else if ((b.Err.length : Int) != b.Grid.Z.length) = true then 4 else if b.Err.any eBad = true then 2 else 0
theorem tcheck_v {n : Nat} {g : api_Grid} (hn : g.Z.length < n) (hl : g.Z.length ≤ 9223372036854775806) : terrain_Check n g = some (codeG g) := by
  unfold terrain_Check codeG gridBad
  simp only [side_v, far_v, any_c2 hn hl, bdO]
  cases (decide (2 ≤ g.Width) && decide (g.Width ≤ 64)) with
  | false => rfl
  | true =>
  cases (decide (2 ≤ g.Height) && decide (g.Height ≤ 64)) with
  | false => rfl
  | true =>
  cases decide (g.Step < 2) with
  | true => rfl
  | false =>
  cases decide (g.Step > 65536) with
  | true => rfl
  | false =>
  cases (g.Step.tmod 2 != 0) with
  | true => rfl
  | false =>
  cases farB g.X0 with
  | true => rfl
  | false =>
  cases farB g.Y0 with
  | true => rfl
  | false =>
  cases ((g.Z.length : Int) != wrapF .i64 (g.Width * g.Height)) with
  | true => rfl
  | false =>
  cases g.Z.any zBad <;> rfl
theorem ccheck_v {n : Nat} {b : api_Banded} (hn : b.Grid.Z.length < n) (hl : b.Grid.Z.length ≤ 9223372036854775806) (hn2 : b.Err.length < n) (hl2 : b.Err.length ≤ 9223372036854775806) : change_Check n b = some (codeB b) := by
  unfold change_Check codeB
  simp only [tcheck_v hn hl, any_e1 hn2 hl2, bdO]
  cases (codeG b.Grid != 0) with
  | true => rfl
  | false =>
  cases ((b.Err.length : Int) != b.Grid.Z.length) with
  | true => rfl
  | false => cases b.Err.any eBad <;> rfl
theorem lcheck_v {n : Nat} {g : api_Grid} (hn : g.Z.length < n) (hl : g.Z.length ≤ 9223372036854775806) : fiduciallaw51_check n g = some (codeG g) := by
  unfold fiduciallaw51_check codeG gridBad
  simp only [out_v, bdO]
  by_cases h1 : g.Width < 2
  · have : decide (2 ≤ g.Width) = false := by simp; omega
    simp [h1, cdO, this]
  by_cases h2 : g.Width > 64
  · have : decide (g.Width ≤ 64) = false := by simp; omega
    simp [h1, h2, cdO, this]
  by_cases h3 : g.Height < 2
  · have : decide (2 ≤ g.Height) = false := by simp; omega
    simp [h1, h2, h3, cdO, this]
  by_cases h4 : g.Height > 64
  · have : decide (g.Height ≤ 64) = false := by simp; omega
    simp [h1, h2, h3, h4, cdO, this]
  have e1 : (decide (2 ≤ g.Width) && decide (g.Width ≤ 64)) = true := by simp; omega
  have e2 : (decide (2 ≤ g.Height) && decide (g.Height ≤ 64)) = true := by simp; omega
  have d1 : decide (g.Width < 2) = false := by simpa using h1
  have d2 : decide (g.Width > 64) = false := by simpa using h2
  have d3 : decide (g.Height < 2) = false := by simpa using h3
  have d4 : decide (g.Height > 64) = false := by simpa using h4
  rw [e1, e2, d1, d2, d3, d4]
  cases decide (g.Step < 2) with
  | true => rfl
  | false =>
  cases decide (g.Step > 65536) with
  | true => rfl
  | false =>
  cases (g.Step.tmod 2 != 0) with
  | true => rfl
  | false =>
  cases farB g.X0 with
  | true => rfl
  | false =>
  cases farB g.Y0 with
  | true => rfl
  | false =>
  cases ((g.Z.length : Int) != wrapF .i64 (g.Width * g.Height)) with
  | true => rfl
  | false =>
  apply Ok.eq
  refine Ok.bd (R := fun o => match o with | .inl _ => g.Z.any zBad = false | .inr r => r = 2 ∧ g.Z.any zBad = true) ?_ ?_
  · refine ok_range (len := g.Z.length) (fun k => ∀ j, j < k → zBad (g.Z.getD j default) = false) hn hl (by intro j hj; omega) ?_ ?_
    · intro again k hk hP ih
      refine Ok.cd (fun _ => ?_) (fun h => ?_)
      · refine Ok.gd (by rw [inR_nat]; simpa using hk) ?_
        rw [gt_nat]
        have go : zBad (g.Z.getD k default) = false → ∀ j, j < k + 1 → zBad (g.Z.getD j default) = false := fun h j hj => by
            by_cases hjk : j = k
            · rw [hjk]; exact h
            · exact hP j (by omega)
        refine Ok.cd (fun h => ?_) (fun h => ih (go (by unfold zBad; rw [h]; rfl)))
        refine Ok.cd (fun h' => ?_) (fun h' => ih (go (by unfold zBad; rw [h, h']; rfl)))
        exact ok_some.2 ⟨rfl, any_of_at hk (by unfold zBad; rw [h, h']; rfl)⟩
      · simp at h; omega
    · intro again hP
      refine Ok.cd (fun h => ?_) (fun _ => ?_)
      · simp at h
      · exact ok_some.2 (any_false_iff.2 hP)
  · rintro (_ | r) h
    · exact ok_some.2 (by simp only at h; simp [h])
    · exact ok_some.2 (by simp only at h; simp [h.1, h.2])
theorem lcheckB_v {n : Nat} {b : api_Banded} (hn : b.Grid.Z.length < n) (hl : b.Grid.Z.length ≤ 9223372036854775806) (hn2 : b.Err.length < n) (hl2 : b.Err.length ≤ 9223372036854775806) : fiduciallaw59_check n b = some (codeB b) := by
  unfold fiduciallaw59_check fiduciallaw51_Checked codeB
  simp only [lcheck_v hn hl, bdO]
  cases (codeG b.Grid != 0) with
  | true => rfl
  | false =>
  cases ((b.Err.length : Int) != b.Grid.Z.length) with
  | true => rfl
  | false =>
  apply Ok.eq
  refine Ok.bd (R := fun o => match o with | .inl _ => b.Err.any eBad = false | .inr r => r = 2 ∧ b.Err.any eBad = true) ?_ ?_
  · refine ok_range (len := b.Err.length) (fun k => ∀ j, j < k → eBad (b.Err.getD j default) = false) hn2 hl2 (by intro j hj; omega) ?_ ?_
    · intro again k hk hP ih
      refine Ok.cd (fun _ => ?_) (fun h => ?_)
      · refine Ok.gd (by rw [inR_nat]; simpa using hk) ?_
        rw [gt_nat]
        refine Ok.cd (fun h => ok_some.2 ⟨rfl, any_of_at hk (by unfold eBad; rw [h]; rfl)⟩) (fun h => ?_)
        refine Ok.cd (fun h' => ok_some.2 ⟨rfl, any_of_at hk (by unfold eBad; rw [h, h']; rfl)⟩) (fun h' => ?_)
        exact ih fun j hj => by
          by_cases hjk : j = k
          · rw [hjk]; unfold eBad; rw [h, h']; rfl
          · exact hP j (by omega)
      · simp at h; omega
    · intro again hP
      refine Ok.cd (fun h => ?_) (fun _ => ?_)
      · simp at h
      · exact ok_some.2 (any_false_iff.2 hP)
  · rintro (_ | r) h
    · exact ok_some.2 (by simp only at h; simp [h])
    · exact ok_some.2 (by simp only at h; simp [h.1, h.2])
structure Good (b : api_Banded) : Prop where
  w : 2 ≤ b.Grid.Width ∧ b.Grid.Width ≤ 64
  h : 2 ≤ b.Grid.Height ∧ b.Grid.Height ≤ 64
  step : 2 ≤ b.Grid.Step ∧ b.Grid.Step ≤ 65536
  len : (b.Grid.Z.length : Int) = b.Grid.Width * b.Grid.Height
  elen : b.Err.length = b.Grid.Z.length
  z : ∀ k, k < b.Grid.Z.length → b.Grid.Z.getD k default = -2147483648 ∨ (-1048576 ≤ b.Grid.Z.getD k default ∧ b.Grid.Z.getD k default ≤ 1048576)
  e : ∀ k, k < b.Err.length → 0 ≤ b.Err.getD k default ∧ b.Err.getD k default ≤ 1048576
theorem area {w h : Int} (hw : 2 ≤ w ∧ w ≤ 64) (hh : 2 ≤ h ∧ h ≤ 64) : 0 ≤ w * h ∧ w * h ≤ 4096 :=
  ⟨Int.mul_nonneg (by omega) (by omega), by have := Int.mul_le_mul hw.2 hh.2 (by omega) (by omega); omega⟩
theorem good_of {b : api_Banded} (h : codeB b = 0) : Good b := by
  unfold codeB at h
  by_cases h1 : (codeG b.Grid != 0) = true
  · rw [if_pos h1] at h; simp only [bne_iff_ne] at h1; exact (h1 h).elim
  rw [if_neg h1] at h
  by_cases h2 : ((b.Err.length : Int) != b.Grid.Z.length) = true
  · rw [if_pos h2] at h; cases h
  rw [if_neg h2] at h
  by_cases h3 : b.Err.any eBad = true
  · rw [if_pos h3] at h; cases h
  have hG : codeG b.Grid = 0 := by simpa using h1
  unfold codeG at hG
  by_cases g1 : gridBad b.Grid = true
  · rw [if_pos g1] at hG; cases hG
  rw [if_neg g1] at hG
  by_cases g2 : ((b.Grid.Z.length : Int) != wrapF .i64 (b.Grid.Width * b.Grid.Height)) = true
  · rw [if_pos g2] at hG; cases hG
  rw [if_neg g2] at hG
  by_cases g3 : b.Grid.Z.any zBad = true
  · rw [if_pos g3] at hG; cases hG
  simp only [gridBad, Bool.or_eq_true, Bool.not_eq_true', not_or, Bool.not_eq_false, Bool.and_eq_true, decide_eq_true_eq] at g1
  obtain ⟨⟨⟨⟨⟨⟨p1, p2⟩, p3⟩, p4⟩, p5⟩, p6⟩, p7⟩ := g1
  have ha := area p1 p2
  have g2' : (b.Grid.Z.length : Int) = wrapF .i64 (b.Grid.Width * b.Grid.Height) := by simpa using g2
  rw [wrap64_in (by omega) (by omega)] at g2'
  have h2' : b.Err.length = b.Grid.Z.length := by
    have : (b.Err.length : Int) = b.Grid.Z.length := by simpa using h2
    omega
  refine ⟨p1, p2, by omega, g2', h2', fun k hk => ?_, fun k hk => ?_⟩
  · have := any_false_iff.1 (by simpa using g3) k hk
    simp only [zBad, farB, Bool.and_eq_false_iff, Bool.or_eq_false_iff, decide_eq_false_iff_not] at this
    rcases this with h | h
    · left; simpa using h
    · right; omega
  · have := any_false_iff.1 (by simpa using h3) k hk
    simp only [eBad, Bool.or_eq_false_iff, decide_eq_false_iff_not] at this
    omega
end Go.L

