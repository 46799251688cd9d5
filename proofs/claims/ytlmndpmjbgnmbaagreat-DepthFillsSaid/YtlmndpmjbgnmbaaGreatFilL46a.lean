import Derived.Test.YtlmndpmjbgnmbaaGreatFilLD
import Derived.Test.YtlmndpmjbgnmbaaGreatPl6ldackjln
import Derived.KernelRfl
set_option linter.unusedVariables false
set_option linter.unusedSimpArgs false
namespace Go.L
open Go Go.Eng
theorem known46_v : fiduciallaw46_known 5000 = some true := by kernel_rfl
def cellBad (z : Int) : Bool := decide (z < -1) || decide (z > 1048576)
theorem c1_v (n : Nat) (z : Int) : depth_Check_1 n z = some (cellBad z) := by
  unfold depth_Check_1 cellBad; cases decide (z < -1) <;> rfl
theorem v1_v (n : Nat) (z : Int) : fiduciallaw46_Valid_1 n z = some (cellBad z) := by
  unfold fiduciallaw46_Valid_1 cellBad; cases decide (z < -1) <;> rfl
theorem any_c {n : Nat} {s : List Int} (hn : s.length < n) (hl : s.length ≤ 9223372036854775806) : slices_ContainsFunc_int_int_of_depth_Check_1 n s = some (s.any cellBad) := by
  unfold slices_ContainsFunc_int_int_of_depth_Check_1
  have : slices_IndexFunc_int_int_of_depth_Check_1 n s = some (idxB cellBad s) := loop_indexF (fun x => c1_v n x) hn hl
  rw [this]; show some (decide (idxB cellBad s ≥ 0)) = _; rw [idxB_ge]
theorem any_v {n : Nat} {s : List Int} (hn : s.length < n) (hl : s.length ≤ 9223372036854775806) : slices_ContainsFunc_int_int_of_fiduciallaw46_Valid_1 n s = some (s.any cellBad) := by
  unfold slices_ContainsFunc_int_int_of_fiduciallaw46_Valid_1
  have : slices_IndexFunc_int_int_of_fiduciallaw46_Valid_1 n s = some (idxB cellBad s) := loop_indexF (fun x => v1_v n x) hn hl
  rw [this]; show some (decide (idxB cellBad s ≥ 0)) = _; rw [idxB_ge]
structure OkF (f : api_Field) : Prop where
  w : 1 ≤ f.Width ∧ f.Width ≤ 64
  h : 1 ≤ f.Height ∧ f.Height ≤ 64
  len : (f.V.length : Int) = f.Width * f.Height
  v : ∀ k, k < f.V.length → -1 ≤ f.V.getD k default ∧ f.V.getD k default ≤ 1048576
def okF (f : api_Field) : Bool := (decide (1 ≤ f.Width) && decide (f.Width ≤ 64) && decide (1 ≤ f.Height) && decide (f.Height ≤ 64)) && (((f.V.length : Int) == f.Width * f.Height) && !f.V.any cellBad)
theorem okF_iff {f : api_Field} : okF f = true ↔ OkF f := by
  unfold okF
  simp only [Bool.and_eq_true, decide_eq_true_eq, beq_iff_eq, Bool.not_eq_true', any_false_iff]
  constructor
  · rintro ⟨⟨⟨⟨h1, h2⟩, h3⟩, h4⟩, h5, h6⟩
    refine ⟨⟨h1, h2⟩, ⟨h3, h4⟩, h5, fun k hk => ?_⟩
    have := h6 k hk
    simp only [cellBad, Bool.or_eq_false_iff, decide_eq_false_iff_not] at this
    omega
  · rintro ⟨⟨h1, h2⟩, ⟨h3, h4⟩, h5, h6⟩
    refine ⟨⟨⟨⟨h1, h2⟩, h3⟩, h4⟩, h5, fun k hk => ?_⟩
    have := h6 k hk
    simp only [cellBad, Bool.or_eq_false_iff, decide_eq_false_iff_not]
    omega
theorem area46 {w h : Int} (hw : 1 ≤ w ∧ w ≤ 64) (hh : 1 ≤ h ∧ h ≤ 64) : 1 ≤ w * h ∧ w * h ≤ 4096 := by
  have h1 := Int.mul_le_mul hw.2 hh.2 (by omega) (by omega)
  have h2 := Int.mul_le_mul hw.1 hh.1 (by omega) (by omega)
  omega
theorem check_v {n : Nat} {f : api_Field} (hn : f.V.length < n) (hl : f.V.length ≤ 9223372036854775806) : depth_Check n f = some (if okF f = true then 0 else 1) := by
  unfold depth_Check okF
  rw [any_c hn hl]
  by_cases h1 : f.Width < 1
  · have : decide (1 ≤ f.Width) = false := by simp; omega
    simp [h1, cdO, this]
  by_cases h2 : f.Width > 64
  · have : decide (f.Width ≤ 64) = false := by simp; omega
    simp [h1, h2, cdO, this]
  by_cases h3 : f.Height < 1
  · have : decide (1 ≤ f.Height) = false := by simp; omega
    simp [h1, h2, h3, cdO, this]
  by_cases h4 : f.Height > 64
  · have : decide (f.Height ≤ 64) = false := by simp; omega
    simp [h1, h2, h3, h4, cdO, this]
  have ha := area46 (w := f.Width) (h := f.Height) (by omega) (by omega)
  have e1 : decide (1 ≤ f.Width) = true := by simp; omega
  have e2 : decide (f.Width ≤ 64) = true := by simp; omega
  have e3 : decide (1 ≤ f.Height) = true := by simp; omega
  have e4 : decide (f.Height ≤ 64) = true := by simp; omega
  have d1 : decide (f.Width < 1) = false := by simpa using h1
  have d2 : decide (f.Width > 64) = false := by simpa using h2
  have d3 : decide (f.Height < 1) = false := by simpa using h3
  have d4 : decide (f.Height > 64) = false := by simpa using h4
  rw [wrap64_in (by omega) (by omega), e1, e2, e3, e4, d1, d2, d3, d4]
  by_cases h5 : (f.V.length : Int) = f.Width * f.Height
  · have b1 : ((f.V.length : Int) != f.Width * f.Height) = false := by simpa using h5
    have b2 : ((f.V.length : Int) == f.Width * f.Height) = true := by simpa using h5
    rw [b1, b2]
    cases f.V.any cellBad <;> rfl
  · have b1 : ((f.V.length : Int) != f.Width * f.Height) = true := by simpa using h5
    have b2 : ((f.V.length : Int) == f.Width * f.Height) = false := by simpa using h5
    rw [b1, b2]
    rfl
theorem valid_v {n : Nat} {f : api_Field} (hn : f.V.length < n) (hl : f.V.length ≤ 9223372036854775806) : fiduciallaw46_Valid n f = some (okF f) := by
  unfold fiduciallaw46_Valid okF
  rw [any_v hn hl]
  by_cases h1 : mn f.Width f.Height ≥ 1
  · by_cases h2 : mx f.Width f.Height ≤ 64
    · rw [mn_eq] at h1; rw [mx_eq] at h2
      have ha := area46 (w := f.Width) (h := f.Height) (by omega) (by omega)
      have d1 : decide (mn f.Width f.Height ≥ 1) = true := by rw [mn_eq]; simpa using h1
      have d2 : decide (mx f.Width f.Height ≤ 64) = true := by rw [mx_eq]; simpa using h2
      have e1 : decide (1 ≤ f.Width) = true := by simp; omega
      have e2 : decide (f.Width ≤ 64) = true := by simp; omega
      have e3 : decide (1 ≤ f.Height) = true := by simp; omega
      have e4 : decide (f.Height ≤ 64) = true := by simp; omega
      rw [d1, d2, e1, e2, e3, e4, wrap64_in (by omega) (by omega)]
      by_cases h5 : (f.V.length : Int) = f.Width * f.Height
      · have b2 : ((f.V.length : Int) == f.Width * f.Height) = true := by simpa using h5
        rw [b2]; rfl
      · have b2 : ((f.V.length : Int) == f.Width * f.Height) = false := by simpa using h5
        rw [b2]; rfl
    · have d1 : decide (mn f.Width f.Height ≥ 1) = true := by simpa using h1
      have d2 : decide (mx f.Width f.Height ≤ 64) = false := by simpa using h2
      rw [mx_eq] at h2
      have e : (decide (1 ≤ f.Width) && decide (f.Width ≤ 64) && decide (1 ≤ f.Height) && decide (f.Height ≤ 64)) = false := by
        by_cases h : f.Width ≤ 64
        · have : decide (f.Height ≤ 64) = false := by simp; omega
          rw [this, Bool.and_false]
        · have : decide (f.Width ≤ 64) = false := by simpa using h
          rw [this, Bool.and_false]; rfl
      rw [d1, d2, e]; rfl
  · have d1 : decide (mn f.Width f.Height ≥ 1) = false := by simpa using h1
    rw [mn_eq] at h1
    have e : (decide (1 ≤ f.Width) && decide (f.Width ≤ 64) && decide (1 ≤ f.Height) && decide (f.Height ≤ 64)) = false := by
      by_cases h : 1 ≤ f.Width
      · have : decide (1 ≤ f.Height) = false := by simp; omega
        rw [this, Bool.and_false]; rfl
      · have : decide (1 ≤ f.Width) = false := by simpa using h
        rw [this]; rfl
    rw [d1, e]; rfl
def fewF (f : api_Field) : Bool := decide ((f.V.length : Int) ≤ 80) && (!okF f || (decide (f.Width ≤ 8) && decide (f.Height ≤ 8)))
theorem few_v {n : Nat} {f : api_Field} (hn : 100 < n) : fiduciallaw46_few n f = some (fewF f) := by
  unfold fiduciallaw46_few fewF
  by_cases h : (f.V.length : Int) ≤ 80
  · have d : decide ((f.V.length : Int) ≤ 80) = true := by simpa using h
    rw [d, valid_v (by omega) (by omega)]
    cases okF f
    · rfl
    · cases decide (f.Width ≤ 8) <;> rfl
  · have d : decide ((f.V.length : Int) ≤ 80) = false := by simpa using h
    rw [d]; rfl
theorem few_len {f : api_Field} (h : fewF f = true) : f.V.length ≤ 80 := by
  unfold fewF at h; simp at h; omega
end Go.L

