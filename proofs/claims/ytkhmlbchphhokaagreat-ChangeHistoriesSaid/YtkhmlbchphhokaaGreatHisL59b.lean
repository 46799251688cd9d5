import Derived.Test.YtkhmlbchphhokaaGreatHisL59a
set_option linter.unusedVariables false
set_option linter.unusedSimpArgs false
namespace Go.L
open Go Go.Eng
theorem find_at {γ : Type} [Inhabited γ] {p : γ → Bool} : ∀ {l : List γ} {k : Nat}, k < l.length → (∀ j, j < k → p (l.getD j default) = false) → p (l.getD k default) = true → l.find? p = some (l.getD k default)
  | [], k, h, _, _ => by simp at h
  | x :: l, 0, _, _, h => by simp at h; simp [h]
  | x :: l, k + 1, hk, hj, h => by
    have h0 := hj 0 (by omega)
    simp at h0
    rw [List.find?_cons_of_neg (by simp [h0])]
    have := find_at (l := l) (k := k) (by simpa using hk) (fun j hjk => by simpa using hj (j + 1) (by omega)) (by simpa using h)
    simpa using this
theorem find_no {γ : Type} [Inhabited γ] {p : γ → Bool} {l : List γ} (h : ∀ j, j < l.length → p (l.getD j default) = false) : l.find? p = none := by
  rw [List.find?_eq_none]
  intro x hx
  obtain ⟨j, hj, rfl⟩ := List.getElem_of_mem hx
  have := h j hj
  simp only [List.getD, List.getElem?_eq_getElem hj, Option.getD_some] at this
  simp [this]
def sameG (f g : api_Grid) : Bool := f.X0 == g.X0 && f.Y0 == g.Y0 && f.Step == g.Step && f.Width == g.Width && f.Height == g.Height
def codeF (l : List api_Banded) : Int := match l.find? (fun b => codeB b != 0) with | some b => codeB b | none => if l.any (fun b => !sameG (l.getD 0 default).Grid b.Grid) then 4 else 0
def Short (n : Nat) (l : List api_Banded) : Prop := l.length < n ∧ l.length ≤ 9223372036854775806 ∧ ∀ k, k < l.length → ((l.getD k default).Grid.Z.length < n ∧ (l.getD k default).Grid.Z.length ≤ 9223372036854775806) ∧ (l.getD k default).Err.length < n ∧ (l.getD k default).Err.length ≤ 9223372036854775806
theorem fit_v {n : Nat} {l : List api_Banded} (hs : Short n l) : change_fit n l = some (codeF l) := by
  obtain ⟨hn, hl, hg⟩ := hs
  apply Ok.eq
  unfold change_fit
  refine Ok.bd (R := fun o => match o with | .inl _ => l.find? (fun b => codeB b != 0) = none | .inr r => r = codeF l) ?_ ?_
  · refine ok_range (len := l.length) (fun k => ∀ j, j < k → (codeB (l.getD j default) != 0) = false) hn hl (by intro j hj; omega) ?_ ?_
    · intro again k hk hP ih
      refine Ok.cd (fun _ => ?_) (fun h => ?_)
      · refine Ok.gd (by rw [inR_nat]; simpa using hk) ?_
        rw [gt_nat]
        obtain ⟨⟨a1, a2⟩, a3, a4⟩ := hg k hk
        rw [ccheck_v a1 a2 a3 a4]
        refine Ok.cd (fun h => ?_) (fun h => ?_)
        · refine ok_some.2 ?_
          simp only [codeF, find_at (p := fun b => codeB b != 0) hk hP h]
        · exact ih fun j hj => by
            by_cases hjk : j = k
            · rw [hjk]; exact h
            · exact hP j (by omega)
      · simp at h; omega
    · intro again hP
      refine Ok.cd (fun h => ?_) (fun _ => ?_)
      · simp at h
      · exact ok_some.2 (find_no (p := fun b => codeB b != 0) hP)
  · rintro (_ | r) h
    · simp only at h
      refine Ok.bd (R := fun o => match o with | .inl _ => l.any (fun b => !sameG (l.getD 0 default).Grid b.Grid) = false | .inr r => r = 4 ∧ l.any (fun b => !sameG (l.getD 0 default).Grid b.Grid) = true) ?_ ?_
      · refine ok_range (len := l.length) (fun k => ∀ j, j < k → (!sameG (l.getD 0 default).Grid (l.getD j default).Grid) = false) hn hl (by intro j hj; omega) ?_ ?_
        · intro again k hk hP ih
          refine Ok.cd (fun _ => ?_) (fun h => ?_)
          · refine Ok.gd (by rw [inR_nat]; simpa using hk) (Ok.gd (by simp [inR]; omega) ?_)
            rw [gt_nat, show gt l 0 = l.getD 0 default from rfl]
            have bad : (!sameG (l.getD 0 default).Grid (l.getD k default).Grid) = true → Ok (some (Sum.inr (4 : Int) : Sum Unit Int)) (fun o => match o with | .inl _ => l.any (fun b => !sameG (l.getD 0 default).Grid b.Grid) = false | .inr r => r = 4 ∧ l.any (fun b => !sameG (l.getD 0 default).Grid b.Grid) = true) := fun h => ok_some.2 ⟨rfl, any_of_at (p := fun b => !sameG (l.getD 0 default).Grid b.Grid) hk h⟩
            refine Ok.cd (fun h => bad (by unfold sameG; simp at h; simp [h])) (fun h1 => ?_)
            refine Ok.cd (fun h => bad (by unfold sameG; simp at h; simp [h])) (fun h2 => ?_)
            refine Ok.cd (fun h => bad (by unfold sameG; simp at h; simp [h])) (fun h3 => ?_)
            refine Ok.cd (fun h => bad (by unfold sameG; simp at h; simp [h])) (fun h4 => ?_)
            refine Ok.cd (fun h => bad (by unfold sameG; simp at h; simp [h])) (fun h5 => ?_)
            refine ih fun j hj => ?_
            by_cases hjk : j = k
            · rw [hjk]; unfold sameG; simp at h1 h2 h3 h4 h5; simp [h1, h2, h3, h4, h5]
            · exact hP j (by omega)
          · simp at h; omega
        · intro again hP
          refine Ok.cd (fun h => ?_) (fun _ => ?_)
          · simp at h
          · exact ok_some.2 (any_false_iff.2 hP)
      · rintro (_ | r) h'
        · exact ok_some.2 (by simp only at h'; simp only [codeF, h, h']; rfl)
        · exact ok_some.2 (by simp only at h'; simp only [codeF, h, h'.2, h'.1]; rfl)
    · exact ok_some.2 h
theorem fits_v {n : Nat} {l : List api_Banded} (hs : Short n l) : fiduciallaw59_fits n l = some (codeF l) := by
  obtain ⟨hn, hl, hg⟩ := hs
  apply Ok.eq
  unfold fiduciallaw59_fits
  refine Ok.bd (R := fun o => match o with | .inl _ => l.find? (fun b => codeB b != 0) = none | .inr r => r = codeF l) ?_ ?_
  · refine ok_range (len := l.length) (fun k => ∀ j, j < k → (codeB (l.getD j default) != 0) = false) hn hl (by intro j hj; omega) ?_ ?_
    · intro again k hk hP ih
      refine Ok.cd (fun _ => ?_) (fun h => ?_)
      · refine Ok.gd (by rw [inR_nat]; simpa using hk) ?_
        rw [gt_nat]
        obtain ⟨⟨a1, a2⟩, a3, a4⟩ := hg k hk
        rw [lcheckB_v a1 a2 a3 a4]
        refine Ok.cd (fun h => ?_) (fun h => ?_)
        · refine ok_some.2 ?_
          simp only [codeF, find_at (p := fun b => codeB b != 0) hk hP h]
        · exact ih fun j hj => by
            by_cases hjk : j = k
            · rw [hjk]; exact h
            · exact hP j (by omega)
      · simp at h; omega
    · intro again hP
      refine Ok.cd (fun h => ?_) (fun _ => ?_)
      · simp at h
      · exact ok_some.2 (find_no (p := fun b => codeB b != 0) hP)
  · rintro (_ | r) h
    · simp only at h
      refine Ok.bd (R := fun o => match o with | .inl _ => l.any (fun b => !sameG (l.getD 0 default).Grid b.Grid) = false | .inr r => r = 4 ∧ l.any (fun b => !sameG (l.getD 0 default).Grid b.Grid) = true) ?_ ?_
      · refine ok_range (len := l.length) (fun k => ∀ j, j < k → (!sameG (l.getD 0 default).Grid (l.getD j default).Grid) = false) hn hl (by intro j hj; omega) ?_ ?_
        · intro again k hk hP ih
          refine Ok.cd (fun _ => ?_) (fun h => ?_)
          · refine Ok.gd (by rw [inR_nat]; simpa using hk) (Ok.gd (by simp [inR]; omega) ?_)
            rw [gt_nat, show gt l 0 = l.getD 0 default from rfl]
            have bad : (!sameG (l.getD 0 default).Grid (l.getD k default).Grid) = true → Ok (some (Sum.inr (4 : Int) : Sum Unit Int)) (fun o => match o with | .inl _ => l.any (fun b => !sameG (l.getD 0 default).Grid b.Grid) = false | .inr r => r = 4 ∧ l.any (fun b => !sameG (l.getD 0 default).Grid b.Grid) = true) := fun h => ok_some.2 ⟨rfl, any_of_at (p := fun b => !sameG (l.getD 0 default).Grid b.Grid) hk h⟩
            refine Ok.cd (fun h => bad (by unfold sameG; simp at h; simp [h])) (fun h1 => ?_)
            refine Ok.cd (fun h => bad (by unfold sameG; simp at h; simp [h])) (fun h2 => ?_)
            refine Ok.cd (fun h => bad (by unfold sameG; simp at h; simp [h])) (fun h3 => ?_)
            refine Ok.cd (fun h => bad (by unfold sameG; simp at h; simp [h])) (fun h4 => ?_)
            refine Ok.cd (fun h => bad (by unfold sameG; simp at h; simp [h])) (fun h5 => ?_)
            refine ih fun j hj => ?_
            by_cases hjk : j = k
            · rw [hjk]; unfold sameG; simp at h1 h2 h3 h4 h5; simp [h1, h2, h3, h4, h5]
            · exact hP j (by omega)
          · simp at h; omega
        · intro again hP
          refine Ok.cd (fun h => ?_) (fun _ => ?_)
          · simp at h
          · exact ok_some.2 (any_false_iff.2 hP)
      · rintro (_ | r) h'
        · exact ok_some.2 (by simp only at h'; simp only [codeF, h, h']; rfl)
        · exact ok_some.2 (by simp only at h'; simp only [codeF, h, h'.2, h'.1]; rfl)
    · exact ok_some.2 h
def fewB (l : List api_Banded) : Bool := l.all fun b => decide (b.Grid.Z.length ≤ 64) && decide (b.Err.length ≤ 70)
theorem few_v {n : Nat} {l : List api_Banded} (hn : l.length < n) (hl : l.length ≤ 9223372036854775806) : fiduciallaw59_few n l = some (fewB l) := by
  apply Ok.eq
  have hall : fewB l = !(l.any fun b => !(decide (b.Grid.Z.length ≤ 64) && decide (b.Err.length ≤ 70))) := by unfold fewB; rw [List.not_any_eq_all_not]; simp
  rw [hall]
  unfold fiduciallaw59_few
  refine Ok.bd (R := fun o => match o with | .inl _ => (l.any fun b => !(decide (b.Grid.Z.length ≤ 64) && decide (b.Err.length ≤ 70))) = false | .inr r => r = false ∧ (l.any fun b => !(decide (b.Grid.Z.length ≤ 64) && decide (b.Err.length ≤ 70))) = true) ?_ ?_
  · refine ok_range (len := l.length) (fun k => ∀ j, j < k → (!(decide ((l.getD j default).Grid.Z.length ≤ 64) && decide ((l.getD j default).Err.length ≤ 70))) = false) hn hl (by intro j hj; omega) ?_ ?_
    · intro again k hk hP ih
      refine Ok.cd (fun _ => ?_) (fun h => ?_)
      · refine Ok.gd (by rw [inR_nat]; simpa using hk) ?_
        rw [gt_nat]
        refine Ok.cd (fun h => ok_some.2 ⟨rfl, any_of_at (p := fun b : api_Banded => !(decide (b.Grid.Z.length ≤ 64) && decide (b.Err.length ≤ 70))) hk (by simp at h; simp; omega)⟩) (fun h1 => ?_)
        refine Ok.cd (fun h => ok_some.2 ⟨rfl, any_of_at (p := fun b : api_Banded => !(decide (b.Grid.Z.length ≤ 64) && decide (b.Err.length ≤ 70))) hk (by simp at h; simp; omega)⟩) (fun h2 => ?_)
        refine ih fun j hj => ?_
        by_cases hjk : j = k
        · rw [hjk]; simp at h1 h2; simp; omega
        · exact hP j (by omega)
      · simp at h; omega
    · intro again hP
      refine Ok.cd (fun h => ?_) (fun _ => ?_)
      · simp at h
      · exact ok_some.2 (any_false_iff.2 hP)
  · rintro (_ | r) h
    · exact ok_some.2 (by simp only at h; rw [h]; rfl)
    · exact ok_some.2 (by simp only at h; rw [h.1, h.2]; rfl)
structure Fits2 (a b : api_Banded) : Prop where
  ga : Good a
  gb : Good b
  len : b.Grid.Z.length = a.Grid.Z.length
  same : a.Grid.X0 = b.Grid.X0 ∧ a.Grid.Y0 = b.Grid.Y0 ∧ a.Grid.Step = b.Grid.Step ∧ a.Grid.Width = b.Grid.Width ∧ a.Grid.Height = b.Grid.Height
def isN (z : Int) : Bool := z == -2147483648
def dif (a b : api_Banded) (k : Nat) : Int := b.Grid.Z.getD k default - a.Grid.Z.getD k default
def bnd (a b : api_Banded) (k : Nat) : Int := a.Err.getD k default + b.Err.getD k default
def isOk (a b : api_Banded) (k : Nat) : Bool := !(isN (a.Grid.Z.getD k default) || isN (b.Grid.Z.getD k default))
def verd (a b : api_Banded) (k : Nat) : Int := if isOk a b k = true then (if dif a b k > bnd a b k then 1 else if dif a b k < -bnd a b k then 2 else 0) else 3
theorem diff_v {n : Nat} {a b : api_Banded} (f : Fits2 a b) {k : Nat} (hk : k < a.Grid.Z.length) : change_difference n a b k = some (if isOk a b k = true then (dif a b k, bnd a b k, true) else (0, 0, false)) := by
  have e1 : inR (k : Int) a.Grid.Z.length = true := by rw [inR_nat]; simpa using hk
  have e2 : inR (k : Int) b.Grid.Z.length = true := by rw [inR_nat, f.len]; simpa using hk
  have e3 : inR (k : Int) a.Err.length = true := by rw [inR_nat, f.ga.elen]; simpa using hk
  have e4 : inR (k : Int) b.Err.length = true := by rw [inR_nat, f.gb.elen, f.len]; simpa using hk
  have z1 := f.ga.z k hk
  have z2 := f.gb.z k (by rw [f.len]; exact hk)
  have w1 := f.ga.e k (by rw [f.ga.elen]; exact hk)
  have w2 := f.gb.e k (by rw [f.gb.elen, f.len]; exact hk)
  unfold change_difference
  rw [e1, e2, e3, e4]
  simp only [gt_nat, gdO, isOk, isN]
  by_cases h1 : (a.Grid.Z.getD k default == -2147483648) = true
  · simp only [h1, cdO, Bool.true_or, Bool.not_true, Bool.false_eq_true, if_false]
  have h1' : (a.Grid.Z.getD k default == -2147483648) = false := by simpa using h1
  by_cases h2 : (b.Grid.Z.getD k default == -2147483648) = true
  · simp only [h1', h2, cdO, Bool.or_true, Bool.not_true, Bool.false_eq_true, if_false]
  have h2' : (b.Grid.Z.getD k default == -2147483648) = false := by simpa using h2
  simp only [h1', h2', cdO, Bool.or_self, Bool.not_false, if_true]
  simp only [beq_eq_false_iff_ne] at h1' h2'
  rw [wrap64_in (by omega) (by omega), wrap64_in (by omega) (by omega)]
  rfl
theorem verdict_v {n : Nat} {a b : api_Banded} (f : Fits2 a b) {k : Nat} (hk : k < a.Grid.Z.length) : change_verdict n a b k = some (verd a b k) := by
  have w1 := f.ga.e k (by rw [f.ga.elen]; exact hk)
  have w2 := f.gb.e k (by rw [f.gb.elen, f.len]; exact hk)
  unfold change_verdict verd
  rw [diff_v f hk]
  cases isOk a b k with
  | false => rfl
  | true =>
  simp only [bdO, if_true]
  rw [wrap64_in (by unfold bnd; omega) (by unfold bnd; omega)]
  by_cases h1 : dif a b k > bnd a b k
  · simp [h1, cdO]
  · by_cases h2 : dif a b k < -bnd a b k
    · have : dif a b k < 0 - bnd a b k := by omega
      simp [h1, h2, cdO, this]
    · have : ¬ dif a b k < 0 - bnd a b k := by omega
      simp [h1, h2, cdO, this]
theorem good_short {b : api_Banded} (h : Good b) : b.Grid.Z.length ≤ 4096 := by
  have := area h.w h.h; have := h.len; omega
end Go.L

