/- The law ChangeCompares answers true. -/
import Derived.Test.YtlajgmapmocpbaaGreatCompL59c
set_option linter.unusedVariables false
set_option linter.unusedSimpArgs false
namespace Go.L
open Go Go.Eng

theorem zlo {b : api_Banded} (g : Good b) {k : Nat} (hk : k < b.Grid.Z.length) : -2147483648 ≤ b.Grid.Z.getD k default ∧ b.Grid.Z.getD k default ≤ 1048576 := by
  have := g.z k hk; omega
theorem both_v {n : Nat} {a b : api_Banded} (f : Fits2 a b) {k : Nat} (hk : k < a.Grid.Z.length) : fiduciallaw59_both n a b k = some (dif a b k, bnd a b k, isOk a b k) := by
  have e1 : inR (k : Int) a.Grid.Z.length = true := by rw [inR_nat]; simpa using hk
  have e2 : inR (k : Int) b.Grid.Z.length = true := by rw [inR_nat, f.len]; simpa using hk
  have e3 : inR (k : Int) a.Err.length = true := by rw [inR_nat, f.ga.elen]; simpa using hk
  have e4 : inR (k : Int) b.Err.length = true := by rw [inR_nat, f.gb.elen, f.len]; simpa using hk
  have z1 := zlo f.ga hk
  have z2 := zlo f.gb (k := k) (by rw [f.len]; exact hk)
  have w1 := f.ga.e k (by rw [f.ga.elen]; exact hk)
  have w2 := f.gb.e k (by rw [f.gb.elen, f.len]; exact hk)
  unfold fiduciallaw59_both
  rw [e1, e2, e3, e4]
  simp only [gt_nat, gdO, isOk, isN]
  rw [wrap64_in (by omega) (by omega), wrap64_in (by omega) (by omega)]
  by_cases h1 : (a.Grid.Z.getD k default == -2147483648) = true
  · have : (a.Grid.Z.getD k default != -2147483648) = false := by simpa using h1
    rw [this, h1]; rfl
  · have h1' : (a.Grid.Z.getD k default == -2147483648) = false := by simpa using h1
    have : (a.Grid.Z.getD k default != -2147483648) = true := by simpa using h1
    rw [this, h1', Bool.false_or]; rfl
theorem lverd_v {n : Nat} {a b : api_Banded} (f : Fits2 a b) {k : Nat} (hk : k < a.Grid.Z.length) : fiduciallaw59_verdict n a b k = some (verd a b k) := by
  have w1 := f.ga.e k (by rw [f.ga.elen]; exact hk)
  have w2 := f.gb.e k (by rw [f.gb.elen, f.len]; exact hk)
  unfold fiduciallaw59_verdict verd
  rw [both_v f hk]
  cases isOk a b k with
  | false => rfl
  | true =>
  simp only [bdO, if_true]
  rw [wrap64_in (by unfold bnd; omega) (by unfold bnd; omega)]
  by_cases h1 : dif a b k > bnd a b k
  · simp [h1, cdO]
  · by_cases h2 : dif a b k < -bnd a b k
    · have : dif a b k < 0 - bnd a b k := by omega
      simp [h1, h2, cdO, this]
    · have : ¬ dif a b k < 0 - bnd a b k := by omega
      simp [h1, h2, cdO, this]
def marg (a b : api_Banded) (k : Nat) : Int := if isOk a b k = true then mx (dif a b k) (-dif a b k) - bnd a b k else 0
theorem mx_le {a b c : Int} (h : a ≤ c) (k : b ≤ c) : mx a b ≤ c := by unfold mx; split <;> omega
theorem le_mx (a b : Int) : a ≤ mx a b ∧ b ≤ mx a b := by unfold mx; split <;> omega
theorem okz {a b : api_Banded} (f : Fits2 a b) {k : Nat} (hk : k < a.Grid.Z.length) (h : isOk a b k = true) : -2097152 ≤ dif a b k ∧ dif a b k ≤ 2097152 := by
  have z1 := f.ga.z k hk
  have z2 := f.gb.z k (by rw [f.len]; exact hk)
  unfold isOk isN at h
  simp only [Bool.not_eq_true', Bool.or_eq_false_iff, beq_eq_false_iff_ne] at h
  unfold dif; omega
theorem margins_v {n : Nat} (hn : 4096 < n) {a b : api_Banded} (f : Fits2 a b) (hs : Short n [a, b]) (hc : codeF [a, b] = 0) : change_Margins n a b = some ((List.range a.Grid.Z.length).map (marg a b), 0) := by
  have hlen := good_short f.ga
  apply Ok.eq
  unfold change_Margins
  refine Ok.bde (fit_v hs) ?_
  rw [hc]
  refine Ok.cd (fun h => by simp at h) (fun _ => ?_)
  refine Ok.bd (R := fun o => o = (List.range a.Grid.Z.length).map (marg a b)) ?_ (fun o h => ok_some.2 (by rw [h]))
  refine ok_rangeR (len := a.Grid.Z.length) (fun k c => c = (List.range k).map (marg a b)) (by omega) (by omega) rfl ?_ ?_
  · rintro again k c hk rfl ih
    refine Ok.cd (fun _ => ?_) (fun h => by simp at h; omega)
    refine Ok.bde (diff_v f hk) ?_
    refine Ok.gd (by simp; omega) (Ok.gd (by simp; omega) ?_)
    refine ih _ ?_
    rw [List.range_succ, List.map_append]
    congr 1
    simp only [List.map_cons, List.map_nil]
    congr 1
    unfold marg
    cases hok : isOk a b k with
    | false => rfl
    | true =>
    have hd := okz f hk hok
    have w1 := f.ga.e k (by rw [f.ga.elen]; exact hk)
    have w2 := f.gb.e k (by rw [f.gb.elen, f.len]; exact hk)
    have m1 := mx_le (a := dif a b k) (b := -dif a b k) (c := 2097152) (by omega) (by omega)
    have m2 := le_mx (dif a b k) (-dif a b k)
    simp only [if_true]
    rw [show 0 - dif a b k = -dif a b k by omega, wrap64_in (n := -dif a b k) (by omega) (by omega), wrap64_in (by unfold bnd; omega) (by unfold bnd; omega)]
  · rintro again c rfl
    exact Ok.cd (fun h => by simp at h) (fun _ => ok_some.2 rfl)
theorem compare_fail {n : Nat} {a b : api_Banded} (hs : Short n [a, b]) (hc : codeF [a, b] ≠ 0) : change_Compare n a b = some ([], codeF [a, b]) := by
  have : (codeF [a, b] != 0) = true := by simpa using hc
  unfold change_Compare
  simp only [fit_v hs, this, bdO, cdO]
theorem margins_fail {n : Nat} {a b : api_Banded} (hs : Short n [a, b]) (hc : codeF [a, b] ≠ 0) : change_Margins n a b = some ([], codeF [a, b]) := by
  have : (codeF [a, b] != 0) = true := by simpa using hc
  unfold change_Margins
  simp only [fit_v hs, this, bdO, cdO]

theorem comp_v (a b : api_Banded) : fiduciallaw59_ChangeCompares 5000 a b = some true := by
  apply Ok.eq
  unfold fiduciallaw59_ChangeCompares
  refine Ok.bde known59_v ?_
  refine Ok.cd (fun h => by cases h) (fun _ => ?_)
  refine Ok.bde (few_v (by simp) (by simp)) ?_
  refine Ok.cd (fun h => ok_some.2 rfl) (fun hfew => ?_)
  have hfew : fewB [a, b] = true := by simpa using hfew
  have hs := short_of_few (l := [a, b]) (by simp) hfew
  by_cases hc : codeF [a, b] = 0
  rotate_left
  · refine Ok.bde (compare_fail hs hc) (Ok.bde (margins_fail hs hc) (Ok.bde (fits_v hs) ?_))
    refine Ok.cd (fun _ => ?_) (fun h => by simp at h; exact (hc h).elim)
    refine Ok.cd (fun _ => ?_) (fun h => by simp at h)
    refine Ok.cd (fun _ => ?_) (fun h => by simp at h)
    exact Ok.cd (fun _ => ok_some.2 rfl) (fun h => by simp at h)
  have f := codeF_two hc
  have hlen := good_short f.ga
  refine Ok.bde (compare_v (by decide) f hs hc) (Ok.bde (margins_v (by decide) f hs hc) (Ok.bde (fits_v hs) ?_))
  rw [hc]
  refine Ok.cd (fun h => by simp at h) (fun _ => Ok.cd (fun h => by simp at h) (fun _ => Ok.cd (fun h => by simp at h) (fun _ => Ok.cd (fun h => by simp at h) (fun _ => Ok.cd (fun h => by simp at h) (fun _ => ?_)))))
  refine Ok.bd (R := fun o => match o with | .inl _ => True | .inr r => r = true) ?_ ?_
  · refine ok_range (len := ((List.range a.Grid.Z.length).map (verd a b)).length) (fun k => True) (by simp; omega) (by simp; omega) trivial ?_ ?_
    · intro again k hk _ ih
      simp only [List.length_map, List.length_range] at hk
      have i1 : inR (k : Int) ((List.range a.Grid.Z.length).map (verd a b)).length = true := by rw [inR_nat]; simpa using hk
      have i2 : inR (k : Int) ((List.range a.Grid.Z.length).map (marg a b)).length = true := by rw [inR_nat]; simpa using hk
      have hi := ih trivial
      have w1 := f.ga.e k (by rw [f.ga.elen]; exact hk)
      have w2 := f.gb.e k (by rw [f.gb.elen, f.len]; exact hk)
      refine Ok.cd (fun _ => ?_) (fun h => by simp at h; omega)
      rw [i1, i2]
      simp only [gt_nat, getD_map_range hk, both_v f hk, lverd_v f hk]
      have hm := le_mx (dif a b k) (-dif a b k)
      cases hok : isOk a b k with
      | false =>
        have hv : verd a b k = 3 := by unfold verd; rw [hok]; rfl
        have hmg : marg a b k = 0 := by unfold marg; rw [hok]; rfl
        rw [hv, hmg]
        simp [ok_cd, ok_gd, ok_some, ok_bd, hi]
      | true =>
        have hd := okz f hk hok
        have m1 := mx_le (a := dif a b k) (b := -dif a b k) (c := 2097152) (by omega) (by omega)
        have hmg : marg a b k = mx (dif a b k) (-dif a b k) - bnd a b k := by unfold marg; rw [hok]; rfl
        have hb : bnd a b k = a.Err.getD k default + b.Err.getD k default := rfl
        have hv : (dif a b k > bnd a b k → verd a b k = 1) ∧ (¬ dif a b k > bnd a b k → dif a b k < -bnd a b k → verd a b k = 2) ∧ (¬ dif a b k > bnd a b k → ¬ dif a b k < -bnd a b k → verd a b k = 0) := by
          unfold verd; rw [hok]; simp only [if_true]
          refine ⟨fun h => if_pos h, fun h h' => by rw [if_neg h, if_pos h'], fun h h' => by rw [if_neg h, if_neg h']⟩
        have hx : mx (dif a b k) (-dif a b k) = dif a b k ∨ mx (dif a b k) (-dif a b k) = -dif a b k := by unfold mx; split <;> simp
        rw [hmg]
        refine Ok.gd rfl (Ok.bde rfl ?_)
        refine Ok.cd (fun _ => Ok.bde rfl ?_) (fun h => by cases h)
        show Ok (cdO (verd a b k != verd a b k) _ (gdO true (cdO (mx (dif a b k) (-dif a b k) - bnd a b k != wrapF .i64 (mx (dif a b k) (wrapF .i64 (0 - dif a b k)) - bnd a b k)) _ _))) _
        rw [show 0 - dif a b k = -dif a b k by omega, wrap64_in (n := -dif a b k) (by omega) (by omega), wrap64_in (by omega) (by omega)]
        generalize mx (dif a b k) (-dif a b k) = m at *
        generalize verd a b k = v at *
        refine Ok.cd (fun h => by simp at h) (fun _ => ?_)
        refine Ok.gd rfl ?_
        refine Ok.cd (fun h => by simp at h) (fun _ => ?_)
        refine Ok.cd (fun h => ?_) (fun h => ?_)
        · refine Ok.cd (fun h' => ?_) (fun _ => hi)
          simp at h h'; omega
        · refine Ok.cd (fun h' => ?_) (fun _ => hi)
          exfalso
          by_cases c1 : dif a b k > bnd a b k
          · have := hv.1 c1; simp [this] at h
          · by_cases c2 : dif a b k < -bnd a b k
            · have h2 := hv.2.1 c1 c2
              simp [h2] at h'; omega
            · have h2 := hv.2.2 c1 c2
              simp [h2] at h'; omega
    · intro again _
      exact Ok.cd (fun h => by simp at h) (fun _ => ok_some.2 trivial)
  · rintro (_ | r) h
    · exact ok_some.2 rfl
    · exact ok_some.2 h
end Go.L
