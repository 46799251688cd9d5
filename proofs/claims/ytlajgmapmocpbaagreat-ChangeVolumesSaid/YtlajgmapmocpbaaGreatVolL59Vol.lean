import Derived.Test.YtlajgmapmocpbaaGreatVolL59v
set_option linter.unusedVariables false
set_option linter.unusedSimpArgs false
namespace Go.L
open Go Go.Eng
def vOn (a b : api_Banded) (m : List Bool) (k : Nat) : Bool := isOk a b k && m.getD k default
def vLow (a b : api_Banded) (m : List Bool) (k : Nat) : Int := if vOn a b m k = true then dif a b k - bnd a b k else 0
def vHigh (a b : api_Banded) (m : List Bool) (k : Nat) : Int := if vOn a b m k = true then dif a b k + bnd a b k else 0
theorem v_bd {a b : api_Banded} (f : Fits2 a b) (m : List Bool) {k : Nat} (hk : k < a.Grid.Z.length) : (-4194304 ≤ vLow a b m k ∧ vLow a b m k ≤ 4194304) ∧ (-4194304 ≤ vHigh a b m k ∧ vHigh a b m k ≤ 4194304) ∧ vLow a b m k ≤ vHigh a b m k := by
  unfold vLow vHigh
  by_cases h : vOn a b m k = true
  · have h1 : isOk a b k = true := by unfold vOn at h; simp at h; exact h.1
    have := okz' f hk h1
    simp only [if_pos h]; omega
  · simp only [if_neg h]; omega
def vSt (a b : api_Banded) (m : List Bool) (k : Nat) (c : Int × Int) : Prop := c.1 = sumZ (vLow a b m) k ∧ c.2 = sumZ (vHigh a b m) k
theorem s_bd {a b : api_Banded} (f : Fits2 a b) (m : List Bool) {k : Nat} (hk : k ≤ a.Grid.Z.length) (h64 : a.Grid.Z.length ≤ 64) : (-268435456 ≤ sumZ (vLow a b m) k ∧ sumZ (vLow a b m) k ≤ 268435456) ∧ (-268435456 ≤ sumZ (vHigh a b m) k ∧ sumZ (vHigh a b m) k ≤ 268435456) ∧ sumZ (vLow a b m) k ≤ sumZ (vHigh a b m) k := by
  have h1 := sumZ_bound (f := vLow a b m) (B := 4194304) (k := k) (fun j hj => (v_bd f m (k := j) (by omega)).1)
  have h2 := sumZ_bound (f := vHigh a b m) (B := 4194304) (k := k) (fun j hj => (v_bd f m (k := j) (by omega)).2.1)
  have h3 := sumZ_le (f := vLow a b m) (g := vHigh a b m) (k := k) (fun j hj => (v_bd f m (k := j) (by omega)).2.2)
  omega
theorem vSt_go {a b : api_Banded} {m : List Bool} {k : Nat} {x y : Int} (h : vSt a b m k (x, y)) (hon : vOn a b m k = true) : vSt a b m (k + 1) (x + dif a b k - bnd a b k, y + dif a b k + bnd a b k) := by
  obtain ⟨h1, h2⟩ := h
  simp only at h1 h2
  unfold vSt
  simp only [sumZ, vLow, vHigh, if_pos hon]
  omega
theorem vSt_stay {a b : api_Banded} {m : List Bool} {k : Nat} {x y : Int} (h : vSt a b m k (x, y)) (hon : vOn a b m k = false) : vSt a b m (k + 1) (x, y) := by
  obtain ⟨h1, h2⟩ := h
  simp only at h1 h2
  unfold vSt
  simp only [sumZ, vLow, vHigh, hon, Bool.false_eq_true, if_false]
  omega
theorem volume_ok {n : Nat} (hn : 5000 ≤ n) {a b : api_Banded} (f : Fits2 a b) (hs : Short n [a, b]) (hc : codeF [a, b] = 0) (h64 : a.Grid.Z.length ≤ 64) {m : List Bool} (hm : m.length = a.Grid.Z.length) :
    Ok (change_Volume n a b m) fun z => isR z.1 (sumZ (vLow a b m) m.length * (a.Grid.Step * a.Grid.Step)) (sumZ (vHigh a b m) m.length * (a.Grid.Step * a.Grid.Step)) 6 ∧ z.2 = 0 := by
  unfold change_Volume
  refine Ok.bde (fit_v hs) ?_
  rw [hc]
  refine Ok.cd (fun h => by cases h) (fun _ => ?_)
  refine Ok.cd (fun h => by simp [hm] at h) (fun _ => ?_)
  refine Ok.bd (R := fun o => vSt a b m m.length o) ?_ ?_
  · refine ok_rangeG (len := m.length) (fun (c : Int × Int) x => (c.1, c.2, x)) (fun k c => vSt a b m k c) (by omega) (by omega) (c0 := (0, 0)) ⟨rfl, rfl⟩ ?_ ?_
    · rintro again k ⟨x, y⟩ hk hst ih
      have hk' : k < a.Grid.Z.length := by omega
      refine Ok.cd (fun _ => ?_) (fun h => by simp at h; omega)
      refine Ok.gd (by rw [inR_nat]; simpa using hk) ?_
      cases hok : isOk a b k with
      | false =>
        refine Ok.bde (diff_n' f hk' hok) ?_
        exact Ok.cd (fun h => by cases h) (fun _ => ih (x, y) (vSt_stay hst (by unfold vOn; rw [hok]; rfl)))
      | true =>
        refine Ok.bde (diff_v' f hk' hok) ?_
        refine Ok.cd (fun _ => ?_) (fun h => by cases h)
        rw [gt_nat]
        have hb := s_bd f m (k := k) (by omega) h64
        have hz := okz' f hk' hok
        have e1 := hst.1; have e2 := hst.2
        simp only at e1 e2
        refine Ok.cd (fun hmk => ?_) (fun hmk => ih (x, y) (vSt_stay hst (by unfold vOn; rw [hok, hmk]; rfl)))
        have := vSt_go hst (by unfold vOn; rw [hok, hmk]; rfl)
        show Ok (again (wrapF .i64 (wrapF .i64 (x + dif a b k) - bnd a b k), wrapF .i64 (wrapF .i64 (y + dif a b k) + bnd a b k), wrapF .i64 ((k : Int) + 1))) _
        rw [wrap64_in (n := x + dif a b k) (by omega) (by omega), wrap64_in (n := y + dif a b k) (by omega) (by omega), wrap64_in (n := x + dif a b k - bnd a b k) (by omega) (by omega), wrap64_in (n := y + dif a b k + bnd a b k) (by omega) (by omega)]
        exact ih (_, _) this
    · rintro again ⟨x, y⟩ hst
      exact Ok.cd (fun h => by simp at h) (fun _ => ok_some.2 hst)
  · rintro ⟨x, y⟩ hst
    have hb := s_bd f m (k := m.length) (by omega) h64
    obtain ⟨rfl, rfl⟩ := hst
    exact Ok.bd (solid_ok hn f.ga.step (by omega) (by omega)) fun z hz => ok_some.2 ⟨hz, rfl⟩
theorem rvolume_ok {n : Nat} (hn : 5000 ≤ n) {a b : api_Banded} (f : Fits2 a b) (h64 : a.Grid.Z.length ≤ 64) {m : List Bool} (hm : m.length = a.Grid.Z.length) :
    Ok (fiduciallaw59_volume n a b m) fun z => isR z (sumZ (vLow a b m) m.length * (a.Grid.Step * a.Grid.Step)) (sumZ (vHigh a b m) m.length * (a.Grid.Step * a.Grid.Step)) 3 := by
  unfold fiduciallaw59_volume
  refine Ok.bd (R := fun o => vSt a b m m.length o) ?_ ?_
  · refine ok_rangeG (len := m.length) (fun (c : Int × Int) x => (c.1, c.2, x)) (fun k c => vSt a b m k c) (by omega) (by omega) (c0 := (0, 0)) ⟨rfl, rfl⟩ ?_ ?_
    · rintro again k ⟨x, y⟩ hk hst ih
      have hk' : k < a.Grid.Z.length := by omega
      refine Ok.cd (fun _ => ?_) (fun h => by simp at h; omega)
      refine Ok.gd (by rw [inR_nat]; simpa using hk) ?_
      refine Ok.bde (both_v' f hk') ?_
      refine Ok.cd (fun (hok : isOk a b k = true) => ?_) (fun (hok : isOk a b k = false) => ih (x, y) (vSt_stay hst (by unfold vOn; rw [hok]; rfl)))
      rw [gt_nat]
      have hb := s_bd f m (k := k) (by omega) h64
      have hz := okz' f hk' hok
      have e1 := hst.1; have e2 := hst.2
      simp only at e1 e2
      refine Ok.cd (fun hmk => ?_) (fun hmk => ih (x, y) (vSt_stay hst (by unfold vOn; rw [hok, hmk]; rfl)))
      have := vSt_go hst (by unfold vOn; rw [hok, hmk]; rfl)
      show Ok (again (wrapF .i64 (wrapF .i64 (x + dif a b k) - bnd a b k), wrapF .i64 (wrapF .i64 (y + dif a b k) + bnd a b k), wrapF .i64 ((k : Int) + 1))) _
      rw [wrap64_in (n := x + dif a b k) (by omega) (by omega), wrap64_in (n := y + dif a b k) (by omega) (by omega), wrap64_in (n := x + dif a b k - bnd a b k) (by omega) (by omega), wrap64_in (n := y + dif a b k + bnd a b k) (by omega) (by omega)]
      exact ih (_, _) this
    · rintro again ⟨x, y⟩ hst
      exact Ok.cd (fun h => by simp at h) (fun _ => ok_some.2 hst)
  · rintro ⟨x, y⟩ hst
    have hb := s_bd f m (k := m.length) (by omega) h64
    obtain ⟨rfl, rfl⟩ := hst
    have hst := f.ga.step
    have hq := mul_bound (a := a.Grid.Step) (b := a.Grid.Step) (A := 65536) (B := 65536) (by omega) (by omega) (by omega) (by omega)
    have m1 := mul_bound (a := a.Grid.Step * a.Grid.Step) (b := sumZ (vLow a b m) m.length) (A := 4294967296) (B := 268435456) (by omega) (by omega) (by omega) (by omega)
    have m2 := mul_bound (a := a.Grid.Step * a.Grid.Step) (b := sumZ (vHigh a b m) m.length) (A := 4294967296) (B := 268435456) (by omega) (by omega) (by omega) (by omega)
    show Ok (bdO (fiducialref03_Whole n _ _) _) _
    rw [wrap64_in (n := a.Grid.Step * a.Grid.Step) (by omega) (by omega), wrap64_in (n := a.Grid.Step * a.Grid.Step * _) (by omega) (by omega), wrap64_in (n := a.Grid.Step * a.Grid.Step * _) (by omega) (by omega)]
    refine Ok.bd (rWhole_ok hn (by omega) (by omega)) fun z hz => ok_some.2 ?_
    rw [Int.mul_comm (a.Grid.Step * a.Grid.Step), Int.mul_comm (a.Grid.Step * a.Grid.Step)] at hz
    exact hz
def vTrue (a b : api_Banded) (m : List Bool) (A B : List Int) (k : Nat) : Int := if vOn a b m k = true then truthS b k (B.getD k default) - truthS a k (A.getD k default) else 0
theorem vTrue_in {a b : api_Banded} (f : Fits2 a b) (m : List Bool) {A B : List Int} (hA : Bytes A) (hB : Bytes B) {k : Nat} (hk : k < a.Grid.Z.length) (la : k < A.length) (lb : k < B.length) : vLow a b m k ≤ vTrue a b m A B k ∧ vTrue a b m A B k ≤ vHigh a b m k := by
  unfold vTrue vLow vHigh
  by_cases h : vOn a b m k = true
  · have p := hA k la; have q := hB k lb
    have t1 := truth_in f.ga hk p.1 p.2
    have t2 := truth_in f.gb (k := k) (by rw [f.len]; exact hk) q.1 q.2
    simp only [if_pos h]
    unfold dif bnd; omega
  · simp only [if_neg h]; omega
theorem vol_v (a b : api_Banded) (x : fiduciallaw59_Truth) (hA : Bytes x.A) (hB : Bytes x.B) : fiduciallaw59_ChangeVolumes 5000 a b x = some true := by
  apply Ok.eq
  unfold fiduciallaw59_ChangeVolumes
  refine Ok.bde known59_v ?_
  refine Ok.cd (fun h => by cases h) (fun _ => ?_)
  refine Ok.bde (few_v (by simp) (by simp)) ?_
  refine Ok.cd (fun h => ok_some.2 rfl) (fun hfew => ?_)
  have hfew : fewB [a, b] = true := by simpa using hfew
  have hs := short_of_few (l := [a, b]) (by simp) hfew
  have h64 := few_len hfew
  refine Ok.cd (fun h => ok_some.2 rfl) (fun hm100 => ?_)
  have hm100 : ¬ (x.Marked.length : Int) > 100 := of_decide_eq_false hm100
  by_cases hc : codeF [a, b] = 0
  rotate_left
  · have hc' : (codeF [a, b] != 0) = true := by simpa using hc
    have e : change_Volume 5000 a b x.Marked = some (zeroR, codeF [a, b]) := by
      unfold change_Volume; rw [fit_v hs]; simp only [bdO, hc', cdO]; rfl
    refine Ok.bde e (Ok.bde (fits_v hs) ?_)
    refine Ok.bd (R := fun c => c = codeF [a, b]) (Ok.cd (fun h => by simp at h; exact (hc h).elim) (fun _ => ok_some.2 rfl)) ?_
    rintro c rfl
    refine Ok.cd (fun _ => ?_) (fun h => by rw [hc'] at h; cases h)
    refine Ok.bd (R := fun v => v = true) (Ok.cd (fun _ => Ok.bde zeroR_v (ok_some.2 rfl)) (fun h => by simp at h)) (fun v hv => ok_some.2 hv)
  have f := codeF_two hc
  by_cases hm : x.Marked.length = a.Grid.Z.length
  rotate_left
  · have e : change_Volume 5000 a b x.Marked = some (zeroR, 4) := by
      unfold change_Volume; rw [fit_v hs, hc]
      have : (((x.Marked.length : Int) : Int) != (a.Grid.Z.length : Int)) = true := by simp; omega
      simp only [bdO, this, cdO]; rfl
    refine Ok.bde e (Ok.bde (fits_v hs) ?_)
    refine Ok.bd (R := fun c => c = 4) (Ok.cd (fun h => Ok.cd (fun _ => ok_some.2 rfl) (fun h => by simp at h; omega)) (fun h => by simp [hc] at h)) ?_
    rintro c rfl
    refine Ok.cd (fun _ => ?_) (fun h => by cases h)
    refine Ok.bd (R := fun v => v = true) (Ok.cd (fun _ => Ok.bde zeroR_v (ok_some.2 rfl)) (fun h => by cases h)) (fun v hv => ok_some.2 hv)
  refine Ok.bd (volume_ok (by decide) f hs hc h64 hm) fun v hv => Ok.bde (fits_v hs) ?_
  obtain ⟨hv, hv0⟩ := hv
  rw [hv0]
  refine Ok.bd (R := fun c => c = 0) (Ok.cd (fun h => Ok.cd (fun h => by simp at h; omega) (fun _ => ok_some.2 hc)) (fun h => by simp [hc] at h)) ?_
  rintro c rfl
  refine Ok.cd (fun h => by cases h) (fun _ => Ok.cd (fun h => by cases h) (fun _ => ?_))
  have hb := s_bd f x.Marked (k := x.Marked.length) (by omega) h64
  have hst := f.ga.step
  have hq := mul_bound (a := a.Grid.Step) (b := a.Grid.Step) (A := 65536) (B := 65536) (by omega) (by omega) (by omega) (by omega)
  have hq0 : 0 ≤ a.Grid.Step * a.Grid.Step := Int.mul_nonneg (by omega) (by omega)
  have hle := Int.mul_le_mul_of_nonneg_right hb.2.2 hq0
  refine Ok.bd (rvolume_ok (by decide) f h64 hm) fun w hw => Ok.bde (rSame_ok (by decide) (k := 6) (by omega) hv (hw.mono (by omega)) hle) ?_
  refine Ok.cd (fun h => by cases h) (fun _ => Ok.cd (fun _ => ok_some.2 rfl) (fun la => Ok.cd (fun _ => ok_some.2 rfl) (fun lb => ?_)))
  have la := of_decide_eq_false la; have lb := of_decide_eq_false lb
  have hin : ∀ j, j < x.Marked.length → vLow a b x.Marked j ≤ vTrue a b x.Marked x.A x.B j ∧ vTrue a b x.Marked x.A x.B j ≤ vHigh a b x.Marked j := fun j hj => vTrue_in f x.Marked hA hB (by omega) (by omega) (by omega)
  have hsum : ∀ k, k ≤ x.Marked.length → sumZ (vLow a b x.Marked) k ≤ sumZ (vTrue a b x.Marked x.A x.B) k ∧ sumZ (vTrue a b x.Marked x.A x.B) k ≤ sumZ (vHigh a b x.Marked) k := fun k hk => ⟨sumZ_le (fun j hj => (hin j (by omega)).1), sumZ_le (fun j hj => (hin j (by omega)).2)⟩
  refine Ok.bd (R := fun s => s = sumZ (vTrue a b x.Marked x.A x.B) x.Marked.length) ?_ ?_
  · refine ok_rangeR (len := x.Marked.length) (fun k c => c = sumZ (vTrue a b x.Marked x.A x.B) k) (by omega) (by omega) rfl ?_ ?_
    · rintro again k c hk rfl ih
      have hk' : k < a.Grid.Z.length := by omega
      refine Ok.cd (fun _ => ?_) (fun h => by simp at h; omega)
      refine Ok.gd (by rw [inR_nat]; simpa using hk) ?_
      refine Ok.bde (both_v' f hk') ?_
      have stay : vOn a b x.Marked k = false → sumZ (vTrue a b x.Marked x.A x.B) k = sumZ (vTrue a b x.Marked x.A x.B) (k + 1) := fun h => by
        simp only [sumZ, vTrue, h, Bool.false_eq_true, if_false]; omega
      refine Ok.cd (fun (hok : isOk a b k = true) => ?_) (fun (hok : isOk a b k = false) => ih _ (stay (by unfold vOn; rw [hok]; rfl)))
      rw [gt_nat]
      refine Ok.cd (fun hmk => ?_) (fun hmk => ih _ (stay (by unfold vOn; rw [hok, hmk]; rfl)))
      have ka : k < x.A.length := by omega
      have kb : k < x.B.length := by omega
      refine Ok.gd (by rw [inR_nat]; simpa using kb) ?_
      rw [gt_nat, gt_nat]
      refine Ok.bde (truth_v f.gb (by rw [f.len]; exact hk') (hB k kb).1 (hB k kb).2) ?_
      refine Ok.gd (by rw [inR_nat]; simpa using ka) ?_
      refine Ok.bde (truth_v f.ga hk' (hA k ka).1 (hA k ka).2) ?_
      have hon : vOn a b x.Marked k = true := by unfold vOn; rw [hok, hmk]; rfl
      have h1 := hsum k (by omega)
      have h2 := s_bd f x.Marked (k := k) (by omega) h64
      have h3 := hin k hk
      have h4 := v_bd f x.Marked hk'
      have e : vTrue a b x.Marked x.A x.B k = truthS b k (x.B.getD k default) - truthS a k (x.A.getD k default) := by unfold vTrue; rw [if_pos hon]
      refine ih _ ?_
      rw [← e, wrap64_in (n := vTrue a b x.Marked x.A x.B k) (by omega) (by omega), wrap64_in (by omega) (by omega)]
      rfl
    · rintro again c rfl
      exact Ok.cd (fun h => by simp at h) (fun _ => ok_some.2 rfl)
  · rintro s rfl
    have h1 := hsum x.Marked.length (by omega)
    generalize sumZ (vTrue a b x.Marked x.A x.B) x.Marked.length = s at *
    have m1 := mul_bound (a := s) (b := a.Grid.Step) (A := 268435456) (B := 65536) (by omega) (by omega) (by omega) (by omega)
    have m2 := mul_bound (a := s * a.Grid.Step) (b := a.Grid.Step) (A := 17592186044416) (B := 65536) (by omega) (by omega) (by omega) (by omega)
    rw [wrap64_in (n := s * a.Grid.Step) (by omega) (by omega), wrap64_in (by omega) (by omega)]
    refine Ok.bd (R.qWhole_ok (by decide) (by omega) (by omega)) fun w hw => ?_
    have g1 := Int.mul_le_mul_of_nonneg_right h1.1 hq0
    have g2 := Int.mul_le_mul_of_nonneg_right h1.2 hq0
    rw [← Int.mul_assoc s] at g1 g2
    exact Ok.bde (rHas_ok (by decide) (k := 6) (by omega) hv hw g1 g2) (ok_some.2 rfl)
end Go.L

