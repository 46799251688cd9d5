import Derived.Test.YtlajgmapmocpbaaGreatTotL59v
set_option linter.unusedVariables false
set_option linter.unusedSimpArgs false
namespace Go.L
open Go Go.Eng
def totF (g : Int → Int → Int) (a b : api_Banded) (k : Nat) : Int := if isOk a b k = true then mx 0 (g (dif a b k) (bnd a b k)) else 0
def g1 (d e : Int) : Int := d - e
def g2 (d e : Int) : Int := d + e
def g3 (d e : Int) : Int := 0 - d - e
def g4 (d e : Int) : Int := 0 - d + e
theorem mx0 (x : Int) : 0 ≤ mx 0 x ∧ x ≤ mx 0 x ∧ (mx 0 x = 0 ∨ mx 0 x = x) := by unfold mx; split <;> omega
theorem tot_bd {g : Int → Int → Int} (hg : ∀ d e, -2097152 ≤ d → d ≤ 2097152 → 0 ≤ e → e ≤ 2097152 → -4194304 ≤ g d e ∧ g d e ≤ 4194304) {a b : api_Banded} (f : Fits2 a b) {k : Nat} (hk : k < a.Grid.Z.length) : 0 ≤ totF g a b k ∧ totF g a b k ≤ 4194304 := by
  unfold totF
  by_cases h : isOk a b k = true
  · have := okz' f hk h
    have h1 := hg _ _ this.1.1 this.1.2 this.2.1 this.2.2
    have := mx0 (g (dif a b k) (bnd a b k))
    simp only [if_pos h]; omega
  · simp only [if_neg h]; omega
theorem gb1 : ∀ d e, -2097152 ≤ d → d ≤ 2097152 → 0 ≤ e → e ≤ 2097152 → -4194304 ≤ g1 d e ∧ g1 d e ≤ 4194304 := by unfold g1; omega
theorem gb2 : ∀ d e, -2097152 ≤ d → d ≤ 2097152 → 0 ≤ e → e ≤ 2097152 → -4194304 ≤ g2 d e ∧ g2 d e ≤ 4194304 := by unfold g2; omega
theorem gb3 : ∀ d e, -2097152 ≤ d → d ≤ 2097152 → 0 ≤ e → e ≤ 2097152 → -4194304 ≤ g3 d e ∧ g3 d e ≤ 4194304 := by unfold g3; omega
theorem gb4 : ∀ d e, -2097152 ≤ d → d ≤ 2097152 → 0 ≤ e → e ≤ 2097152 → -4194304 ≤ g4 d e ∧ g4 d e ≤ 4194304 := by unfold g4; omega
theorem ts_bd {g : Int → Int → Int} (hg : ∀ d e, -2097152 ≤ d → d ≤ 2097152 → 0 ≤ e → e ≤ 2097152 → -4194304 ≤ g d e ∧ g d e ≤ 4194304) {a b : api_Banded} (f : Fits2 a b) {k : Nat} (hk : k ≤ a.Grid.Z.length) (h64 : a.Grid.Z.length ≤ 64) : 0 ≤ sumZ (totF g a b) k ∧ sumZ (totF g a b) k ≤ 268435456 := by
  have h1 := sumZ_bound (f := totF g a b) (B := 4194304) (k := k) (fun j hj => by have := tot_bd hg f (k := j) (by omega); omega)
  have h2 := sumZ_le (f := fun _ => 0) (g := totF g a b) (k := k) (fun j hj => (tot_bd hg f (k := j) (by omega)).1)
  have h3 : ∀ k : Nat, sumZ (fun _ => (0 : Int)) k = 0 := fun k => by induction k with | zero => rfl | succ k ih => simp [sumZ, ih]
  rw [h3] at h2
  omega
abbrev C4 := Int × Int × Int × Int
def tSt (a b : api_Banded) (k : Nat) (c : C4) : Prop := c = (sumZ (totF g1 a b) k, sumZ (totF g2 a b) k, sumZ (totF g3 a b) k, sumZ (totF g4 a b) k)
theorem t_round {a b : api_Banded} (f : Fits2 a b) (h64 : a.Grid.Z.length ≤ 64) {k : Nat} (hk : k < a.Grid.Z.length) (hok : isOk a b k = true) {c : C4} (h : tSt a b k c) :
    tSt a b (k + 1) (wrapF .i64 (c.1 + mx 0 (wrapF .i64 (dif a b k - bnd a b k))), wrapF .i64 (c.2.1 + mx 0 (wrapF .i64 (dif a b k + bnd a b k))), wrapF .i64 (c.2.2.1 + mx 0 (wrapF .i64 (wrapF .i64 (0 - dif a b k) - bnd a b k))), wrapF .i64 (c.2.2.2 + mx 0 (wrapF .i64 (wrapF .i64 (0 - dif a b k) + bnd a b k)))) := by
  unfold tSt at h; subst h
  have hz := okz' f hk hok
  have b1 := ts_bd gb1 f (k := k) (by omega) h64; have b2 := ts_bd gb2 f (k := k) (by omega) h64; have b3 := ts_bd gb3 f (k := k) (by omega) h64; have b4 := ts_bd gb4 f (k := k) (by omega) h64
  have e1 : totF g1 a b k = mx 0 (dif a b k - bnd a b k) := by unfold totF; rw [if_pos hok]; rfl
  have e2 : totF g2 a b k = mx 0 (dif a b k + bnd a b k) := by unfold totF; rw [if_pos hok]; rfl
  have e3 : totF g3 a b k = mx 0 (0 - dif a b k - bnd a b k) := by unfold totF; rw [if_pos hok]; rfl
  have e4 : totF g4 a b k = mx 0 (0 - dif a b k + bnd a b k) := by unfold totF; rw [if_pos hok]; rfl
  have m1 := mx0 (dif a b k - bnd a b k); have m2 := mx0 (dif a b k + bnd a b k); have m3 := mx0 (0 - dif a b k - bnd a b k); have m4 := mx0 (0 - dif a b k + bnd a b k)
  unfold tSt
  simp only [sumZ, e1, e2, e3, e4]
  rw [wrap64_in (n := dif a b k - bnd a b k) (by omega) (by omega), wrap64_in (n := dif a b k + bnd a b k) (by omega) (by omega), wrap64_in (n := 0 - dif a b k) (by omega) (by omega), wrap64_in (n := 0 - dif a b k - bnd a b k) (by omega) (by omega), wrap64_in (n := 0 - dif a b k + bnd a b k) (by omega) (by omega)]
  rw [wrap64_in (n := sumZ (totF g1 a b) k + _) (by omega) (by omega), wrap64_in (n := sumZ (totF g2 a b) k + _) (by omega) (by omega), wrap64_in (n := sumZ (totF g3 a b) k + _) (by omega) (by omega), wrap64_in (n := sumZ (totF g4 a b) k + _) (by omega) (by omega)]
theorem t_stay {a b : api_Banded} {k : Nat} (hok : isOk a b k = false) {c : C4} (h : tSt a b k c) : tSt a b (k + 1) c := by
  unfold tSt at *; subst h
  have e : ∀ g, totF g a b k = 0 := fun g => by unfold totF; rw [hok]; rfl
  simp [sumZ, e]
def totS (g : Int → Int → Int) (a b : api_Banded) : Int := sumZ (totF g a b) a.Grid.Z.length
theorem total_ok {n : Nat} (hn : 5000 ≤ n) {a b : api_Banded} (f : Fits2 a b) (hs : Short n [a, b]) (hc : codeF [a, b] = 0) (h64 : a.Grid.Z.length ≤ 64) :
    Ok (change_Total n a b) fun z => isR z.1 (totS g1 a b * (a.Grid.Step * a.Grid.Step)) (totS g2 a b * (a.Grid.Step * a.Grid.Step)) 6 ∧ isR z.2.1 (totS g3 a b * (a.Grid.Step * a.Grid.Step)) (totS g4 a b * (a.Grid.Step * a.Grid.Step)) 6 ∧ z.2.2 = 0 := by
  unfold change_Total
  refine Ok.bde (fit_v hs) ?_
  rw [hc]
  refine Ok.cd (fun h => by cases h) (fun _ => ?_)
  refine Ok.bd (R := fun o => tSt a b a.Grid.Z.length o) ?_ ?_
  · refine ok_rangeG (len := a.Grid.Z.length) (fun (c : C4) x => (c.1, c.2.1, c.2.2.1, c.2.2.2, x)) (fun k c => tSt a b k c) (by omega) (by omega) (c0 := (0, 0, 0, 0)) rfl ?_ ?_
    · rintro again k c hk hst ih
      refine Ok.cd (fun _ => ?_) (fun h => by simp at h; omega)
      cases hok : isOk a b k with
      | false =>
        refine Ok.bde (diff_n' f hk hok) ?_
        exact Ok.cd (fun h => by cases h) (fun _ => ih c (t_stay hok hst))
      | true =>
        refine Ok.bde (diff_v' f hk hok) ?_
        exact Ok.cd (fun _ => ih _ (t_round f h64 hk hok hst)) (fun h => by cases h)
    · rintro again c hst
      exact Ok.cd (fun h => by simp at h) (fun _ => ok_some.2 hst)
  · rintro c hst
    unfold tSt at hst; subst hst
    have b1 := ts_bd gb1 f (k := a.Grid.Z.length) (by omega) h64; have b2 := ts_bd gb2 f (k := a.Grid.Z.length) (by omega) h64; have b3 := ts_bd gb3 f (k := a.Grid.Z.length) (by omega) h64; have b4 := ts_bd gb4 f (k := a.Grid.Z.length) (by omega) h64
    exact Ok.bd (solid_ok hn f.ga.step (by omega) (by omega)) fun z hz => Ok.bd (solid_ok hn f.ga.step (by omega) (by omega)) fun w hw => ok_some.2 ⟨hz, hw, rfl⟩
theorem sq_bd {s v : Int} (hs : 2 ≤ s ∧ s ≤ 65536) (hv : 0 ≤ v ∧ v ≤ 268435456) : (0 ≤ s * s ∧ s * s ≤ 4294967296) ∧ -9223372036854775808 ≤ s * s * v ∧ s * s * v ≤ 9223372036854775807 := by
  have hq := mul_bound (a := s) (b := s) (A := 65536) (B := 65536) (by omega) (by omega) (by omega) (by omega)
  have hq0 : 0 ≤ s * s := Int.mul_nonneg (by omega) (by omega)
  have m1 := mul_bound (a := s * s) (b := v) (A := 4294967296) (B := 268435456) (by omega) (by omega) (by omega) (by omega)
  omega
theorem rtotal_ok {n : Nat} (hn : 5000 ≤ n) {a b : api_Banded} (f : Fits2 a b) (h64 : a.Grid.Z.length ≤ 64) :
    Ok (fiduciallaw59_total n a b) fun z => isR z.1 (totS g1 a b * (a.Grid.Step * a.Grid.Step)) (totS g2 a b * (a.Grid.Step * a.Grid.Step)) 6 ∧ isR z.2 (totS g3 a b * (a.Grid.Step * a.Grid.Step)) (totS g4 a b * (a.Grid.Step * a.Grid.Step)) 6 := by
  unfold fiduciallaw59_total
  refine Ok.bd (R := fun o => tSt a b a.Grid.Z.length o) ?_ ?_
  · refine ok_rangeG (len := a.Grid.Z.length) (fun (c : C4) x => (c.1, c.2.1, c.2.2.1, c.2.2.2, x)) (fun k c => tSt a b k c) (by omega) (by omega) (c0 := (0, 0, 0, 0)) rfl ?_ ?_
    · rintro again k c hk hst ih
      refine Ok.cd (fun _ => ?_) (fun h => by simp at h; omega)
      refine Ok.bde (both_v' f hk) ?_
      exact Ok.cd (fun (hok : isOk a b k = true) => ih _ (t_round f h64 hk hok hst)) (fun (hok : isOk a b k = false) => ih c (t_stay hok hst))
    · rintro again c hst
      exact Ok.cd (fun h => by simp at h) (fun _ => ok_some.2 hst)
  · rintro c hst
    unfold tSt at hst; subst hst
    have b1 := ts_bd gb1 f (k := a.Grid.Z.length) (by omega) h64; have b2 := ts_bd gb2 f (k := a.Grid.Z.length) (by omega) h64; have b3 := ts_bd gb3 f (k := a.Grid.Z.length) (by omega) h64; have b4 := ts_bd gb4 f (k := a.Grid.Z.length) (by omega) h64
    have q1 := sq_bd f.ga.step b1; have q2 := sq_bd f.ga.step b2; have q3 := sq_bd f.ga.step b3; have q4 := sq_bd f.ga.step b4
    show Ok (bdO (fiducialref03_Whole n _ _) _) _
    rw [wrap64_in (n := a.Grid.Step * a.Grid.Step) (by omega) (by omega), wrap64_in (n := a.Grid.Step * a.Grid.Step * sumZ (totF g1 a b) _) q1.2.1 q1.2.2, wrap64_in (n := a.Grid.Step * a.Grid.Step * sumZ (totF g2 a b) _) q2.2.1 q2.2.2, wrap64_in (n := a.Grid.Step * a.Grid.Step * sumZ (totF g3 a b) _) q3.2.1 q3.2.2, wrap64_in (n := a.Grid.Step * a.Grid.Step * sumZ (totF g4 a b) _) q4.2.1 q4.2.2]
    rw [Int.mul_comm _ (sumZ (totF g1 a b) _), Int.mul_comm _ (sumZ (totF g2 a b) _), Int.mul_comm _ (sumZ (totF g3 a b) _), Int.mul_comm _ (sumZ (totF g4 a b) _)]
    rw [Int.mul_comm] at q1 q2 q3 q4
    refine Ok.bd (rWhole_ok hn (by rw [Int.mul_comm]; exact q1.2) (by rw [Int.mul_comm]; exact q2.2)) fun z hz => Ok.bd (rWhole_ok hn (by rw [Int.mul_comm]; exact q3.2) (by rw [Int.mul_comm]; exact q4.2)) fun w hw => ok_some.2 ⟨hz.mono (by omega), hw.mono (by omega)⟩
def tru (s : Int) (a b : api_Banded) (A B : List Int) (k : Nat) : Int := if isOk a b k = true then mx 0 (s * (truthS b k (B.getD k default) - truthS a k (A.getD k default))) else 0
theorem tru_in {a b : api_Banded} (f : Fits2 a b) {A B : List Int} (hA : Bytes A) (hB : Bytes B) {k : Nat} (hk : k < a.Grid.Z.length) (la : k < A.length) (lb : k < B.length) :
    (totF g1 a b k ≤ tru 1 a b A B k ∧ tru 1 a b A B k ≤ totF g2 a b k) ∧ totF g3 a b k ≤ tru (-1) a b A B k ∧ tru (-1) a b A B k ≤ totF g4 a b k := by
  unfold tru totF
  by_cases h : isOk a b k = true
  · have p := hA k la; have q := hB k lb
    have t1 := truth_in f.ga hk p.1 p.2
    have t2 := truth_in f.gb (k := k) (by rw [f.len]; exact hk) q.1 q.2
    simp only [if_pos h, g1, g2, g3, g4]
    unfold dif bnd mx; repeat' split
    all_goals omega
  · simp only [if_neg h]; omega
theorem tot_v (a b : api_Banded) (x : A2 (List Int)) (hA : Bytes x.e0) (hB : Bytes x.e1) : fiduciallaw59_ChangeTotals 5000 a b x = some true := by
  apply Ok.eq
  unfold fiduciallaw59_ChangeTotals
  refine Ok.bde known59_v ?_
  refine Ok.cd (fun h => by cases h) (fun _ => ?_)
  refine Ok.bde (few_v (by simp) (by simp)) ?_
  refine Ok.cd (fun h => ok_some.2 rfl) (fun hfew => ?_)
  have hfew : fewB [a, b] = true := by simpa using hfew
  have hs := short_of_few (l := [a, b]) (by simp) hfew
  have h64 := few_len hfew
  by_cases hc : codeF [a, b] = 0
  rotate_left
  · have hc' : (codeF [a, b] != 0) = true := by simpa using hc
    have e : change_Total 5000 a b = some (zeroR, zeroR, codeF [a, b]) := by
      unfold change_Total; rw [fit_v hs]; simp only [bdO, hc', cdO]; rfl
    refine Ok.bde e (Ok.bde (fits_v hs) ?_)
    refine Ok.cd (fun _ => ?_) (fun h => by rw [hc'] at h; cases h)
    refine Ok.bd (R := fun v => v = true) (Ok.cd (fun _ => Ok.bde zeroR_v (Ok.cd (fun _ => Ok.bde zeroR_v (ok_some.2 rfl)) (fun h => by cases h))) (fun h => by simp at h)) (fun v hv => ok_some.2 hv)
  have f := codeF_two hc
  refine Ok.bd (total_ok (by decide) f hs hc h64) fun v hv => Ok.bde (fits_v hs) ?_
  obtain ⟨hv1, hv2, hv0⟩ := hv
  rw [hc, hv0]
  refine Ok.cd (fun h => by cases h) (fun _ => ?_)
  have b1 := ts_bd gb1 f (k := a.Grid.Z.length) (by omega) h64; have b2 := ts_bd gb2 f (k := a.Grid.Z.length) (by omega) h64; have b3 := ts_bd gb3 f (k := a.Grid.Z.length) (by omega) h64; have b4 := ts_bd gb4 f (k := a.Grid.Z.length) (by omega) h64
  have hq0 : 0 ≤ a.Grid.Step * a.Grid.Step := by have := f.ga.step; exact Int.mul_nonneg (by omega) (by omega)
  have hle : ∀ {g g' : Int → Int → Int}, (∀ d e, 0 ≤ e → g d e ≤ g' d e) → totS g a b * (a.Grid.Step * a.Grid.Step) ≤ totS g' a b * (a.Grid.Step * a.Grid.Step) := fun {g g'} hgg => by
    refine Int.mul_le_mul_of_nonneg_right (sumZ_le fun j hj => ?_) hq0
    unfold totF
    by_cases h : isOk a b j = true
    · have := okz' f hj h
      have h1 := hgg (dif a b j) (bnd a b j) this.2.1
      simp only [if_pos h]; unfold mx; repeat' split
      all_goals omega
    · simp only [if_neg h]; omega
  have l12 := hle (g := g1) (g' := g2) (by unfold g1 g2; omega)
  have l34 := hle (g := g3) (g' := g4) (by unfold g3 g4; omega)
  refine Ok.bd (rtotal_ok (by decide) f h64) fun w hw => ?_
  refine Ok.cd (fun h => by cases h) (fun _ => ?_)
  refine Ok.bde (rSame_ok (by decide) (k := 6) (by omega) hv1 hw.1 l12) (Ok.cd (fun h => by cases h) (fun _ => ?_))
  refine Ok.bde (rSame_ok (by decide) (k := 6) (by omega) hv2 hw.2 l34) (Ok.cd (fun h => by cases h) (fun _ => ?_))
  refine Ok.cd (fun _ => ok_some.2 rfl) (fun la => Ok.cd (fun _ => ok_some.2 rfl) (fun lb => ?_))
  have la := of_decide_eq_false la; have lb := of_decide_eq_false lb
  have hin : ∀ j, j < a.Grid.Z.length → _ := fun j hj => tru_in f hA hB (k := j) hj (by omega) (by omega)
  have hsum : ∀ k, k ≤ a.Grid.Z.length → (sumZ (totF g1 a b) k ≤ sumZ (tru 1 a b x.e0 x.e1) k ∧ sumZ (tru 1 a b x.e0 x.e1) k ≤ sumZ (totF g2 a b) k) ∧ sumZ (totF g3 a b) k ≤ sumZ (tru (-1) a b x.e0 x.e1) k ∧ sumZ (tru (-1) a b x.e0 x.e1) k ≤ sumZ (totF g4 a b) k := fun k hk =>
    ⟨⟨sumZ_le (fun j hj => (hin j (by omega)).1.1), sumZ_le (fun j hj => (hin j (by omega)).1.2)⟩, sumZ_le (fun j hj => (hin j (by omega)).2.1), sumZ_le (fun j hj => (hin j (by omega)).2.2)⟩
  refine Ok.bd (R := fun s => s = (sumZ (tru 1 a b x.e0 x.e1) a.Grid.Z.length, sumZ (tru (-1) a b x.e0 x.e1) a.Grid.Z.length)) ?_ ?_
  · refine ok_rangeG (len := a.Grid.Z.length) (fun (c : Int × Int) x => (c.1, c.2, x)) (fun k c => c = (sumZ (tru 1 a b x.e0 x.e1) k, sumZ (tru (-1) a b x.e0 x.e1) k)) (by omega) (by omega) (c0 := (0, 0)) rfl ?_ ?_
    · rintro again k c hk rfl ih
      refine Ok.cd (fun _ => ?_) (fun h => by simp at h; omega)
      refine Ok.bde (both_v' f hk) ?_
      refine Ok.cd (fun (hok : isOk a b k = true) => ?_) (fun (hok : isOk a b k = false) => ih _ (by simp only [sumZ, tru, hok, Bool.false_eq_true, if_false, Int.add_zero]))
      have ka : k < x.e0.length := by omega
      have kb : k < x.e1.length := by omega
      refine Ok.gd (by rw [inR_nat]; simpa using kb) ?_
      rw [gt_nat, gt_nat]
      refine Ok.bde (truth_v f.gb (by rw [f.len]; exact hk) (hB k kb).1 (hB k kb).2) ?_
      refine Ok.gd (by rw [inR_nat]; simpa using ka) ?_
      refine Ok.bde (truth_v f.ga hk (hA k ka).1 (hA k ka).2) ?_
      have hz := okz' f hk hok
      have t1 := truth_in f.ga hk (hA k ka).1 (hA k ka).2
      have t2 := truth_in f.gb (k := k) (by rw [f.len]; exact hk) (hB k kb).1 (hB k kb).2
      have c1 := ts_bd gb1 f (k := k) (by omega) h64; have c2 := ts_bd gb2 f (k := k) (by omega) h64; have c3 := ts_bd gb3 f (k := k) (by omega) h64; have c4 := ts_bd gb4 f (k := k) (by omega) h64
      have h1 := hsum k (by omega)
      have e1 : tru 1 a b x.e0 x.e1 k = mx 0 (truthS b k (x.e1.getD k default) - truthS a k (x.e0.getD k default)) := by unfold tru; rw [if_pos hok, Int.one_mul]
      have e2 : tru (-1) a b x.e0 x.e1 k = mx 0 (0 - (truthS b k (x.e1.getD k default) - truthS a k (x.e0.getD k default))) := by unfold tru; rw [if_pos hok, Int.neg_one_mul, Int.zero_sub]
      have dd : dif a b k = b.Grid.Z.getD k default - a.Grid.Z.getD k default := rfl
      have dbn : bnd a b k = a.Err.getD k default + b.Err.getD k default := rfl
      have m1 := mx0 (truthS b k (x.e1.getD k default) - truthS a k (x.e0.getD k default))
      have m2 := mx0 (0 - (truthS b k (x.e1.getD k default) - truthS a k (x.e0.getD k default)))
      have q := hin k hk
      have r1 := tot_bd gb2 f hk; have r2 := tot_bd gb4 f hk
      generalize hD : truthS b k (x.e1.getD k default) - truthS a k (x.e0.getD k default) = D at *
      have hDb : -4194304 ≤ D ∧ D ≤ 4194304 := by omega
      show Ok (again (wrapF .i64 (sumZ (tru 1 a b x.e0 x.e1) k + mx 0 (wrapF .i64 D)), wrapF .i64 (sumZ (tru (-1) a b x.e0 x.e1) k + mx 0 (wrapF .i64 (0 - (wrapF .i64 D)))), wrapF .i64 ((k : Int) + 1))) _
      rw [wrap64_in (n := D) (by omega) (by omega), wrap64_in (n := 0 - D) (by omega) (by omega), wrap64_in (n := sumZ (tru 1 a b x.e0 x.e1) k + _) (by omega) (by omega), wrap64_in (n := sumZ (tru (-1) a b x.e0 x.e1) k + _) (by omega) (by omega)]
      exact ih (_, _) (by simp only [sumZ, e1, e2])
    · rintro again c rfl
      exact Ok.cd (fun h => by simp at h) (fun _ => ok_some.2 rfl)
  · rintro s rfl
    have h1 := hsum a.Grid.Z.length (by omega)
    show Ok (bdO (fiducialref02_Whole 5000 (wrapF .i64 ((wrapF .i64 (a.Grid.Step * a.Grid.Step)) * sumZ (tru 1 a b x.e0 x.e1) a.Grid.Z.length))) fun v106 => bdO (fiducialref03_Has 5000 v.1 v106) fun v108 => cdO v108 (bdO (fiducialref02_Whole 5000 (wrapF .i64 ((wrapF .i64 (a.Grid.Step * a.Grid.Step)) * sumZ (tru (-1) a b x.e0 x.e1) a.Grid.Z.length))) fun v111 => bdO (fiducialref03_Has 5000 v.2.1 v111) fun v113 => some v113) (some false)) _
    generalize sumZ (tru 1 a b x.e0 x.e1) a.Grid.Z.length = s at *
    generalize sumZ (tru (-1) a b x.e0 x.e1) a.Grid.Z.length = t at *
    have q1 := sq_bd (v := s) f.ga.step (by omega); have q2 := sq_bd (v := t) f.ga.step (by omega)
    rw [wrap64_in (n := a.Grid.Step * a.Grid.Step) (by omega) (by omega), wrap64_in (n := a.Grid.Step * a.Grid.Step * s) q1.2.1 q1.2.2, wrap64_in (n := a.Grid.Step * a.Grid.Step * t) q2.2.1 q2.2.2]
    rw [Int.mul_comm _ s, Int.mul_comm _ t]
    refine Ok.bd (R.qWhole_ok (by decide) (by rw [Int.mul_comm]; exact q1.2.1) (by rw [Int.mul_comm]; exact q1.2.2)) fun w hw => ?_
    refine Ok.bde (rHas_ok (by decide) (k := 6) (by omega) hv1 hw (Int.mul_le_mul_of_nonneg_right h1.1.1 hq0) (Int.mul_le_mul_of_nonneg_right h1.1.2 hq0)) (Ok.cd (fun _ => ?_) (fun h => by cases h))
    refine Ok.bd (R.qWhole_ok (by decide) (by rw [Int.mul_comm]; exact q2.2.1) (by rw [Int.mul_comm]; exact q2.2.2)) fun u hu => ?_
    exact Ok.bde (rHas_ok (by decide) (k := 6) (by omega) hv2 hu (Int.mul_le_mul_of_nonneg_right h1.2.1 hq0) (Int.mul_le_mul_of_nonneg_right h1.2.2 hq0)) (ok_some.2 rfl)
end Go.L

