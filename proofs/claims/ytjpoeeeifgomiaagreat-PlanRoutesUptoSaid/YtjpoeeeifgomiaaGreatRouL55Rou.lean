import Derived.Test.YtjpoeeeifgomiaaGreatRouL55f
set_option linter.unusedVariables false
set_option linter.unusedSimpArgs false
namespace Go.L
open Go Go.Eng
theorem clone_v {n : Nat} {l : List api_Pix} (h : l.length ≤ 300) : slices_Clone_fiducial_api_Pix_fiducial_api_Pix_w n l = some l := by
  unfold slices_Clone_fiducial_api_Pix_fiducial_api_Pix_w
  simp only [gdO]
  have e1 : decide ((0 + l.length) * 16 ≤ 140737488355328) = true := decide_eq_true (by omega)
  have e2 : decide (0 + l.length ≤ 4611686018427387904) = true := decide_eq_true (by omega)
  simp only [e1, e2]
theorem rev_ok {n : Nat} {l : List api_Pix} (hn : 1000 ≤ n) (h : l.length ≤ 300) : Ok (slices_Reverse_fiducial_api_Pix_fiducial_api_Pix_w n l) fun r => r.length = l.length := by
  unfold slices_Reverse_fiducial_api_Pix_fiducial_api_Pix_w
  have e : wrapF .i64 ((l.length : Int) - 1) = (l.length : Int) - 1 := wrap64_in (by omega) (by omega)
  rw [e]
  clear e
  refine Ok.bd (R := fun r => r.length = l.length) ?_ (fun r hr => ok_some.2 hr)
  refine ok_loop (fun s : List api_Pix × Int × Int => ∃ k : Nat, s.1.length = l.length ∧ s.2.1 = (k : Int) ∧ s.2.2 = (l.length : Int) - 1 - k ∧ k ≤ l.length) (fun s => 400 - s.2.1.toNat) ?_ n _ ⟨0, rfl, rfl, by simp, by omega⟩ (by simp; omega)
  rintro again ⟨s, i, j⟩ ⟨k, h1, h2, h3, h4⟩ ih
  simp only at h1 h2 h3
  subst h2 h3
  refine Ok.cd (fun hlt => ?_) (fun _ => ok_some.2 h1)
  have hlt := of_decide_eq_true hlt
  refine Ok.gd (by rw [inR_iff]; omega) (Ok.gd (by rw [inR_iff]; omega) (ih _ ⟨k + 1, ?_, ?_, ?_, by omega⟩ ?_))
  · simp only [List.length_set]; exact h1
  · have hk9 : k ≤ 100000000 := by omega
    dsimp only
    rw [w64n hk9]
  · simp only; rw [wrap64_in (by omega) (by omega)]; omega
  · have hk9 : k ≤ 100000000 := by omega
    simp only; rw [w64n hk9]; omega
def revd (l : List api_Pix) : List api_Pix := (slices_Reverse_fiducial_api_Pix_fiducial_api_Pix_w 5000 l).getD []
theorem rev_v {l : List api_Pix} (h : l.length ≤ 300) : slices_Reverse_fiducial_api_Pix_fiducial_api_Pix_w 5000 l = some (revd l) ∧ (revd l).length = l.length := by
  obtain ⟨r, h1, h2⟩ := rev_ok (n := 5000) (by omega) h
  unfold revd
  rw [h1]; exact ⟨rfl, h2⟩
def rout (ls : List (List api_Pix)) : Nat → List api_Pix
  | 0 => []
  | k + 1 => rout ls k ++ (if k % 2 = 1 then revd (ls.getD k default) else ls.getD k default)
theorem rout_len (ls : List (List api_Pix)) (h : ls.flatten.length ≤ 300) : ∀ k, k ≤ ls.length → (rout ls k).length = (ls.take k).flatten.length
  | 0, _ => by simp [rout]
  | k + 1, hk => by
    have hs := strip_le ls (k := k) (by omega)
    rw [rout, flat_take_succ ls (by omega), List.length_append, List.length_append, rout_len ls h k (by omega)]
    split
    · rw [(rev_v (by omega)).2]
    · rfl
theorem routes_v (f : api_Flight) (hb : fsz f ≤ 1048576) : fiduciallaw55_PlanRoutes 5000 f = some true := by
  apply Ok.eq
  unfold fiduciallaw55_PlanRoutes
  refine Ok.bde known55_v (Ok.cd (fun h => by cases h) (fun _ => Ok.bde (few_v (by omega) hb 300) (Ok.cd (fun _ => ok_some.2 rfl) (fun hfew => ?_))))
  obtain ⟨f1, f2⟩ := dec_of hfew
  have f2 : (pts f).length ≤ 300 := by omega
  have step : ∀ (again : List api_Pix × Int → Option (List api_Pix)) (k : Nat), k < f.Strips.length → Ok (again (rout f.Strips (k + 1), wrapF .i64 ((k : Int) + 1))) (· = rout f.Strips f.Strips.length) →
      Ok (bdO (slices_Clone_fiducial_api_Pix_fiducial_api_Pix_w 5000 (gt f.Strips (k : Int))) fun v41 => (cdO ((((k : Int).tmod 2) : Int) == 1) (bdO (slices_Reverse_fiducial_api_Pix_fiducial_api_Pix_w 5000 v41) fun v44 => (gdO (decide (v44.length = v41.length)) (gdO (decide (((rout f.Strips k).length + v41.length) * 16 ≤ 140737488355328)) (gdO (decide ((rout f.Strips k).length + v41.length ≤ 4611686018427387904)) (again (rout f.Strips k ++ v44, wrapF .i64 ((k : Int) + 1))))))) (gdO (decide (((rout f.Strips k).length + v41.length) * 16 ≤ 140737488355328)) (gdO (decide ((rout f.Strips k).length + v41.length ≤ 4611686018427387904)) (again (rout f.Strips k ++ v41, wrapF .i64 ((k : Int) + 1))))))) (· = rout f.Strips f.Strips.length) := by
    intro again k hk ih
    have hs := strip_le f.Strips hk
    have hrl := rout_len f.Strips f2 k (by omega)
    unfold pts at f2
    rw [gt_nat]
    have hin : (f.Strips.getD k default).length ≤ 300 := by omega
    rw [rout] at ih
    refine Ok.bde (clone_v hin) ?_
    have hm : (k : Int).tmod 2 = ((k % 2 : Nat) : Int) := by rw [Int.tmod_eq_emod_of_nonneg (by omega)]; omega
    rw [hm]
    refine Ok.cd (fun h => ?_) (fun h => ?_)
    · have h : k % 2 = 1 := by have : ((k % 2 : Nat) : Int) = 1 := by simpa using h
                               omega
      rw [if_pos h] at ih
      obtain ⟨r1, r2⟩ := rev_v hin
      refine Ok.bde r1 (Ok.gd (decide_eq_true r2) (Ok.gd (decide_eq_true (by omega)) (Ok.gd (decide_eq_true (by omega)) ih)))
    · have h : ¬ k % 2 = 1 := by have : ¬ ((k % 2 : Nat) : Int) = 1 := by simpa using h
                                 omega
      rw [if_neg h] at ih
      exact Ok.gd (decide_eq_true (by omega)) (Ok.gd (decide_eq_true (by omega)) ih)
  have hR : plan_Route 5000 f = some (if fcode f = 0 then (rout f.Strips f.Strips.length, 0) else ([], fcode f)) := by
    apply Ok.eq
    unfold plan_Route
    refine Ok.bde (checkFlight_v (by omega) f1 f2) ?_
    by_cases h0 : fcode f = 0
    · rw [if_pos h0, h0]
      refine Ok.cd (fun h => by cases h) (fun _ => Ok.bd (R := fun o => o = rout f.Strips f.Strips.length) ?_ (fun o ho => ok_some.2 (by rw [ho])))
      refine ok_rangeR (len := f.Strips.length) (fun k (c : List api_Pix) => c = rout f.Strips k) (by omega) (by omega) rfl ?_ ?_
      · rintro again k c hk rfl ih
        refine Ok.cd (fun _ => Ok.gd (by rw [inR_nat]; simpa using hk) ?_) (fun h => by simp at h; omega)
        exact step again k hk (ih _ rfl)
      · rintro again c rfl
        exact Ok.cd (fun h => by simp at h) (fun _ => ok_some.2 rfl)
    · have b1 : (fcode f != 0) = true := by simpa using h0
      rw [if_neg h0, b1]
      exact Ok.cd (fun _ => ok_some.2 rfl) (fun h => by cases h)
  refine Ok.bde hR (Ok.bde (flight_v (by omega) f1 f2) ?_)
  by_cases h0 : fcode f = 0
  · rw [if_pos h0, h0]
    refine Ok.cd (fun h => by cases h) (fun _ => Ok.bd (R := fun o => o = rout f.Strips f.Strips.length) ?_ ?_)
    · refine ok_rangeR (len := f.Strips.length) (fun k (c : List api_Pix) => c = rout f.Strips k) (by omega) (by omega) rfl ?_ ?_
      · rintro again k c hk rfl ih
        refine Ok.cd (fun _ => Ok.gd (by rw [inR_nat]; simpa using hk) ?_) (fun h => by simp at h; omega)
        exact step again k hk (ih _ rfl)
      · rintro again c rfl
        exact Ok.cd (fun h => by simp at h) (fun _ => ok_some.2 rfl)
    · rintro o rfl
      have hl := rout_len f.Strips f2 f.Strips.length (Nat.le_refl _)
      rw [List.take_length] at hl
      unfold pts at f2
      exact Ok.cd (fun _ => Ok.bde (equalP (l := rout f.Strips f.Strips.length) (by omega) (by omega)) (ok_some.2 rfl)) (fun h => by cases h)
  · have b1 : (fcode f != 0) = true := by simpa using h0
    have b2 : (fcode f == fcode f) = true := by simp
    rw [if_neg h0, b1]
    refine Ok.cd (fun _ => ?_) (fun h => by cases h)
    show Ok (bdO (cdO (fcode f == fcode f) _ _) _) _
    rw [b2]
    exact ok_some.2 rfl
end Go.L

