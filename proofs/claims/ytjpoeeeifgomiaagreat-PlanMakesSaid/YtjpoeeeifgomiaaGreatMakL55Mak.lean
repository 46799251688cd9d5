import Derived.Test.YtjpoeeeifgomiaaGreatMakL55m
set_option linter.unusedVariables false
set_option linter.unusedSimpArgs false
namespace Go.L
open Go Go.Eng
theorem sameZ {n : Nat} (hn : 0 < n) : fiduciallaw55_sameFlight n zF zF = some true := sameFl (by simpa [zF] using hn) (by simp [zF]) (by simp [zF])
theorem grd_small {xs ys : List Int} (hx : xs.length ≤ 301) (hy : ys.length ≤ 301) : (grd xs ys).length ≤ 301 ∧ ∀ l ∈ grd xs ys, l.length ≤ 301 := by
  unfold grd
  refine ⟨by simpa using hy, fun l hl => ?_⟩
  obtain ⟨y, _, rfl⟩ := List.mem_map.1 hl
  simpa using hx
theorem mkd_small (s : api_Survey) (height : Int) (hs : (mkd s height).2 = 0) : (mkd s height).1.Strips.length ≤ 301 ∧ ∀ l ∈ (mkd s height).1.Strips, l.length ≤ 301 := by
  unfold mkd at hs ⊢
  dsimp only at hs ⊢
  split at hs
  · cases hs
  rename_i h1
  split at hs
  · cases hs
  rename_i h2
  rw [if_neg h1, if_neg h2]
  exact grd_small (by have := @lX_len s.Width (s.Along * (height - s.High)) s.Focal s.Overlap (by omega); omega) (by have := @lX_len s.Height (s.Across * (height - s.High)) s.Focal s.Sidelap (by omega); omega)
theorem mkd_code (s : api_Survey) (height : Int) : (mkd s height).2 ≠ 0 → (mkd s height).1 = zF := by
  intro h
  unfold mkd at h ⊢
  dsimp only at h ⊢
  split
  · rfl
  rename_i h1
  rw [if_neg h1] at h
  split
  · rfl
  rename_i h2
  rw [if_neg h2] at h
  exact absurd rfl h
theorem any1 {a : Int} : [a].any far = decide (¬ near a) := by
  by_cases h1 : near a
  · rw [List.any_cons, far_f.2 h1, decide_eq_false (by simp [h1])]; rfl
  · rw [List.any_cons, far_t.2 h1, decide_eq_true h1]; rfl
theorem makes_v (s : api_Survey) (height : Int) : fiduciallaw55_PlanMakes 5000 s height = some true := by
  apply Ok.eq
  unfold fiduciallaw55_PlanMakes
  refine Ok.bde known55_v (Ok.cd (fun h => by cases h) (fun _ => ?_))
  by_cases hc : chk s = 0
  · have hout : fiduciallaw55_out 5000 [height] = some (decide (¬ near height)) := by rw [out_v (by simp) (by simp), any1]
    obtain ⟨ok, _⟩ := chk_zero hc
    by_cases hn : near height
    · have ho : decide (¬ near height) = false := by simp [hn]
      by_cases hg : height ≤ s.High
      · refine Ok.bde (make_low hc hn hg) ?_
        rw [rcheck_v (by omega), hc, hout, ho]
        simp only [bdO, cdO, decide_eq_true hg]
        exact Ok.bde (b := true) (sameZ (n := 5000) (by omega)) (ok_some.2 rfl)
      · refine Ok.bde (make_v (by omega) hc hn hg) ?_
        rw [rcheck_v (by omega), hc, hout, ho, made_v (by omega) ok hn hg]
        simp only [bdO, cdO, decide_eq_false hg]
        have hsm := mkd_small s height
        have hcd := mkd_code s height
        generalize mkd s height = q at *
        obtain ⟨⟨fh, fs⟩, c⟩ := q
        dsimp only at hsm hcd ⊢
        by_cases h0 : c = 0
        · subst h0
          obtain ⟨g1, g2⟩ := hsm rfl
          refine Ok.bde (b := true) (sameFl (by show fs.length < 5000; omega) (by show fs.length ≤ _; omega) fun l hl => ?_) (ok_some.2 rfl)
          have := g2 l hl; omega
        · have b1 : (c != 0) = true := by simpa using h0
          have b2 : (c == c) = true := by simp
          change Ok (cdO (c != 0) (cdO (c == c) (bdO (fiduciallaw55_sameFlight 5000 (api_Flight.mk fh fs) (api_Flight.mk 0 [])) fun v => some v) (some false)) (cdO (c == 0) (bdO (fiduciallaw55_sameFlight 5000 (api_Flight.mk fh fs) (api_Flight.mk fh fs)) fun v => some v) (some false))) _
          rw [b1, b2, hcd h0]
          exact Ok.bde (b := true) (sameZ (n := 5000) (by omega)) (ok_some.2 rfl)
    · have ho : decide (¬ near height) = true := decide_eq_true hn
      refine Ok.bde (make_far hc hn) ?_
      rw [rcheck_v (by omega), hc, hout, ho]
      simp only [bdO, cdO]
      exact Ok.bde (b := true) (sameZ (n := 5000) (by omega)) (ok_some.2 rfl)
  · have b1 : (chk s != 0) = true := by simpa using hc
    have b2 : (chk s == 0) = false := by simpa using hc
    refine Ok.bde (make_bad hc height) ?_
    rw [rcheck_v (by omega)]
    simp only [bdO, cdO, b1, b2, beq_self_eq_true]
    exact Ok.bde (b := true) (sameZ (n := 5000) (by omega)) (ok_some.2 rfl)
end Go.L

