import Derived.Test.YtjpoeeeifgomiaaGreatFewL55n
import Derived.Test.YtjpoeeeifgomiaaGreatFewL55m
set_option linter.unusedVariables false
set_option linter.unusedSimpArgs false
namespace Go.L
open Go Go.Eng
theorem ints_of {l : List Int} (h : ∀ a ∈ l, (Lit.int .i64 a).wf = true) : ∀ a ∈ l, -9223372036854775808 ≤ a ∧ a ≤ 9223372036854775807 := fun a ha => by
  have := h a ha
  simp [Lit.wf, IntKind.min, IntKind.max, IntKind.signed, IntKind.bits] at this
  exact this
theorem fewest_v (s : api_Survey) (height : Int) (rival : List Int) (hw : ∀ a ∈ rival, -9223372036854775808 ≤ a ∧ a ≤ 9223372036854775807) : fiduciallaw55_PlanFewest 5000 s height rival = some true := by
  apply Ok.eq
  unfold fiduciallaw55_PlanFewest
  refine Ok.bde known55_v (Ok.cd (fun h => by cases h) (fun _ => Ok.cd (fun _ => ok_some.2 rfl) (fun hlen => ?_)))
  have hlen : rival.length ≤ 300 := by have := of_decide_eq_false hlen; omega
  by_cases hc : chk s = 0
  rotate_left
  · have b1 : (chk s != 0) = true := by simpa using hc
    refine Ok.bde (make_bad hc height) (Ok.cd (fun _ => ok_some.2 rfl) (fun h => ?_))
    exact absurd h (by show ¬ (chk s != 0) = false; rw [b1]; decide)
  by_cases hn : near height
  rotate_left
  · exact Ok.bde (make_far hc hn) (Ok.cd (fun _ => ok_some.2 rfl) (fun h => by cases h))
  by_cases hg : height ≤ s.High
  · exact Ok.bde (make_low hc hn hg) (Ok.cd (fun _ => ok_some.2 rfl) (fun h => by cases h))
  obtain ⟨ok, _⟩ := chk_zero hc
  refine Ok.bde (make_v (by omega) hc hn hg) (Ok.cd (fun _ => ok_some.2 rfl) (fun h0 => ?_))
  have h0 : (mkd s height).2 = 0 := by simpa using h0
  obtain ⟨rx, _⟩ := rowX ok hn hg
  obtain ⟨ry, _⟩ := rowY ok hn hg
  have lx := @lX_len s.Width (s.Along * (height - s.High)) s.Focal s.Overlap
  have ly := @lX_len s.Height (s.Across * (height - s.High)) s.Focal s.Sidelap
  have cx0 := cX_pos s.Width (s.Along * (height - s.High)) s.Focal s.Overlap
  have cy0 := cX_pos s.Height (s.Across * (height - s.High)) s.Focal s.Sidelap
  have hsx : ∀ {len : api_Rat}, R.Qx len (Rat.divInt (s.Along * (height - s.High)) s.Focal) 3 → _ := fun {len} hl => covers_ok (n := 5000) (by omega) hlen hw ok.w (by have := ok.fo; omega) ok.ov hl
  have hsy : ∀ {len : api_Rat}, R.Qx len (Rat.divInt (s.Across * (height - s.High)) s.Focal) 3 → _ := fun {len} hl => covers_ok (n := 5000) (by omega) hlen hw ok.h (by have := ok.fo; omega) ok.si hl
  have kx : Cov rival s.Width (s.Along * (height - s.High)) s.Focal s.Overlap → cX s.Width (s.Along * (height - s.High)) s.Focal s.Overlap ≤ rival.length := cov_least rx
  have ky : Cov rival s.Height (s.Across * (height - s.High)) s.Focal s.Sidelap → cX s.Height (s.Across * (height - s.High)) s.Focal s.Sidelap ≤ rival.length := cov_least ry
  have hform : ∃ LX LY, (mkd s height).1.Strips = grd LX LY ∧ (LX.length : Int) = cX s.Width (s.Along * (height - s.High)) s.Focal s.Overlap ∧ (LY.length : Int) = cX s.Height (s.Across * (height - s.High)) s.Focal s.Sidelap ∧ 1 ≤ LY.length := by
    unfold mkd at h0 ⊢
    dsimp only at h0 ⊢
    split at h0
    · cases h0
    rename_i h1
    split at h0
    · cases h0
    rename_i h2
    rw [if_neg h1, if_neg h2]
    have e1 := lx (by omega)
    have e2 := ly (by omega)
    exact ⟨_, _, rfl, by omega, by omega, by omega⟩
  obtain ⟨LX, LY, e1, e2, e3, e4⟩ := hform
  have g1 : (mkd s height).1.Strips.length = LY.length := by rw [e1]; simp [grd]
  have g2 : (gt (mkd s height).1.Strips 0).length = LX.length := by
    rw [e1]
    obtain ⟨y, ys, rfl⟩ : ∃ y ys, LY = y :: ys := by
      cases LY with
      | nil => simp at e4
      | cons y ys => exact ⟨y, ys, rfl⟩
    simp [grd, gt]
  rw [g2, g1]
  refine Ok.cd (fun h => by have h : (LY.length : Int) = 0 := by simpa using h
                            omega) (fun _ => ?_)
  refine Ok.bd (size_ok (by omega) ok hn (by have := ok.hi; unfold near; omega) hg) fun v hv => ?_
  refine Ok.gd (by rw [inR_iff]; omega) ?_
  have fy : ¬ ((rival.length : Int) ≥ (LY.length : Int)) → Ok (bdO (fiduciallaw55_covers 5000 rival s.Height v.2 s.Sidelap) fun v18 => some (!v18)) (· = true) := fun h => by
    refine Ok.bd (hsy hv.2) fun b hb => ok_some.2 ?_
    cases b with
    | false => rfl
    | true => have := ky (hb rfl); omega
  refine Ok.cd (fun h1 => ?_) (fun h1 => ?_)
  · exact Ok.cd (fun _ => ok_some.2 rfl) (fun h2 => fy (of_decide_eq_false h2))
  · have h1 := of_decide_eq_false h1
    refine Ok.bd (hsx hv.1) fun b hb => ?_
    cases b with
    | true => have := kx (hb rfl); omega
    | false => exact Ok.cd (fun _ => Ok.cd (fun _ => ok_some.2 rfl) (fun h2 => fy (of_decide_eq_false h2))) (fun h => by cases h)
end Go.L

