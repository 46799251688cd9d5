import Derived.Test.YtlmndpmjbgnmbaaGreatConL46c
set_option linter.unusedVariables false
set_option linter.unusedSimpArgs false
namespace Go.L
open Go Go.Eng
def codeC (l r : api_Field) (most : Int) : Int := if okF l = true then (if okF r = true then (if l.Width = r.Width ∧ l.Height = r.Height then (if most < 0 then 2 else 0) else 4) else 1) else 1
theorem con_fail {n : Nat} {l r : api_Field} {most : Int} (hln : l.V.length < n) (hll : l.V.length ≤ 9223372036854775806) (hrn : r.V.length < n) (hrl : r.V.length ≤ 9223372036854775806) (h : codeC l r most ≠ 0) : depth_Consistent n l r most = some (zeroF, codeC l r most) := by
  unfold depth_Consistent
  unfold codeC at h ⊢
  rw [check_v hln hll, check_v hrn hrl]
  by_cases h1 : okF l = true
  · by_cases h2 : okF r = true
    · rw [if_pos h1, if_pos h2] at h ⊢
      rw [if_pos h1, if_pos h2]
      by_cases h3 : l.Width = r.Width ∧ l.Height = r.Height
      · rw [if_pos h3] at h ⊢
        have e : depth_alike n l r = some true := by unfold depth_alike; rw [h3.1, h3.2]; simp [cdO]
        rw [e]
        by_cases h4 : most < 0
        · rw [if_pos h4]
          have : decide (most < 0) = true := by simpa using h4
          rw [this]; rfl
        · rw [if_neg h4] at h; exact absurd rfl h
      · rw [if_neg h3]
        have e : depth_alike n l r = some false := by
          unfold depth_alike
          by_cases h4 : l.Width = r.Width
          · have h5 : ¬ l.Height = r.Height := fun h5 => h3 ⟨h4, h5⟩
            simp [h4, h5, cdO]
          · have b : (l.Width == r.Width) = false := by simpa using h4
            rw [b]; rfl
        rw [e]; rfl
    · rw [if_pos h1, if_neg h2, if_pos h1, if_neg h2]; rfl
  · rw [if_neg h1, if_neg h1]; rfl
theorem two_v {n : Nat} {l r : api_Field} (hln : l.V.length < n) (hll : l.V.length ≤ 9223372036854775806) (hrn : r.V.length < n) (hrl : r.V.length ≤ 9223372036854775806) : fiduciallaw46_two n l r = some (if okF l = true then (if okF r = true then (if l.Width = r.Width ∧ l.Height = r.Height then 0 else 4) else 1) else 1) := by
  unfold fiduciallaw46_two
  rw [valid_v hln hll, valid_v hrn hrl]
  by_cases h1 : okF l = true
  · by_cases h2 : okF r = true
    · rw [h1, h2, if_pos rfl, if_pos rfl]
      by_cases h4 : l.Width = r.Width
      · by_cases h5 : l.Height = r.Height
        · simp [h4, h5, cdO, bdO]
        · have b1 : (l.Width != r.Width) = false := by simpa using h4
          have b2 : (l.Height != r.Height) = true := by simpa using h5
          rw [if_neg (fun h => h5 h.2), b1, b2]; rfl
      · have b1 : (l.Width != r.Width) = true := by simpa using h4
        rw [if_neg (fun h => h4 h.1), b1]; rfl
    · have : okF r = false := by simpa using h2
      rw [h1, this]; rfl
  · have : okF l = false := by simpa using h1
    rw [this]; rfl
theorem cons1_v {n : Nat} {l r : api_Field} (hl : OkF l) (hr : OkF r) (hW : l.Width = r.Width) (hH : l.Height = r.Height) (most : Int) {x y : Nat} (hx : x < wN l) (hy : y < l.Height.toNat) : fiduciallaw46_Consistent_1 n x y l.Width l.Height l.V r.Width r.Height r.V most = some (conV l r most (y * wN l + x)) := by
  have hw := wN_eq hl
  have hwr : wN r = wN l := by unfold wN; rw [hW]
  have hw64 := hl.w
  have hp := place hl hx hy
  have hv := hl.v _ hp
  unfold fiduciallaw46_Consistent_1 conV
  rw [show api_Field.mk l.Width l.Height l.V = l from rfl, show api_Field.mk r.Width r.Height r.V = r from rfl, at_v hl hx hy, place_mod hx]
  generalize hd : l.V.getD (y * wN l + x) default = v at *
  apply Ok.eq
  refine Ok.bde rfl ?_
  refine Ok.cd (fun h => ?_) (fun h => ?_)
  · have h := of_decide_eq_true h
    exact ok_some.2 (by rw [if_pos (.inl h)])
  · have h := of_decide_eq_false h
    rw [wrap64_in (n := (x : Int) - v) (by omega) (by omega)]
    refine Ok.cd (fun h2 => ?_) (fun h2 => ?_)
    · have h2 := of_decide_eq_true h2
      exact ok_some.2 (by rw [if_pos (.inr (by omega))])
    · have h2 := of_decide_eq_false h2
      rw [if_neg (by omega)]
      have e : (x : Int) - v = ((x - v.toNat : Nat) : Int) := by omega
      rw [e]
      have hyr : y < r.Height.toNat := by rw [← hH]; exact hy
      refine Ok.bde (at_v hr (x := x - v.toNat) (y := y) (by rw [hwr]; omega) hyr) ?_
      have hpr := place hr (x := x - v.toNat) (y := y) (by rw [hwr]; omega) hyr
      have hrv := hr.v _ hpr
      rw [hwr] at hrv ⊢
      rw [show y * wN l + x - v.toNat = y * wN l + (x - v.toNat) by omega]
      generalize r.V.getD (y * wN l + (x - v.toNat)) default = u at *
      rw [wrap64_in (n := v - u) (by omega) (by omega), wrap64_in (n := u - v) (by omega) (by omega)]
      refine Ok.cd (fun h3 => ?_) (fun h3 => Ok.cd (fun h4 => ?_) (fun h4 => ?_))
      · have h3 := of_decide_eq_true h3
        exact ok_some.2 (by rw [if_neg (by omega)])
      · have h4 := of_decide_eq_true h4
        exact ok_some.2 (by rw [if_neg (by omega)])
      · have h3 := of_decide_eq_false h3; have h4 := of_decide_eq_false h4
        exact ok_some.2 (by rw [if_pos (by omega)])
theorem consistent_v {n : Nat} (hn : 100 < n) {l r : api_Field} (hl : OkF l) (hr : OkF r) (hW : l.Width = r.Width) (hH : l.Height = r.Height) (most : Int) : fiduciallaw46_Consistent n l r most = some (api_Field.mk l.Width l.Height (conL l r most)) := by
  have hw := wN_eq hl
  have hHn : ((l.Height.toNat : Nat) : Int) = l.Height := by have := hl.h; omega
  have hw64 := hl.w; have hh64 := hl.h
  unfold fiduciallaw46_Consistent
  have : fiduciallaw46_Made_of_fiduciallaw46_Consistent_1 n l l.Width l.Height l.V r.Width r.Height r.V most = some (api_Field.mk l.Width l.Height ((List.range (wN l * l.Height.toNat)).map (conV l r most))) :=
    loop_made (n := n) (f := fun x y => fiduciallaw46_Consistent_1 n x y l.Width l.Height l.V r.Width r.Height r.V most) (g := conV l r most) (wN l) l.Height.toNat hw hHn (by omega) (by omega) (by omega) (fun x y hx hy => cons1_v hl hr hW hH most hx hy)
  rw [this, ← rows hl]; rfl
theorem con_more {l r : api_Field} {most : Int} {i : Nat} (h : 0 ≤ conV l r most i) : conV l r (most + 1) i = conV l r most i := by
  unfold conV at h ⊢
  by_cases h1 : l.V.getD i default < 0 ∨ l.V.getD i default > ((i % wN l : Nat) : Int)
  · rw [if_pos h1] at h; omega
  · rw [if_neg h1] at h
    rw [if_neg h1, if_neg h1]
    split at h
    · rename_i h2
      rw [if_pos h2, if_pos ⟨h2.1, by omega⟩]
    · omega
theorem cons_v (l r : api_Field) {most : Int} : fiduciallaw46_DepthConsistent 5000 l r most = some true := by
  apply Ok.eq
  unfold fiduciallaw46_DepthConsistent
  refine Ok.bde known46_v (Ok.cd (fun h => by cases h) (fun _ => Ok.bde (few_v (by omega)) (Ok.cd (fun _ => ok_some.2 rfl) (fun hfew => Ok.bde (few_v (by omega)) (Ok.cd (fun _ => ok_some.2 rfl) (fun hfew2 => ?_))))))
  have h80 := few_len (show fewF l = true by simpa using hfew)
  have h81 := few_len (show fewF r = true by simpa using hfew2)
  have hchk : ((if okF l = true then (0 : Int) else 1) == 0) = okF l := by cases okF l <;> rfl
  by_cases hc : codeC l r most = 0
  · have h1 : okF l = true := by
      cases h : okF l with
      | true => rfl
      | false => unfold codeC at hc; rw [h] at hc; simp at hc
    have h2 : okF r = true := by
      cases h : okF r with
      | true => rfl
      | false => unfold codeC at hc; rw [h1, h] at hc; simp at hc
    have h3 : l.Width = r.Width ∧ l.Height = r.Height := by
      apply Classical.byContradiction; intro h; unfold codeC at hc; rw [h1, h2, if_pos rfl, if_pos rfl, if_neg h] at hc; omega
    have h4 : ¬ most < 0 := by
      intro h; unfold codeC at hc; rw [h1, h2, if_pos rfl, if_pos rfl, if_pos h3, if_pos h] at hc; omega
    have hl := okF_iff.1 h1; have hr := okF_iff.1 h2
    refine Ok.bde (con_ok (by omega) hl hr h3.1 h3.2 (by omega)) (Ok.bde (two_v (by omega) (by omega) (by omega) (by omega)) ?_)
    rw [h1, h2, if_pos rfl, if_pos rfl, if_pos h3]
    refine Ok.bd (R := fun c => c = 0) (Ok.cd (fun _ => Ok.cd (fun h => absurd (of_decide_eq_true h) h4) (fun _ => ok_some.2 rfl)) (fun h => by cases h)) ?_
    rintro c rfl
    refine Ok.bde (check_v (by omega) (by omega)) (Ok.bde (valid_v (by omega) (by omega)) (Ok.cd (fun h => by rw [hchk] at h; simp at h) (fun _ => ?_)))
    have hcl : (conL l r most).length = l.V.length := by simp [conL]
    refine Ok.bde (b := true) ?_ (Ok.cd (fun h => by cases h) (fun _ => Ok.cd (fun h => by cases h) (fun _ => ?_)))
    · unfold fiduciallaw46_is_of_fiduciallaw46_DepthConsistent_1 fiduciallaw46_DepthConsistent_1
      rw [show api_Field.mk l.Width l.Height l.V = l from rfl, show api_Field.mk r.Width r.Height r.V = r from rfl, consistent_v (by omega) hl hr h3.1 h3.2]
      show bdO (fiduciallaw46_Same 5000 _ _) _ = _
      rw [same_self (by show (conL l r most).length < 5000; omega) (by show (conL l r most).length ≤ _; omega)]; rfl
    refine Ok.cd (fun _ => ok_some.2 rfl) (fun h5 => ?_)
    have h5 := of_decide_eq_false h5
    rw [wrap64_in (by omega) (by omega)]
    have hcl2 : (conL l r (most + 1)).length = l.V.length := by simp [conL]
    refine Ok.bde (con_ok (by omega) hl hr h3.1 h3.2 (by omega)) (Ok.cd (fun h => by cases h) (fun _ => Ok.cd (fun h => by simp [hcl, hcl2] at h) (fun _ => ?_)))
    refine Ok.bd (R := fun o => match o with | .inl _ => True | .inr r => r = true) ?_ ?_
    · refine ok_range (len := (conL l r most).length) (fun _ => True) (by omega) (by omega) trivial ?_ ?_
      · intro again k hk _ ih
        have e1 : (conL l r most).getD k default = conV l r most k := by unfold conL; rw [map_at (by omega)]
        have e2 : (conL l r (most + 1)).getD k default = conV l r (most + 1) k := by unfold conL; rw [map_at (by omega)]
        refine Ok.cd (fun _ => ?_) (fun h => by simp at h; omega)
        refine Ok.gd (by rw [inR_nat]; simpa using hk) ?_
        rw [gt_nat, gt_nat, e1, e2]
        refine Ok.cd (fun h => ?_) (fun _ => ih trivial)
        have h := of_decide_eq_true h
        refine Ok.gd (by rw [inR_nat]; simp; omega) (Ok.cd (fun h6 => ?_) (fun _ => ih trivial))
        rw [con_more h] at h6
        simp at h6
      · intro again _
        exact Ok.cd (fun h => by simp at h) (fun _ => ok_some.2 trivial)
    · rintro (_ | r) h
      · exact ok_some.2 rfl
      · exact ok_some.2 h
  · refine Ok.bde (con_fail (by omega) (by omega) (by omega) (by omega) hc) (Ok.bde (two_v (by omega) (by omega) (by omega) (by omega)) ?_)
    refine Ok.bd (R := fun c => c = codeC l r most) ?_ ?_
    · unfold codeC at hc ⊢
      by_cases h1 : okF l = true
      · by_cases h2 : okF r = true
        · rw [if_pos h1, if_pos h2] at hc ⊢
          rw [if_pos h1, if_pos h2]
          by_cases h3 : l.Width = r.Width ∧ l.Height = r.Height
          · rw [if_pos h3] at hc ⊢
            rw [if_pos h3]
            refine Ok.cd (fun _ => Ok.cd (fun h => ok_some.2 ?_) (fun h => ?_)) (fun h => by cases h)
            · rw [if_pos (of_decide_eq_true h)]
            · rw [if_neg (of_decide_eq_false h)] at hc; exact absurd rfl hc
          · rw [if_neg h3, if_neg h3]
            exact ok_some.2 rfl
        · rw [if_pos h1, if_neg h2, if_pos h1, if_neg h2]
          exact ok_some.2 rfl
      · rw [if_neg h1, if_neg h1]
        exact ok_some.2 rfl
    rintro c rfl
    have hb : (codeC l r most != 0) = true := by simpa using hc
    refine Ok.bde (check_v (by omega) (by omega)) (Ok.bde (valid_v (by omega) (by omega)) (Ok.cd (fun h => by rw [hchk] at h; simp at h) (fun _ => ?_)))
    refine Ok.bde (b := true) ?_ (Ok.cd (fun h => by cases h) (fun _ => ?_))
    · unfold fiduciallaw46_is_of_fiduciallaw46_DepthConsistent_1
      rw [hb]
      show cdO (codeC l r most == codeC l r most) _ _ = _
      rw [beq_self_eq_true]
      show bdO (fiduciallaw46_empty 5000 zeroF) _ = _
      rw [empty_v]; rfl
    · exact Ok.cd (fun _ => ok_some.2 rfl) (fun h => by rw [hb] at h; cases h)
end Go.L

