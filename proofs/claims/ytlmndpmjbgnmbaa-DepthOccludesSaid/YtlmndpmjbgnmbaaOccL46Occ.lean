import Derived.Test.YtlmndpmjbgnmbaaOccL46b
set_option linter.unusedVariables false
set_option linter.unusedSimpArgs false
namespace Go.L
open Go Go.Eng
theorem place {f : api_Field} (hf : OkF f) {x y : Nat} (hx : x < wN f) (hy : y < f.Height.toNat) : y * wN f + x < f.V.length := by
  rw [rows hf, Nat.mul_comm (wN f)]
  have := Nat.mul_le_mul_right (wN f) hy
  rw [Nat.succ_mul] at this
  omega
theorem place_mod {f : api_Field} (hf : OkF f) {x y : Nat} (hx : x < wN f) : (y * wN f + x) % wN f = x := by
  rw [Nat.add_comm, Nat.add_mul_mod_self_right, Nat.mod_eq_of_lt hx]
theorem at_v {n : Nat} {f : api_Field} (hf : OkF f) {x y : Nat} (hx : x < wN f) (hy : y < f.Height.toNat) : fiduciallaw46_At n f x y = some (f.V.getD (y * wN f + x) default) := by
  have hp := place hf hx hy
  have ha := area46 hf.w hf.h
  have hl := hf.len
  have hw := wN_eq hf
  unfold fiduciallaw46_At
  have e : (y : Int) * f.Width = ((y * wN f : Nat) : Int) := by rw [← hw]; exact (Int.natCast_mul _ _).symm
  rw [e, wrap64_in (n := ((y * wN f : Nat) : Int)) (by omega) (by omega), wrap64_in (by omega) (by omega)]
  have e2 : ((y * wN f : Nat) : Int) + (x : Int) = ((y * wN f + x : Nat) : Int) := by omega
  rw [e2, inR_nat, gt_nat]
  have : decide (y * wN f + x < f.V.length) = true := by simpa using hp
  rw [this]; rfl
theorem map_at {g : Nat → Int} {m k : Nat} (hk : k < m) : ((List.range m).map g).getD k default = g k := by simp [List.getD, hk]
theorem turn_good {f : api_Field} (hf : OkF f) : OkF (api_Field.mk f.Width f.Height (turnL f)) := by
  refine ⟨hf.w, hf.h, by simp [turnL]; exact hf.len, fun k hk => ?_⟩
  have hk' : k < f.V.length := by simpa [turnL] using hk
  show -1 ≤ (turnL f).getD k default ∧ (turnL f).getD k default ≤ 1048576
  unfold turnL
  rw [map_at hk']
  have h1 := bst_lt (tP f k) (wN f - k % wN f)
  have h2 := hf.w
  have h3 := wN_eq hf
  unfold tEnd; omega
def kpV (f : api_Field) (i : Nat) : Int := conV f (api_Field.mk f.Width f.Height (turnL f)) 0 i
theorem kept_good {f : api_Field} (hf : OkF f) : OkF (api_Field.mk f.Width f.Height (conL f (api_Field.mk f.Width f.Height (turnL f)) 0)) := by
  refine ⟨hf.w, hf.h, by simp [conL]; exact hf.len, fun k hk => ?_⟩
  have hk' : k < f.V.length := by simpa [conL] using hk
  show -1 ≤ (conL f _ 0).getD k default ∧ (conL f _ 0).getD k default ≤ 1048576
  unfold conL
  rw [map_at hk']
  have h1 := hf.v k hk'
  unfold conV
  split
  · omega
  · split <;> omega
theorem kp_eq {f : api_Field} (hf : OkF f) {x y d : Nat} (hx : x < wN f) (hy : y < f.Height.toNat) (hd : f.V.getD (y * wN f + x) default = (d : Int)) (hdx : d ≤ x) : kpV f (y * wN f + x) = if tEnd f (y * wN f + (x - d)) = (d : Int) then (d : Int) else -1 := by
  have hm := place_mod hf (y := y) hx
  have hp := place hf hx hy
  unfold kpV conV
  show (if f.V.getD (y * wN f + x) default < 0 ∨ _ then _ else _) = _
  rw [hd]
  have e : (y * wN f + x) - ((d : Int)).toNat = y * wN f + (x - d) := by omega
  have hlt : y * wN f + (x - d) < f.V.length := by omega
  have et : (turnL f).getD (y * wN f + (x - d)) default = tEnd f (y * wN f + (x - d)) := by unfold turnL; rw [map_at hlt]
  rw [if_neg (by show ¬ (_ ∨ (d : Int) > (((y * wN f + x) % wN f : Nat) : Int)); rw [hm]; omega), e]
  show (if (turnL f).getD _ default ≥ 0 ∧ mx ((d : Int) - (turnL f).getD _ default) ((turnL f).getD _ default - (d : Int)) ≤ 0 then _ else _) = _
  rw [et]
  by_cases h : tEnd f (y * wN f + (x - d)) = (d : Int)
  · rw [if_pos h, if_pos ⟨by omega, by rw [h]; unfold mx; split <;> omega⟩]
  · rw [if_neg h, if_neg]
    rintro ⟨_, h2⟩
    unfold mx at h2
    split at h2 <;> omega
def clear (f : api_Field) (x y : Nat) (v : Int) (m : Nat) : Prop := ∀ u, u < m → ¬ (f.V.getD (y * wN f + u) default ≥ 0 ∧ (u : Int) - f.V.getD (y * wN f + u) default = (x : Int) - v ∧ f.V.getD (y * wN f + u) default > v)
theorem occ {f : api_Field} (hf : OkF f) {x y : Nat} (hx : x < wN f) (hy : y < f.Height.toNat) :
    ((0 ≤ f.V.getD (y * wN f + x) default ∧ f.V.getD (y * wN f + x) default ≤ x) ∧ clear f x y (f.V.getD (y * wN f + x) default) (wN f) ↔ 0 ≤ kpV f (y * wN f + x)) ∧ (0 ≤ kpV f (y * wN f + x) → kpV f (y * wN f + x) = f.V.getD (y * wN f + x) default) := by
  by_cases h : 0 ≤ f.V.getD (y * wN f + x) default ∧ f.V.getD (y * wN f + x) default ≤ x
  rotate_left
  · have e : kpV f (y * wN f + x) = -1 := by
      unfold kpV conV
      have hm := place_mod hf (y := y) hx
      rw [if_pos]
      show _ ∨ f.V.getD (y * wN f + x) default > (((y * wN f + x) % wN f : Nat) : Int)
      rw [hm]; omega
    rw [e]
    exact ⟨⟨fun hh => absurd hh.1 h, fun hh => by omega⟩, fun hh => by omega⟩
  obtain ⟨d, hd⟩ : ∃ d : Nat, f.V.getD (y * wN f + x) default = (d : Int) := ⟨(f.V.getD (y * wN f + x) default).toNat, by omega⟩
  rw [hd] at h ⊢
  have hdx : d ≤ x := by omega
  rw [kp_eq hf hx hy hd hdx]
  have hjm : (y * wN f + (x - d)) % wN f = x - d := place_mod hf (y := y) (by omega)
  have hpd : tP f (y * wN f + (x - d)) d = true := by
    unfold tP
    rw [show y * wN f + (x - d) + d = y * wN f + x by omega, hd]; simp
  have hge : (d : Int) ≤ tEnd f (y * wN f + (x - d)) := by unfold tEnd; rw [hjm]; exact bst_ge (by omega) hpd
  have hlt := bst_lt (tP f (y * wN f + (x - d))) (wN f - (x - d))
  by_cases ht : tEnd f (y * wN f + (x - d)) = (d : Int)
  · rw [if_pos ht]
    refine ⟨⟨fun _ => by omega, fun _ => ⟨h, fun u hu hh => ?_⟩⟩, fun _ => rfl⟩
    obtain ⟨z, hz⟩ : ∃ z : Nat, f.V.getD (y * wN f + u) default = (z : Int) := ⟨(f.V.getD (y * wN f + u) default).toNat, by omega⟩
    rw [hz] at hh
    have hpz : tP f (y * wN f + (x - d)) z = true := by
      unfold tP
      rw [show y * wN f + (x - d) + z = y * wN f + u by omega, hz]; simp
    have := bst_ge (p := tP f (y * wN f + (x - d))) (m := wN f - (x - d)) (d := z) (by omega) hpz
    unfold tEnd at ht; rw [hjm] at ht
    omega
  · rw [if_neg ht]
    refine ⟨⟨fun hh => ?_, fun hh => by omega⟩, fun hh => by omega⟩
    exfalso
    unfold tEnd at ht hge; rw [hjm] at ht hge
    have hat := bst_at (p := tP f (y * wN f + (x - d))) (m := wN f - (x - d)) (by omega)
    generalize ht' : bst (tP f (y * wN f + (x - d))) (wN f - (x - d)) = t at *
    obtain ⟨t, rfl⟩ : ∃ t' : Nat, t = (t' : Int) := ⟨t.toNat, by omega⟩
    have et : ((t : Int)).toNat = t := by omega
    rw [et] at hat
    unfold tP at hat
    have hv : f.V.getD (y * wN f + (x - d) + t) default = (t : Int) := by simpa using hat
    refine hh.2 (x - d + t) (by omega) ?_
    rw [show y * wN f + (x - d + t) = y * wN f + (x - d) + t by omega, hv]
    omega
theorem occ_v (f : api_Field) : fiduciallaw46_DepthOccludes 5000 f = some true := by
  apply Ok.eq
  unfold fiduciallaw46_DepthOccludes
  refine Ok.bde known46_v (Ok.cd (fun h => by cases h) (fun _ => Ok.bde (few_v (by omega)) (Ok.cd (fun _ => ok_some.2 rfl) (fun hfew => ?_))))
  have hfew : fewF f = true := by simpa using hfew
  have h80 := few_len hfew
  refine Ok.bde (valid_v (by omega) (by omega)) (Ok.cd (fun _ => ok_some.2 rfl) (fun hv => ?_))
  have hf := okF_iff.1 (show okF f = true by simpa using hv)
  have hw := wN_eq hf
  have hH : ((f.Height.toNat : Nat) : Int) = f.Height := by have := hf.h; omega
  have hw64 := hf.w; have hh64 := hf.h
  refine Ok.bde (turn_ok (by omega) hf) (Ok.bde (con_ok (by omega) hf (turn_good hf) rfl rfl (by omega)) ?_)
  refine Ok.cd (fun h => by cases h) (fun _ => Ok.cd (fun h => by cases h) (fun _ => ?_))
  have hk := kept_good hf
  have hkl : (conL f (api_Field.mk f.Width f.Height (turnL f)) 0).length = f.V.length := by simp [conL]
  refine Ok.bde (valid_v (by show (conL f _ 0).length < 5000; rw [hkl]; omega) (by show (conL f _ 0).length ≤ _; rw [hkl]; omega)) ?_
  rw [okF_iff.2 hk]
  refine Ok.cd (fun h => by cases h) (fun _ => Ok.cd (fun h => by simp [hkl] at h) (fun _ => ?_))
  refine Ok.bd (R := fun o => match o with | .inl _ => True | .inr r => r = true) ?_ ?_
  · refine ok_range (len := f.Height.toNat) (fun _ => True) (by omega) (by omega) trivial ?_ ?_
    · intro again y hy _ ih
      refine Ok.cd (fun _ => ?_) (fun h => by have := of_decide_eq_false h; omega)
      refine Ok.bd (R := fun o => match o with | .inl _ => True | .inr r => r = true) ?_ ?_
      · refine ok_range (len := wN f) (fun _ => True) (by omega) (by omega) trivial ?_ ?_
        · intro again2 x hx _ ih2
          refine Ok.cd (fun _ => ?_) (fun h => by have := of_decide_eq_false h; omega)
          have hvb := hf.v _ (place hf hx hy)
          refine Ok.bde (at_v hf hx hy) ?_
          refine Ok.bd (R := fun b => b = decide (0 ≤ f.V.getD (y * wN f + x) default ∧ f.V.getD (y * wN f + x) default ≤ x)) ?_ ?_
          · refine Ok.cd (fun h => ?_) (fun h => ?_)
            · have h := of_decide_eq_true h
              rw [wrap64_in (by omega) (by omega)]
              refine ok_some.2 (decide_eq_decide.2 ?_)
              omega
            · have h := of_decide_eq_false h
              exact ok_some.2 (by symm; rw [decide_eq_false_iff_not]; omega)
          rintro b rfl
          have hocc := occ hf hx hy
          generalize hv : f.V.getD (y * wN f + x) default = v at *
          refine Ok.bd (R := fun b => b = decide (0 ≤ kpV f (y * wN f + x))) ?_ ?_
          · refine (show Ok _ (fun b : Bool => b = true ↔ ((0 ≤ v ∧ v ≤ x) ∧ clear f x y v (wN f))) from ?_).mono fun b hb => by
              have : b = true ↔ 0 ≤ kpV f (y * wN f + x) := hb.trans hocc.1
              by_cases h0 : 0 ≤ kpV f (y * wN f + x)
              · rw [this.2 h0]; symm; simpa using h0
              · have : b = false := by cases b with | true => exact absurd (this.1 rfl) h0 | false => rfl
                rw [this]; symm; simpa using h0
            refine ok_rangeR (len := wN f) (fun k (b : Bool) => b = true ↔ ((0 ≤ v ∧ v ≤ x) ∧ clear f x y v k)) (by omega) (by omega) ?_ ?_ ?_
            · simp only [decide_eq_true_eq]
              exact ⟨fun h => ⟨h, fun u hu => by omega⟩, fun h => h.1⟩
            · rintro again3 k c hk hc ih3
              refine Ok.cd (fun _ => ?_) (fun h => by have := of_decide_eq_false h; omega)
              refine Ok.bde (at_v hf hk hy) ?_
              have hub := hf.v _ (place hf hk hy)
              have keep : ¬ (f.V.getD (y * wN f + k) default ≥ 0 ∧ (k : Int) - f.V.getD (y * wN f + k) default = (x : Int) - v ∧ f.V.getD (y * wN f + k) default > v) → (c = true ↔ ((0 ≤ v ∧ v ≤ x) ∧ clear f x y v (k + 1))) := fun hno => by
                rw [hc]
                refine and_congr_right fun _ => ⟨fun h u hu => ?_, fun h u hu => h u (by omega)⟩
                by_cases huk : u = k
                · rw [huk]; exact hno
                · exact h u (by omega)
              rw [wrap64_in (n := (k : Int) - _) (by omega) (by omega), wrap64_in (n := (x : Int) - v) (by omega) (by omega)]
              refine Ok.cd (fun h1 => Ok.cd (fun h2 => Ok.cd (fun h3 => ?_) (fun h3 => ?_)) (fun h2 => ?_)) (fun h1 => ?_)
              · refine ih3 _ ⟨(fun h => by cases h), fun h => ?_⟩
                exact absurd ⟨of_decide_eq_true h1, by simpa using h2, of_decide_eq_true h3⟩ (h.2 k (by omega))
              · exact ih3 _ (keep fun h => absurd h.2.2 (of_decide_eq_false h3))
              · exact ih3 _ (keep fun h => by simp at h2; exact h2 h.2.1)
              · exact ih3 _ (keep fun h => absurd h.1 (of_decide_eq_false h1))
            · rintro again3 c hc
              exact Ok.cd (fun h => by have := of_decide_eq_true h; omega) (fun _ => ok_some.2 hc)
          · rintro b rfl
            have hat : fiduciallaw46_At 5000 (api_Field.mk f.Width f.Height (conL f (api_Field.mk f.Width f.Height (turnL f)) 0)) x y = some (kpV f (y * wN f + x)) := by
              rw [at_v hk hx hy]
              show some ((conL f _ 0).getD (y * wN f + x) default) = _
              unfold conL
              rw [map_at (place hf hx hy)]; rfl
            refine Ok.bde hat ?_
            have e : decide (kpV f (y * wN f + x) ≥ 0) = decide (0 ≤ kpV f (y * wN f + x)) := rfl
            rw [e]
            cases h0 : decide (0 ≤ kpV f (y * wN f + x)) with
            | true =>
              have hkv := hocc.2 (of_decide_eq_true h0)
              refine Ok.cd (fun h => by cases h) (fun _ => Ok.cd (fun _ => Ok.cd (fun h => by cases h) (fun _ => Ok.bde hat ?_)) (fun h => by cases h))
              exact Ok.cd (fun h => by simp [hkv] at h) (fun _ => ih2 trivial)
            | false =>
              exact Ok.cd (fun h => by cases h) (fun _ => Ok.cd (fun h => by cases h) (fun _ => Ok.cd (fun h => by cases h) (fun _ => ih2 trivial)))
        · intro again2 _
          exact Ok.cd (fun h => by have := of_decide_eq_true h; omega) (fun _ => ok_some.2 trivial)
      · rintro (_ | r) h
        · exact ih trivial
        · exact ok_some.2 h
    · intro again _
      exact Ok.cd (fun h => by have := of_decide_eq_true h; omega) (fun _ => ok_some.2 trivial)
  · rintro (_ | r) h
    · exact ok_some.2 rfl
    · exact ok_some.2 h
end Go.L

