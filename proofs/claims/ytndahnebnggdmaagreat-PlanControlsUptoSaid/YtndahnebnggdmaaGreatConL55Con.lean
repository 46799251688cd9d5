import Derived.Test.YtndahnebnggdmaaGreatConL55i
set_option linter.all false
namespace Go.L
open Go Go.Eng
theorem eqZ_v {n : Nat} {l : List Int} (hn : l.length < n) (hl : l.length ≤ 9223372036854775806) : slices_Equal_int_int n l l = some true := by
 apply Ok.eq
 unfold slices_Equal_int_int
 refine Ok.cd (fun h => by simp at h) (fun _ => ?_)
 refine Ok.bd (R := fun o => match o with | .inl _ => True | .inr r => r = true) ?_ ?_
 · refine ok_range (len := l.length) (fun _ => True) hn hl trivial ?_ ?_
   · intro again k hk _ ih
     refine Ok.cd (fun _ => ?_) (fun h => by simp at h; omega)
     refine Ok.gd (by rw [inR_nat]; simpa using hk) (Ok.gd (by rw [inR_nat]; simpa using hk) ?_)
     exact Ok.cd (fun h => by simp at h) (fun _ => ih trivial)
   · intro again _
     exact Ok.cd (fun h => by simp at h) (fun _ => ok_some.2 trivial)
 · rintro (_ | r) h
   · exact ok_some.2 rfl
   · exact ok_some.2 h
theorem outP_v (p : api_Pix) : fiduciallaw55_PlanControls_1 5000 p = some (badP p) := by
 unfold fiduciallaw55_PlanControls_1
 rw [out_v (by simp) (by simp)]
 show some _ = some _
 unfold badP; simp
theorem hasOut_v {l : List api_Pix} (hl : l.length ≤ 40) : slices_ContainsFunc_fiducial_api_Pix_fiducial_api_Pix_of_fiduciallaw55_PlanControls_1 5000 l = some (l.any badP) := by
 unfold slices_ContainsFunc_fiducial_api_Pix_fiducial_api_Pix_of_fiduciallaw55_PlanControls_1
 have := loop_indexF (n := 5000) (s := l) (f := fiduciallaw55_PlanControls_1 5000) (p := badP) outP_v (by omega) (by omega)
 rw [show slices_IndexFunc_fiducial_api_Pix_fiducial_api_Pix_of_fiduciallaw55_PlanControls_1 5000 l = some (idxB badP l) from this]
 show some _ = some _
 rw [idxB_ge]
theorem controls_v (s : api_Survey) (f : api_Flight) (l : List api_Pix) (hb : fsz f ≤ 1048576) : fiduciallaw55_PlanControls 5000 s f l = some true := by
 apply Ok.eq
 unfold fiduciallaw55_PlanControls
 refine Ok.bde known55_v (Ok.cd (fun h => by cases h) (fun _ => ?_))
 refine Ok.bd (R := fun o => match o with | .inl _ => f.Strips.length ≤ 20 ∧ (pts f).length ≤ 8 ∧ (l.length ≤ 8 ∨ 16 < l.length) ∧ l.length ≤ 40 | .inr r => r = true) ?_ ?_
 · refine Ok.bde (few_v (by omega) hb 8) (Ok.cd (fun _ => ok_some.2 rfl) (fun hfew => ?_))
   obtain ⟨f1, f2⟩ := dec_of hfew
   refine Ok.cd (fun h => Ok.cd (fun h2 => ok_some.2 rfl) (fun h2 => Ok.cd (fun _ => ok_some.2 rfl) (fun h3 => ok_some.2 ?_))) (fun h => Ok.cd (fun _ => ok_some.2 rfl) (fun h3 => ok_some.2 ?_))
   · have h2 := of_decide_eq_false h2; have h3 := of_decide_eq_false h3
     exact ⟨f1, by omega, .inr (by omega), by omega⟩
   · have h := of_decide_eq_false h
     exact ⟨f1, by omega, .inl (by omega), by omega⟩
 rintro (_ | r) ho
 rotate_left
 · exact ok_some.2 ho
 obtain ⟨f1, f2, h8, h40⟩ := ho
 refine Ok.bd (control_v f1 f2 h40 h8) fun v hv => Ok.bde (rasked_v (by omega) f1 (by omega) s.High) ?_
 by_cases hr : rcode s f s.High = 0
 · rw [if_neg (by rw [hr]; simp)] at hv
   have hok := rcode_ok hr
   rw [hr]
   by_cases hbad : l.any badP = true
   · rw [if_pos hbad] at hv
     subst hv
     refine Ok.bd (R := fun o => o = 2) (Ok.cd (fun _ => Ok.bde (hasOut_v h40) (Ok.cd (fun _ => ok_some.2 rfl) (fun h => by rw [hbad] at h; cases h))) (fun h => by simp at h)) ?_
     rintro c rfl
     refine Ok.bd (R := fun o => o = 2) (Ok.cd (fun h => by simp at h) (fun _ => ok_some.2 rfl)) ?_
     rintro c rfl
     exact Ok.cd (fun h => by simp at h) (fun _ => Ok.cd (fun _ => Ok.cd (fun _ => ok_some.2 rfl) (fun h => by simp at h)) (fun h => by simp at h))
   · rw [if_neg hbad] at hv
     refine Ok.bd (R := fun o => o = 0) (Ok.cd (fun _ => Ok.bde (hasOut_v h40) (Ok.cd (fun h => absurd h hbad) (fun h => ok_some.2 rfl))) (fun h => by simp at h)) ?_
     rintro c rfl
     by_cases h16 : l.length > 16
     · rw [if_pos h16] at hv
       subst hv
       refine Ok.bd (R := fun o => o = 3) (Ok.cd (fun _ => Ok.cd (fun _ => ok_some.2 rfl) (fun h => by have := of_decide_eq_false h; omega)) (fun h => by simp at h)) ?_
       rintro c rfl
       exact Ok.cd (fun h => by simp at h) (fun _ => Ok.cd (fun _ => Ok.cd (fun _ => ok_some.2 rfl) (fun h => by simp at h)) (fun h => by simp at h))
     · rw [if_neg h16] at hv
       have h8 : l.length ≤ 8 := by omega
       have hv := hv h8
       refine Ok.bd (R := fun o => o = 0) (Ok.cd (fun _ => Ok.cd (fun h => by have := of_decide_eq_true h; omega) (fun _ => ok_some.2 rfl)) (fun h => by simp at h)) ?_
       rintro c rfl
       obtain ⟨ok, hp, hh, hhi, hlow⟩ := hok
       have hnear : ∀ k, k < l.length → near (l.getD k default).X ∧ near (l.getD k default).Y := fun k hk => badP_f.1 (any_false_iff.1 (by simpa using hbad) k hk)
       refine Ok.cd (fun _ => Ok.bd (law_control h8 _ (fun C hC => serves_v ok hb f1 f2 h8 hp hh hhi hlow hnear hC)) fun w hw => ?_) (fun h => by simp at h)
       generalize srv s.Focal (s.Along * (f.Height - s.High)) (s.Across * (f.Height - s.High)) l (pts f) = sv at *
       rcases hw with ⟨rfl, hno⟩ | ⟨C, rfl, hC, hcs, hmin⟩ <;> rcases hv with ⟨rfl, hno'⟩ | ⟨D, rfl, hD, hds, hmin'⟩
       · refine Ok.bd (R := fun o => o = 6) (Ok.cd (fun _ => ok_some.2 rfl) (fun h => by cases h)) ?_
         rintro c rfl
         exact Ok.cd (fun _ => Ok.cd (fun _ => ok_some.2 rfl) (fun h => by simp at h)) (fun h => by simp at h)
       · rw [hno D hD] at hds; cases hds
       · rw [hno' C hC] at hcs; cases hcs
       · obtain rfl := leS_anti (hmin D hD hds) (hmin' C hC hcs)
         have hlen := hC.len (by omega)
         refine Ok.bd (R := fun o => o = 0) (Ok.cd (fun h => by cases h) (fun _ => ok_some.2 rfl)) ?_
         rintro c rfl
         refine Ok.cd (fun h => by simp at h) (fun _ => Ok.cd (fun _ => Ok.bde (eqZ_v (by rw [castL_len]; omega) (by rw [castL_len]; omega)) (ok_some.2 rfl)) (fun h => by simp at h))
 · rw [if_pos hr] at hv
   subst hv
   generalize rcode s f s.High = e at *
   have e0 : ((e : Int) == 0) = false := by simpa using hr
   have e1 : ((e : Int) != 0) = true := by simpa using hr
   refine Ok.bd (R := fun o => o = e) (Ok.cd (fun h => by rw [e0] at h; cases h) (fun _ => ok_some.2 rfl)) ?_
   rintro c rfl
   refine Ok.bd (R := fun o => o = c) (Ok.cd (fun h => by rw [e0] at h; cases h) (fun _ => ok_some.2 rfl)) ?_
   rintro c rfl
   exact Ok.cd (fun h => by rw [e0] at h; cases h) (fun _ => Ok.cd (fun _ => Ok.cd (fun _ => ok_some.2 rfl) (fun h => by simp at h)) (fun h => by rw [e1] at h; cases h))
end Go.L

