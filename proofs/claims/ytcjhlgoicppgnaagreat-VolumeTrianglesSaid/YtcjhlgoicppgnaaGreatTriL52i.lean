import Derived.Test.YtcjhlgoicppgnaaGreatTriL52t
set_option linter.all false
namespace Go.L
open Go Go.Eng
theorem intV {x : api_Int} (hl : x.Groups.length ≤ 1) (hp : ∀ g ∈ x.Groups, 0 ≤ g) : (∃ v, isI x.Negative x.Groups v) ∨ (integer_Valid 5000 x = some false ∧ fiducialref01_Valid 5000 x = some false) := by
 obtain ⟨neg, gs⟩ := x
 rcases gs with _ | ⟨g, _ | ⟨h, t⟩⟩
 · cases neg with
   | false => exact .inl ⟨0, trivial, (fun h => by cases h), rfl⟩
   | true => exact .inr ⟨by kernel_rfl, by kernel_rfl⟩
 · have h0 := hp g (by simp)
   by_cases hg : g = 0
   · subst hg
     refine .inr ⟨Ok.eq ?_, Ok.eq ?_⟩
     · unfold integer_Valid
       exact Ok.cd (fun h => by simp at h) (fun _ => Ok.gd (by kernel_rfl) (Ok.cd (fun h => by cases h) (fun _ => ok_some.2 rfl)))
     · unfold fiducialref01_Valid
       refine Ok.bd (R := fun o => o = .inl ()) ?_ ?_
       · refine ok_step (n := 4999) ?_
         refine Ok.cd (fun _ => Ok.gd rfl (Ok.cd (fun h => by cases h) (fun _ => ?_))) (fun h => by simp at h)
         rw [wrap64_in (n := (0 : Int) + 1) (by omega) (by omega)]
         refine ok_step (n := 4998) ?_
         exact Ok.cd (fun h => by simp at h) (fun _ => ok_some.2 rfl)
       · rintro o rfl
         exact Ok.cd (fun h => by simp at h) (fun _ => Ok.gd (by kernel_rfl) (ok_some.2 rfl))
   · by_cases hb : g < 1000000000
     · exact .inl ⟨_, ⟨⟨h0, hb⟩, fun _ => hg, trivial⟩, (fun _ h => by cases h), rfl⟩
     · refine .inr ⟨Ok.eq ?_, Ok.eq ?_⟩
       · unfold integer_Valid
         refine Ok.cd (fun h => by simp at h) (fun _ => Ok.gd (by kernel_rfl) (Ok.cd (fun _ => ?_) (fun _ => ok_some.2 rfl)))
         unfold slices_ContainsFunc_uint32_uint32_of_integer_Valid_1
         have : slices_IndexFunc_uint32_uint32_of_integer_Valid_1 5000 [g] = some (idxB (fun g => decide (g ≥ 1000000000)) [g]) := loop_indexF (fun x => rfl) (by simp) (by simp)
         refine Ok.bd (R := fun v => v = true) (Ok.bde this (ok_some.2 ?_)) (fun v hv => ok_some.2 (by rw [hv]; rfl))
         rw [idxB_ge]; simp; omega
       · unfold fiducialref01_Valid
         refine Ok.bd (R := fun o => o = .inr false) ?_ (fun o ho => by subst ho; exact ok_some.2 rfl)
         refine ok_step (n := 4999) ?_
         refine Ok.cd (fun _ => Ok.gd rfl (Ok.cd (fun _ => ok_some.2 rfl) (fun h => ?_))) (fun h => by simp at h)
         exact absurd (of_decide_eq_false h) (by show ¬ ¬ g ≥ 1000000000; omega)
 · simp at hl
theorem ratV {x : api_Rat} (hl : x.Num.Groups.length ≤ 1 ∧ x.Den.Groups.length ≤ 1) (hp : (∀ g ∈ x.Num.Groups, 0 ≤ g) ∧ ∀ g ∈ x.Den.Groups, 0 ≤ g) : (∃ r, Qx x r 1) ∨ (fraction_Valid 5000 x = some false ∧ fiducialref02_Valid 5000 x = some false) := by
 rcases intV hl.1 hp.1 with ⟨p, h1⟩ | ⟨h1, h2⟩
 rotate_left
 · refine .inr ⟨Ok.eq ?_, Ok.eq ?_⟩
   · unfold fraction_Valid; exact Ok.bde h1 (Ok.cd (fun _ => ok_some.2 rfl) (fun h => by cases h))
   · unfold fiducialref02_Valid; exact Ok.bde h2 (Ok.cd (fun _ => ok_some.2 rfl) (fun h => by cases h))
 have l1 := hl.1; have l2 := hl.2
 rcases intV hl.2 hp.2 with ⟨q, h2⟩ | ⟨h2, h3⟩
 rotate_left
 · refine .inr ⟨Ok.eq ?_, Ok.eq ?_⟩
   · unfold fraction_Valid
     exact Ok.bde (Valid_ok (by omega) (by omega) h1) (Ok.cd (fun h => by cases h) (fun _ => Ok.bde h2 (Ok.cd (fun _ => ok_some.2 rfl) (fun h => by cases h))))
   · unfold fiducialref02_Valid
     exact Ok.bde (R.Valid_ok (by omega) (by omega) h1) (Ok.cd (fun h => by cases h) (fun _ => Ok.bde h3 (Ok.cd (fun _ => ok_some.2 rfl) (fun h => by cases h))))
 have hs := sgn_cases q
 by_cases hq : 0 < q
 · by_cases hg : gZ p q = 1
   · refine .inl ⟨Rat.divInt p q, ?_, ?_, l1, l2⟩
     · rw [divInt_num hq, hg, Int.ediv_one]; exact h1
     · rw [divInt_den hq, hg, Int.ediv_one]; exact h2
   · have hne : ((sgn (gZ p q - 1) : Int) == 0) = false := by have := sgn_cases (gZ p q - 1); simp; omega
     refine .inr ⟨Ok.eq ?_, Ok.eq ?_⟩
     · unfold fraction_Valid
       refine Ok.bde (Valid_ok (by omega) (by omega) h1) (Ok.cd (fun h => by cases h) (fun _ => Ok.bde (Valid_ok (by omega) (by omega) h2) (Ok.cd (fun h => by cases h) (fun _ => Ok.bde (Sign_ok (by omega) (by omega) h2) (Ok.cd (fun _ => ok_some.2 rfl) (fun _ => ?_))))))
       refine Ok.bd (Gcd_ok (by omega) h1 h2 (by omega) (by omega)) fun g hg2 => Ok.bd (Of_ok (by omega) (by decide) (by decide)) fun one h1' => ?_
       have lo := isI_len_of h1' (by decide) (by decide)
       have gp := gZ_pos (v := p) (w := q) (by omega)
       have gd := gZ_dvd_right p q
       have bq := isI_bound h2 l2
       have ge : gZ p q ≤ q := by
        have ha := abs_ediv_le q (gZ p q) gp gd
        have : 1 * gZ p q ≤ (q / gZ p q) * gZ p q := Int.mul_le_mul_of_nonneg_right (by
         by_cases h : 1 ≤ q / gZ p q
         · exact h
         · have : (q / gZ p q) * gZ p q ≤ 0 * gZ p q := Int.mul_le_mul_of_nonneg_right (by omega) (by omega)
           omega) (by omega)
        omega
       have lg := isI_len hg2 (k := 1) (by omega) (by omega)
       refine Ok.bde (Compare_ok (by omega) hg2 h1' (by omega) (by omega)) (ok_some.2 hne)
     · unfold fiducialref02_Valid
       refine Ok.bde (R.Valid_ok (by omega) (by omega) h1) (Ok.cd (fun h => by cases h) (fun _ => Ok.bde (R.Valid_ok (by omega) (by omega) h2) (Ok.cd (fun h => by cases h) (fun _ => Ok.bde (R.Sign_ok (by omega) (by omega) h2) (Ok.cd (fun _ => ok_some.2 rfl) (fun _ => ?_))))))
       refine Ok.bd (R.Gcd_ok (by omega) h1 h2 (by omega) (by omega)) fun g hg2 => Ok.bd (R.whole_ok (by omega) (by decide) (by decide)) fun one h1' => ?_
       have lo := isI_len_of h1' (by decide) (by decide)
       have gp := gZ_pos (v := p) (w := q) (by omega)
       have gd := gZ_dvd_right p q
       have bq := isI_bound h2 l2
       have ge : gZ p q ≤ q := by
        have : 1 * gZ p q ≤ (q / gZ p q) * gZ p q := Int.mul_le_mul_of_nonneg_right (by
         by_cases h : 1 ≤ q / gZ p q
         · exact h
         · have : (q / gZ p q) * gZ p q ≤ 0 * gZ p q := Int.mul_le_mul_of_nonneg_right (by omega) (by omega)
           omega) (by omega)
        omega
       have lg := isI_len hg2 (k := 1) (by omega) (by omega)
       refine Ok.bde (R.Compare_ok (by omega) hg2 h1' (by omega) (by omega)) (ok_some.2 hne)
 · refine .inr ⟨Ok.eq ?_, Ok.eq ?_⟩
   · unfold fraction_Valid
     exact Ok.bde (Valid_ok (by omega) (by omega) h1) (Ok.cd (fun h => by cases h) (fun _ => Ok.bde (Valid_ok (by omega) (by omega) h2) (Ok.cd (fun h => by cases h) (fun _ => Ok.bde (Sign_ok (by omega) (by omega) h2) (Ok.cd (fun _ => ok_some.2 rfl) (fun h => by have := of_decide_eq_false h; omega))))))
   · unfold fiducialref02_Valid
     exact Ok.bde (R.Valid_ok (by omega) (by omega) h1) (Ok.cd (fun h => by cases h) (fun _ => Ok.bde (R.Valid_ok (by omega) (by omega) h2) (Ok.cd (fun h => by cases h) (fun _ => Ok.bde (R.Sign_ok (by omega) (by omega) h2) (Ok.cd (fun _ => ok_some.2 rfl) (fun h => by have := of_decide_eq_false h; omega))))))
theorem zero_q : Qx (api_Rat.mk (api_Int.mk false []) (api_Int.mk false [1])) 0 1 := ⟨⟨trivial, (fun h => by cases h), rfl⟩, ⟨⟨by decide, fun _ => by decide, trivial⟩, (fun h => by cases h), rfl⟩, by simp, by simp⟩
theorem Cq.of {x : api_Rat} {r : Rat} (h : Qx x r 1) : Cq x r := ⟨qValue_ok (by omega) (by omega) h, Ok.of_eq (R.qValue_ok (by omega) (by omega) h) h⟩
theorem cq_in {x : api_Rat} (hl : x.Num.Groups.length ≤ 1 ∧ x.Den.Groups.length ≤ 1) (hp : (∀ g ∈ x.Num.Groups, 0 ≤ g) ∧ ∀ g ∈ x.Den.Groups, 0 ≤ g) : ∃ r, Cq x r := by
 rcases ratV hl hp with ⟨r, h⟩ | ⟨h1, h2⟩
 · exact ⟨r, Cq.of h⟩
 · refine ⟨0, ?_, ?_⟩
   · unfold fraction_Value
     exact Ok.bde h1 (Ok.cd (fun h => by cases h) (fun _ => Ok.bde (b := api_Rat.mk (api_Int.mk false []) (api_Int.mk false [1])) (by kernel_rfl) (ok_some.2 zero_q)))
   · unfold fiducialref02_Value
     exact Ok.bde h2 (Ok.cd (fun h => by cases h) (fun _ => Ok.bde (b := api_Rat.mk (api_Int.mk false []) (api_Int.mk false [1])) (by kernel_rfl) (ok_some.2 zero_q)))
theorem small_ok {n : Nat} {x : api_Rat} : Ok (fiduciallaw52_small n x) fun s => s = true → x.Num.Groups.length ≤ 1 ∧ x.Den.Groups.length ≤ 1 := by
 unfold fiduciallaw52_small
 refine Ok.bd (R := fun s => s = true → x.Num.Groups.length ≤ 1 ∧ x.Den.Groups.length ≤ 1) ?_ (fun s h => ok_some.2 h)
 unfold fiducialref02_Brief
 refine Ok.cd (fun _ => ok_some.2 (fun h => by cases h)) (fun h1 => Ok.cd (fun _ => ok_some.2 (fun h => by cases h)) (fun h2 => ?_))
 have h1 := of_decide_eq_false h1
 have h2 := of_decide_eq_false h2
 have both : x.Num.Groups.length ≤ 1 ∧ x.Den.Groups.length ≤ 1 := by omega
 have hd : Ok (cdO (((x.Den.Groups.length : Int) : Int) == 0) (some true) (gdO (inR 0 x.Den.Groups.length) (some (decide ((gt x.Den.Groups 0) ≤ 100))))) fun s => s = true → x.Num.Groups.length ≤ 1 ∧ x.Den.Groups.length ≤ 1 :=
  Ok.cd (fun _ => ok_some.2 fun _ => both) (fun h => Ok.gd (by rw [inR_iff]; simp at h; have := List.length_pos_iff.2 h; omega) (ok_some.2 fun _ => both))
 refine Ok.cd (fun _ => hd) (fun h => Ok.gd (by rw [inR_iff]; simp at h; have := List.length_pos_iff.2 h; omega) (Ok.cd (fun _ => hd) (fun _ => ok_some.2 fun h => by cases h)))
theorem neg_ok {x : api_Rat} {r : Rat} (hx : Cq x r) : Ok (fiducialref02_Neg 5000 x) fun z => Qx z (-r) 1 := by
 unfold fiducialref02_Neg
 refine Ok.bd hx.l fun v hv => ?_
 have n1 := hv.nl
 refine Ok.bd (R.Neg_ok (by omega) (by omega) hv.num) fun z hz => ok_some.2 ?_
 exact ⟨(show (-r).num = -r.num from rfl) ▸ hz, (show (-r).den = r.den from rfl) ▸ hv.den, neg_len hv.num hz hv.nl, hv.dl⟩
end Go.L

