import Derived.Test.YtiicieaabeamoaaGreatPasLD
import Derived.Test.YtiicieaabeamoaaGreatPl6giknfhhc
set_option linter.all false
namespace Go.L.R
open Go Go.Eng Go.L
theorem gt_int {l : List Int} {k : Nat} : gt l (k : Int) = l.getD k 0 := gt_nat
theorem w64_nat {k : Nat} (h : k ≤ 4000000000) : wrapF .i64 ((k : Int) + 1) = ((k + 1 : Nat) : Int) := by rw [wrap64_in (by omega) (by omega)]; omega
theorem w64_pred {k : Nat} (h : 0 < k) (h2 : k ≤ 4000000000) : wrapF .i64 ((k : Int) - 1) = ((k - 1 : Nat) : Int) := by rw [wrap64_in (by omega) (by omega)]; omega
theorem w64_add {j k : Nat} (h : j ≤ 4000000000) (h2 : k ≤ 4000000000) : wrapF .i64 ((j : Int) + (k : Int)) = ((j + k : Nat) : Int) := by rw [wrap64_in (by omega) (by omega)]; omega
theorem step_mul {p q o c : Int} (hp : 0 ≤ p ∧ p < 1000000000) (hq : 0 ≤ q ∧ q < 1000000000) (ho : 0 ≤ o ∧ o < 1000000000) (hc : 0 ≤ c ∧ c < 1000000000) :
  wrapF .u64 ((wrapF .u64 ((wrapF .u64 o) + (wrapF .u64 ((wrapF .u64 p) * (wrapF .u64 q))))) + c) = o + p * q + c ∧ 0 ≤ o + p * q + c ∧ o + p * q + c < 1000000000000000000 := by
 have h1 : 0 ≤ p * q := Int.mul_nonneg hp.1 hq.1
 have h2 : p * q ≤ 999999999 * 999999999 := Int.mul_le_mul (by omega) (by omega) hq.1 (by omega)
 rw [wrapU64_in (n := o) (by omega) (by omega), wrapU64_in (n := p) (by omega) (by omega), wrapU64_in (n := q) (by omega) (by omega), wrapU64_in (n := p * q) (by omega) (by omega), wrapU64_in (n := o + p * q) (by omega) (by omega), wrapU64_in (by omega) (by omega)]
 exact ⟨rfl, by omega, by omega⟩
theorem at_zero {l : List Int} {j : Nat} (h : l.length ≤ j) : l.getD j 0 = 0 := by simp [List.getD, List.getElem?_eq_none h]
theorem at_rep {k j : Nat} : (List.replicate k (0 : Int)).getD j 0 = 0 := by
 by_cases h : j < k
 · simp [List.getD, h]
 · exact at_zero (by simpa using h)
theorem made_ok {n : Nat} {g : List Int} (hn : 1000 ≤ n) (neg : Bool) (hd : Dig g) (hl : g.length ≤ 900) : Ok (fiducialref01_made n neg g) fun z => isI z.Negative z.Groups (if neg then -vl g else vl g) := by
 unfold fiducialref01_made
 refine Ok.bd (R := fun k : Int => ∃ j : Nat, k = (j : Int) ∧ j ≤ g.length ∧ (∀ m, j ≤ m → g.getD m 0 = 0) ∧ (0 < j → g.getD (j - 1) 0 ≠ 0)) ?_ ?_
 · refine ok_loop (fun k : Int => ∃ j : Nat, k = (j : Int) ∧ j ≤ g.length ∧ (∀ m, j ≤ m → g.getD m 0 = 0)) (fun k => k.toNat) ?_ n _ ⟨g.length, rfl, Nat.le_refl _, fun m hm => at_zero hm⟩ (by simp; omega)
   rintro again k ⟨j, rfl, h1, h2⟩ ih
   refine Ok.cd (fun h => ?_) (fun h => ?_)
   · have hpos : 0 < j := by simp at h; omega
     rw [w64_pred hpos (by omega)]
     refine Ok.gd (by rw [inR_nat]; simp; omega) ?_
     rw [gt_int]
     refine Ok.cd (fun h => ?_) (fun h => ?_)
     · refine ih _ ⟨j - 1, rfl, by omega, fun m hm => ?_⟩ (by simp; omega)
       by_cases hmj : m = j - 1
       · rw [hmj]; simpa using h
       · exact h2 m (by omega)
     · exact ok_some.2 ⟨j, rfl, h1, h2, fun _ => by simpa using h⟩
   · have : j = 0 := by simp at h; omega
     subst this
     exact ok_some.2 ⟨0, rfl, by omega, h2, fun h => by omega⟩
 · rintro _ ⟨j, rfl, h1, h2, h3⟩
   have e : (g.drop (0 : Int).toNat).take ((j : Int).toNat - (0 : Int).toNat) = g.take j := by simp
   rw [e]
   have hc : Can (g.take j) := can_tail (dig_take hd _) (by
    by_cases hj : j = 0
    · left; rw [hj]; rfl
    · right
      rw [List.length_take, Nat.min_eq_left h1]
      have := h3 (by omega)
      simpa [List.getD, List.getElem?_take, (by omega : j - 1 < j)] using this)
   have hv : vl (g.take j) = vl g := vl_cut h1 h2
   refine Ok.cd (fun h => ?_) (fun h => ?_)
   · refine Ok.gd (inS_iff.2 (by omega)) (Ok.gd (by simp; omega) (Ok.gd (by simp; omega) (ok_some.2 ?_)))
     subst h
     by_cases hj : j = 0
     · subst hj
       refine ⟨hc, fun h => by simp at h, ?_⟩
       rw [if_pos rfl, ← hv]; rfl
     · refine ⟨hc, fun _ hh => ?_, ?_⟩
       · have := congrArg List.length hh
         rw [List.length_take, Nat.min_eq_left h1] at this; exact hj this
       · have : decide ((j : Int) > 0) = true := by simp; omega
         simp only [this, if_true, hv]
   · refine Ok.gd (inS_iff.2 (by omega)) (Ok.gd (by simp; omega) (Ok.gd (by simp; omega) (ok_some.2 ?_)))
     subst h
     exact ⟨hc, fun h => by simp at h, by simp [hv]⟩
theorem split_ok {n : Nat} {v : Int} (hn : 1000 ≤ n) (h0 : 0 ≤ v) (hv : v < 18446744073709551616) : Ok (loopO (α := Int × List Int) (β := List Int) n (fun again x => match x with
  | (u_2, l_3) => (
   cdO (decide (u_2 > 0)) (
    gdO (decide ((l_3.length + 1) * 4 ≤ 140737488355328)) (
    gdO (decide (l_3.length + 1 ≤ 4611686018427387904)) (
    again (wrapF .u64 (u_2.tdiv 1000000000), l_3 ++ [wrapF .u32 (u_2.tmod 1000000000)])
    )
    )
   ) (
    some (l_3)
   )
  )) (v, [])) fun r => Can r ∧ vl r = v ∧ r.length ≤ 3 := by
 refine ok_loop (fun x : Int × List Int => Dig x.2 ∧ 0 ≤ x.1 ∧ vl x.2 + pB x.2.length * x.1 = v ∧ x.2.length ≤ 3 ∧ (x.1 = 0 → Can x.2)) (fun x => 4 - x.2.length) ?_ n (v, []) ⟨dig_nil, h0, by show 0 + 1 * v = v; omega, by simp, fun _ => trivial⟩ (by simp; omega)
 rintro again ⟨m, g⟩ ⟨h1, h2, h3, h4, h5⟩ ih
 simp only at h1 h2 h3 h4 h5
 have hg := vl_nonneg h1
 have hp := pB_pos g.length
 have hmv : m ≤ v := by
  have : m ≤ pB g.length * m := by
   have := Int.mul_le_mul_of_nonneg_right hp h2; omega
  omega
 refine Ok.cd (fun h => ?_) (fun h => ?_)
 · have hm : 0 < m := by simpa using h
   have hlen : g.length ≤ 2 := by
    by_cases h : g.length ≤ 2
    · exact h
    · have h6 : g.length = 3 := by omega
      rw [h6] at h3
      have : pB 3 = 1000000000000000000000000000 := rfl
      rw [this] at h3
      omega
   refine Ok.gd (by simp; omega) (Ok.gd (by simp; omega) ?_)
   have e1 : m.tdiv 1000000000 = m / 1000000000 := Int.tdiv_eq_ediv_of_nonneg h2
   have e2 : m.tmod 1000000000 = m % 1000000000 := Int.tmod_eq_emod_of_nonneg h2
   rw [e1, e2, wrapU64_in (by omega) (by omega), wrapU32_in (by omega) (by omega)]
   have hdig : 0 ≤ m % 1000000000 ∧ m % 1000000000 < 1000000000 := by omega
   refine ih _ ⟨dig_app.2 ⟨h1, dig_one.2 hdig⟩, by simp only; omega, ?_, by simp; omega, fun hz => can_app h1 hdig (by simp only at hz; omega)⟩ (by simp; omega)
   simp only
   rw [vl_app, vl_one, List.length_append, List.length_singleton, pB_succ]
   have : m = m % 1000000000 + 1000000000 * (m / 1000000000) := by omega
   rw [← h3]
   grind
 · have hm : m = 0 := by simp at h; omega
   subst hm
   exact ok_some.2 ⟨h5 rfl, by omega, h4⟩
theorem Of_ok {n : Nat} {v : Int} (hn : 1000 ≤ n) (h0 : -9223372036854775808 ≤ v) (hv : v ≤ 9223372036854775807) : Ok (fiducialref01_Of n v) fun z => isI z.Negative z.Groups v := by
 unfold fiducialref01_Of
 refine Ok.cd (fun h => ?_) (fun h => ?_)
 · have hneg : v < 0 := by simpa using h
   have e : wrapF .u64 (wrapF .u64 (wrapF .i64 (0 - wrapF .i64 (v + 1))) + 1) = -v := by
    rw [wrap64_in (n := v + 1) (by omega) (by omega), wrap64_in (by omega) (by omega), wrapU64_in (n := 0 - (v + 1)) (by omega) (by omega), wrapU64_in (by omega) (by omega)]; omega
   rw [e]
   refine Ok.bd (split_ok hn (by omega) (by omega)) ?_
   rintro r ⟨h1, h2, h3⟩
   refine Ok.bd (made_ok hn true h1.dig (by omega)) ?_
   intro z hz
   rw [h2] at hz
   refine ok_some.2 ?_
   simpa using hz
 · have hneg : 0 ≤ v := by simpa using h
   rw [wrapU64_in hneg (by omega)]
   refine Ok.bd (split_ok hn (by omega) (by omega)) ?_
   rintro r ⟨h1, h2, h3⟩
   refine Ok.bd (made_ok hn false h1.dig (by omega)) ?_
   intro z hz
   rw [h2] at hz
   exact ok_some.2 hz
theorem Valid_ok {n : Nat} {x : api_Int} {v : Int} (hn : 1000 ≤ n) (hl : x.Groups.length ≤ 900) (h : isI x.Negative x.Groups v) : fiducialref01_Valid n x = some true := by
 obtain ⟨h1, h2, h3⟩ := h
 apply Ok.eq
 unfold fiducialref01_Valid
 refine Ok.bd (R := fun o => match o with | .inl _ => True | .inr _ => False) ?_ ?_
 · refine ok_range (len := x.Groups.length) (fun k => True) (by omega) (by omega) trivial ?_ ?_
   · intro again k hk _ ih
     refine Ok.cd (fun _ => ?_) (fun h => ?_)
     · refine Ok.gd (by rw [inR_nat]; simpa using hk) ?_
       rw [gt_int]
       have := dig_at h1.dig k
       refine Ok.cd (fun h => ?_) (fun h => ih trivial)
       have := of_decide_eq_true h; omega
     · simp at h; omega
   · intro again _
     refine Ok.cd (fun h => ?_) (fun h => ok_some.2 trivial)
     simp at h
 · rintro (_ | r) h
   · refine Ok.cd (fun h => ?_) (fun h => ?_)
     · have hg : x.Groups = [] := by simpa using h
       refine ok_some.2 ?_
       cases hh : x.Negative with | false => rfl | true => exact absurd hg (h2 hh)
     · have hg : x.Groups ≠ [] := by simpa using h
       have hpos : 0 < x.Groups.length := List.length_pos_iff.2 hg
       rw [w64_pred hpos (by omega)]
       refine Ok.gd (by rw [inR_nat]; simp; omega) (ok_some.2 ?_)
       rw [gt_int]
       simpa using can_last h1 hg
   · exact h.elim
theorem Value_ok {n : Nat} {x : api_Int} {v : Int} (hn : 1000 ≤ n) (hl : x.Groups.length ≤ 900) (h : isI x.Negative x.Groups v) : fiducialref01_Value n x = some x := by
 unfold fiducialref01_Value
 rw [Valid_ok hn hl h]
 show gdO _ (gdO _ _) = _
 have e1 : decide ((0 + x.Groups.length) * 4 ≤ 140737488355328) = true := by simp; omega
 have e2 : decide (0 + x.Groups.length ≤ 4611686018427387904) = true := by simp; omega
 rw [e1, e2]; rfl
theorem Sign_ok {n : Nat} {x : api_Int} {v : Int} (hn : 1000 ≤ n) (hl : x.Groups.length ≤ 900) (h : isI x.Negative x.Groups v) : fiducialref01_Sign n x = some (sgn v) := by
 unfold fiducialref01_Sign; rw [Value_ok hn hl h, isI_sgn h]
 show cdO _ _ _ = _
 by_cases hx : x.Groups = []
 · rw [hx]; rfl
 · have e : (((x.Groups.length : Int) : Int) == 0) = false := by simp [hx]
   rw [e, if_neg hx]
   cases x.Negative <;> rfl
theorem Neg_ok {n : Nat} {x : api_Int} {v : Int} (hn : 1000 ≤ n) (hl : x.Groups.length ≤ 900) (h : isI x.Negative x.Groups v) : Ok (fiducialref01_Neg n x) fun z => isI z.Negative z.Groups (-v) := by
 unfold fiducialref01_Neg
 refine Ok.bde (Value_ok hn hl h) ?_
 refine Ok.bd (made_ok hn _ h.1.dig hl) fun z hz => ok_some.2 ?_
 have : -v = if (!x.Negative) = true then -vl x.Groups else vl x.Groups := by rw [h.2.2]; cases x.Negative <;> simp
 rw [this]; exact hz
theorem group_ok {n : Nat} {l : List Int} {k : Nat} (h : Dig l) : fiducialref01_group n l (k : Int) = some (l.getD k 0) := by
 unfold fiducialref01_group
 have hd := dig_at h k
 by_cases h : k < l.length
 · have e : decide ((k : Int) < (l.length : Int)) = true := by simp; omega
   rw [e, inR_nat, gt_int]
   have e : decide (k < l.length) = true := by simpa using h
   rw [e, wrapU64_in (by omega) (by omega)]; rfl
 · have e : decide ((k : Int) < (l.length : Int)) = false := by simp; omega
   rw [e, at_zero (by omega)]; rfl
end Go.L.R

