import Derived.Test.YtiicieaabeamoaaGreatPasLD
import Derived.Test.YtiicieaabeamoaaGreatPl6giknfhhc
set_option linter.all false
namespace Go.L
open Go Go.Eng
theorem gt_int {l : List Int} {k : Nat} : gt l (k : Int) = l.getD k 0 := gt_nat
theorem w64_nat {k : Nat} (h : k ≤ 4000000000) : wrapF .i64 ((k : Int) + 1) = ((k + 1 : Nat) : Int) := by rw [wrap64_in (by omega) (by omega)]; omega
theorem w64_pred {k : Nat} (h : 0 < k) (h2 : k ≤ 4000000000) : wrapF .i64 ((k : Int) - 1) = ((k - 1 : Nat) : Int) := by rw [wrap64_in (by omega) (by omega)]; omega
theorem trim_ok {n : Nat} {g : List Int} (hn : 1000 ≤ n) (hd : Dig g) (hl : g.length ≤ 900) : Ok (integer_trim n g) fun r => Can r ∧ vl r = vl g := by
 unfold integer_trim
 refine Ok.bd (R := fun r => Can r ∧ vl r = vl g) ?_ (fun g' h => ok_some.2 h)
 refine ok_loop (fun l : List Int => Dig l ∧ vl l = vl g ∧ l.length ≤ g.length) (fun l => l.length) ?_ n g ⟨hd, rfl, Nat.le_refl _⟩ (by omega)
 rintro again l ⟨h1, h2, h3⟩ ih
 refine Ok.cd (fun h => ?_) (fun h => ?_)
 · have hpos : 0 < l.length := by simpa using h
   rw [w64_pred hpos (by omega)]
   refine Ok.gd (by rw [inR_nat]; simp; omega) ?_
   rw [gt_int]
   refine Ok.cd (fun h => ?_) (fun h => ?_)
   · refine Ok.gd (inS_iff.2 (by omega)) ?_
     have e : (l.drop (0 : Int).toNat).take (((l.length - 1 : Nat) : Int).toNat - (0 : Int).toNat) = l.take (l.length - 1) := by simp
     rw [e]
     have hz : l.getD (l.length - 1) 0 = 0 := by simpa using h
     refine ih _ ⟨dig_take h1 _, ?_, ?_⟩ ?_
     · rw [vl_cut (by omega) ?_, h2]
       intro j hj
       by_cases hjl : j = l.length - 1
       · rw [hjl]; exact hz
       · simp [List.getD, List.getElem?_eq_none (by omega : l.length ≤ j)]
     · rw [List.length_take]; omega
     · rw [List.length_take]; omega
   · refine ok_some.2 ⟨can_tail h1 (.inr ?_), h2⟩
     simpa using h
 · have : l = [] := by simpa using h
   subst this
   exact ok_some.2 ⟨trivial, h2⟩
theorem made_ok {n : Nat} {g : List Int} (hn : 1000 ≤ n) (neg : Bool) (hd : Dig g) (hl : g.length ≤ 900) : Ok (integer_made n neg g) fun z => isI z.Negative z.Groups (if neg then -vl g else vl g) := by
 unfold integer_made
 refine Ok.bd (trim_ok hn hd hl) ?_
 rintro r ⟨h1, h2⟩
 refine Ok.cd (fun h => ?_) (fun h => ?_)
 · have : r = [] := by simpa using h
   subst this
   refine ok_some.2 (show isI false [] _ from ⟨trivial, (fun h => absurd h (by decide)), ?_⟩)
   rw [← h2]; cases neg <;> rfl
 · refine ok_some.2 ⟨h1, fun _ => ?_, ?_⟩
   · rintro rfl; simp at h
   · rw [← h2]
theorem split_ok {n : Nat} {v : Int} (hn : 1000 ≤ n) (h0 : 0 ≤ v) (hv : v < 18446744073709551616) : Ok (integer_split n v) fun r => Can r ∧ vl r = v ∧ r.length ≤ 3 := by
 unfold integer_split
 refine Ok.bd (R := fun r => Can r ∧ vl r = v ∧ r.length ≤ 3) ?_ (fun g' h => ok_some.2 h)
 refine ok_loop (fun x : Int × List Int => Dig x.2 ∧ 0 ≤ x.1 ∧ vl x.2 + pB x.2.length * x.1 = v ∧ x.2.length ≤ 3 ∧ (x.1 = 0 → Can x.2)) (fun x => 4 - x.2.length) ?_ n (v, []) ⟨dig_nil, h0, by show 0 + 1 * v = v; omega, by simp, fun _ => trivial⟩ (by simp; omega)
 rintro again ⟨m, g⟩ ⟨h1, h2, h3, h4, h5⟩ ih
 simp only at h1 h2 h3 h4 h5
 have hg := vl_nonneg h1
 have hp := pB_pos g.length
 have hmv : m ≤ v := by
  have : m ≤ pB g.length * m := by
   have := Int.mul_le_mul_of_nonneg_right hp h2; omega
  omega
 refine Ok.cd (fun h => ?_) (fun h => ?_)
 · have hm : 0 < m := by simpa using h
   have hlen : g.length ≤ 2 := by
    by_cases h : g.length ≤ 2
    · exact h
    · have h6 : g.length = 3 := by omega
      rw [h6] at h3
      have : pB 3 = 1000000000000000000000000000 := rfl
      rw [this] at h3
      omega
   refine Ok.gd (by simp; omega) (Ok.gd (by simp; omega) ?_)
   have e1 : m.tdiv 1000000000 = m / 1000000000 := Int.tdiv_eq_ediv_of_nonneg h2
   have e2 : m.tmod 1000000000 = m % 1000000000 := Int.tmod_eq_emod_of_nonneg h2
   rw [e1, e2, wrapU64_in (by omega) (by omega), wrapU32_in (by omega) (by omega)]
   have hdig : 0 ≤ m % 1000000000 ∧ m % 1000000000 < 1000000000 := by omega
   refine ih _ ⟨dig_app.2 ⟨h1, dig_one.2 hdig⟩, by simp only; omega, ?_, by simp; omega, fun hz => can_app h1 hdig (by simp only at hz; omega)⟩ (by simp; omega)
   simp only
   rw [vl_app, vl_one, List.length_append, List.length_singleton, pB_succ]
   have : m = m % 1000000000 + 1000000000 * (m / 1000000000) := by omega
   rw [← h3]
   grind
 · have hm : m = 0 := by simp at h; omega
   subst hm
   exact ok_some.2 ⟨h5 rfl, by omega, h4⟩
theorem Of_ok {n : Nat} {v : Int} (hn : 1000 ≤ n) (h0 : -9223372036854775808 ≤ v) (hv : v ≤ 9223372036854775807) : Ok (integer_Of n v) fun z => isI z.Negative z.Groups v := by
 unfold integer_Of
 refine Ok.cd (fun h => ?_) (fun h => ?_)
 · have hneg : v < 0 := by simpa using h
   have e : wrapF .u64 (0 - wrapF .u64 v) = -v := by
    rw [wrapF_eq, wrapF_eq, IntKind.wrap_u64, IntKind.wrap_u64]; omega
   rw [e]
   refine Ok.bd (split_ok hn (by omega) (by omega)) ?_
   rintro r ⟨h1, h2, h3⟩
   refine Ok.bd (made_ok hn true h1.dig (by omega)) ?_
   intro z hz
   rw [h2] at hz
   refine ok_some.2 ?_
   simpa using hz
 · have hneg : 0 ≤ v := by simpa using h
   rw [wrapU64_in hneg (by omega)]
   refine Ok.bd (split_ok hn (by omega) (by omega)) ?_
   rintro r ⟨h1, h2, h3⟩
   refine Ok.bd (made_ok hn false h1.dig (by omega)) ?_
   intro z hz
   rw [h2] at hz
   exact ok_some.2 hz
theorem Valid_ok {n : Nat} {x : api_Int} {v : Int} (hn : 1000 ≤ n) (hl : x.Groups.length ≤ 900) (h : isI x.Negative x.Groups v) : integer_Valid n x = some true := by
 obtain ⟨h1, h2, h3⟩ := h
 unfold integer_Valid
 by_cases hx : x.Groups = []
 · have : x.Negative = false := by cases hh : x.Negative with | false => rfl | true => exact absurd hx (h2 hh)
   rw [hx, this]; rfl
 · have hpos : 0 < x.Groups.length := List.length_pos_iff.2 hx
   have e : (((x.Groups.length : Int) : Int) == 0) = false := by simp [hx]
   rw [e]
   show gdO _ _ = _
   rw [w64_pred hpos (by omega), inR_nat, gt_int]
   have e1 : decide (x.Groups.length - 1 < x.Groups.length) = true := by simp; omega
   have e2 : (x.Groups.getD (x.Groups.length - 1) 0 != 0) = true := by simpa using can_last h1 hx
   rw [e1, e2]
   show bdO (slices_ContainsFunc_uint32_uint32_of_integer_Valid_1 n x.Groups) _ = _
   unfold slices_ContainsFunc_uint32_uint32_of_integer_Valid_1
   have : slices_IndexFunc_uint32_uint32_of_integer_Valid_1 n x.Groups = some (idxB (fun g => decide (g ≥ 1000000000)) x.Groups) := loop_indexF (fun x => rfl) (by omega) (by omega)
   rw [this]
   show some (!decide (idxB _ x.Groups ≥ 0)) = _
   rw [idxB_ge]
   have : x.Groups.any (fun g => decide (g ≥ 1000000000)) = false := by
    rw [List.any_eq_false]
    intro d hd
    have := h1.dig d hd
    simp; omega
   rw [this]; rfl
theorem groups_ok {n : Nat} {x : api_Int} {v : Int} (hn : 1000 ≤ n) (hl : x.Groups.length ≤ 900) (h : isI x.Negative x.Groups v) : integer_groups n x = some x.Groups := by
 unfold integer_groups; rw [Valid_ok hn hl h]; rfl
theorem Sign_ok {n : Nat} {x : api_Int} {v : Int} (hn : 1000 ≤ n) (hl : x.Groups.length ≤ 900) (h : isI x.Negative x.Groups v) : integer_Sign n x = some (sgn v) := by
 unfold integer_Sign; rw [groups_ok hn hl h, isI_sgn h]
 show cdO _ _ _ = _
 by_cases hx : x.Groups = []
 · rw [hx]; rfl
 · have e : (((x.Groups.length : Int) : Int) == 0) = false := by simp [hx]
   rw [e, if_neg hx]
   cases x.Negative <;> rfl
theorem at_ok {n : Nat} {l : List Int} {k : Nat} : integer_at n l (k : Int) = some (l.getD k 0) := by
 unfold integer_at
 by_cases h : k < l.length
 · have e : decide ((k : Int) < (l.length : Int)) = true := by simp; omega
   rw [e, inR_nat, gt_int]
   have e : decide (k < l.length) = true := by simpa using h
   rw [e]; rfl
 · have e : decide ((k : Int) < (l.length : Int)) = false := by simp; omega
   rw [e]
   have : l.getD k 0 = 0 := by simp [List.getD, List.getElem?_eq_none (by omega : l.length ≤ k)]
   rw [this]; rfl
end Go.L

