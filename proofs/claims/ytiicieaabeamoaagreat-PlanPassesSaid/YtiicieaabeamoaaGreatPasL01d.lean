import Derived.Test.YtiicieaabeamoaaGreatPasL01g
set_option linter.all false
namespace Go.L
open Go Go.Eng
theorem Neg_ok {n : Nat} {x : api_Int} {v : Int} (hn : 1000 ≤ n) (hl : x.Groups.length ≤ 900) (h : isI x.Negative x.Groups v) : Ok (integer_Neg n x) fun z => isI z.Negative z.Groups (-v) := by
 unfold integer_Neg
 refine Ok.bde (groups_ok hn hl h) (Ok.bde (clone_ok hl) ?_)
 refine Ok.bd (made_ok hn _ h.1.dig hl) fun z hz => ok_some.2 ?_
 have : -v = if (!x.Negative) = true then -vl x.Groups else vl x.Groups := by rw [h.2.2]; cases x.Negative <;> simp
 rw [this]; exact hz
theorem cmpint_v {n : Nat} (a b : Int) : cmp_Compare_int n a b = some (sgn (a - b)) := by
 unfold cmp_Compare_int
 have ea : (a != a) = false := by simp
 have eb : (b != b) = false := by simp
 simp only [cmp_isNaN_int, bdO, ea, eb]
 rcases sgn_cases (a - b) with ⟨h1, h2⟩ | ⟨h1, h2⟩ | ⟨h1, h2⟩
 · rw [h2]; rw [decide_eq_true (by omega : a < b)]; rfl
 · rw [h2]; rw [decide_eq_false (by omega : ¬ a < b), decide_eq_false (by omega : ¬ a > b)]; rfl
 · rw [h2]; rw [decide_eq_false (by omega : ¬ a < b), decide_eq_true (by omega : a > b)]; rfl
theorem Compare_ok {n : Nat} {x y : api_Int} {v w : Int} (hn : 1000 ≤ n) (hx : isI x.Negative x.Groups v) (hy : isI y.Negative y.Groups w) (lx : x.Groups.length ≤ 400) (ly : y.Groups.length ≤ 400) : integer_Compare n x y = some (sgn (v - w)) := by
 apply Ok.eq
 unfold integer_Compare
 refine Ok.bde (Sign_ok hn (by omega) hx) (Ok.bde (Sign_ok hn (by omega) hy) ?_)
 have hv := sgn_cases v; have hw := sgn_cases w; have hvw := sgn_cases (v - w)
 refine Ok.cd (fun h => ?_) (fun h => ?_)
 · have hne : sgn v ≠ sgn w := by simpa using h
   refine Ok.bde (cmpint_v _ _) (ok_some.2 ?_)
   have h3 := sgn_cases (sgn v - sgn w)
   omega
 · have heq : sgn v = sgn w := by simpa using h
   refine Ok.bde (groups_ok hn (by omega) hx) (Ok.bde (groups_ok hn (by omega) hy) (Ok.bde (compare_ok hx.1 hy.1 lx ly) ?_))
   have ax := isI_abs hx; have ay := isI_abs hy
   have h3 := sgn_cases (vl x.Groups - vl y.Groups)
   have nx := hx.2.2
   have px := vl_nonneg hx.1.dig
   refine Ok.cd (fun h => ?_) (fun h => ?_)
   · rw [h, if_pos rfl] at nx
     have hx0 := can_pos hx.1 (hx.2.1 h)
     refine ok_some.2 ?_
     rw [wrap64_in (by omega) (by omega)]
     omega
   · rw [h] at nx
     simp only [Bool.false_eq_true, if_false] at nx
     exact ok_some.2 (by omega)
theorem Divide_ok {n : Nat} {x y : api_Int} {v w : Int} (hn : 1000 ≤ n) (hx : isI x.Negative x.Groups v) (hy : isI y.Negative y.Groups w) (hw : w ≠ 0) (lx : x.Groups.length ≤ 300) (ly : y.Groups.length ≤ 300) :
  Ok (integer_Divide n x y) fun z => ∃ q r, isI z.1.Negative z.1.Groups q ∧ isI z.2.1.Negative z.2.1.Groups r ∧ v = q * w + r ∧ ((0 ≤ r ∧ r < w) ∨ (w < r ∧ r ≤ 0)) ∧ z.2.2 = 0 := by
 unfold integer_Divide
 refine Ok.bde (groups_ok hn (by omega) hx) (Ok.bde (groups_ok hn (by omega) hy) ?_)
 have hy0 : y.Groups ≠ [] := by
  intro h
  have := hy.2.2
  rw [h] at this
  have e : vl ([] : List Int) = 0 := rfl
  rw [e] at this
  apply hw; rw [this]; split <;> rfl
 refine Ok.cd (fun h => absurd h (by simp [hy0])) (fun h => ?_)
 refine Ok.bd (over_ok hn hx.1 hy.1 hy0 lx ly) ?_
 rintro ⟨c, d⟩ ⟨c1, d1, d2, d3⟩
 simp only at c1 d1 d2 d3
 dsimp only
 have hyp := can_pos hy.1 hy0
 have cp := vl_nonneg c1.dig; have dp := vl_nonneg d1.dig; have xp := vl_nonneg hx.1.dig
 have ld : d.length ≤ 300 := by
  by_cases hl : d.length ≤ 300
  · exact hl
  · have := can_lt_len hy.1.dig d1 (by omega); omega
 have lc : c.length ≤ 300 := by
  by_cases hl : c.length ≤ 300
  · exact hl
  · have := can_lt_len hx.1.dig c1 (by omega)
    have : vl c * 1 ≤ vl c * vl y.Groups := Int.mul_le_mul_of_nonneg_left (by omega) cp
    omega
 refine Ok.bde (clone_ok (by omega)) ?_
 have nx := hx.2.2; have ny := hy.2.2
 refine Ok.cd (fun h => ?_) (fun h => ?_)
 · have hd0 : d ≠ [] := by rintro rfl; simp at h
   have dpos := can_pos d1 hd0
   refine Ok.cd (fun h => ?_) (fun h => ?_)
   · refine Ok.bd (plus_ok hn c1.dig (dig_one.2 (by omega)) (by omega) (by simp)) ?_
     rintro c2 ⟨e1, e2⟩
     rw [vl_one] at e2
     have ldy : d.length ≤ y.Groups.length := by
      by_cases hl : d.length ≤ y.Groups.length
      · exact hl
      · have := can_lt_len hy.1.dig d1 (by omega); omega
     refine Ok.bd (minus_ok hn hy.1.dig d1.dig (by omega) ldy (by omega)) ?_
     rintro d4 ⟨f1, f2⟩
     have lc2 : c2.length ≤ 900 := by
      by_cases hl : c2.length ≤ 301
      · omega
      · have h1 := can_lt_len (dig_app.2 ⟨c1.dig, dig_one.2 (by omega : (0 : Int) ≤ 1 ∧ (1 : Int) < 1000000000)⟩) e1 (by simp; omega)
        rw [vl_app, vl_one] at h1
        have := pB_pos c.length
        omega
     have ld4 : d4.length ≤ 900 := by
      by_cases hl : d4.length ≤ 300
      · omega
      · have := can_lt_len hy.1.dig f1 (by omega); omega
     refine Ok.bd (made_ok hn true e1.dig lc2) fun z hz => Ok.bd (made_ok hn y.Negative f1.dig ld4) fun z' hz' => ok_some.2 ⟨_, _, hz, hz', ?_, ?_, rfl⟩
     · rw [nx, ny, e2, f2, ← d3]
       cases hxn : x.Negative <;> cases hyn : y.Negative <;> simp [hxn, hyn] at h ⊢ <;> grind
     · rw [ny, f2]
       cases hyn : y.Negative <;> simp <;> omega
   · refine Ok.bd (made_ok hn false c1.dig (by omega)) fun z hz => Ok.bd (made_ok hn y.Negative d1.dig (by omega)) fun z' hz' => ok_some.2 ⟨_, _, hz, hz', ?_, ?_, rfl⟩
     · rw [nx, ny, ← d3]
       cases hxn : x.Negative <;> cases hyn : y.Negative <;> simp [hxn, hyn] at h ⊢ <;> grind
     · rw [ny]
       cases hyn : y.Negative <;> simp <;> omega
 · have hd0 : d = [] := by
    cases d with
    | nil => rfl
    | cons => exact absurd (of_decide_eq_false h) (by simp)
   subst hd0
   have e0 : vl ([] : List Int) = 0 := rfl
   refine Ok.bd (made_ok hn _ c1.dig (by omega)) fun z hz => Ok.bd (made_ok hn y.Negative dig_nil (by simp)) fun z' hz' => ok_some.2 ⟨_, _, hz, hz', ?_, ?_, rfl⟩
   · rw [nx, ny, ← d3]
     rw [e0]
     cases hxn : x.Negative <;> cases hyn : y.Negative <;> simp <;> grind
   · rw [ny]
     rw [e0]
     cases hyn : y.Negative <;> simp <;> omega
theorem Divide_even {n : Nat} {x y : api_Int} {k w : Int} (hn : 1000 ≤ n) (hx : isI x.Negative x.Groups (k * w)) (hy : isI y.Negative y.Groups w) (hw : w ≠ 0) (lx : x.Groups.length ≤ 300) (ly : y.Groups.length ≤ 300) : Ok (integer_Divide n x y) fun z => isI z.1.Negative z.1.Groups k := by
 refine (Divide_ok hn hx hy hw lx ly).mono ?_
 rintro z ⟨q, r, h1, h2, h3, h4, h5⟩
 have e : (k - q) * w = r := by grind
 have : k - q = 0 := by
  by_cases h : k - q = 0
  · exact h
  · exfalso
    by_cases hp : 0 < w
    · by_cases hq : 1 ≤ k - q
      · have : 1 * w ≤ (k - q) * w := Int.mul_le_mul_of_nonneg_right hq (by omega)
        omega
      · have : (k - q) * w ≤ (-1) * w := Int.mul_le_mul_of_nonneg_right (by omega) (by omega)
        omega
    · by_cases hq : 1 ≤ k - q
      · have : 1 * (-w) ≤ (k - q) * (-w) := Int.mul_le_mul_of_nonneg_right hq (by omega)
        have e2 : (k - q) * (-w) = -r := by rw [Int.mul_neg, e]
        omega
      · have : (k - q) * (-w) ≤ (-1) * (-w) := Int.mul_le_mul_of_nonneg_right (by omega) (by omega)
        have e2 : (k - q) * (-w) = -r := by rw [Int.mul_neg, e]
        omega
 rw [(by omega : k = q)]; exact h1
end Go.L

