import Derived.Test.YtiicieaabeamoaaGreatPasL01s
import Derived.Test.YtiicieaabeamoaaGreatPl6giknfhhc
set_option linter.all false
namespace Go.L.R
open Go Go.Eng Go.L
theorem td_v {m d : Int} (h : 0 ≤ m) : m.tdiv d = m / d ∧ m.tmod d = m % d := ⟨Int.tdiv_eq_ediv_of_nonneg h, Int.tmod_eq_emod_of_nonneg h⟩
theorem madeF {n : Nat} {g : List Int} (hn : 1000 ≤ n) (hd : Dig g) (hl : g.length ≤ 900) : Ok (fiducialref01_made n false g) fun z => Can z.Groups ∧ vl z.Groups = vl g :=
 (made_ok hn false hd hl).mono fun z hz => ⟨hz.1, by have h1 := isI_abs hz; have h2 := vl_nonneg hd; simp only [Bool.false_eq_true, if_false] at h1; omega⟩
theorem short_ok {n : Nat} {a : List Int} {d : Int} (hn : 1000 ≤ n) (ha : Dig a) (la : a.length ≤ 900) (hd : 0 < d) (hd2 : d ≤ 1000000000) : Ok (fiducialref01_short n a d) fun r => Can r.1 ∧ (0 ≤ r.2 ∧ r.2 < d) ∧ vl r.1 * d + r.2 = vl a := by
 unfold fiducialref01_short
 refine Ok.gd (by simp) (Ok.gd (by simp; omega) (Ok.gd (by simp; omega) ?_))
 refine Ok.bd (R := fun r => Dig r.1 ∧ r.1.length = a.length ∧ (0 ≤ r.2 ∧ r.2 < d) ∧ vl r.1 * d + r.2 = vl a) ?_ ?_
 · refine ok_loop (fun x : List Int × Int × Int => ∃ k : Nat, x.2.2 = (k : Int) - 1 ∧ k ≤ a.length ∧ x.1.length = a.length ∧ Dig x.1 ∧ (∀ i, i < k → x.1.getD i 0 = 0) ∧ (0 ≤ x.2.1 ∧ x.2.1 < d) ∧ vl x.1 * d + pB k * x.2.1 = vl a - vk a k) (fun x => (x.2.2 + 1).toNat) ?_ n _
    ⟨a.length, by simp only; rw [wrap64_in (by omega) (by omega)], Nat.le_refl _, by simp, dig_rep _, fun i _ => at_rep, ⟨Int.le_refl _, hd⟩, by simp only; rw [vk_len (Nat.le_refl _), vl_rep]; omega⟩ (by simp only; rw [wrap64_in (by omega) (by omega)]; omega)
   rintro again ⟨q, r, x⟩ ⟨k, hx, h1, h2, h3, h4, h5, h6⟩ ih
   simp only at hx h2 h3 h4 h5 h6
   subst hx
   dsimp only
   refine Ok.cd (fun h => ?_) (fun h => ?_)
   · have hk := of_decide_eq_true h
     obtain ⟨j, rfl⟩ : ∃ j, k = j + 1 := ⟨k - 1, by omega⟩
     have ej : (((j + 1 : Nat) : Int) - 1) = (j : Int) := by omega
     rw [ej]
     refine Ok.gd (by rw [inR_nat]; simp; omega) (Ok.gd (by rw [decide_eq_false (by omega)]; rfl) (Ok.gd (by rw [inR_nat]; simp; omega) ?_))
     rw [gt_int]
     have da := dig_at ha j
     rw [wrapU64_in (n := r * 1000000000) (by omega) (by omega), wrapU64_in (n := a.getD j 0) (by omega) (by omega), wrapU64_in (n := r * 1000000000 + a.getD j 0) (by omega) (by omega)]
     generalize hs : r * 1000000000 + a.getD j 0 = s
     have hs0 : 0 ≤ s := by omega
     rw [(td_v hs0).1, (td_v hs0).2]
     have hm := Int.emod_add_mul_ediv s d
     have hm1 := Int.emod_nonneg s (by omega : d ≠ 0)
     have hm2 := Int.emod_lt_of_pos s hd
     have hq0 : 0 ≤ s / d := Int.ediv_nonneg hs0 (by omega)
     have hq1 : s / d < 1000000000 := (Int.ediv_lt_iff_lt_mul hd).2 (by omega)
     rw [wrapU64_in hq0 (by omega), wrapU32_in hq0 (by omega), Int.toNat_natCast, wrap64_in (n := (j : Int) - 1) (by omega) (by omega)]
     refine ih _ ⟨j, rfl, by omega, by simpa using h2, dig_set h3 ⟨hq0, hq1⟩, ?_, ⟨hm1, hm2⟩, ?_⟩ (by simp)
     · intro i hi
       simp only
       rw [at_set_ne (by omega)]
       exact h4 i (by omega)
     · simp only
       rw [vl_set (by omega), h4 j (by omega)]
       rw [vk_succ, pB_succ] at h6
       rw [← hs] at hm
       grind
   · have hk := of_decide_eq_false h
     obtain rfl : k = 0 := by omega
     rw [vk_zero] at h6
     have : pB 0 = 1 := rfl
     rw [this] at h6
     exact ok_some.2 ⟨h3, h2, h5, by simp only; omega⟩
 · rintro ⟨q, r⟩ ⟨h1, h2, h3, h4⟩
   simp only at h1 h2 h3 h4
   dsimp only
   refine Ok.bd (madeF hn h1 (by omega)) fun z hz => ok_some.2 ⟨hz.1, h3, ?_⟩
   simp only
   rw [hz.2]; exact h4
theorem scaled_ok {n : Nat} {a : List Int} {d : Int} (hn : 1000 ≤ n) (ha : Dig a) (la : a.length ≤ 800) (hd : 0 ≤ d) (hd2 : d < 1000000000) : Ok (fiducialref01_scaled n a d) fun r => Can r ∧ vl r = vl a * d := by
 unfold fiducialref01_scaled
 refine Ok.bd (R := fun r => Dig r.1 ∧ r.1.length = a.length ∧ (0 ≤ r.2 ∧ r.2 < 1000000000) ∧ vl r.1 + pB a.length * r.2 = vl a * d) ?_ ?_
 · refine ok_loop (fun x : List Int × Int × Int => ∃ k : Nat, x.2.2 = (k : Int) ∧ k ≤ a.length ∧ x.1.length = k ∧ Dig x.1 ∧ (0 ≤ x.2.1 ∧ x.2.1 < 1000000000) ∧ vl x.1 + pB k * x.2.1 = vk a k * d) (fun x => a.length - x.2.2.toNat) ?_ n _
    ⟨0, rfl, by omega, rfl, dig_nil, by simp, by simp [vk_zero, vl]⟩ (by simp; omega)
   rintro again ⟨out, c, x⟩ ⟨k, hx, h1, h2, h3, h4, h5⟩ ih
   simp only at hx h2 h3 h4 h5
   subst hx
   dsimp only
   refine Ok.cd (fun h => ?_) (fun h => ?_)
   · have hk : k < a.length := by have := of_decide_eq_true h; omega
     refine Ok.gd (by rw [inR_nat]; simpa using hk) (Ok.gd (by simp; omega) (Ok.gd (by simp; omega) ?_))
     rw [gt_int]
     have da := dig_at ha k
     have m1 : 0 ≤ a.getD k 0 * d := Int.mul_nonneg da.1 hd
     have m2 : a.getD k 0 * d ≤ 999999999 * 999999999 := Int.mul_le_mul (by omega) (by omega) hd (by omega)
     rw [wrapU64_in (n := a.getD k 0) (by omega) (by omega), wrapU64_in (n := a.getD k 0 * d) (by omega) (by omega), wrapU64_in (n := a.getD k 0 * d + c) (by omega) (by omega)]
     generalize hs : a.getD k 0 * d + c = s
     have hs0 : 0 ≤ s := by omega
     rw [(td_v hs0).1, (td_v hs0).2, wrapU64_in (n := s / 1000000000) (by omega) (by omega), wrapU32_in (n := s % 1000000000) (by omega) (by omega), w64_nat (by omega)]
     refine ih _ ⟨k + 1, rfl, by omega, by simp; omega, dig_app.2 ⟨h3, dig_one.2 (by omega)⟩, by simp only; omega, ?_⟩ (by simp; omega)
     simp only
     rw [vl_app, vl_one, h2, vk_succ, pB_succ]
     have : s % 1000000000 = a.getD k 0 * d + c - 1000000000 * (s / 1000000000) := by omega
     rw [this]
     grind
   · have hk := of_decide_eq_false h
     obtain rfl : k = a.length := by omega
     rw [vk_len (Nat.le_refl _)] at h5
     exact ok_some.2 ⟨h3, h2, h4, h5⟩
 · rintro ⟨out, c⟩ ⟨h1, h2, h3, h4⟩
   simp only at h1 h2 h3 h4
   dsimp only
   refine Ok.gd (by simp; omega) (Ok.gd (by simp; omega) ?_)
   rw [wrapU32_in (by omega) (by omega)]
   refine Ok.bd (madeF hn (dig_app.2 ⟨h1, dig_one.2 (by omega)⟩) (by simp; omega)) fun z hz => ok_some.2 ⟨hz.1, ?_⟩
   rw [hz.2, vl_app, vl_one, h2]; exact h4
theorem shifted_ok {n : Nat} {a : List Int} {d : Int} (hn : 1000 ≤ n) (ha : Dig a) (la : a.length ≤ 800) (hd : 0 ≤ d ∧ d < 1000000000) : Ok (fiducialref01_shifted n a d) fun r => Can r ∧ vl r = d + 1000000000 * vl a := by
 unfold fiducialref01_shifted
 refine Ok.gd (by simp; omega) (Ok.gd (by simp; omega) ?_)
 refine Ok.bd (madeF hn (dig_app.2 ⟨dig_one.2 hd, ha⟩) (by simp; omega)) fun z hz => ok_some.2 ⟨hz.1, ?_⟩
 rw [hz.2]; rfl
theorem rsub_ok {n : Nat} (hn : 1000 ≤ n) {v r0 : List Int} {g0 : Int} (hv : Can v) (hr : Can r0) (lv : v.length ≤ 400) (lr : r0.length ≤ 400) (hv0 : 0 < vl v) (hlt : vl r0 < 10 * vl v) (hg : 0 ≤ g0 ∧ g0 ≤ 1000000000000000000) :
  Ok (loopO (α := List Int × Int) (β := List Int × Int) n (fun again x => match x with
   | (rest, guess) => (
         bdO (fiducialref01_size n rest v) fun v85 => (
         cdO (decide (v85 ≥ 0)) (
          bdO (fiducialref01_minus n rest v) fun v88 => (
          again (v88, wrapF .u64 (guess + 1))
          )
         ) (
          some ((rest, guess))
         )
         )
    )) (r0, g0)) fun r => Can r.1 ∧ vl r.1 < vl v ∧ g0 ≤ r.2 ∧ vl r.1 + r.2 * vl v = vl r0 + g0 * vl v := by
 refine ok_loop (fun x : List Int × Int => Can x.1 ∧ x.1.length ≤ 400 ∧ g0 ≤ x.2 ∧ x.2 + vl x.1 / vl v = g0 + vl r0 / vl v ∧ vl x.1 + x.2 * vl v = vl r0 + g0 * vl v) (fun x => (vl x.1 / vl v).toNat) ?_ n _ ⟨hr, lr, Int.le_refl _, rfl, rfl⟩ ?_
 · rintro again ⟨r, g⟩ ⟨h1, h2, h3, h4, h5⟩ ih
   simp only at h1 h2 h3 h4 h5
   dsimp only
   refine Ok.bde (size_ok hn h1 hv h2 lv) ?_
   have hs := sgn_cases (vl r - vl v)
   have hd0 : vl r0 / vl v ≤ 10 := Int.le_of_lt ((Int.ediv_lt_iff_lt_mul hv0).2 hlt)
   have hr0 := vl_nonneg h1.dig
   have hq0 : 0 ≤ vl r / vl v := Int.ediv_nonneg hr0 (by omega)
   refine Ok.cd (fun h => ?_) (fun h => ?_)
   · have hle : vl v ≤ vl r := by have := of_decide_eq_true h; omega
     have ll : v.length ≤ r.length := by
      by_cases hl : v.length ≤ r.length
      · exact hl
      · have := can_lt_len h1.dig hv (by omega); omega
     refine Ok.bd (minus_ok hn h1.dig hv.dig h2 ll hle) ?_
     rintro z ⟨z1, z2⟩
     have lz : z.length ≤ 400 := by
      by_cases hl : z.length ≤ 400
      · exact hl
      · have := can_lt_len h1.dig z1 (by omega); omega
     have ed : vl z / vl v = vl r / vl v - 1 := by
      rw [z2, (by omega : vl r - vl v = vl r + (-1) * vl v), Int.add_mul_ediv_right _ _ (by omega)]; omega
     have hz0 : 0 ≤ vl z / vl v := Int.ediv_nonneg (vl_nonneg z1.dig) (by omega)
     rw [wrapU64_in (n := g + 1) (by omega) (by omega)]
     exact ih _ ⟨z1, lz, by simp only; omega, by simp only; omega, by simp only; rw [z2]; grind⟩ (by simp only; omega)
   · have hlt : vl r < vl v := by have := of_decide_eq_false h; omega
     exact ok_some.2 ⟨h1, hlt, h3, h5⟩
 · have hd0 : vl r0 / vl v < 10 := (Int.ediv_lt_iff_lt_mul hv0).2 hlt
   simp only; omega
end Go.L.R

