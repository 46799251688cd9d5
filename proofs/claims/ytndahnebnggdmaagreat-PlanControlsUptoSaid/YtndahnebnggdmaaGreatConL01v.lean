import Derived.Test.YtndahnebnggdmaaGreatConL01s
import Derived.Test.YtndahnebnggdmaaGreatPl6jpodfgob
set_option linter.all false
namespace Go.L.R
open Go Go.Eng Go.L
theorem td_v {m d : Int} (h : 0 ≤ m) : m.tdiv d = m / d ∧ m.tmod d = m % d := ⟨Int.tdiv_eq_ediv_of_nonneg h, Int.tmod_eq_emod_of_nonneg h⟩
theorem madeF {n : Nat} {g : List Int} (hn : 1000 ≤ n) (hd : Dig g) (hl : g.length ≤ 900) : Ok (fiducialref01_made n false g) fun z => Can z.Groups ∧ vl z.Groups = vl g :=
 (made_ok hn false hd hl).mono fun z hz => ⟨hz.1, by have h1 := isI_abs hz; have h2 := vl_nonneg hd; simp only [Bool.false_eq_true, if_false] at h1; omega⟩
theorem short_ok {n : Nat} {a : List Int} {d : Int} (hn : 1000 ≤ n) (ha : Dig a) (la : a.length ≤ 900) (hd : 0 < d) (hd2 : d ≤ 1000000000) : Ok (fiducialref01_short n a d) fun r => Can r.1 ∧ (0 ≤ r.2 ∧ r.2 < d) ∧ vl r.1 * d + r.2 = vl a := by
 unfold fiducialref01_short
 refine Ok.gd (by simp) (Ok.gd (by simp; omega) (Ok.gd (by simp; omega) ?_))
 refine Ok.bd (R := fun r => Dig r.1 ∧ r.1.length = a.length ∧ (0 ≤ r.2 ∧ r.2 < d) ∧ vl r.1 * d + r.2 = vl a) ?_ ?_
 · refine ok_loop (fun x : List Int × Int × Int => ∃ k : Nat, x.2.2 = (k : Int) - 1 ∧ k ≤ a.length ∧ x.1.length = a.length ∧ Dig x.1 ∧ (∀ i, i < k → x.1.getD i 0 = 0) ∧ (0 ≤ x.2.1 ∧ x.2.1 < d) ∧ vl x.1 * d + pB k * x.2.1 = vl a - vk a k) (fun x => (x.2.2 + 1).toNat) ?_ n _
    ⟨a.length, by simp only; rw [wrap64_in (by omega) (by omega)], Nat.le_refl _, by simp, dig_rep _, fun i _ => at_rep, ⟨Int.le_refl _, hd⟩, by simp only; rw [vk_len (Nat.le_refl _), vl_rep]; omega⟩ (by simp only; rw [wrap64_in (by omega) (by omega)]; omega)
   rintro again ⟨q, r, x⟩ ⟨k, hx, h1, h2, h3, h4, h5, h6⟩ ih
   simp only at hx h2 h3 h4 h5 h6
   subst hx
   dsimp only
   refine Ok.cd (fun h => ?_) (fun h => ?_)
   · have hk := of_decide_eq_true h
     obtain ⟨j, rfl⟩ : ∃ j, k = j + 1 := ⟨k - 1, by omega⟩
     have ej : (((j + 1 : Nat) : Int) - 1) = (j : Int) := by omega
     rw [ej]
     refine Ok.gd (by rw [inR_nat]; simp; omega) (Ok.gd (by rw [decide_eq_false (by omega)]; rfl) (Ok.gd (by rw [inR_nat]; simp; omega) ?_))
     rw [gt_int]
     have da := dig_at ha j
     rw [wrapU64_in (n := r * 1000000000) (by omega) (by omega), wrapU64_in (n := a.getD j 0) (by omega) (by omega), wrapU64_in (n := r * 1000000000 + a.getD j 0) (by omega) (by omega)]
     generalize hs : r * 1000000000 + a.getD j 0 = s
     have hs0 : 0 ≤ s := by omega
     rw [(td_v hs0).1, (td_v hs0).2]
     have hm := Int.emod_add_mul_ediv s d
     have hm1 := Int.emod_nonneg s (by omega : d ≠ 0)
     have hm2 := Int.emod_lt_of_pos s hd
     have hq0 : 0 ≤ s / d := Int.ediv_nonneg hs0 (by omega)
     have hq1 : s / d < 1000000000 := (Int.ediv_lt_iff_lt_mul hd).2 (by omega)
     rw [wrapU64_in hq0 (by omega), wrapU32_in hq0 (by omega), Int.toNat_natCast, wrap64_in (n := (j : Int) - 1) (by omega) (by omega)]
     refine ih _ ⟨j, rfl, by omega, by simpa using h2, dig_set h3 ⟨hq0, hq1⟩, ?_, ⟨hm1, hm2⟩, ?_⟩ (by simp)
     · intro i hi
       simp only
       rw [at_set_ne (by omega)]
       exact h4 i (by omega)
     · simp only
       rw [vl_set (by omega), h4 j (by omega)]
       rw [vk_succ, pB_succ] at h6
       rw [← hs] at hm
       grind
   · have hk := of_decide_eq_false h
     obtain rfl : k = 0 := by omega
     rw [vk_zero] at h6
     have : pB 0 = 1 := rfl
     rw [this] at h6
     exact ok_some.2 ⟨h3, h2, h5, by simp only; omega⟩
 · rintro ⟨q, r⟩ ⟨h1, h2, h3, h4⟩
   simp only at h1 h2 h3 h4
   dsimp only
   refine Ok.bd (madeF hn h1 (by omega)) fun z hz => ok_some.2 ⟨hz.1, h3, ?_⟩
   simp only
   rw [hz.2]; exact h4
theorem scaled_ok {n : Nat} {a : List Int} {d : Int} (hn : 1000 ≤ n) (ha : Dig a) (la : a.length ≤ 800) (hd : 0 ≤ d) (hd2 : d < 1000000000) : Ok (fiducialref01_scaled n a d) fun r => Can r ∧ vl r = vl a * d := by
 unfold fiducialref01_scaled
 refine Ok.bd (R := fun r => Dig r.1 ∧ r.1.length = a.length ∧ (0 ≤ r.2 ∧ r.2 < 1000000000) ∧ vl r.1 + pB a.length * r.2 = vl a * d) ?_ ?_
 · refine ok_loop (fun x : List Int × Int × Int => ∃ k : Nat, x.2.2 = (k : Int) ∧ k ≤ a.length ∧ x.1.length = k ∧ Dig x.1 ∧ (0 ≤ x.2.1 ∧ x.2.1 < 1000000000) ∧ vl x.1 + pB k * x.2.1 = vk a k * d) (fun x => a.length - x.2.2.toNat) ?_ n _
    ⟨0, rfl, by omega, rfl, dig_nil, by simp, by simp [vk_zero, vl]⟩ (by simp; omega)
   rintro again ⟨out, c, x⟩ ⟨k, hx, h1, h2, h3, h4, h5⟩ ih
   simp only at hx h2 h3 h4 h5
   subst hx
   dsimp only
   refine Ok.cd (fun h => ?_) (fun h => ?_)
   · have hk : k < a.length := by have := of_decide_eq_true h; omega
     refine Ok.gd (by rw [inR_nat]; simpa using hk) (Ok.gd (by simp; omega) (Ok.gd (by simp; omega) ?_))
     rw [gt_int]
     have da := dig_at ha k
     have m1 : 0 ≤ a.getD k 0 * d := Int.mul_nonneg da.1 hd
     have m2 : a.getD k 0 * d ≤ 999999999 * 999999999 := Int.mul_le_mul (by omega) (by omega) hd (by omega)
     rw [wrapU64_in (n := a.getD k 0) (by omega) (by omega), wrapU64_in (n := a.getD k 0 * d) (by omega) (by omega), wrapU64_in (n := a.getD k 0 * d + c) (by omega) (by omega)]
     generalize hs : a.getD k 0 * d + c = s
     have hs0 : 0 ≤ s := by omega
     rw [(td_v hs0).1, (td_v hs0).2, wrapU64_in (n := s / 1000000000) (by omega) (by omega), wrapU32_in (n := s % 1000000000) (by omega) (by omega), w64_nat (by omega)]
     refine ih _ ⟨k + 1, rfl, by omega, by simp; omega, dig_app.2 ⟨h3, dig_one.2 (by omega)⟩, by simp only; omega, ?_⟩ (by simp; omega)
     simp only
     rw [vl_app, vl_one, h2, vk_succ, pB_succ]
     have : s % 1000000000 = a.getD k 0 * d + c - 1000000000 * (s / 1000000000) := by omega
     rw [this]
     grind
   · have hk := of_decide_eq_false h
     obtain rfl : k = a.length := by omega
     rw [vk_len (Nat.le_refl _)] at h5
     exact ok_some.2 ⟨h3, h2, h4, h5⟩
 · rintro ⟨out, c⟩ ⟨h1, h2, h3, h4⟩
   simp only at h1 h2 h3 h4
   dsimp only
   refine Ok.gd (by simp; omega) (Ok.gd (by simp; omega) ?_)
   rw [wrapU32_in (by omega) (by omega)]
   refine Ok.bd (madeF hn (dig_app.2 ⟨h1, dig_one.2 (by omega)⟩) (by simp; omega)) fun z hz => ok_some.2 ⟨hz.1, ?_⟩
   rw [hz.2, vl_app, vl_one, h2]; exact h4
theorem shifted_ok {n : Nat} {a : List Int} {d : Int} (hn : 1000 ≤ n) (ha : Dig a) (la : a.length ≤ 800) (hd : 0 ≤ d ∧ d < 1000000000) : Ok (fiducialref01_shifted n a d) fun r => Can r ∧ vl r = d + 1000000000 * vl a := by
 unfold fiducialref01_shifted
 refine Ok.gd (by simp; omega) (Ok.gd (by simp; omega) ?_)
 refine Ok.bd (madeF hn (dig_app.2 ⟨dig_one.2 hd, ha⟩) (by simp; omega)) fun z hz => ok_some.2 ⟨hz.1, ?_⟩
 rw [hz.2]; rfl
theorem rsub_ok {n : Nat} (hn : 1000 ≤ n) {v r0 : List Int} {g0 : Int} (hv : Can v) (hr : Can r0) (lv : v.length ≤ 400) (lr : r0.length ≤ 400) (hv0 : 0 < vl v) (hlt : vl r0 < 10 * vl v) (hg : 0 ≤ g0 ∧ g0 ≤ 1000000000000000000) :
  Ok (loopO (α := List Int × Int) (β := List Int × Int) n (fun again x => match x with
   | (rest, guess) => (
         bdO (fiducialref01_size n rest v) fun v85 => (
         cdO (decide (v85 ≥ 0)) (
          bdO (fiducialref01_minus n rest v) fun v88 => (
          again (v88, wrapF .u64 (guess + 1))
          )
         ) (
          some ((rest, guess))
         )
         )
    )) (r0, g0)) fun r => Can r.1 ∧ vl r.1 < vl v ∧ g0 ≤ r.2 ∧ vl r.1 + r.2 * vl v = vl r0 + g0 * vl v := by
 refine ok_loop (fun x : List Int × Int => Can x.1 ∧ x.1.length ≤ 400 ∧ g0 ≤ x.2 ∧ x.2 + vl x.1 / vl v = g0 + vl r0 / vl v ∧ vl x.1 + x.2 * vl v = vl r0 + g0 * vl v) (fun x => (vl x.1 / vl v).toNat) ?_ n _ ⟨hr, lr, Int.le_refl _, rfl, rfl⟩ ?_
 · rintro again ⟨r, g⟩ ⟨h1, h2, h3, h4, h5⟩ ih
   simp only at h1 h2 h3 h4 h5
   dsimp only
   refine Ok.bde (size_ok hn h1 hv h2 lv) ?_
   have hs := sgn_cases (vl r - vl v)
   have hd0 : vl r0 / vl v ≤ 10 := Int.le_of_lt ((Int.ediv_lt_iff_lt_mul hv0).2 hlt)
   have hr0 := vl_nonneg h1.dig
   have hq0 : 0 ≤ vl r / vl v := Int.ediv_nonneg hr0 (by omega)
   refine Ok.cd (fun h => ?_) (fun h => ?_)
   · have hle : vl v ≤ vl r := by have := of_decide_eq_true h; omega
     have ll : v.length ≤ r.length := by
      by_cases hl : v.length ≤ r.length
      · exact hl
      · have := can_lt_len h1.dig hv (by omega); omega
     refine Ok.bd (minus_ok hn h1.dig hv.dig h2 ll hle) ?_
     rintro z ⟨z1, z2⟩
     have lz : z.length ≤ 400 := by
      by_cases hl : z.length ≤ 400
      · exact hl
      · have := can_lt_len h1.dig z1 (by omega); omega
     have ed : vl z / vl v = vl r / vl v - 1 := by
      rw [z2, (by omega : vl r - vl v = vl r + (-1) * vl v), Int.add_mul_ediv_right _ _ (by omega)]; omega
     have hz0 : 0 ≤ vl z / vl v := Int.ediv_nonneg (vl_nonneg z1.dig) (by omega)
     rw [wrapU64_in (n := g + 1) (by omega) (by omega)]
     exact ih _ ⟨z1, lz, by simp only; omega, by simp only; omega, by simp only; rw [z2]; grind⟩ (by simp only; omega)
   · have hlt : vl r < vl v := by have := of_decide_eq_false h; omega
     exact ok_some.2 ⟨h1, hlt, h3, h5⟩
 · have hd0 : vl r0 / vl v < 10 := (Int.ediv_lt_iff_lt_mul hv0).2 hlt
   simp only; omega
end Go.L.R


set_option linter.all false
namespace Go.L.R
open Go Go.Eng Go.L
def PartsR (v A : List Int) (m : Nat) (r : List Int × List Int) : Prop := Can r.1 ∧ vl r.1 < vl v ∧ Dig r.2 ∧ r.2.length = m ∧ vl A = vl r.1 + vl r.2 * vl v
theorem rmain_ok {n : Nat} (hn : 1000 ≤ n) {b v A r0 : List Int} {m : Nat} (hv : Can v) (lb : b.length = v.length) (hv1 : 500000000 ≤ v.getD (v.length - 1) 0) (lv : 2 ≤ v.length) (lv2 : v.length ≤ 350) (hA : Dig A) (lA : A.length + 1 = v.length + m) (lA2 : A.length ≤ 350) (h0 : Can r0) (h1 : vl r0 < vl v) (h2 : vl r0 = vl (A.drop m)) {j0 : Int} (hj0 : j0 = (m : Int) - 1) :
  Ok (loopO (α := List Int × List Int × Int) (β := List Int × List Int) n (fun again60 (rest_22, q_23, i_24) => (
    cdO (decide (i_24 ≥ 0)) (
     gdO (inR i_24 A.length) (
     bdO (fiducialref01_shifted n rest_22 (gt A i_24)) fun v63 => (
     bdO (fiducialref01_group n v63 (b.length : Int)) fun v65 => (
     bdO (fiducialref01_group n v63 ((b.length - 1 : Nat) : Int)) fun v67 => (
     gdO (inR ((b.length - 1 : Nat) : Int) v.length) (
     gdO (!decide (wrapF .u64 ((wrapF .u64 (gt v ((b.length - 1 : Nat) : Int))) + 1) = 0)) (
     bdO (fiducialref01_scaled n v (wrapF .u64 ((wrapF .u64 ((wrapF .u64 (v65 * 1000000000)) + v67)).tdiv (wrapF .u64 ((wrapF .u64 (gt v ((b.length - 1 : Nat) : Int))) + 1))))) fun v71 => (
     bdO (fiducialref01_minus n v63 v71) fun v73 => (
     bdO (loopO (α := List Int × Int) (β := List Int × Int) n (fun again84 (rest_75, guess_76) => (
      bdO (fiducialref01_size n rest_75 v) fun v85 => (
      cdO (decide (v85 ≥ 0)) (
       bdO (fiducialref01_minus n rest_75 v) fun v88 => (
       again84 (v88, wrapF .u64 (guess_76 + 1))
       )
      ) (
       some ((rest_75, guess_76))
      )
      )
     )) (v73, wrapF .u64 ((wrapF .u64 ((wrapF .u64 (v65 * 1000000000)) + v67)).tdiv (wrapF .u64 ((wrapF .u64 (gt v ((b.length - 1 : Nat) : Int))) + 1))))) fun o90 => (
      match o90 with
      | (rest_82, guess_83) => (
       gdO (inR i_24 q_23.length) (
       again60 (rest_82, q_23.set i_24.toNat (wrapF .u32 guess_83), wrapF .i64 (i_24 - 1))
       )
      ))
     )
     )
     )
     )
     )
     )
     )
     )
    ) (
     some ((rest_22, q_23))
    )
   )) (r0, List.replicate m (0 : Int), j0)) (PartsR v A m) := by
 subst hj0
 rw [lb]
 have hVp : 0 < vl v := can_pos hv (by rintro rfl; simp at lv)
 have hvlt := vl_lt hv.dig
 refine ok_loop (fun x : List Int × List Int × Int => ∃ k : Nat, x.2.2 = (k : Int) - 1 ∧ k ≤ m ∧ Can x.1 ∧ vl x.1 < vl v ∧ x.2.1.length = m ∧ Dig x.2.1 ∧ (∀ i, i < k → x.2.1.getD i 0 = 0) ∧ vl A = vk A k + pB k * vl x.1 + vl x.2.1 * vl v) (fun x => (x.2.2 + 1).toNat) ?_ n _
  ⟨m, rfl, Nat.le_refl _, h0, h1, by simp, dig_rep _, fun i _ => at_rep, by simp only; rw [vl_rep, h2]; have := vl_vk_drop A m; omega⟩ (by simp only; omega)
 rintro again ⟨r, q, x⟩ ⟨k, hx, k1, k2, k3, k4, k5, k6, k7⟩ ih
 simp only at hx k2 k3 k4 k5 k6 k7
 subst hx
 dsimp only
 refine Ok.cd (fun h => ?_) (fun h => ?_)
 · have hk := of_decide_eq_true h
   obtain ⟨j, rfl⟩ : ∃ j, k = j + 1 := ⟨k - 1, by omega⟩
   have ej : (((j + 1 : Nat) : Int) - 1) = (j : Int) := by omega
   rw [ej]
   refine Ok.gd (by rw [inR_nat]; simp; omega) ?_
   have dA := dig_at hA j
   have lr : r.length ≤ 350 := by
    by_cases hl : r.length ≤ v.length
    · omega
    · have := can_lt_len hv.dig k2 (by omega); omega
   rw [gt_int]
   refine Ok.bd (shifted_ok hn k2.dig (by omega) dA) ?_
   rintro z ⟨z1, z2⟩
   have hW : vl z < 1000000000 * vl v := by omega
   have lz : z.length ≤ v.length + 1 := can_len z1 (by rw [pB_succ]; omega)
   rw [group_ok z1.dig, group_ok z1.dig]
   refine Ok.bde rfl (Ok.bde rfl ?_)
   refine Ok.gd (by rw [inR_nat]; simp; omega) ?_
   rw [gt_int]
   have d1 := dig_at hv.dig (v.length - 1)
   have c1 := dig_at z1.dig (v.length - 1)
   have c2 := dig_at z1.dig v.length
   have ez := vl_vk_drop z (v.length - 1)
   have ez1 := vl_drop0 z (v.length - 1)
   rw [(by omega : v.length - 1 + 1 = v.length)] at ez1
   have ez2 := vl_drop0 z v.length
   rw [List.drop_of_length_le (by omega : z.length ≤ v.length + 1)] at ez2
   have ev := vl_vk_drop v (v.length - 1)
   have ev1 := vl_drop0 v (v.length - 1)
   rw [List.drop_of_length_le (by omega : v.length ≤ v.length - 1 + 1)] at ev1
   have e00 : vl ([] : List Int) = 0 := rfl
   have fz0 := vk_nonneg z1.dig (v.length - 1)
   have fz1 := vk_lt z1.dig (v.length - 1)
   have fv0 := vk_nonneg hv.dig (v.length - 1)
   have fv1 := vk_lt hv.dig (v.length - 1)
   have hP := pB_pos (v.length - 1)
   have ez3 : vl (z.drop (v.length - 1)) = z.getD (v.length - 1) 0 + 1000000000 * z.getD v.length 0 := by omega
   have ev2 : vl (v.drop (v.length - 1)) = v.getD (v.length - 1) 0 := by omega
   rw [ez3] at ez
   rw [ev2] at ev
   obtain ⟨P, hPe⟩ : ∃ P, pB (v.length - 1) = P := ⟨_, rfl⟩
   obtain ⟨t, ht⟩ : ∃ t, v.getD (v.length - 1) 0 = t := ⟨_, rfl⟩
   rw [ht] at hv1 d1 ev ⊢
   rw [hPe] at ez ev fz1 fv1 hP
   rw [wrapU64_in (n := t) (by omega) (by omega), wrapU64_in (n := t + 1) (by omega) (by omega), wrapU64_in (n := z.getD v.length 0 * 1000000000) (by omega) (by omega), wrapU64_in (n := z.getD v.length 0 * 1000000000 + z.getD (v.length - 1) 0) (by omega) (by omega)]
   refine Ok.gd (by rw [decide_eq_false (by omega)]; rfl) ?_
   obtain ⟨T, hT⟩ : ∃ T, z.getD v.length 0 * 1000000000 + z.getD (v.length - 1) 0 = T := ⟨_, rfl⟩
   rw [hT, (td_v (by omega)).1]
   have eT : z.getD (v.length - 1) 0 + 1000000000 * z.getD v.length 0 = T := by omega
   rw [eT] at ez
   obtain ⟨g, hg⟩ : ∃ g, T / (t + 1) = g := ⟨_, rfl⟩
   have hm := Int.emod_add_mul_ediv T (t + 1)
   have hm1 := Int.emod_nonneg T (by omega : t + 1 ≠ 0)
   have hm2 := Int.emod_lt_of_pos T (by omega : 0 < t + 1)
   rw [hg] at hm ⊢
   have hg0 : 0 ≤ g := by rw [← hg]; exact Int.ediv_nonneg (by omega) (by omega)
   have ecomm : (t + 1) * g = g * (t + 1) := Int.mul_comm _ _
   have hgV : g * vl v ≤ vl z := by
    have a1 : g * vl v ≤ g * (P * (t + 1)) := Int.mul_le_mul_of_nonneg_left (by rw [Int.mul_add]; omega) hg0
    have a2 : g * (P * (t + 1)) = P * (g * (t + 1)) := by grind
    have a3 : P * (g * (t + 1)) ≤ P * T := Int.mul_le_mul_of_nonneg_left (by omega) (by omega)
    omega
   have hgB : g < 1000000000 := by
    by_cases hh : g < 1000000000
    · exact hh
    · have : 1000000000 * vl v ≤ g * vl v := Int.mul_le_mul_of_nonneg_right (by omega) (by omega)
      omega
   have hlow : vl z - g * vl v < 10 * vl v := by
    have a1 : P * (T + 1) ≤ P * ((g + 1) * (t + 1)) := Int.mul_le_mul_of_nonneg_left (by
     have : (g + 1) * (t + 1) = g * (t + 1) + (t + 1) := by grind
     omega) (by omega)
    have a2 : P * ((g + 1) * (t + 1)) = (g + 1) * (P * t) + (g + 1) * P := by grind
    have a3 : (g + 1) * (P * t) ≤ (g + 1) * vl v := Int.mul_le_mul_of_nonneg_left (by omega) (by omega)
    have a4 : (g + 1) * P ≤ 1000000000 * P := Int.mul_le_mul_of_nonneg_right (by omega) (by omega)
    have a5 : P * 500000000 ≤ P * t := Int.mul_le_mul_of_nonneg_left (by omega) (by omega)
    have a6 : (g + 1) * vl v = g * vl v + vl v := by grind
    rw [Int.mul_add P T 1] at a1
    omega
   rw [wrapU64_in (n := g) (by omega) (by omega)]
   refine Ok.bd (scaled_ok hn hv.dig (by omega) hg0 hgB) ?_
   rintro y ⟨y1, y2⟩
   rw [Int.mul_comm] at y2
   have ly : y.length ≤ z.length := by
    by_cases hl : y.length ≤ z.length
    · exact hl
    · have := can_lt_len z1.dig y1 (by omega); omega
   refine Ok.bd (minus_ok hn z1.dig y1.dig (by omega) ly (by omega)) ?_
   rintro s ⟨s1, s2⟩
   have ls : s.length ≤ 400 := by
    by_cases hl : s.length ≤ 400
    · exact hl
    · have h9 := can_lt_len z1.dig s1 (by omega)
      have := Int.mul_nonneg hg0 (by omega : 0 ≤ vl v)
      omega
   refine Ok.bd (rsub_ok hn hv s1 (by omega) ls hVp (by omega) ⟨hg0, by omega⟩) ?_
   rintro ⟨r1, g1⟩ ⟨b1, b2, b3, b4⟩
   simp only at b1 b2 b3 b4
   dsimp only
   have b5 : vl r1 + g1 * vl v = vl z := by omega
   have hr1 := vl_nonneg b1.dig
   have hg1 : g1 < 1000000000 := by
    by_cases hh : g1 < 1000000000
    · exact hh
    · have : 1000000000 * vl v ≤ g1 * vl v := Int.mul_le_mul_of_nonneg_right (by omega) (by omega)
      omega
   refine Ok.gd (by rw [inR_nat]; simp; omega) ?_
   rw [wrapU32_in (n := g1) (by omega) (by omega), Int.toNat_natCast, wrap64_in (n := (j : Int) - 1) (by omega) (by omega)]
   refine ih _ ⟨j, rfl, by omega, b1, b2, by simpa using k4, dig_set k5 ⟨by omega, hg1⟩, ?_, ?_⟩ (by simp)
   · intro i hi
     simp only
     rw [at_set_ne (by omega)]
     exact k6 i (by omega)
   · simp only
     rw [vl_set (by omega), k6 j (by omega)]
     rw [vk_succ, pB_succ] at k7
     rw [k7]
     have : A.getD j 0 = vl r1 + g1 * vl v - 1000000000 * vl r := by omega
     rw [this]
     grind
 · have hk := of_decide_eq_false h
   obtain rfl : k = 0 := by omega
   rw [vk_zero] at k7
   have e1 : pB 0 = 1 := rfl
   rw [e1] at k7
   exact ok_some.2 ⟨k2, k3, k5, k4, by simp only; omega⟩
end Go.L.R

