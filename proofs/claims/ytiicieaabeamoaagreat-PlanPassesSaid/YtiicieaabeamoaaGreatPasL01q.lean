import Derived.Test.YtiicieaabeamoaaGreatPasL01p
set_option linter.all false
namespace Go.L
open Go Go.Eng
theorem plus_ok {n : Nat} {a b : List Int} (hn : 1000 ≤ n) (ha : Dig a) (hb : Dig b) (la : a.length ≤ 400) (lb : b.length ≤ 400) : Ok (integer_plus n a b) fun r => Can r ∧ vl r = vl a + vl b := by
 unfold integer_plus
 obtain ⟨M, hM, h1, h2, h3⟩ : ∃ M : Nat, mx (a.length : Int) (b.length : Int) = (M : Int) ∧ a.length ≤ M ∧ b.length ≤ M ∧ M ≤ 400 := by
  unfold mx; split
  · exact ⟨_, rfl, by omega, by omega, by omega⟩
  · exact ⟨_, rfl, by omega, by omega, by omega⟩
 rw [hM, w64_nat (by omega)]
 refine Ok.gd (by simp; try omega) (Ok.gd (by simp; try omega) (Ok.gd (by simp; try omega) ?_))
 refine Ok.bd (R := fun r => Dig r ∧ r.length ≤ 900 ∧ vl r = vl a + vl b) ?_ (fun r h => Ok.bd (trim_ok hn h.1 h.2.1) fun z hz => ok_some.2 ⟨hz.1, hz.2.trans h.2.2⟩)
 refine ok_loop (fun x : List Int × Int × Int => ∃ k : Nat, x.2.2 = (k : Int) ∧ k ≤ M + 1 ∧ x.1.length = M + 1 ∧ Dig x.1 ∧ (x.2.1 = 0 ∨ x.2.1 = 1) ∧ vk x.1 k + pB k * x.2.1 = vk a k + vk b k) (fun x => M + 1 - x.2.2.toNat) ?_ n _
  ⟨0, rfl, by omega, by simp, dig_rep _, .inl rfl, by simp [vk_zero]⟩ (by simp; omega)
 rintro again ⟨out, c, x⟩ ⟨k, hx, h4, h5, h6, h7, h8⟩ ih
 simp only at hx h5 h6 h7 h8
 subst hx
 dsimp only
 rw [List.length_replicate, Int.toNat_natCast, at_ok, at_ok]
 have da := dig_at ha k; have db := dig_at hb k
 refine Ok.cd (fun h => ?_) (fun h => ?_)
 · have hk : k < M + 1 := by simp at h; omega
   show Ok (cdO _ _ _) _
   generalize hs : wrapF .u32 (wrapF .u32 (a.getD k 0 + b.getD k 0) + c) = s
   have hs' : s = a.getD k 0 + b.getD k 0 + c := by rw [← hs, wrapU32_in (n := a.getD k 0 + b.getD k 0) (by omega) (by omega), wrapU32_in (by omega) (by omega)]
   have step : ∀ d c', (0 ≤ d ∧ d < 1000000000) → (c' = 0 ∨ c' = 1) → s = d + 1000000000 * c' → Ok (again (out.set k d, c', ((k + 1 : Nat) : Int))) fun r => Dig r ∧ r.length ≤ 900 ∧ vl r = vl a + vl b := by
    intro d c' hd hc hsd
    refine ih _ ⟨k + 1, rfl, by omega, by simpa using h5, dig_set h6 hd, hc, ?_⟩ (by simp; omega)
    simp only
    rw [vk_set1 (by omega), vk_succ, vk_succ, pB_succ]
    have : a.getD k 0 + b.getD k 0 + c = d + 1000000000 * c' := by omega
    grind
   rw [w64_nat (by omega), inR_nat, Int.toNat_natCast]
   refine Ok.cd (fun h => ?_) (fun h => ?_)
   · have hge : s ≥ 1000000000 := by simpa using h
     rw [wrapU32_in (by omega) (by omega)]
     exact Ok.gd (by simp; omega) (step _ 1 (by omega) (.inr rfl) (by omega))
   · have hge : s < 1000000000 := by simpa using h
     exact Ok.gd (by simp; omega) (step _ 0 (by omega) (.inl rfl) (by omega))
 · have hk : k = M + 1 := by simp at h; omega
   subst hk
   refine ok_some.2 ⟨h6, by omega, ?_⟩
   rw [vk_len (by omega), vk_len (by omega), vk_len (by omega)] at h8
   have := vl_lt h6
   have hA := vl_lt ha; have hB := vl_lt hb
   have p1 := pB_mono (by omega : a.length ≤ M); have p2 := pB_mono (by omega : b.length ≤ M)
   have p3 := pB_succ M
   rcases h7 with h7 | h7
   · rw [h7] at h8; omega
   · rw [h7] at h8; have := vl_nonneg h6; have := pB_pos M; omega
theorem minus_ok {n : Nat} {a b : List Int} (hn : 1000 ≤ n) (ha : Dig a) (hb : Dig b) (la : a.length ≤ 400) (lb : b.length ≤ a.length) (hle : vl b ≤ vl a) : Ok (integer_minus n a b) fun r => Can r ∧ vl r = vl a - vl b := by
 unfold integer_minus
 refine Ok.gd (by simp) (Ok.gd (by simp; omega) (Ok.gd (by simp; omega) ?_))
 refine Ok.bd (R := fun r => Dig r ∧ r.length ≤ 900 ∧ vl r = vl a - vl b) ?_ (fun r h => Ok.bd (trim_ok hn h.1 h.2.1) fun z hz => ok_some.2 ⟨hz.1, hz.2.trans h.2.2⟩)
 refine ok_loop (fun x : List Int × Int × Int => ∃ k : Nat, x.2.2 = (k : Int) ∧ k ≤ a.length ∧ x.1.length = a.length ∧ Dig x.1 ∧ (x.2.1 = 0 ∨ x.2.1 = 1) ∧ vk x.1 k - pB k * x.2.1 = vk a k - vk b k) (fun x => a.length - x.2.2.toNat) ?_ n _
  ⟨0, rfl, by omega, by simp, dig_rep _, .inl rfl, by simp [vk_zero]⟩ (by simp; omega)
 rintro again ⟨out, c, x⟩ ⟨k, hx, h4, h5, h6, h7, h8⟩ ih
 simp only at hx h5 h6 h7 h8
 subst hx
 dsimp only
 rw [List.length_replicate, Int.toNat_natCast, at_ok]
 have da := dig_at ha k; have db := dig_at hb k
 refine Ok.cd (fun h => ?_) (fun h => ?_)
 · have hk : k < a.length := by simp at h; omega
   show Ok (gdO _ _) _
   refine Ok.gd (by rw [inR_nat]; simpa using hk) ?_
   rw [gt_int]
   generalize hs : wrapF .u32 (b.getD k 0 + c) = s
   have hs' : s = b.getD k 0 + c := by rw [← hs, wrapU32_in (by omega) (by omega)]
   have step : ∀ d c', (0 ≤ d ∧ d < 1000000000) → (c' = 0 ∨ c' = 1) → a.getD k 0 - s = d - 1000000000 * c' → Ok (again (out.set k d, c', ((k + 1 : Nat) : Int))) fun r => Dig r ∧ r.length ≤ 900 ∧ vl r = vl a - vl b := by
    intro d c' hd hc hsd
    refine ih _ ⟨k + 1, rfl, by omega, by simpa using h5, dig_set h6 hd, hc, ?_⟩ (by simp; omega)
    simp only
    rw [vk_set1 (by omega), vk_succ, vk_succ, pB_succ]
    have : a.getD k 0 - b.getD k 0 - c = d - 1000000000 * c' := by omega
    grind
   rw [w64_nat (by omega), inR_nat, Int.toNat_natCast]
   refine Ok.cd (fun h => ?_) (fun h => ?_)
   · have hge : a.getD k 0 < s := by simpa using h
     rw [wrapU32_in (n := a.getD k 0 + 1000000000) (by omega) (by omega), wrapU32_in (by omega) (by omega)]
     exact Ok.gd (by simp; omega) (step _ 1 (by omega) (.inr rfl) (by omega))
   · have hge : s ≤ a.getD k 0 := by simpa using h
     rw [wrapU32_in (by omega) (by omega)]
     exact Ok.gd (by simp; omega) (step _ 0 (by omega) (.inl rfl) (by omega))
 · have hk : k = a.length := by simp at h; omega
   subst hk
   refine ok_some.2 ⟨h6, by omega, ?_⟩
   rw [vk_len (by omega), vk_len (by omega), vk_len (by omega)] at h8
   have := vl_lt h6
   rw [h5] at this
   rcases h7 with h7 | h7
   · rw [h7] at h8; omega
   · rw [h7] at h8; omega
theorem compare_ok {n : Nat} {a b : List Int} (ha : Can a) (hb : Can b) (la : a.length ≤ 400) (lb : b.length ≤ 400) : integer_compare n a b = some (sgn (vl a - vl b)) := by
 unfold integer_compare
 have e1 : decide (a.length ≤ 1099511627776) = true := by simp; omega
 have e2 : decide (b.length ≤ 1099511627776) = true := by simp; omega
 rw [e1, e2]
 show some _ = _
 by_cases h : a.length = b.length
 · rw [decide_eq_true h, cond_true, cmpE_vl ha.dig hb.dig h]
 · rw [decide_eq_false h, cond_false]
   unfold cmp3
   by_cases h' : a.length < b.length
   · have := can_lt_len ha.dig hb h'
     rw [if_pos (by omega), sgn_of_neg (by omega)]
   · have := can_lt_len hb.dig ha (by omega)
     rw [if_neg (by omega), if_pos (by omega), sgn_pos (by omega)]
end Go.L

