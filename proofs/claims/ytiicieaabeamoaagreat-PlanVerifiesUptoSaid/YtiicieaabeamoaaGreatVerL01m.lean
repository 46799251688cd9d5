import Derived.Test.YtiicieaabeamoaaGreatVerLD
import Derived.Test.YtiicieaabeamoaaGreatPl6ifocohfl
set_option linter.all false
namespace Go.L
open Go Go.Eng
theorem gt_int {l : List Int} {k : Nat} : gt l (k : Int) = l.getD k 0 := gt_nat
theorem w64_nat {k : Nat} (h : k ≤ 4000000000) : wrapF .i64 ((k : Int) + 1) = ((k + 1 : Nat) : Int) := by rw [wrap64_in (by omega) (by omega)]; omega
theorem w64_pred {k : Nat} (h : 0 < k) (h2 : k ≤ 4000000000) : wrapF .i64 ((k : Int) - 1) = ((k - 1 : Nat) : Int) := by rw [wrap64_in (by omega) (by omega)]; omega
theorem trim_ok {n : Nat} {g : List Int} (hn : 1000 ≤ n) (hd : Dig g) (hl : g.length ≤ 900) : Ok (integer_trim n g) fun r => Can r ∧ vl r = vl g := by
 unfold integer_trim
 refine Ok.bd (R := fun r => Can r ∧ vl r = vl g) ?_ (fun g' h => ok_some.2 h)
 refine ok_loop (fun l : List Int => Dig l ∧ vl l = vl g ∧ l.length ≤ g.length) (fun l => l.length) ?_ n g ⟨hd, rfl, Nat.le_refl _⟩ (by omega)
 rintro again l ⟨h1, h2, h3⟩ ih
 refine Ok.cd (fun h => ?_) (fun h => ?_)
 · have hpos : 0 < l.length := by simpa using h
   rw [w64_pred hpos (by omega)]
   refine Ok.gd (by rw [inR_nat]; simp; omega) ?_
   rw [gt_int]
   refine Ok.cd (fun h => ?_) (fun h => ?_)
   · refine Ok.gd (inS_iff.2 (by omega)) ?_
     have e : (l.drop (0 : Int).toNat).take (((l.length - 1 : Nat) : Int).toNat - (0 : Int).toNat) = l.take (l.length - 1) := by simp
     rw [e]
     have hz : l.getD (l.length - 1) 0 = 0 := by simpa using h
     refine ih _ ⟨dig_take h1 _, ?_, ?_⟩ ?_
     · rw [vl_cut (by omega) ?_, h2]
       intro j hj
       by_cases hjl : j = l.length - 1
       · rw [hjl]; exact hz
       · simp [List.getD, List.getElem?_eq_none (by omega : l.length ≤ j)]
     · rw [List.length_take]; omega
     · rw [List.length_take]; omega
   · refine ok_some.2 ⟨can_tail h1 (.inr ?_), h2⟩
     simpa using h
 · have : l = [] := by simpa using h
   subst this
   exact ok_some.2 ⟨trivial, h2⟩
theorem made_ok {n : Nat} {g : List Int} (hn : 1000 ≤ n) (neg : Bool) (hd : Dig g) (hl : g.length ≤ 900) : Ok (integer_made n neg g) fun z => isI z.Negative z.Groups (if neg then -vl g else vl g) := by
 unfold integer_made
 refine Ok.bd (trim_ok hn hd hl) ?_
 rintro r ⟨h1, h2⟩
 refine Ok.cd (fun h => ?_) (fun h => ?_)
 · have : r = [] := by simpa using h
   subst this
   refine ok_some.2 (show isI false [] _ from ⟨trivial, (fun h => absurd h (by decide)), ?_⟩)
   rw [← h2]; cases neg <;> rfl
 · refine ok_some.2 ⟨h1, fun _ => ?_, ?_⟩
   · rintro rfl; simp at h
   · rw [← h2]
theorem split_ok {n : Nat} {v : Int} (hn : 1000 ≤ n) (h0 : 0 ≤ v) (hv : v < 18446744073709551616) : Ok (integer_split n v) fun r => Can r ∧ vl r = v ∧ r.length ≤ 3 := by
 unfold integer_split
 refine Ok.bd (R := fun r => Can r ∧ vl r = v ∧ r.length ≤ 3) ?_ (fun g' h => ok_some.2 h)
 refine ok_loop (fun x : Int × List Int => Dig x.2 ∧ 0 ≤ x.1 ∧ vl x.2 + pB x.2.length * x.1 = v ∧ x.2.length ≤ 3 ∧ (x.1 = 0 → Can x.2)) (fun x => 4 - x.2.length) ?_ n (v, []) ⟨dig_nil, h0, by show 0 + 1 * v = v; omega, by simp, fun _ => trivial⟩ (by simp; omega)
 rintro again ⟨m, g⟩ ⟨h1, h2, h3, h4, h5⟩ ih
 simp only at h1 h2 h3 h4 h5
 have hg := vl_nonneg h1
 have hp := pB_pos g.length
 have hmv : m ≤ v := by
  have : m ≤ pB g.length * m := by
   have := Int.mul_le_mul_of_nonneg_right hp h2; omega
  omega
 refine Ok.cd (fun h => ?_) (fun h => ?_)
 · have hm : 0 < m := by simpa using h
   have hlen : g.length ≤ 2 := by
    by_cases h : g.length ≤ 2
    · exact h
    · have h6 : g.length = 3 := by omega
      rw [h6] at h3
      have : pB 3 = 1000000000000000000000000000 := rfl
      rw [this] at h3
      omega
   refine Ok.gd (by simp; omega) (Ok.gd (by simp; omega) ?_)
   have e1 : m.tdiv 1000000000 = m / 1000000000 := Int.tdiv_eq_ediv_of_nonneg h2
   have e2 : m.tmod 1000000000 = m % 1000000000 := Int.tmod_eq_emod_of_nonneg h2
   rw [e1, e2, wrapU64_in (by omega) (by omega), wrapU32_in (by omega) (by omega)]
   have hdig : 0 ≤ m % 1000000000 ∧ m % 1000000000 < 1000000000 := by omega
   refine ih _ ⟨dig_app.2 ⟨h1, dig_one.2 hdig⟩, by simp only; omega, ?_, by simp; omega, fun hz => can_app h1 hdig (by simp only at hz; omega)⟩ (by simp; omega)
   simp only
   rw [vl_app, vl_one, List.length_append, List.length_singleton, pB_succ]
   have : m = m % 1000000000 + 1000000000 * (m / 1000000000) := by omega
   rw [← h3]
   grind
 · have hm : m = 0 := by simp at h; omega
   subst hm
   exact ok_some.2 ⟨h5 rfl, by omega, h4⟩
theorem Of_ok {n : Nat} {v : Int} (hn : 1000 ≤ n) (h0 : -9223372036854775808 ≤ v) (hv : v ≤ 9223372036854775807) : Ok (integer_Of n v) fun z => isI z.Negative z.Groups v := by
 unfold integer_Of
 refine Ok.cd (fun h => ?_) (fun h => ?_)
 · have hneg : v < 0 := by simpa using h
   have e : wrapF .u64 (0 - wrapF .u64 v) = -v := by
    rw [wrapF_eq, wrapF_eq, IntKind.wrap_u64, IntKind.wrap_u64]; omega
   rw [e]
   refine Ok.bd (split_ok hn (by omega) (by omega)) ?_
   rintro r ⟨h1, h2, h3⟩
   refine Ok.bd (made_ok hn true h1.dig (by omega)) ?_
   intro z hz
   rw [h2] at hz
   refine ok_some.2 ?_
   simpa using hz
 · have hneg : 0 ≤ v := by simpa using h
   rw [wrapU64_in hneg (by omega)]
   refine Ok.bd (split_ok hn (by omega) (by omega)) ?_
   rintro r ⟨h1, h2, h3⟩
   refine Ok.bd (made_ok hn false h1.dig (by omega)) ?_
   intro z hz
   rw [h2] at hz
   exact ok_some.2 hz
theorem Valid_ok {n : Nat} {x : api_Int} {v : Int} (hn : 1000 ≤ n) (hl : x.Groups.length ≤ 900) (h : isI x.Negative x.Groups v) : integer_Valid n x = some true := by
 obtain ⟨h1, h2, h3⟩ := h
 unfold integer_Valid
 by_cases hx : x.Groups = []
 · have : x.Negative = false := by cases hh : x.Negative with | false => rfl | true => exact absurd hx (h2 hh)
   rw [hx, this]; rfl
 · have hpos : 0 < x.Groups.length := List.length_pos_iff.2 hx
   have e : (((x.Groups.length : Int) : Int) == 0) = false := by simp [hx]
   rw [e]
   show gdO _ _ = _
   rw [w64_pred hpos (by omega), inR_nat, gt_int]
   have e1 : decide (x.Groups.length - 1 < x.Groups.length) = true := by simp; omega
   have e2 : (x.Groups.getD (x.Groups.length - 1) 0 != 0) = true := by simpa using can_last h1 hx
   rw [e1, e2]
   show bdO (slices_ContainsFunc_uint32_uint32_of_integer_Valid_1 n x.Groups) _ = _
   unfold slices_ContainsFunc_uint32_uint32_of_integer_Valid_1
   have : slices_IndexFunc_uint32_uint32_of_integer_Valid_1 n x.Groups = some (idxB (fun g => decide (g ≥ 1000000000)) x.Groups) := loop_indexF (fun x => rfl) (by omega) (by omega)
   rw [this]
   show some (!decide (idxB _ x.Groups ≥ 0)) = _
   rw [idxB_ge]
   have : x.Groups.any (fun g => decide (g ≥ 1000000000)) = false := by
    rw [List.any_eq_false]
    intro d hd
    have := h1.dig d hd
    simp; omega
   rw [this]; rfl
theorem groups_ok {n : Nat} {x : api_Int} {v : Int} (hn : 1000 ≤ n) (hl : x.Groups.length ≤ 900) (h : isI x.Negative x.Groups v) : integer_groups n x = some x.Groups := by
 unfold integer_groups; rw [Valid_ok hn hl h]; rfl
theorem Sign_ok {n : Nat} {x : api_Int} {v : Int} (hn : 1000 ≤ n) (hl : x.Groups.length ≤ 900) (h : isI x.Negative x.Groups v) : integer_Sign n x = some (sgn v) := by
 unfold integer_Sign; rw [groups_ok hn hl h, isI_sgn h]
 show cdO _ _ _ = _
 by_cases hx : x.Groups = []
 · rw [hx]; rfl
 · have e : (((x.Groups.length : Int) : Int) == 0) = false := by simp [hx]
   rw [e, if_neg hx]
   cases x.Negative <;> rfl
theorem at_ok {n : Nat} {l : List Int} {k : Nat} : integer_at n l (k : Int) = some (l.getD k 0) := by
 unfold integer_at
 by_cases h : k < l.length
 · have e : decide ((k : Int) < (l.length : Int)) = true := by simp; omega
   rw [e, inR_nat, gt_int]
   have e : decide (k < l.length) = true := by simpa using h
   rw [e]; rfl
 · have e : decide ((k : Int) < (l.length : Int)) = false := by simp; omega
   rw [e]
   have : l.getD k 0 = 0 := by simp [List.getD, List.getElem?_eq_none (by omega : l.length ≤ k)]
   rw [this]; rfl
end Go.L


set_option linter.all false
namespace Go.L
open Go Go.Eng
theorem plus_ok {n : Nat} {a b : List Int} (hn : 1000 ≤ n) (ha : Dig a) (hb : Dig b) (la : a.length ≤ 400) (lb : b.length ≤ 400) : Ok (integer_plus n a b) fun r => Can r ∧ vl r = vl a + vl b := by
 unfold integer_plus
 obtain ⟨M, hM, h1, h2, h3⟩ : ∃ M : Nat, mx (a.length : Int) (b.length : Int) = (M : Int) ∧ a.length ≤ M ∧ b.length ≤ M ∧ M ≤ 400 := by
  unfold mx; split
  · exact ⟨_, rfl, by omega, by omega, by omega⟩
  · exact ⟨_, rfl, by omega, by omega, by omega⟩
 rw [hM, w64_nat (by omega)]
 refine Ok.gd (by simp; try omega) (Ok.gd (by simp; try omega) (Ok.gd (by simp; try omega) ?_))
 refine Ok.bd (R := fun r => Dig r ∧ r.length ≤ 900 ∧ vl r = vl a + vl b) ?_ (fun r h => Ok.bd (trim_ok hn h.1 h.2.1) fun z hz => ok_some.2 ⟨hz.1, hz.2.trans h.2.2⟩)
 refine ok_loop (fun x : List Int × Int × Int => ∃ k : Nat, x.2.2 = (k : Int) ∧ k ≤ M + 1 ∧ x.1.length = M + 1 ∧ Dig x.1 ∧ (x.2.1 = 0 ∨ x.2.1 = 1) ∧ vk x.1 k + pB k * x.2.1 = vk a k + vk b k) (fun x => M + 1 - x.2.2.toNat) ?_ n _
  ⟨0, rfl, by omega, by simp, dig_rep _, .inl rfl, by simp [vk_zero]⟩ (by simp; omega)
 rintro again ⟨out, c, x⟩ ⟨k, hx, h4, h5, h6, h7, h8⟩ ih
 simp only at hx h5 h6 h7 h8
 subst hx
 dsimp only
 rw [List.length_replicate, Int.toNat_natCast, at_ok, at_ok]
 have da := dig_at ha k; have db := dig_at hb k
 refine Ok.cd (fun h => ?_) (fun h => ?_)
 · have hk : k < M + 1 := by simp at h; omega
   show Ok (cdO _ _ _) _
   generalize hs : wrapF .u32 (wrapF .u32 (a.getD k 0 + b.getD k 0) + c) = s
   have hs' : s = a.getD k 0 + b.getD k 0 + c := by rw [← hs, wrapU32_in (n := a.getD k 0 + b.getD k 0) (by omega) (by omega), wrapU32_in (by omega) (by omega)]
   have step : ∀ d c', (0 ≤ d ∧ d < 1000000000) → (c' = 0 ∨ c' = 1) → s = d + 1000000000 * c' → Ok (again (out.set k d, c', ((k + 1 : Nat) : Int))) fun r => Dig r ∧ r.length ≤ 900 ∧ vl r = vl a + vl b := by
    intro d c' hd hc hsd
    refine ih _ ⟨k + 1, rfl, by omega, by simpa using h5, dig_set h6 hd, hc, ?_⟩ (by simp; omega)
    simp only
    rw [vk_set1 (by omega), vk_succ, vk_succ, pB_succ]
    have : a.getD k 0 + b.getD k 0 + c = d + 1000000000 * c' := by omega
    grind
   rw [w64_nat (by omega), inR_nat, Int.toNat_natCast]
   refine Ok.cd (fun h => ?_) (fun h => ?_)
   · have hge : s ≥ 1000000000 := by simpa using h
     rw [wrapU32_in (by omega) (by omega)]
     exact Ok.gd (by simp; omega) (step _ 1 (by omega) (.inr rfl) (by omega))
   · have hge : s < 1000000000 := by simpa using h
     exact Ok.gd (by simp; omega) (step _ 0 (by omega) (.inl rfl) (by omega))
 · have hk : k = M + 1 := by simp at h; omega
   subst hk
   refine ok_some.2 ⟨h6, by omega, ?_⟩
   rw [vk_len (by omega), vk_len (by omega), vk_len (by omega)] at h8
   have := vl_lt h6
   have hA := vl_lt ha; have hB := vl_lt hb
   have p1 := pB_mono (by omega : a.length ≤ M); have p2 := pB_mono (by omega : b.length ≤ M)
   have p3 := pB_succ M
   rcases h7 with h7 | h7
   · rw [h7] at h8; omega
   · rw [h7] at h8; have := vl_nonneg h6; have := pB_pos M; omega
theorem minus_ok {n : Nat} {a b : List Int} (hn : 1000 ≤ n) (ha : Dig a) (hb : Dig b) (la : a.length ≤ 400) (lb : b.length ≤ a.length) (hle : vl b ≤ vl a) : Ok (integer_minus n a b) fun r => Can r ∧ vl r = vl a - vl b := by
 unfold integer_minus
 refine Ok.gd (by simp) (Ok.gd (by simp; omega) (Ok.gd (by simp; omega) ?_))
 refine Ok.bd (R := fun r => Dig r ∧ r.length ≤ 900 ∧ vl r = vl a - vl b) ?_ (fun r h => Ok.bd (trim_ok hn h.1 h.2.1) fun z hz => ok_some.2 ⟨hz.1, hz.2.trans h.2.2⟩)
 refine ok_loop (fun x : List Int × Int × Int => ∃ k : Nat, x.2.2 = (k : Int) ∧ k ≤ a.length ∧ x.1.length = a.length ∧ Dig x.1 ∧ (x.2.1 = 0 ∨ x.2.1 = 1) ∧ vk x.1 k - pB k * x.2.1 = vk a k - vk b k) (fun x => a.length - x.2.2.toNat) ?_ n _
  ⟨0, rfl, by omega, by simp, dig_rep _, .inl rfl, by simp [vk_zero]⟩ (by simp; omega)
 rintro again ⟨out, c, x⟩ ⟨k, hx, h4, h5, h6, h7, h8⟩ ih
 simp only at hx h5 h6 h7 h8
 subst hx
 dsimp only
 rw [List.length_replicate, Int.toNat_natCast, at_ok]
 have da := dig_at ha k; have db := dig_at hb k
 refine Ok.cd (fun h => ?_) (fun h => ?_)
 · have hk : k < a.length := by simp at h; omega
   show Ok (gdO _ _) _
   refine Ok.gd (by rw [inR_nat]; simpa using hk) ?_
   rw [gt_int]
   generalize hs : wrapF .u32 (b.getD k 0 + c) = s
   have hs' : s = b.getD k 0 + c := by rw [← hs, wrapU32_in (by omega) (by omega)]
   have step : ∀ d c', (0 ≤ d ∧ d < 1000000000) → (c' = 0 ∨ c' = 1) → a.getD k 0 - s = d - 1000000000 * c' → Ok (again (out.set k d, c', ((k + 1 : Nat) : Int))) fun r => Dig r ∧ r.length ≤ 900 ∧ vl r = vl a - vl b := by
    intro d c' hd hc hsd
    refine ih _ ⟨k + 1, rfl, by omega, by simpa using h5, dig_set h6 hd, hc, ?_⟩ (by simp; omega)
    simp only
    rw [vk_set1 (by omega), vk_succ, vk_succ, pB_succ]
    have : a.getD k 0 - b.getD k 0 - c = d - 1000000000 * c' := by omega
    grind
   rw [w64_nat (by omega), inR_nat, Int.toNat_natCast]
   refine Ok.cd (fun h => ?_) (fun h => ?_)
   · have hge : a.getD k 0 < s := by simpa using h
     rw [wrapU32_in (n := a.getD k 0 + 1000000000) (by omega) (by omega), wrapU32_in (by omega) (by omega)]
     exact Ok.gd (by simp; omega) (step _ 1 (by omega) (.inr rfl) (by omega))
   · have hge : s ≤ a.getD k 0 := by simpa using h
     rw [wrapU32_in (by omega) (by omega)]
     exact Ok.gd (by simp; omega) (step _ 0 (by omega) (.inl rfl) (by omega))
 · have hk : k = a.length := by simp at h; omega
   subst hk
   refine ok_some.2 ⟨h6, by omega, ?_⟩
   rw [vk_len (by omega), vk_len (by omega), vk_len (by omega)] at h8
   have := vl_lt h6
   rw [h5] at this
   rcases h7 with h7 | h7
   · rw [h7] at h8; omega
   · rw [h7] at h8; omega
theorem compare_ok {n : Nat} {a b : List Int} (ha : Can a) (hb : Can b) (la : a.length ≤ 400) (lb : b.length ≤ 400) : integer_compare n a b = some (sgn (vl a - vl b)) := by
 unfold integer_compare
 have e1 : decide (a.length ≤ 1099511627776) = true := by simp; omega
 have e2 : decide (b.length ≤ 1099511627776) = true := by simp; omega
 rw [e1, e2]
 show some _ = _
 by_cases h : a.length = b.length
 · rw [decide_eq_true h, cond_true, cmpE_vl ha.dig hb.dig h]
 · rw [decide_eq_false h, cond_false]
   unfold cmp3
   by_cases h' : a.length < b.length
   · have := can_lt_len ha.dig hb h'
     rw [if_pos (by omega), sgn_of_neg (by omega)]
   · have := can_lt_len hb.dig ha (by omega)
     rw [if_neg (by omega), if_pos (by omega), sgn_pos (by omega)]
end Go.L


set_option linter.all false
namespace Go.L
open Go Go.Eng
theorem w64_add {j k : Nat} (h : j ≤ 4000000000) (h2 : k ≤ 4000000000) : wrapF .i64 ((j : Int) + (k : Int)) = ((j + k : Nat) : Int) := by rw [wrap64_in (by omega) (by omega)]; omega
theorem step_mul {p q o c : Int} (hp : 0 ≤ p ∧ p < 1000000000) (hq : 0 ≤ q ∧ q < 1000000000) (ho : 0 ≤ o ∧ o < 1000000000) (hc : 0 ≤ c ∧ c < 1000000000) :
  wrapF .u64 ((wrapF .u64 ((wrapF .u64 o) + (wrapF .u64 ((wrapF .u64 p) * (wrapF .u64 q))))) + c) = o + p * q + c ∧ 0 ≤ o + p * q + c ∧ o + p * q + c < 1000000000000000000 := by
 have h1 : 0 ≤ p * q := Int.mul_nonneg hp.1 hq.1
 have h2 : p * q ≤ 999999999 * 999999999 := Int.mul_le_mul (by omega) (by omega) hq.1 (by omega)
 rw [wrapU64_in (n := o) (by omega) (by omega), wrapU64_in (n := p) (by omega) (by omega), wrapU64_in (n := q) (by omega) (by omega), wrapU64_in (n := p * q) (by omega) (by omega), wrapU64_in (n := o + p * q) (by omega) (by omega), wrapU64_in (by omega) (by omega)]
 exact ⟨rfl, by omega, by omega⟩
theorem at_zero {l : List Int} {j : Nat} (h : l.length ≤ j) : l.getD j 0 = 0 := by simp [List.getD, List.getElem?_eq_none h]
theorem at_rep {k j : Nat} : (List.replicate k (0 : Int)).getD j 0 = 0 := by
 by_cases h : j < k
 · simp [List.getD, h]
 · exact at_zero (by simpa using h)
theorem times_ok {n : Nat} {a b : List Int} (hn : 1000 ≤ n) (ha : Dig a) (hb : Dig b) (la : a.length ≤ 400) (lb : b.length ≤ 400) : Ok (integer_times_w n a b) fun r => Can r ∧ vl r = vl a * vl b := by
 unfold integer_times_w
 rw [w64_add (by omega) (by omega)]
 refine Ok.gd (by simp; try omega) (Ok.gd (by simp; try omega) (Ok.gd (by simp; try omega) ?_))
 refine Ok.bd (R := fun r => Dig r ∧ r.length ≤ 900 ∧ vl r = vl a * vl b) ?_ (fun r h => Ok.bd (trim_ok hn h.1 h.2.1) fun z hz => ok_some.2 ⟨hz.1, hz.2.trans h.2.2⟩)
 refine ok_loop (fun x : List Int × Int => ∃ i : Nat, x.2 = (i : Int) ∧ i ≤ a.length ∧ x.1.length = a.length + b.length ∧ Dig x.1 ∧ (∀ j, i + b.length ≤ j → x.1.getD j 0 = 0) ∧ vl x.1 = vk a i * vl b) (fun x => a.length - x.2.toNat) ?_ n _
  ⟨0, rfl, by omega, (by simp; omega), dig_rep _, fun j _ => at_rep, by simp [vk_zero, vl_rep]⟩ (by simp; omega)
 rintro again ⟨out, x⟩ ⟨i, hx, h4, h5, h6, h7, h8⟩ ih
 simp only at hx h5 h6 h7 h8
 subst hx
 dsimp only
 have da := dig_at ha i
 refine Ok.cd (fun h => ?_) (fun h => ?_)
 · have hi : i < a.length := by simp at h; omega
   refine Ok.gd (by rw [inR_nat]; simpa using hi) ?_
   rw [gt_int]
   refine Ok.bd (R := fun r => r.1.length = a.length + b.length ∧ Dig r.1 ∧ (0 ≤ r.2 ∧ r.2 < 1000000000) ∧ (∀ j, i + b.length ≤ j → r.1.getD j 0 = 0) ∧ vl r.1 + pB (i + b.length) * r.2 = vk a i * vl b + pB i * a.getD i 0 * vl b) ?_ ?_
   · refine ok_loop (fun y : List Int × Int × Int => ∃ j : Nat, y.2.2 = (j : Int) ∧ j ≤ b.length ∧ y.1.length = a.length + b.length ∧ Dig y.1 ∧ (0 ≤ y.2.1 ∧ y.2.1 < 1000000000) ∧ (∀ m, i + b.length ≤ m → y.1.getD m 0 = 0) ∧ vl y.1 + pB (i + j) * y.2.1 = vk a i * vl b + pB i * a.getD i 0 * vk b j) (fun y => b.length - y.2.2.toNat) ?_ n _
      ⟨0, rfl, by omega, h5, h6, by simp, h7, by simp [vk_zero, h8]⟩ (by simp; omega)
     rintro again' ⟨out', c, y⟩ ⟨j, hy, k4, k5, k6, k7, k8, k9⟩ ih'
     simp only at hy k5 k6 k7 k8 k9
     subst hy
     dsimp only
     have db := dig_at hb j
     refine Ok.cd (fun h => ?_) (fun h => ?_)
     · have hj : j < b.length := by simp at h; omega
       refine Ok.gd (by rw [inR_nat]; simpa using hj) ?_
       rw [w64_add (by omega) (by omega)]
       refine Ok.gd (by rw [inR_nat]; simp; omega) ?_
       rw [gt_int, gt_int]
       have dout := dig_at k6 (i + j)
       obtain ⟨e1, e2, e3⟩ := step_mul da db dout k7
       rw [e1]
       generalize hs : out'.getD (i + j) 0 + a.getD i 0 * b.getD j 0 + c = s at e1 e2 e3
       have t1 : s.tdiv 1000000000 = s / 1000000000 := Int.tdiv_eq_ediv_of_nonneg e2
       have t2 : s.tmod 1000000000 = s % 1000000000 := Int.tmod_eq_emod_of_nonneg e2
       rw [t1, t2, wrapU32_in (by omega) (by omega), wrapU64_in (by omega) (by omega), w64_nat (by omega), Int.toNat_natCast]
       refine ih' _ ⟨j + 1, rfl, by omega, by simpa using k5, dig_set k6 (by omega), by simp only; omega, ?_, ?_⟩ (by simp; omega)
       · intro m hm
         simp only
         rw [at_set_ne (by omega)]
         exact k8 m hm
       · simp only
         rw [vl_set (by omega), vk_succ, ← Nat.add_assoc, pB_succ, pB_add] 
         rw [pB_add] at k9
         have : s = s % 1000000000 + 1000000000 * (s / 1000000000) := by omega
         grind
     · have hj : j = b.length := by simp at h; omega
       subst hj
       rw [vk_len (l := b) (by omega)] at k9
       exact ok_some.2 ⟨k5, k6, k7, k8, k9⟩
   · rintro ⟨out', c⟩ ⟨k5, k6, k7, k8, k9⟩
     simp only at k5 k6 k7 k8 k9
     dsimp only
     rw [w64_add (by omega) (by omega)]
     refine Ok.gd (by rw [inR_nat]; simp; omega) ?_
     rw [wrapU32_in (by omega) (by omega), w64_nat (by omega), Int.toNat_natCast]
     refine ih _ ⟨i + 1, rfl, by omega, by simpa using k5, dig_set k6 k7, ?_, ?_⟩ (by simp; omega)
     · intro m hm
       simp only
       rw [at_set_ne (by omega)]
       exact k8 m (by omega)
     · simp only
       rw [vl_set (by omega), vk_succ, k8 _ (by omega)]
       grind
 · have hi : i = a.length := by simp at h; omega
   subst hi
   rw [vk_len (l := a) (by omega)] at h8
   exact ok_some.2 ⟨h6, by omega, h8⟩
end Go.L

