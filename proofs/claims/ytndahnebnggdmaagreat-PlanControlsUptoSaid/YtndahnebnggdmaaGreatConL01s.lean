import Derived.Test.YtndahnebnggdmaaGreatConLD
import Derived.Test.YtndahnebnggdmaaGreatPl6jpodfgob
import Derived.Test.YtndahnebnggdmaaGreatPl6jpodfgob
import Derived.Test.YtndahnebnggdmaaGreatPl6jpodfgob
set_option linter.all false
namespace Go.L
open Go Go.Eng
end Go.L


set_option linter.all false
namespace Go.L
open Go Go.Eng
end Go.L


set_option linter.all false
namespace Go.L
open Go Go.Eng
end Go.L


set_option linter.all false
namespace Go.L
open Go Go.Eng
end Go.L


set_option linter.all false
namespace Go.L
open Go Go.Eng
end Go.L


set_option linter.all false
namespace Go.L
open Go Go.Eng
end Go.L


set_option linter.all false
namespace Go.L
open Go Go.Eng
end Go.L


set_option linter.all false
namespace Go.L
open Go Go.Eng
end Go.L


set_option linter.all false
namespace Go.L
open Go Go.Eng
end Go.L


set_option linter.all false
namespace Go.L.R
open Go Go.Eng Go.L
theorem gt_int {l : List Int} {k : Nat} : gt l (k : Int) = l.getD k 0 := gt_nat
theorem w64_nat {k : Nat} (h : k ≤ 4000000000) : wrapF .i64 ((k : Int) + 1) = ((k + 1 : Nat) : Int) := by rw [wrap64_in (by omega) (by omega)]; omega
theorem w64_pred {k : Nat} (h : 0 < k) (h2 : k ≤ 4000000000) : wrapF .i64 ((k : Int) - 1) = ((k - 1 : Nat) : Int) := by rw [wrap64_in (by omega) (by omega)]; omega
theorem w64_add {j k : Nat} (h : j ≤ 4000000000) (h2 : k ≤ 4000000000) : wrapF .i64 ((j : Int) + (k : Int)) = ((j + k : Nat) : Int) := by rw [wrap64_in (by omega) (by omega)]; omega
theorem step_mul {p q o c : Int} (hp : 0 ≤ p ∧ p < 1000000000) (hq : 0 ≤ q ∧ q < 1000000000) (ho : 0 ≤ o ∧ o < 1000000000) (hc : 0 ≤ c ∧ c < 1000000000) :
  wrapF .u64 ((wrapF .u64 ((wrapF .u64 o) + (wrapF .u64 ((wrapF .u64 p) * (wrapF .u64 q))))) + c) = o + p * q + c ∧ 0 ≤ o + p * q + c ∧ o + p * q + c < 1000000000000000000 := by
 have h1 : 0 ≤ p * q := Int.mul_nonneg hp.1 hq.1
 have h2 : p * q ≤ 999999999 * 999999999 := Int.mul_le_mul (by omega) (by omega) hq.1 (by omega)
 rw [wrapU64_in (n := o) (by omega) (by omega), wrapU64_in (n := p) (by omega) (by omega), wrapU64_in (n := q) (by omega) (by omega), wrapU64_in (n := p * q) (by omega) (by omega), wrapU64_in (n := o + p * q) (by omega) (by omega), wrapU64_in (by omega) (by omega)]
 exact ⟨rfl, by omega, by omega⟩
theorem at_zero {l : List Int} {j : Nat} (h : l.length ≤ j) : l.getD j 0 = 0 := by simp [List.getD, List.getElem?_eq_none h]
theorem at_rep {k j : Nat} : (List.replicate k (0 : Int)).getD j 0 = 0 := by
 by_cases h : j < k
 · simp [List.getD, h]
 · exact at_zero (by simpa using h)
theorem made_ok {n : Nat} {g : List Int} (hn : 1000 ≤ n) (neg : Bool) (hd : Dig g) (hl : g.length ≤ 900) : Ok (fiducialref01_made n neg g) fun z => isI z.Negative z.Groups (if neg then -vl g else vl g) := by
 unfold fiducialref01_made
 refine Ok.bd (R := fun k : Int => ∃ j : Nat, k = (j : Int) ∧ j ≤ g.length ∧ (∀ m, j ≤ m → g.getD m 0 = 0) ∧ (0 < j → g.getD (j - 1) 0 ≠ 0)) ?_ ?_
 · refine ok_loop (fun k : Int => ∃ j : Nat, k = (j : Int) ∧ j ≤ g.length ∧ (∀ m, j ≤ m → g.getD m 0 = 0)) (fun k => k.toNat) ?_ n _ ⟨g.length, rfl, Nat.le_refl _, fun m hm => at_zero hm⟩ (by simp; omega)
   rintro again k ⟨j, rfl, h1, h2⟩ ih
   refine Ok.cd (fun h => ?_) (fun h => ?_)
   · have hpos : 0 < j := by simp at h; omega
     rw [w64_pred hpos (by omega)]
     refine Ok.gd (by rw [inR_nat]; simp; omega) ?_
     rw [gt_int]
     refine Ok.cd (fun h => ?_) (fun h => ?_)
     · refine ih _ ⟨j - 1, rfl, by omega, fun m hm => ?_⟩ (by simp; omega)
       by_cases hmj : m = j - 1
       · rw [hmj]; simpa using h
       · exact h2 m (by omega)
     · exact ok_some.2 ⟨j, rfl, h1, h2, fun _ => by simpa using h⟩
   · have : j = 0 := by simp at h; omega
     subst this
     exact ok_some.2 ⟨0, rfl, by omega, h2, fun h => by omega⟩
 · rintro _ ⟨j, rfl, h1, h2, h3⟩
   have e : (g.drop (0 : Int).toNat).take ((j : Int).toNat - (0 : Int).toNat) = g.take j := by simp
   rw [e]
   have hc : Can (g.take j) := can_tail (dig_take hd _) (by
    by_cases hj : j = 0
    · left; rw [hj]; rfl
    · right
      rw [List.length_take, Nat.min_eq_left h1]
      have := h3 (by omega)
      simpa [List.getD, List.getElem?_take, (by omega : j - 1 < j)] using this)
   have hv : vl (g.take j) = vl g := vl_cut h1 h2
   refine Ok.cd (fun h => ?_) (fun h => ?_)
   · refine Ok.gd (inS_iff.2 (by omega)) (Ok.gd (by simp; omega) (Ok.gd (by simp; omega) (ok_some.2 ?_)))
     subst h
     by_cases hj : j = 0
     · subst hj
       refine ⟨hc, fun h => by simp at h, ?_⟩
       rw [if_pos rfl, ← hv]; rfl
     · refine ⟨hc, fun _ hh => ?_, ?_⟩
       · have := congrArg List.length hh
         rw [List.length_take, Nat.min_eq_left h1] at this; exact hj this
       · have : decide ((j : Int) > 0) = true := by simp; omega
         simp only [this, if_true, hv]
   · refine Ok.gd (inS_iff.2 (by omega)) (Ok.gd (by simp; omega) (Ok.gd (by simp; omega) (ok_some.2 ?_)))
     subst h
     exact ⟨hc, fun h => by simp at h, by simp [hv]⟩
theorem split_ok {n : Nat} {v : Int} (hn : 1000 ≤ n) (h0 : 0 ≤ v) (hv : v < 18446744073709551616) : Ok (loopO (α := Int × List Int) (β := List Int) n (fun again x => match x with
  | (u_2, l_3) => (
   cdO (decide (u_2 > 0)) (
    gdO (decide ((l_3.length + 1) * 4 ≤ 140737488355328)) (
    gdO (decide (l_3.length + 1 ≤ 4611686018427387904)) (
    again (wrapF .u64 (u_2.tdiv 1000000000), l_3 ++ [wrapF .u32 (u_2.tmod 1000000000)])
    )
    )
   ) (
    some (l_3)
   )
  )) (v, [])) fun r => Can r ∧ vl r = v ∧ r.length ≤ 3 := by
 refine ok_loop (fun x : Int × List Int => Dig x.2 ∧ 0 ≤ x.1 ∧ vl x.2 + pB x.2.length * x.1 = v ∧ x.2.length ≤ 3 ∧ (x.1 = 0 → Can x.2)) (fun x => 4 - x.2.length) ?_ n (v, []) ⟨dig_nil, h0, by show 0 + 1 * v = v; omega, by simp, fun _ => trivial⟩ (by simp; omega)
 rintro again ⟨m, g⟩ ⟨h1, h2, h3, h4, h5⟩ ih
 simp only at h1 h2 h3 h4 h5
 have hg := vl_nonneg h1
 have hp := pB_pos g.length
 have hmv : m ≤ v := by
  have : m ≤ pB g.length * m := by
   have := Int.mul_le_mul_of_nonneg_right hp h2; omega
  omega
 refine Ok.cd (fun h => ?_) (fun h => ?_)
 · have hm : 0 < m := by simpa using h
   have hlen : g.length ≤ 2 := by
    by_cases h : g.length ≤ 2
    · exact h
    · have h6 : g.length = 3 := by omega
      rw [h6] at h3
      have : pB 3 = 1000000000000000000000000000 := rfl
      rw [this] at h3
      omega
   refine Ok.gd (by simp; omega) (Ok.gd (by simp; omega) ?_)
   have e1 : m.tdiv 1000000000 = m / 1000000000 := Int.tdiv_eq_ediv_of_nonneg h2
   have e2 : m.tmod 1000000000 = m % 1000000000 := Int.tmod_eq_emod_of_nonneg h2
   rw [e1, e2, wrapU64_in (by omega) (by omega), wrapU32_in (by omega) (by omega)]
   have hdig : 0 ≤ m % 1000000000 ∧ m % 1000000000 < 1000000000 := by omega
   refine ih _ ⟨dig_app.2 ⟨h1, dig_one.2 hdig⟩, by simp only; omega, ?_, by simp; omega, fun hz => can_app h1 hdig (by simp only at hz; omega)⟩ (by simp; omega)
   simp only
   rw [vl_app, vl_one, List.length_append, List.length_singleton, pB_succ]
   have : m = m % 1000000000 + 1000000000 * (m / 1000000000) := by omega
   rw [← h3]
   grind
 · have hm : m = 0 := by simp at h; omega
   subst hm
   exact ok_some.2 ⟨h5 rfl, by omega, h4⟩
theorem Of_ok {n : Nat} {v : Int} (hn : 1000 ≤ n) (h0 : -9223372036854775808 ≤ v) (hv : v ≤ 9223372036854775807) : Ok (fiducialref01_Of n v) fun z => isI z.Negative z.Groups v := by
 unfold fiducialref01_Of
 refine Ok.cd (fun h => ?_) (fun h => ?_)
 · have hneg : v < 0 := by simpa using h
   have e : wrapF .u64 (wrapF .u64 (wrapF .i64 (0 - wrapF .i64 (v + 1))) + 1) = -v := by
    rw [wrap64_in (n := v + 1) (by omega) (by omega), wrap64_in (by omega) (by omega), wrapU64_in (n := 0 - (v + 1)) (by omega) (by omega), wrapU64_in (by omega) (by omega)]; omega
   rw [e]
   refine Ok.bd (split_ok hn (by omega) (by omega)) ?_
   rintro r ⟨h1, h2, h3⟩
   refine Ok.bd (made_ok hn true h1.dig (by omega)) ?_
   intro z hz
   rw [h2] at hz
   refine ok_some.2 ?_
   simpa using hz
 · have hneg : 0 ≤ v := by simpa using h
   rw [wrapU64_in hneg (by omega)]
   refine Ok.bd (split_ok hn (by omega) (by omega)) ?_
   rintro r ⟨h1, h2, h3⟩
   refine Ok.bd (made_ok hn false h1.dig (by omega)) ?_
   intro z hz
   rw [h2] at hz
   exact ok_some.2 hz
theorem Valid_ok {n : Nat} {x : api_Int} {v : Int} (hn : 1000 ≤ n) (hl : x.Groups.length ≤ 900) (h : isI x.Negative x.Groups v) : fiducialref01_Valid n x = some true := by
 obtain ⟨h1, h2, h3⟩ := h
 apply Ok.eq
 unfold fiducialref01_Valid
 refine Ok.bd (R := fun o => match o with | .inl _ => True | .inr _ => False) ?_ ?_
 · refine ok_range (len := x.Groups.length) (fun k => True) (by omega) (by omega) trivial ?_ ?_
   · intro again k hk _ ih
     refine Ok.cd (fun _ => ?_) (fun h => ?_)
     · refine Ok.gd (by rw [inR_nat]; simpa using hk) ?_
       rw [gt_int]
       have := dig_at h1.dig k
       refine Ok.cd (fun h => ?_) (fun h => ih trivial)
       have := of_decide_eq_true h; omega
     · simp at h; omega
   · intro again _
     refine Ok.cd (fun h => ?_) (fun h => ok_some.2 trivial)
     simp at h
 · rintro (_ | r) h
   · refine Ok.cd (fun h => ?_) (fun h => ?_)
     · have hg : x.Groups = [] := by simpa using h
       refine ok_some.2 ?_
       cases hh : x.Negative with | false => rfl | true => exact absurd hg (h2 hh)
     · have hg : x.Groups ≠ [] := by simpa using h
       have hpos : 0 < x.Groups.length := List.length_pos_iff.2 hg
       rw [w64_pred hpos (by omega)]
       refine Ok.gd (by rw [inR_nat]; simp; omega) (ok_some.2 ?_)
       rw [gt_int]
       simpa using can_last h1 hg
   · exact h.elim
theorem Value_ok {n : Nat} {x : api_Int} {v : Int} (hn : 1000 ≤ n) (hl : x.Groups.length ≤ 900) (h : isI x.Negative x.Groups v) : fiducialref01_Value n x = some x := by
 unfold fiducialref01_Value
 rw [Valid_ok hn hl h]
 show gdO _ (gdO _ _) = _
 have e1 : decide ((0 + x.Groups.length) * 4 ≤ 140737488355328) = true := by simp; omega
 have e2 : decide (0 + x.Groups.length ≤ 4611686018427387904) = true := by simp; omega
 rw [e1, e2]; rfl
theorem Sign_ok {n : Nat} {x : api_Int} {v : Int} (hn : 1000 ≤ n) (hl : x.Groups.length ≤ 900) (h : isI x.Negative x.Groups v) : fiducialref01_Sign n x = some (sgn v) := by
 unfold fiducialref01_Sign; rw [Value_ok hn hl h, isI_sgn h]
 show cdO _ _ _ = _
 by_cases hx : x.Groups = []
 · rw [hx]; rfl
 · have e : (((x.Groups.length : Int) : Int) == 0) = false := by simp [hx]
   rw [e, if_neg hx]
   cases x.Negative <;> rfl
theorem Neg_ok {n : Nat} {x : api_Int} {v : Int} (hn : 1000 ≤ n) (hl : x.Groups.length ≤ 900) (h : isI x.Negative x.Groups v) : Ok (fiducialref01_Neg n x) fun z => isI z.Negative z.Groups (-v) := by
 unfold fiducialref01_Neg
 refine Ok.bde (Value_ok hn hl h) ?_
 refine Ok.bd (made_ok hn _ h.1.dig hl) fun z hz => ok_some.2 ?_
 have : -v = if (!x.Negative) = true then -vl x.Groups else vl x.Groups := by rw [h.2.2]; cases x.Negative <;> simp
 rw [this]; exact hz
theorem group_ok {n : Nat} {l : List Int} {k : Nat} (h : Dig l) : fiducialref01_group n l (k : Int) = some (l.getD k 0) := by
 unfold fiducialref01_group
 have hd := dig_at h k
 by_cases h : k < l.length
 · have e : decide ((k : Int) < (l.length : Int)) = true := by simp; omega
   rw [e, inR_nat, gt_int]
   have e : decide (k < l.length) = true := by simpa using h
   rw [e, wrapU64_in (by omega) (by omega)]; rfl
 · have e : decide ((k : Int) < (l.length : Int)) = false := by simp; omega
   rw [e, at_zero (by omega)]; rfl
end Go.L.R


set_option linter.all false
namespace Go.L.R
open Go Go.Eng Go.L
theorem td {m : Int} (h : 0 ≤ m) : m.tdiv 1000000000 = m / 1000000000 ∧ m.tmod 1000000000 = m % 1000000000 := ⟨Int.tdiv_eq_ediv_of_nonneg h, Int.tmod_eq_emod_of_nonneg h⟩
theorem plus_ok {n : Nat} {a b : List Int} (hn : 1000 ≤ n) (ha : Dig a) (hb : Dig b) (la : a.length ≤ 400) (lb : b.length ≤ 400) : Ok (fiducialref01_plus n a b) fun r => Can r ∧ vl r = vl a + vl b := by
 unfold fiducialref01_plus
 obtain ⟨M, h1, h2, h3, h4⟩ : ∃ M : Nat, a.length ≤ M ∧ b.length ≤ M ∧ M ≤ 400 ∧ (M = a.length ∨ M = b.length) := by
  by_cases h : a.length ≤ b.length
  · exact ⟨b.length, h, by omega, lb, .inr rfl⟩
  · exact ⟨a.length, by omega, by omega, la, .inl rfl⟩
 refine Ok.bd (R := fun r => Dig r.1 ∧ r.1.length = M ∧ (r.2 = 0 ∨ r.2 = 1) ∧ vl r.1 + pB M * r.2 = vl a + vl b) ?_ ?_
 · refine ok_loop (fun x : List Int × Int × Int => ∃ k : Nat, x.2.2 = (k : Int) ∧ k ≤ M ∧ x.1.length = k ∧ Dig x.1 ∧ (x.2.1 = 0 ∨ x.2.1 = 1) ∧ vl x.1 + pB k * x.2.1 = vk a k + vk b k) (fun x => M - x.2.2.toNat) ?_ n _
    ⟨0, rfl, by omega, rfl, dig_nil, .inl rfl, by simp [vk_zero, vl]⟩ (by simp; omega)
   rintro again ⟨out, c, x⟩ ⟨k, hx, h5, h6, h7, h8, h9⟩ ih
   simp only at hx h6 h7 h8 h9
   subst hx
   dsimp only
   rw [group_ok ha, group_ok hb]
   have da := dig_at ha k; have db := dig_at hb k
   have step : k < M → Ok (bdO (some (a.getD k 0)) fun v22 => bdO (some (b.getD k 0)) fun v24 => gdO (decide ((out.length + 1) * 4 ≤ 140737488355328)) (gdO (decide (out.length + 1 ≤ 4611686018427387904)) (again (out ++ [wrapF .u32 ((wrapF .u64 ((wrapF .u64 (v22 + v24)) + c)).tmod 1000000000)], wrapF .u64 ((wrapF .u64 ((wrapF .u64 (v22 + v24)) + c)).tdiv 1000000000), wrapF .i64 ((k : Int) + 1)))))
     fun r => Dig r.1 ∧ r.1.length = M ∧ (r.2 = 0 ∨ r.2 = 1) ∧ vl r.1 + pB M * r.2 = vl a + vl b := by
    intro hk
    show Ok (gdO _ _) _
    refine Ok.gd (by simp; omega) (Ok.gd (by simp; omega) ?_)
    generalize hs : wrapF .u64 (wrapF .u64 (a.getD k 0 + b.getD k 0) + c) = s
    have hs' : s = a.getD k 0 + b.getD k 0 + c := by rw [← hs, wrapU64_in (n := a.getD k 0 + b.getD k 0) (by omega) (by omega), wrapU64_in (by omega) (by omega)]
    rw [(td (by omega)).1, (td (by omega)).2, wrapU64_in (by omega) (by omega), wrapU32_in (by omega) (by omega), w64_nat (by omega)]
    refine ih _ ⟨k + 1, rfl, by omega, by simp; omega, dig_app.2 ⟨h7, dig_one.2 (by omega)⟩, by simp only; omega, ?_⟩ (by simp; omega)
    simp only
    rw [vl_app, vl_one, h6, vk_succ, vk_succ, pB_succ]
    have : a.getD k 0 + b.getD k 0 + c = s % 1000000000 + 1000000000 * (s / 1000000000) := by omega
    grind
   refine Ok.cd (fun h => ?_) (fun h => Ok.cd (fun h' => ?_) (fun h' => ?_))
   · exact step (by have := of_decide_eq_true h; omega)
   · exact step (by have := of_decide_eq_true h'; omega)
   · have := of_decide_eq_false h; have := of_decide_eq_false h'
     obtain rfl : k = M := by omega
     rw [vk_len (l := a) (by omega), vk_len (l := b) (by omega)] at h9
     exact ok_some.2 ⟨h7, h6, h8, h9⟩
 · rintro ⟨out, c⟩ ⟨h5, h6, h7, h8⟩
   simp only at h5 h6 h7 h8
   dsimp only
   refine Ok.gd (by simp; omega) (Ok.gd (by simp; omega) ?_)
   rw [wrapU32_in (by omega) (by omega)]
   refine Ok.bd (made_ok hn false (dig_app.2 ⟨h5, dig_one.2 (by omega)⟩) (by simp; omega)) fun z hz => ok_some.2 ⟨hz.1, ?_⟩
   have := hz.2.2
   have hneg := isI_abs hz
   have h10 := vl_nonneg h5
   have h11 := pB_pos M
   rw [vl_app, vl_one, h6] at hneg
   have : 0 ≤ vl a + vl b := by have := vl_nonneg ha; have := vl_nonneg hb; omega
   simp only [Bool.false_eq_true, if_false] at hneg
   omega
theorem minus_ok {n : Nat} {a b : List Int} (hn : 1000 ≤ n) (ha : Dig a) (hb : Dig b) (la : a.length ≤ 400) (lb : b.length ≤ a.length) (hle : vl b ≤ vl a) : Ok (fiducialref01_minus n a b) fun r => Can r ∧ vl r = vl a - vl b := by
 unfold fiducialref01_minus
 refine Ok.bd (R := fun r => Dig r ∧ r.length = a.length ∧ vl r = vl a - vl b) ?_ ?_
 · refine ok_loop (fun x : List Int × Int × Int => ∃ k : Nat, x.2.2 = (k : Int) ∧ k ≤ a.length ∧ x.1.length = k ∧ Dig x.1 ∧ (x.2.1 = 0 ∨ x.2.1 = 1) ∧ vl x.1 - pB k * x.2.1 = vk a k - vk b k) (fun x => a.length - x.2.2.toNat) ?_ n _
    ⟨0, rfl, by omega, rfl, dig_nil, .inl rfl, by simp [vk_zero, vl]⟩ (by simp; omega)
   rintro again ⟨out, c, x⟩ ⟨k, hx, h5, h6, h7, h8, h9⟩ ih
   simp only at hx h6 h7 h8 h9
   subst hx
   dsimp only
   rw [group_ok ha, group_ok hb]
   have da := dig_at ha k; have db := dig_at hb k
   refine Ok.cd (fun h => ?_) (fun h => ?_)
   · have hk : k < a.length := by have := of_decide_eq_true h; omega
     show Ok (gdO _ _) _
     refine Ok.gd (by simp; omega) (Ok.gd (by simp; omega) ?_)
     generalize hs : wrapF .u64 (wrapF .u64 (wrapF .u64 (1000000000 + a.getD k 0) - b.getD k 0) - c) = s
     have hs' : s = 1000000000 + a.getD k 0 - b.getD k 0 - c := by rw [← hs, wrapU64_in (n := 1000000000 + a.getD k 0) (by omega) (by omega), wrapU64_in (n := 1000000000 + a.getD k 0 - b.getD k 0) (by omega) (by omega), wrapU64_in (by omega) (by omega)]
     rw [(td (by omega)).1, (td (by omega)).2, wrapU64_in (n := s / 1000000000) (by omega) (by omega), wrapU64_in (by omega) (by omega), wrapU32_in (by omega) (by omega), w64_nat (by omega)]
     refine ih _ ⟨k + 1, rfl, by omega, by simp; omega, dig_app.2 ⟨h7, dig_one.2 (by omega)⟩, by simp only; omega, ?_⟩ (by simp; omega)
     simp only
     rw [vl_app, vl_one, h6, vk_succ, vk_succ, pB_succ]
     have : a.getD k 0 - b.getD k 0 - c = s % 1000000000 + 1000000000 * (s / 1000000000) - 1000000000 := by omega
     grind
   · have := of_decide_eq_false h
     obtain rfl : k = a.length := by omega
     rw [vk_len (l := a) (by omega), vk_len (l := b) (by omega)] at h9
     refine ok_some.2 ⟨h7, h6, ?_⟩
     have := vl_lt h7
     rw [h6] at this
     rcases h8 with h8 | h8
     · rw [h8] at h9; omega
     · rw [h8] at h9; omega
 · rintro r ⟨h5, h6, h7⟩
   refine Ok.bd (made_ok hn false h5 (by omega)) fun z hz => ok_some.2 ⟨hz.1, ?_⟩
   have := isI_abs hz
   simp only [Bool.false_eq_true, if_false] at this
   omega
theorem size_ok {n : Nat} {a b : List Int} (hn : 1000 ≤ n) (ha : Can a) (hb : Can b) (la : a.length ≤ 400) (lb : b.length ≤ 400) : fiducialref01_size n a b = some (sgn (vl a - vl b)) := by
 apply Ok.eq
 unfold fiducialref01_size
 refine Ok.cd (fun h => Ok.cd (fun h' => ?_) (fun h' => ?_)) (fun h => ?_)
 · have := of_decide_eq_true h'
   have := can_lt_len ha.dig hb (by omega)
   exact ok_some.2 (sgn_of_neg (by omega)).symm
 · have h1 := of_decide_eq_false h'
   have h2 : a.length ≠ b.length := by intro e; rw [e] at h; simp at h
   have := can_lt_len hb.dig ha (by omega)
   exact ok_some.2 (sgn_pos (by omega)).symm
 · have hl : a.length = b.length := by simp at h; omega
   refine Ok.bd (R := fun o => match o with | .inl _ => sgn (vl a - vl b) = 0 | .inr r => r = sgn (vl a - vl b)) ?_ ?_
   · refine ok_loop (fun i : Int => ∃ k : Nat, i = (k : Int) - 1 ∧ k ≤ a.length ∧ vl a - vl b = vk a k - vk b k) (fun i => (i + 1).toNat) ?_ n _ ⟨a.length, by rw [wrap64_in (by omega) (by omega)], Nat.le_refl _, by rw [vk_len (by omega), vk_len (by omega)]⟩ (by rw [wrap64_in (by omega) (by omega)]; omega)
     rintro again _ ⟨k, rfl, h1, h2⟩ ih
     refine Ok.cd (fun h => ?_) (fun h => ?_)
     · have hk := of_decide_eq_true h
       obtain ⟨j, rfl⟩ : ∃ j, k = j + 1 := ⟨k - 1, by omega⟩
       have e : (((j + 1 : Nat) : Int) - 1) = (j : Int) := by omega
       rw [e]
       refine Ok.gd (by rw [inR_nat]; simp; omega) (Ok.gd (by rw [inR_nat]; simp; omega) ?_)
       rw [gt_int, gt_int]
       have va := vk_lt ha.dig j; have vb := vk_lt hb.dig j; have va0 := vk_nonneg ha.dig j; have vb0 := vk_nonneg hb.dig j
       rw [vk_succ, vk_succ] at h2
       have hp := pB_pos j
       refine Ok.cd (fun h => ?_) (fun h => Ok.cd (fun h' => ?_) (fun h' => ?_))
       · have hlt := of_decide_eq_true h
         have : pB j * 1 ≤ pB j * (b.getD j 0 - a.getD j 0) := Int.mul_le_mul_of_nonneg_left (by omega) (by omega)
         rw [Int.mul_sub] at this
         exact ok_some.2 (sgn_of_neg (by omega)).symm
       · have hlt := of_decide_eq_true h'
         have : pB j * 1 ≤ pB j * (a.getD j 0 - b.getD j 0) := Int.mul_le_mul_of_nonneg_left (by omega) (by omega)
         rw [Int.mul_sub] at this
         exact ok_some.2 (sgn_pos (by omega)).symm
       · have g1 := of_decide_eq_false h; have g2 := of_decide_eq_false h'
         have e : a.getD j 0 = b.getD j 0 := by omega
         rw [e] at h2
         refine ih _ ⟨j, by rw [wrap64_in (by omega) (by omega)], by omega, by omega⟩ (by rw [wrap64_in (by omega) (by omega)]; omega)
     · have := of_decide_eq_false h
       obtain rfl : k = 0 := by omega
       rw [vk_zero, vk_zero] at h2
       refine ok_some.2 ?_
       show sgn _ = 0
       rw [h2]; rfl
   · rintro (_ | r) h
     · exact ok_some.2 h.symm
     · exact ok_some.2 h
theorem Add_ok {n : Nat} {x y : api_Int} {v w : Int} (hn : 1000 ≤ n) (hx : isI x.Negative x.Groups v) (hy : isI y.Negative y.Groups w) (lx : x.Groups.length ≤ 400) (ly : y.Groups.length ≤ 400) : Ok (fiducialref01_Add n x y) fun z => isI z.Negative z.Groups (v + w) := by
 unfold fiducialref01_Add
 refine Ok.bde (Value_ok hn (by omega) hx) (Ok.bde (Value_ok hn (by omega) hy) ?_)
 obtain ⟨p, a⟩ := x
 obtain ⟨q, b⟩ := y
 simp only at hx hy lx ly
 dsimp only
 have h0 : ∀ {r : List Int}, Can r → vl r ≤ vl a + vl b → r.length ≤ 900 := by
  intro r hr hv
  have := can_len hr (k := 401) (by
   have a1 := vl_lt hx.1.dig; have a2 := vl_lt hy.1.dig
   have p1 := pB_mono lx; have p2 := pB_mono ly; have p3 : pB 401 = 1000000000 * pB 400 := pB_succ 400; have := pB_pos 400
   omega)
  omega
 have pa := vl_nonneg hx.1.dig; have pb := vl_nonneg hy.1.dig
 refine Ok.cd (fun h => ?_) (fun h => ?_)
 · have hpq : p = q := by simpa using h
   subst hpq
   refine Ok.bd (plus_ok hn hx.1.dig hy.1.dig lx ly) ?_
   rintro r ⟨h1, h2⟩
   refine Ok.bd (made_ok hn _ h1.dig (h0 h1 (by omega))) fun z hz => ok_some.2 ?_
   have : v + w = if p = true then -vl r else vl r := by rw [hx.2.2, hy.2.2, h2]; cases p <;> simp <;> omega
   rw [this]; exact hz
 · rw [size_ok hn hx.1 hy.1 lx ly]
   show Ok (cdO _ _ _) _
   have hpq : p = !q := by cases p <;> cases q <;> simp at h ⊢
   refine Ok.cd (fun h => ?_) (fun h => ?_)
   · have hle : vl b ≤ vl a := by
      by_cases hh : vl a - vl b < 0
      · rw [sgn_of_neg hh] at h; simp at h
      · omega
     have hlen : b.length ≤ a.length := by
      by_cases hh : a.length < b.length
      · have := can_lt_len hx.1.dig hy.1 hh; omega
      · omega
     refine Ok.bd (minus_ok hn hx.1.dig hy.1.dig lx hlen hle) ?_
     rintro r ⟨h1, h2⟩
     refine Ok.bd (made_ok hn _ h1.dig (h0 h1 (by omega))) fun z hz => ok_some.2 ?_
     have : v + w = if p = true then -vl r else vl r := by rw [hx.2.2, hy.2.2, h2, hpq]; cases q <;> simp <;> omega
     rw [this]; exact hz
   · have hle : vl a < vl b := by
      rcases sgn_cases (vl a - vl b) with ⟨g1, g2⟩ | ⟨g1, g2⟩ | ⟨g1, g2⟩
      · omega
      · rw [g2] at h; simp at h
      · rw [g2] at h; simp at h
     have hlen : a.length ≤ b.length := by
      by_cases hh : b.length < a.length
      · have := can_lt_len hy.1.dig hx.1 hh; omega
      · omega
     refine Ok.bd (minus_ok hn hy.1.dig hx.1.dig ly hlen (by omega)) ?_
     rintro r ⟨h1, h2⟩
     refine Ok.bd (made_ok hn _ h1.dig (h0 h1 (by omega))) fun z hz => ok_some.2 ?_
     have : v + w = if q = true then -vl r else vl r := by rw [hx.2.2, hy.2.2, h2, hpq]; cases q <;> simp <;> omega
     rw [this]; exact hz
theorem Sub_ok {n : Nat} {x y : api_Int} {v w : Int} (hn : 1000 ≤ n) (hx : isI x.Negative x.Groups v) (hy : isI y.Negative y.Groups w) (lx : x.Groups.length ≤ 400) (ly : y.Groups.length ≤ 400) : Ok (fiducialref01_Sub n x y) fun z => isI z.Negative z.Groups (v - w) := by
 unfold fiducialref01_Sub
 refine Ok.bd (Neg_ok hn (by omega) hy) fun z hz => ?_
 have hl : z.Groups.length ≤ 400 := can_len hz.1 (k := 400) (by
  have h1 := isI_abs hz; have h2 := isI_abs hy; have h3 := vl_lt hy.1.dig; have := pB_mono ly; omega)
 refine Ok.bd (Add_ok hn hx hz lx hl) fun r hr => ok_some.2 ?_
 rw [(by omega : v - w = v + -w)]; exact hr
theorem Mul_ok {n : Nat} {x y : api_Int} {v w : Int} (hn : 1000 ≤ n) (hx : isI x.Negative x.Groups v) (hy : isI y.Negative y.Groups w) (lx : x.Groups.length ≤ 400) (ly : y.Groups.length ≤ 400) : Ok (fiducialref01_Mul n x y) fun z => isI z.Negative z.Groups (v * w) := by
 unfold fiducialref01_Mul
 refine Ok.bde (Value_ok hn (by omega) hx) (Ok.bde (Value_ok hn (by omega) hy) ?_)
 obtain ⟨p, a⟩ := x
 obtain ⟨q, b⟩ := y
 simp only at hx hy lx ly
 dsimp only
 have ha := hx.1.dig; have hb := hy.1.dig
 rw [w64_add (by omega) (by omega)]
 refine Ok.gd (by simp; try omega) (Ok.gd (by simp; try omega) (Ok.gd (by simp; try omega) ?_))
 refine Ok.bd (R := fun r => Dig r ∧ r.length ≤ 900 ∧ vl r = vl a * vl b) ?_ (fun r h => Ok.bd (made_ok hn _ h.1 h.2.1) fun z hz => ok_some.2 ?_)
 · refine ok_loop (fun x : List Int × Int => ∃ i : Nat, x.2 = (i : Int) ∧ i ≤ a.length ∧ x.1.length = a.length + b.length ∧ Dig x.1 ∧ (∀ j, i + b.length ≤ j → x.1.getD j 0 = 0) ∧ vl x.1 = vk a i * vl b) (fun x => a.length - x.2.toNat) ?_ n _
    ⟨0, rfl, by omega, (by simp; omega), dig_rep _, fun j _ => at_rep, by simp [vk_zero, vl_rep]⟩ (by simp; omega)
   rintro again ⟨out, x⟩ ⟨i, hx, h4, h5, h6, h7, h8⟩ ih
   simp only at hx h5 h6 h7 h8
   subst hx
   dsimp only
   have da := dig_at ha i
   refine Ok.cd (fun h => ?_) (fun h => ?_)
   · have hi : i < a.length := by simp at h; omega
     refine Ok.bd (R := fun r => r.1.length = a.length + b.length ∧ Dig r.1 ∧ (0 ≤ r.2 ∧ r.2 < 1000000000) ∧ (∀ j, i + b.length ≤ j → r.1.getD j 0 = 0) ∧ vl r.1 + pB (i + b.length) * r.2 = vk a i * vl b + pB i * a.getD i 0 * vl b) ?_ ?_
     · refine ok_loop (fun y : List Int × Int × Int => ∃ j : Nat, y.2.2 = (j : Int) ∧ j ≤ b.length ∧ y.1.length = a.length + b.length ∧ Dig y.1 ∧ (0 ≤ y.2.1 ∧ y.2.1 < 1000000000) ∧ (∀ m, i + b.length ≤ m → y.1.getD m 0 = 0) ∧ vl y.1 + pB (i + j) * y.2.1 = vk a i * vl b + pB i * a.getD i 0 * vk b j) (fun y => b.length - y.2.2.toNat) ?_ n _
        ⟨0, rfl, by omega, h5, h6, by simp, h7, by simp [vk_zero, h8]⟩ (by simp; omega)
       rintro again' ⟨out', c, y⟩ ⟨j, hy, k4, k5, k6, k7, k8, k9⟩ ih'
       simp only at hy k5 k6 k7 k8 k9
       subst hy
       dsimp only
       have db := dig_at hb j
       refine Ok.cd (fun h => ?_) (fun h => ?_)
       · have hj : j < b.length := by simp at h; omega
         rw [w64_add (by omega) (by omega)]
         refine Ok.gd (by rw [inR_nat]; simp; omega) (Ok.gd (by rw [inR_nat]; simpa using hi) (Ok.gd (by rw [inR_nat]; simpa using hj) ?_))
         rw [gt_int, gt_int, gt_int]
         have dout := dig_at k6 (i + j)
         obtain ⟨e1, e2, e3⟩ := step_mul da db dout k7
         rw [e1]
         generalize hs : out'.getD (i + j) 0 + a.getD i 0 * b.getD j 0 + c = s at e1 e2 e3
         rw [(td e2).1, (td e2).2, wrapU32_in (by omega) (by omega), wrapU64_in (by omega) (by omega), w64_nat (by omega), Int.toNat_natCast]
         refine ih' _ ⟨j + 1, rfl, by omega, by simpa using k5, dig_set k6 (by omega), by simp only; omega, ?_, ?_⟩ (by simp; omega)
         · intro m hm
           simp only
           rw [at_set_ne (by omega)]
           exact k8 m hm
         · simp only
           rw [vl_set (by omega), vk_succ, ← Nat.add_assoc, pB_succ, pB_add]
           rw [pB_add] at k9
           have : s = s % 1000000000 + 1000000000 * (s / 1000000000) := by omega
           grind
       · have hj : j = b.length := by simp at h; omega
         subst hj
         rw [vk_len (l := b) (by omega)] at k9
         exact ok_some.2 ⟨k5, k6, k7, k8, k9⟩
     · rintro ⟨out', c⟩ ⟨k5, k6, k7, k8, k9⟩
       simp only at k5 k6 k7 k8 k9
       dsimp only
       rw [w64_add (by omega) (by omega)]
       refine Ok.gd (by rw [inR_nat]; simp; omega) ?_
       rw [wrapU32_in (by omega) (by omega), w64_nat (by omega), Int.toNat_natCast]
       refine ih _ ⟨i + 1, rfl, by omega, by simpa using k5, dig_set k6 k7, ?_, ?_⟩ (by simp; omega)
       · intro m hm
         simp only
         rw [at_set_ne (by omega)]
         exact k8 m (by omega)
       · simp only
         rw [vl_set (by omega), vk_succ, k8 _ (by omega)]
         grind
   · have hi : i = a.length := by simp at h; omega
     subst hi
     rw [vk_len (l := a) (by omega)] at h8
     exact ok_some.2 ⟨h6, by omega, h8⟩
 · have : v * w = if (p != q) = true then -vl r else vl r := by
    rw [hx.2.2, hy.2.2, h.2.2]
    cases p <;> cases q <;> simp <;> grind
   rw [this]; exact hz
end Go.L.R

