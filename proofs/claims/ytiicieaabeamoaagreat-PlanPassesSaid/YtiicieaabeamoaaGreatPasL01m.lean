import Derived.Test.YtiicieaabeamoaaGreatPasL01q
set_option linter.all false
namespace Go.L
open Go Go.Eng
theorem w64_add {j k : Nat} (h : j ≤ 4000000000) (h2 : k ≤ 4000000000) : wrapF .i64 ((j : Int) + (k : Int)) = ((j + k : Nat) : Int) := by rw [wrap64_in (by omega) (by omega)]; omega
theorem step_mul {p q o c : Int} (hp : 0 ≤ p ∧ p < 1000000000) (hq : 0 ≤ q ∧ q < 1000000000) (ho : 0 ≤ o ∧ o < 1000000000) (hc : 0 ≤ c ∧ c < 1000000000) :
  wrapF .u64 ((wrapF .u64 ((wrapF .u64 o) + (wrapF .u64 ((wrapF .u64 p) * (wrapF .u64 q))))) + c) = o + p * q + c ∧ 0 ≤ o + p * q + c ∧ o + p * q + c < 1000000000000000000 := by
 have h1 : 0 ≤ p * q := Int.mul_nonneg hp.1 hq.1
 have h2 : p * q ≤ 999999999 * 999999999 := Int.mul_le_mul (by omega) (by omega) hq.1 (by omega)
 rw [wrapU64_in (n := o) (by omega) (by omega), wrapU64_in (n := p) (by omega) (by omega), wrapU64_in (n := q) (by omega) (by omega), wrapU64_in (n := p * q) (by omega) (by omega), wrapU64_in (n := o + p * q) (by omega) (by omega), wrapU64_in (by omega) (by omega)]
 exact ⟨rfl, by omega, by omega⟩
theorem at_zero {l : List Int} {j : Nat} (h : l.length ≤ j) : l.getD j 0 = 0 := by simp [List.getD, List.getElem?_eq_none h]
theorem at_rep {k j : Nat} : (List.replicate k (0 : Int)).getD j 0 = 0 := by
 by_cases h : j < k
 · simp [List.getD, h]
 · exact at_zero (by simpa using h)
theorem times_ok {n : Nat} {a b : List Int} (hn : 1000 ≤ n) (ha : Dig a) (hb : Dig b) (la : a.length ≤ 400) (lb : b.length ≤ 400) : Ok (integer_times n a b) fun r => Can r ∧ vl r = vl a * vl b := by
 unfold integer_times
 rw [w64_add (by omega) (by omega)]
 refine Ok.gd (by simp; try omega) (Ok.gd (by simp; try omega) (Ok.gd (by simp; try omega) ?_))
 refine Ok.bd (R := fun r => Dig r ∧ r.length ≤ 900 ∧ vl r = vl a * vl b) ?_ (fun r h => Ok.bd (trim_ok hn h.1 h.2.1) fun z hz => ok_some.2 ⟨hz.1, hz.2.trans h.2.2⟩)
 refine ok_loop (fun x : List Int × Int => ∃ i : Nat, x.2 = (i : Int) ∧ i ≤ a.length ∧ x.1.length = a.length + b.length ∧ Dig x.1 ∧ (∀ j, i + b.length ≤ j → x.1.getD j 0 = 0) ∧ vl x.1 = vk a i * vl b) (fun x => a.length - x.2.toNat) ?_ n _
  ⟨0, rfl, by omega, (by simp; omega), dig_rep _, fun j _ => at_rep, by simp [vk_zero, vl_rep]⟩ (by simp; omega)
 rintro again ⟨out, x⟩ ⟨i, hx, h4, h5, h6, h7, h8⟩ ih
 simp only at hx h5 h6 h7 h8
 subst hx
 dsimp only
 have da := dig_at ha i
 refine Ok.cd (fun h => ?_) (fun h => ?_)
 · have hi : i < a.length := by simp at h; omega
   refine Ok.gd (by rw [inR_nat]; simpa using hi) ?_
   rw [gt_int]
   refine Ok.bd (R := fun r => r.1.length = a.length + b.length ∧ Dig r.1 ∧ (0 ≤ r.2 ∧ r.2 < 1000000000) ∧ (∀ j, i + b.length ≤ j → r.1.getD j 0 = 0) ∧ vl r.1 + pB (i + b.length) * r.2 = vk a i * vl b + pB i * a.getD i 0 * vl b) ?_ ?_
   · refine ok_loop (fun y : List Int × Int × Int => ∃ j : Nat, y.2.2 = (j : Int) ∧ j ≤ b.length ∧ y.1.length = a.length + b.length ∧ Dig y.1 ∧ (0 ≤ y.2.1 ∧ y.2.1 < 1000000000) ∧ (∀ m, i + b.length ≤ m → y.1.getD m 0 = 0) ∧ vl y.1 + pB (i + j) * y.2.1 = vk a i * vl b + pB i * a.getD i 0 * vk b j) (fun y => b.length - y.2.2.toNat) ?_ n _
      ⟨0, rfl, by omega, h5, h6, by simp, h7, by simp [vk_zero, h8]⟩ (by simp; omega)
     rintro again' ⟨out', c, y⟩ ⟨j, hy, k4, k5, k6, k7, k8, k9⟩ ih'
     simp only at hy k5 k6 k7 k8 k9
     subst hy
     dsimp only
     have db := dig_at hb j
     refine Ok.cd (fun h => ?_) (fun h => ?_)
     · have hj : j < b.length := by simp at h; omega
       refine Ok.gd (by rw [inR_nat]; simpa using hj) ?_
       rw [w64_add (by omega) (by omega)]
       refine Ok.gd (by rw [inR_nat]; simp; omega) ?_
       rw [gt_int, gt_int]
       have dout := dig_at k6 (i + j)
       obtain ⟨e1, e2, e3⟩ := step_mul da db dout k7
       rw [e1]
       generalize hs : out'.getD (i + j) 0 + a.getD i 0 * b.getD j 0 + c = s at e1 e2 e3
       have t1 : s.tdiv 1000000000 = s / 1000000000 := Int.tdiv_eq_ediv_of_nonneg e2
       have t2 : s.tmod 1000000000 = s % 1000000000 := Int.tmod_eq_emod_of_nonneg e2
       rw [t1, t2, wrapU32_in (by omega) (by omega), wrapU64_in (by omega) (by omega), w64_nat (by omega), Int.toNat_natCast]
       refine ih' _ ⟨j + 1, rfl, by omega, by simpa using k5, dig_set k6 (by omega), by simp only; omega, ?_, ?_⟩ (by simp; omega)
       · intro m hm
         simp only
         rw [at_set_ne (by omega)]
         exact k8 m hm
       · simp only
         rw [vl_set (by omega), vk_succ, ← Nat.add_assoc, pB_succ, pB_add] 
         rw [pB_add] at k9
         have : s = s % 1000000000 + 1000000000 * (s / 1000000000) := by omega
         grind
     · have hj : j = b.length := by simp at h; omega
       subst hj
       rw [vk_len (l := b) (by omega)] at k9
       exact ok_some.2 ⟨k5, k6, k7, k8, k9⟩
   · rintro ⟨out', c⟩ ⟨k5, k6, k7, k8, k9⟩
     simp only at k5 k6 k7 k8 k9
     dsimp only
     rw [w64_add (by omega) (by omega)]
     refine Ok.gd (by rw [inR_nat]; simp; omega) ?_
     rw [wrapU32_in (by omega) (by omega), w64_nat (by omega), Int.toNat_natCast]
     refine ih _ ⟨i + 1, rfl, by omega, by simpa using k5, dig_set k6 k7, ?_, ?_⟩ (by simp; omega)
     · intro m hm
       simp only
       rw [at_set_ne (by omega)]
       exact k8 m (by omega)
     · simp only
       rw [vl_set (by omega), vk_succ, k8 _ (by omega)]
       grind
 · have hi : i = a.length := by simp at h; omega
   subst hi
   rw [vk_len (l := a) (by omega)] at h8
   exact ok_some.2 ⟨h6, by omega, h8⟩
theorem Mul_ok {n : Nat} {x y : api_Int} {v w : Int} (hn : 1000 ≤ n) (hx : isI x.Negative x.Groups v) (hy : isI y.Negative y.Groups w) (lx : x.Groups.length ≤ 400) (ly : y.Groups.length ≤ 400) : Ok (integer_Mul n x y) fun z => isI z.Negative z.Groups (v * w) := by
 unfold integer_Mul
 refine Ok.bde (groups_ok hn (by omega) hx) (Ok.bde (groups_ok hn (by omega) hy) ?_)
 refine Ok.bd (times_ok hn hx.1.dig hy.1.dig lx ly) ?_
 rintro r ⟨h1, h2⟩
 have hlen : r.length ≤ 900 := by
  have := can_len h1 (k := x.Groups.length + y.Groups.length) (by
   have a1 := vl_lt hx.1.dig; have a2 := vl_lt hy.1.dig; have a3 := vl_nonneg hx.1.dig; have a4 := vl_nonneg hy.1.dig
   rw [h2, pB_add]
   have b1 := pB_pos x.Groups.length
   have : vl x.Groups * vl y.Groups ≤ pB x.Groups.length * vl y.Groups := Int.mul_le_mul_of_nonneg_right (by omega) a4
   have : pB x.Groups.length * vl y.Groups < pB x.Groups.length * pB y.Groups.length := Int.mul_lt_mul_of_pos_left a2 (by omega)
   omega)
  omega
 refine Ok.bd (made_ok hn _ h1.dig hlen) ?_
 intro z hz
 refine ok_some.2 ?_
 rw [h2] at hz
 have : v * w = if (x.Negative != y.Negative) = true then -(vl x.Groups * vl y.Groups) else vl x.Groups * vl y.Groups := by
  rw [hx.2.2, hy.2.2]
  cases x.Negative <;> cases y.Negative <;> simp <;> grind
 rw [this]; exact hz
theorem sum_ok {n : Nat} {p q : Bool} {a b : List Int} {v w : Int} (hn : 1000 ≤ n) (hx : isI p a v) (hy : isI q b w) (lx : a.length ≤ 400) (ly : b.length ≤ 400) : Ok (integer_sum n p a q b) fun z => isI z.Negative z.Groups (v + w) := by
 unfold integer_sum
 have h0 : ∀ {r : List Int}, Can r → vl r ≤ vl a + vl b → r.length ≤ 900 := by
  intro r hr hv
  have := can_len hr (k := 401) (by
   have a1 := vl_lt hx.1.dig; have a2 := vl_lt hy.1.dig
   have p1 := pB_mono lx; have p2 := pB_mono ly; have p3 : pB 401 = 1000000000 * pB 400 := pB_succ 400; have := pB_pos 400
   omega)
  omega
 have pa := vl_nonneg hx.1.dig; have pb := vl_nonneg hy.1.dig
 refine Ok.cd (fun h => ?_) (fun h => ?_)
 · have hpq : p = q := by simpa using h
   subst hpq
   refine Ok.bd (plus_ok hn hx.1.dig hy.1.dig lx ly) ?_
   rintro r ⟨h1, h2⟩
   refine Ok.bd (made_ok hn _ h1.dig (h0 h1 (by omega))) fun z hz => ok_some.2 ?_
   have : v + w = if p = true then -vl r else vl r := by rw [hx.2.2, hy.2.2, h2]; cases p <;> simp <;> omega
   rw [this]; exact hz
 · rw [compare_ok hx.1 hy.1 lx ly]
   show Ok (cdO _ _ _) _
   have hpq : p = !q := by cases p <;> cases q <;> simp at h ⊢
   refine Ok.cd (fun h => ?_) (fun h => ?_)
   · have hle : vl b ≤ vl a := by
      by_cases hh : vl a - vl b < 0
      · rw [sgn_of_neg hh] at h; simp at h
      · omega
     have hlen : b.length ≤ a.length := by
      by_cases hh : a.length < b.length
      · have := can_lt_len hx.1.dig hy.1 hh; omega
      · omega
     refine Ok.bd (minus_ok hn hx.1.dig hy.1.dig lx hlen hle) ?_
     rintro r ⟨h1, h2⟩
     refine Ok.bd (made_ok hn _ h1.dig (h0 h1 (by omega))) fun z hz => ok_some.2 ?_
     have : v + w = if p = true then -vl r else vl r := by rw [hx.2.2, hy.2.2, h2, hpq]; cases q <;> simp <;> omega
     rw [this]; exact hz
   · have hle : vl a < vl b := by
      rcases sgn_cases (vl a - vl b) with ⟨g1, g2⟩ | ⟨g1, g2⟩ | ⟨g1, g2⟩
      · omega
      · rw [g2] at h; simp at h
      · rw [g2] at h; simp at h
     have hlen : a.length ≤ b.length := by
      by_cases hh : b.length < a.length
      · have := can_lt_len hy.1.dig hx.1 hh; omega
      · omega
     refine Ok.bd (minus_ok hn hy.1.dig hx.1.dig ly hlen (by omega)) ?_
     rintro r ⟨h1, h2⟩
     refine Ok.bd (made_ok hn _ h1.dig (h0 h1 (by omega))) fun z hz => ok_some.2 ?_
     have : v + w = if q = true then -vl r else vl r := by rw [hx.2.2, hy.2.2, h2, hpq]; cases q <;> simp <;> omega
     rw [this]; exact hz
theorem Add_ok {n : Nat} {x y : api_Int} {v w : Int} (hn : 1000 ≤ n) (hx : isI x.Negative x.Groups v) (hy : isI y.Negative y.Groups w) (lx : x.Groups.length ≤ 400) (ly : y.Groups.length ≤ 400) : Ok (integer_Add n x y) fun z => isI z.Negative z.Groups (v + w) := by
 unfold integer_Add
 refine Ok.bde (groups_ok hn (by omega) hx) (Ok.bde (groups_ok hn (by omega) hy) ?_)
 exact Ok.bd (sum_ok hn hx hy lx ly) fun z hz => ok_some.2 hz
end Go.L

