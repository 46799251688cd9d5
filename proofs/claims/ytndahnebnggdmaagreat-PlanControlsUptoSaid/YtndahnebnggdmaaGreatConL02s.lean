import Derived.Test.YtndahnebnggdmaaGreatConL01v
import Derived.Test.YtndahnebnggdmaaGreatConL01s
set_option linter.all false
namespace Go.L.R
open Go Go.Eng Go.L
theorem parts_ok {n : Nat} {a b : List Int} (hn : 1000 ≤ n) (ha : Can a) (hb : Can b) (hb0 : b ≠ []) (la : a.length ≤ 300) (lb : b.length ≤ 300) : Ok (fiducialref01_parts n a b) fun r => Can r.1 ∧ Can r.2 ∧ vl r.2 < vl b ∧ vl r.1 * vl b + vl r.2 = vl a := by
 unfold fiducialref01_parts
 have hbp := can_pos hb hb0
 have hap := vl_nonneg ha.dig
 have lpos : 0 < b.length := List.length_pos_iff.2 hb0
 refine Ok.cd (fun h => ?_) (fun h => ?_)
 · have hl : b.length = 1 := by simp at h; omega
   obtain ⟨d, rfl⟩ : ∃ d, b = [d] := by
    match b, hl with
    | [d], _ => exact ⟨d, rfl⟩
   have hd := dig_one.1 hb.dig
   have hd0 : d ≠ 0 := hb.2.1 rfl
   refine Ok.gd rfl ?_
   have e : gt [d] 0 = d := rfl
   rw [e, wrapU64_in hd.1 (by omega)]
   refine Ok.bd (short_ok hn ha.dig (by omega) (by omega) (by omega)) ?_
   rintro ⟨q, r⟩ ⟨q1, q2, q3⟩
   simp only at q1 q2 q3
   dsimp only
   rw [wrapU32_in q2.1 (by omega)]
   refine Ok.bd (madeF hn (dig_one.2 (by omega)) (by simp)) ?_
   rintro z ⟨z1, z2⟩
   rw [vl_one] at z2
   refine ok_some.2 ⟨q1, z1, ?_, ?_⟩
   · simp only [z2, vl_one]; exact q2.2
   · simp only [z2, vl_one]; exact q3
 · have hl : 2 ≤ b.length := by simp at h; omega
   refine Ok.bde (size_ok hn ha hb (by omega) (by omega)) ?_
   have hs := sgn_cases (vl a - vl b)
   refine Ok.cd (fun h => ?_) (fun h => ?_)
   · have hlt : vl a < vl b := by have := of_decide_eq_true h; omega
     exact ok_some.2 ⟨trivial, ha, hlt, by show 0 * vl b + vl a = vl a; omega⟩
   · have hle : vl b ≤ vl a := by have := of_decide_eq_false h; omega
     rw [w64_pred (k := b.length) (by omega) (by omega), gt_int]
     have dt := dig_at hb.dig (b.length - 1)
     obtain ⟨t1, t2, t3, t4⟩ := can_topZ hb (by omega)
     rw [wrapU64_in (n := b.getD (b.length - 1) 0) (by omega) (by omega), wrapU64_in (n := b.getD (b.length - 1) 0 + 1) (by omega) (by omega), (td_v (by omega : (0 : Int) ≤ 1000000000)).1]
     obtain ⟨s, hsc⟩ : ∃ s, (1000000000 : Int) / (b.getD (b.length - 1) 0 + 1) = s := ⟨_, rfl⟩
     obtain ⟨s1, s2, s3, s4⟩ := scale_great t1 t2 hsc.symm
     rw [hsc, wrapU64_in (n := s) (by omega) (by omega)]
     refine Ok.gd (by rw [inR_nat]; simp; omega) (Ok.gd (by rw [decide_eq_false (by omega)]; rfl) ?_)
     refine Ok.bd (scaled_ok hn ha.dig (by omega) (by omega) (by omega)) ?_
     rintro A ⟨A1, A2⟩
     refine Ok.bd (scaled_ok hn hb.dig (by omega) (by omega) (by omega)) ?_
     rintro v ⟨v1, v2⟩
     obtain ⟨lv, hv1, _, _⟩ := scaled_top hb (by omega) hsc.symm v1 v2
     have lA : A.length ≤ a.length + 1 := can_len A1 (by
      have h1 := vl_lt ha.dig
      rw [A2, pB_succ]
      have : vl a * s ≤ vl a * 1000000000 := Int.mul_le_mul_of_nonneg_left (by omega) hap
      omega)
     have lAv : v.length ≤ A.length := by
      by_cases h : v.length ≤ A.length
      · exact h
      · have := can_lt_len A1.dig v1 (by omega)
        have : vl b * s ≤ vl a * s := Int.mul_le_mul_of_nonneg_right hle (by omega)
        omega
     have hw0 : wrapF .i64 ((A.length : Int) - (b.length : Int)) = ((A.length - b.length : Nat) : Int) := by rw [wrap64_in (by omega) (by omega)]; omega
     rw [hw0, w64_nat (by omega)]
     obtain ⟨m, hm⟩ : ∃ m, A.length - b.length + 1 = m := ⟨_, rfl⟩
     rw [hm, Int.toNat_natCast, Int.toNat_natCast]
     have et : (A.drop m).take (A.length - m) = A.drop m := by rw [List.take_of_length_le]; rw [List.length_drop]; omega
     rw [et]
     refine Ok.gd (inS_iff.2 (by omega)) ?_
     refine Ok.bd (madeF hn (dig_drop A1.dig m) (by rw [List.length_drop]; omega)) ?_
     rintro r0 ⟨r1, r2⟩
     refine Ok.gd (by simp) (Ok.gd (by simp; omega) (Ok.gd (by simp; omega) ?_))
     have hr0 : vl r0.Groups < vl v := by
      have h1 := vl_lt (dig_drop A1.dig m)
      rw [List.length_drop, (by omega : A.length - m = v.length - 1)] at h1
      obtain ⟨c1, c2, c3, c4⟩ := can_topZ v1 (by omega)
      have hp := pB_pos (v.length - 1)
      have : pB (v.length - 1) * 1 ≤ pB (v.length - 1) * v.getD (v.length - 1) 0 := Int.mul_le_mul_of_nonneg_left c1 (by omega)
      omega
     refine Ok.bd (rmain_ok hn v1 lv.symm hv1 (by omega) (by omega) A1.dig (m := m) (by omega) (by omega) r1 hr0 r2 (by omega)) ?_
     rintro ⟨w, q⟩ ⟨w1, w2, q1, q2, q3⟩
     simp only at w1 w2 q1 q2 q3
     dsimp only
     have lw : w.length ≤ 900 := by
      by_cases hl : w.length ≤ v.length
      · omega
      · have := can_lt_len v1.dig w1 (by omega); omega
     refine Ok.bd (short_ok hn w1.dig lw (by omega) (by omega)) ?_
     rintro ⟨y, c⟩ ⟨y1, y2, y3⟩
     simp only at y1 y2 y3
     refine Ok.bd (madeF hn q1 (by omega)) ?_
     rintro z ⟨z1, z2⟩
     obtain ⟨f1, f2⟩ := unscale (a := vl a) (b := vl b) (q := vl q) s2 y2 y3 (by rw [← v2]; exact w2) (by rw [← v2, ← A2, q3])
     refine ok_some.2 ⟨z1, y1, f1, ?_⟩
     simp only
     rw [z2]; exact f2
theorem pair_ok {n : Nat} {g : List Int} (h : Dig g) (hl : g.length ≤ 2) : fiducialref01_pair n g = some (vl g) ∧ 0 ≤ vl g ∧ vl g < 1000000000000000000 := by
 unfold fiducialref01_pair
 have e1 : fiducialref01_group n g 1 = some (g.getD 1 0) := group_ok (k := 1) h
 have e0 : fiducialref01_group n g 0 = some (g.getD 0 0) := group_ok (k := 0) h
 rw [e1, e0]
 have d0 := dig_at h 0; have d1 := dig_at h 1
 have ev : vl g = g.getD 0 0 + 1000000000 * g.getD 1 0 := by
  have a0 : vl (g.drop 0) = g.getD 0 0 + 1000000000 * vl (g.drop 1) := vl_drop0 g 0
  have a1 := vl_drop0 g 1
  rw [List.drop_of_length_le (by omega : g.length ≤ 1 + 1)] at a1
  have e00 : vl ([] : List Int) = 0 := rfl
  rw [List.drop_zero] at a0
  have a1 : vl (g.drop 1) = g.getD 1 0 + 1000000000 * vl [] := a1
  omega
 show some _ = _ ∧ _
 rw [wrapU64_in (n := g.getD 1 0 * 1000000000) (by omega) (by omega), wrapU64_in (n := g.getD 1 0 * 1000000000 + g.getD 0 0) (by omega) (by omega), ev]
 exact ⟨congrArg some (by omega), by omega, by omega⟩
theorem gcd_next (x y : Nat) : Nat.gcd y (x % y) = Nat.gcd x y := by rw [Nat.gcd_comm x y, Nat.gcd_rec y x, Nat.gcd_comm]
theorem Gcd_ok {n : Nat} {x y : api_Int} {v w : Int} (hn : 5000 ≤ n) (hx : isI x.Negative x.Groups v) (hy : isI y.Negative y.Groups w) (lx : x.Groups.length ≤ 60) (ly : y.Groups.length ≤ 60) : Ok (fiducialref01_Gcd n x y) fun z => isI z.Negative z.Groups (gZ v w) := by
 unfold fiducialref01_Gcd
 refine Ok.bde (Value_ok (by omega) (by omega) hx) (Ok.bde (Value_ok (by omega) (by omega) hy) ?_)
 have ex : v.natAbs = (vl x.Groups).toNat := by have := isI_abs hx; omega
 have ey : w.natAbs = (vl y.Groups).toNat := by have := isI_abs hy; omega
 have e0 : gZ v w = ((Nat.gcd (vl x.Groups).toNat (vl y.Groups).toNat : Nat) : Int) := by unfold gZ; rw [ex, ey]
 refine Ok.bd (R := fun o => Can o.1 ∧ Can o.2 ∧ o.1.length ≤ 60 ∧ o.2.length ≤ 60 ∧ ((Nat.gcd (vl o.1).toNat (vl o.2).toNat : Nat) : Int) = gZ v w ∧ (o.2 ≠ [] → o.1.length ≤ 2 ∧ o.2.length ≤ 2)) ?_ ?_
 · refine ok_loop (fun p : List Int × List Int => Can p.1 ∧ Can p.2 ∧ p.1.length ≤ 60 ∧ p.2.length ≤ 60 ∧ ((Nat.gcd (vl p.1).toNat (vl p.2).toNat : Nat) : Int) = gZ v w) (fun p => gm (vl p.1).toNat (vl p.2).toNat) ?_ n _ ⟨hx.1, hy.1, lx, ly, e0.symm⟩ ?_
   · rintro again ⟨a, b⟩ ⟨ha, hb, la, lb, hg⟩ ih
     simp only at ha hb la lb hg
     dsimp only
     have hap := vl_nonneg ha.dig
     refine Ok.cd (fun h => ?_) (fun h => ?_)
     · have hb0 : b ≠ [] := by rintro rfl; simp at h
       have hbp := can_pos hb hb0
       have rest : Ok (bdO (fiducialref01_parts n a b) fun v57 => again (b, v57.2)) fun o => Can o.1 ∧ Can o.2 ∧ o.1.length ≤ 60 ∧ o.2.length ≤ 60 ∧ ((Nat.gcd (vl o.1).toNat (vl o.2).toNat : Nat) : Int) = gZ v w ∧ (o.2 ≠ [] → o.1.length ≤ 2 ∧ o.2.length ≤ 2) := by
        refine Ok.bd (parts_ok (by omega) ha hb hb0 (by omega) (by omega)) ?_
        rintro ⟨q, r⟩ ⟨q1, r1, r2, r3⟩
        simp only at q1 r1 r2 r3
        have hrp := vl_nonneg r1.dig
        have er : vl r = vl a % vl b := by
         have h1 : (vl q * vl b + vl r) % vl b = vl r % vl b := by rw [Int.add_comm, Int.add_mul_emod_self_right]
         rw [← r3, h1, Int.emod_eq_of_lt hrp r2]
        have ern : (vl r).toNat = (vl a).toNat % (vl b).toNat := by
         rw [er, Int.toNat_emod hap (by omega)]
        have hlt : r.length ≤ 60 := by
         by_cases hl : r.length ≤ 60
         · exact hl
         · have := can_lt_len hb.dig r1 (by omega); omega
        exact ih _ ⟨hb, r1, lb, hlt, by simp only; rw [ern, gcd_next]; exact hg⟩ (by simp only; rw [ern]; exact gm_step (by omega))
       refine Ok.cd (fun h1 => rest) (fun h1 => Ok.cd (fun h2 => rest) (fun h2 => ?_))
       have := of_decide_eq_false h1; have := of_decide_eq_false h2
       exact ok_some.2 ⟨ha, hb, la, lb, hg, fun _ => ⟨(show a.length ≤ 2 by omega), (show b.length ≤ 2 by omega)⟩⟩
     · have hb0 : b = [] := by
        cases b with
        | nil => rfl
        | cons => exact absurd (of_decide_eq_false h) (by simp)
       exact ok_some.2 ⟨ha, hb, la, lb, hg, fun h => absurd hb0 h⟩
   · obtain ⟨K, hK⟩ : ∃ K : Nat, K = 60 := ⟨_, rfl⟩
     have h1 := vl_two hx.1.dig (k := K) (by omega); have h2 := vl_two hy.1.dig (k := K) (by omega)
     have h3 := Nat.mul_lt_mul'' h1 h2
     rw [← Nat.pow_add] at h3
     have := gm_bound h3
     simp only; omega
 · rintro ⟨a, b⟩ ⟨ha, hb, la, lb, hg, hs⟩
   simp only at ha hb la lb hg hs
   dsimp only
   have hap := vl_nonneg ha.dig
   refine Ok.cd (fun h => ?_) (fun h => ?_)
   · have hb0 : b = [] := by simpa using h
     subst hb0
     refine Ok.bd (made_ok (by omega) false ha.dig (by omega)) fun y hy => ok_some.2 ?_
     have e : vl a = gZ v w := by
      rw [← hg]
      show vl a = ((Nat.gcd (vl a).toNat 0 : Nat) : Int)
      rw [Nat.gcd_zero_right]; omega
     rw [e] at hy; exact hy
   · have hb0 : b ≠ [] := by rintro rfl; simp at h
     obtain ⟨la2, lb2⟩ := hs hb0
     have wa := pair_ok (n := n) ha.dig la2
     have wb := pair_ok (n := n) hb.dig lb2
     refine Ok.bde wa.1 (Ok.bde wb.1 ?_)
     refine Ok.bd (R := fun m => m = gZ v w ∧ m < 1000000000000000000) ?_ ?_
     · refine ok_loop (fun p : Int × Int => 0 ≤ p.1 ∧ p.1 < 1000000000000000000 ∧ 0 ≤ p.2 ∧ p.2 < 1000000000000000000 ∧ ((Nat.gcd p.1.toNat p.2.toNat : Nat) : Int) = gZ v w) (fun p => gm p.1.toNat p.2.toNat) ?_ n _ ⟨wa.2.1, wa.2.2, wb.2.1, wb.2.2, hg⟩ ?_
       · rintro again' ⟨c, d⟩ ⟨c1, c2, d1, d2, hcd⟩ ih'
         simp only at c1 c2 d1 d2 hcd
         dsimp only
         refine Ok.cd (fun h => ?_) (fun h => ?_)
         · have hd := of_decide_eq_true h
           refine Ok.gd (by rw [decide_eq_false (by omega)]; rfl) ?_
           rw [(td_v c1).2]
           have hm1 := Int.emod_nonneg c (by omega : d ≠ 0)
           have hm2 := Int.emod_lt_of_pos c (by omega : 0 < d)
           have em : (c % d).toNat = c.toNat % d.toNat := Int.toNat_emod c1 d1
           exact ih' _ ⟨d1, d2, hm1, by simp only; omega, by simp only; rw [em, gcd_next]; exact hcd⟩ (by simp only; rw [em]; exact gm_step (by omega))
         · have hd := of_decide_eq_false h
           have : d = 0 := by omega
           subst this
           refine ok_some.2 ⟨?_, c2⟩
           rw [← hcd]
           simp [Nat.gcd_zero_right]; omega
       · have : gm (vl a).toNat (vl b).toNat ≤ 120 + 3 := gm_bound (by
          have h1 : (vl a).toNat < 2 ^ 60 := by omega
          have h2 : (vl b).toNat < 2 ^ 60 := by omega
          have h3 : (vl a).toNat * (vl b).toNat < 2 ^ 60 * 2 ^ 60 := Nat.mul_lt_mul'' h1 h2
          rw [← Nat.pow_add] at h3; exact h3)
         simp only; omega
     · rintro m ⟨hm, hm2⟩
       have hm0 : 0 ≤ m := by rw [hm]; exact Int.natCast_nonneg _
       rw [(td_v hm0).1, (td_v hm0).2, wrapU64_in (n := m / 1000000000) (by omega) (by omega), wrapU32_in (n := m / 1000000000) (by omega) (by omega), wrapU32_in (n := m % 1000000000) (by omega) (by omega)]
       refine Ok.bd (made_ok (by omega) false (dig_cons.2 ⟨by omega, dig_one.2 (by omega)⟩) (by simp)) fun y hy => ok_some.2 ?_
       have e : vl [m % 1000000000, m / 1000000000] = m := by
        show m % 1000000000 + 1000000000 * vl [m / 1000000000] = m
        rw [vl_one]; omega
       simp only [Bool.false_eq_true, if_false] at hy
       rw [e, hm] at hy
       exact hy
theorem Compare_ok {n : Nat} {x y : api_Int} {v w : Int} (hn : 1000 ≤ n) (hx : isI x.Negative x.Groups v) (hy : isI y.Negative y.Groups w) (lx : x.Groups.length ≤ 400) (ly : y.Groups.length ≤ 400) : fiducialref01_Compare n x y = some (sgn (v - w)) := by
 apply Ok.eq
 unfold fiducialref01_Compare
 refine Ok.bd (Sub_ok hn hx hy lx ly) fun z hz => ?_
 have := isI_len_sub hx hy hz lx ly
 exact Ok.bde (Sign_ok hn (by omega) hz) (ok_some.2 rfl)
theorem Divide_even {n : Nat} {x y : api_Int} {k w : Int} (hn : 1000 ≤ n) (hx : isI x.Negative x.Groups (k * w)) (hy : isI y.Negative y.Groups w) (hw : w ≠ 0) (lx : x.Groups.length ≤ 130) (ly : y.Groups.length ≤ 130) : Ok (fiducialref01_Divide n x y) fun z => isI z.1.Negative z.1.Groups k := by
 unfold fiducialref01_Divide
 refine Ok.bde (Value_ok hn (by omega) hx) (Ok.bde (Value_ok hn (by omega) hy) ?_)
 have hy0 : y.Groups ≠ [] := by
  intro h
  have := hy.2.2
  rw [h] at this
  have e : vl ([] : List Int) = 0 := rfl
  rw [e] at this
  apply hw; rw [this]; split <;> rfl
 refine Ok.cd (fun h => absurd h (by simp [hy0])) (fun h => ?_)
 refine Ok.bd (parts_ok hn hx.1 hy.1 hy0 (by omega) (by omega)) ?_
 rintro ⟨c, d⟩ ⟨c1, d1, d2, d3⟩
 simp only at c1 d1 d2 d3
 dsimp only
 have hyp := can_pos hy.1 hy0
 have cp := vl_nonneg c1.dig; have dp := vl_nonneg d1.dig
 have ax := isI_abs hx; have ay := isI_abs hy
 have em : vl x.Groups = (k.natAbs : Int) * vl y.Groups := by rw [ax, ay, Int.natAbs_mul]; push_cast; rfl
 have ec : vl c = (k.natAbs : Int) ∧ vl d = 0 := by
  have e : ((k.natAbs : Int) - vl c) * vl y.Groups = vl d := by rw [Int.sub_mul]; omega
  have h0 : (k.natAbs : Int) - vl c = 0 := by
   by_cases h1 : (k.natAbs : Int) - vl c = 0
   · exact h1
   · exfalso
     by_cases h2 : 1 ≤ (k.natAbs : Int) - vl c
     · have : 1 * vl y.Groups ≤ ((k.natAbs : Int) - vl c) * vl y.Groups := Int.mul_le_mul_of_nonneg_right h2 (by omega)
       omega
     · have : ((k.natAbs : Int) - vl c) * vl y.Groups ≤ (-1) * vl y.Groups := Int.mul_le_mul_of_nonneg_right (by omega) (by omega)
       omega
  rw [h0] at e
  omega
 have lc : c.length ≤ 130 := by
  by_cases hl : c.length ≤ 130
  · exact hl
  · have := can_lt_len hx.1.dig c1 (by omega)
    have : vl c * 1 ≤ vl c * vl y.Groups := Int.mul_le_mul_of_nonneg_left (by omega) cp
    omega
 have hd0 : d = [] := can_zero d1 ec.2
 subst hd0
 refine Ok.bd (made_ok hn _ c1.dig (by omega)) fun z hz => ?_
 have hzk : isI z.Negative z.Groups k := by
  have nx := hx.2.2; have ny := hy.2.2
  have : k = (if (x.Negative != y.Negative) = true then -vl c else vl c) := by
   rw [ec.1]
   have hk : k = 0 ∨ 0 < k ∨ k < 0 := by omega
   cases hxn : x.Negative <;> cases hyn : y.Negative <;> rw [hxn] at nx <;> rw [hyn] at ny <;> simp only [Bool.false_eq_true, if_false, if_true] at nx ny <;> simp <;> rcases hk with hk | hk | hk <;> try omega
   all_goals exfalso
   all_goals
    first
    | (have h8 := Int.mul_neg_of_neg_of_pos hk (by omega : 0 < w); have := vl_nonneg hx.1.dig; omega)
    | (have h8 := Int.mul_pos hk (by omega : 0 < w); have hxp := can_pos hx.1 (hx.2.1 hxn); omega)
    | (have h8 := Int.mul_neg_of_pos_of_neg hk (by omega : w < 0); have := vl_nonneg hx.1.dig; omega)
    | (have h8 := Int.mul_pos_of_neg_of_neg hk (by omega : w < 0); have hxp := can_pos hx.1 (hx.2.1 hxn); omega)
  rw [this]; exact hz
 have hcl := vl_lt c1.dig
 have hcm := pB_mono lc
 have lz := isI_len hzk (k := 130) (by omega) (by omega)
 have tail : ∀ {β : Type} (f : api_Int → api_Int → Option β) {Q : β → Prop}, (∀ m d, Ok (f m d) Q) → Ok (bdO (fiducialref01_Mul n z y) fun v20 => bdO (fiducialref01_Sub n x v20) fun v22 => f v20 v22) Q := by
  intro β f Q hf
  refine Ok.bd (Mul_ok hn hzk hy (by omega) (by omega)) fun p hp => ?_
  have lp : p.Groups.length ≤ 130 := by rw [(isI_inj hp hx).2]; exact lx
  exact Ok.bd (Sub_ok hn hx hp (by omega) (by omega)) fun d _ => hf p d
 refine Ok.cd (fun h => ?_) (fun h => ?_)
 · refine Ok.cd (fun h => absurd (of_decide_eq_true h) (by simp)) (fun h => ?_)
   exact tail (fun m d => some ((z, d, 0))) fun m d => ok_some.2 hzk
 · exact tail (fun m d => some ((z, d, 0))) fun m d => ok_some.2 hzk
end Go.L.R


set_option linter.all false
namespace Go.L.R
open Go Go.Eng Go.L
def Qx (x : api_Rat) (r : Rat) (k : Nat) : Prop := QL x.Num.Negative x.Num.Groups x.Den.Negative x.Den.Groups r k
theorem neg_len {p q : Bool} {g h : List Int} {v : Int} (a : isI p g v) (b : isI q h (-v)) {k : Nat} (hk : g.length ≤ k) : h.length ≤ k := by
 have := isI_bound a hk
 exact isI_len b (by omega) (by omega)
theorem reduced_ok {n : Nat} {x y : api_Int} {p q : Int} {k : Nat} (hn : 5000 ≤ n) (hk : k ≤ 60) (hx : isI x.Negative x.Groups p) (hy : isI y.Negative y.Groups q) (lx : x.Groups.length ≤ k) (ly : y.Groups.length ≤ k) (hq : q ≠ 0) :
  Ok (fiducialref02_reduced n x y) fun z => Qx z (Rat.divInt p q) k := by
 unfold fiducialref02_reduced
 have hg := gZ_pos (v := p) hq
 refine Ok.bd (Gcd_ok hn hx hy (by omega) (by omega)) fun g hgi => ?_
 have bq := isI_bound hy ly
 have bp := isI_bound hx lx
 have dp := gZ_dvd_left p q
 have dq := gZ_dvd_right p q
 have ap := abs_ediv_le p _ hg dp
 have aq := abs_ediv_le q _ hg dq
 have hq0 : q / gZ p q ≠ 0 := by intro h; rw [h, Int.zero_mul] at dq; exact hq dq
 have gq : gZ p q ≤ (q.natAbs : Int) := by
  have e : q.natAbs = (q / gZ p q).natAbs * (gZ p q).natAbs := by rw [← Int.natAbs_mul, ← dq]
  have : 1 * (gZ p q).natAbs ≤ (q / gZ p q).natAbs * (gZ p q).natAbs := Nat.mul_le_mul_right _ (by omega)
  omega
 have lg : g.Groups.length ≤ k := isI_len hgi (by omega) (by omega)
 refine Ok.bde (Sign_ok (by omega) (by omega) hy) ?_
 have hs := sgn_cases q
 refine Ok.cd (fun h => ?_) (fun h => ?_)
 · have hneg : q < 0 := by have := of_decide_eq_true h; omega
   refine Ok.bd (Neg_ok (by omega) (by omega) hgi) fun g' hg' => ?_
   have lg' := neg_len hgi hg' lg
   refine Ok.bd (Divide_even (k := -(p / gZ p q)) (by omega) (by rw [Int.neg_mul_neg, ← dp]; exact hx) hg' (by omega) (by omega) (by omega)) fun a ha => ?_
   refine Ok.bd (Divide_even (k := -(q / gZ p q)) (by omega) (by rw [Int.neg_mul_neg, ← dq]; exact hy) hg' (by omega) (by omega) (by omega)) fun b hb => ok_some.2 ?_
   have eg : gZ (-p) (-q) = gZ p q := by unfold gZ; rw [Int.natAbs_neg, Int.natAbs_neg]
   have e1 : (Rat.divInt p q).num = -(p / gZ p q) := by
    rw [← divInt_neg, divInt_num (by omega), eg]
    rw [show -p = (-(p / gZ p q)) * gZ p q by rw [Int.neg_mul, ← dp], Int.mul_ediv_cancel _ (by omega)]
   have e2 : ((Rat.divInt p q).den : Int) = -(q / gZ p q) := by
    rw [← divInt_neg, divInt_den (by omega), eg]
    rw [show -q = (-(q / gZ p q)) * gZ p q by rw [Int.neg_mul, ← dq], Int.mul_ediv_cancel _ (by omega)]
   exact ⟨by rw [e1]; exact ha, by rw [e2]; exact hb, isI_len ha (by omega) (by omega), isI_len hb (by omega) (by omega)⟩
 · have hpos : 0 < q := by have := of_decide_eq_false h; omega
   refine Ok.bd (Divide_even (k := p / gZ p q) (by omega) (by rw [← dp]; exact hx) hgi (by omega) (by omega) (by omega)) fun a ha => ?_
   refine Ok.bd (Divide_even (k := q / gZ p q) (by omega) (by rw [← dq]; exact hy) hgi (by omega) (by omega) (by omega)) fun b hb => ok_some.2 ?_
   exact ⟨by rw [divInt_num hpos]; exact ha, by rw [divInt_den hpos]; exact hb, isI_len ha (by omega) (by omega), isI_len hb (by omega) (by omega)⟩
theorem whole_ok {n : Nat} {v : Int} (hn : 5000 ≤ n) (h0 : -9223372036854775808 ≤ v) (hv : v ≤ 9223372036854775807) : Ok (fiducialref02_whole n v) fun z => isI z.Negative z.Groups v := by
 unfold fiducialref02_whole
 exact Ok.bd (Of_ok (by omega) h0 hv) fun a ha => ok_some.2 ha
theorem qValid_ok {n : Nat} {x : api_Rat} {r : Rat} {k : Nat} (hn : 5000 ≤ n) (hk : k ≤ 60) (h : Qx x r k) : fiducialref02_Valid n x = some true := by
 apply Ok.eq
 unfold fiducialref02_Valid
 have hp := den_pos r
 have hnl := h.nl; have hdl := h.dl
 refine Ok.bde (Valid_ok (by omega) (by omega) h.num) (Ok.cd (fun h => by cases h) fun _ => ?_)
 refine Ok.bde (Valid_ok (by omega) (by omega) h.den) (Ok.cd (fun h => by cases h) fun _ => ?_)
 refine Ok.bde (Sign_ok (by omega) (by omega) h.den) ?_
 rw [sgn_pos hp]
 refine Ok.cd (fun h => absurd h (by decide)) fun _ => ?_
 refine Ok.bd (Gcd_ok hn h.num h.den (by omega) (by omega)) fun g hg => ?_
 rw [gZ_red] at hg
 refine Ok.bd (whole_ok (by omega) (by decide) (by decide)) fun one h1 => ?_
 have l1 := isI_len_of h1 (by decide) (by decide)
 have lg := isI_len_of hg (by decide) (by decide)
 exact Ok.bde (Compare_ok (by omega) hg h1 (by omega) (by omega)) (ok_some.2 rfl)
theorem qValue_ok {n : Nat} {x : api_Rat} {r : Rat} {k : Nat} (hn : 5000 ≤ n) (hk : k ≤ 60) (h : Qx x r k) : fiducialref02_Value n x = some x := by
 unfold fiducialref02_Value; rw [qValid_ok hn hk h]; rfl
theorem qWhole_ok {n : Nat} {v : Int} (hn : 5000 ≤ n) (h0 : -9223372036854775808 ≤ v) (hv : v ≤ 9223372036854775807) : Ok (fiducialref02_Whole n v) fun z => Qx z (Rat.divInt v 1) 3 := by
 unfold fiducialref02_Whole
 refine Ok.bd (whole_ok (by omega) h0 hv) fun a ha => Ok.bd (whole_ok (by omega) (by decide) (by decide)) fun b hb => ok_some.2 ?_
 obtain ⟨e1, e2⟩ := whole_num v
 exact ⟨by rw [e1]; exact ha, by rw [e2]; exact hb, isI_len_of ha h0 hv, isI_len_of hb (by decide) (by decide)⟩
theorem qOf_ok {n : Nat} {p q : Int} (hn : 5000 ≤ n) (h0 : -9223372036854775808 ≤ p) (hv : p ≤ 9223372036854775807) (h1 : -9223372036854775808 ≤ q) (hv1 : q ≤ 9223372036854775807) (hq : q ≠ 0) : Ok (fiducialref02_Of n p q) fun z => Qx z.1 (Rat.divInt p q) 3 ∧ z.2 = 0 := by
 unfold fiducialref02_Of fiducialref02_New
 refine Ok.bd (whole_ok (by omega) h0 hv) fun a ha => Ok.bd (whole_ok (by omega) h1 hv1) fun b hb => ?_
 have la := isI_len_of ha h0 hv; have lb := isI_len_of hb h1 hv1
 refine Ok.bd (R := fun z => Qx z.1 (Rat.divInt p q) 3 ∧ z.2 = 0) ?_ fun z hz => ok_some.2 hz
 refine Ok.bde (Sign_ok (by omega) (by omega) hb) ?_
 have hs := sgn_cases q
 refine Ok.cd (fun h => ?_) (fun h => ?_)
 · have : sgn q = 0 := by simpa using h
   omega
 · exact Ok.bd (reduced_ok hn (by omega) ha hb la lb hq) fun z hz => ok_some.2 ⟨hz, rfl⟩
theorem add_rat (a b : Rat) : Rat.divInt (a.num * (b.den : Int) + b.num * (a.den : Int)) ((a.den : Int) * (b.den : Int)) = a + b := by
 have h1 := den_pos a; have h2 := den_pos b
 rw [← Rat.divInt_add_divInt _ _ (by omega) (by omega), Rat.num_divInt_den, Rat.num_divInt_den]
theorem qAdd_ok {n : Nat} {x y : api_Rat} {a b : Rat} {j k : Nat} (hn : 5000 ≤ n) (hk : j + k + 1 ≤ 60) (hx : Qx x a j) (hy : Qx y b k) : Ok (fiducialref02_Add n x y) fun z => Qx z (a + b) (j + k + 1) := by
 unfold fiducialref02_Add
 refine Ok.bde (qValue_ok hn (by omega) hx) (Ok.bde (qValue_ok hn (by omega) hy) ?_)
 have n1 := hx.nl; have n2 := hy.nl; have d1 := hx.dl; have d2 := hy.dl
 refine Ok.bd (Mul_ok (by omega) hx.num hy.den (by omega) (by omega)) fun p hp => Ok.bd (Mul_ok (by omega) hy.num hx.den (by omega) (by omega)) fun p' hp' => ?_
 have lp := isI_len_mul hx.num hy.den hp n1 d2
 have lp' := isI_len_mul hy.num hx.den hp' n2 d1
 refine Ok.bd (Add_ok (by omega) hp hp' (by omega) (by omega)) fun s hs => Ok.bd (Mul_ok (by omega) hx.den hy.den (by omega) (by omega)) fun q hq => ?_
 have ls := isI_len_add hp hp' hs (k := j + k) (by omega) (by omega)
 have lq := isI_len_mul hx.den hy.den hq d1 d2
 have h1 := den_pos a; have h2 := den_pos b
 have h3 : (0 : Int) < (a.den : Int) * (b.den : Int) := Int.mul_pos h1 h2
 refine Ok.bd (reduced_ok hn hk hs hq (by omega) (by omega) (by omega)) fun z hz => ok_some.2 ?_
 rw [add_rat] at hz; exact hz
theorem qNeg_ok {n : Nat} {x : api_Rat} {a : Rat} {k : Nat} (hn : 5000 ≤ n) (hk : k ≤ 60) (hx : Qx x a k) : Ok (fiducialref02_Neg n x) fun z => Qx z (-a) k := by
 unfold fiducialref02_Neg
 have n1 := hx.nl
 refine Ok.bde (qValue_ok hn hk hx) (Ok.bd (Neg_ok (by omega) (by omega) hx.num) fun z hz => ok_some.2 ?_)
 exact ⟨(show (-a).num = -a.num from rfl) ▸ hz, (show (-a).den = a.den from rfl) ▸ hx.den, neg_len hx.num hz hx.nl, hx.dl⟩
theorem qSub_ok {n : Nat} {x y : api_Rat} {a b : Rat} {j k : Nat} (hn : 5000 ≤ n) (hk : j + k + 1 ≤ 60) (hx : Qx x a j) (hy : Qx y b k) : Ok (fiducialref02_Sub n x y) fun z => Qx z (a - b) (j + k + 1) := by
 unfold fiducialref02_Sub
 refine Ok.bd (qNeg_ok hn (by omega) hy) fun v hv => Ok.bd (qAdd_ok hn hk hx hv) fun z hz => ok_some.2 ?_
 rw [Rat.sub_eq_add_neg]; exact hz
theorem qSign_ok {n : Nat} {x : api_Rat} {a : Rat} {k : Nat} (hn : 5000 ≤ n) (hk : k ≤ 60) (hx : Qx x a k) : fiducialref02_Sign n x = some (sgn a.num) := by
 unfold fiducialref02_Sign
 have n1 := hx.nl
 rw [qValue_ok hn hk hx]
 show bdO (fiducialref01_Sign n x.Num) _ = _
 rw [Sign_ok (by omega) (by omega) hx.num]; rfl
theorem qCompare_ok {n : Nat} {x y : api_Rat} {a b : Rat} {j k : Nat} (hn : 5000 ≤ n) (hk : j + k + 1 ≤ 60) (hx : Qx x a j) (hy : Qx y b k) : fiducialref02_Compare n x y = some (sgn (a - b).num) := by
 apply Ok.eq
 unfold fiducialref02_Compare
 exact Ok.bd (qSub_ok hn hk hx hy) fun v hv => Ok.bde (qSign_ok hn hk hv) (ok_some.2 rfl)
end Go.L.R


set_option linter.unusedVariables false
namespace Go.L
open Go Go.Eng
theorem QL.tight {nn dn : Bool} {ng dg : List Int} {r : Rat} {j : Nat} (h : QL nn ng dn dg r j) {p q : Int} {k : Nat} (hr : r = Rat.divInt p q) (hq : 0 < q) (h1 : -pB k < p) (h2 : p < pB k) (h3 : q < pB k) : QL nn ng dn dg r k := by
 subst hr
 have hg := gZ_pos (v := p) (w := q) (by omega)
 have a1 := abs_ediv_le p _ hg (gZ_dvd_left p q)
 have a2 := abs_ediv_le q _ hg (gZ_dvd_right p q)
 have e1 := divInt_num (p := p) hq
 have e2 := divInt_den (p := p) hq
 refine ⟨h.num, h.den, isI_len h.num (by rw [e1]; omega) (by rw [e1]; omega), isI_len h.den (by rw [e2]; have := pB_pos k; omega) (by rw [e2]; omega)⟩
theorem pB3 : pB 3 = 1000000000000000000000000000 := rfl
end Go.L


set_option linter.unusedVariables false
namespace Go.L
open Go Go.Eng
theorem sgn_sub {p q s t : Int} (hq : 0 < q) (ht : 0 < t) : sgn (Rat.divInt p q - Rat.divInt s t).num = sgn (p * t - s * q) := by
 rw [Rat.divInt_sub_divInt _ _ (by omega) (by omega)]
 have hp := Int.mul_pos hq ht
 rw [divInt_num hp]
 have hg := gZ_pos (v := p * t - s * q) (w := q * t) (by omega)
 have he := gZ_dvd_left (p * t - s * q) (q * t)
 generalize gZ (p * t - s * q) (q * t) = g at *
 generalize p * t - s * q = x at *
 have h0 := sgn_cases x
 have h1 := sgn_cases (x / g)
 have a1 : 0 < x → 0 < x / g := fun h => by
  by_cases hc : 0 < x / g
  · exact hc
  · have := Int.mul_le_mul_of_nonneg_right (show x / g ≤ 0 by omega) (show 0 ≤ g by omega); omega
 have a2 : x < 0 → x / g < 0 := fun h => by
  by_cases hc : x / g < 0
  · exact hc
  · have := Int.mul_nonneg (show 0 ≤ x / g by omega) (show 0 ≤ g by omega); omega
 have a3 : x = 0 → x / g = 0 := fun h => by rw [h]; simp
 omega
end Go.L


set_option linter.all false
namespace Go.L
open Go Go.Eng
end Go.L

