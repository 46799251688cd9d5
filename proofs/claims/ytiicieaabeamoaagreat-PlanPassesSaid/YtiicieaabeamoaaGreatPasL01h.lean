import Derived.Test.YtiicieaabeamoaaGreatPasL01l
set_option linter.all false
namespace Go.L
open Go Go.Eng
theorem shortR_ok {d : Int} (hd : 0 < d) (hd2 : d ≤ 1000000000) : ∀ {l : List Int}, Dig l → Dig (shortR d l).1 ∧ (shortR d l).1.length = l.length ∧ (0 ≤ (shortR d l).2 ∧ (shortR d l).2 < d) ∧ vl (shortR d l).1 * d + (shortR d l).2 = vl l
 | [], _ => ⟨dig_nil, rfl, ⟨Int.le_refl _, hd⟩, by show 0 * d + 0 = 0; omega⟩
 | g :: l, h => by
  have h' := dig_cons.1 h
  obtain ⟨h1, h2, h3, h4⟩ := shortR_ok hd hd2 h'.2
  unfold shortR
  rcases hqr : shortR d l with ⟨q, r⟩
  simp only [hqr] at h1 h2 h3 h4 ⊢
  have m0 : r * 1000000000 ≤ (d - 1) * 1000000000 := by omega
  rw [wrapU64_in (n := r * 1000000000) (by omega) (by omega), wrapU64_in (n := g) (by omega) (by omega), wrapU64_in (n := r * 1000000000 + g) (by omega) (by omega)]
  generalize hs : r * 1000000000 + g = s
  have hs0 : 0 ≤ s := by omega
  rw [(td_v hs0).1, (td_v hs0).2]
  have hm := Int.emod_add_mul_ediv s d
  have hm1 := Int.emod_nonneg s (by omega : d ≠ 0)
  have hm2 := Int.emod_lt_of_pos s hd
  have hq0 : 0 ≤ s / d := Int.ediv_nonneg hs0 (by omega)
  have hq1 : s / d < 1000000000 := (Int.ediv_lt_iff_lt_mul hd).2 (by omega)
  rw [wrapU64_in hq0 (by omega), wrapU32_in hq0 (by omega)]
  refine ⟨dig_cons.2 ⟨⟨hq0, hq1⟩, h1⟩, by simp [h2], ⟨hm1, hm2⟩, ?_⟩
  show (s / d + 1000000000 * vl q) * d + s % d = g + 1000000000 * vl l
  rw [← h4]
  grind
theorem trimE_ok : ∀ {l : List Int}, Dig l → Can (trimE l) ∧ vl (trimE l) = vl l
 | [], _ => ⟨trivial, rfl⟩
 | d :: l, h => by
  have h' := dig_cons.1 h
  obtain ⟨h1, h2⟩ := trimE_ok h'.2
  unfold trimE
  show _ ∧ _ = d + 1000000000 * vl l
  rw [← h2]
  cases ht : trimE l with
  | nil =>
   simp only
   split
   · rename_i hd
     have : d = 0 := by simpa using hd
     subst this; exact ⟨trivial, rfl⟩
   · rename_i hd
     have : d ≠ 0 := by simpa using hd
     exact ⟨⟨h'.1, fun _ => this, trivial⟩, rfl⟩
  | cons e r =>
   rw [ht] at h1
   exact ⟨⟨h'.1, fun h => by simp at h, h1⟩, rfl⟩
theorem short_ok {n : Nat} {a : List Int} {d : Int} (ha : Dig a) (la : a.length ≤ 900) (hd : 0 < d) (hd2 : d ≤ 1000000000) : Ok (integer_short n a d) fun r => Can r.1 ∧ (0 ≤ r.2 ∧ r.2 < d) ∧ vl r.1 * d + r.2 = vl a := by
 unfold integer_short
 obtain ⟨h1, h2, h3, h4⟩ := shortR_ok hd hd2 ha
 obtain ⟨t1, t2⟩ := trimE_ok h1
 refine Ok.gd (by simp; omega) (Ok.gd (by simp; omega) (Ok.gd (by simp; omega) (ok_some.2 ?_)))
 simp only
 rw [wrapU32_in h3.1 (by omega), t2]
 exact ⟨t1, h3, h4⟩
theorem times_w_eq (n : Nat) (a b : List Int) : integer_times_w n a b = integer_times n a b := rfl
theorem can_top {b : List Int} (hb : Can b) (lb : 1 ≤ b.length) : 1 ≤ b.getD (b.length - 1) 0 ∧ b.getD (b.length - 1) 0 < 1000000000 ∧ pB (b.length - 1) * b.getD (b.length - 1) 0 ≤ vl b ∧ vl b < pB (b.length - 1) * (b.getD (b.length - 1) 0 + 1) := by
 have h1 := can_last hb (by rintro rfl; simp at lb)
 have h2 := dig_at hb.dig (b.length - 1)
 have e := vl_vk_drop b (b.length - 1)
 have e2 := vl_drop0 b (b.length - 1)
 rw [List.drop_of_length_le (by omega : b.length ≤ b.length - 1 + 1)] at e2
 have e3 : vl ([] : List Int) = 0 := rfl
 have e4 : vl (b.drop (b.length - 1)) = b.getD (b.length - 1) 0 := by omega
 rw [e4] at e
 have h3 := vk_nonneg hb.dig (b.length - 1)
 have h4 := vk_lt hb.dig (b.length - 1)
 refine ⟨by omega, h2.2, by omega, ?_⟩
 rw [Int.mul_add]; omega
theorem long_ok {n : Nat} {a b : List Int} (hn : 1000 ≤ n) (ha : Can a) (hb : Can b) (lb : 2 ≤ b.length) (la : a.length ≤ 300) (lb2 : b.length ≤ 300) (hle : vl b ≤ vl a) : Ok (integer_long n a b) fun r => Can r.1 ∧ Can r.2 ∧ vl r.2 < vl b ∧ vl r.1 * vl b + vl r.2 = vl a := by
 unfold integer_long
 obtain ⟨t1, t2, t3, t4⟩ := can_top hb (by omega)
 rw [w64_pred (k := b.length) (by omega) (by omega), gt_int]
 obtain ⟨t, ht⟩ : ∃ t, b.getD (b.length - 1) 0 = t := ⟨_, rfl⟩
 rw [ht] at t1 t2 t3 t4 ⊢
 rw [wrapU64_in (n := t) (by omega) (by omega), wrapU64_in (n := t + 1) (by omega) (by omega), (td_v (by omega : (0 : Int) ≤ 1000000000)).1]
 obtain ⟨s, hs⟩ : ∃ s, (1000000000 : Int) / (t + 1) = s := ⟨_, rfl⟩
 obtain ⟨s1, s2, s3, s4⟩ := scale_great t1 t2 hs.symm
 rw [hs, wrapU64_in (n := s) (by omega) (by omega), wrapU32_in (n := s) (by omega) (by omega)]
 refine Ok.gd (by rw [inR_nat]; simp; omega) (Ok.gd (by rw [decide_eq_false (by omega)]; rfl) ?_)
 have hds : Dig [s] := dig_one.2 (by omega)
 rw [times_w_eq, times_w_eq]
 refine Ok.bd (times_ok hn ha.dig hds (by omega) (by simp)) ?_
 rintro u ⟨u1, u2⟩
 refine Ok.bd (times_ok hn hb.dig hds (by omega) (by simp)) ?_
 rintro v ⟨v1, v2⟩
 rw [vl_one] at u2 v2
 have hp := pB_pos (b.length - 1)
 have ep : pB b.length = 1000000000 * pB (b.length - 1) := by rw [← pB_succ, (by omega : b.length - 1 + 1 = b.length)]
 have hvlt : vl v < pB b.length := by
  have : vl b * s ≤ (pB (b.length - 1) * (t + 1) - 1) * s := Int.mul_le_mul_of_nonneg_right (by omega) (by omega)
  have e : (pB (b.length - 1) * (t + 1) - 1) * s = pB (b.length - 1) * ((t + 1) * s) - s := by grind
  have : pB (b.length - 1) * ((t + 1) * s) ≤ pB (b.length - 1) * 1000000000 := Int.mul_le_mul_of_nonneg_left s4 (by omega)
  omega
 have hvge : 500000000 * pB (b.length - 1) ≤ vl v := by
  have h1 : (pB (b.length - 1) * t) * s ≤ vl b * s := Int.mul_le_mul_of_nonneg_right t3 (by omega)
  have e : (pB (b.length - 1) * t) * s = pB (b.length - 1) * (t * s) := by grind
  have h2 : pB (b.length - 1) * 500000000 ≤ pB (b.length - 1) * (t * s) := Int.mul_le_mul_of_nonneg_left s1 (by omega)
  omega
 have lv : v.length = b.length := by
  have h1 := can_len v1 hvlt
  by_cases h : v.length = b.length
  · exact h
  · have h2 := vl_lt v1.dig
    have h3 := pB_mono (by omega : v.length ≤ b.length - 1)
    omega
 have hv1 : 500000000 ≤ v.getD (v.length - 1) 0 := by
  obtain ⟨c1, c2, c3, c4⟩ := can_top v1 (by omega)
  rw [lv] at c4 ⊢
  by_cases h : 500000000 ≤ v.getD (b.length - 1) 0
  · exact h
  · have : pB (b.length - 1) * (v.getD (b.length - 1) 0 + 1) ≤ pB (b.length - 1) * 500000000 := Int.mul_le_mul_of_nonneg_left (by omega) (by omega)
    omega
 have lu : u.length ≤ a.length + 1 := can_len u1 (by
  have h1 := vl_lt ha.dig; have h2 := vl_nonneg ha.dig
  rw [u2, pB_succ]
  have : vl a * s ≤ vl a * 1000000000 := Int.mul_le_mul_of_nonneg_left (by omega) h2
  omega)
 have luv : v.length ≤ u.length := by
  by_cases h : v.length ≤ u.length
  · exact h
  · have := can_lt_len u1.dig v1 (by omega)
    have : vl b * s ≤ vl a * s := Int.mul_le_mul_of_nonneg_right hle (by omega)
    omega
 have fin : ∀ (u0 : List Int) (m : Nat) (q r : List Int), vl u0 = vl u → u0.length = v.length + m → u0.length ≤ 900 → LongR v u0 m (q, r) →
   Ok (gdO (inS 0 (v.length : Int) r.length) (bdO (integer_trim n (r.take (v.length : Int).toNat)) fun v308 => bdO (integer_short n v308 s) fun v310 => bdO (integer_trim n q) fun v312 => some ((v312, v310.1)))) fun r => Can r.1 ∧ Can r.2 ∧ vl r.2 < vl b ∧ vl r.1 * vl b + vl r.2 = vl a := by
  rintro u0 m q r e0 e1 e2 ⟨q1, q2, q3, q4, q5, q6⟩
  simp only at q1 q2 q3 q4 q5 q6
  refine Ok.gd (inS_iff.2 (by omega)) ?_
  rw [Int.toNat_natCast]
  have hz : ∀ k, v.length ≤ k → r.getD k 0 = 0 := zero_of q2 (vl_drop_small q2 (Int.lt_trans q5 (vl_lt v1.dig)))
  refine Ok.bd (trim_ok hn (dig_take q2 _) (by rw [List.length_take]; omega)) ?_
  rintro w ⟨w1, w2⟩
  rw [vl_cut (by omega) hz] at w2
  have lw : w.length ≤ 900 := by
   have := can_len w1 (k := v.length) (by rw [w2]; exact Int.lt_trans q5 (vl_lt v1.dig)); omega
  refine Ok.bd (short_ok w1.dig lw (by omega) (by omega)) ?_
  rintro ⟨y, c⟩ ⟨y1, y2, y3⟩
  simp only at y1 y2 y3
  refine Ok.bd (trim_ok hn q1 (by omega)) ?_
  rintro z ⟨z1, z2⟩
  refine ok_some.2 ⟨z1, y1, ?_, ?_⟩
  all_goals simp only
  ·
   have hmul : (vl y * s + c) + vl q * (vl b * s) = vl a * s := by rw [y3, w2, ← v2, ← u2, ← e0]; exact q6
   have hlt : vl y * s < vl b * s := by
    have : vl y * s + c < vl b * s := by rw [y3, w2, ← v2]; exact q5
    omega
   exact Int.lt_of_mul_lt_mul_right hlt (by omega)
  · have hmul : (vl y * s + c) + vl q * (vl b * s) = vl a * s := by rw [y3, w2, ← v2, ← u2, ← e0]; exact q6
    have e : c = (vl a - vl y - vl q * vl b) * s := by grind
    have hc0 : vl a - vl y - vl q * vl b = 0 := by
     by_cases h1 : vl a - vl y - vl q * vl b = 0
     · exact h1
     · exfalso
       by_cases h2 : 1 ≤ vl a - vl y - vl q * vl b
       · have : 1 * s ≤ (vl a - vl y - vl q * vl b) * s := Int.mul_le_mul_of_nonneg_right h2 (by omega)
         omega
       · have : (vl a - vl y - vl q * vl b) * s ≤ (-1) * s := Int.mul_le_mul_of_nonneg_right (by omega) (by omega)
         omega
    rw [z2]; omega
 have h500 : pB (v.length - 1) ≤ vl v := by rw [lv]; omega
 have top0 : ∀ (w : List Int) (m : Nat), Dig w → w.length + 1 = v.length + m → vl ((w ++ [0]).drop m) < vl v := by
  intro w m hw hl
  have e : (w ++ [0]).drop m = w.drop m ++ [0] := by rw [List.drop_append_of_le_length (by omega)]
  rw [e, vl_app, vl_one]
  have h1 := vl_lt (dig_drop hw m)
  rw [List.length_drop, (by omega : w.length - m = v.length - 1)] at h1
  omega
 refine Ok.gd (by simp; omega) (Ok.gd (by simp; omega) ?_)
 have d1 : Dig (u ++ [0]) := dig_app.2 ⟨u1.dig, dig_one.2 (by omega)⟩
 have e1 : vl (u ++ [0]) = vl u := by rw [vl_app, vl_one]; omega
 have l1 : (u ++ [(0 : Int)]).length = u.length + 1 := by simp
 have d2 : Dig ((u ++ [0]) ++ [0]) := dig_app.2 ⟨d1, dig_one.2 (by omega)⟩
 have e2 : vl ((u ++ [0]) ++ [0]) = vl u := by rw [vl_app, vl_one, e1]; omega
 have l2 : ((u ++ [(0 : Int)]) ++ [(0 : Int)]).length = u.length + 2 := by simp
 refine Ok.bd (R := fun w => Dig w ∧ vl w = vl u ∧ v.length ≤ w.length ∧ w.length ≤ 900 ∧ vl (w.drop (w.length - v.length)) < vl v) ?_ ?_
 · refine Ok.cd (fun h => ?_) (fun h => ok_some.2 ?_)
   · refine Ok.gd (by simp; omega) (Ok.gd (by simp; omega) (ok_some.2 ⟨d2, e2, by omega, by omega, ?_⟩))
     exact top0 _ _ d1 (by omega)
   · exact ⟨d1, e1, by omega, by omega, top0 _ _ u1.dig (by omega)⟩
 rintro w ⟨w1, w2, w3, w4, w5⟩
 have hw : wrapF .i64 ((w.length : Int) - (v.length : Int)) = ((w.length - v.length : Nat) : Int) := by rw [wrap64_in (by omega) (by omega)]; omega
 rw [hw, Int.toNat_natCast]
 refine Ok.gd (by simp; try omega) (Ok.gd (by simp; try omega) (Ok.gd (by simp; try omega) ?_))
 refine Ok.bd (main_ok hn v1.dig hv1 (by omega) (by omega) w1 (m := w.length - v.length) (by omega) (by omega) w5 (by rw [wrap64_in (by omega) (by omega)])) ?_
 rintro ⟨q, r⟩ hqr
 exact fin _ _ q r w2 (by omega) (by omega) hqr
end Go.L

