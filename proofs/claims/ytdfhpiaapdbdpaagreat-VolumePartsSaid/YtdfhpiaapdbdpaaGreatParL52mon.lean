import Derived.Test.YtdfhpiaapdbdpaaGreatParL52m
set_option linter.all false
set_option linter.unusedVariables false
namespace Go.L
open Go Go.Eng
theorem div_le {p q p' q' : Rat} (hq : 0 < q) (hq' : 0 < q') (h : 0 ≤ p' * q - p * q') : p / q ≤ p' / q' := by
 have e : p' / q' - p / q = (p' * q - p * q') / (q * q') := by
  have h1 : q ≠ 0 := by grind
  have h2 : q' ≠ 0 := by grind
  grind
 have := div_nonneg h (Rat.mul_pos hq hq')
 rw [← e] at this
 grind
theorem sp_ex (a b c : Rat) : ∃ x y, Sp a b c x y := by
 rcases sp_cases a b c with ⟨h1, h2, h3⟩ | ⟨h1, h2, h3⟩ | ⟨h1, h2, h3⟩ | ⟨h1, h2, h3⟩ | ⟨h1, h2, h3⟩ | ⟨h1, h2, h3⟩ | ⟨h1, h2, h3⟩ | ⟨h1, h2, h3⟩
 · exact ⟨_, _, sp_all h1 h2 h3⟩
 · exact ⟨_, _, sp_none h1 h2 h3⟩
 · exact ⟨_, _, sp_one h1 h2 h3⟩
 · exact ⟨_, _, (sp_one h1 h2 h3).s12⟩
 · exact ⟨_, _, (sp_one h1 h2 h3).s12.s23⟩
 · exact ⟨_, _, sp_two h1 h2 h3⟩
 · exact ⟨_, _, (sp_two h1 h2 h3).s12⟩
 · exact ⟨_, _, (sp_two h1 h2 h3).s12.s23⟩
noncomputable def XQ (a b c : Rat) : Rat := Classical.choose (sp_ex a b c)
noncomputable def YQ (a b c : Rat) : Rat := Classical.choose (Classical.choose_spec (sp_ex a b c))
theorem xy_sp (a b c : Rat) : Sp a b c (XQ a b c) (YQ a b c) := Classical.choose_spec (Classical.choose_spec (sp_ex a b c))
theorem xq_of {a b c x y : Rat} (h : Sp a b c x y) : x = XQ a b c ∧ y = YQ a b c := h.uniq (xy_sp a b c)
theorem xq_12 (a b c : Rat) : XQ a b c = XQ b a c := (xq_of (xy_sp a b c).s12).1
theorem xq_23 (a b c : Rat) : XQ a b c = XQ a c b := (xq_of (xy_sp a b c).s23).1
theorem yq_neg (a b c : Rat) : YQ a b c = XQ (-a) (-b) (-c) := (xq_of (xy_sp a b c).neg).1
theorem xq_two {n b c : Rat} (hn : 0 < n) (hb : 0 ≤ b) (hc : 0 ≤ c) : XQ (-n) b c = ((b * b + b * c + c * c) * n + b * c * (b + c)) / (3 * ((n + b) * (n + c))) := by
 have h := (xq_of (sp_two (a := -n) (b := b) (c := c) (by grind) hb hc)).1
 have h1 : n + b ≠ 0 := by grind
 have h2 : n + c ≠ 0 := by grind
 rw [← h]
 unfold tipQ meanQ
 grind
theorem xq_one {a b c : Rat} (h1 : 0 < a) (h2 : b ≤ 0) (h3 : c ≤ 0) : XQ a b c = a * (a * a) / (3 * ((a - b) * (a - c))) := (xq_of (sp_one h1 h2 h3)).1.symm
theorem xq_all {a b c : Rat} (h1 : 0 ≤ a) (h2 : 0 ≤ b) (h3 : 0 ≤ c) : XQ a b c = (a + (b + c)) / 3 := (xq_of (sp_all h1 h2 h3)).1.symm
theorem xq_none {a b c : Rat} (h1 : a ≤ 0) (h2 : b ≤ 0) (h3 : c ≤ 0) : XQ a b c = 0 := (xq_of (sp_none h1 h2 h3)).1.symm
theorem pos_den {u v : Rat} (hu : 0 < u) (hv : 0 < v) : 0 < 3 * (u * v) := by have := Rat.mul_pos hu hv; grind
theorem mon_ppn {n m b c : Rat} (hn : 0 ≤ n) (hnm : n ≤ m) (hb : 0 ≤ b) (hc : 0 ≤ c) : XQ (-m) b c ≤ XQ (-n) b c := by
 by_cases hm : 0 < m
 rotate_left
 · have : n = m := by grind
   rw [this]; grind
 have m1 : 0 ≤ m := by grind
 have bb := Rat.mul_nonneg hb hb; have bc := Rat.mul_nonneg hb hc; have cc := Rat.mul_nonneg hc hc
 by_cases hn0 : 0 < n
 · rw [xq_two hm hb hc, xq_two hn0 hb hc]
   refine div_le (pos_den (by grind) (by grind)) (pos_den (by grind) (by grind)) ?_
   have nm := Rat.mul_nonneg hn m1
   have t1 := Rat.mul_nonneg (show 0 ≤ b * b + b * c + c * c by grind) nm
   have t2 := Rat.mul_nonneg bc bc
   have t3 := Rat.mul_nonneg (Rat.mul_nonneg bc (show 0 ≤ b + c by grind)) (show 0 ≤ m + n by grind)
   have t := Rat.mul_nonneg (show 0 ≤ m - n by grind) (show 0 ≤ (b * b + b * c + c * c) * (n * m) + b * c * (b * c) + b * c * (b + c) * (m + n) by grind)
   have e : ((b * b + b * c + c * c) * n + b * c * (b + c)) * (3 * ((m + b) * (m + c))) - ((b * b + b * c + c * c) * m + b * c * (b + c)) * (3 * ((n + b) * (n + c))) = 3 * ((m - n) * ((b * b + b * c + c * c) * (n * m) + b * c * (b * c) + b * c * (b + c) * (m + n))) := by grind
   rw [e]; grind
 · have hz : n = 0 := by grind
   subst hz
   rw [xq_two hm hb hc, show -(0 : Rat) = 0 by grind, xq_all (by grind) hb hc]
   refine div_le (pos_den (by grind) (by grind)) (by grind) ?_
   have t1 := Rat.mul_nonneg bc (show 0 ≤ m by grind)
   have t := Rat.mul_nonneg m1 (show 0 ≤ (b + c) * m + b * c by have := Rat.mul_nonneg (show 0 ≤ b + c by grind) m1; grind)
   have e : (0 + (b + c)) * (3 * ((m + b) * (m + c))) - ((b * b + b * c + c * c) * m + b * c * (b + c)) * 3 = 3 * (m * ((b + c) * m + b * c)) := by grind
   rw [e]; grind
theorem mon_npn {n m b c : Rat} (hn : 0 ≤ n) (hnm : n ≤ m) (hb : 0 < b) (hc : c ≤ 0) : XQ (-m) b c ≤ XQ (-n) b c := by
 rw [xq_12 (-m), xq_12 (-n), xq_one hb (by grind) hc, xq_one hb (by grind) hc]
 refine div_le (pos_den (by grind) (by grind)) (pos_den (by grind) (by grind)) ?_
 have b3 := Rat.mul_pos hb (Rat.mul_pos hb hb)
 have t := Rat.mul_nonneg (Rat.mul_nonneg (show 0 ≤ b * (b * b) by grind) (show 0 ≤ b - c by grind)) (show 0 ≤ m - n by grind)
 have e : b * (b * b) * (3 * ((b - -m) * (b - c))) - b * (b * b) * (3 * ((b - -n) * (b - c))) = 3 * (b * (b * b) * (b - c) * (m - n)) := by grind
 rw [e]; grind
theorem mon_ppm {a d b n : Rat} (ha : 0 ≤ a) (had : a ≤ d) (hb : 0 < b) (hn : 0 < n) : XQ a b (-n) ≤ XQ d b (-n) := by
 have e1 : ∀ z, XQ z b (-n) = XQ (-n) z b := fun z => by rw [xq_23, xq_12]
 have hd : 0 ≤ d := by grind
 rw [e1, e1, xq_two hn ha (by grind), xq_two hn hd (by grind)]
 refine div_le (pos_den (by grind) (by grind)) (pos_den (by grind) (by grind)) ?_
 obtain ⟨k, hk⟩ : ∃ k, k = d - a := ⟨_, rfl⟩
 have k0 : 0 ≤ k := by grind
 have hda : d = a + k := by grind
 subst hda
 have b0 : 0 ≤ b := by grind
 have n0 : 0 ≤ n := by grind
 have aa := Rat.mul_nonneg ha ha; have ab := Rat.mul_nonneg ha b0; have an := Rat.mul_nonneg ha n0; have bn := Rat.mul_nonneg b0 n0; have nn := Rat.mul_nonneg n0 n0
 have ak := Rat.mul_nonneg ha k0; have nk := Rat.mul_nonneg n0 k0
 have t1 := Rat.mul_nonneg aa (show 0 ≤ n + b by grind)
 have t2 := Rat.mul_nonneg an (show 0 ≤ n + b by grind)
 have t3 := Rat.mul_nonneg bn n0
 have t4 := Rat.mul_nonneg ak (show 0 ≤ n + b by grind)
 have t5 := Rat.mul_nonneg nk (show 0 ≤ n + b by grind)
 have q0 : 0 ≤ a * a * (n + b) + 2 * (a * n * (n + b)) + b * n * n + a * k * (n + b) + n * k * (n + b) := by grind
 have t := Rat.mul_nonneg (Rat.mul_nonneg k0 (show 0 ≤ n + b by grind)) q0
 have e : (((a + k) * (a + k) + (a + k) * b + b * b) * n + (a + k) * b * (a + k + b)) * (3 * ((n + a) * (n + b))) - ((a * a + a * b + b * b) * n + a * b * (a + b)) * (3 * ((n + (a + k)) * (n + b))) = 3 * (k * (n + b) * (a * a * (n + b) + 2 * (a * n * (n + b)) + b * n * n + a * k * (n + b) + n * k * (n + b))) := by grind
 rw [e]; grind
theorem mon_pnn {a d s t : Rat} (ha : 0 ≤ a) (had : a ≤ d) (hs : 0 ≤ s) (ht : 0 ≤ t) : XQ a (-s) (-t) ≤ XQ d (-s) (-t) := by
 by_cases ha0 : 0 < a
 · have hd : 0 < d := by grind
   rw [xq_one ha0 (by grind) (by grind), xq_one hd (by grind) (by grind)]
   refine div_le (pos_den (by grind) (by grind)) (pos_den (by grind) (by grind)) ?_
   have d0 : 0 ≤ d := by grind
   have ad := Rat.mul_nonneg ha d0; have st := Rat.mul_nonneg hs ht
   have aa := Rat.mul_nonneg ha ha; have dd := Rat.mul_nonneg d0 d0
   have k0 : 0 ≤ d - a := by grind
   have t1 := Rat.mul_nonneg ad ad
   have t2 := Rat.mul_nonneg (Rat.mul_nonneg ad (show 0 ≤ d + a by grind)) (show 0 ≤ s + t by grind)
   have t3 := Rat.mul_nonneg (show 0 ≤ a * a + a * d + d * d by grind) st
   have tt := Rat.mul_nonneg k0 (show 0 ≤ a * d * (a * d) + a * d * (d + a) * (s + t) + (a * a + a * d + d * d) * (s * t) by grind)
   have e : d * (d * d) * (3 * ((a - -s) * (a - -t))) - a * (a * a) * (3 * ((d - -s) * (d - -t))) = 3 * ((d - a) * (a * d * (a * d) + a * d * (d + a) * (s + t) + (a * a + a * d + d * d) * (s * t))) := by grind
   rw [e]; grind
 · have : a = 0 := by grind
   subst this
   rw [xq_none (by grind) (by grind) (by grind)]
   exact (xy_sp d (-s) (-t)).nonneg.1
theorem mon1 {a d b c : Rat} (had : a ≤ d) : XQ a b c ≤ XQ d b c := by
 have nn : ∀ z : Rat, - -z = z := fun z => by grind
 have low : ∀ {a d b c : Rat}, a ≤ d → d ≤ 0 → c ≤ b → XQ a b c ≤ XQ d b c := by
  intro a d b c had hd hcb
  have ea : a = -(-a) := (nn a).symm
  have ed : d = -(-d) := (nn d).symm
  by_cases hc : 0 ≤ c
  · rw [ea, ed]; exact mon_ppn (by grind) (by grind) (by grind) hc
  · by_cases hb : 0 < b
    · rw [ea, ed]; exact mon_npn (by grind) (by grind) hb (by grind)
    · rw [xq_none (by grind) (by grind) (by grind), xq_none hd (by grind) (by grind)]; grind
 have high : ∀ {a d b c : Rat}, 0 ≤ a → a ≤ d → c ≤ b → XQ a b c ≤ XQ d b c := by
  intro a d b c ha had hcb
  by_cases hc : 0 ≤ c
  · rw [xq_all ha (by grind) hc, xq_all (by grind) (by grind) hc]
    exact div_le (by grind) (by grind) (by grind)
  · have ec : c = -(-c) := (nn c).symm
    by_cases hb : 0 < b
    · rw [ec]; exact mon_ppm ha had hb (by grind)
    · have eb : b = -(-b) := (nn b).symm
      rw [ec, eb]; exact mon_pnn ha had (by grind) (by grind)
 have key : ∀ {b c : Rat}, c ≤ b → XQ a b c ≤ XQ d b c := by
  intro b c hcb
  by_cases hd : d ≤ 0
  · exact low had hd hcb
  · by_cases ha : 0 ≤ a
    · exact high ha had hcb
    · exact Rat.le_trans (low (d := 0) (by grind) (by grind) hcb) (high (a := 0) (by grind) (by grind) hcb)
 by_cases h : c ≤ b
 · exact key h
 · rw [xq_23 a, xq_23 d]; exact key (by grind)
theorem xq_mono {a b c a' b' c' : Rat} (ha : a ≤ a') (hb : b ≤ b') (hc : c ≤ c') : XQ a b c ≤ XQ a' b' c' := by
 refine Rat.le_trans (mon1 ha) ?_
 rw [xq_12 a' b c, xq_12 a' b' c']
 refine Rat.le_trans (mon1 hb) ?_
 rw [xq_23 b' a' c, xq_12 b' c a', xq_23 b' a' c', xq_12 b' c' a']
 exact mon1 hc
theorem yq_mono {a b c a' b' c' : Rat} (ha : a ≤ a') (hb : b ≤ b') (hc : c ≤ c') : YQ a' b' c' ≤ YQ a b c := by
 rw [yq_neg, yq_neg]
 exact xq_mono (by grind) (by grind) (by grind)
end Go.L

