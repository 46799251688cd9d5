import Derived.Test.YtlajgmapmocpbabGreatNearL09a
import Derived.Test.YtlajgmapmocpbabGreatNearL02c
set_option linter.unusedVariables false
set_option linter.unusedSimpArgs false
namespace Go.L
open Go Go.Eng
def farN (a b p : api_Pix) (K : Int) : Int := (16 * (a.X - p.X) + K * (b.X - a.X)) * (16 * (a.X - p.X) + K * (b.X - a.X)) + (16 * (a.Y - p.Y) + K * (b.Y - a.Y)) * (16 * (a.Y - p.Y) + K * (b.Y - a.Y))
def farR (a b p : api_Pix) (t : Rat) : Rat := (Rat.divInt a.X 1 + t * Rat.divInt (b.X - a.X) 1 - Rat.divInt p.X 1) * (Rat.divInt a.X 1 + t * Rat.divInt (b.X - a.X) 1 - Rat.divInt p.X 1) + (Rat.divInt a.Y 1 + t * Rat.divInt (b.Y - a.Y) 1 - Rat.divInt p.Y 1) * (Rat.divInt a.Y 1 + t * Rat.divInt (b.Y - a.Y) 1 - Rat.divInt p.Y 1)
theorem farR_16 (a b p : api_Pix) (K : Int) : farR a b p (Rat.divInt K 16) = Rat.divInt (farN a b p K) 256 := by
  unfold farR farN
  simp only [Rat.divInt_eq_div, Rat.intCast_add, Rat.intCast_sub, Rat.intCast_mul]
  grind
theorem farR_div (a b p : api_Pix) {s L : Int} (hL : 0 < L) (hs : dotZ a b p = s) (hl : dotZ a b b = L) : farR a b p (Rat.divInt s L) = Rat.divInt (crossZ a b p * crossZ a b p) L := by
  have h0 : (L : Rat) ≠ 0 := by
    intro h; have : L = 0 := by exact_mod_cast h
    omega
  subst hs
  have hl' : ((dotZ a b b : Int) : Rat) = (L : Rat) := by rw [hl]
  unfold farR
  unfold crossZ dotZ at *
  simp only [Rat.divInt_eq_div, Rat.intCast_add, Rat.intCast_sub, Rat.intCast_mul] at *
  grind
theorem farR_0 (a b p : api_Pix) : farR a b p (Rat.divInt 0 1) = Rat.divInt (dotZ a p p) 1 := by
  unfold farR dotZ
  simp only [Rat.divInt_eq_div, Rat.intCast_add, Rat.intCast_sub, Rat.intCast_mul]
  grind
theorem farR_1 (a b p : api_Pix) : farR a b p (Rat.divInt 1 1) = Rat.divInt (dotZ b p p) 1 := by
  unfold farR dotZ
  simp only [Rat.divInt_eq_div, Rat.intCast_add, Rat.intCast_sub, Rat.intCast_mul]
  grind
theorem at_okN {n : Nat} (hn : 5000 ≤ n) {a b : api_Pix} {t : api_Rat} {r : Rat} (ht : Qx t r 3) (ia : In a) (ib : In b) : Ok (fiducialref09_At n a b t) fun z => Qx z.X (Rat.divInt a.X 1 + r * Rat.divInt (b.X - a.X) 1) 10 ∧ Qx z.Y (Rat.divInt a.Y 1 + r * Rat.divInt (b.Y - a.Y) 1) 10 := by
  unfold fiducialref09_At
  have ha := In.iff.1 ia; have hb := In.iff.1 ib
  rw [wrap64_in (n := b.X - a.X) (by omega) (by omega), wrap64_in (n := b.Y - a.Y) (by omega) (by omega)]
  refine Ok.bd (R.qWhole_ok hn (by omega) (by omega)) fun x hx => Ok.bd (R.qWhole_ok hn (by omega) (by omega)) fun y hy => ?_
  refine Ok.bd (R.qMul_ok hn (j := 3) (k := 3) (by omega) ht hy) fun u hu => Ok.bd (R.qAdd_ok hn (j := 3) (k := 6) (by omega) hx hu) fun v hv => ?_
  refine Ok.bd (R.qWhole_ok hn (by omega) (by omega)) fun x' hx' => Ok.bd (R.qWhole_ok hn (by omega) (by omega)) fun y' hy' => ?_
  refine Ok.bd (R.qMul_ok hn (j := 3) (k := 3) (by omega) ht hy') fun u' hu' => Ok.bd (R.qAdd_ok hn (j := 3) (k := 6) (by omega) hx' hu') fun v' hv' => ok_some.2 ⟨hv, hv'⟩
theorem dist_ok {n : Nat} (hn : 5000 ≤ n) {a b p : api_Pix} {t : api_Rat} {r : Rat} (ht : Qx t r 3) (ia : In a) (ib : In b) (ip : In p) : Ok (bdO (fiducialref09_At n a b t) fun v => fiducialref09_Distance n p v) fun z => Qx z (farR a b p r) 57 := by
  have hp := In.iff.1 ip
  refine Ok.bd (at_okN hn ht ia ib) fun v hv => ?_
  unfold fiducialref09_Distance
  refine Ok.bd (R.qWhole_ok hn (by omega) (by omega)) fun x hx => Ok.bd (R.qSub_ok hn (j := 10) (k := 3) (by omega) hv.1 hx) fun u hu => ?_
  refine Ok.bd (R.qWhole_ok hn (by omega) (by omega)) fun y hy => Ok.bd (R.qSub_ok hn (j := 10) (k := 3) (by omega) hv.2 hy) fun w hw => ?_
  exact Ok.bd (R.qMul_ok hn (j := 14) (k := 14) (by omega) hu hu) fun s hs => Ok.bd (R.qMul_ok hn (j := 14) (k := 14) (by omega) hw hw) fun q hq => Ok.bd (R.qAdd_ok hn (j := 28) (k := 28) (by omega) hs hq) fun z hz => ok_some.2 hz
theorem dist_ok' {n : Nat} (hn : 5000 ≤ n) {a b p : api_Pix} {t : api_Rat} {r : Rat} (ht : Qx t r 3) (ia : In a) (ib : In b) (ip : In p) : Ok (bdO (fiducialref09_At n a b t) fun v => bdO (fiducialref09_Distance n p v) fun w => some w) fun z => Qx z (farR a b p r) 57 := by
  obtain ⟨z, h1, h2⟩ := dist_ok hn ht ia ib ip
  refine ⟨z, ?_, h2⟩
  cases h : fiducialref09_At n a b t with
  | none => rw [h] at h1; cases h1
  | some v => rw [h] at h1; simp only [bdO] at h1 ⊢; rw [h1]
def nearP (a b p : api_Pix) : Int := if dotZ a b p ≤ 0 then dotZ a p p else if dotZ a b p ≥ dotZ a b b then dotZ b p p else crossZ a b p * crossZ a b p
def nearQ (a b p : api_Pix) : Int := if dotZ a b p ≤ 0 then 1 else if dotZ a b p ≥ dotZ a b b then 1 else dotZ a b b
theorem dot_le {a b p : api_Pix} (ia : In a) (ib : In b) (ip : In p) : -8796093022208 ≤ dotZ a b p ∧ dotZ a b p ≤ 8796093022208 := by
  have := dot_bound ia ib ip; unfold dotZ; omega
theorem dot_sq (a p : api_Pix) : 0 ≤ dotZ a p p := by
  unfold dotZ
  have h1 : 0 ≤ (p.X - a.X) * (p.X - a.X) := by rw [← Int.natAbs_mul_self]; omega
  have h2 : 0 ≤ (p.Y - a.Y) * (p.Y - a.Y) := by rw [← Int.natAbs_mul_self]; omega
  omega
theorem cross_le {a b p : api_Pix} (ia : In a) (ib : In b) (ip : In p) : -8796093022208 ≤ crossZ a b p ∧ crossZ a b p ≤ 8796093022208 := by
  have := cross_bound ia ib ip; unfold crossZ; omega
theorem near_bd {a b p : api_Pix} (ia : In a) (ib : In b) (ip : In p) : 0 < nearQ a b p ∧ nearQ a b p < pB 3 ∧ -pB 3 < nearP a b p ∧ nearP a b p < pB 3 := by
  have h1 := dot_le ia ip ip; have h2 := dot_le ib ip ip; have h3 := dot_le ia ib ib; have h4 := cross_le ia ib ip
  have h5 := mul_bound (a := crossZ a b p) (b := crossZ a b p) (A := 8796093022208) (B := 8796093022208) (by omega) (by omega) (by omega) (by omega)
  rw [pB3]
  unfold nearP nearQ
  split
  · omega
  · split <;> omega
theorem near_ok {n : Nat} (hn : 5000 ≤ n) {a b p : api_Pix} (hb : ([a, b, p] : List api_Pix).any badP = false) (ia : In a) (ib : In b) (ip : In p) : Ok (predicate_Near n a b p) fun z => Qx z.1 (Rat.divInt (nearP a b p) (nearQ a b p)) 3 ∧ z.2 = 0 := by
  have h1 := dot_le ia ip ip; have h2 := dot_le ib ip ip; have h3 := dot_le ia ib ib; have h4 := cross_le ia ib ip; have h5 := dot_le ia ib ip
  have hbd := near_bd ia ib ip
  unfold predicate_Near
  refine Ok.bde (check_v (by omega) (by simp; omega) (by simp)) ?_
  rw [hb]
  refine Ok.cd (fun h => by cases h) (fun _ => Ok.bde (dot_v ia ib ib) (Ok.bde (dot_v ia ib ip) ?_))
  refine Ok.cd (fun h => ?_) (fun h => Ok.cd (fun h' => ?_) (fun h' => ?_))
  · have h := of_decide_eq_true h
    refine Ok.bde (dot_v ia ip ip) (Ok.bd (qWhole_ok hn (by omega) (by omega)) fun z hz => ok_some.2 ⟨?_, rfl⟩)
    unfold nearP nearQ; rw [if_pos h, if_pos h]; exact hz
  · have h := of_decide_eq_false h; have h' := of_decide_eq_true h'
    refine Ok.bde (dot_v ib ip ip) (Ok.bd (qWhole_ok hn (by omega) (by omega)) fun z hz => ok_some.2 ⟨?_, rfl⟩)
    unfold nearP nearQ; rw [if_neg h, if_neg h, if_pos h', if_pos h']; exact hz
  · have h := of_decide_eq_false h; have h' := of_decide_eq_false h'
    refine Ok.bde (cross_v ia ib ip) (Ok.bd (Of_ok (by omega) (by omega) (by omega)) fun c hc => ?_)
    have lc := isI_len_of hc (by omega) (by omega)
    refine Ok.bd (Mul_ok (by omega) hc hc (by omega) (by omega)) fun m hm => Ok.bd (Of_ok (by omega) (by omega) (by omega)) fun l hl => ?_
    have ll := isI_len_of hl (by omega) (by omega)
    have lm := isI_len_mul hc hc hm lc lc
    refine Ok.bd (qNew_ok hn (k := 6) (by omega) hm hl (by omega) (by omega) (by omega)) fun z hz => ok_some.2 ⟨?_, hz.2⟩
    have e : Rat.divInt (nearP a b p) (nearQ a b p) = Rat.divInt (crossZ a b p * crossZ a b p) (dotZ a b b) := by unfold nearP nearQ; rw [if_neg h, if_neg h, if_neg h', if_neg h']
    have hq := hz.1
    exact QL.tight (by rw [e]; exact hq) rfl hbd.1 hbd.2.2.1 hbd.2.2.2 hbd.2.1
theorem zero_len {a b : api_Pix} (h : dotZ a b b = 0) (p : api_Pix) : dotZ a b p = 0 := by
  unfold dotZ at *
  have h1 : 0 ≤ (b.X - a.X) * (b.X - a.X) := by rw [← Int.natAbs_mul_self]; omega
  have h2 : 0 ≤ (b.Y - a.Y) * (b.Y - a.Y) := by rw [← Int.natAbs_mul_self]; omega
  have e1 : b.X - a.X = 0 := by have : (b.X - a.X) * (b.X - a.X) = 0 := by omega
                                rcases Int.mul_eq_zero.1 this with h | h <;> exact h
  have e2 : b.Y - a.Y = 0 := by have : (b.Y - a.Y) * (b.Y - a.Y) = 0 := by omega
                                rcases Int.mul_eq_zero.1 this with h | h <;> exact h
  rw [e1, e2]; omega
theorem wrapped_dot {a b c : api_Pix} (ha : In a) (hb : In b) (hc : In c) : wrapF .i64 ((wrapF .i64 ((wrapF .i64 (b.X - a.X)) * (wrapF .i64 (c.X - a.X)))) + (wrapF .i64 ((wrapF .i64 (b.Y - a.Y)) * (wrapF .i64 (c.Y - a.Y))))) = dotZ a b c := by
  have := dot_v (n := 0) ha hb hc
  unfold predicate_dot at this
  exact Option.some.inj this
theorem rnear_ok {n : Nat} (hn : 5000 ≤ n) {a b p : api_Pix} (ia : In a) (ib : In b) (ip : In p) : Ok (fiducialref09_Near n a b p) fun z => Qx z (Rat.divInt (nearP a b p) (nearQ a b p)) 3 := by
  have h3 := dot_le ia ib ib; have h5 := dot_le ia ib ip
  have hbd := near_bd ia ib ip
  unfold fiducialref09_Near
  rw [wrapped_dot ia ib ib, wrapped_dot ia ib ip]
  have fin : ∀ {z : api_Rat} {r : Rat}, Qx z (farR a b p r) 57 → farR a b p r = Rat.divInt (nearP a b p) (nearQ a b p) → Qx z (Rat.divInt (nearP a b p) (nearQ a b p)) 3 := fun {z r} hz e => QL.tight (by rw [e] at hz; exact hz) rfl hbd.1 hbd.2.2.1 hbd.2.2.2 hbd.2.1
  refine Ok.cd (fun h => ?_) (fun h => Ok.cd (fun h' => ?_) (fun h' => Ok.cd (fun h2 => ?_) (fun h2 => ?_)))
  · have h : dotZ a b b = 0 := by simpa using h
    have e0 := zero_len h p
    refine Ok.bd (R.qWhole_ok hn (by omega) (by omega)) fun t ht => (dist_ok' hn ht ia ib ip).mono fun z hz => fin hz ?_
    rw [farR_0]; unfold nearP nearQ; rw [if_pos (by omega), if_pos (by omega)]
  · have h' := of_decide_eq_true h'
    refine Ok.bd (R.qWhole_ok hn (by omega) (by omega)) fun t ht => (dist_ok' hn ht ia ib ip).mono fun z hz => fin hz ?_
    rw [farR_0]; unfold nearP nearQ; rw [if_pos h', if_pos h']
  · have h' := of_decide_eq_false h'; have h2 := of_decide_eq_true h2
    refine Ok.bd (R.qWhole_ok hn (by omega) (by omega)) fun t ht => (dist_ok' hn ht ia ib ip).mono fun z hz => fin hz ?_
    rw [farR_1]; unfold nearP nearQ; rw [if_neg h', if_neg h', if_pos h2, if_pos h2]
  · have h' := of_decide_eq_false h'; have h2 := of_decide_eq_false h2
    have hl : 0 < dotZ a b b := by have := dot_sq a b; have h : ¬ dotZ a b b = 0 := by simpa using h
                                   omega
    refine Ok.bd (R.qOf_ok hn (by omega) (by omega) (by omega) (by omega) (by omega)) fun t ht => (dist_ok' hn ht.1 ia ib ip).mono fun z hz => fin hz ?_
    rw [farR_div a b p hl rfl rfl]; unfold nearP nearQ; rw [if_neg h', if_neg h', if_neg h2, if_neg h2]
theorem far_bd {a b p : api_Pix} (ia : In a) (ib : In b) (ip : In p) {K : Int} (h0 : 0 ≤ K) (h1 : K ≤ 16) : -pB 3 < farN a b p K ∧ farN a b p K < pB 3 := by
  have ha := In.iff.1 ia; have hb := In.iff.1 ib; have hp := In.iff.1 ip
  have m1 := mul_bound (a := K) (b := b.X - a.X) (A := 16) (B := 2097152) (by omega) (by omega) (by omega) (by omega)
  have m2 := mul_bound (a := K) (b := b.Y - a.Y) (A := 16) (B := 2097152) (by omega) (by omega) (by omega) (by omega)
  have q1 := mul_bound (a := 16 * (a.X - p.X) + K * (b.X - a.X)) (b := 16 * (a.X - p.X) + K * (b.X - a.X)) (A := 67108864) (B := 67108864) (by omega) (by omega) (by omega) (by omega)
  have q2 := mul_bound (a := 16 * (a.Y - p.Y) + K * (b.Y - a.Y)) (b := 16 * (a.Y - p.Y) + K * (b.Y - a.Y)) (A := 67108864) (B := 67108864) (by omega) (by omega) (by omega) (by omega)
  rw [pB3]; unfold farN; omega
theorem far_eq (a b p : api_Pix) (K : Int) : farN a b p K = 256 * dotZ a p p - 32 * K * dotZ a b p + K * K * dotZ a b b := by unfold farN dotZ; grind
theorem far_eq1 (a b p : api_Pix) (K : Int) : farN a b p K = 256 * dotZ b p p + (16 - K) * (32 * dotZ a b p - (16 + K) * dotZ a b b) := by unfold farN dotZ; grind
theorem far_eq2 (a b p : api_Pix) (K : Int) : farN a b p K * dotZ a b b = 256 * (crossZ a b p * crossZ a b p) + (16 * dotZ a b p - K * dotZ a b b) * (16 * dotZ a b p - K * dotZ a b b) := by unfold farN dotZ crossZ; grind
theorem near_le (a b p : api_Pix) {K : Int} (h0 : 0 ≤ K) (h1 : K ≤ 16) : nearP a b p * 256 ≤ farN a b p K * nearQ a b p := by
  unfold nearP nearQ
  by_cases h : dotZ a b p ≤ 0
  · rw [if_pos h, if_pos h, far_eq]
    have g1 : 0 ≤ K * -dotZ a b p := Int.mul_nonneg h0 (by omega)
    have g2 : 0 ≤ K * K * dotZ a b b := Int.mul_nonneg (Int.mul_nonneg h0 h0) (dot_sq a b)
    have e : 32 * K * dotZ a b p = -(32 * (K * -dotZ a b p)) := by grind
    omega
  · rw [if_neg h, if_neg h]
    by_cases h2 : dotZ a b p ≥ dotZ a b b
    · rw [if_pos h2, if_pos h2, far_eq1]
      have g : 0 ≤ (16 - K) * dotZ a b b := Int.mul_nonneg (by omega) (dot_sq a b)
      have e : (16 - K) * dotZ a b b = 32 * dotZ a b b - (16 + K) * dotZ a b b := by grind
      have := Int.mul_nonneg (a := 16 - K) (b := 32 * dotZ a b p - (16 + K) * dotZ a b b) (by omega) (by omega)
      omega
    · rw [if_neg h2, if_neg h2, far_eq2]
      have g : 0 ≤ (16 * dotZ a b p - K * dotZ a b b) * (16 * dotZ a b p - K * dotZ a b b) := by rw [← Int.natAbs_mul_self]; omega
      omega
theorem near_law (l : A3 api_Pix) {k : Int} (h0 : 0 ≤ k) (h1 : k ≤ 255) : fiduciallaw09_PredicateNear 5000 l k = some true := by
  apply Ok.eq
  unfold fiduciallaw09_PredicateNear
  refine Ok.bde known09_v (Ok.cd (fun h => by cases h) (fun _ => ?_))
  cases hb : ([l.e0, l.e1, l.e2] : List api_Pix).any badP with
  | true =>
    have e : predicate_Near 5000 l.e0 l.e1 l.e2 = some (api_Rat.mk (api_Int.mk false []) (api_Int.mk false []), 2) := by
      unfold predicate_Near; rw [check_v (by omega) (by simp) (by simp), hb]; rfl
    refine Ok.bde e (Ok.bde (all_v (by simp) (by simp)) ?_)
    rw [hb]
    exact ok_some.2 rfl
  | false =>
    have hall : fiducialref09_All 5000 [l.e0, l.e1, l.e2] = some true := by rw [all_v (by simp) (by simp), hb]; rfl
    obtain ⟨ia, ib, ip⟩ := in3 (a := l.e0) (b := l.e1) (c := l.e2) (by simpa [Bool.or_assoc] using hb)
    have hbd := near_bd ia ib ip
    refine Ok.bd (near_ok (by decide) hb ia ib ip) fun z hz => Ok.bde hall (Ok.cd (fun h => by cases h) (fun _ => ?_))
    rw [hz.2, wrap64_in (by omega) (by omega), Int.tmod_eq_emod_of_nonneg h0]
    have k0 : 0 ≤ k % 17 := by omega
    have k1 : k % 17 ≤ 16 := by omega
    generalize k % 17 = K at *
    refine Ok.bd (R.qOf_ok (by decide) (by omega) (by omega) (by omega) (by omega) (by omega)) fun t ht => Ok.cd (fun _ => ?_) (fun h => by cases h)
    refine Ok.bd (rnear_ok (by decide) ia ib ip) fun w hw => Ok.bde (R.qSame_ok (by decide) (j := 3) (k := 3) (by omega) hz.1 hw) (Ok.cd (fun _ => ?_) (fun h => by cases h))
    obtain ⟨u, e, hu⟩ := dist_ok (n := 5000) (by decide) ht.1 ia ib ip
    rw [farR_16] at hu
    have hf := far_bd ia ib ip k0 k1
    have hu := QL.tight hu rfl (by omega) hf.1 hf.2 (by rw [pB3]; omega)
    have hc := R.qCompare_ok (n := 5000) (by decide) (j := 3) (k := 3) (by omega) hz.1 hu
    have hs := sgn_le (q := nearQ l.e0 l.e1 l.e2) (t := 256) hbd.1 (by omega) (near_le l.e0 l.e1 l.e2 k0 k1)
    cases hA : fiducialref09_At 5000 l.e0 l.e1 t.1 with
    | none => rw [hA] at e; cases e
    | some v =>
      rw [hA] at e
      exact Ok.bde rfl (Ok.bde e (Ok.bde hc (ok_some.2 (by simpa using hs))))
theorem u8_of {a : Int} (h : (Lit.int .u8 a).wf = true) : 0 ≤ a ∧ a ≤ 255 := by
  simp [Lit.wf, IntKind.min, IntKind.max, IntKind.signed, IntKind.bits] at h
  exact h
end Go.L

