import Derived.Test.YtgleghponjgkpaaGreatPl6geldddpe
import Derived.Test.YtgleghponjgkpaaGreatSldL01q
import Derived.Test.YtgleghponjgkpaaGreatSldL02sB
import Derived.Test.YtgleghponjgkpaaGreatSldL02sB
import Derived.KernelRfl
set_option linter.unusedVariables false
namespace Go.L
open Go Go.Eng
def tipQ (p q r : Rat) : Rat := p * (p * p) / (3 * ((p - q) * (p - r)))
def meanQ (a b c : Rat) : Rat := (a + (b + c)) / 3
theorem tip_comm (p q r : Rat) : tipQ p q r = tipQ p r q := by unfold tipQ; grind
theorem tip_zero {p : Rat} (h : 0 < p) : tipQ p 0 0 = p / 3 := by
 have : p ≠ 0 := by grind
 unfold tipQ; grind
structure Sp (a b c x y : Rat) : Prop where
 m : x - y = meanQ a b c
 p : 0 ≤ a → 0 ≤ b → 0 ≤ c → y = 0
 n : a ≤ 0 → b ≤ 0 → c ≤ 0 → x = 0
 u1 : 0 < a → b ≤ 0 → c ≤ 0 → x = tipQ a b c
 u2 : 0 < b → a ≤ 0 → c ≤ 0 → x = tipQ b a c
 u3 : 0 < c → a ≤ 0 → b ≤ 0 → x = tipQ c a b
 d1 : a < 0 → 0 ≤ b → 0 ≤ c → y = tipQ (-a) (-b) (-c)
 d2 : b < 0 → 0 ≤ a → 0 ≤ c → y = tipQ (-b) (-a) (-c)
 d3 : c < 0 → 0 ≤ a → 0 ≤ b → y = tipQ (-c) (-a) (-b)
theorem Sp.s12 {a b c x y : Rat} (h : Sp a b c x y) : Sp b a c x y :=
 ⟨by rw [h.m]; unfold meanQ; grind, fun h1 h2 h3 => h.p h2 h1 h3, fun h1 h2 h3 => h.n h2 h1 h3, fun h1 h2 h3 => h.u2 h1 h2 h3, fun h1 h2 h3 => h.u1 h1 h2 h3, fun h1 h2 h3 => by rw [h.u3 h1 h3 h2, tip_comm], fun h1 h2 h3 => h.d2 h1 h2 h3, fun h1 h2 h3 => h.d1 h1 h2 h3, fun h1 h2 h3 => by rw [h.d3 h1 h3 h2, tip_comm]⟩
theorem Sp.s23 {a b c x y : Rat} (h : Sp a b c x y) : Sp a c b x y :=
 ⟨by rw [h.m]; unfold meanQ; grind, fun h1 h2 h3 => h.p h1 h3 h2, fun h1 h2 h3 => h.n h1 h3 h2, fun h1 h2 h3 => by rw [h.u1 h1 h3 h2, tip_comm], fun h1 h2 h3 => h.u3 h1 h2 h3, fun h1 h2 h3 => h.u2 h1 h2 h3, fun h1 h2 h3 => by rw [h.d1 h1 h3 h2, tip_comm], fun h1 h2 h3 => h.d3 h1 h2 h3, fun h1 h2 h3 => h.d2 h1 h2 h3⟩
theorem Sp.rot {a b c x y : Rat} (h : Sp a b c x y) : Sp b c a x y := h.s12.s23
theorem Sp.neg {a b c x y : Rat} (h : Sp a b c x y) : Sp (-a) (-b) (-c) y x := by
 have e : ∀ z : Rat, - -z = z := fun z => by grind
 refine ⟨?_, fun h1 h2 h3 => h.n (by grind) (by grind) (by grind), fun h1 h2 h3 => h.p (by grind) (by grind) (by grind), fun h1 h2 h3 => h.d1 (by grind) (by grind) (by grind), fun h1 h2 h3 => h.d2 (by grind) (by grind) (by grind), fun h1 h2 h3 => h.d3 (by grind) (by grind) (by grind), fun h1 h2 h3 => ?_, fun h1 h2 h3 => ?_, fun h1 h2 h3 => ?_⟩
 · have := h.m; unfold meanQ at this ⊢; grind
 · rw [e, e, e]; exact h.u1 (by grind) (by grind) (by grind)
 · rw [e, e, e]; exact h.u2 (by grind) (by grind) (by grind)
 · rw [e, e, e]; exact h.u3 (by grind) (by grind) (by grind)
theorem sp_cases (a b c : Rat) : (0 ≤ a ∧ 0 ≤ b ∧ 0 ≤ c) ∨ (a ≤ 0 ∧ b ≤ 0 ∧ c ≤ 0) ∨ (0 < a ∧ b ≤ 0 ∧ c ≤ 0) ∨ (0 < b ∧ a ≤ 0 ∧ c ≤ 0) ∨ (0 < c ∧ a ≤ 0 ∧ b ≤ 0) ∨ (a < 0 ∧ 0 ≤ b ∧ 0 ≤ c) ∨ (b < 0 ∧ 0 ≤ a ∧ 0 ≤ c) ∨ (c < 0 ∧ 0 ≤ a ∧ 0 ≤ b) := by
 by_cases h1 : 0 ≤ a <;> by_cases h2 : 0 ≤ b <;> by_cases h3 : 0 ≤ c <;> by_cases h4 : a ≤ 0 <;> by_cases h5 : b ≤ 0 <;> by_cases h6 : c ≤ 0 <;> grind
theorem Sp.uniq {a b c x y x' y' : Rat} (h : Sp a b c x y) (k : Sp a b c x' y') : x = x' ∧ y = y' := by
 have m1 := h.m; have m2 := k.m
 rcases sp_cases a b c with ⟨h1, h2, h3⟩ | ⟨h1, h2, h3⟩ | ⟨h1, h2, h3⟩ | ⟨h1, h2, h3⟩ | ⟨h1, h2, h3⟩ | ⟨h1, h2, h3⟩ | ⟨h1, h2, h3⟩ | ⟨h1, h2, h3⟩
 · have := h.p h1 h2 h3; have := k.p h1 h2 h3; grind
 · have := h.n h1 h2 h3; have := k.n h1 h2 h3; grind
 · have := h.u1 h1 h2 h3; have := k.u1 h1 h2 h3; grind
 · have := h.u2 h1 h2 h3; have := k.u2 h1 h2 h3; grind
 · have := h.u3 h1 h2 h3; have := k.u3 h1 h2 h3; grind
 · have := h.d1 h1 h2 h3; have := k.d1 h1 h2 h3; grind
 · have := h.d2 h1 h2 h3; have := k.d2 h1 h2 h3; grind
 · have := h.d3 h1 h2 h3; have := k.d3 h1 h2 h3; grind
theorem sp_all {a b c : Rat} (h1 : 0 ≤ a) (h2 : 0 ≤ b) (h3 : 0 ≤ c) : Sp a b c (meanQ a b c) 0 := by
 have g : ∀ {p : Rat}, 0 ≤ p → p ≤ 0 → p = 0 := fun h k => by grind
 refine ⟨by grind, fun _ _ _ => rfl, fun k1 k2 k3 => ?_, fun k1 k2 k3 => ?_, fun k1 k2 k3 => ?_, fun k1 k2 k3 => ?_, fun k1 => ?_, fun k1 => ?_, fun k1 => ?_⟩
 · rw [g h1 k1, g h2 k2, g h3 k3]; unfold meanQ; grind
 · rw [g h2 k2, g h3 k3, tip_zero k1]; unfold meanQ; grind
 · rw [g h1 k2, g h3 k3, tip_zero k1]; unfold meanQ; grind
 · rw [g h1 k2, g h2 k3, tip_zero k1]; unfold meanQ; grind
 · grind
 · grind
 · grind
theorem sp_none {a b c : Rat} (h1 : a ≤ 0) (h2 : b ≤ 0) (h3 : c ≤ 0) : Sp a b c 0 (-meanQ a b c) := by
 have h := (sp_all (a := -a) (b := -b) (c := -c) (by grind) (by grind) (by grind)).neg
 have e : ∀ z : Rat, - -z = z := fun z => by grind
 have em : meanQ (-a) (-b) (-c) = -meanQ a b c := by unfold meanQ; grind
 rw [e, e, e, em] at h; exact h
theorem sp_one {a b c : Rat} (h1 : 0 < a) (h2 : b ≤ 0) (h3 : c ≤ 0) : Sp a b c (tipQ a b c) (tipQ a b c - meanQ a b c) := by
 have g : ∀ {p : Rat}, 0 ≤ p → p ≤ 0 → p = 0 := fun h k => by grind
 refine ⟨by grind, fun k1 k2 k3 => ?_, fun k1 => by grind, fun _ _ _ => rfl, fun k1 => by grind, fun k1 => by grind, fun k1 => by grind, fun k1 k2 k3 => ?_, fun k1 k2 k3 => ?_⟩
 · rw [g k2 h2, g k3 h3, tip_zero h1]; unfold meanQ; grind
 · obtain rfl := g k3 h3
   have hb : a - b ≠ 0 := by grind
   unfold tipQ meanQ; grind
 · obtain rfl := g k3 h2
   have hb : a - c ≠ 0 := by grind
   unfold tipQ meanQ; grind
theorem sp_two {a b c : Rat} (h1 : a < 0) (h2 : 0 ≤ b) (h3 : 0 ≤ c) : Sp a b c (tipQ (-a) (-b) (-c) + meanQ a b c) (tipQ (-a) (-b) (-c)) := by
 have h := (sp_one (a := -a) (b := -b) (c := -c) (by grind) (by grind) (by grind)).neg
 have e : ∀ z : Rat, - -z = z := fun z => by grind
 have em : tipQ (-a) (-b) (-c) - meanQ (-a) (-b) (-c) = tipQ (-a) (-b) (-c) + meanQ a b c := by unfold meanQ; grind
 rw [e, e, e, em] at h; exact h
end Go.L


set_option linter.all false
namespace Go.L
open Go Go.Eng
theorem num_le {a : Rat} : a.num ≤ 0 ↔ a ≤ 0 := by
 have h := Rat.num_nonneg (q := -a)
 rw [Rat.neg_num] at h
 constructor
 · intro k; have := h.1 (by omega); grind
 · intro k; have := h.2 (by grind); omega
theorem sg_ge {a : Rat} : sgn a.num ≥ 0 ↔ 0 ≤ a := by
 have := sgn_cases a.num
 rw [← Rat.num_nonneg]; omega
theorem sg_le {a : Rat} : sgn a.num ≤ 0 ↔ a ≤ 0 := by
 have := sgn_cases a.num
 rw [← num_le]; omega
theorem qSgn_ok {n : Nat} {x : api_Rat} {a : Rat} {k : Nat} (hn : 20000 ≤ n) (hk : k ≤ 250) (hx : Qx x a k) : fraction_Sign n x = some (sgn a.num) := by
 apply Ok.eq
 unfold fraction_Sign
 refine Ok.bd (qValue_ok hn hk hx) fun v hv => ?_
 have n1 := hv.nl
 exact Ok.bde (Sign_ok (by omega) (by omega) hv.num) (ok_some.2 rfl)
theorem qCmp_ok {n : Nat} {x y : api_Rat} {a b : Rat} {j k : Nat} (hn : 20000 ≤ n) (hj : j ≤ 30) (hk : k ≤ 30) (hx : Qx x a j) (hy : Qx y b k) : Ok (fraction_Compare n x y) fun s => s < 0 ↔ a < b := by
 unfold fraction_Compare
 refine Ok.bd (qValue_ok hn (by omega) hx) fun v hv => Ok.bd (qValue_ok hn (by omega) hy) fun w hw => ?_
 have n1 := hv.nl; have n2 := hw.nl; have d1 := hv.dl; have d2 := hw.dl
 refine Ok.bd (Mul_ok (by omega) hv.num hw.den (by omega) (by omega)) fun p hp => Ok.bd (Mul_ok (by omega) hw.num hv.den (by omega) (by omega)) fun q hq => ?_
 have lp := isI_len_mul hv.num hw.den hp n1 d2
 have lq := isI_len_mul hw.num hv.den hq n2 d1
 refine Ok.bde (Compare_ok (by omega) hp hq (by omega) (by omega)) (ok_some.2 ?_)
 have := sgn_cases (a.num * (b.den : Int) - b.num * (a.den : Int))
 rw [Rat.lt_iff]; omega
theorem qDivide_ok {n : Nat} {x y : api_Rat} {a b : Rat} {j k : Nat} (hn : 20000 ≤ n) (hk : j + k ≤ 250) (hx : Qx x a j) (hy : Qx y b k) (hb : b ≠ 0) : Ok (fraction_Divide n x y) fun z => Qx z.1 (a / b) (j + k) := by
 unfold fraction_Divide
 refine Ok.bd (qValue_ok hn (by omega) hx) fun v hv => Ok.bd (qValue_ok hn (by omega) hy) fun w hw => ?_
 have n1 := hv.nl; have n2 := hw.nl; have d1 := hv.dl; have d2 := hw.dl
 have hb' := num_ne hb
 refine Ok.bde (Sign_ok (by omega) (by omega) hw.num) (Ok.cd (fun h => ?_) (fun _ => ?_))
 · have : sgn b.num = 0 := by simpa using h
   have := sgn_cases b.num
   omega
 refine Ok.bd (Mul_ok (by omega) hv.num hw.den (by omega) (by omega)) fun p hp => Ok.bd (Mul_ok (by omega) hv.den hw.num (by omega) (by omega)) fun q hq => ?_
 have lp := isI_len_mul hv.num hw.den hp n1 d2
 have lq := isI_len_mul hv.den hw.num hq d1 n2
 have hne : (a.den : Int) * b.num ≠ 0 := Int.mul_ne_zero (by have := den_pos a; omega) hb'
 refine Ok.bd (reduced_ok hn hk hp hq lp lq hne) fun z hz => ok_some.2 ?_
 rw [div_rat] at hz; exact hz
theorem whole_3 : Rat.divInt 3 1 = 3 := by rw [divInt_cast]; rfl
theorem whole_0 : Rat.divInt 0 1 = 0 := by rw [divInt_cast]; rfl
theorem third_v : Rat.divInt 1 3 = 1 / 3 := by rw [Rat.divInt_eq_div]; rfl
theorem peak_ok {n : Nat} {x y z : api_Rat} {p q r : Rat} (hn : 20000 ≤ n) (hx : Qx x p 1) (hy : Qx y q 1) (hz : Qx z r 1) (h1 : p - q ≠ 0) (h2 : p - r ≠ 0) : Ok (volume_peak n x y z) fun o => Qx o (tipQ p q r) 12 := by
 unfold volume_peak
 refine Ok.bd (qWhole_ok hn (by omega) (by omega)) fun w hw => Ok.bd (qSub_ok hn (by omega) hx hy) fun a ha => Ok.bd (qSub_ok hn (by omega) hx hz) fun b hb => ?_
 refine Ok.bd (qMul_ok hn (by omega) ha hb) fun c hc => Ok.bd (qMul_ok hn (by omega) hw hc) fun d hd => ?_
 refine Ok.bd (qMul_ok hn (by omega) hx hx) fun e he => Ok.bd (qMul_ok hn (by omega) hx he) fun f hf => ?_
 rw [whole_3] at hd
 have hne : (3 : Rat) * ((p - q) * (p - r)) ≠ 0 := by
  have : (p - q) * (p - r) ≠ 0 := by grind
  grind
 exact Ok.bd (qDivide_ok hn (by omega) hf hd hne) fun o ho => ok_some.2 ho
theorem ok_step {α β : Type} {n : Nat} {f : (α → Option β) → α → Option β} {a : α} {Q : β → Prop} (h : Ok (f (loopO n f) a) Q) : Ok (loopO (n + 1) f a) Q := h
def Srt3 (a b c : Rat) (l : List api_Rat) : Prop := ∃ p q s P R S, l = [p, q, s] ∧ Qx p P 1 ∧ Qx q R 1 ∧ Qx s S 1 ∧ P ≤ R ∧ R ≤ S ∧ ∀ X Y, Sp P R S X Y → Sp a b c X Y
theorem nlt {a b : Rat} (h : ¬ a < b) : b ≤ a := by grind
theorem ins_ok {x y z : api_Rat} {a b c : Rat} (hx : Qx x a 1) (hy : Qx y b 1) (hz : Qx z c 1) : Ok (slices_insertionSortCmpFunc_fiducial_api_Rat_w_of_fraction_Compare 20000 [x, y, z] 0 3) (Srt3 a b c) := by
 unfold slices_insertionSortCmpFunc_fiducial_api_Rat_w_of_fraction_Compare
 rw [wrap64_in (n := (0 : Int) + 1) (by omega) (by omega)]
 refine Ok.bd (R := Srt3 a b c) ?_ (fun r h => ok_some.2 h)
 refine ok_step (n := 19999) ?_
 refine Ok.cd (fun _ => ?_) (fun h => by simp at h)
 refine Ok.bd (R := fun l => ∃ p q P R, l = [p, q, z] ∧ Qx p P 1 ∧ Qx q R 1 ∧ P ≤ R ∧ ∀ X Y, Sp P R c X Y → Sp a b c X Y) ?_ ?_
 · refine ok_step (n := 19999) ?_
   refine Ok.cd (fun _ => ?_) (fun h => by simp at h)
   dsimp only
   rw [wrap64_in (n := (0 : Int) + 1 - 1) (by omega) (by omega)]
   refine Ok.gd rfl (Ok.gd rfl (Ok.bd (qCmp_ok (a := b) (b := a) (j := 1) (k := 1) (by omega) (by omega) (by omega) hy hx) fun s hs => Ok.cd (fun h => ?_) (fun h => ?_)))
   · have h := hs.1 (of_decide_eq_true h)
     refine ok_step (n := 19998) ?_
     refine Ok.cd (fun h => by simp at h) (fun _ => ok_some.2 ⟨y, x, b, a, rfl, hy, hx, Rat.le_of_lt h, fun X Y h => h.s12⟩)
   · have h := fun k => of_decide_eq_false h (hs.2 k)
     exact ok_some.2 ⟨x, y, a, b, rfl, hx, hy, nlt h, fun X Y h => h⟩
 · rintro l ⟨p, q, P, R, rfl, hp, hq, hPR, hSp⟩
   rw [wrap64_in (n := (0 : Int) + 1 + 1) (by omega) (by omega)]
   refine ok_step (n := 19998) ?_
   refine Ok.cd (fun _ => ?_) (fun h => by simp at h)
   refine Ok.bd (R := Srt3 a b c) ?_ ?_
   · refine ok_step (n := 19999) ?_
     refine Ok.cd (fun _ => ?_) (fun h => by simp at h)
     dsimp only
     rw [wrap64_in (n := (0 : Int) + 1 + 1 - 1) (by omega) (by omega)]
     refine Ok.gd rfl (Ok.gd rfl (Ok.bd (qCmp_ok (a := c) (b := R) (j := 1) (k := 1) (by omega) (by omega) (by omega) hz hq) fun s hs => Ok.cd (fun h => ?_) (fun h => ?_)))
     · have h1 := hs.1 (of_decide_eq_true h)
       refine ok_step (n := 19998) ?_
       refine Ok.cd (fun _ => ?_) (fun h => by simp at h)
       dsimp only
       rw [wrap64_in (n := (0 : Int) + 1 + 1 - 1 - 1) (by omega) (by omega)]
       refine Ok.gd rfl (Ok.gd rfl (Ok.bd (qCmp_ok (a := c) (b := P) (j := 1) (k := 1) (by omega) (by omega) (by omega) hz hp) fun s hs => Ok.cd (fun h => ?_) (fun h => ?_)))
       · have h2 := hs.1 (of_decide_eq_true h)
         refine ok_step (n := 19997) ?_
         exact Ok.cd (fun h => by simp at h) (fun _ => ok_some.2 ⟨z, p, q, c, P, R, rfl, hz, hp, hq, Rat.le_of_lt h2, hPR, fun X Y h => hSp X Y h.rot⟩)
       · have h2 := fun k => of_decide_eq_false h (hs.2 k)
         exact ok_some.2 ⟨p, z, q, P, c, R, rfl, hp, hz, hq, nlt h2, Rat.le_of_lt h1, fun X Y h => hSp X Y h.s23⟩
     · have h := fun k => of_decide_eq_false h (hs.2 k)
       exact ok_some.2 ⟨p, q, z, P, R, c, rfl, hp, hq, hz, hPR, nlt h, hSp⟩
   · intro l hl
     rw [wrap64_in (n := (0 : Int) + 1 + 1 + 1) (by omega) (by omega)]
     refine ok_step (n := 19997) ?_
     exact Ok.cd (fun h => by simp at h) (fun _ => ok_some.2 hl)
theorem sort3_ok {x y z : api_Rat} {a b c : Rat} (hx : Qx x a 1) (hy : Qx y b 1) (hz : Qx z c 1) : Ok (slices_SortFunc_fiducial_api_Rat_fiducial_api_Rat_w_of_fraction_Compare 20000 [x, y, z]) (Srt3 a b c) := by
 unfold slices_SortFunc_fiducial_api_Rat_fiducial_api_Rat_w_of_fraction_Compare
 refine Ok.bde (b := 2) (by kernel_rfl) (Ok.bd (R := Srt3 a b c) ?_ (fun r h => ok_some.2 h))
 unfold slices_pdqsortCmpFunc_fiducial_api_Rat_w_of_fraction_Compare
 refine Ok.bd (R := Srt3 a b c) ?_ (fun r h => ok_some.2 h)
 refine ok_step (n := 19999) ?_
 refine Ok.gd (by kernel_rfl) (Ok.bd (ins_ok hx hy hz) fun r h => ok_some.2 h)
theorem sum3_ok {p q s : api_Rat} {P R S : Rat} (hp : Qx p P 1) (hq : Qx q R 1) (hs : Qx s S 1) : Ok (fraction_Sum 20000 [p, q, s]) fun o => Qx o (0 + P + R + S) 9 := by
 unfold fraction_Sum
 refine Ok.bd (qWhole_ok (by omega) (by omega) (by omega)) fun w hw => ?_
 rw [whole_0] at hw
 refine Ok.bd (R := fun o => Qx (api_Rat.mk (api_Int.mk o.1 o.2.1) (api_Int.mk o.2.2.1 o.2.2.2)) (0 + P + R + S) 9) ?_ (fun o ho => ok_some.2 ho)
 refine ok_step (n := 19999) ?_
 refine Ok.cd (fun _ => ?_) (fun h => by simp at h)
 refine Ok.gd rfl (Ok.bd (qAdd_ok (j := 3) (k := 1) (by omega) (by omega) hw hp) fun u hu => ?_)
 rw [wrap64_in (n := (0 : Int) + 1) (by omega) (by omega)]
 refine ok_step (n := 19998) ?_
 refine Ok.cd (fun _ => ?_) (fun h => by simp at h)
 refine Ok.gd rfl (Ok.bd (qAdd_ok (j := 5) (k := 1) (by omega) (by omega) hu hq) fun v hv => ?_)
 rw [wrap64_in (n := (0 : Int) + 1 + 1) (by omega) (by omega)]
 refine ok_step (n := 19997) ?_
 refine Ok.cd (fun _ => ?_) (fun h => by simp at h)
 refine Ok.gd rfl (Ok.bd (qAdd_ok (j := 7) (k := 1) (by omega) (by omega) hv hs) fun t ht => ?_)
 rw [wrap64_in (n := (0 : Int) + 1 + 1 + 1) (by omega) (by omega)]
 refine ok_step (n := 19996) ?_
 exact Ok.cd (fun h => by simp at h) (fun _ => ok_some.2 ht)
structure Cq (x : api_Rat) (r : Rat) : Prop where
 p : Ok (fraction_Value 20000 x) fun z => Qx z r 1
 l : Ok (fiducialref02_Value 20000 x) fun z => Qx z r 1
theorem tri_ok {x y z : api_Rat} {a b c : Rat} (hx : Cq x a) (hy : Cq y b) (hz : Cq z c) : Ok (volume_Triangle 20000 x y z) fun o => ∃ X Y, Sp a b c X Y ∧ Qx o.1 X 25 ∧ Qx o.2 Y 25 := by
 unfold volume_Triangle
 refine Ok.bd hx.p fun x' hx' => Ok.bd hy.p fun y' hy' => Ok.bd hz.p fun z' hz' => Ok.bd (sort3_ok hx' hy' hz') ?_
 rintro l ⟨p, q, s, P, R, S, rfl, hp, hq, hs, h1, h2, hSp⟩
 refine Ok.gd rfl (Ok.bd (qOf_ok (by omega) (by omega) (by omega) (by omega) (by omega) (by omega)) fun t ht => Ok.bd (sum3_ok hp hq hs) fun u hu => ?_)
 have ht := ht.1
 refine Ok.bd (qMul_ok (by omega) (by omega) ht hu) fun m hm => ?_
 have em : Rat.divInt 1 3 * (0 + P + R + S) = meanQ P R S := by rw [third_v]; unfold meanQ; grind
 rw [em] at hm
 refine Ok.bd (qWhole_ok (by omega) (by omega) (by omega)) fun w hw => ?_
 rw [whole_0] at hw
 refine Ok.gd rfl (Ok.bde (qSgn_ok (k := 1) (by omega) (by omega) hp) (Ok.cd (fun h => ?_) (fun h => ?_)))
 · have h := sg_ge.1 (of_decide_eq_true h)
   exact ok_some.2 ⟨_, _, hSp _ _ (sp_all h (by grind) (by grind)), QL.mono hm (by omega), QL.mono hw (by omega)⟩
 have h0 := fun k => of_decide_eq_false h (sg_ge.2 k)
 refine Ok.gd rfl (Ok.bde (qSgn_ok (k := 1) (by omega) (by omega) hs) (Ok.cd (fun h => ?_) (fun h => ?_)))
 · have h := sg_le.1 (of_decide_eq_true h)
   refine Ok.bd (qNeg_ok (by omega) (by omega) hm) fun v hv => ok_some.2 ⟨_, _, hSp _ _ (sp_none (by grind) (by grind) h), QL.mono hw (by omega), QL.mono hv (by omega)⟩
 have h3 := fun k => of_decide_eq_false h (sg_le.2 k)
 refine Ok.gd rfl (Ok.bde (qSgn_ok (k := 1) (by omega) (by omega) hq) (Ok.cd (fun h => ?_) (fun h => ?_)))
 · have h := sg_le.1 (of_decide_eq_true h)
   refine Ok.bd (peak_ok (by omega) hs hp hq (by grind) (by grind)) fun v hv => Ok.bd (qSub_ok (by omega) (by omega) hv hm) fun k hk => ok_some.2 ⟨_, _, hSp _ _ (Sp.rot ?_), QL.mono hv (by omega), hk⟩
   have := sp_one (a := S) (b := P) (c := R) (by grind) (by grind) h
   have em2 : meanQ S P R = meanQ P R S := by unfold meanQ; grind
   rw [em2] at this; exact this
 · have h := fun k => of_decide_eq_false h (sg_le.2 k)
   refine Ok.bd (qNeg_ok (by omega) (by omega) hp) fun p' hp' => Ok.bd (qNeg_ok (by omega) (by omega) hq) fun q' hq' => Ok.bd (qNeg_ok (by omega) (by omega) hs) fun s' hs' => ?_
   refine Ok.bd (peak_ok (by omega) hp' hq' hs' (by grind) (by grind)) fun v hv => Ok.bd (qAdd_ok (by omega) (by omega) hv hm) fun k hk => ok_some.2 ⟨_, _, hSp _ _ ?_, hk, QL.mono hv (by omega)⟩
   exact sp_two (by grind) (by grind) (by grind)
end Go.L


set_option linter.unusedVariables false
namespace Go.L
open Go Go.Eng
def Bd1 (r : Rat) : Prop := ∃ p q : Int, r = Rat.divInt p q ∧ 0 < q ∧ q ≤ 1000000000000000 ∧ -100000000000000000000000 ≤ p ∧ p ≤ 100000000000000000000000
theorem Bd1.neg {r : Rat} (h : Bd1 r) : Bd1 (-r) := by
 obtain ⟨p, q, h1, h2, h3, h4, h5⟩ := h
 exact ⟨-p, q, by rw [h1, Rat.neg_divInt], h2, h3, by omega, by omega⟩
theorem bd1_zero : Bd1 0 := ⟨0, 1, by rw [divInt_cast]; rfl, by omega, by omega, by omega, by omega⟩
theorem bd1_mean {A B C : Int} (hA : -4194304 ≤ A ∧ A ≤ 4194304) (hB : -4194304 ≤ B ∧ B ≤ 4194304) (hC : -4194304 ≤ C ∧ C ≤ 4194304) : Bd1 (meanQ A B C) := by
 refine ⟨A + (B + C), 3, ?_, by omega, by omega, by omega, by omega⟩
 rw [Rat.divInt_eq_div]; unfold meanQ; push_cast; rfl
theorem bd1_tip {A B C : Int} (hA : 0 < A ∧ A ≤ 4194304) (hB : -4194304 ≤ B ∧ B ≤ 0) (hC : -4194304 ≤ C ∧ C ≤ 0) : Bd1 (tipQ A B C) ∧ Bd1 (tipQ A B C - meanQ A B C) := by
 have d1 := Int.mul_le_mul (show A - B ≤ 8388608 by omega) (show A - C ≤ 8388608 by omega) (by omega) (by omega)
 have d0 := Int.mul_pos (show 0 < A - B by omega) (show 0 < A - C by omega)
 have a2 := Int.mul_le_mul hA.2 hA.2 (by omega) (by omega)
 have a20 := Int.mul_pos hA.1 hA.1
 have a3 := Int.mul_le_mul hA.2 a2 (by omega) (by omega)
 have a30 := Int.mul_pos hA.1 a20
 have s1 := Int.mul_le_mul (show A + (B + C) + 8388608 ≤ 12582912 by omega) d1 (by omega) (by omega)
 have s0 := Int.mul_nonneg (show 0 ≤ A + (B + C) + 8388608 by omega) (Int.le_of_lt d0)
 have hb : (A : Rat) - B ≠ 0 := by
  have : ((A - B : Int) : Rat) ≠ 0 := by
   intro h; have := Rat.intCast_inj.1 (h.trans Rat.intCast_zero.symm); omega
  intro h; exact this (by push_cast; exact h)
 have hc : (A : Rat) - C ≠ 0 := by
  have : ((A - C : Int) : Rat) ≠ 0 := by
   intro h; have := Rat.intCast_inj.1 (h.trans Rat.intCast_zero.symm); omega
  intro h; exact this (by push_cast; exact h)
 refine ⟨⟨A * (A * A), 3 * ((A - B) * (A - C)), ?_, by omega, by omega, by omega, by omega⟩, ⟨A * (A * A) - (A + (B + C)) * ((A - B) * (A - C)), 3 * ((A - B) * (A - C)), ?_, by omega, by omega, ?_, ?_⟩⟩
 · rw [Rat.divInt_eq_div]; unfold tipQ; push_cast; rfl
 · rw [Rat.divInt_eq_div]; unfold tipQ meanQ; push_cast; grind
 · rw [Int.add_mul] at s1 s0; omega
 · rw [Int.add_mul] at s1 s0; omega
theorem sp_bd {A B C : Int} {X Y : Rat} (hA : -4194304 ≤ A ∧ A ≤ 4194304) (hB : -4194304 ≤ B ∧ B ≤ 4194304) (hC : -4194304 ≤ C ∧ C ≤ 4194304) (h : Sp A B C X Y) : Bd1 X ∧ Bd1 Y := by
 have key : ∀ {A B C : Int} {X Y : Rat}, -4194304 ≤ A ∧ A ≤ 4194304 → -4194304 ≤ B ∧ B ≤ 4194304 → -4194304 ≤ C ∧ C ≤ 4194304 → Sp A B C X Y → 0 < A → B ≤ 0 → C ≤ 0 → Bd1 X ∧ Bd1 Y := by
  intro A B C X Y hA hB hC h h1 h2 h3
  have e := h.u1 (by exact_mod_cast h1) (by exact_mod_cast h2) (by exact_mod_cast h3)
  have m := h.m
  obtain ⟨b1, b2⟩ := bd1_tip ⟨h1, hA.2⟩ ⟨hB.1, h2⟩ ⟨hC.1, h3⟩
  rw [← e] at b1 b2
  exact ⟨b1, by rw [show Y = X - meanQ A B C by grind]; exact b2⟩
 have kn : ∀ {A B C : Int} {X Y : Rat}, -4194304 ≤ A ∧ A ≤ 4194304 → -4194304 ≤ B ∧ B ≤ 4194304 → -4194304 ≤ C ∧ C ≤ 4194304 → Sp A B C X Y → A < 0 → 0 ≤ B → 0 ≤ C → Bd1 X ∧ Bd1 Y := by
  intro A B C X Y hA hB hC h h1 h2 h3
  have hn := h.neg
  have e : ∀ z : Int, -(z : Rat) = ((-z : Int) : Rat) := fun z => by push_cast; rfl
  rw [e, e, e] at hn
  have := key (A := -A) (B := -B) (C := -C) (by omega) (by omega) (by omega) hn (by omega) (by omega) (by omega)
  exact ⟨this.2, this.1⟩
 have m := h.m
 have bm := bd1_mean hA hB hC
 by_cases a0 : 0 ≤ A <;> by_cases b0 : 0 ≤ B <;> by_cases c0 : 0 ≤ C
 · have e := h.p (by exact_mod_cast a0) (by exact_mod_cast b0) (by exact_mod_cast c0)
   rw [e, show X = meanQ A B C by grind]
   exact ⟨bm, bd1_zero⟩
 · exact kn hC hA hB h.s23.s12 (by omega) a0 b0
 · exact kn hB hA hC h.s12 (by omega) a0 c0
 · by_cases ha : 0 < A
   · exact key hA hB hC h ha (by omega) (by omega)
   · have e := h.n (by exact_mod_cast (show A ≤ 0 by omega)) (by exact_mod_cast (show B ≤ 0 by omega)) (by exact_mod_cast (show C ≤ 0 by omega))
     rw [e, show Y = -meanQ A B C by grind]
     exact ⟨bd1_zero, bm.neg⟩
 · exact kn hA hB hC h (by omega) b0 c0
 · by_cases hb : 0 < B
   · exact key hB hA hC h.s12 hb (by omega) (by omega)
   · have e := h.n (by exact_mod_cast (show A ≤ 0 by omega)) (by exact_mod_cast (show B ≤ 0 by omega)) (by exact_mod_cast (show C ≤ 0 by omega))
     rw [e, show Y = -meanQ A B C by grind]
     exact ⟨bd1_zero, bm.neg⟩
 · by_cases hc : 0 < C
   · exact key hC hA hB h.s23.s12 hc (by omega) (by omega)
   · have e := h.n (by exact_mod_cast (show A ≤ 0 by omega)) (by exact_mod_cast (show B ≤ 0 by omega)) (by exact_mod_cast (show C ≤ 0 by omega))
     rw [e, show Y = -meanQ A B C by grind]
     exact ⟨bd1_zero, bm.neg⟩
 · have e := h.n (by exact_mod_cast (show A ≤ 0 by omega)) (by exact_mod_cast (show B ≤ 0 by omega)) (by exact_mod_cast (show C ≤ 0 by omega))
   rw [e, show Y = -meanQ A B C by grind]
   exact ⟨bd1_zero, bm.neg⟩
def Bd (r : Rat) (i : Nat) : Prop := ∃ p q : Int, r = Rat.divInt p q ∧ 0 < q ∧ q ≤ 1000000000000000 ^ i ∧ -(i * 100000000 * 1000000000000000 ^ i) ≤ p ∧ p ≤ i * 100000000 * 1000000000000000 ^ i
theorem bd_zero : Bd 0 0 := ⟨0, 1, by rw [divInt_cast]; rfl, by omega, by simp, by simp, by simp⟩
theorem Bd.add {r s : Rat} {i : Nat} (h : Bd r i) (k : Bd1 s) : Bd (r + s) (i + 1) := by
 obtain ⟨p, q, h1, h2, h3, h4, h5⟩ := h
 obtain ⟨u, v, k1, k2, k3, k4, k5⟩ := k
 have hB : (0 : Int) < 1000000000000000 ^ i := Int.pow_pos (by omega)
 refine ⟨p * v + u * q, q * v, ?_, Int.mul_pos h2 k2, ?_, ?_, ?_⟩
 · rw [h1, k1, Rat.divInt_add_divInt _ _ (by omega) (by omega)]
 · rw [Int.pow_succ]; exact Int.mul_le_mul h3 k3 (by omega) (by omega)
 all_goals
  rw [Int.pow_succ]
  push_cast
  generalize (1000000000000000 : Int) ^ i = P at *
  generalize hI : (i : Int) * 100000000 = I at *
  have hI0 : 0 ≤ I := by omega
  have e : ((i : Int) + 1) * 100000000 * (P * 1000000000000000) = I * P * 1000000000000000 + 100000000 * (P * 1000000000000000) := by rw [Int.add_mul, hI, Int.add_mul, Int.one_mul, Int.mul_assoc]
  have hIP : 0 ≤ I * P := Int.mul_nonneg hI0 (by omega)
  have m1 : p * v ≤ I * P * v := Int.mul_le_mul_of_nonneg_right h5 (by omega)
  have m2 : I * P * v ≤ I * P * 1000000000000000 := Int.mul_le_mul_of_nonneg_left k3 hIP
  have m3 : u * q ≤ 100000000000000000000000 * q := Int.mul_le_mul_of_nonneg_right k5 (by omega)
  have n1 : -(I * P) * v ≤ p * v := Int.mul_le_mul_of_nonneg_right h4 (by omega)
  rw [Int.neg_mul] at n1
  have n3 : -100000000000000000000000 * q ≤ u * q := Int.mul_le_mul_of_nonneg_right k4 (by omega)
  rw [e]
  generalize I * P * v = T1 at *
  generalize I * P * 1000000000000000 = T2 at *
  generalize p * v = T3 at *
  generalize u * q = T4 at *
  omega
theorem pow_mono {i : Nat} (h : i ≤ 50) : (1000000000000000 : Int) ^ i ≤ 1000000000000000 ^ 50 := by
 obtain ⟨j, hj⟩ : ∃ j, 50 = i + j := ⟨50 - i, by omega⟩
 rw [show (1000000000000000 : Int) ^ 50 = 1000000000000000 ^ i * 1000000000000000 ^ j by rw [← Int.pow_add, ← hj]]
 have h1 : (1 : Int) ≤ 1000000000000000 ^ j := Int.pow_pos (by omega)
 have h2 : (0 : Int) < 1000000000000000 ^ i := Int.pow_pos (by omega)
 have := Int.mul_le_mul_of_nonneg_left h1 (Int.le_of_lt h2)
 omega
theorem pB86 : (5000000000 : Int) * 1000000000000000 ^ 50 < pB 86 := of_decide_eq_true (by kernel_rfl)
theorem Bd.len {nn dn : Bool} {ng dg : List Int} {r : Rat} {i j : Nat} (h : Bd r i) (hi : i ≤ 50) (q : QL nn ng dn dg r j) : QL nn ng dn dg r 86 := by
 obtain ⟨p, d, h1, h2, h3, h4, h5⟩ := h
 have hp := pow_mono hi
 have hb := pB86
 have h0 : (0 : Int) < 1000000000000000 ^ i := Int.pow_pos (by omega)
 have hm : (i : Int) * 100000000 * 1000000000000000 ^ i ≤ 5000000000 * 1000000000000000 ^ 50 := Int.mul_le_mul (by omega) hp (by omega) (by omega)
 generalize (i : Int) * 100000000 * 1000000000000000 ^ i = M at *
 generalize (1000000000000000 : Int) ^ i = P at *
 generalize (1000000000000000 : Int) ^ 50 = R at *
 exact QL.tight q h1 h2 (by omega) (by omega) (by omega)
end Go.L


set_option linter.unusedVariables false
namespace Go.L
open Go Go.Eng
theorem sp_ex (a b c : Rat) : ∃ x y, Sp a b c x y := by
 rcases sp_cases a b c with ⟨h1, h2, h3⟩ | ⟨h1, h2, h3⟩ | ⟨h1, h2, h3⟩ | ⟨h1, h2, h3⟩ | ⟨h1, h2, h3⟩ | ⟨h1, h2, h3⟩ | ⟨h1, h2, h3⟩ | ⟨h1, h2, h3⟩
 · exact ⟨_, _, sp_all h1 h2 h3⟩
 · exact ⟨_, _, sp_none h1 h2 h3⟩
 · exact ⟨_, _, sp_one h1 h2 h3⟩
 · exact ⟨_, _, (sp_one h1 h2 h3).s12⟩
 · exact ⟨_, _, (sp_one h1 h2 h3).s12.s23⟩
 · exact ⟨_, _, sp_two h1 h2 h3⟩
 · exact ⟨_, _, (sp_two h1 h2 h3).s12⟩
 · exact ⟨_, _, (sp_two h1 h2 h3).s12.s23⟩
noncomputable def XQ (a b c : Rat) : Rat := Classical.choose (sp_ex a b c)
noncomputable def YQ (a b c : Rat) : Rat := Classical.choose (Classical.choose_spec (sp_ex a b c))
theorem xy_sp (a b c : Rat) : Sp a b c (XQ a b c) (YQ a b c) := Classical.choose_spec (Classical.choose_spec (sp_ex a b c))
theorem xq_of {a b c x y : Rat} (h : Sp a b c x y) : x = XQ a b c ∧ y = YQ a b c := h.uniq (xy_sp a b c)
theorem xq_all {a b c : Rat} (h1 : 0 ≤ a) (h2 : 0 ≤ b) (h3 : 0 ≤ c) : XQ a b c = (a + (b + c)) / 3 := (xq_of (sp_all h1 h2 h3)).1.symm
end Go.L

