import Derived.Test.YtcjhlgoicppgnaaGreatTriL02o
set_option linter.all false
namespace Go.L
open Go Go.Eng
theorem div_rat {a b : Rat} : Rat.divInt (a.num * (b.den : Int)) ((a.den : Int) * b.num) = a / b := by
 rw [Rat.div_def, Rat.inv_def, ← Rat.divInt_mul_divInt, Rat.num_divInt_den]
theorem num_ne {b : Rat} (h : b ≠ 0) : b.num ≠ 0 := fun e => h (Rat.num_eq_zero.1 e)
theorem qNeg_ok {n : Nat} {x : api_Rat} {a : Rat} {k : Nat} (hn : 5000 ≤ n) (hk : k ≤ 60) (hx : Qx x a k) : Ok (fraction_Neg n x) fun z => Qx z (-a) k := by
 unfold fraction_Neg
 refine Ok.bd (qValue_ok hn hk hx) fun v hv => ?_
 have n1 := hv.nl
 refine Ok.bd (Neg_ok (by omega) (by omega) hv.num) fun z hz => ok_some.2 ?_
 exact ⟨(show (-a).num = -a.num from rfl) ▸ hz, (show (-a).den = a.den from rfl) ▸ hv.den, neg_len hv.num hz hv.nl, hv.dl⟩
theorem qSub_ok {n : Nat} {x y : api_Rat} {a b : Rat} {j k : Nat} (hn : 5000 ≤ n) (hk : j + k + 1 ≤ 60) (hx : Qx x a j) (hy : Qx y b k) : Ok (fraction_Sub n x y) fun z => Qx z (a - b) (j + k + 1) := by
 unfold fraction_Sub
 refine Ok.bd (qNeg_ok hn (by omega) hy) fun v hv => Ok.bd (qAdd_ok hn hk hx hv) fun z hz => ok_some.2 ?_
 rw [Rat.sub_eq_add_neg]; exact hz
theorem R.qDivide_ok {n : Nat} {x y : api_Rat} {a b : Rat} {j k : Nat} (hn : 5000 ≤ n) (hk : j + k ≤ 60) (hx : R.Qx x a j) (hy : R.Qx y b k) (hb : b ≠ 0) : Ok (fiducialref02_Divide n x y) fun z => R.Qx z.1 (a / b) (j + k) ∧ z.2 = 0 := by
 unfold fiducialref02_Divide fiducialref02_New
 refine Ok.bde (R.qValue_ok hn (by omega) hx) (Ok.bde (R.qValue_ok hn (by omega) hy) ?_)
 have n1 := hx.nl; have n2 := hy.nl; have d1 := hx.dl; have d2 := hy.dl
 refine Ok.bd (R.Mul_ok (by omega) hx.num hy.den (by omega) (by omega)) fun p hp => Ok.bd (R.Mul_ok (by omega) hx.den hy.num (by omega) (by omega)) fun q hq => ?_
 have lp := isI_len_mul hx.num hy.den hp n1 d2
 have lq := isI_len_mul hx.den hy.num hq d1 n2
 have hne : (a.den : Int) * b.num ≠ 0 := Int.mul_ne_zero (by have := den_pos a; omega) (num_ne hb)
 refine Ok.bd (R := fun z => R.Qx z.1 (a / b) (j + k) ∧ z.2 = 0) ?_ fun z hz => ok_some.2 hz
 refine Ok.bde (R.Sign_ok (by omega) (by omega) hq) ?_
 have hs := sgn_cases ((a.den : Int) * b.num)
 refine Ok.cd (fun h => ?_) (fun h => ?_)
 · have : sgn ((a.den : Int) * b.num) = 0 := by simpa using h
   omega
 · refine Ok.bd (R.reduced_ok hn hk hp hq lp lq hne) fun z hz => ok_some.2 ⟨?_, rfl⟩
   rw [div_rat] at hz; exact hz
end Go.L

