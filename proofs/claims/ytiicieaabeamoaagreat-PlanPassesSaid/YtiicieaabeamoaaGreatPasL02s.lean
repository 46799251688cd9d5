import Derived.Test.YtiicieaabeamoaaGreatPasL02o
set_option linter.all false
namespace Go.L
open Go Go.Eng
theorem qNeg_ok {n : Nat} {x : api_Rat} {a : Rat} {k : Nat} (hn : 5000 ≤ n) (hk : k ≤ 60) (hx : Qx x a k) : Ok (fraction_Neg n x) fun z => Qx z (-a) k := by
 unfold fraction_Neg
 refine Ok.bd (qValue_ok hn hk hx) fun v hv => ?_
 have n1 := hv.nl
 refine Ok.bd (Neg_ok (by omega) (by omega) hv.num) fun z hz => ok_some.2 ?_
 exact ⟨(show (-a).num = -a.num from rfl) ▸ hz, (show (-a).den = a.den from rfl) ▸ hv.den, neg_len hv.num hz hv.nl, hv.dl⟩
theorem qSub_ok {n : Nat} {x y : api_Rat} {a b : Rat} {j k : Nat} (hn : 5000 ≤ n) (hk : j + k + 1 ≤ 60) (hx : Qx x a j) (hy : Qx y b k) : Ok (fraction_Sub n x y) fun z => Qx z (a - b) (j + k + 1) := by
 unfold fraction_Sub
 refine Ok.bd (qNeg_ok hn (by omega) hy) fun v hv => Ok.bd (qAdd_ok hn hk hx hv) fun z hz => ok_some.2 ?_
 rw [Rat.sub_eq_add_neg]; exact hz
end Go.L

