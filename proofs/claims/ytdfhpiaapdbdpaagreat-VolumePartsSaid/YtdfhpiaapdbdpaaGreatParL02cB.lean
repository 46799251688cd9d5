import Derived.Test.YtdfhpiaapdbdpaaGreatParL02pB
import Derived.Test.YtdfhpiaapdbdpaaGreatParL02rB
set_option linter.all false
set_option linter.unusedVariables false
namespace Go.L
open Go Go.Eng
theorem QL.tight {nn dn : Bool} {ng dg : List Int} {r : Rat} {j : Nat} (h : QL nn ng dn dg r j) {p q : Int} {k : Nat} (hr : r = Rat.divInt p q) (hq : 0 < q) (h1 : -pB k < p) (h2 : p < pB k) (h3 : q < pB k) : QL nn ng dn dg r k := by
 subst hr
 have hg := gZ_pos (v := p) (w := q) (by omega)
 have a1 := abs_ediv_le p _ hg (gZ_dvd_left p q)
 have a2 := abs_ediv_le q _ hg (gZ_dvd_right p q)
 have e1 := divInt_num (p := p) hq
 have e2 := divInt_den (p := p) hq
 refine ⟨h.num, h.den, isI_len h.num (by rw [e1]; omega) (by rw [e1]; omega), isI_len h.den (by rw [e2]; have := pB_pos k; omega) (by rw [e2]; omega)⟩
theorem divInt_cast (a : Int) : Rat.divInt a 1 = (a : Rat) := by
 rw [Rat.divInt_eq_div]
 grind
end Go.L

