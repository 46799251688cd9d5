import Derived.Test.YtiicieaabeamoaaGreatPasL55a
import Derived.Test.YtiicieaabeamoaaGreatPasL02r
import Derived.Test.YtiicieaabeamoaaGreatPasL02p
import Derived.Test.YtiicieaabeamoaaGreatPasL02c
set_option linter.all false
namespace Go.L
open Go Go.Eng
theorem rise_in {s : api_Survey} (ok : OkS s) {height ground a : Int} (h1 : near height) (h2 : near ground) (hg : ¬ height ≤ ground) (ha : 1 ≤ a ∧ a ≤ 1048576) :
  wrapF .i64 (a * wrapF .i64 (height - ground)) = a * (height - ground) ∧ 1 ≤ a * (height - ground) ∧ a * (height - ground) ≤ 2199023255552 := by
 unfold near at h1 h2
 have e := wrap64_in (n := height - ground) (by omega) (by omega)
 have p := prod_in (a := height - ground) (b := a) (by omega) ha
 rw [Int.mul_comm] at p
 have q := Int.mul_le_mul ha.1 (show 1 ≤ height - ground by omega) (by omega) (by omega)
 rw [e, wrap64_in (by omega) (by omega)]
 exact ⟨rfl, by omega, by omega⟩
end Go.L

