import Derived.Test.YtcjhlgoicppgnaaGreatTriL02p
import Derived.Test.YtcjhlgoicppgnaaGreatTriL02r
set_option linter.all false
set_option linter.unusedVariables false
namespace Go.L
open Go Go.Eng
theorem divInt_cast (a : Int) : Rat.divInt a 1 = (a : Rat) := by
 rw [Rat.divInt_eq_div]
 grind
end Go.L

