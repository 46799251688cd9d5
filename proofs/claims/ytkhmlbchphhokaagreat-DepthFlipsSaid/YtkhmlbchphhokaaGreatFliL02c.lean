import Derived.Test.YtkhmlbchphhokaaGreatFliL02p
import Derived.Test.YtkhmlbchphhokaaGreatFliL02r
set_option linter.all false
set_option linter.unusedVariables false
namespace Go.L
open Go Go.Eng
theorem pB2 : pB 2 = 1000000000000000000 := rfl
end Go.L

