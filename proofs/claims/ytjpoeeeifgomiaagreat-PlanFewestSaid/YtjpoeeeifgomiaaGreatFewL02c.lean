import Derived.Test.YtjpoeeeifgomiaaGreatFewL02p
import Derived.Test.YtjpoeeeifgomiaaGreatFewL02r
set_option linter.unusedSimpArgs false
set_option linter.unusedVariables false
set_option linter.unusedVariables false
namespace Go.L
open Go Go.Eng
end Go.L

