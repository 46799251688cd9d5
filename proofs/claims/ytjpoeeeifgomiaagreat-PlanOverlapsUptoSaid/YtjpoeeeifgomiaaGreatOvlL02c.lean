import Derived.Test.YtjpoeeeifgomiaaGreatOvlL02p
import Derived.Test.YtjpoeeeifgomiaaGreatOvlL02r
set_option linter.all false
set_option linter.unusedVariables false
namespace Go.L
open Go Go.Eng
end Go.L

