import Derived.Test.YtjpoeeeifgomiaaGreatFewLD
import Derived.Test.YtjpoeeeifgomiaaGreatPl6mdmolfef
set_option linter.unusedVariables false
set_option linter.unusedSimpArgs false
namespace Go.L
open Go Go.Eng
end Go.L

