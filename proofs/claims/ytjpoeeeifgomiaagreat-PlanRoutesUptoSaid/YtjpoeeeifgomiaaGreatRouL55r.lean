import Derived.Test.YtjpoeeeifgomiaaGreatRouL55a
set_option linter.unusedVariables false
set_option linter.unusedSimpArgs false
namespace Go.L
open Go Go.Eng
end Go.L

