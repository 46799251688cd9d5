import Derived.Test.YtjpoeeeifgomiaaGreatOvlL55a
set_option linter.all false
namespace Go.L
open Go Go.Eng
def ra (num den : Int) : Int := num / (2 * den)
def rb (N num den : Int) : Int := N - num / (2 * den)
end Go.L

