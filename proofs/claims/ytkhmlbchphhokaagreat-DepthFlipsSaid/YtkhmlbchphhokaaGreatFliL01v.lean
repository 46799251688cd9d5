import Derived.Test.YtkhmlbchphhokaaGreatFliL01t
set_option linter.all false
namespace Go.L.R
open Go Go.Eng Go.L
end Go.L.R

