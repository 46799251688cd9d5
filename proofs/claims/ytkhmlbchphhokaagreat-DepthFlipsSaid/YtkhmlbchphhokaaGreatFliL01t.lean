import Derived.Test.YtkhmlbchphhokaaGreatFliL01s
import Derived.Test.YtkhmlbchphhokaaGreatPl6jffjgihl
set_option linter.all false
namespace Go.L.R
open Go Go.Eng Go.L
end Go.L.R

