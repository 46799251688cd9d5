import Derived.Test.YtkhmlbchphhokaaGreatFliLD
import Derived.Test.YtkhmlbchphhokaaGreatPl6jffjgihl
set_option linter.all false
namespace Go.L.R
open Go Go.Eng Go.L
end Go.L.R

