import Derived.Test.YtiicieaabeamoaaGreatPasL02p
import Derived.Test.YtiicieaabeamoaaGreatPasL02r
set_option linter.all false
set_option linter.unusedVariables false
namespace Go.L
open Go Go.Eng
end Go.L

