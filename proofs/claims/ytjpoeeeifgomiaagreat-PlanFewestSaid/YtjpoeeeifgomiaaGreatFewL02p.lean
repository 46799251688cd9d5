import Derived.Test.YtjpoeeeifgomiaaGreatFewL01d
import Derived.Test.YtjpoeeeifgomiaaGreatPl6mdmolfef
set_option linter.unusedVariables false
set_option linter.unusedSimpArgs false
namespace Go.L
open Go Go.Eng
def Qx (x : api_Rat) (r : Rat) (k : Nat) : Prop := QL x.Num.Negative x.Num.Groups x.Den.Negative x.Den.Groups r k
end Go.L

