import Derived.Test.YtlpfiiejhikalaaGreatSc11Trks
set_option linter.all false
set_option linter.unusedVariables false
namespace Go.L
open Go Go.Eng
section
variable {γ : Type}
def kV (lt : γ -> γ -> Bool) (x : γ) : List γ -> List γ
 | [] => [x]
 | y :: l => if lt y x then y :: kV lt x l else x :: y :: l
def fG (lt : γ -> γ -> Bool) : List γ -> List γ
 | [] => []
 | x :: l => kV lt x (fG lt l)
def cfO (cmp : γ -> γ -> Option Int) (x y : γ) : Int := (cmp x y).getD 0
def s8 [DecidableEq γ] (cmp : γ -> γ -> Option Int) (l : List γ) : Bool :=
 l.all fun x => decide (¬ cfO cmp x x < 0) && l.all fun y => (cmp x y).isSome && (decide (cfO cmp x y < 0 \/ cfO cmp y x < 0 \/ x = y) && l.all fun z => decide (cfO cmp x y < 0 -> cfO cmp y z < 0 -> cfO cmp x z < 0) && decide (¬ cfO cmp x y < 0 -> ¬ cfO cmp y z < 0 -> ¬ cfO cmp x z < 0))
def pP [DecidableEq γ] (cmp : γ -> γ -> Option Int) (l : List γ) : Option (List γ) := if s8 cmp l = true then some (fG (fun x y => decide (cfO cmp x y < 0)) l) else none
end
end Go.L

