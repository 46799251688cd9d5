import Derived.Test.YtndmnfmpbcecaaaSc11hhfbglje
set_option linter.all false
set_option linter.unusedVariables false
namespace Go.L
open Go Go.Eng
section
variable {γ : Type}
def insC (lt : γ → γ → Bool) (x : γ) : List γ → List γ
 | [] => [x]
 | y :: l => if lt y x then y :: insC lt x l else x :: y :: l
def isrtC (lt : γ → γ → Bool) : List γ → List γ
 | [] => []
 | x :: l => insC lt x (isrtC lt l)
def cfO (cmp : γ → γ → Option Int) (x y : γ) : Int := (cmp x y).getD 0
def sortOk [DecidableEq γ] (cmp : γ → γ → Option Int) (l : List γ) : Bool :=
 l.all fun x => decide (¬ cfO cmp x x < 0) && l.all fun y => (cmp x y).isSome && (decide (cfO cmp x y < 0 ∨ cfO cmp y x < 0 ∨ x = y) && l.all fun z => decide (cfO cmp x y < 0 → cfO cmp y z < 0 → cfO cmp x z < 0) && decide (¬ cfO cmp x y < 0 → ¬ cfO cmp y z < 0 → ¬ cfO cmp x z < 0))
def sortC [DecidableEq γ] (cmp : γ → γ → Option Int) (l : List γ) : Option (List γ) := if sortOk cmp l = true then some (isrtC (fun x y => decide (cfO cmp x y < 0)) l) else none
end
end Go.L

