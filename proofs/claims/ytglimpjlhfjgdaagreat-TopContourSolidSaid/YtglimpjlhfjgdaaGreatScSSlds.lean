import Derived.Test.YtglimpjlhfjgdaaGreatSc11Slds
set_option linter.all false
set_option linter.unusedVariables false
namespace Go.L
open Go Go.Eng
section
variable{γ:Type}
def lL(lt:γ->γ->Bool)(x:γ):List γ->List γ
 |[]=>[x]
 |y::l=>if lt y x then y::lL lt x l else x::y::l
def iX(lt:γ->γ->Bool):List γ->List γ
 |[]=>[]
 |x::l=>lL lt x (iX lt l)
def cfO(cmp:γ->γ->Option Int)(x y:γ):Int:=(cmp x y).getD 0
def zO[DecidableEq γ](cmp:γ->γ->Option Int)(l:List γ):Bool:=
 l.all fun x=>decide (¬cfO cmp x x<0)&&l.all fun y=>(cmp x y).isSome&&(decide (cfO cmp x y<0\/cfO cmp y x<0\/x=y)&&l.all fun z=>decide (cfO cmp x y<0->cfO cmp y z<0->cfO cmp x z<0)&&decide (¬cfO cmp x y<0->¬cfO cmp y z<0->¬cfO cmp x z<0))
def vt[DecidableEq γ](cmp:γ->γ->Option Int)(l:List γ):Option (List γ):=if zO cmp l=true then some (iX (fun x y=>decide (cfO cmp x y<0)) l)else none
end
end Go.L

