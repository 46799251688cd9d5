import Derived.Test.YtiicieaabeamoaaGreatPasLD
import Derived.Test.YtiicieaabeamoaaGreatPl2dhijbmli
import Derived.KernelRfl
set_option linter.all false
namespace Go.L
open Go Go.Eng
def popc (x : Nat) : Nat := (List.range 12).countP fun k => x.testBit k
def orOk : Bool := (List.range 12).all fun k => (List.range (2 ^ k)).all fun c => bitO .or .u64 (c : Int) (shlF .u64 1 (k : Int)) == ((c + 2 ^ k : Nat) : Int)
theorem orOk_t : orOk = true := by kernel_rfl
def onesOk : Bool := (List.range 4096).all fun x => math_bits_OnesCount64 0 (x : Int) == some ((popc x : Nat) : Int)
theorem onesOk_t : onesOk = true := by kernel_rfl
end Go.L

