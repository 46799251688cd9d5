import Derived.Test.YtndmnfmpbcecaaaScEiehfhllp
import Derived.Test.YtndmnfmpbcecaaaL0hegfhhij
import Derived.KernelRfl
set_option linter.all false
set_option linter.unusedVariables false
set_option maxRecDepth 1000000
set_option maxHeartbeats 0
namespace Go.L
open Go Go.Eng Go.Proofs
def memN (l : List Nat) (f : Nat) : Bool := match l with | [] => false | x :: xs => (match Nat.beq x f with | true => true | false => memN xs f)
def kn26F : List Nat := [69, 28, 101, 57, 112, 76, 74, 49, 48, 71, 16, 21, 37, 19, 17]
def kn26M (f : Nat) : Md := match memN kn26F f with | true => .inl | false => (match Nat.beq f 53 with | true => .mut | false => .loc)
theorem known_run : ∃ fn, Try.prog.funcs[11]? = some fn ∧ runPure Try.prog (evalCallM Try.prog kn26M (fun _ => none) 40) 60 fn [] = some (.at (.bool true)) := ⟨_, rfl, by kernel_rfl⟩
theorem fiduciallaw26_known_run : FnOk Try.prog 11 [] (.at (.bool true)) := by
 obtain ⟨fn, h1, h2⟩ := known_run
 exact FnOk.of_run G.ng G.mo (fun _ _ h => by cases h) h1 h2
end Go.L
