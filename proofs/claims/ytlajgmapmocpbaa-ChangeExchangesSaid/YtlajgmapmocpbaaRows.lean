/-
  No cell of these rows narrows 'for every input' (looked for: loops, veiled, ifaces, maps, wideKeys, modest, calm, conditions, laid).
  DERIVED. THE GIVEN ROWS OF THIS SEAT. 3 by the template 'for every input the law returns true; each argument reads behind the call as it read before'; 0 by the template 'total and deterministic' (their statements: YtlajgmapmocpbaaTotals.lean).
  GIVEN WITH THE SEED: the statements are not yours to turn. If you find one false, say at which input.
  Laid BY PROGRAM, IN A SANDBOX (cutbox-rows.mjs): the forced cells as the released guide's own fill.sh prints them over the translation 69e42a7da7e426e4… (all of the seat's roots in one cut). By AI agents, Wed Nov 11 2026. No macro, syntax, notation, axiom, sorry.
-/
import Derived.Test.YtlajgmapmocpbaaChecked
import GoSem.Claim
import GoSem.ClaimJoined
import GoSem.ClaimMapViews
import Derived.JoinedTies
import Derived.KernelRfl
namespace Go.Proofs.Ytlajgmapmocpbaa
/- THE CELL 'sum', in the pinned program and in every row, IS THE sha256 OF THE DUMP (.gsa) THAT YtlajgmapmocpbaaProg.lean LOADS. Nothing in Lean hashes anything: it is a label: what it is worth is what the hold of that sum in a sandbox is worth. -/
noncomputable def Try.pinned : Pinned := { name := "ytlajgmapmocpbaa", sum := "69e42a7da7e426e493e2e17faea4b1b312e0975da659d9243e3cb14cec67ae44", checked := Try.checked }
namespace Rows
def none {H : Type} : Left H := { results := [], args := [] }

/-- 'fiduciallaw59.ChangeChecks': WHATEVER THE INPUT: true; the input reads as it did. -/
def changeChecksSpec : ChangeSpec := { name := "changeChecks", fn := fun _ => fun
  | [d] => { results := [.lit (.bool true)], args := [d] }
  | _ => none }
def changeChecksRow : OpenClaim := { program := "ytlajgmapmocpbaa", sum := "69e42a7da7e426e493e2e17faea4b1b312e0975da659d9243e3cb14cec67ae44", func := "fiducial/fiduciallaw59.ChangeChecks", spec := "changeChecks", unfollowed := true, recurses := true, apart := false }
def ChangeChecksSaid : Prop := changeChecksRow.holds Try.pinned (OpenSpec.ofChange changeChecksSpec)

/-- ITS FALSE NEIGHBOUR: 'it returns false'. Refute it at one input. -/
def changeChecksWrong : ChangeSpec := { name := "changeChecks", fn := fun _ => fun
  | [d] => { results := [.lit (.bool false)], args := [d] }
  | _ => none }
def ChangeChecksWrongFalsely : Prop := changeChecksRow.holds Try.pinned (OpenSpec.ofChange changeChecksWrong)

/-- 'fiduciallaw59.ChangeSound': WHATEVER THE INPUT: true; the input reads as it did. -/
def changeSoundSpec : ChangeSpec := { name := "changeSound", fn := fun _ => fun
  | [d1, d2, d3] => { results := [.lit (.bool true)], args := [d1, d2, d3] }
  | _ => none }
def changeSoundRow : OpenClaim := { program := "ytlajgmapmocpbaa", sum := "69e42a7da7e426e493e2e17faea4b1b312e0975da659d9243e3cb14cec67ae44", func := "fiducial/fiduciallaw59.ChangeSound", spec := "changeSound", unfollowed := true, recurses := true, apart := false }
def ChangeSoundSaid : Prop := changeSoundRow.holds Try.pinned (OpenSpec.ofChange changeSoundSpec)

/-- ITS FALSE NEIGHBOUR: 'it returns false'. Refute it at one input. -/
def changeSoundWrong : ChangeSpec := { name := "changeSound", fn := fun _ => fun
  | [d1, d2, d3] => { results := [.lit (.bool false)], args := [d1, d2, d3] }
  | _ => none }
def ChangeSoundWrongFalsely : Prop := changeSoundRow.holds Try.pinned (OpenSpec.ofChange changeSoundWrong)

/-- 'fiduciallaw59.ChangeExchanges': WHATEVER THE INPUT: true; the input reads as it did. -/
def changeExchangesSpec : ChangeSpec := { name := "changeExchanges", fn := fun _ => fun
  | [d1, d2, d3] => { results := [.lit (.bool true)], args := [d1, d2, d3] }
  | _ => none }
def changeExchangesRow : OpenClaim := { program := "ytlajgmapmocpbaa", sum := "69e42a7da7e426e493e2e17faea4b1b312e0975da659d9243e3cb14cec67ae44", func := "fiducial/fiduciallaw59.ChangeExchanges", spec := "changeExchanges", unfollowed := true, recurses := true, apart := false }
def ChangeExchangesSaid : Prop := changeExchangesRow.holds Try.pinned (OpenSpec.ofChange changeExchangesSpec)

/-- ITS FALSE NEIGHBOUR: 'it returns false'. Refute it at one input. -/
def changeExchangesWrong : ChangeSpec := { name := "changeExchanges", fn := fun _ => fun
  | [d1, d2, d3] => { results := [.lit (.bool false)], args := [d1, d2, d3] }
  | _ => none }
def ChangeExchangesWrongFalsely : Prop := changeExchangesRow.holds Try.pinned (OpenSpec.ofChange changeExchangesWrong)

/- THE SECOND FORM. 'bulk': how many values and letters a reading holds, each counted each time it is reached (what is shared counts as often as it is met; a slice's spare places count too). A statement '..UptoSaid' is the law's where the arguments, and the package variables that the reading takes, are together of bulk at most 1048576: NARROWER than '..Said'. Prove '..Said' where nothing that the law and all that it calls make is longer than what came in: it says more and counts as full. Else prove '..UptoSaid'. A law counts once. -/
mutual
def uptoBulk {H : Type} : DataW H → Nat
  | .lit (.string bytes) => bytes.length + 1
  | .lit _ => 1
  | .nil => 1
  | .ptr d => uptoBulk d + 1
  | .slice elems spare => uptoBulkAll elems + uptoBulkAll spare + 1
  | .agg parts => uptoBulkAll parts + 1
  | .iface _ d => uptoBulk d + 1
  | .map entries => uptoBulkEntries entries + 1
  | .held _ => 1
def uptoBulkAll {H : Type} : List (DataW H) → Nat
  | [] => 0
  | d :: r => uptoBulk d + uptoBulkAll r
def uptoBulkEntries {H : Type} : List (Lit × DataW H) → Nat
  | [] => 0
  | x :: r => uptoBulkEntry x + uptoBulkEntries r
def uptoBulkEntry {H : Type} : Lit × DataW H → Nat
  | (.string bytes, d) => bytes.length + uptoBulk d + 1
  | (_, d) => uptoBulk d + 1
 end
def uptoSmall : (H : Type) → List (DataW H) → Bool := fun _ ds => decide (uptoBulkAll ds ≤ 1048576)
def OpenSpec.upto (s : _root_.Go.ChangeSpec) : _root_.Go.OpenSpec := { _root_.Go.OpenSpec.ofChange s with cond := some uptoSmall }

/-- 'fiduciallaw59.ChangeChecks', WHERE WHAT IT READS IS OF BULK AT MOST 1048576: true; the input reads as it did. -/
def changeChecksUptoRow : OpenClaim := { program := "ytlajgmapmocpbaa", sum := "69e42a7da7e426e493e2e17faea4b1b312e0975da659d9243e3cb14cec67ae44", func := "fiducial/fiduciallaw59.ChangeChecks", spec := "changeChecks", unfollowed := true, recurses := true, apart := false, narrowed := true }
def ChangeChecksUptoSaid : Prop := changeChecksUptoRow.holds Try.pinned (OpenSpec.upto changeChecksSpec)

/-- 'fiduciallaw59.ChangeSound', WHERE WHAT IT READS IS OF BULK AT MOST 1048576: true; the input reads as it did. -/
def changeSoundUptoRow : OpenClaim := { program := "ytlajgmapmocpbaa", sum := "69e42a7da7e426e493e2e17faea4b1b312e0975da659d9243e3cb14cec67ae44", func := "fiducial/fiduciallaw59.ChangeSound", spec := "changeSound", unfollowed := true, recurses := true, apart := false, narrowed := true }
def ChangeSoundUptoSaid : Prop := changeSoundUptoRow.holds Try.pinned (OpenSpec.upto changeSoundSpec)

/-- 'fiduciallaw59.ChangeExchanges', WHERE WHAT IT READS IS OF BULK AT MOST 1048576: true; the input reads as it did. -/
def changeExchangesUptoRow : OpenClaim := { program := "ytlajgmapmocpbaa", sum := "69e42a7da7e426e493e2e17faea4b1b312e0975da659d9243e3cb14cec67ae44", func := "fiducial/fiduciallaw59.ChangeExchanges", spec := "changeExchanges", unfollowed := true, recurses := true, apart := false, narrowed := true }
def ChangeExchangesUptoSaid : Prop := changeExchangesUptoRow.holds Try.pinned (OpenSpec.upto changeExchangesSpec)

end Rows
end Go.Proofs.Ytlajgmapmocpbaa
