/-
  No cell of these rows narrows 'for every input' (looked for: loops, veiled, ifaces, maps, wideKeys, modest, calm, conditions, laid).
  DERIVED. THE GIVEN ROWS OF THIS SEAT. 4 by the template 'for every input the law returns true; each argument reads behind the call as it read before'; 0 by the template 'total and deterministic' (their statements: YtiicieaabeamoaaGreatTotals.lean).
  GIVEN WITH THE SEED: the statements are not yours to turn. If you find one false, say at which input.
  Laid BY PROGRAM, IN A SANDBOX (cutbox-rows.mjs): the forced cells as the released guide's own fill.sh prints them over the translation e0d4e02218a6f263… (all of the seat's roots in one cut). By AI agents, Wed Nov 11 2026. No macro, syntax, notation, axiom, sorry.
-/
import Derived.Test.YtiicieaabeamoaaGreatChecked
import GoSem.Claim
import GoSem.ClaimJoined
import GoSem.ClaimMapViews
import Derived.JoinedTies
import Derived.KernelRfl
namespace Go.Proofs.YtiicieaabeamoaaGreat
/- THE CELL 'sum', in the pinned program and in every row, IS THE sha256 OF THE DUMP (.gsa) THAT YtiicieaabeamoaaGreatProg.lean LOADS. Nothing in Lean hashes anything: it is a label: what it is worth is what the hold of that sum in a sandbox is worth. -/
noncomputable def Tryz.pinned : Pinned := { name := "ytiicieaabeamoaagreat", sum := "e0d4e02218a6f263f0823c45dca5a8fc41179343f5bd921aa5aec63a6f6d41f1", checked := Tryz.checked }
namespace Rows
def none {H : Type} : Left H := { results := [], args := [] }

/-- 'fiduciallaw55.PlanControls': WHATEVER THE INPUT: true; the input reads as it did. -/
def planControlsSpec : ChangeSpec := { name := "planControls", fn := fun _ => fun
  | [d1, d2, d3] => { results := [.lit (.bool true)], args := [d1, d2, d3] }
  | _ => none }
def planControlsRow : OpenClaim := { program := "ytiicieaabeamoaagreat", sum := "e0d4e02218a6f263f0823c45dca5a8fc41179343f5bd921aa5aec63a6f6d41f1", func := "fiducial/fiduciallaw55.PlanControls", spec := "planControls", unfollowed := true, recurses := true, apart := false }
def PlanControlsSaid : Prop := planControlsRow.holds Tryz.pinned (OpenSpec.ofChange planControlsSpec)

/-- ITS FALSE NEIGHBOUR: 'it returns false'. Refute it at one input. -/
def planControlsWrong : ChangeSpec := { name := "planControls", fn := fun _ => fun
  | [d1, d2, d3] => { results := [.lit (.bool false)], args := [d1, d2, d3] }
  | _ => none }
def PlanControlsWrongFalsely : Prop := planControlsRow.holds Tryz.pinned (OpenSpec.ofChange planControlsWrong)

/-- 'fiduciallaw55.PlanPasses': WHATEVER THE INPUT: true; the input reads as it did. -/
def planPassesSpec : ChangeSpec := { name := "planPasses", fn := fun _ => fun
  | [d1, d2] => { results := [.lit (.bool true)], args := [d1, d2] }
  | _ => none }
def planPassesRow : OpenClaim := { program := "ytiicieaabeamoaagreat", sum := "e0d4e02218a6f263f0823c45dca5a8fc41179343f5bd921aa5aec63a6f6d41f1", func := "fiducial/fiduciallaw55.PlanPasses", spec := "planPasses", unfollowed := true, recurses := true, apart := false }
def PlanPassesSaid : Prop := planPassesRow.holds Tryz.pinned (OpenSpec.ofChange planPassesSpec)

/-- ITS FALSE NEIGHBOUR: 'it returns false'. Refute it at one input. -/
def planPassesWrong : ChangeSpec := { name := "planPasses", fn := fun _ => fun
  | [d1, d2] => { results := [.lit (.bool false)], args := [d1, d2] }
  | _ => none }
def PlanPassesWrongFalsely : Prop := planPassesRow.holds Tryz.pinned (OpenSpec.ofChange planPassesWrong)

/-- 'fiduciallaw55.PlanCovers': WHATEVER THE INPUT: true; the input reads as it did. -/
def planCoversSpec : ChangeSpec := { name := "planCovers", fn := fun _ => fun
  | [d1, d2, d3] => { results := [.lit (.bool true)], args := [d1, d2, d3] }
  | _ => none }
def planCoversRow : OpenClaim := { program := "ytiicieaabeamoaagreat", sum := "e0d4e02218a6f263f0823c45dca5a8fc41179343f5bd921aa5aec63a6f6d41f1", func := "fiducial/fiduciallaw55.PlanCovers", spec := "planCovers", unfollowed := true, recurses := true, apart := false }
def PlanCoversSaid : Prop := planCoversRow.holds Tryz.pinned (OpenSpec.ofChange planCoversSpec)

/-- ITS FALSE NEIGHBOUR: 'it returns false'. Refute it at one input. -/
def planCoversWrong : ChangeSpec := { name := "planCovers", fn := fun _ => fun
  | [d1, d2, d3] => { results := [.lit (.bool false)], args := [d1, d2, d3] }
  | _ => none }
def PlanCoversWrongFalsely : Prop := planCoversRow.holds Tryz.pinned (OpenSpec.ofChange planCoversWrong)

/-- 'fiduciallaw55.PlanVerifies': WHATEVER THE INPUT: true; the input reads as it did. -/
def planVerifiesSpec : ChangeSpec := { name := "planVerifies", fn := fun _ => fun
  | [d1, d2, d3] => { results := [.lit (.bool true)], args := [d1, d2, d3] }
  | _ => none }
def planVerifiesRow : OpenClaim := { program := "ytiicieaabeamoaagreat", sum := "e0d4e02218a6f263f0823c45dca5a8fc41179343f5bd921aa5aec63a6f6d41f1", func := "fiducial/fiduciallaw55.PlanVerifies", spec := "planVerifies", unfollowed := true, recurses := true, apart := false }
def PlanVerifiesSaid : Prop := planVerifiesRow.holds Tryz.pinned (OpenSpec.ofChange planVerifiesSpec)

/-- ITS FALSE NEIGHBOUR: 'it returns false'. Refute it at one input. -/
def planVerifiesWrong : ChangeSpec := { name := "planVerifies", fn := fun _ => fun
  | [d1, d2, d3] => { results := [.lit (.bool false)], args := [d1, d2, d3] }
  | _ => none }
def PlanVerifiesWrongFalsely : Prop := planVerifiesRow.holds Tryz.pinned (OpenSpec.ofChange planVerifiesWrong)

/- THE SECOND FORM. 'bulk': how many values and letters a reading holds, each counted each time it is reached (what is shared counts as often as it is met; a slice's spare places count too). A statement '..UptoSaid' is the law's where the arguments, and the package variables that the reading takes, are together of bulk at most 1048576: NARROWER than '..Said'. Prove '..Said' where nothing that the law and all that it calls make is longer than what came in: it says more and counts as full. Else prove '..UptoSaid'. A law counts once. -/
mutual
def uptoBulk {H : Type} : DataW H → Nat
  | .lit (.string bytes) => bytes.length + 1
  | .lit _ => 1
  | .nil => 1
  | .ptr d => uptoBulk d + 1
  | .slice elems spare => uptoBulkAll elems + uptoBulkAll spare + 1
  | .agg parts => uptoBulkAll parts + 1
  | .iface _ d => uptoBulk d + 1
  | .map entries => uptoBulkEntries entries + 1
  | .held _ => 1
def uptoBulkAll {H : Type} : List (DataW H) → Nat
  | [] => 0
  | d :: r => uptoBulk d + uptoBulkAll r
def uptoBulkEntries {H : Type} : List (Lit × DataW H) → Nat
  | [] => 0
  | x :: r => uptoBulkEntry x + uptoBulkEntries r
def uptoBulkEntry {H : Type} : Lit × DataW H → Nat
  | (.string bytes, d) => bytes.length + uptoBulk d + 1
  | (_, d) => uptoBulk d + 1
 end
def uptoSmall : (H : Type) → List (DataW H) → Bool := fun _ ds => decide (uptoBulkAll ds ≤ 1048576)
def OpenSpec.upto (s : _root_.Go.ChangeSpec) : _root_.Go.OpenSpec := { _root_.Go.OpenSpec.ofChange s with cond := some uptoSmall }

/-- 'fiduciallaw55.PlanControls', WHERE WHAT IT READS IS OF BULK AT MOST 1048576: true; the input reads as it did. -/
def planControlsUptoRow : OpenClaim := { program := "ytiicieaabeamoaagreat", sum := "e0d4e02218a6f263f0823c45dca5a8fc41179343f5bd921aa5aec63a6f6d41f1", func := "fiducial/fiduciallaw55.PlanControls", spec := "planControls", unfollowed := true, recurses := true, apart := false, narrowed := true }
def PlanControlsUptoSaid : Prop := planControlsUptoRow.holds Tryz.pinned (OpenSpec.upto planControlsSpec)

/-- 'fiduciallaw55.PlanPasses', WHERE WHAT IT READS IS OF BULK AT MOST 1048576: true; the input reads as it did. -/
def planPassesUptoRow : OpenClaim := { program := "ytiicieaabeamoaagreat", sum := "e0d4e02218a6f263f0823c45dca5a8fc41179343f5bd921aa5aec63a6f6d41f1", func := "fiducial/fiduciallaw55.PlanPasses", spec := "planPasses", unfollowed := true, recurses := true, apart := false, narrowed := true }
def PlanPassesUptoSaid : Prop := planPassesUptoRow.holds Tryz.pinned (OpenSpec.upto planPassesSpec)

/-- 'fiduciallaw55.PlanCovers', WHERE WHAT IT READS IS OF BULK AT MOST 1048576: true; the input reads as it did. -/
def planCoversUptoRow : OpenClaim := { program := "ytiicieaabeamoaagreat", sum := "e0d4e02218a6f263f0823c45dca5a8fc41179343f5bd921aa5aec63a6f6d41f1", func := "fiducial/fiduciallaw55.PlanCovers", spec := "planCovers", unfollowed := true, recurses := true, apart := false, narrowed := true }
def PlanCoversUptoSaid : Prop := planCoversUptoRow.holds Tryz.pinned (OpenSpec.upto planCoversSpec)

/-- 'fiduciallaw55.PlanVerifies', WHERE WHAT IT READS IS OF BULK AT MOST 1048576: true; the input reads as it did. -/
def planVerifiesUptoRow : OpenClaim := { program := "ytiicieaabeamoaagreat", sum := "e0d4e02218a6f263f0823c45dca5a8fc41179343f5bd921aa5aec63a6f6d41f1", func := "fiducial/fiduciallaw55.PlanVerifies", spec := "planVerifies", unfollowed := true, recurses := true, apart := false, narrowed := true }
def PlanVerifiesUptoSaid : Prop := planVerifiesUptoRow.holds Tryz.pinned (OpenSpec.upto planVerifiesSpec)

end Rows
end Go.Proofs.YtiicieaabeamoaaGreat
