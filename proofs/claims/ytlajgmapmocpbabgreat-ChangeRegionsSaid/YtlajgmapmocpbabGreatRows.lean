/-
  No cell of these rows narrows 'for every input' (looked for: loops, veiled, ifaces, maps, wideKeys, modest, calm, conditions, laid).
  DERIVED. THE GIVEN ROWS OF THIS SEAT. 5 by the template 'for every input the law returns true; each argument reads behind the call as it read before'; 0 by the template 'total and deterministic' (their statements: YtlajgmapmocpbabGreatTotals.lean).
  GIVEN WITH THE SEED: the statements are not yours to turn. If you find one false, say at which input.
  Laid BY PROGRAM, IN A SANDBOX (cutbox-rows.mjs): the forced cells as the released guide's own fill.sh prints them over the translation d9ccf6d631f76f28… (all of the seat's roots in one cut). By AI agents, Wed Nov 11 2026. No macro, syntax, notation, axiom, sorry.
-/
import Derived.Test.YtlajgmapmocpbabGreatChecked
import GoSem.Claim
import GoSem.ClaimJoined
import GoSem.ClaimMapViews
import Derived.JoinedTies
import Derived.KernelRfl
namespace Go.Proofs.YtlajgmapmocpbabGreat
/- THE CELL 'sum', in the pinned program and in every row, IS THE sha256 OF THE DUMP (.gsa) THAT YtlajgmapmocpbabGreatProg.lean LOADS. Nothing in Lean hashes anything: it is a label: what it is worth is what the hold of that sum in a sandbox is worth. -/
noncomputable def Tryz.pinned : Pinned := { name := "ytlajgmapmocpbabgreat", sum := "d9ccf6d631f76f282b5033ccb5bf334bf86f50531b245a6bd5031764184f659a", checked := Tryz.checked }
namespace Rows
def none {H : Type} : Left H := { results := [], args := [] }

/-- 'fiduciallaw09.PredicateTriangle': WHATEVER THE INPUT: true; the input reads as it did. -/
def predicateTriangleSpec : ChangeSpec := { name := "predicateTriangle", fn := fun _ => fun
  | [d] => { results := [.lit (.bool true)], args := [d] }
  | _ => none }
def predicateTriangleRow : OpenClaim := { program := "ytlajgmapmocpbabgreat", sum := "d9ccf6d631f76f282b5033ccb5bf334bf86f50531b245a6bd5031764184f659a", func := "fiducial/fiduciallaw09.PredicateTriangle", spec := "predicateTriangle", unfollowed := true, recurses := true, apart := false }
def PredicateTriangleSaid : Prop := predicateTriangleRow.holds Tryz.pinned (OpenSpec.ofChange predicateTriangleSpec)

/-- ITS FALSE NEIGHBOUR: 'it returns false'. Refute it at one input. -/
def predicateTriangleWrong : ChangeSpec := { name := "predicateTriangle", fn := fun _ => fun
  | [d] => { results := [.lit (.bool false)], args := [d] }
  | _ => none }
def PredicateTriangleWrongFalsely : Prop := predicateTriangleRow.holds Tryz.pinned (OpenSpec.ofChange predicateTriangleWrong)

/-- 'fiduciallaw09.PredicateNear': WHATEVER THE INPUT: true; the input reads as it did. -/
def predicateNearSpec : ChangeSpec := { name := "predicateNear", fn := fun _ => fun
  | [d1, d2] => { results := [.lit (.bool true)], args := [d1, d2] }
  | _ => none }
def predicateNearRow : OpenClaim := { program := "ytlajgmapmocpbabgreat", sum := "d9ccf6d631f76f282b5033ccb5bf334bf86f50531b245a6bd5031764184f659a", func := "fiducial/fiduciallaw09.PredicateNear", spec := "predicateNear", unfollowed := true, recurses := true, apart := false }
def PredicateNearSaid : Prop := predicateNearRow.holds Tryz.pinned (OpenSpec.ofChange predicateNearSpec)

/-- ITS FALSE NEIGHBOUR: 'it returns false'. Refute it at one input. -/
def predicateNearWrong : ChangeSpec := { name := "predicateNear", fn := fun _ => fun
  | [d1, d2] => { results := [.lit (.bool false)], args := [d1, d2] }
  | _ => none }
def PredicateNearWrongFalsely : Prop := predicateNearRow.holds Tryz.pinned (OpenSpec.ofChange predicateNearWrong)

/-- 'fiduciallaw59.ChangeMerges': WHATEVER THE INPUT: true; the input reads as it did. -/
def changeMergesSpec : ChangeSpec := { name := "changeMerges", fn := fun _ => fun
  | [d1, d2, d3] => { results := [.lit (.bool true)], args := [d1, d2, d3] }
  | _ => none }
def changeMergesRow : OpenClaim := { program := "ytlajgmapmocpbabgreat", sum := "d9ccf6d631f76f282b5033ccb5bf334bf86f50531b245a6bd5031764184f659a", func := "fiducial/fiduciallaw59.ChangeMerges", spec := "changeMerges", unfollowed := true, recurses := true, apart := false }
def ChangeMergesSaid : Prop := changeMergesRow.holds Tryz.pinned (OpenSpec.ofChange changeMergesSpec)

/-- ITS FALSE NEIGHBOUR: 'it returns false'. Refute it at one input. -/
def changeMergesWrong : ChangeSpec := { name := "changeMerges", fn := fun _ => fun
  | [d1, d2, d3] => { results := [.lit (.bool false)], args := [d1, d2, d3] }
  | _ => none }
def ChangeMergesWrongFalsely : Prop := changeMergesRow.holds Tryz.pinned (OpenSpec.ofChange changeMergesWrong)

/-- 'fiduciallaw59.ChangeRegions': WHATEVER THE INPUT: true; the input reads as it did. -/
def changeRegionsSpec : ChangeSpec := { name := "changeRegions", fn := fun _ => fun
  | [d1, d2] => { results := [.lit (.bool true)], args := [d1, d2] }
  | _ => none }
def changeRegionsRow : OpenClaim := { program := "ytlajgmapmocpbabgreat", sum := "d9ccf6d631f76f282b5033ccb5bf334bf86f50531b245a6bd5031764184f659a", func := "fiducial/fiduciallaw59.ChangeRegions", spec := "changeRegions", unfollowed := true, recurses := true, apart := false }
def ChangeRegionsSaid : Prop := changeRegionsRow.holds Tryz.pinned (OpenSpec.ofChange changeRegionsSpec)

/-- ITS FALSE NEIGHBOUR: 'it returns false'. Refute it at one input. -/
def changeRegionsWrong : ChangeSpec := { name := "changeRegions", fn := fun _ => fun
  | [d1, d2] => { results := [.lit (.bool false)], args := [d1, d2] }
  | _ => none }
def ChangeRegionsWrongFalsely : Prop := changeRegionsRow.holds Tryz.pinned (OpenSpec.ofChange changeRegionsWrong)

/-- 'fiduciallaw09.PredicateHull': WHATEVER THE INPUT: true; the input reads as it did. -/
def predicateHullSpec : ChangeSpec := { name := "predicateHull", fn := fun _ => fun
  | [d] => { results := [.lit (.bool true)], args := [d] }
  | _ => none }
def predicateHullRow : OpenClaim := { program := "ytlajgmapmocpbabgreat", sum := "d9ccf6d631f76f282b5033ccb5bf334bf86f50531b245a6bd5031764184f659a", func := "fiducial/fiduciallaw09.PredicateHull", spec := "predicateHull", unfollowed := true, recurses := true, apart := false }
def PredicateHullSaid : Prop := predicateHullRow.holds Tryz.pinned (OpenSpec.ofChange predicateHullSpec)

/-- ITS FALSE NEIGHBOUR: 'it returns false'. Refute it at one input. -/
def predicateHullWrong : ChangeSpec := { name := "predicateHull", fn := fun _ => fun
  | [d] => { results := [.lit (.bool false)], args := [d] }
  | _ => none }
def PredicateHullWrongFalsely : Prop := predicateHullRow.holds Tryz.pinned (OpenSpec.ofChange predicateHullWrong)

/- THE SECOND FORM. 'bulk': how many values and letters a reading holds, each counted each time it is reached (what is shared counts as often as it is met; a slice's spare places count too). A statement '..UptoSaid' is the law's where the arguments, and the package variables that the reading takes, are together of bulk at most 1048576: NARROWER than '..Said'. Prove '..Said' where nothing that the law and all that it calls make is longer than what came in: it says more and counts as full. Else prove '..UptoSaid'. A law counts once. -/
mutual
def uptoBulk {H : Type} : DataW H → Nat
  | .lit (.string bytes) => bytes.length + 1
  | .lit _ => 1
  | .nil => 1
  | .ptr d => uptoBulk d + 1
  | .slice elems spare => uptoBulkAll elems + uptoBulkAll spare + 1
  | .agg parts => uptoBulkAll parts + 1
  | .iface _ d => uptoBulk d + 1
  | .map entries => uptoBulkEntries entries + 1
  | .held _ => 1
def uptoBulkAll {H : Type} : List (DataW H) → Nat
  | [] => 0
  | d :: r => uptoBulk d + uptoBulkAll r
def uptoBulkEntries {H : Type} : List (Lit × DataW H) → Nat
  | [] => 0
  | x :: r => uptoBulkEntry x + uptoBulkEntries r
def uptoBulkEntry {H : Type} : Lit × DataW H → Nat
  | (.string bytes, d) => bytes.length + uptoBulk d + 1
  | (_, d) => uptoBulk d + 1
 end
def uptoSmall : (H : Type) → List (DataW H) → Bool := fun _ ds => decide (uptoBulkAll ds ≤ 1048576)
def OpenSpec.upto (s : _root_.Go.ChangeSpec) : _root_.Go.OpenSpec := { _root_.Go.OpenSpec.ofChange s with cond := some uptoSmall }

/-- 'fiduciallaw09.PredicateTriangle', WHERE WHAT IT READS IS OF BULK AT MOST 1048576: true; the input reads as it did. -/
def predicateTriangleUptoRow : OpenClaim := { program := "ytlajgmapmocpbabgreat", sum := "d9ccf6d631f76f282b5033ccb5bf334bf86f50531b245a6bd5031764184f659a", func := "fiducial/fiduciallaw09.PredicateTriangle", spec := "predicateTriangle", unfollowed := true, recurses := true, apart := false, narrowed := true }
def PredicateTriangleUptoSaid : Prop := predicateTriangleUptoRow.holds Tryz.pinned (OpenSpec.upto predicateTriangleSpec)

/-- 'fiduciallaw09.PredicateNear', WHERE WHAT IT READS IS OF BULK AT MOST 1048576: true; the input reads as it did. -/
def predicateNearUptoRow : OpenClaim := { program := "ytlajgmapmocpbabgreat", sum := "d9ccf6d631f76f282b5033ccb5bf334bf86f50531b245a6bd5031764184f659a", func := "fiducial/fiduciallaw09.PredicateNear", spec := "predicateNear", unfollowed := true, recurses := true, apart := false, narrowed := true }
def PredicateNearUptoSaid : Prop := predicateNearUptoRow.holds Tryz.pinned (OpenSpec.upto predicateNearSpec)

/-- 'fiduciallaw59.ChangeMerges', WHERE WHAT IT READS IS OF BULK AT MOST 1048576: true; the input reads as it did. -/
def changeMergesUptoRow : OpenClaim := { program := "ytlajgmapmocpbabgreat", sum := "d9ccf6d631f76f282b5033ccb5bf334bf86f50531b245a6bd5031764184f659a", func := "fiducial/fiduciallaw59.ChangeMerges", spec := "changeMerges", unfollowed := true, recurses := true, apart := false, narrowed := true }
def ChangeMergesUptoSaid : Prop := changeMergesUptoRow.holds Tryz.pinned (OpenSpec.upto changeMergesSpec)

/-- 'fiduciallaw59.ChangeRegions', WHERE WHAT IT READS IS OF BULK AT MOST 1048576: true; the input reads as it did. -/
def changeRegionsUptoRow : OpenClaim := { program := "ytlajgmapmocpbabgreat", sum := "d9ccf6d631f76f282b5033ccb5bf334bf86f50531b245a6bd5031764184f659a", func := "fiducial/fiduciallaw59.ChangeRegions", spec := "changeRegions", unfollowed := true, recurses := true, apart := false, narrowed := true }
def ChangeRegionsUptoSaid : Prop := changeRegionsUptoRow.holds Tryz.pinned (OpenSpec.upto changeRegionsSpec)

/-- 'fiduciallaw09.PredicateHull', WHERE WHAT IT READS IS OF BULK AT MOST 1048576: true; the input reads as it did. -/
def predicateHullUptoRow : OpenClaim := { program := "ytlajgmapmocpbabgreat", sum := "d9ccf6d631f76f282b5033ccb5bf334bf86f50531b245a6bd5031764184f659a", func := "fiducial/fiduciallaw09.PredicateHull", spec := "predicateHull", unfollowed := true, recurses := true, apart := false, narrowed := true }
def PredicateHullUptoSaid : Prop := predicateHullUptoRow.holds Tryz.pinned (OpenSpec.upto predicateHullSpec)

end Rows
end Go.Proofs.YtlajgmapmocpbabGreat
