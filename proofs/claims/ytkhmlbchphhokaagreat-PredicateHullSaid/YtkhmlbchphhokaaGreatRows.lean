/-
  No cell of these rows narrows 'for every input' (looked for: loops, veiled, ifaces, maps, wideKeys, modest, calm, conditions, laid).
  DERIVED. THE GIVEN ROWS OF THIS SEAT. 4 by the template 'for every input the law returns true; each argument reads behind the call as it read before'; 0 by the template 'total and deterministic' (their statements: YtkhmlbchphhokaaGreatTotals.lean).
  GIVEN WITH THE SEED: the statements are not yours to turn. If you find one false, say at which input.
  Laid BY PROGRAM, IN A SANDBOX (cutbox-rows.mjs): the forced cells as the released guide's own fill.sh prints them over the translation 9152f521fbe5b317… (all of the seat's roots in one cut). By AI agents, Wed Nov 11 2026. No macro, syntax, notation, axiom, sorry.
-/
import Derived.Test.YtkhmlbchphhokaaGreatChecked
import GoSem.Claim
import GoSem.ClaimJoined
import GoSem.ClaimMapViews
import Derived.JoinedTies
import Derived.KernelRfl
namespace Go.Proofs.YtkhmlbchphhokaaGreat
/- THE CELL 'sum', in the pinned program and in every row, IS THE sha256 OF THE DUMP (.gsa) THAT YtkhmlbchphhokaaGreatProg.lean LOADS. Nothing in Lean hashes anything: it is a label: what it is worth is what the hold of that sum in a sandbox is worth. -/
noncomputable def Tryz.pinned : Pinned := { name := "ytkhmlbchphhokaagreat", sum := "9152f521fbe5b317d4844c3f42ff5a590d0ef46a2242924cd124dd619ed2f9bd", checked := Tryz.checked }
namespace Rows
def none {H : Type} : Left H := { results := [], args := [] }

/-- 'fiduciallaw59.ChangeHistories': WHATEVER THE INPUT: true; the input reads as it did. -/
def changeHistoriesSpec : ChangeSpec := { name := "changeHistories", fn := fun _ => fun
  | [d] => { results := [.lit (.bool true)], args := [d] }
  | _ => none }
def changeHistoriesRow : OpenClaim := { program := "ytkhmlbchphhokaagreat", sum := "9152f521fbe5b317d4844c3f42ff5a590d0ef46a2242924cd124dd619ed2f9bd", func := "fiducial/fiduciallaw59.ChangeHistories", spec := "changeHistories", unfollowed := true, recurses := true, apart := false }
def ChangeHistoriesSaid : Prop := changeHistoriesRow.holds Tryz.pinned (OpenSpec.ofChange changeHistoriesSpec)

/-- ITS FALSE NEIGHBOUR: 'it returns false'. Refute it at one input. -/
def changeHistoriesWrong : ChangeSpec := { name := "changeHistories", fn := fun _ => fun
  | [d] => { results := [.lit (.bool false)], args := [d] }
  | _ => none }
def ChangeHistoriesWrongFalsely : Prop := changeHistoriesRow.holds Tryz.pinned (OpenSpec.ofChange changeHistoriesWrong)

/-- 'fiduciallaw46.DepthSpeckles': WHATEVER THE INPUT: true; the input reads as it did. -/
def depthSpecklesSpec : ChangeSpec := { name := "depthSpeckles", fn := fun _ => fun
  | [d1, d2, d3] => { results := [.lit (.bool true)], args := [d1, d2, d3] }
  | _ => none }
def depthSpecklesRow : OpenClaim := { program := "ytkhmlbchphhokaagreat", sum := "9152f521fbe5b317d4844c3f42ff5a590d0ef46a2242924cd124dd619ed2f9bd", func := "fiducial/fiduciallaw46.DepthSpeckles", spec := "depthSpeckles", unfollowed := true, recurses := true, apart := false }
def DepthSpecklesSaid : Prop := depthSpecklesRow.holds Tryz.pinned (OpenSpec.ofChange depthSpecklesSpec)

/-- ITS FALSE NEIGHBOUR: 'it returns false'. Refute it at one input. -/
def depthSpecklesWrong : ChangeSpec := { name := "depthSpeckles", fn := fun _ => fun
  | [d1, d2, d3] => { results := [.lit (.bool false)], args := [d1, d2, d3] }
  | _ => none }
def DepthSpecklesWrongFalsely : Prop := depthSpecklesRow.holds Tryz.pinned (OpenSpec.ofChange depthSpecklesWrong)

/-- 'fiduciallaw09.PredicateHull': WHATEVER THE INPUT: true; the input reads as it did. -/
def predicateHullSpec : ChangeSpec := { name := "predicateHull", fn := fun _ => fun
  | [d] => { results := [.lit (.bool true)], args := [d] }
  | _ => none }
def predicateHullRow : OpenClaim := { program := "ytkhmlbchphhokaagreat", sum := "9152f521fbe5b317d4844c3f42ff5a590d0ef46a2242924cd124dd619ed2f9bd", func := "fiducial/fiduciallaw09.PredicateHull", spec := "predicateHull", unfollowed := true, recurses := true, apart := false }
def PredicateHullSaid : Prop := predicateHullRow.holds Tryz.pinned (OpenSpec.ofChange predicateHullSpec)

/-- ITS FALSE NEIGHBOUR: 'it returns false'. Refute it at one input. -/
def predicateHullWrong : ChangeSpec := { name := "predicateHull", fn := fun _ => fun
  | [d] => { results := [.lit (.bool false)], args := [d] }
  | _ => none }
def PredicateHullWrongFalsely : Prop := predicateHullRow.holds Tryz.pinned (OpenSpec.ofChange predicateHullWrong)

/-- 'fiduciallaw46.DepthFlips': WHATEVER THE INPUT: true; the input reads as it did. -/
def depthFlipsSpec : ChangeSpec := { name := "depthFlips", fn := fun _ => fun
  | [d1, d2, d3] => { results := [.lit (.bool true)], args := [d1, d2, d3] }
  | _ => none }
def depthFlipsRow : OpenClaim := { program := "ytkhmlbchphhokaagreat", sum := "9152f521fbe5b317d4844c3f42ff5a590d0ef46a2242924cd124dd619ed2f9bd", func := "fiducial/fiduciallaw46.DepthFlips", spec := "depthFlips", unfollowed := true, recurses := true, apart := false }
def DepthFlipsSaid : Prop := depthFlipsRow.holds Tryz.pinned (OpenSpec.ofChange depthFlipsSpec)

/-- ITS FALSE NEIGHBOUR: 'it returns false'. Refute it at one input. -/
def depthFlipsWrong : ChangeSpec := { name := "depthFlips", fn := fun _ => fun
  | [d1, d2, d3] => { results := [.lit (.bool false)], args := [d1, d2, d3] }
  | _ => none }
def DepthFlipsWrongFalsely : Prop := depthFlipsRow.holds Tryz.pinned (OpenSpec.ofChange depthFlipsWrong)

/- THE SECOND FORM. 'bulk': how many values and letters a reading holds, each counted each time it is reached (what is shared counts as often as it is met; a slice's spare places count too). A statement '..UptoSaid' is the law's where the arguments, and the package variables that the reading takes, are together of bulk at most 1048576: NARROWER than '..Said'. Prove '..Said' where nothing that the law and all that it calls make is longer than what came in: it says more and counts as full. Else prove '..UptoSaid'. A law counts once. -/
mutual
def uptoBulk {H : Type} : DataW H → Nat
  | .lit (.string bytes) => bytes.length + 1
  | .lit _ => 1
  | .nil => 1
  | .ptr d => uptoBulk d + 1
  | .slice elems spare => uptoBulkAll elems + uptoBulkAll spare + 1
  | .agg parts => uptoBulkAll parts + 1
  | .iface _ d => uptoBulk d + 1
  | .map entries => uptoBulkEntries entries + 1
  | .held _ => 1
def uptoBulkAll {H : Type} : List (DataW H) → Nat
  | [] => 0
  | d :: r => uptoBulk d + uptoBulkAll r
def uptoBulkEntries {H : Type} : List (Lit × DataW H) → Nat
  | [] => 0
  | x :: r => uptoBulkEntry x + uptoBulkEntries r
def uptoBulkEntry {H : Type} : Lit × DataW H → Nat
  | (.string bytes, d) => bytes.length + uptoBulk d + 1
  | (_, d) => uptoBulk d + 1
 end
def uptoSmall : (H : Type) → List (DataW H) → Bool := fun _ ds => decide (uptoBulkAll ds ≤ 1048576)
def OpenSpec.upto (s : _root_.Go.ChangeSpec) : _root_.Go.OpenSpec := { _root_.Go.OpenSpec.ofChange s with cond := some uptoSmall }

/-- 'fiduciallaw59.ChangeHistories', WHERE WHAT IT READS IS OF BULK AT MOST 1048576: true; the input reads as it did. -/
def changeHistoriesUptoRow : OpenClaim := { program := "ytkhmlbchphhokaagreat", sum := "9152f521fbe5b317d4844c3f42ff5a590d0ef46a2242924cd124dd619ed2f9bd", func := "fiducial/fiduciallaw59.ChangeHistories", spec := "changeHistories", unfollowed := true, recurses := true, apart := false, narrowed := true }
def ChangeHistoriesUptoSaid : Prop := changeHistoriesUptoRow.holds Tryz.pinned (OpenSpec.upto changeHistoriesSpec)

/-- 'fiduciallaw46.DepthSpeckles', WHERE WHAT IT READS IS OF BULK AT MOST 1048576: true; the input reads as it did. -/
def depthSpecklesUptoRow : OpenClaim := { program := "ytkhmlbchphhokaagreat", sum := "9152f521fbe5b317d4844c3f42ff5a590d0ef46a2242924cd124dd619ed2f9bd", func := "fiducial/fiduciallaw46.DepthSpeckles", spec := "depthSpeckles", unfollowed := true, recurses := true, apart := false, narrowed := true }
def DepthSpecklesUptoSaid : Prop := depthSpecklesUptoRow.holds Tryz.pinned (OpenSpec.upto depthSpecklesSpec)

/-- 'fiduciallaw09.PredicateHull', WHERE WHAT IT READS IS OF BULK AT MOST 1048576: true; the input reads as it did. -/
def predicateHullUptoRow : OpenClaim := { program := "ytkhmlbchphhokaagreat", sum := "9152f521fbe5b317d4844c3f42ff5a590d0ef46a2242924cd124dd619ed2f9bd", func := "fiducial/fiduciallaw09.PredicateHull", spec := "predicateHull", unfollowed := true, recurses := true, apart := false, narrowed := true }
def PredicateHullUptoSaid : Prop := predicateHullUptoRow.holds Tryz.pinned (OpenSpec.upto predicateHullSpec)

/-- 'fiduciallaw46.DepthFlips', WHERE WHAT IT READS IS OF BULK AT MOST 1048576: true; the input reads as it did. -/
def depthFlipsUptoRow : OpenClaim := { program := "ytkhmlbchphhokaagreat", sum := "9152f521fbe5b317d4844c3f42ff5a590d0ef46a2242924cd124dd619ed2f9bd", func := "fiducial/fiduciallaw46.DepthFlips", spec := "depthFlips", unfollowed := true, recurses := true, apart := false, narrowed := true }
def DepthFlipsUptoSaid : Prop := depthFlipsUptoRow.holds Tryz.pinned (OpenSpec.upto depthFlipsSpec)

end Rows
end Go.Proofs.YtkhmlbchphhokaaGreat
