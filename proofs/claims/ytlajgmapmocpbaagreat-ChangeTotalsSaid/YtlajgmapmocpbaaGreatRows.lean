/-
  No cell of these rows narrows 'for every input' (looked for: loops, veiled, ifaces, maps, wideKeys, modest, calm, conditions, laid).
  DERIVED. THE GIVEN ROWS OF THIS SEAT. 9 by the template 'for every input the law returns true; each argument reads behind the call as it read before'; 0 by the template 'total and deterministic' (their statements: YtlajgmapmocpbaaGreatTotals.lean).
  GIVEN WITH THE SEED: the statements are not yours to turn. If you find one false, say at which input.
  Laid BY PROGRAM, IN A SANDBOX (cutbox-rows.mjs): the forced cells as the released guide's own fill.sh prints them over the translation 4b011c19e7739334… (all of the seat's roots in one cut). By AI agents, Wed Nov 11 2026. No macro, syntax, notation, axiom, sorry.
-/
import Derived.Test.YtlajgmapmocpbaaGreatChecked
import GoSem.Claim
import GoSem.ClaimJoined
import GoSem.ClaimMapViews
import Derived.JoinedTies
import Derived.KernelRfl
namespace Go.Proofs.YtlajgmapmocpbaaGreat
/- THE CELL 'sum', in the pinned program and in every row, IS THE sha256 OF THE DUMP (.gsa) THAT YtlajgmapmocpbaaGreatProg.lean LOADS. Nothing in Lean hashes anything: it is a label: what it is worth is what the hold of that sum in a sandbox is worth. -/
noncomputable def Tryz.pinned : Pinned := { name := "ytlajgmapmocpbaagreat", sum := "4b011c19e77393340d4b77337de2560f9ae87ee593b579ea7feb340a0e79be9e", checked := Tryz.checked }
namespace Rows
def none {H : Type} : Left H := { results := [], args := [] }

/-- 'fiduciallaw59.ChangeVolumes': WHATEVER THE INPUT: true; the input reads as it did. -/
def changeVolumesSpec : ChangeSpec := { name := "changeVolumes", fn := fun _ => fun
  | [d1, d2, d3] => { results := [.lit (.bool true)], args := [d1, d2, d3] }
  | _ => none }
def changeVolumesRow : OpenClaim := { program := "ytlajgmapmocpbaagreat", sum := "4b011c19e77393340d4b77337de2560f9ae87ee593b579ea7feb340a0e79be9e", func := "fiducial/fiduciallaw59.ChangeVolumes", spec := "changeVolumes", unfollowed := true, recurses := true, apart := false }
def ChangeVolumesSaid : Prop := changeVolumesRow.holds Tryz.pinned (OpenSpec.ofChange changeVolumesSpec)

/-- ITS FALSE NEIGHBOUR: 'it returns false'. Refute it at one input. -/
def changeVolumesWrong : ChangeSpec := { name := "changeVolumes", fn := fun _ => fun
  | [d1, d2, d3] => { results := [.lit (.bool false)], args := [d1, d2, d3] }
  | _ => none }
def ChangeVolumesWrongFalsely : Prop := changeVolumesRow.holds Tryz.pinned (OpenSpec.ofChange changeVolumesWrong)

/-- 'fiduciallaw59.ChangeTotals': WHATEVER THE INPUT: true; the input reads as it did. -/
def changeTotalsSpec : ChangeSpec := { name := "changeTotals", fn := fun _ => fun
  | [d1, d2, d3] => { results := [.lit (.bool true)], args := [d1, d2, d3] }
  | _ => none }
def changeTotalsRow : OpenClaim := { program := "ytlajgmapmocpbaagreat", sum := "4b011c19e77393340d4b77337de2560f9ae87ee593b579ea7feb340a0e79be9e", func := "fiducial/fiduciallaw59.ChangeTotals", spec := "changeTotals", unfollowed := true, recurses := true, apart := false }
def ChangeTotalsSaid : Prop := changeTotalsRow.holds Tryz.pinned (OpenSpec.ofChange changeTotalsSpec)

/-- ITS FALSE NEIGHBOUR: 'it returns false'. Refute it at one input. -/
def changeTotalsWrong : ChangeSpec := { name := "changeTotals", fn := fun _ => fun
  | [d1, d2, d3] => { results := [.lit (.bool false)], args := [d1, d2, d3] }
  | _ => none }
def ChangeTotalsWrongFalsely : Prop := changeTotalsRow.holds Tryz.pinned (OpenSpec.ofChange changeTotalsWrong)

/-- 'fiduciallaw59.ChangeCompares': WHATEVER THE INPUT: true; the input reads as it did. -/
def changeComparesSpec : ChangeSpec := { name := "changeCompares", fn := fun _ => fun
  | [d1, d2] => { results := [.lit (.bool true)], args := [d1, d2] }
  | _ => none }
def changeComparesRow : OpenClaim := { program := "ytlajgmapmocpbaagreat", sum := "4b011c19e77393340d4b77337de2560f9ae87ee593b579ea7feb340a0e79be9e", func := "fiducial/fiduciallaw59.ChangeCompares", spec := "changeCompares", unfollowed := true, recurses := true, apart := false }
def ChangeComparesSaid : Prop := changeComparesRow.holds Tryz.pinned (OpenSpec.ofChange changeComparesSpec)

/-- ITS FALSE NEIGHBOUR: 'it returns false'. Refute it at one input. -/
def changeComparesWrong : ChangeSpec := { name := "changeCompares", fn := fun _ => fun
  | [d1, d2] => { results := [.lit (.bool false)], args := [d1, d2] }
  | _ => none }
def ChangeComparesWrongFalsely : Prop := changeComparesRow.holds Tryz.pinned (OpenSpec.ofChange changeComparesWrong)

/-- 'fiduciallaw09.PredicateOrient': WHATEVER THE INPUT: true; the input reads as it did. -/
def predicateOrientSpec : ChangeSpec := { name := "predicateOrient", fn := fun _ => fun
  | [d1, d2, d3] => { results := [.lit (.bool true)], args := [d1, d2, d3] }
  | _ => none }
def predicateOrientRow : OpenClaim := { program := "ytlajgmapmocpbaagreat", sum := "4b011c19e77393340d4b77337de2560f9ae87ee593b579ea7feb340a0e79be9e", func := "fiducial/fiduciallaw09.PredicateOrient", spec := "predicateOrient", unfollowed := true, recurses := true, apart := false }
def PredicateOrientSaid : Prop := predicateOrientRow.holds Tryz.pinned (OpenSpec.ofChange predicateOrientSpec)

/-- ITS FALSE NEIGHBOUR: 'it returns false'. Refute it at one input. -/
def predicateOrientWrong : ChangeSpec := { name := "predicateOrient", fn := fun _ => fun
  | [d1, d2, d3] => { results := [.lit (.bool false)], args := [d1, d2, d3] }
  | _ => none }
def PredicateOrientWrongFalsely : Prop := predicateOrientRow.holds Tryz.pinned (OpenSpec.ofChange predicateOrientWrong)

/-- 'fiduciallaw09.PredicateCircle': WHATEVER THE INPUT: true; the input reads as it did. -/
def predicateCircleSpec : ChangeSpec := { name := "predicateCircle", fn := fun _ => fun
  | [d] => { results := [.lit (.bool true)], args := [d] }
  | _ => none }
def predicateCircleRow : OpenClaim := { program := "ytlajgmapmocpbaagreat", sum := "4b011c19e77393340d4b77337de2560f9ae87ee593b579ea7feb340a0e79be9e", func := "fiducial/fiduciallaw09.PredicateCircle", spec := "predicateCircle", unfollowed := true, recurses := true, apart := false }
def PredicateCircleSaid : Prop := predicateCircleRow.holds Tryz.pinned (OpenSpec.ofChange predicateCircleSpec)

/-- ITS FALSE NEIGHBOUR: 'it returns false'. Refute it at one input. -/
def predicateCircleWrong : ChangeSpec := { name := "predicateCircle", fn := fun _ => fun
  | [d] => { results := [.lit (.bool false)], args := [d] }
  | _ => none }
def PredicateCircleWrongFalsely : Prop := predicateCircleRow.holds Tryz.pinned (OpenSpec.ofChange predicateCircleWrong)

/-- 'fiduciallaw09.PredicateRelate': WHATEVER THE INPUT: true; the input reads as it did. -/
def predicateRelateSpec : ChangeSpec := { name := "predicateRelate", fn := fun _ => fun
  | [d] => { results := [.lit (.bool true)], args := [d] }
  | _ => none }
def predicateRelateRow : OpenClaim := { program := "ytlajgmapmocpbaagreat", sum := "4b011c19e77393340d4b77337de2560f9ae87ee593b579ea7feb340a0e79be9e", func := "fiducial/fiduciallaw09.PredicateRelate", spec := "predicateRelate", unfollowed := true, recurses := true, apart := false }
def PredicateRelateSaid : Prop := predicateRelateRow.holds Tryz.pinned (OpenSpec.ofChange predicateRelateSpec)

/-- ITS FALSE NEIGHBOUR: 'it returns false'. Refute it at one input. -/
def predicateRelateWrong : ChangeSpec := { name := "predicateRelate", fn := fun _ => fun
  | [d] => { results := [.lit (.bool false)], args := [d] }
  | _ => none }
def PredicateRelateWrongFalsely : Prop := predicateRelateRow.holds Tryz.pinned (OpenSpec.ofChange predicateRelateWrong)

/-- 'fiduciallaw09.PredicateMeet': WHATEVER THE INPUT: true; the input reads as it did. -/
def predicateMeetSpec : ChangeSpec := { name := "predicateMeet", fn := fun _ => fun
  | [d] => { results := [.lit (.bool true)], args := [d] }
  | _ => none }
def predicateMeetRow : OpenClaim := { program := "ytlajgmapmocpbaagreat", sum := "4b011c19e77393340d4b77337de2560f9ae87ee593b579ea7feb340a0e79be9e", func := "fiducial/fiduciallaw09.PredicateMeet", spec := "predicateMeet", unfollowed := true, recurses := true, apart := false }
def PredicateMeetSaid : Prop := predicateMeetRow.holds Tryz.pinned (OpenSpec.ofChange predicateMeetSpec)

/-- ITS FALSE NEIGHBOUR: 'it returns false'. Refute it at one input. -/
def predicateMeetWrong : ChangeSpec := { name := "predicateMeet", fn := fun _ => fun
  | [d] => { results := [.lit (.bool false)], args := [d] }
  | _ => none }
def PredicateMeetWrongFalsely : Prop := predicateMeetRow.holds Tryz.pinned (OpenSpec.ofChange predicateMeetWrong)

/-- 'fiduciallaw09.PredicateBetween': WHATEVER THE INPUT: true; the input reads as it did. -/
def predicateBetweenSpec : ChangeSpec := { name := "predicateBetween", fn := fun _ => fun
  | [d1, d2, d3] => { results := [.lit (.bool true)], args := [d1, d2, d3] }
  | _ => none }
def predicateBetweenRow : OpenClaim := { program := "ytlajgmapmocpbaagreat", sum := "4b011c19e77393340d4b77337de2560f9ae87ee593b579ea7feb340a0e79be9e", func := "fiducial/fiduciallaw09.PredicateBetween", spec := "predicateBetween", unfollowed := true, recurses := true, apart := false }
def PredicateBetweenSaid : Prop := predicateBetweenRow.holds Tryz.pinned (OpenSpec.ofChange predicateBetweenSpec)

/-- ITS FALSE NEIGHBOUR: 'it returns false'. Refute it at one input. -/
def predicateBetweenWrong : ChangeSpec := { name := "predicateBetween", fn := fun _ => fun
  | [d1, d2, d3] => { results := [.lit (.bool false)], args := [d1, d2, d3] }
  | _ => none }
def PredicateBetweenWrongFalsely : Prop := predicateBetweenRow.holds Tryz.pinned (OpenSpec.ofChange predicateBetweenWrong)

/-- 'fiduciallaw59.ChangeHistories': WHATEVER THE INPUT: true; the input reads as it did. -/
def changeHistoriesSpec : ChangeSpec := { name := "changeHistories", fn := fun _ => fun
  | [d] => { results := [.lit (.bool true)], args := [d] }
  | _ => none }
def changeHistoriesRow : OpenClaim := { program := "ytlajgmapmocpbaagreat", sum := "4b011c19e77393340d4b77337de2560f9ae87ee593b579ea7feb340a0e79be9e", func := "fiducial/fiduciallaw59.ChangeHistories", spec := "changeHistories", unfollowed := true, recurses := true, apart := false }
def ChangeHistoriesSaid : Prop := changeHistoriesRow.holds Tryz.pinned (OpenSpec.ofChange changeHistoriesSpec)

/-- ITS FALSE NEIGHBOUR: 'it returns false'. Refute it at one input. -/
def changeHistoriesWrong : ChangeSpec := { name := "changeHistories", fn := fun _ => fun
  | [d] => { results := [.lit (.bool false)], args := [d] }
  | _ => none }
def ChangeHistoriesWrongFalsely : Prop := changeHistoriesRow.holds Tryz.pinned (OpenSpec.ofChange changeHistoriesWrong)

/- THE SECOND FORM. 'bulk': how many values and letters a reading holds, each counted each time it is reached (what is shared counts as often as it is met; a slice's spare places count too). A statement '..UptoSaid' is the law's where the arguments, and the package variables that the reading takes, are together of bulk at most 1048576: NARROWER than '..Said'. Prove '..Said' where nothing that the law and all that it calls make is longer than what came in: it says more and counts as full. Else prove '..UptoSaid'. A law counts once. -/
mutual
def uptoBulk {H : Type} : DataW H → Nat
  | .lit (.string bytes) => bytes.length + 1
  | .lit _ => 1
  | .nil => 1
  | .ptr d => uptoBulk d + 1
  | .slice elems spare => uptoBulkAll elems + uptoBulkAll spare + 1
  | .agg parts => uptoBulkAll parts + 1
  | .iface _ d => uptoBulk d + 1
  | .map entries => uptoBulkEntries entries + 1
  | .held _ => 1
def uptoBulkAll {H : Type} : List (DataW H) → Nat
  | [] => 0
  | d :: r => uptoBulk d + uptoBulkAll r
def uptoBulkEntries {H : Type} : List (Lit × DataW H) → Nat
  | [] => 0
  | x :: r => uptoBulkEntry x + uptoBulkEntries r
def uptoBulkEntry {H : Type} : Lit × DataW H → Nat
  | (.string bytes, d) => bytes.length + uptoBulk d + 1
  | (_, d) => uptoBulk d + 1
 end
def uptoSmall : (H : Type) → List (DataW H) → Bool := fun _ ds => decide (uptoBulkAll ds ≤ 1048576)
def OpenSpec.upto (s : _root_.Go.ChangeSpec) : _root_.Go.OpenSpec := { _root_.Go.OpenSpec.ofChange s with cond := some uptoSmall }

/-- 'fiduciallaw59.ChangeVolumes', WHERE WHAT IT READS IS OF BULK AT MOST 1048576: true; the input reads as it did. -/
def changeVolumesUptoRow : OpenClaim := { program := "ytlajgmapmocpbaagreat", sum := "4b011c19e77393340d4b77337de2560f9ae87ee593b579ea7feb340a0e79be9e", func := "fiducial/fiduciallaw59.ChangeVolumes", spec := "changeVolumes", unfollowed := true, recurses := true, apart := false, narrowed := true }
def ChangeVolumesUptoSaid : Prop := changeVolumesUptoRow.holds Tryz.pinned (OpenSpec.upto changeVolumesSpec)

/-- 'fiduciallaw59.ChangeTotals', WHERE WHAT IT READS IS OF BULK AT MOST 1048576: true; the input reads as it did. -/
def changeTotalsUptoRow : OpenClaim := { program := "ytlajgmapmocpbaagreat", sum := "4b011c19e77393340d4b77337de2560f9ae87ee593b579ea7feb340a0e79be9e", func := "fiducial/fiduciallaw59.ChangeTotals", spec := "changeTotals", unfollowed := true, recurses := true, apart := false, narrowed := true }
def ChangeTotalsUptoSaid : Prop := changeTotalsUptoRow.holds Tryz.pinned (OpenSpec.upto changeTotalsSpec)

/-- 'fiduciallaw59.ChangeCompares', WHERE WHAT IT READS IS OF BULK AT MOST 1048576: true; the input reads as it did. -/
def changeComparesUptoRow : OpenClaim := { program := "ytlajgmapmocpbaagreat", sum := "4b011c19e77393340d4b77337de2560f9ae87ee593b579ea7feb340a0e79be9e", func := "fiducial/fiduciallaw59.ChangeCompares", spec := "changeCompares", unfollowed := true, recurses := true, apart := false, narrowed := true }
def ChangeComparesUptoSaid : Prop := changeComparesUptoRow.holds Tryz.pinned (OpenSpec.upto changeComparesSpec)

/-- 'fiduciallaw09.PredicateOrient', WHERE WHAT IT READS IS OF BULK AT MOST 1048576: true; the input reads as it did. -/
def predicateOrientUptoRow : OpenClaim := { program := "ytlajgmapmocpbaagreat", sum := "4b011c19e77393340d4b77337de2560f9ae87ee593b579ea7feb340a0e79be9e", func := "fiducial/fiduciallaw09.PredicateOrient", spec := "predicateOrient", unfollowed := true, recurses := true, apart := false, narrowed := true }
def PredicateOrientUptoSaid : Prop := predicateOrientUptoRow.holds Tryz.pinned (OpenSpec.upto predicateOrientSpec)

/-- 'fiduciallaw09.PredicateCircle', WHERE WHAT IT READS IS OF BULK AT MOST 1048576: true; the input reads as it did. -/
def predicateCircleUptoRow : OpenClaim := { program := "ytlajgmapmocpbaagreat", sum := "4b011c19e77393340d4b77337de2560f9ae87ee593b579ea7feb340a0e79be9e", func := "fiducial/fiduciallaw09.PredicateCircle", spec := "predicateCircle", unfollowed := true, recurses := true, apart := false, narrowed := true }
def PredicateCircleUptoSaid : Prop := predicateCircleUptoRow.holds Tryz.pinned (OpenSpec.upto predicateCircleSpec)

/-- 'fiduciallaw09.PredicateRelate', WHERE WHAT IT READS IS OF BULK AT MOST 1048576: true; the input reads as it did. -/
def predicateRelateUptoRow : OpenClaim := { program := "ytlajgmapmocpbaagreat", sum := "4b011c19e77393340d4b77337de2560f9ae87ee593b579ea7feb340a0e79be9e", func := "fiducial/fiduciallaw09.PredicateRelate", spec := "predicateRelate", unfollowed := true, recurses := true, apart := false, narrowed := true }
def PredicateRelateUptoSaid : Prop := predicateRelateUptoRow.holds Tryz.pinned (OpenSpec.upto predicateRelateSpec)

/-- 'fiduciallaw09.PredicateMeet', WHERE WHAT IT READS IS OF BULK AT MOST 1048576: true; the input reads as it did. -/
def predicateMeetUptoRow : OpenClaim := { program := "ytlajgmapmocpbaagreat", sum := "4b011c19e77393340d4b77337de2560f9ae87ee593b579ea7feb340a0e79be9e", func := "fiducial/fiduciallaw09.PredicateMeet", spec := "predicateMeet", unfollowed := true, recurses := true, apart := false, narrowed := true }
def PredicateMeetUptoSaid : Prop := predicateMeetUptoRow.holds Tryz.pinned (OpenSpec.upto predicateMeetSpec)

/-- 'fiduciallaw09.PredicateBetween', WHERE WHAT IT READS IS OF BULK AT MOST 1048576: true; the input reads as it did. -/
def predicateBetweenUptoRow : OpenClaim := { program := "ytlajgmapmocpbaagreat", sum := "4b011c19e77393340d4b77337de2560f9ae87ee593b579ea7feb340a0e79be9e", func := "fiducial/fiduciallaw09.PredicateBetween", spec := "predicateBetween", unfollowed := true, recurses := true, apart := false, narrowed := true }
def PredicateBetweenUptoSaid : Prop := predicateBetweenUptoRow.holds Tryz.pinned (OpenSpec.upto predicateBetweenSpec)

/-- 'fiduciallaw59.ChangeHistories', WHERE WHAT IT READS IS OF BULK AT MOST 1048576: true; the input reads as it did. -/
def changeHistoriesUptoRow : OpenClaim := { program := "ytlajgmapmocpbaagreat", sum := "4b011c19e77393340d4b77337de2560f9ae87ee593b579ea7feb340a0e79be9e", func := "fiducial/fiduciallaw59.ChangeHistories", spec := "changeHistories", unfollowed := true, recurses := true, apart := false, narrowed := true }
def ChangeHistoriesUptoSaid : Prop := changeHistoriesUptoRow.holds Tryz.pinned (OpenSpec.upto changeHistoriesSpec)

end Rows
end Go.Proofs.YtlajgmapmocpbaaGreat
