/-
  No cell of these rows narrows 'for every input' (looked for: loops, veiled, ifaces, maps, wideKeys, modest, calm, conditions, laid).
  DERIVED. THE GIVEN ROWS OF THIS SEAT. 9 by the template 'for every input the law returns true; each argument reads behind the call as it read before'; 0 by the template 'total and deterministic' (their statements: YtecdcgfclgmbpaaGreatTotals.lean).
  GIVEN WITH THE SEED: the statements are not yours to turn. If you find one false, say at which input.
  Laid BY PROGRAM, IN A SANDBOX (cutbox-rows.mjs): the forced cells as the released guide's own fill.sh prints them over the translation 15ceaaf7d26198a5… (all of the seat's roots in one cut). By AI agents, Wed Nov 11 2026. No macro, syntax, notation, axiom, sorry.
-/
import Derived.Test.YtecdcgfclgmbpaaGreatChecked
import GoSem.Claim
import GoSem.ClaimJoined
import GoSem.ClaimMapViews
import Derived.JoinedTies
import Derived.KernelRfl
namespace Go.Proofs.YtecdcgfclgmbpaaGreat
/- THE CELL 'sum', in the pinned program and in every row, IS THE sha256 OF THE DUMP (.gsa) THAT YtecdcgfclgmbpaaGreatProg.lean LOADS. Nothing in Lean hashes anything: it is a label: what it is worth is what the hold of that sum in a sandbox is worth. -/
noncomputable def Tryz.pinned : Pinned := { name := "ytecdcgfclgmbpaagreat", sum := "15ceaaf7d26198a5b99e71476486164166aad0931cf924288054ac199b6c3a6b", checked := Tryz.checked }
namespace Rows
def none {H : Type} : Left H := { results := [], args := [] }

/-- 'fiduciallaw51.ContourLines': WHATEVER THE INPUT: true; the input reads as it did. -/
def contourLinesSpec : ChangeSpec := { name := "contourLines", fn := fun _ => fun
  | [d1, d2] => { results := [.lit (.bool true)], args := [d1, d2] }
  | _ => none }
def contourLinesRow : OpenClaim := { program := "ytecdcgfclgmbpaagreat", sum := "15ceaaf7d26198a5b99e71476486164166aad0931cf924288054ac199b6c3a6b", func := "fiducial/fiduciallaw51.ContourLines", spec := "contourLines", unfollowed := true, recurses := true, plainKeys := false, apart := false }
def ContourLinesSaid : Prop := contourLinesRow.holds Tryz.pinned (OpenSpec.ofChange contourLinesSpec)

/-- ITS FALSE NEIGHBOUR: 'it returns false'. Refute it at one input. -/
def contourLinesWrong : ChangeSpec := { name := "contourLines", fn := fun _ => fun
  | [d1, d2] => { results := [.lit (.bool false)], args := [d1, d2] }
  | _ => none }
def ContourLinesWrongFalsely : Prop := contourLinesRow.holds Tryz.pinned (OpenSpec.ofChange contourLinesWrong)

/-- 'fiduciallaw51.ContourChecks': WHATEVER THE INPUT: true; the input reads as it did. -/
def contourChecksSpec : ChangeSpec := { name := "contourChecks", fn := fun _ => fun
  | [d1, d2, d3] => { results := [.lit (.bool true)], args := [d1, d2, d3] }
  | _ => none }
def contourChecksRow : OpenClaim := { program := "ytecdcgfclgmbpaagreat", sum := "15ceaaf7d26198a5b99e71476486164166aad0931cf924288054ac199b6c3a6b", func := "fiducial/fiduciallaw51.ContourChecks", spec := "contourChecks", unfollowed := true, recurses := true, plainKeys := false, apart := false }
def ContourChecksSaid : Prop := contourChecksRow.holds Tryz.pinned (OpenSpec.ofChange contourChecksSpec)

/-- ITS FALSE NEIGHBOUR: 'it returns false'. Refute it at one input. -/
def contourChecksWrong : ChangeSpec := { name := "contourChecks", fn := fun _ => fun
  | [d1, d2, d3] => { results := [.lit (.bool false)], args := [d1, d2, d3] }
  | _ => none }
def ContourChecksWrongFalsely : Prop := contourChecksRow.holds Tryz.pinned (OpenSpec.ofChange contourChecksWrong)

/-- 'fiduciallaw51.ContourTurns': WHATEVER THE INPUT: true; the input reads as it did. -/
def contourTurnsSpec : ChangeSpec := { name := "contourTurns", fn := fun _ => fun
  | [d1, d2, d3] => { results := [.lit (.bool true)], args := [d1, d2, d3] }
  | _ => none }
def contourTurnsRow : OpenClaim := { program := "ytecdcgfclgmbpaagreat", sum := "15ceaaf7d26198a5b99e71476486164166aad0931cf924288054ac199b6c3a6b", func := "fiducial/fiduciallaw51.ContourTurns", spec := "contourTurns", unfollowed := true, recurses := true, plainKeys := false, apart := false }
def ContourTurnsSaid : Prop := contourTurnsRow.holds Tryz.pinned (OpenSpec.ofChange contourTurnsSpec)

/-- ITS FALSE NEIGHBOUR: 'it returns false'. Refute it at one input. -/
def contourTurnsWrong : ChangeSpec := { name := "contourTurns", fn := fun _ => fun
  | [d1, d2, d3] => { results := [.lit (.bool false)], args := [d1, d2, d3] }
  | _ => none }
def ContourTurnsWrongFalsely : Prop := contourTurnsRow.holds Tryz.pinned (OpenSpec.ofChange contourTurnsWrong)

/-- 'fiduciallaw51.ContourSides': WHATEVER THE INPUT: true; the input reads as it did. -/
def contourSidesSpec : ChangeSpec := { name := "contourSides", fn := fun _ => fun
  | [d1, d2, d3] => { results := [.lit (.bool true)], args := [d1, d2, d3] }
  | _ => none }
def contourSidesRow : OpenClaim := { program := "ytecdcgfclgmbpaagreat", sum := "15ceaaf7d26198a5b99e71476486164166aad0931cf924288054ac199b6c3a6b", func := "fiducial/fiduciallaw51.ContourSides", spec := "contourSides", unfollowed := true, recurses := true, plainKeys := false, apart := false }
def ContourSidesSaid : Prop := contourSidesRow.holds Tryz.pinned (OpenSpec.ofChange contourSidesSpec)

/-- ITS FALSE NEIGHBOUR: 'it returns false'. Refute it at one input. -/
def contourSidesWrong : ChangeSpec := { name := "contourSides", fn := fun _ => fun
  | [d1, d2, d3] => { results := [.lit (.bool false)], args := [d1, d2, d3] }
  | _ => none }
def ContourSidesWrongFalsely : Prop := contourSidesRow.holds Tryz.pinned (OpenSpec.ofChange contourSidesWrong)

/-- 'fiduciallaw51.ContourApart': WHATEVER THE INPUT: true; the input reads as it did. -/
def contourApartSpec : ChangeSpec := { name := "contourApart", fn := fun _ => fun
  | [d1, d2] => { results := [.lit (.bool true)], args := [d1, d2] }
  | _ => none }
def contourApartRow : OpenClaim := { program := "ytecdcgfclgmbpaagreat", sum := "15ceaaf7d26198a5b99e71476486164166aad0931cf924288054ac199b6c3a6b", func := "fiducial/fiduciallaw51.ContourApart", spec := "contourApart", unfollowed := true, recurses := true, plainKeys := false, apart := false }
def ContourApartSaid : Prop := contourApartRow.holds Tryz.pinned (OpenSpec.ofChange contourApartSpec)

/-- ITS FALSE NEIGHBOUR: 'it returns false'. Refute it at one input. -/
def contourApartWrong : ChangeSpec := { name := "contourApart", fn := fun _ => fun
  | [d1, d2] => { results := [.lit (.bool false)], args := [d1, d2] }
  | _ => none }
def ContourApartWrongFalsely : Prop := contourApartRow.holds Tryz.pinned (OpenSpec.ofChange contourApartWrong)

/-- 'fiduciallaw51.ContourPlaces': WHATEVER THE INPUT: true; the input reads as it did. -/
def contourPlacesSpec : ChangeSpec := { name := "contourPlaces", fn := fun _ => fun
  | [d1, d2] => { results := [.lit (.bool true)], args := [d1, d2] }
  | _ => none }
def contourPlacesRow : OpenClaim := { program := "ytecdcgfclgmbpaagreat", sum := "15ceaaf7d26198a5b99e71476486164166aad0931cf924288054ac199b6c3a6b", func := "fiducial/fiduciallaw51.ContourPlaces", spec := "contourPlaces", unfollowed := true, recurses := true, plainKeys := false, apart := false }
def ContourPlacesSaid : Prop := contourPlacesRow.holds Tryz.pinned (OpenSpec.ofChange contourPlacesSpec)

/-- ITS FALSE NEIGHBOUR: 'it returns false'. Refute it at one input. -/
def contourPlacesWrong : ChangeSpec := { name := "contourPlaces", fn := fun _ => fun
  | [d1, d2] => { results := [.lit (.bool false)], args := [d1, d2] }
  | _ => none }
def ContourPlacesWrongFalsely : Prop := contourPlacesRow.holds Tryz.pinned (OpenSpec.ofChange contourPlacesWrong)

/-- 'fiduciallaw51.ContourSums': WHATEVER THE INPUT: true; the input reads as it did. -/
def contourSumsSpec : ChangeSpec := { name := "contourSums", fn := fun _ => fun
  | [d1, d2] => { results := [.lit (.bool true)], args := [d1, d2] }
  | _ => none }
def contourSumsRow : OpenClaim := { program := "ytecdcgfclgmbpaagreat", sum := "15ceaaf7d26198a5b99e71476486164166aad0931cf924288054ac199b6c3a6b", func := "fiducial/fiduciallaw51.ContourSums", spec := "contourSums", unfollowed := true, recurses := true, plainKeys := false, apart := false }
def ContourSumsSaid : Prop := contourSumsRow.holds Tryz.pinned (OpenSpec.ofChange contourSumsSpec)

/-- ITS FALSE NEIGHBOUR: 'it returns false'. Refute it at one input. -/
def contourSumsWrong : ChangeSpec := { name := "contourSums", fn := fun _ => fun
  | [d1, d2] => { results := [.lit (.bool false)], args := [d1, d2] }
  | _ => none }
def ContourSumsWrongFalsely : Prop := contourSumsRow.holds Tryz.pinned (OpenSpec.ofChange contourSumsWrong)

/-- 'fiduciallaw51.ContourMonotone': WHATEVER THE INPUT: true; the input reads as it did. -/
def contourMonotoneSpec : ChangeSpec := { name := "contourMonotone", fn := fun _ => fun
  | [d1, d2] => { results := [.lit (.bool true)], args := [d1, d2] }
  | _ => none }
def contourMonotoneRow : OpenClaim := { program := "ytecdcgfclgmbpaagreat", sum := "15ceaaf7d26198a5b99e71476486164166aad0931cf924288054ac199b6c3a6b", func := "fiducial/fiduciallaw51.ContourMonotone", spec := "contourMonotone", unfollowed := true, recurses := true, plainKeys := false, apart := false }
def ContourMonotoneSaid : Prop := contourMonotoneRow.holds Tryz.pinned (OpenSpec.ofChange contourMonotoneSpec)

/-- ITS FALSE NEIGHBOUR: 'it returns false'. Refute it at one input. -/
def contourMonotoneWrong : ChangeSpec := { name := "contourMonotone", fn := fun _ => fun
  | [d1, d2] => { results := [.lit (.bool false)], args := [d1, d2] }
  | _ => none }
def ContourMonotoneWrongFalsely : Prop := contourMonotoneRow.holds Tryz.pinned (OpenSpec.ofChange contourMonotoneWrong)

/-- 'fiduciallaw51.ContourNests': WHATEVER THE INPUT: true; the input reads as it did. -/
def contourNestsSpec : ChangeSpec := { name := "contourNests", fn := fun _ => fun
  | [d1, d2] => { results := [.lit (.bool true)], args := [d1, d2] }
  | _ => none }
def contourNestsRow : OpenClaim := { program := "ytecdcgfclgmbpaagreat", sum := "15ceaaf7d26198a5b99e71476486164166aad0931cf924288054ac199b6c3a6b", func := "fiducial/fiduciallaw51.ContourNests", spec := "contourNests", unfollowed := true, recurses := true, plainKeys := false, apart := false }
def ContourNestsSaid : Prop := contourNestsRow.holds Tryz.pinned (OpenSpec.ofChange contourNestsSpec)

/-- ITS FALSE NEIGHBOUR: 'it returns false'. Refute it at one input. -/
def contourNestsWrong : ChangeSpec := { name := "contourNests", fn := fun _ => fun
  | [d1, d2] => { results := [.lit (.bool false)], args := [d1, d2] }
  | _ => none }
def ContourNestsWrongFalsely : Prop := contourNestsRow.holds Tryz.pinned (OpenSpec.ofChange contourNestsWrong)

/- THE SECOND FORM. 'bulk': how many values and letters a reading holds, each counted each time it is reached (what is shared counts as often as it is met; a slice's spare places count too). A statement '..UptoSaid' is the law's where the arguments, and the package variables that the reading takes, are together of bulk at most 1048576: NARROWER than '..Said'. Prove '..Said' where nothing that the law and all that it calls make is longer than what came in: it says more and counts as full. Else prove '..UptoSaid'. A law counts once. -/
mutual
def uptoBulk {H : Type} : DataW H → Nat
  | .lit (.string bytes) => bytes.length + 1
  | .lit _ => 1
  | .nil => 1
  | .ptr d => uptoBulk d + 1
  | .slice elems spare => uptoBulkAll elems + uptoBulkAll spare + 1
  | .agg parts => uptoBulkAll parts + 1
  | .iface _ d => uptoBulk d + 1
  | .map entries => uptoBulkEntries entries + 1
  | .held _ => 1
def uptoBulkAll {H : Type} : List (DataW H) → Nat
  | [] => 0
  | d :: r => uptoBulk d + uptoBulkAll r
def uptoBulkEntries {H : Type} : List (Lit × DataW H) → Nat
  | [] => 0
  | x :: r => uptoBulkEntry x + uptoBulkEntries r
def uptoBulkEntry {H : Type} : Lit × DataW H → Nat
  | (.string bytes, d) => bytes.length + uptoBulk d + 1
  | (_, d) => uptoBulk d + 1
 end
def uptoSmall : (H : Type) → List (DataW H) → Bool := fun _ ds => decide (uptoBulkAll ds ≤ 1048576)
def OpenSpec.upto (s : _root_.Go.ChangeSpec) : _root_.Go.OpenSpec := { _root_.Go.OpenSpec.ofChange s with cond := some uptoSmall }

/-- 'fiduciallaw51.ContourLines', WHERE WHAT IT READS IS OF BULK AT MOST 1048576: true; the input reads as it did. -/
def contourLinesUptoRow : OpenClaim := { program := "ytecdcgfclgmbpaagreat", sum := "15ceaaf7d26198a5b99e71476486164166aad0931cf924288054ac199b6c3a6b", func := "fiducial/fiduciallaw51.ContourLines", spec := "contourLines", unfollowed := true, recurses := true, plainKeys := false, apart := false, narrowed := true }
def ContourLinesUptoSaid : Prop := contourLinesUptoRow.holds Tryz.pinned (OpenSpec.upto contourLinesSpec)

/-- 'fiduciallaw51.ContourChecks', WHERE WHAT IT READS IS OF BULK AT MOST 1048576: true; the input reads as it did. -/
def contourChecksUptoRow : OpenClaim := { program := "ytecdcgfclgmbpaagreat", sum := "15ceaaf7d26198a5b99e71476486164166aad0931cf924288054ac199b6c3a6b", func := "fiducial/fiduciallaw51.ContourChecks", spec := "contourChecks", unfollowed := true, recurses := true, plainKeys := false, apart := false, narrowed := true }
def ContourChecksUptoSaid : Prop := contourChecksUptoRow.holds Tryz.pinned (OpenSpec.upto contourChecksSpec)

/-- 'fiduciallaw51.ContourTurns', WHERE WHAT IT READS IS OF BULK AT MOST 1048576: true; the input reads as it did. -/
def contourTurnsUptoRow : OpenClaim := { program := "ytecdcgfclgmbpaagreat", sum := "15ceaaf7d26198a5b99e71476486164166aad0931cf924288054ac199b6c3a6b", func := "fiducial/fiduciallaw51.ContourTurns", spec := "contourTurns", unfollowed := true, recurses := true, plainKeys := false, apart := false, narrowed := true }
def ContourTurnsUptoSaid : Prop := contourTurnsUptoRow.holds Tryz.pinned (OpenSpec.upto contourTurnsSpec)

/-- 'fiduciallaw51.ContourSides', WHERE WHAT IT READS IS OF BULK AT MOST 1048576: true; the input reads as it did. -/
def contourSidesUptoRow : OpenClaim := { program := "ytecdcgfclgmbpaagreat", sum := "15ceaaf7d26198a5b99e71476486164166aad0931cf924288054ac199b6c3a6b", func := "fiducial/fiduciallaw51.ContourSides", spec := "contourSides", unfollowed := true, recurses := true, plainKeys := false, apart := false, narrowed := true }
def ContourSidesUptoSaid : Prop := contourSidesUptoRow.holds Tryz.pinned (OpenSpec.upto contourSidesSpec)

/-- 'fiduciallaw51.ContourApart', WHERE WHAT IT READS IS OF BULK AT MOST 1048576: true; the input reads as it did. -/
def contourApartUptoRow : OpenClaim := { program := "ytecdcgfclgmbpaagreat", sum := "15ceaaf7d26198a5b99e71476486164166aad0931cf924288054ac199b6c3a6b", func := "fiducial/fiduciallaw51.ContourApart", spec := "contourApart", unfollowed := true, recurses := true, plainKeys := false, apart := false, narrowed := true }
def ContourApartUptoSaid : Prop := contourApartUptoRow.holds Tryz.pinned (OpenSpec.upto contourApartSpec)

/-- 'fiduciallaw51.ContourPlaces', WHERE WHAT IT READS IS OF BULK AT MOST 1048576: true; the input reads as it did. -/
def contourPlacesUptoRow : OpenClaim := { program := "ytecdcgfclgmbpaagreat", sum := "15ceaaf7d26198a5b99e71476486164166aad0931cf924288054ac199b6c3a6b", func := "fiducial/fiduciallaw51.ContourPlaces", spec := "contourPlaces", unfollowed := true, recurses := true, plainKeys := false, apart := false, narrowed := true }
def ContourPlacesUptoSaid : Prop := contourPlacesUptoRow.holds Tryz.pinned (OpenSpec.upto contourPlacesSpec)

/-- 'fiduciallaw51.ContourSums', WHERE WHAT IT READS IS OF BULK AT MOST 1048576: true; the input reads as it did. -/
def contourSumsUptoRow : OpenClaim := { program := "ytecdcgfclgmbpaagreat", sum := "15ceaaf7d26198a5b99e71476486164166aad0931cf924288054ac199b6c3a6b", func := "fiducial/fiduciallaw51.ContourSums", spec := "contourSums", unfollowed := true, recurses := true, plainKeys := false, apart := false, narrowed := true }
def ContourSumsUptoSaid : Prop := contourSumsUptoRow.holds Tryz.pinned (OpenSpec.upto contourSumsSpec)

/-- 'fiduciallaw51.ContourMonotone', WHERE WHAT IT READS IS OF BULK AT MOST 1048576: true; the input reads as it did. -/
def contourMonotoneUptoRow : OpenClaim := { program := "ytecdcgfclgmbpaagreat", sum := "15ceaaf7d26198a5b99e71476486164166aad0931cf924288054ac199b6c3a6b", func := "fiducial/fiduciallaw51.ContourMonotone", spec := "contourMonotone", unfollowed := true, recurses := true, plainKeys := false, apart := false, narrowed := true }
def ContourMonotoneUptoSaid : Prop := contourMonotoneUptoRow.holds Tryz.pinned (OpenSpec.upto contourMonotoneSpec)

/-- 'fiduciallaw51.ContourNests', WHERE WHAT IT READS IS OF BULK AT MOST 1048576: true; the input reads as it did. -/
def contourNestsUptoRow : OpenClaim := { program := "ytecdcgfclgmbpaagreat", sum := "15ceaaf7d26198a5b99e71476486164166aad0931cf924288054ac199b6c3a6b", func := "fiducial/fiduciallaw51.ContourNests", spec := "contourNests", unfollowed := true, recurses := true, plainKeys := false, apart := false, narrowed := true }
def ContourNestsUptoSaid : Prop := contourNestsUptoRow.holds Tryz.pinned (OpenSpec.upto contourNestsSpec)

end Rows
end Go.Proofs.YtecdcgfclgmbpaaGreat
