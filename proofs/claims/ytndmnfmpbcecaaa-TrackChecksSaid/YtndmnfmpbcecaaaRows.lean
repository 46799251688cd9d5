/-
  No cell of these rows narrows 'for every input' (looked for: loops, veiled, ifaces, maps, wideKeys, modest, calm, conditions, laid).
  DERIVED. THE GIVEN ROWS OF THIS SEAT. 8 by the template 'for every input the law returns true; each argument reads behind the call as it read before'; 0 by the template 'total and deterministic' (their statements: YtndmnfmpbcecaaaTotals.lean).
  GIVEN WITH THE SEED: the statements are not yours to turn. If you find one false, say at which input.
  Laid BY PROGRAM, IN A SANDBOX (cutbox-rows.mjs): the forced cells as the released guide's own fill.sh prints them over the translation 70899c466d0c8ded… (all of the seat's roots in one cut). By AI agents, Wed Nov 11 2026. No macro, syntax, notation, axiom, sorry.
-/
import Derived.Test.YtndmnfmpbcecaaaChecked
import GoSem.Claim
import GoSem.ClaimJoined
import GoSem.ClaimMapViews
import Derived.JoinedTies
import Derived.KernelRfl
namespace Go.Proofs.Ytndmnfmpbcecaaa
/- THE CELL 'sum', in the pinned program and in every row, IS THE sha256 OF THE DUMP (.gsa) THAT YtndmnfmpbcecaaaProg.lean LOADS. Nothing in Lean hashes anything: it is a label: what it is worth is what the hold of that sum in a sandbox is worth. -/
noncomputable def Try.pinned : Pinned := { name := "ytndmnfmpbcecaaa", sum := "70899c466d0c8dedbcb330b43f883581f2b7ff8732a99b498e3e8b792cd0b096", checked := Try.checked }
namespace Rows
def none {H : Type} : Left H := { results := [], args := [] }

/-- 'fiduciallaw26.TrackRenumbered': WHATEVER THE INPUT: true; the input reads as it did. -/
def trackRenumberedSpec : ChangeSpec := { name := "trackRenumbered", fn := fun _ => fun
  | [d1, d2] => { results := [.lit (.bool true)], args := [d1, d2] }
  | _ => none }
def trackRenumberedRow : OpenClaim := { program := "ytndmnfmpbcecaaa", sum := "70899c466d0c8dedbcb330b43f883581f2b7ff8732a99b498e3e8b792cd0b096", func := "fiducial/fiduciallaw26.TrackRenumbered", spec := "trackRenumbered", unfollowed := true, recurses := true, plainKeys := false, apart := false }
def TrackRenumberedSaid : Prop := trackRenumberedRow.holds Try.pinned (OpenSpec.ofChange trackRenumberedSpec)

/-- ITS FALSE NEIGHBOUR: 'it returns false'. Refute it at one input. -/
def trackRenumberedWrong : ChangeSpec := { name := "trackRenumbered", fn := fun _ => fun
  | [d1, d2] => { results := [.lit (.bool false)], args := [d1, d2] }
  | _ => none }
def TrackRenumberedWrongFalsely : Prop := trackRenumberedRow.holds Try.pinned (OpenSpec.ofChange trackRenumberedWrong)

/-- 'fiduciallaw26.TrackOrder': WHATEVER THE INPUT: true; the input reads as it did. -/
def trackOrderSpec : ChangeSpec := { name := "trackOrder", fn := fun _ => fun
  | [d1, d2, d3] => { results := [.lit (.bool true)], args := [d1, d2, d3] }
  | _ => none }
def trackOrderRow : OpenClaim := { program := "ytndmnfmpbcecaaa", sum := "70899c466d0c8dedbcb330b43f883581f2b7ff8732a99b498e3e8b792cd0b096", func := "fiducial/fiduciallaw26.TrackOrder", spec := "trackOrder", unfollowed := true, recurses := true, plainKeys := false, apart := false }
def TrackOrderSaid : Prop := trackOrderRow.holds Try.pinned (OpenSpec.ofChange trackOrderSpec)

/-- ITS FALSE NEIGHBOUR: 'it returns false'. Refute it at one input. -/
def trackOrderWrong : ChangeSpec := { name := "trackOrder", fn := fun _ => fun
  | [d1, d2, d3] => { results := [.lit (.bool false)], args := [d1, d2, d3] }
  | _ => none }
def TrackOrderWrongFalsely : Prop := trackOrderRow.holds Try.pinned (OpenSpec.ofChange trackOrderWrong)

/-- 'fiduciallaw26.TrackSound': WHATEVER THE INPUT: true; the input reads as it did. -/
def trackSoundSpec : ChangeSpec := { name := "trackSound", fn := fun _ => fun
  | [d] => { results := [.lit (.bool true)], args := [d] }
  | _ => none }
def trackSoundRow : OpenClaim := { program := "ytndmnfmpbcecaaa", sum := "70899c466d0c8dedbcb330b43f883581f2b7ff8732a99b498e3e8b792cd0b096", func := "fiducial/fiduciallaw26.TrackSound", spec := "trackSound", unfollowed := true, recurses := true, plainKeys := false, apart := false }
def TrackSoundSaid : Prop := trackSoundRow.holds Try.pinned (OpenSpec.ofChange trackSoundSpec)

/-- ITS FALSE NEIGHBOUR: 'it returns false'. Refute it at one input. -/
def trackSoundWrong : ChangeSpec := { name := "trackSound", fn := fun _ => fun
  | [d] => { results := [.lit (.bool false)], args := [d] }
  | _ => none }
def TrackSoundWrongFalsely : Prop := trackSoundRow.holds Try.pinned (OpenSpec.ofChange trackSoundWrong)

/-- 'fiduciallaw26.TrackGrows': WHATEVER THE INPUT: true; the input reads as it did. -/
def trackGrowsSpec : ChangeSpec := { name := "trackGrows", fn := fun _ => fun
  | [d1, d2] => { results := [.lit (.bool true)], args := [d1, d2] }
  | _ => none }
def trackGrowsRow : OpenClaim := { program := "ytndmnfmpbcecaaa", sum := "70899c466d0c8dedbcb330b43f883581f2b7ff8732a99b498e3e8b792cd0b096", func := "fiducial/fiduciallaw26.TrackGrows", spec := "trackGrows", unfollowed := true, recurses := true, plainKeys := false, apart := false }
def TrackGrowsSaid : Prop := trackGrowsRow.holds Try.pinned (OpenSpec.ofChange trackGrowsSpec)

/-- ITS FALSE NEIGHBOUR: 'it returns false'. Refute it at one input. -/
def trackGrowsWrong : ChangeSpec := { name := "trackGrows", fn := fun _ => fun
  | [d1, d2] => { results := [.lit (.bool false)], args := [d1, d2] }
  | _ => none }
def TrackGrowsWrongFalsely : Prop := trackGrowsRow.holds Try.pinned (OpenSpec.ofChange trackGrowsWrong)

/-- 'fiduciallaw26.TrackCommon': WHATEVER THE INPUT: true; the input reads as it did. -/
def trackCommonSpec : ChangeSpec := { name := "trackCommon", fn := fun _ => fun
  | [d1, d2, d3] => { results := [.lit (.bool true)], args := [d1, d2, d3] }
  | _ => none }
def trackCommonRow : OpenClaim := { program := "ytndmnfmpbcecaaa", sum := "70899c466d0c8dedbcb330b43f883581f2b7ff8732a99b498e3e8b792cd0b096", func := "fiducial/fiduciallaw26.TrackCommon", spec := "trackCommon", unfollowed := true, recurses := true, plainKeys := false, apart := false }
def TrackCommonSaid : Prop := trackCommonRow.holds Try.pinned (OpenSpec.ofChange trackCommonSpec)

/-- ITS FALSE NEIGHBOUR: 'it returns false'. Refute it at one input. -/
def trackCommonWrong : ChangeSpec := { name := "trackCommon", fn := fun _ => fun
  | [d1, d2, d3] => { results := [.lit (.bool false)], args := [d1, d2, d3] }
  | _ => none }
def TrackCommonWrongFalsely : Prop := trackCommonRow.holds Try.pinned (OpenSpec.ofChange trackCommonWrong)

/-- 'fiduciallaw26.TrackChains': WHATEVER THE INPUT: true; the input reads as it did. -/
def trackChainsSpec : ChangeSpec := { name := "trackChains", fn := fun _ => fun
  | [d] => { results := [.lit (.bool true)], args := [d] }
  | _ => none }
def trackChainsRow : OpenClaim := { program := "ytndmnfmpbcecaaa", sum := "70899c466d0c8dedbcb330b43f883581f2b7ff8732a99b498e3e8b792cd0b096", func := "fiducial/fiduciallaw26.TrackChains", spec := "trackChains", unfollowed := true, recurses := true, plainKeys := false, apart := false }
def TrackChainsSaid : Prop := trackChainsRow.holds Try.pinned (OpenSpec.ofChange trackChainsSpec)

/-- ITS FALSE NEIGHBOUR: 'it returns false'. Refute it at one input. -/
def trackChainsWrong : ChangeSpec := { name := "trackChains", fn := fun _ => fun
  | [d] => { results := [.lit (.bool false)], args := [d] }
  | _ => none }
def TrackChainsWrongFalsely : Prop := trackChainsRow.holds Try.pinned (OpenSpec.ofChange trackChainsWrong)

/-- 'fiduciallaw26.TrackChecks': WHATEVER THE INPUT: true; the input reads as it did. -/
def trackChecksSpec : ChangeSpec := { name := "trackChecks", fn := fun _ => fun
  | [d1, d2] => { results := [.lit (.bool true)], args := [d1, d2] }
  | _ => none }
def trackChecksRow : OpenClaim := { program := "ytndmnfmpbcecaaa", sum := "70899c466d0c8dedbcb330b43f883581f2b7ff8732a99b498e3e8b792cd0b096", func := "fiducial/fiduciallaw26.TrackChecks", spec := "trackChecks", unfollowed := true, recurses := true, plainKeys := false, apart := false }
def TrackChecksSaid : Prop := trackChecksRow.holds Try.pinned (OpenSpec.ofChange trackChecksSpec)

/-- ITS FALSE NEIGHBOUR: 'it returns false'. Refute it at one input. -/
def trackChecksWrong : ChangeSpec := { name := "trackChecks", fn := fun _ => fun
  | [d1, d2] => { results := [.lit (.bool false)], args := [d1, d2] }
  | _ => none }
def TrackChecksWrongFalsely : Prop := trackChecksRow.holds Try.pinned (OpenSpec.ofChange trackChecksWrong)

/-- 'fiduciallaw26.TrackCovers': WHATEVER THE INPUT: true; the input reads as it did. -/
def trackCoversSpec : ChangeSpec := { name := "trackCovers", fn := fun _ => fun
  | [d1, d2] => { results := [.lit (.bool true)], args := [d1, d2] }
  | _ => none }
def trackCoversRow : OpenClaim := { program := "ytndmnfmpbcecaaa", sum := "70899c466d0c8dedbcb330b43f883581f2b7ff8732a99b498e3e8b792cd0b096", func := "fiducial/fiduciallaw26.TrackCovers", spec := "trackCovers", unfollowed := true, recurses := true, plainKeys := false, apart := false }
def TrackCoversSaid : Prop := trackCoversRow.holds Try.pinned (OpenSpec.ofChange trackCoversSpec)

/-- ITS FALSE NEIGHBOUR: 'it returns false'. Refute it at one input. -/
def trackCoversWrong : ChangeSpec := { name := "trackCovers", fn := fun _ => fun
  | [d1, d2] => { results := [.lit (.bool false)], args := [d1, d2] }
  | _ => none }
def TrackCoversWrongFalsely : Prop := trackCoversRow.holds Try.pinned (OpenSpec.ofChange trackCoversWrong)

/- THE SECOND FORM. 'bulk': how many values and letters a reading holds, each counted each time it is reached (what is shared counts as often as it is met; a slice's spare places count too). A statement '..UptoSaid' is the law's where the arguments, and the package variables that the reading takes, are together of bulk at most 1048576: NARROWER than '..Said'. Prove '..Said' where nothing that the law and all that it calls make is longer than what came in: it says more and counts as full. Else prove '..UptoSaid'. A law counts once. -/
mutual
def uptoBulk {H : Type} : DataW H → Nat
  | .lit (.string bytes) => bytes.length + 1
  | .lit _ => 1
  | .nil => 1
  | .ptr d => uptoBulk d + 1
  | .slice elems spare => uptoBulkAll elems + uptoBulkAll spare + 1
  | .agg parts => uptoBulkAll parts + 1
  | .iface _ d => uptoBulk d + 1
  | .map entries => uptoBulkEntries entries + 1
  | .held _ => 1
def uptoBulkAll {H : Type} : List (DataW H) → Nat
  | [] => 0
  | d :: r => uptoBulk d + uptoBulkAll r
def uptoBulkEntries {H : Type} : List (Lit × DataW H) → Nat
  | [] => 0
  | x :: r => uptoBulkEntry x + uptoBulkEntries r
def uptoBulkEntry {H : Type} : Lit × DataW H → Nat
  | (.string bytes, d) => bytes.length + uptoBulk d + 1
  | (_, d) => uptoBulk d + 1
 end
def uptoSmall : (H : Type) → List (DataW H) → Bool := fun _ ds => decide (uptoBulkAll ds ≤ 1048576)
def OpenSpec.upto (s : _root_.Go.ChangeSpec) : _root_.Go.OpenSpec := { _root_.Go.OpenSpec.ofChange s with cond := some uptoSmall }

/-- 'fiduciallaw26.TrackRenumbered', WHERE WHAT IT READS IS OF BULK AT MOST 1048576: true; the input reads as it did. -/
def trackRenumberedUptoRow : OpenClaim := { program := "ytndmnfmpbcecaaa", sum := "70899c466d0c8dedbcb330b43f883581f2b7ff8732a99b498e3e8b792cd0b096", func := "fiducial/fiduciallaw26.TrackRenumbered", spec := "trackRenumbered", unfollowed := true, recurses := true, plainKeys := false, apart := false, narrowed := true }
def TrackRenumberedUptoSaid : Prop := trackRenumberedUptoRow.holds Try.pinned (OpenSpec.upto trackRenumberedSpec)

/-- 'fiduciallaw26.TrackOrder', WHERE WHAT IT READS IS OF BULK AT MOST 1048576: true; the input reads as it did. -/
def trackOrderUptoRow : OpenClaim := { program := "ytndmnfmpbcecaaa", sum := "70899c466d0c8dedbcb330b43f883581f2b7ff8732a99b498e3e8b792cd0b096", func := "fiducial/fiduciallaw26.TrackOrder", spec := "trackOrder", unfollowed := true, recurses := true, plainKeys := false, apart := false, narrowed := true }
def TrackOrderUptoSaid : Prop := trackOrderUptoRow.holds Try.pinned (OpenSpec.upto trackOrderSpec)

/-- 'fiduciallaw26.TrackSound', WHERE WHAT IT READS IS OF BULK AT MOST 1048576: true; the input reads as it did. -/
def trackSoundUptoRow : OpenClaim := { program := "ytndmnfmpbcecaaa", sum := "70899c466d0c8dedbcb330b43f883581f2b7ff8732a99b498e3e8b792cd0b096", func := "fiducial/fiduciallaw26.TrackSound", spec := "trackSound", unfollowed := true, recurses := true, plainKeys := false, apart := false, narrowed := true }
def TrackSoundUptoSaid : Prop := trackSoundUptoRow.holds Try.pinned (OpenSpec.upto trackSoundSpec)

/-- 'fiduciallaw26.TrackGrows', WHERE WHAT IT READS IS OF BULK AT MOST 1048576: true; the input reads as it did. -/
def trackGrowsUptoRow : OpenClaim := { program := "ytndmnfmpbcecaaa", sum := "70899c466d0c8dedbcb330b43f883581f2b7ff8732a99b498e3e8b792cd0b096", func := "fiducial/fiduciallaw26.TrackGrows", spec := "trackGrows", unfollowed := true, recurses := true, plainKeys := false, apart := false, narrowed := true }
def TrackGrowsUptoSaid : Prop := trackGrowsUptoRow.holds Try.pinned (OpenSpec.upto trackGrowsSpec)

/-- 'fiduciallaw26.TrackCommon', WHERE WHAT IT READS IS OF BULK AT MOST 1048576: true; the input reads as it did. -/
def trackCommonUptoRow : OpenClaim := { program := "ytndmnfmpbcecaaa", sum := "70899c466d0c8dedbcb330b43f883581f2b7ff8732a99b498e3e8b792cd0b096", func := "fiducial/fiduciallaw26.TrackCommon", spec := "trackCommon", unfollowed := true, recurses := true, plainKeys := false, apart := false, narrowed := true }
def TrackCommonUptoSaid : Prop := trackCommonUptoRow.holds Try.pinned (OpenSpec.upto trackCommonSpec)

/-- 'fiduciallaw26.TrackChains', WHERE WHAT IT READS IS OF BULK AT MOST 1048576: true; the input reads as it did. -/
def trackChainsUptoRow : OpenClaim := { program := "ytndmnfmpbcecaaa", sum := "70899c466d0c8dedbcb330b43f883581f2b7ff8732a99b498e3e8b792cd0b096", func := "fiducial/fiduciallaw26.TrackChains", spec := "trackChains", unfollowed := true, recurses := true, plainKeys := false, apart := false, narrowed := true }
def TrackChainsUptoSaid : Prop := trackChainsUptoRow.holds Try.pinned (OpenSpec.upto trackChainsSpec)

/-- 'fiduciallaw26.TrackChecks', WHERE WHAT IT READS IS OF BULK AT MOST 1048576: true; the input reads as it did. -/
def trackChecksUptoRow : OpenClaim := { program := "ytndmnfmpbcecaaa", sum := "70899c466d0c8dedbcb330b43f883581f2b7ff8732a99b498e3e8b792cd0b096", func := "fiducial/fiduciallaw26.TrackChecks", spec := "trackChecks", unfollowed := true, recurses := true, plainKeys := false, apart := false, narrowed := true }
def TrackChecksUptoSaid : Prop := trackChecksUptoRow.holds Try.pinned (OpenSpec.upto trackChecksSpec)

/-- 'fiduciallaw26.TrackCovers', WHERE WHAT IT READS IS OF BULK AT MOST 1048576: true; the input reads as it did. -/
def trackCoversUptoRow : OpenClaim := { program := "ytndmnfmpbcecaaa", sum := "70899c466d0c8dedbcb330b43f883581f2b7ff8732a99b498e3e8b792cd0b096", func := "fiducial/fiduciallaw26.TrackCovers", spec := "trackCovers", unfollowed := true, recurses := true, plainKeys := false, apart := false, narrowed := true }
def TrackCoversUptoSaid : Prop := trackCoversUptoRow.holds Try.pinned (OpenSpec.upto trackCoversSpec)

end Rows
end Go.Proofs.Ytndmnfmpbcecaaa
