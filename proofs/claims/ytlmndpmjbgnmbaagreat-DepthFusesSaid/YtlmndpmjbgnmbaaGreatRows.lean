/-
  No cell of these rows narrows 'for every input' (looked for: loops, veiled, ifaces, maps, wideKeys, modest, calm, conditions, laid).
  DERIVED. THE GIVEN ROWS OF THIS SEAT. 7 by the template 'for every input the law returns true; each argument reads behind the call as it read before'; 0 by the template 'total and deterministic' (their statements: YtlmndpmjbgnmbaaGreatTotals.lean).
  GIVEN WITH THE SEED: the statements are not yours to turn. If you find one false, say at which input.
  Laid BY PROGRAM, IN A SANDBOX (cutbox-rows.mjs): the forced cells as the released guide's own fill.sh prints them over the translation 2fb62b7219693ed6… (all of the seat's roots in one cut). By AI agents, Wed Nov 11 2026. No macro, syntax, notation, axiom, sorry.
-/
import Derived.Test.YtlmndpmjbgnmbaaGreatChecked
import GoSem.Claim
import GoSem.ClaimJoined
import GoSem.ClaimMapViews
import Derived.JoinedTies
import Derived.KernelRfl
namespace Go.Proofs.YtlmndpmjbgnmbaaGreat
/- THE CELL 'sum', in the pinned program and in every row, IS THE sha256 OF THE DUMP (.gsa) THAT YtlmndpmjbgnmbaaGreatProg.lean LOADS. Nothing in Lean hashes anything: it is a label: what it is worth is what the hold of that sum in a sandbox is worth. -/
noncomputable def Tryz.pinned : Pinned := { name := "ytlmndpmjbgnmbaagreat", sum := "2fb62b7219693ed6bbb3e824190d2824bac17c32c561f1124df5becb45d1e8e7", checked := Tryz.checked }
namespace Rows
def none {H : Type} : Left H := { results := [], args := [] }

/-- 'fiduciallaw46.DepthConsistent': WHATEVER THE INPUT: true; the input reads as it did. -/
def depthConsistentSpec : ChangeSpec := { name := "depthConsistent", fn := fun _ => fun
  | [d1, d2, d3] => { results := [.lit (.bool true)], args := [d1, d2, d3] }
  | _ => none }
def depthConsistentRow : OpenClaim := { program := "ytlmndpmjbgnmbaagreat", sum := "2fb62b7219693ed6bbb3e824190d2824bac17c32c561f1124df5becb45d1e8e7", func := "fiducial/fiduciallaw46.DepthConsistent", spec := "depthConsistent", unfollowed := true, recurses := true, apart := false }
def DepthConsistentSaid : Prop := depthConsistentRow.holds Tryz.pinned (OpenSpec.ofChange depthConsistentSpec)

/-- ITS FALSE NEIGHBOUR: 'it returns false'. Refute it at one input. -/
def depthConsistentWrong : ChangeSpec := { name := "depthConsistent", fn := fun _ => fun
  | [d1, d2, d3] => { results := [.lit (.bool false)], args := [d1, d2, d3] }
  | _ => none }
def DepthConsistentWrongFalsely : Prop := depthConsistentRow.holds Tryz.pinned (OpenSpec.ofChange depthConsistentWrong)

/-- 'fiduciallaw46.DepthTurns': WHATEVER THE INPUT: true; the input reads as it did. -/
def depthTurnsSpec : ChangeSpec := { name := "depthTurns", fn := fun _ => fun
  | [d] => { results := [.lit (.bool true)], args := [d] }
  | _ => none }
def depthTurnsRow : OpenClaim := { program := "ytlmndpmjbgnmbaagreat", sum := "2fb62b7219693ed6bbb3e824190d2824bac17c32c561f1124df5becb45d1e8e7", func := "fiducial/fiduciallaw46.DepthTurns", spec := "depthTurns", unfollowed := true, recurses := true, apart := false }
def DepthTurnsSaid : Prop := depthTurnsRow.holds Tryz.pinned (OpenSpec.ofChange depthTurnsSpec)

/-- ITS FALSE NEIGHBOUR: 'it returns false'. Refute it at one input. -/
def depthTurnsWrong : ChangeSpec := { name := "depthTurns", fn := fun _ => fun
  | [d] => { results := [.lit (.bool false)], args := [d] }
  | _ => none }
def DepthTurnsWrongFalsely : Prop := depthTurnsRow.holds Tryz.pinned (OpenSpec.ofChange depthTurnsWrong)

/-- 'fiduciallaw46.DepthIntervals': WHATEVER THE INPUT: true; the input reads as it did. -/
def depthIntervalsSpec : ChangeSpec := { name := "depthIntervals", fn := fun _ => fun
  | [d1, d2, d3] => { results := [.lit (.bool true)], args := [d1, d2, d3] }
  | _ => none }
def depthIntervalsRow : OpenClaim := { program := "ytlmndpmjbgnmbaagreat", sum := "2fb62b7219693ed6bbb3e824190d2824bac17c32c561f1124df5becb45d1e8e7", func := "fiducial/fiduciallaw46.DepthIntervals", spec := "depthIntervals", unfollowed := true, recurses := true, apart := false }
def DepthIntervalsSaid : Prop := depthIntervalsRow.holds Tryz.pinned (OpenSpec.ofChange depthIntervalsSpec)

/-- ITS FALSE NEIGHBOUR: 'it returns false'. Refute it at one input. -/
def depthIntervalsWrong : ChangeSpec := { name := "depthIntervals", fn := fun _ => fun
  | [d1, d2, d3] => { results := [.lit (.bool false)], args := [d1, d2, d3] }
  | _ => none }
def DepthIntervalsWrongFalsely : Prop := depthIntervalsRow.holds Tryz.pinned (OpenSpec.ofChange depthIntervalsWrong)

/-- 'fiduciallaw46.DepthFills': WHATEVER THE INPUT: true; the input reads as it did. -/
def depthFillsSpec : ChangeSpec := { name := "depthFills", fn := fun _ => fun
  | [d1, d2] => { results := [.lit (.bool true)], args := [d1, d2] }
  | _ => none }
def depthFillsRow : OpenClaim := { program := "ytlmndpmjbgnmbaagreat", sum := "2fb62b7219693ed6bbb3e824190d2824bac17c32c561f1124df5becb45d1e8e7", func := "fiducial/fiduciallaw46.DepthFills", spec := "depthFills", unfollowed := true, recurses := true, apart := false }
def DepthFillsSaid : Prop := depthFillsRow.holds Tryz.pinned (OpenSpec.ofChange depthFillsSpec)

/-- ITS FALSE NEIGHBOUR: 'it returns false'. Refute it at one input. -/
def depthFillsWrong : ChangeSpec := { name := "depthFills", fn := fun _ => fun
  | [d1, d2] => { results := [.lit (.bool false)], args := [d1, d2] }
  | _ => none }
def DepthFillsWrongFalsely : Prop := depthFillsRow.holds Tryz.pinned (OpenSpec.ofChange depthFillsWrong)

/-- 'fiduciallaw46.DepthSpeckles': WHATEVER THE INPUT: true; the input reads as it did. -/
def depthSpecklesSpec : ChangeSpec := { name := "depthSpeckles", fn := fun _ => fun
  | [d1, d2, d3] => { results := [.lit (.bool true)], args := [d1, d2, d3] }
  | _ => none }
def depthSpecklesRow : OpenClaim := { program := "ytlmndpmjbgnmbaagreat", sum := "2fb62b7219693ed6bbb3e824190d2824bac17c32c561f1124df5becb45d1e8e7", func := "fiducial/fiduciallaw46.DepthSpeckles", spec := "depthSpeckles", unfollowed := true, recurses := true, apart := false }
def DepthSpecklesSaid : Prop := depthSpecklesRow.holds Tryz.pinned (OpenSpec.ofChange depthSpecklesSpec)

/-- ITS FALSE NEIGHBOUR: 'it returns false'. Refute it at one input. -/
def depthSpecklesWrong : ChangeSpec := { name := "depthSpeckles", fn := fun _ => fun
  | [d1, d2, d3] => { results := [.lit (.bool false)], args := [d1, d2, d3] }
  | _ => none }
def DepthSpecklesWrongFalsely : Prop := depthSpecklesRow.holds Tryz.pinned (OpenSpec.ofChange depthSpecklesWrong)

/-- 'fiduciallaw46.DepthFuses': WHATEVER THE INPUT: true; the input reads as it did. -/
def depthFusesSpec : ChangeSpec := { name := "depthFuses", fn := fun _ => fun
  | [d] => { results := [.lit (.bool true)], args := [d] }
  | _ => none }
def depthFusesRow : OpenClaim := { program := "ytlmndpmjbgnmbaagreat", sum := "2fb62b7219693ed6bbb3e824190d2824bac17c32c561f1124df5becb45d1e8e7", func := "fiducial/fiduciallaw46.DepthFuses", spec := "depthFuses", unfollowed := true, recurses := true, apart := false }
def DepthFusesSaid : Prop := depthFusesRow.holds Tryz.pinned (OpenSpec.ofChange depthFusesSpec)

/-- ITS FALSE NEIGHBOUR: 'it returns false'. Refute it at one input. -/
def depthFusesWrong : ChangeSpec := { name := "depthFuses", fn := fun _ => fun
  | [d] => { results := [.lit (.bool false)], args := [d] }
  | _ => none }
def DepthFusesWrongFalsely : Prop := depthFusesRow.holds Tryz.pinned (OpenSpec.ofChange depthFusesWrong)

/-- 'fiduciallaw46.DepthFlips': WHATEVER THE INPUT: true; the input reads as it did. -/
def depthFlipsSpec : ChangeSpec := { name := "depthFlips", fn := fun _ => fun
  | [d1, d2, d3] => { results := [.lit (.bool true)], args := [d1, d2, d3] }
  | _ => none }
def depthFlipsRow : OpenClaim := { program := "ytlmndpmjbgnmbaagreat", sum := "2fb62b7219693ed6bbb3e824190d2824bac17c32c561f1124df5becb45d1e8e7", func := "fiducial/fiduciallaw46.DepthFlips", spec := "depthFlips", unfollowed := true, recurses := true, apart := false }
def DepthFlipsSaid : Prop := depthFlipsRow.holds Tryz.pinned (OpenSpec.ofChange depthFlipsSpec)

/-- ITS FALSE NEIGHBOUR: 'it returns false'. Refute it at one input. -/
def depthFlipsWrong : ChangeSpec := { name := "depthFlips", fn := fun _ => fun
  | [d1, d2, d3] => { results := [.lit (.bool false)], args := [d1, d2, d3] }
  | _ => none }
def DepthFlipsWrongFalsely : Prop := depthFlipsRow.holds Tryz.pinned (OpenSpec.ofChange depthFlipsWrong)

/- THE SECOND FORM. 'bulk': how many values and letters a reading holds, each counted each time it is reached (what is shared counts as often as it is met; a slice's spare places count too). A statement '..UptoSaid' is the law's where the arguments, and the package variables that the reading takes, are together of bulk at most 1048576: NARROWER than '..Said'. Prove '..Said' where nothing that the law and all that it calls make is longer than what came in: it says more and counts as full. Else prove '..UptoSaid'. A law counts once. -/
mutual
def uptoBulk {H : Type} : DataW H → Nat
  | .lit (.string bytes) => bytes.length + 1
  | .lit _ => 1
  | .nil => 1
  | .ptr d => uptoBulk d + 1
  | .slice elems spare => uptoBulkAll elems + uptoBulkAll spare + 1
  | .agg parts => uptoBulkAll parts + 1
  | .iface _ d => uptoBulk d + 1
  | .map entries => uptoBulkEntries entries + 1
  | .held _ => 1
def uptoBulkAll {H : Type} : List (DataW H) → Nat
  | [] => 0
  | d :: r => uptoBulk d + uptoBulkAll r
def uptoBulkEntries {H : Type} : List (Lit × DataW H) → Nat
  | [] => 0
  | x :: r => uptoBulkEntry x + uptoBulkEntries r
def uptoBulkEntry {H : Type} : Lit × DataW H → Nat
  | (.string bytes, d) => bytes.length + uptoBulk d + 1
  | (_, d) => uptoBulk d + 1
 end
def uptoSmall : (H : Type) → List (DataW H) → Bool := fun _ ds => decide (uptoBulkAll ds ≤ 1048576)
def OpenSpec.upto (s : _root_.Go.ChangeSpec) : _root_.Go.OpenSpec := { _root_.Go.OpenSpec.ofChange s with cond := some uptoSmall }

/-- 'fiduciallaw46.DepthConsistent', WHERE WHAT IT READS IS OF BULK AT MOST 1048576: true; the input reads as it did. -/
def depthConsistentUptoRow : OpenClaim := { program := "ytlmndpmjbgnmbaagreat", sum := "2fb62b7219693ed6bbb3e824190d2824bac17c32c561f1124df5becb45d1e8e7", func := "fiducial/fiduciallaw46.DepthConsistent", spec := "depthConsistent", unfollowed := true, recurses := true, apart := false, narrowed := true }
def DepthConsistentUptoSaid : Prop := depthConsistentUptoRow.holds Tryz.pinned (OpenSpec.upto depthConsistentSpec)

/-- 'fiduciallaw46.DepthTurns', WHERE WHAT IT READS IS OF BULK AT MOST 1048576: true; the input reads as it did. -/
def depthTurnsUptoRow : OpenClaim := { program := "ytlmndpmjbgnmbaagreat", sum := "2fb62b7219693ed6bbb3e824190d2824bac17c32c561f1124df5becb45d1e8e7", func := "fiducial/fiduciallaw46.DepthTurns", spec := "depthTurns", unfollowed := true, recurses := true, apart := false, narrowed := true }
def DepthTurnsUptoSaid : Prop := depthTurnsUptoRow.holds Tryz.pinned (OpenSpec.upto depthTurnsSpec)

/-- 'fiduciallaw46.DepthIntervals', WHERE WHAT IT READS IS OF BULK AT MOST 1048576: true; the input reads as it did. -/
def depthIntervalsUptoRow : OpenClaim := { program := "ytlmndpmjbgnmbaagreat", sum := "2fb62b7219693ed6bbb3e824190d2824bac17c32c561f1124df5becb45d1e8e7", func := "fiducial/fiduciallaw46.DepthIntervals", spec := "depthIntervals", unfollowed := true, recurses := true, apart := false, narrowed := true }
def DepthIntervalsUptoSaid : Prop := depthIntervalsUptoRow.holds Tryz.pinned (OpenSpec.upto depthIntervalsSpec)

/-- 'fiduciallaw46.DepthFills', WHERE WHAT IT READS IS OF BULK AT MOST 1048576: true; the input reads as it did. -/
def depthFillsUptoRow : OpenClaim := { program := "ytlmndpmjbgnmbaagreat", sum := "2fb62b7219693ed6bbb3e824190d2824bac17c32c561f1124df5becb45d1e8e7", func := "fiducial/fiduciallaw46.DepthFills", spec := "depthFills", unfollowed := true, recurses := true, apart := false, narrowed := true }
def DepthFillsUptoSaid : Prop := depthFillsUptoRow.holds Tryz.pinned (OpenSpec.upto depthFillsSpec)

/-- 'fiduciallaw46.DepthSpeckles', WHERE WHAT IT READS IS OF BULK AT MOST 1048576: true; the input reads as it did. -/
def depthSpecklesUptoRow : OpenClaim := { program := "ytlmndpmjbgnmbaagreat", sum := "2fb62b7219693ed6bbb3e824190d2824bac17c32c561f1124df5becb45d1e8e7", func := "fiducial/fiduciallaw46.DepthSpeckles", spec := "depthSpeckles", unfollowed := true, recurses := true, apart := false, narrowed := true }
def DepthSpecklesUptoSaid : Prop := depthSpecklesUptoRow.holds Tryz.pinned (OpenSpec.upto depthSpecklesSpec)

/-- 'fiduciallaw46.DepthFuses', WHERE WHAT IT READS IS OF BULK AT MOST 1048576: true; the input reads as it did. -/
def depthFusesUptoRow : OpenClaim := { program := "ytlmndpmjbgnmbaagreat", sum := "2fb62b7219693ed6bbb3e824190d2824bac17c32c561f1124df5becb45d1e8e7", func := "fiducial/fiduciallaw46.DepthFuses", spec := "depthFuses", unfollowed := true, recurses := true, apart := false, narrowed := true }
def DepthFusesUptoSaid : Prop := depthFusesUptoRow.holds Tryz.pinned (OpenSpec.upto depthFusesSpec)

/-- 'fiduciallaw46.DepthFlips', WHERE WHAT IT READS IS OF BULK AT MOST 1048576: true; the input reads as it did. -/
def depthFlipsUptoRow : OpenClaim := { program := "ytlmndpmjbgnmbaagreat", sum := "2fb62b7219693ed6bbb3e824190d2824bac17c32c561f1124df5becb45d1e8e7", func := "fiducial/fiduciallaw46.DepthFlips", spec := "depthFlips", unfollowed := true, recurses := true, apart := false, narrowed := true }
def DepthFlipsUptoSaid : Prop := depthFlipsUptoRow.holds Tryz.pinned (OpenSpec.upto depthFlipsSpec)

end Rows
end Go.Proofs.YtlmndpmjbgnmbaaGreat
