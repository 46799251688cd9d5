/- VolumeSolid answers true at every input, and the input reads as it did: no condition. -/
import Derived.Test.YtgleghponjgkpaaGreatRows
import Derived.ProofKit
import Derived.Test.YtgleghponjgkpaaGreatSldLP3
import Derived.Test.YtgleghponjgkpaaGreatSldL52S3
import Derived.Test.YtgleghponjgkpaaGreatRow1mobakjmo
set_option linter.all false
set_option maxRecDepth 100000
namespace Go.Proofs.YtgleghponjgkpaaGreat
open Go.ChangeShapes Go.WideShapes Go.ChangeAt Go.RowKit
open Go Go.Proofs Go.Eng Go.L

section
variable {H : Type} {enc : TypeId × Value → H} {W : World}
theorem op5 {b : Bool} : Opens enc Tryz.prog W b 5 1 (iC .u8) (fun n => (Lit.int .u8 n).wf = true) := Opens.int (by kernel_rfl) (by kernel_rfl)
theorem op74 {b : Bool} : Opens enc Tryz.prog W b 74 1 (fun l : List Int => [slT (iC .u8) l]) (fun l => l.length ≤ maxLen ∧ ∀ a ∈ l, (Lit.int .u8 a).wf = true) := Opens.slice (c := (iC .u8)) (by kernel_rfl) (by kernel_rfl) op5
theorem arg74 : Arg enc Tryz.prog W 74 (fun x : List Int => (slT (iC .u8) x : AV)) (fun x => x.length ≤ maxLen ∧ ∀ a ∈ x, (Lit.int .u8 a).wf = true) := Opens.one op74 (by kernel_rfl)
theorem arg5 : Arg enc Tryz.prog W 5 (fun x : Int => (.at (.int .u8 x) : AV)) (fun x => (Lit.int .u8 x).wf = true) := Opens.one op5 (by kernel_rfl)
theorem op75 {b : Bool} : Opens enc Tryz.prog W b 75 1 (iC .i8) (fun n => (Lit.int .i8 n).wf = true) := Opens.int (by kernel_rfl) (by kernel_rfl)
theorem arg75 : Arg enc Tryz.prog W 75 (fun x : Int => (.at (.int .i8 x) : AV)) (fun x => (Lit.int .i8 x).wf = true) := Opens.one op75 (by kernel_rfl)
end

theorem own : ownKnob Tryz.prog.godebug = none := by kernel_rfl
theorem laidOut : laidOutB Tryz.prog = true := by kernel_rfl
theorem below_of_ext {w w' : World} {mu mu' : Nat → Prop} (h : Ext (Lo w.heap.size) w w' mu mu' [] []) : RowKit.Below w.heap.size w w' := ⟨h.os, h.tape, h.output, h.size, h.low⟩

theorem law_value (heights : List Int) (width : Int) (base : Int) (w0 : heights.length ≤ maxLen ∧ ∀ a ∈ heights, (Lit.int .u8 a).wf = true) (w1 : (Lit.int .u8 width).wf = true) (w2 : (Lit.int .i8 base).wf = true) : fiduciallaw52_VolumeSolid 20000 heights width base = some true := solidS_v heights width base w0.1 (fun a ha => u8_of (w0.2 a ha)) (u8_of w1) (i8_of w2)

theorem f_lifted (os : Os) (started : os.Started) (H : Type) (enc : TypeId × Value → H) :
  ReturnsInHanded {} Tryz.checked os 5 .any (Rows.volumeSolidSpec.pre6 enc Tryz.prog Tryz.f5 Rows.volumeSolidRow.domain false) (Rows.volumeSolidSpec.post enc Tryz.prog Tryz.f5 false true false false) := by
 refine returnsInHanded_of_change (C := Tryz.checked) own started (by kernel_rfl) Tryz.func5
  (ChangeSpec.witness6 (enc := enc) (C := Tryz.checked) false ⟨#[], #[.slice none 0 0, .int .u8 0, .int .i8 0], []⟩ 8 (by kernel_rfl) (by kernel_rfl) (by kernel_rfl) (by kernel_rfl)) ?_
 intro W base args ds gs before hval0 hW hcnd _
 have hval : ∀ (j : Nat) t v, Tryz.f5.params[j]? = some t → args[j]? = some v → Value.okWide Tryz.prog W .any base t v := hval0
 have hW' := hW
 obtain ⟨p, q, hA0, hV, rfl, hfz, hnd⟩ := hW
 have hA : DataW.TrodAll enc Tryz.prog W 0 (fun _ => true) true Tryz.f5.params.toList args.toList ds p := hA0
 rw [Tryz.params5] at hA hval
 obtain ⟨v0, v1, v2, d0, d1, d2, p0, p1, p2, rfl, rfl, rfl, h0, h1, h2⟩ := trodAll_three hA
 obtain ⟨rfl, rfl⟩ := trodVars_none hV
 clear hA0 hval0
 simp only [List.append_nil] at hW'
 have hlt : ∀ x ∈ p0 ++ p1 ++ p2, x.block < W.heap.size := fun x hx => by simpa using hW'.lt x hx
 obtain ⟨a0, wa0, hb0⟩ := arg74 base v0 d0 _ (hval 0 74 v0 rfl rfl) h0
 obtain ⟨a1, wa1, hb1⟩ := arg5 base v1 d1 _ (hval 1 5 v1 rfl rfl) h1
 obtain ⟨a2, wa2, hb2⟩ := arg75 base v2 d2 _ (hval 2 75 v2 rfl rfl) h2
 refine (fiduciallaw52_VolumeSolid_ok 20000 a0 a1 a2 true (law_value a0 a1 a2 wa0 wa1 wa2) nobody' W [v0, v1, v2] (fun _ h => h.elim) ⟨v0, _, rfl, hb0, v1, _, rfl, hb1, v2, _, rfl, hb2, rfl⟩).mono fun e W' hr => ?_
 obtain ⟨u, rfl, hE, hu⟩ := hr
 obtain rfl : u = .bool true := hu
 have hB := below_of_ext hE
 refine ⟨_, rfl, _, _, _, [], p0 ++ (p1 ++ p2), [], hW', ?_, ?_, rfl, hB.frame _, fun h => by cases h⟩
 · exact trodAll_mk1 (shut_bool (by kernel_rfl) true)
 · exact trodAll_mk3 (Below.trod laidOut (by kernel_rfl) (of_decide_eq_true (by kernel_rfl)) h0 hB (fun x hx => hlt x (by simp [hx]))) (Below.trod laidOut (by kernel_rfl) (of_decide_eq_true (by kernel_rfl)) h1 hB (fun x hx => hlt x (by simp [hx]))) (Below.trod laidOut (by kernel_rfl) (of_decide_eq_true (by kernel_rfl)) h2 hB (fun x hx => hlt x (by simp [hx])))

theorem volumeSolid_holds : Rows.VolumeSolidSaid :=
 OpenClaim.holds_of_wide 5 Tryz.f5 rfl rfl rfl rfl rfl rfl rfl ⟨rfl, rfl, rfl, rfl, rfl⟩ rfl rfl rfl rfl rfl (by kernel_rfl) Tryz.func5 (by kernel_rfl)
  (of_decide_eq_true (by kernel_rfl)) (by unfold Func.isWrapper; first | (rw [if_pos (by decide +kernel)]; kernel_rfl) | (rw [if_neg (by decide +kernel)]; exact ⟨rfl, rfl⟩))
  (fun os started H enc _ => f_lifted os started H enc)
end Go.Proofs.YtgleghponjgkpaaGreat
