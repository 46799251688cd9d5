/- TrackChecks answers true at every input, and the input reads as it did: no condition. -/
import Derived.Test.YtndmnfmpbcecaaaRows
import Derived.ProofKit
import Derived.Test.YtndmnfmpbcecaaaChkLP2
import Derived.Test.YtndmnfmpbcecaaaChkL26Z
import Derived.Test.YtndmnfmpbcecaaaRow1jkbpnkgo
set_option linter.all false
set_option maxRecDepth 100000
namespace Go.Proofs.Ytndmnfmpbcecaaa
open Go.ChangeShapes Go.WideShapes Go.ChangeAt Go.RowKit
open Go Go.Proofs Go.Eng Go.L

section
variable {H : Type} {enc : TypeId × Value → H} {W : World}
def api_Mark.wf (x : api_Mark) : Prop := ((Lit.int .i64 x.Image).wf = true) ∧ ((Lit.int .i64 x.Feature).wf = true) ∧ True
def api_Tie.wf (x : api_Tie) : Prop := (api_Mark.wf x.A) ∧ (api_Mark.wf x.B) ∧ ((Lit.int .i64 x.Cost).wf = true) ∧ True
theorem op3 {b : Bool} : Opens enc Try.prog W b 3 1 (iC .i64) (fun n => (Lit.int .i64 n).wf = true) := Opens.int (by kernel_rfl) (by kernel_rfl)
theorem op29 {b : Bool} : Opens enc Try.prog W b 29 2 api_Mark.c (fun x => api_Mark.wf x) := (Opens.struct (l := [(3, 0), (3, 1)]) (by kernel_rfl) (by kernel_rfl) (OpensF.cons op3 (OpensF.cons op3 OpensF.nil))).map (fun p => (⟨p.1, p.2.1⟩ : api_Mark)) (fun _ => rfl) (fun _ h => h)
theorem op31 {b : Bool} : Opens enc Try.prog W b 31 5 api_Tie.c (fun x => api_Tie.wf x) := (Opens.struct (l := [(29, 0), (29, 2), (3, 4)]) (by kernel_rfl) (by kernel_rfl) (OpensF.cons op29 (OpensF.cons op29 (OpensF.cons op3 OpensF.nil)))).map (fun p => (⟨p.1, p.2.1, p.2.2.1⟩ : api_Tie)) (fun _ => rfl) (fun _ h => h)
theorem op22 {b : Bool} : Opens enc Try.prog W b 22 1 (fun l : List api_Tie => [slT api_Tie.c l]) (fun l => l.length ≤ maxLen ∧ ∀ a ∈ l, api_Tie.wf a) := Opens.slice (c := api_Tie.c) (by kernel_rfl) (by kernel_rfl) op31
theorem arg22 : Arg enc Try.prog W 22 (fun x : List api_Tie => (slT api_Tie.c x : AV)) (fun x => x.length ≤ maxLen ∧ ∀ a ∈ x, api_Tie.wf a) := Opens.one op22 (by kernel_rfl)
theorem op37 {b : Bool} : Opens enc Try.prog W b 37 1 (fun l : List api_Mark => [slT api_Mark.c l]) (fun l => l.length ≤ maxLen ∧ ∀ a ∈ l, api_Mark.wf a) := Opens.slice (c := api_Mark.c) (by kernel_rfl) (by kernel_rfl) op29
theorem op34 {b : Bool} : Opens enc Try.prog W b 34 1 (fun l : List (List api_Mark) => [slT (slC api_Mark.c) l]) (fun l => l.length ≤ maxLen ∧ ∀ a ∈ l, a.length ≤ maxLen ∧ ∀ a' ∈ a, api_Mark.wf a') := Opens.slice (c := (slC api_Mark.c)) (by kernel_rfl) (by kernel_rfl) op37
theorem arg34 : Arg enc Try.prog W 34 (fun x : List (List api_Mark) => (slT (slC api_Mark.c) x : AV)) (fun x => x.length ≤ maxLen ∧ ∀ a ∈ x, a.length ≤ maxLen ∧ ∀ a' ∈ a, api_Mark.wf a') := Opens.one op34 (by kernel_rfl)
end

theorem own : ownKnob Try.prog.godebug = none := by kernel_rfl
theorem laidOut : laidOutB Try.prog = true := by kernel_rfl
theorem below_of_ext {w w' : World} {mu mu' : Nat → Prop} (h : Ext (Lo w.heap.size) w w' mu mu' [] []) : RowKit.Below w.heap.size w w' := ⟨h.os, h.tape, h.output, h.size, h.low⟩

theorem law_value (l : List api_Tie) (tracks : List (List api_Mark)) (w0 : l.length ≤ maxLen ∧ ∀ a ∈ l, api_Tie.wf a) (w1 : tracks.length ≤ maxLen ∧ ∀ a ∈ tracks, a.length ≤ maxLen ∧ ∀ a' ∈ a, api_Mark.wf a') : fiduciallaw26_TrackChecks 5000 l tracks = some true := checks_v l tracks

theorem f_lifted (os : Os) (started : os.Started) (H : Type) (enc : TypeId × Value → H) :
  ReturnsInHanded {} Try.checked os 9 .any (Rows.trackChecksSpec.pre6 enc Try.prog Try.f9 Rows.trackChecksRow.domain false) (Rows.trackChecksSpec.post enc Try.prog Try.f9 false true false false) := by
 refine returnsInHanded_of_change (C := Try.checked) own started (by kernel_rfl) Try.func9
  (ChangeSpec.witness6 (enc := enc) (C := Try.checked) false ⟨#[], #[.slice none 0 0, .slice none 0 0], []⟩ 8 (by kernel_rfl) (by kernel_rfl) (by kernel_rfl) (by kernel_rfl)) ?_
 intro W base args ds gs before hval0 hW hcnd _
 have hval : ∀ (j : Nat) t v, Try.f9.params[j]? = some t → args[j]? = some v → Value.okWide Try.prog W .any base t v := hval0
 have hW' := hW
 obtain ⟨p, q, hA0, hV, rfl, hfz, hnd⟩ := hW
 have hA : DataW.TrodAll enc Try.prog W 0 (fun _ => true) true Try.f9.params.toList args.toList ds p := hA0
 rw [Try.params9] at hA hval
 obtain ⟨v0, v1, d0, d1, p0, p1, rfl, rfl, rfl, h0, h1⟩ := trodAll_two hA
 obtain ⟨rfl, rfl⟩ := trodVars_none hV
 clear hA0 hval0
 simp only [List.append_nil] at hW'
 have hlt : ∀ x ∈ p0 ++ p1, x.block < W.heap.size := fun x hx => by simpa using hW'.lt x hx
 obtain ⟨a0, wa0, hb0⟩ := arg22 base v0 d0 _ (hval 0 22 v0 rfl rfl) h0
 obtain ⟨a1, wa1, hb1⟩ := arg34 base v1 d1 _ (hval 1 34 v1 rfl rfl) h1
 refine (fiduciallaw26_TrackChecks_ok 5000 a0 a1 true (law_value a0 a1 wa0 wa1) nobody' W [v0, v1] (fun _ h => h.elim) ⟨v0, _, rfl, hb0, v1, _, rfl, hb1, rfl⟩).mono fun e W' hr => ?_
 obtain ⟨u, rfl, hE, hu⟩ := hr
 obtain rfl : u = .bool true := hu
 have hB := below_of_ext hE
 refine ⟨_, rfl, _, _, _, [], p0 ++ (p1), [], hW', ?_, ?_, rfl, hB.frame _, fun h => by cases h⟩
 · exact trodAll_mk1 (shut_bool (by kernel_rfl) true)
 · exact trodAll_mk2 (Below.trod laidOut (by kernel_rfl) (of_decide_eq_true (by kernel_rfl)) h0 hB (fun x hx => hlt x (by simp [hx]))) (Below.trod laidOut (by kernel_rfl) (of_decide_eq_true (by kernel_rfl)) h1 hB (fun x hx => hlt x (by simp [hx])))

theorem trackChecks_holds : Rows.TrackChecksSaid :=
 OpenClaim.holds_of_wide 9 Try.f9 rfl rfl rfl rfl rfl rfl rfl ⟨rfl, rfl, rfl, rfl, rfl⟩ rfl rfl rfl rfl rfl (by kernel_rfl) Try.func9 (by kernel_rfl)
  (of_decide_eq_true (by kernel_rfl)) (by unfold Func.isWrapper; first | (rw [if_pos (by decide +kernel)]; kernel_rfl) | (rw [if_neg (by decide +kernel)]; exact ⟨rfl, rfl⟩))
  (fun os started H enc _ => f_lifted os started H enc)
end Go.Proofs.Ytndmnfmpbcecaaa
