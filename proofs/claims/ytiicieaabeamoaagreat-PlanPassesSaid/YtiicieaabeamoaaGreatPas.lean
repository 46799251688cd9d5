/- PlanPasses answers true at every input, and the input reads as it did: no condition. -/
import Derived.Test.YtiicieaabeamoaaGreatRows
import Derived.ProofKit
import Derived.Test.YtiicieaabeamoaaGreatPasLP3
import Derived.Test.YtiicieaabeamoaaGreatPasL55Pas
import Derived.Test.YtiicieaabeamoaaGreatRow1feobmghi
set_option linter.all false
set_option maxRecDepth 100000
namespace Go.Proofs.YtiicieaabeamoaaGreat
open Go.ChangeShapes Go.WideShapes Go.ChangeAt Go.RowKit
open Go Go.Proofs Go.Eng Go.L

section
variable {H : Type} {enc : TypeId × Value → H} {W : World}
def api_Survey.wf (x : api_Survey) : Prop := ((Lit.int .i64 x.Width).wf = true) ∧ ((Lit.int .i64 x.Height).wf = true) ∧ ((Lit.int .i64 x.Low).wf = true) ∧ ((Lit.int .i64 x.High).wf = true) ∧ ((Lit.int .i64 x.Across).wf = true) ∧ ((Lit.int .i64 x.Along).wf = true) ∧ ((Lit.int .i64 x.Focal).wf = true) ∧ ((Lit.int .i64 x.Overlap).wf = true) ∧ ((Lit.int .i64 x.Sidelap).wf = true) ∧ ((Lit.int .i64 x.Views).wf = true) ∧ True
theorem op3 {b : Bool} : Opens enc Tryz.prog W b 3 1 (iC .i64) (fun n => (Lit.int .i64 n).wf = true) := Opens.int (by kernel_rfl) (by kernel_rfl)
theorem op23 {b : Bool} : Opens enc Tryz.prog W b 23 10 (fun x : api_Survey => [.at (.int .i64 x.Width), .at (.int .i64 x.Height), .at (.int .i64 x.Low), .at (.int .i64 x.High), .at (.int .i64 x.Across), .at (.int .i64 x.Along), .at (.int .i64 x.Focal), .at (.int .i64 x.Overlap), .at (.int .i64 x.Sidelap), .at (.int .i64 x.Views)]) (fun x => api_Survey.wf x) := (Opens.struct (l := [(3, 0), (3, 1), (3, 2), (3, 3), (3, 4), (3, 5), (3, 6), (3, 7), (3, 8), (3, 9)]) (by kernel_rfl) (by kernel_rfl) (OpensF.cons op3 (OpensF.cons op3 (OpensF.cons op3 (OpensF.cons op3 (OpensF.cons op3 (OpensF.cons op3 (OpensF.cons op3 (OpensF.cons op3 (OpensF.cons op3 (OpensF.cons op3 OpensF.nil))))))))))).map (fun p => (⟨p.1, p.2.1, p.2.2.1, p.2.2.2.1, p.2.2.2.2.1, p.2.2.2.2.2.1, p.2.2.2.2.2.2.1, p.2.2.2.2.2.2.2.1, p.2.2.2.2.2.2.2.2.1, p.2.2.2.2.2.2.2.2.2.1⟩ : api_Survey)) (fun _ => rfl) (fun _ h => h)
theorem arg23 : Arg enc Tryz.prog W 23 (fun x : api_Survey => (.agg [.at (.int .i64 x.Width), .at (.int .i64 x.Height), .at (.int .i64 x.Low), .at (.int .i64 x.High), .at (.int .i64 x.Across), .at (.int .i64 x.Along), .at (.int .i64 x.Focal), .at (.int .i64 x.Overlap), .at (.int .i64 x.Sidelap), .at (.int .i64 x.Views)] : AV)) (fun x => api_Survey.wf x) := Opens.agg op23 (by kernel_rfl)
theorem arg3 : Arg enc Tryz.prog W 3 (fun x : Int => (.at (.int .i64 x) : AV)) (fun x => (Lit.int .i64 x).wf = true) := Opens.one op3 (by kernel_rfl)
end

theorem own : ownKnob Tryz.prog.godebug = none := by kernel_rfl
theorem laidOut : laidOutB Tryz.prog = true := by kernel_rfl
theorem below_of_ext {w w' : World} {mu mu' : Nat → Prop} (h : Ext (Lo w.heap.size) w w' mu mu' [] []) : RowKit.Below w.heap.size w w' := ⟨h.os, h.tape, h.output, h.size, h.low⟩

theorem law_value (s : api_Survey) (height : Int) (w0 : api_Survey.wf s) (w1 : (Lit.int .i64 height).wf = true) : fiduciallaw55_PlanPasses 5000 s height = some true := passes_v s height

theorem f_lifted (os : Os) (started : os.Started) (H : Type) (enc : TypeId × Value → H) :
  ReturnsInHanded {} Tryz.checked os 4 .any (Rows.planPassesSpec.pre6 enc Tryz.prog Tryz.f4 Rows.planPassesRow.domain false) (Rows.planPassesSpec.post enc Tryz.prog Tryz.f4 false true false false) := by
 refine returnsInHanded_of_change (C := Tryz.checked) own started (by kernel_rfl) Tryz.func4
  (ChangeSpec.witness6 (enc := enc) (C := Tryz.checked) false ⟨#[], #[.agg #[.int .i64 0, .int .i64 0, .int .i64 0, .int .i64 0, .int .i64 0, .int .i64 0, .int .i64 0, .int .i64 0, .int .i64 0, .int .i64 0], .int .i64 0], []⟩ 8 (by kernel_rfl) (by kernel_rfl) (by kernel_rfl) (by kernel_rfl)) ?_
 intro W base args ds gs before hval0 hW hcnd _
 have hval : ∀ (j : Nat) t v, Tryz.f4.params[j]? = some t → args[j]? = some v → Value.okWide Tryz.prog W .any base t v := hval0
 have hW' := hW
 obtain ⟨p, q, hA0, hV, rfl, hfz, hnd⟩ := hW
 have hA : DataW.TrodAll enc Tryz.prog W 0 (fun _ => true) true Tryz.f4.params.toList args.toList ds p := hA0
 rw [Tryz.params4] at hA hval
 obtain ⟨v0, v1, d0, d1, p0, p1, rfl, rfl, rfl, h0, h1⟩ := trodAll_two hA
 obtain ⟨rfl, rfl⟩ := trodVars_none hV
 clear hA0 hval0
 simp only [List.append_nil] at hW'
 have hlt : ∀ x ∈ p0 ++ p1, x.block < W.heap.size := fun x hx => by simpa using hW'.lt x hx
 obtain ⟨a0, wa0, hb0⟩ := arg23 base v0 d0 _ (hval 0 23 v0 rfl rfl) h0
 obtain ⟨a1, wa1, hb1⟩ := arg3 base v1 d1 _ (hval 1 3 v1 rfl rfl) h1
 refine (fiduciallaw55_PlanPasses_ok 5000 a0 a1 true (law_value a0 a1 wa0 wa1) nobody' W [v0, v1] (fun _ h => h.elim) ⟨v0, _, rfl, hb0, v1, _, rfl, hb1, rfl⟩).mono fun e W' hr => ?_
 obtain ⟨u, rfl, hE, hu⟩ := hr
 obtain rfl : u = .bool true := hu
 have hB := below_of_ext hE
 refine ⟨_, rfl, _, _, _, [], p0 ++ (p1), [], hW', ?_, ?_, rfl, hB.frame _, fun h => by cases h⟩
 · exact trodAll_mk1 (shut_bool (by kernel_rfl) true)
 · exact trodAll_mk2 (Below.trod laidOut (by kernel_rfl) (of_decide_eq_true (by kernel_rfl)) h0 hB (fun x hx => hlt x (by simp [hx]))) (Below.trod laidOut (by kernel_rfl) (of_decide_eq_true (by kernel_rfl)) h1 hB (fun x hx => hlt x (by simp [hx])))

theorem planPasses_holds : Rows.PlanPassesSaid :=
 OpenClaim.holds_of_wide 4 Tryz.f4 rfl rfl rfl rfl rfl rfl rfl ⟨rfl, rfl, rfl, rfl, rfl⟩ rfl rfl rfl rfl rfl (by kernel_rfl) Tryz.func4 (by kernel_rfl)
  (of_decide_eq_true (by kernel_rfl)) (by unfold Func.isWrapper; first | (rw [if_pos (by decide +kernel)]; kernel_rfl) | (rw [if_neg (by decide +kernel)]; exact ⟨rfl, rfl⟩))
  (fun os started H enc _ => f_lifted os started H enc)
end Go.Proofs.YtiicieaabeamoaaGreat
