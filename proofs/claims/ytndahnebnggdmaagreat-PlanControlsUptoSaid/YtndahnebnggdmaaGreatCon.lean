/- PlanControls answers true at every input, and the input reads as it did: no condition. -/
import Derived.Test.YtndahnebnggdmaaGreatRows
import Derived.ProofKit
import Derived.JoinedCond
import Derived.OpenShut
import Derived.Test.YtndahnebnggdmaaGreatConLP3
import Derived.Test.YtndahnebnggdmaaGreatConL55Con
import Derived.Test.YtndahnebnggdmaaGreatRow2edbndeie
set_option linter.all false
set_option maxRecDepth 100000
namespace Go.Proofs.YtndahnebnggdmaaGreat
open Go.ChangeShapes Go.WideShapes Go.ChangeAt Go.RowKit
open Go Go.Proofs Go.Eng Go.L

theorem bulkR {H : Type} : Bulk (Rows.uptoBulk (H := H)) (Rows.uptoBulkAll (H := H)) := ⟨by simp [Rows.uptoBulkAll], fun d r => by simp [Rows.uptoBulkAll], fun d => by cases d with | lit l => cases l <;> simp [Rows.uptoBulk] | _ => simp [Rows.uptoBulk], fun es sp => by simp [Rows.uptoBulk], fun ps => by simp [Rows.uptoBulk]⟩
section
variable {H : Type} {enc : TypeId × Value → H} {W : World}
def api_Survey.wf (x : api_Survey) : Prop := ((Lit.int .i64 x.Width).wf = true) ∧ ((Lit.int .i64 x.Height).wf = true) ∧ ((Lit.int .i64 x.Low).wf = true) ∧ ((Lit.int .i64 x.High).wf = true) ∧ ((Lit.int .i64 x.Across).wf = true) ∧ ((Lit.int .i64 x.Along).wf = true) ∧ ((Lit.int .i64 x.Focal).wf = true) ∧ ((Lit.int .i64 x.Overlap).wf = true) ∧ ((Lit.int .i64 x.Sidelap).wf = true) ∧ ((Lit.int .i64 x.Views).wf = true) ∧ True
def api_Pix.wf (x : api_Pix) : Prop := ((Lit.int .i64 x.X).wf = true) ∧ ((Lit.int .i64 x.Y).wf = true) ∧ True
def api_Flight.wf (x : api_Flight) : Prop := ((Lit.int .i64 x.Height).wf = true) ∧ (x.Strips.length ≤ maxLen ∧ ∀ a ∈ x.Strips, a.length ≤ maxLen ∧ ∀ a' ∈ a, api_Pix.wf a') ∧ True
theorem op3 {b : Bool} : Opens2 (Rows.uptoBulk (H := H)) enc Tryz.prog W b 3 1 (iC .i64) (fun n => (Lit.int .i64 n).wf = true) (fun x : Int => 1) := Opens2.int bulkR (by kernel_rfl) (by kernel_rfl)
theorem op23 {b : Bool} : Opens2 (Rows.uptoBulk (H := H)) enc Tryz.prog W b 23 10 (fun x : api_Survey => [.at (.int .i64 x.Width), .at (.int .i64 x.Height), .at (.int .i64 x.Low), .at (.int .i64 x.High), .at (.int .i64 x.Across), .at (.int .i64 x.Along), .at (.int .i64 x.Focal), .at (.int .i64 x.Overlap), .at (.int .i64 x.Sidelap), .at (.int .i64 x.Views)]) (fun x => api_Survey.wf x) (fun x : api_Survey => (1 + (1 + (1 + (1 + (1 + (1 + (1 + (1 + (1 + (1 + 0))))))))))) := (Opens2.struct bulkR (l := [(3, 0), (3, 1), (3, 2), (3, 3), (3, 4), (3, 5), (3, 6), (3, 7), (3, 8), (3, 9)]) (by kernel_rfl) (by kernel_rfl) (OpensF2.cons bulkR op3 (OpensF2.cons bulkR op3 (OpensF2.cons bulkR op3 (OpensF2.cons bulkR op3 (OpensF2.cons bulkR op3 (OpensF2.cons bulkR op3 (OpensF2.cons bulkR op3 (OpensF2.cons bulkR op3 (OpensF2.cons bulkR op3 (OpensF2.cons bulkR op3 OpensF2.nil))))))))))).map (fun p => (⟨p.1, p.2.1, p.2.2.1, p.2.2.2.1, p.2.2.2.2.1, p.2.2.2.2.2.1, p.2.2.2.2.2.2.1, p.2.2.2.2.2.2.2.1, p.2.2.2.2.2.2.2.2.1, p.2.2.2.2.2.2.2.2.2.1⟩ : api_Survey)) (fun _ => rfl) (fun _ h => h) (fun _ => rfl)
theorem arg23 : Arg2 (Rows.uptoBulk (H := H)) enc Tryz.prog W 23 (fun x : api_Survey => (.agg [.at (.int .i64 x.Width), .at (.int .i64 x.Height), .at (.int .i64 x.Low), .at (.int .i64 x.High), .at (.int .i64 x.Across), .at (.int .i64 x.Along), .at (.int .i64 x.Focal), .at (.int .i64 x.Overlap), .at (.int .i64 x.Sidelap), .at (.int .i64 x.Views)] : AV)) (fun x => api_Survey.wf x) (fun x : api_Survey => (1 + (1 + (1 + (1 + (1 + (1 + (1 + (1 + (1 + (1 + 0))))))))))) := Opens2.agg op23 (by kernel_rfl)
theorem op37 {b : Bool} : Opens2 (Rows.uptoBulk (H := H)) enc Tryz.prog W b 37 2 api_Pix.c (fun x => api_Pix.wf x) (fun x : api_Pix => (1 + (1 + 0))) := (Opens2.struct bulkR (l := [(3, 0), (3, 1)]) (by kernel_rfl) (by kernel_rfl) (OpensF2.cons bulkR op3 (OpensF2.cons bulkR op3 OpensF2.nil))).map (fun p => (⟨p.1, p.2.1⟩ : api_Pix)) (fun _ => rfl) (fun _ h => h) (fun _ => rfl)
theorem op27 {b : Bool} : Opens2 (Rows.uptoBulk (H := H)) enc Tryz.prog W b 27 1 (fun l : List api_Pix => [slT api_Pix.c l]) (fun l => l.length ≤ maxLen ∧ ∀ a ∈ l, api_Pix.wf a) (fun x : List api_Pix => ((x.map fun z => (1 + (1 + 0))).sum + 1)) := Opens2.slice bulkR (c := api_Pix.c) (by kernel_rfl) (by kernel_rfl) op37
theorem op24 {b : Bool} : Opens2 (Rows.uptoBulk (H := H)) enc Tryz.prog W b 24 1 (fun l : List (List api_Pix) => [slT (slC api_Pix.c) l]) (fun l => l.length ≤ maxLen ∧ ∀ a ∈ l, a.length ≤ maxLen ∧ ∀ a' ∈ a, api_Pix.wf a') (fun x : List (List api_Pix) => ((x.map fun z => ((z.map fun z => (1 + (1 + 0))).sum + 1)).sum + 1)) := Opens2.slice bulkR (c := (slC api_Pix.c)) (by kernel_rfl) (by kernel_rfl) op27
theorem op26 {b : Bool} : Opens2 (Rows.uptoBulk (H := H)) enc Tryz.prog W b 26 2 (fun x : api_Flight => [.at (.int .i64 x.Height), slT (slC api_Pix.c) x.Strips]) (fun x => api_Flight.wf x) (fun x : api_Flight => (1 + (((x.Strips.map fun z => ((z.map fun z => (1 + (1 + 0))).sum + 1)).sum + 1) + 0))) := (Opens2.struct bulkR (l := [(3, 0), (24, 1)]) (by kernel_rfl) (by kernel_rfl) (OpensF2.cons bulkR op3 (OpensF2.cons bulkR op24 OpensF2.nil))).map (fun p => (⟨p.1, p.2.1⟩ : api_Flight)) (fun _ => rfl) (fun _ h => h) (fun _ => rfl)
theorem arg26 : Arg2 (Rows.uptoBulk (H := H)) enc Tryz.prog W 26 (fun x : api_Flight => (.agg [.at (.int .i64 x.Height), slT (slC api_Pix.c) x.Strips] : AV)) (fun x => api_Flight.wf x) (fun x : api_Flight => (1 + (((x.Strips.map fun z => ((z.map fun z => (1 + (1 + 0))).sum + 1)).sum + 1) + 0))) := Opens2.agg op26 (by kernel_rfl)
theorem arg27 : Arg2 (Rows.uptoBulk (H := H)) enc Tryz.prog W 27 (fun x : List api_Pix => (slT api_Pix.c x : AV)) (fun x => x.length ≤ maxLen ∧ ∀ a ∈ x, api_Pix.wf a) (fun x : List api_Pix => ((x.map fun z => (1 + (1 + 0))).sum + 1)) := Opens2.one op27 (by kernel_rfl)
end

theorem own : ownKnob Tryz.prog.godebug = none := by kernel_rfl
theorem laidOut : laidOutB Tryz.prog = true := by kernel_rfl
theorem below_of_ext {w w' : World} {mu mu' : Nat → Prop} (h : Ext (Lo w.heap.size) w w' mu mu' [] []) : RowKit.Below w.heap.size w w' := ⟨h.os, h.tape, h.output, h.size, h.low⟩

theorem law_value (s : api_Survey) (f : api_Flight) (l : List api_Pix) (w0 : api_Survey.wf s) (w1 : api_Flight.wf f) (w2 : l.length ≤ maxLen ∧ ∀ a ∈ l, api_Pix.wf a) (z0 : (1 + (1 + (1 + (1 + (1 + (1 + (1 + (1 + (1 + (1 + 0)))))))))) ≤ 1048576) (z1 : (1 + (((f.Strips.map fun z => ((z.map fun z => (1 + (1 + 0))).sum + 1)).sum + 1) + 0)) ≤ 1048576) (z2 : ((l.map fun z => (1 + (1 + 0))).sum + 1) ≤ 1048576) : fiduciallaw55_PlanControls 5000 s f l = some true := controls_v s f l z1

theorem f_contract (H : Type) (enc : TypeId × Value → H) (W : World) (base : Nat) (args : Array Value) (ds gs : List (DataW H)) (before : List MemPlace)
  (hval0 : ∀ (j : Nat) t v, Tryz.f3.params[j]? = some t → args[j]? = some v → Value.okWide Tryz.prog W .any base t v)
  (hW : DataW.Whole enc Tryz.prog Tryz.f3.params.toList Rows.planControlsSpec.vars false W args.toList ds gs before) (hk : Rows.uptoSmall H (ds ++ gs) = true) :
  Calls Tryz.prog 3 args W fun e W' => ∃ v, e = .returned v ∧ Rows.planControlsSpec.post enc Tryz.prog Tryz.f3 false true false false W args v W' := by
 have hval : ∀ (j : Nat) t v, Tryz.f3.params[j]? = some t → args[j]? = some v → Value.okWide Tryz.prog W .any base t v := hval0
 have hW' := hW
 obtain ⟨p, q, hA0, hV, rfl, hfz, hnd⟩ := hW
 have hA : DataW.TrodAll enc Tryz.prog W 0 (fun _ => true) true Tryz.f3.params.toList args.toList ds p := hA0
 rw [Tryz.params3] at hA hval
 obtain ⟨v0, v1, v2, d0, d1, d2, p0, p1, p2, rfl, rfl, rfl, h0, h1, h2⟩ := trodAll_three hA
 obtain ⟨rfl, rfl⟩ := trodVars_none hV
 clear hA0 hval0
 simp only [List.append_nil] at hW' hk
 have hbk : Rows.uptoBulkAll [d0, d1, d2] ≤ 1048576 := of_decide_eq_true hk
 simp only [Rows.uptoBulkAll] at hbk
 have hlt : ∀ x ∈ p0 ++ p1 ++ p2, x.block < W.heap.size := fun x hx => by simpa using hW'.lt x hx
 obtain ⟨a0, wa0, sa0, hb0⟩ := arg23 base v0 d0 _ (hval 0 23 v0 rfl rfl) h0
 obtain ⟨a1, wa1, sa1, hb1⟩ := arg26 base v1 d1 _ (hval 1 26 v1 rfl rfl) h1
 obtain ⟨a2, wa2, sa2, hb2⟩ := arg27 base v2 d2 _ (hval 2 27 v2 rfl rfl) h2
 refine (fiduciallaw55_PlanControls_ok 5000 a0 a1 a2 true (law_value a0 a1 a2 wa0 wa1 wa2 (Nat.le_trans sa0 (by omega)) (Nat.le_trans sa1 (by omega)) (Nat.le_trans sa2 (by omega))) nobody' W [v0, v1, v2] (fun _ h => h.elim) ⟨v0, _, rfl, hb0, v1, _, rfl, hb1, v2, _, rfl, hb2, rfl⟩).mono fun e W' hr => ?_
 obtain ⟨u, rfl, hE, hu⟩ := hr
 obtain rfl : u = .bool true := hu
 have hB := below_of_ext hE
 refine ⟨_, rfl, _, _, _, [], p0 ++ (p1 ++ p2), [], hW', ?_, ?_, rfl, hB.frame _, fun h => by cases h⟩
 · exact trodAll_mk1 (shut_bool (by kernel_rfl) true)
 · exact trodAll_mk3 (Below.trod laidOut (by kernel_rfl) (of_decide_eq_true (by kernel_rfl)) h0 hB (fun x hx => hlt x (by simp [hx]))) (Below.trod laidOut (by kernel_rfl) (of_decide_eq_true (by kernel_rfl)) h1 hB (fun x hx => hlt x (by simp [hx]))) (Below.trod laidOut (by kernel_rfl) (of_decide_eq_true (by kernel_rfl)) h2 hB (fun x hx => hlt x (by simp [hx])))

theorem f_lifted (os : Os) (started : os.Started) (H : Type) (enc : TypeId × Value → H) (F : Stop.Interp) :
  ReturnsInHanded {} Tryz.checked os 3 .any ((Rows.OpenSpec.upto Rows.planControlsSpec).pre6 enc Tryz.prog Tryz.f3 Rows.planControlsUptoRow.domain false) (((Rows.OpenSpec.upto Rows.planControlsSpec).at F).post enc Tryz.prog Tryz.f3 false true false false) := by
 refine returnsInHanded_of_cond (C := Tryz.checked) (s := Rows.OpenSpec.upto Rows.planControlsSpec) (k := Rows.uptoSmall) rfl own started (by kernel_rfl) Tryz.func3
  (OpenSpec.witness (enc := enc) (C := Tryz.checked) (s := Rows.OpenSpec.upto Rows.planControlsSpec) (k := Rows.uptoSmall) rfl false ⟨#[], #[.agg #[.int .i64 0, .int .i64 0, .int .i64 0, .int .i64 0, .int .i64 0, .int .i64 0, .int .i64 0, .int .i64 0, .int .i64 0, .int .i64 0], .agg #[.int .i64 0, .slice none 0 0], .slice none 0 0], []⟩ 8 (by kernel_rfl) (by kernel_rfl) (by kernel_rfl)
   (x := ([.agg [.lit (.int .i64 0), .lit (.int .i64 0), .lit (.int .i64 0), .lit (.int .i64 0), .lit (.int .i64 0), .lit (.int .i64 0), .lit (.int .i64 0), .lit (.int .i64 0), .lit (.int .i64 0), .lit (.int .i64 0)], .agg [.lit (.int .i64 0), .nil], .nil], [], [])) (by kernel_rfl) rfl (by kernel_rfl)) ?_
 intro W base args ds gs before hval hW _ hk _
 exact f_contract H enc W base args ds gs before hval hW hk

theorem planControlsUpto_holds : Rows.PlanControlsUptoSaid :=
 OpenClaim.holds_of_cond 3 Tryz.f3 rfl rfl rfl rfl rfl rfl rfl ⟨rfl, rfl, rfl, rfl, rfl⟩ rfl rfl rfl rfl rfl (by kernel_rfl) Tryz.func3 (by kernel_rfl)
  (of_decide_eq_true (by kernel_rfl)) (by unfold Func.isWrapper; first | (rw [if_pos (by decide +kernel)]; kernel_rfl) | (rw [if_neg (by decide +kernel)]; exact ⟨rfl, rfl⟩))
  (fun os started H enc _ F => f_lifted os started H enc F)
end Go.Proofs.YtndahnebnggdmaaGreat
