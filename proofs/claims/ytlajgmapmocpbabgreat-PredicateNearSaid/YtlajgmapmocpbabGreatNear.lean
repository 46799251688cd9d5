/- PredicateNear answers true at every input, and the input reads as it did: no condition. -/
import Derived.Test.YtlajgmapmocpbabGreatRows
import Derived.ProofKit
import Derived.Test.YtlajgmapmocpbabGreatNearLP4
import Derived.Test.YtlajgmapmocpbabGreatNearL09Near
import Derived.Test.YtlajgmapmocpbabGreatRow1i
set_option linter.unusedVariables false
set_option linter.unusedSimpArgs false
set_option maxRecDepth 100000
namespace Go.Proofs.YtlajgmapmocpbabGreat
open Go.ChangeShapes Go.WideShapes Go.ChangeAt Go.RowKit
open Go Go.Proofs Go.Eng Go.L

section
variable {H : Type} {enc : TypeId × Value → H} {W : World}
def api_Pix.wf (x : api_Pix) : Prop := ((Lit.int .i64 x.X).wf = true) ∧ ((Lit.int .i64 x.Y).wf = true) ∧ True
theorem op3 {b : Bool} : Opens enc Tryz.prog W b 3 1 (iC .i64) (fun n => (Lit.int .i64 n).wf = true) := Opens.int (by kernel_rfl) (by kernel_rfl)
theorem op23 {b : Bool} : Opens enc Tryz.prog W b 23 2 api_Pix.c (fun x => api_Pix.wf x) := (Opens.struct (l := [(3, 0), (3, 1)]) (by kernel_rfl) (by kernel_rfl) (OpensF.cons op3 (OpensF.cons op3 OpensF.nil))).map (fun p => (⟨p.1, p.2.1⟩ : api_Pix)) (fun _ => rfl) (fun _ h => h)
theorem op34 {b : Bool} : Opens enc Tryz.prog W b 34 6 (fun x : A3 api_Pix => [.at (.int .i64 x.e0.X), .at (.int .i64 x.e0.Y), .at (.int .i64 x.e1.X), .at (.int .i64 x.e1.Y), .at (.int .i64 x.e2.X), .at (.int .i64 x.e2.Y)]) (fun x => (api_Pix.wf x.e0) ∧ (api_Pix.wf x.e1) ∧ (api_Pix.wf x.e2) ∧ True) := (Opens.array (m := 3) (e := 23) (k := 2) (by kernel_rfl) (by kernel_rfl) (by kernel_rfl) (show OpensF _ _ _ _ (((List.range 3).map fun i => (23, i * 2)) : List (TypeId × Nat)) 0 _ _ _ from (OpensF.cons op23 (OpensF.cons op23 (OpensF.cons op23 OpensF.nil))))).map (fun p => (⟨p.1, p.2.1, p.2.2.1⟩ : A3 api_Pix)) (fun _ => rfl) (fun _ h => h)
theorem arg34 : Arg enc Tryz.prog W 34 (fun x : A3 api_Pix => (.agg [.at (.int .i64 x.e0.X), .at (.int .i64 x.e0.Y), .at (.int .i64 x.e1.X), .at (.int .i64 x.e1.Y), .at (.int .i64 x.e2.X), .at (.int .i64 x.e2.Y)] : AV)) (fun x => (api_Pix.wf x.e0) ∧ (api_Pix.wf x.e1) ∧ (api_Pix.wf x.e2) ∧ True) := Opens.agg op34 (by kernel_rfl)
theorem op5 {b : Bool} : Opens enc Tryz.prog W b 5 1 (iC .u8) (fun n => (Lit.int .u8 n).wf = true) := Opens.int (by kernel_rfl) (by kernel_rfl)
theorem arg5 : Arg enc Tryz.prog W 5 (fun x : Int => (.at (.int .u8 x) : AV)) (fun x => (Lit.int .u8 x).wf = true) := Opens.one op5 (by kernel_rfl)
end

theorem own : ownKnob Tryz.prog.godebug = none := by kernel_rfl
theorem laidOut : laidOutB Tryz.prog = true := by kernel_rfl
theorem below_of_ext {w w' : World} {mu mu' : Nat → Prop} (h : Ext (Lo w.heap.size) w w' mu mu' [] []) : RowKit.Below w.heap.size w w' := ⟨h.os, h.tape, h.output, h.size, h.low⟩

theorem law_value (l : A3 api_Pix) (k : Int) (w0 : (api_Pix.wf l.e0) ∧ (api_Pix.wf l.e1) ∧ (api_Pix.wf l.e2) ∧ True) (w1 : (Lit.int .u8 k).wf = true) : fiduciallaw09_PredicateNear 5000 l k = some true := near_law l (u8_of w1).1 (u8_of w1).2

theorem f_lifted (os : Os) (started : os.Started) (H : Type) (enc : TypeId × Value → H) :
    ReturnsInHanded {} Tryz.checked os 4 .any (Rows.predicateNearSpec.pre6 enc Tryz.prog Tryz.f4 Rows.predicateNearRow.domain false) (Rows.predicateNearSpec.post enc Tryz.prog Tryz.f4 false true false false) := by
  refine returnsInHanded_of_change (C := Tryz.checked) own started (by kernel_rfl) Tryz.func4
    (ChangeSpec.witness6 (enc := enc) (C := Tryz.checked) false ⟨#[], #[.agg #[.int .i64 0, .int .i64 0, .int .i64 0, .int .i64 0, .int .i64 0, .int .i64 0], .int .u8 0], []⟩ 8 (by kernel_rfl) (by kernel_rfl) (by kernel_rfl) (by kernel_rfl)) ?_
  intro W base args ds gs before hval0 hW hcnd _
  have hval : ∀ (j : Nat) t v, Tryz.f4.params[j]? = some t → args[j]? = some v → Value.okWide Tryz.prog W .any base t v := hval0
  have hW' := hW
  obtain ⟨p, q, hA0, hV, rfl, hfz, hnd⟩ := hW
  have hA : DataW.TrodAll enc Tryz.prog W 0 (fun _ => true) true Tryz.f4.params.toList args.toList ds p := hA0
  rw [Tryz.params4] at hA hval
  obtain ⟨v0, v1, d0, d1, p0, p1, rfl, rfl, rfl, h0, h1⟩ := trodAll_two hA
  obtain ⟨rfl, rfl⟩ := trodVars_none hV
  clear hA0 hval0
  simp only [List.append_nil] at hW'
  have hlt : ∀ x ∈ p0 ++ p1, x.block < W.heap.size := fun x hx => by simpa using hW'.lt x hx
  obtain ⟨a0, wa0, hb0⟩ := arg34 base v0 d0 _ (hval 0 34 v0 rfl rfl) h0
  obtain ⟨a1, wa1, hb1⟩ := arg5 base v1 d1 _ (hval 1 5 v1 rfl rfl) h1
  refine (fiduciallaw09_PredicateNear_ok 5000 a0 a1 true (law_value a0 a1 wa0 wa1) nobody' W [v0, v1] (fun _ h => h.elim) ⟨v0, _, rfl, hb0, v1, _, rfl, hb1, rfl⟩).mono fun e W' hr => ?_
  obtain ⟨u, rfl, hE, hu⟩ := hr
  obtain rfl : u = .bool true := hu
  have hB := below_of_ext hE
  refine ⟨_, rfl, _, _, _, [], p0 ++ (p1), [], hW', ?_, ?_, rfl, hB.frame _, fun h => by cases h⟩
  · exact trodAll_mk1 (shut_bool (by kernel_rfl) true)
  · exact trodAll_mk2 (Below.trod laidOut (by kernel_rfl) (of_decide_eq_true (by kernel_rfl)) h0 hB (fun x hx => hlt x (by simp [hx]))) (Below.trod laidOut (by kernel_rfl) (of_decide_eq_true (by kernel_rfl)) h1 hB (fun x hx => hlt x (by simp [hx])))

theorem predicateNear_holds : Rows.PredicateNearSaid :=
  OpenClaim.holds_of_wide 4 Tryz.f4 rfl rfl rfl rfl rfl rfl rfl ⟨rfl, rfl, rfl, rfl, rfl⟩ rfl rfl rfl rfl rfl (by kernel_rfl) Tryz.func4 (by kernel_rfl)
    (of_decide_eq_true (by kernel_rfl)) (by unfold Func.isWrapper; first | (rw [if_pos (by decide +kernel)]; kernel_rfl) | (rw [if_neg (by decide +kernel)]; exact ⟨rfl, rfl⟩))
    (fun os started H enc _ => f_lifted os started H enc)
end Go.Proofs.YtlajgmapmocpbabGreat
