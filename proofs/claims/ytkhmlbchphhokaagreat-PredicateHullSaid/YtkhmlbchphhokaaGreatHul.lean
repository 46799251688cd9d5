/- PredicateHull answers true at every input, and the input reads as it did: no condition. -/
import Derived.Test.YtkhmlbchphhokaaGreatRows
import Derived.ProofKit
import Derived.Test.YtkhmlbchphhokaaGreatHulLP3
import Derived.Test.YtkhmlbchphhokaaGreatHulL09Hu3
import Derived.Test.YtkhmlbchphhokaaGreatRow1ejlbcena
set_option linter.all false
set_option maxRecDepth 100000
namespace Go.Proofs.YtkhmlbchphhokaaGreat
open Go.ChangeShapes Go.WideShapes Go.ChangeAt Go.RowKit
open Go Go.Proofs Go.Eng Go.L

section
variable {H : Type} {enc : TypeId × Value → H} {W : World}
def api_Pix.wf (x : api_Pix) : Prop := ((Lit.int .i64 x.X).wf = true) ∧ ((Lit.int .i64 x.Y).wf = true) ∧ True
theorem op3 {b : Bool} : Opens enc Tryz.prog W b 3 1 (iC .i64) (fun n => (Lit.int .i64 n).wf = true) := Opens.int (by kernel_rfl) (by kernel_rfl)
theorem op51 {b : Bool} : Opens enc Tryz.prog W b 51 2 api_Pix.c (fun x => api_Pix.wf x) := (Opens.struct (l := [(3, 0), (3, 1)]) (by kernel_rfl) (by kernel_rfl) (OpensF.cons op3 (OpensF.cons op3 OpensF.nil))).map (fun p => (⟨p.1, p.2.1⟩ : api_Pix)) (fun _ => rfl) (fun _ h => h)
theorem op48 {b : Bool} : Opens enc Tryz.prog W b 48 1 (fun l : List api_Pix => [slT api_Pix.c l]) (fun l => l.length ≤ maxLen ∧ ∀ a ∈ l, api_Pix.wf a) := Opens.slice (c := api_Pix.c) (by kernel_rfl) (by kernel_rfl) op51
theorem arg48 : Arg enc Tryz.prog W 48 (fun x : List api_Pix => (slT api_Pix.c x : AV)) (fun x => x.length ≤ maxLen ∧ ∀ a ∈ x, api_Pix.wf a) := Opens.one op48 (by kernel_rfl)
end

theorem own : ownKnob Tryz.prog.godebug = none := by kernel_rfl
theorem laidOut : laidOutB Tryz.prog = true := by kernel_rfl
theorem below_of_ext {w w' : World} {mu mu' : Nat → Prop} (h : Ext (Lo w.heap.size) w w' mu mu' [] []) : RowKit.Below w.heap.size w w' := ⟨h.os, h.tape, h.output, h.size, h.low⟩

theorem law_value (l : List api_Pix) (w0 : l.length ≤ maxLen ∧ ∀ a ∈ l, api_Pix.wf a) : fiduciallaw09_PredicateHull 5000 l = some true := hull_law l

theorem f_lifted (os : Os) (started : os.Started) (H : Type) (enc : TypeId × Value → H) :
  ReturnsInHanded {} Tryz.checked os 5 .any (Rows.predicateHullSpec.pre6 enc Tryz.prog Tryz.f5 Rows.predicateHullRow.domain false) (Rows.predicateHullSpec.post enc Tryz.prog Tryz.f5 false true false false) := by
 refine returnsInHanded_of_change (C := Tryz.checked) own started (by kernel_rfl) Tryz.func5
  (ChangeSpec.witness6 (enc := enc) (C := Tryz.checked) false ⟨#[], #[.slice none 0 0], []⟩ 8 (by kernel_rfl) (by kernel_rfl) (by kernel_rfl) (by kernel_rfl)) ?_
 intro W base args ds gs before hval0 hW hcnd _
 have hval : ∀ (j : Nat) t v, Tryz.f5.params[j]? = some t → args[j]? = some v → Value.okWide Tryz.prog W .any base t v := hval0
 have hW' := hW
 obtain ⟨p, q, hA0, hV, rfl, hfz, hnd⟩ := hW
 have hA : DataW.TrodAll enc Tryz.prog W 0 (fun _ => true) true Tryz.f5.params.toList args.toList ds p := hA0
 rw [Tryz.params5] at hA hval
 obtain ⟨v0, d0, rfl, rfl, h0⟩ := trodAll_one hA
 obtain ⟨rfl, rfl⟩ := trodVars_none hV
 clear hA0 hval0
 simp only [List.append_nil] at hW'
 have hlt : ∀ x ∈ p, x.block < W.heap.size := fun x hx => by simpa using hW'.lt x hx
 obtain ⟨a0, wa0, hb0⟩ := arg48 base v0 d0 _ (hval 0 48 v0 rfl rfl) h0
 refine (fiduciallaw09_PredicateHull_ok 5000 a0 true (law_value a0 wa0) nobody' W [v0] (fun _ h => h.elim) ⟨v0, _, rfl, hb0, rfl⟩).mono fun e W' hr => ?_
 obtain ⟨u, rfl, hE, hu⟩ := hr
 obtain rfl : u = .bool true := hu
 have hB := below_of_ext hE
 refine ⟨_, rfl, _, _, _, [], p, [], hW', ?_, ?_, rfl, hB.frame _, fun h => by cases h⟩
 · exact trodAll_mk1 (shut_bool (by kernel_rfl) true)
 · exact trodAll_mk1 (Below.trod laidOut (by kernel_rfl) (of_decide_eq_true (by kernel_rfl)) h0 hB (fun x hx => hlt x hx))

theorem predicateHull_holds : Rows.PredicateHullSaid :=
 OpenClaim.holds_of_wide 5 Tryz.f5 rfl rfl rfl rfl rfl rfl rfl ⟨rfl, rfl, rfl, rfl, rfl⟩ rfl rfl rfl rfl rfl (by kernel_rfl) Tryz.func5 (by kernel_rfl)
  (of_decide_eq_true (by kernel_rfl)) (by unfold Func.isWrapper; first | (rw [if_pos (by decide +kernel)]; kernel_rfl) | (rw [if_neg (by decide +kernel)]; exact ⟨rfl, rfl⟩))
  (fun os started H enc _ => f_lifted os started H enc)
end Go.Proofs.YtkhmlbchphhokaaGreat
