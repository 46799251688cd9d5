/- VolumeTriangles answers true at every input, and the input reads as it did: no condition. -/
import Derived.Test.YtcjhlgoicppgnaaGreatRows
import Derived.ProofKit
import Derived.Test.YtcjhlgoicppgnaaGreatTriLP3
import Derived.Test.YtcjhlgoicppgnaaGreatTriL52Tri
import Derived.Test.YtcjhlgoicppgnaaGreatRow1ejhhhjec
set_option linter.all false
set_option maxRecDepth 100000
namespace Go.Proofs.YtcjhlgoicppgnaaGreat
open Go.ChangeShapes Go.WideShapes Go.ChangeAt Go.RowKit
open Go Go.Proofs Go.Eng Go.L

section
variable {H : Type} {enc : TypeId × Value → H} {W : World}
def api_Int.wf (x : api_Int) : Prop := (True) ∧ (x.Groups.length ≤ maxLen ∧ ∀ a ∈ x.Groups, (Lit.int .u32 a).wf = true) ∧ True
def api_Rat.wf (x : api_Rat) : Prop := (api_Int.wf x.Num) ∧ (api_Int.wf x.Den) ∧ True
theorem op96 {b : Bool} : Opens enc Tryz.prog W b 96 1 (iC .u32) (fun n => (Lit.int .u32 n).wf = true) := Opens.int (by kernel_rfl) (by kernel_rfl)
theorem op40 {b : Bool} : Opens enc Tryz.prog W b 40 1 (fun l : List Int => [slT (iC .u32) l]) (fun l => l.length ≤ maxLen ∧ ∀ a ∈ l, (Lit.int .u32 a).wf = true) := Opens.slice (c := (iC .u32)) (by kernel_rfl) (by kernel_rfl) op96
theorem op4 {b : Bool} : Opens enc Tryz.prog W b 4 1 bC (fun _ => True) := Opens.bool (by kernel_rfl) (by kernel_rfl)
theorem op42 {b : Bool} : Opens enc Tryz.prog W b 42 2 (fun x : api_Int => [.at (.bool x.Negative), slT (iC .u32) x.Groups]) (fun x => api_Int.wf x) := (Opens.struct (l := [(4, 0), (40, 1)]) (by kernel_rfl) (by kernel_rfl) (OpensF.cons op4 (OpensF.cons op40 OpensF.nil))).map (fun p => (⟨p.1, p.2.1⟩ : api_Int)) (fun _ => rfl) (fun _ h => h)
theorem op44 {b : Bool} : Opens enc Tryz.prog W b 44 4 api_Rat.c (fun x => api_Rat.wf x) := (Opens.struct (l := [(42, 0), (42, 2)]) (by kernel_rfl) (by kernel_rfl) (OpensF.cons op42 (OpensF.cons op42 OpensF.nil))).map (fun p => (⟨p.1, p.2.1⟩ : api_Rat)) (fun _ => rfl) (fun _ h => h)
theorem arg44 : Arg enc Tryz.prog W 44 (fun x : api_Rat => (.agg [.at (.bool x.Num.Negative), slT (iC .u32) x.Num.Groups, .at (.bool x.Den.Negative), slT (iC .u32) x.Den.Groups] : AV)) (fun x => api_Rat.wf x) := Opens.agg op44 (by kernel_rfl)
end

theorem own : ownKnob Tryz.prog.godebug = none := by kernel_rfl
theorem laidOut : laidOutB Tryz.prog = true := by kernel_rfl
theorem below_of_ext {w w' : World} {mu mu' : Nat → Prop} (h : Ext (Lo w.heap.size) w w' mu mu' [] []) : RowKit.Below w.heap.size w w' := ⟨h.os, h.tape, h.output, h.size, h.low⟩

theorem law_value (a : api_Rat) (b : api_Rat) (c : api_Rat) (w0 : api_Rat.wf a) (w1 : api_Rat.wf b) (w2 : api_Rat.wf c) : fiduciallaw52_VolumeTriangles 5000 a b c = some true := triangles_v a b c (grP w0) (grP w1) (grP w2)

theorem f_lifted (os : Os) (started : os.Started) (H : Type) (enc : TypeId × Value → H) :
  ReturnsInHanded {} Tryz.checked os 4 .any (Rows.volumeTrianglesSpec.pre6 enc Tryz.prog Tryz.f4 Rows.volumeTrianglesRow.domain false) (Rows.volumeTrianglesSpec.post enc Tryz.prog Tryz.f4 false true false false) := by
 refine returnsInHanded_of_change (C := Tryz.checked) own started (by kernel_rfl) Tryz.func4
  (ChangeSpec.witness6 (enc := enc) (C := Tryz.checked) false ⟨#[], #[.agg #[.bool false, .slice none 0 0, .bool false, .slice none 0 0], .agg #[.bool false, .slice none 0 0, .bool false, .slice none 0 0], .agg #[.bool false, .slice none 0 0, .bool false, .slice none 0 0]], []⟩ 8 (by kernel_rfl) (by kernel_rfl) (by kernel_rfl) (by kernel_rfl)) ?_
 intro W base args ds gs before hval0 hW hcnd _
 have hval : ∀ (j : Nat) t v, Tryz.f4.params[j]? = some t → args[j]? = some v → Value.okWide Tryz.prog W .any base t v := hval0
 have hW' := hW
 obtain ⟨p, q, hA0, hV, rfl, hfz, hnd⟩ := hW
 have hA : DataW.TrodAll enc Tryz.prog W 0 (fun _ => true) true Tryz.f4.params.toList args.toList ds p := hA0
 rw [Tryz.params4] at hA hval
 obtain ⟨v0, v1, v2, d0, d1, d2, p0, p1, p2, rfl, rfl, rfl, h0, h1, h2⟩ := trodAll_three hA
 obtain ⟨rfl, rfl⟩ := trodVars_none hV
 clear hA0 hval0
 simp only [List.append_nil] at hW'
 have hlt : ∀ x ∈ p0 ++ p1 ++ p2, x.block < W.heap.size := fun x hx => by simpa using hW'.lt x hx
 obtain ⟨a0, wa0, hb0⟩ := arg44 base v0 d0 _ (hval 0 44 v0 rfl rfl) h0
 obtain ⟨a1, wa1, hb1⟩ := arg44 base v1 d1 _ (hval 1 44 v1 rfl rfl) h1
 obtain ⟨a2, wa2, hb2⟩ := arg44 base v2 d2 _ (hval 2 44 v2 rfl rfl) h2
 refine (fiduciallaw52_VolumeTriangles_ok 5000 a0 a1 a2 true (law_value a0 a1 a2 wa0 wa1 wa2) nobody' W [v0, v1, v2] (fun _ h => h.elim) ⟨v0, _, rfl, hb0, v1, _, rfl, hb1, v2, _, rfl, hb2, rfl⟩).mono fun e W' hr => ?_
 obtain ⟨u, rfl, hE, hu⟩ := hr
 obtain rfl : u = .bool true := hu
 have hB := below_of_ext hE
 refine ⟨_, rfl, _, _, _, [], p0 ++ (p1 ++ p2), [], hW', ?_, ?_, rfl, hB.frame _, fun h => by cases h⟩
 · exact trodAll_mk1 (shut_bool (by kernel_rfl) true)
 · exact trodAll_mk3 (Below.trod laidOut (by kernel_rfl) (of_decide_eq_true (by kernel_rfl)) h0 hB (fun x hx => hlt x (by simp [hx]))) (Below.trod laidOut (by kernel_rfl) (of_decide_eq_true (by kernel_rfl)) h1 hB (fun x hx => hlt x (by simp [hx]))) (Below.trod laidOut (by kernel_rfl) (of_decide_eq_true (by kernel_rfl)) h2 hB (fun x hx => hlt x (by simp [hx])))

theorem volumeTriangles_holds : Rows.VolumeTrianglesSaid :=
 OpenClaim.holds_of_wide 4 Tryz.f4 rfl rfl rfl rfl rfl rfl rfl ⟨rfl, rfl, rfl, rfl, rfl⟩ rfl rfl rfl rfl rfl (by kernel_rfl) Tryz.func4 (by kernel_rfl)
  (of_decide_eq_true (by kernel_rfl)) (by unfold Func.isWrapper; first | (rw [if_pos (by decide +kernel)]; kernel_rfl) | (rw [if_neg (by decide +kernel)]; exact ⟨rfl, rfl⟩))
  (fun os started H enc _ => f_lifted os started H enc)
end Go.Proofs.YtcjhlgoicppgnaaGreat
