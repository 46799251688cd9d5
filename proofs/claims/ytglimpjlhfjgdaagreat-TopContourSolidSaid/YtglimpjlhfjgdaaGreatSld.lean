
import Derived.Test.YtglimpjlhfjgdaaGreatRows
import Derived.ProofKit
import Derived.Test.YtglimpjlhfjgdaaGreatSldLP4
import Derived.Test.YtglimpjlhfjgdaaGreatSldL23S
import Derived.Test.YtglimpjlhfjgdaaGreatRow1Slds
set_option linter.all false
set_option maxRecDepth 100000
namespace Go.Proofs.YtglimpjlhfjgdaaGreat
open Go.ChangeShapes Go.WideShapes Go.ChangeAt Go.RowKit
open Go Go.Proofs Go.Eng Go.L

section
variable {H : Type} {enc : TypeId × Value -> H} {W : World}
def aj.wf (x : aj) : Prop := ((Lit.int .i64 x.X0).wf = true) /\ ((Lit.int .i64 x.Y0).wf = true) /\ ((Lit.int .i64 x.Step).wf = true) /\ ((Lit.int .i64 x.Width).wf = true) /\ ((Lit.int .i64 x.Height).wf = true) /\ (x.Z.length <= maxLen /\ ∀ a ∈ x.Z, (Lit.int .i64 a).wf = true) /\ True
theorem op3 {b : Bool} : gu enc Tryz.prog W b 3 1 (iC .i64) (fun n => (Lit.int .i64 n).wf = true) := gu.int (by kernel_rfl) (by kernel_rfl)
theorem MH {b : Bool} : gu enc Tryz.prog W b 22 1 (fun l : List Int => [slT (iC .i64) l]) (fun l => l.length <= maxLen /\ ∀ a ∈ l, (Lit.int .i64 a).wf = true) := gu.slice (c := (iC .i64)) (by kernel_rfl) (by kernel_rfl) op3
theorem MB {b : Bool} : gu enc Tryz.prog W b 24 6 (fun x : aj => [.at (.int .i64 x.X0), .at (.int .i64 x.Y0), .at (.int .i64 x.Step), .at (.int .i64 x.Width), .at (.int .i64 x.Height), slT (iC .i64) x.Z]) (fun x => aj.wf x) := (gu.struct (l := [(3, 0), (3, 1), (3, 2), (3, 3), (3, 4), (22, 5)]) (by kernel_rfl) (by kernel_rfl) (jT.cons op3 (jT.cons op3 (jT.cons op3 (jT.cons op3 (jT.cons op3 (jT.cons MH jT.nil))))))).map (fun p => (⟨p.1, p.2.1, p.2.2.1, p.2.2.2.1, p.2.2.2.2.1, p.2.2.2.2.2.1⟩ : aj)) (fun _ => rfl) (fun _ h => h)
theorem Kb : Arg enc Tryz.prog W 24 (fun x : aj => (.agg [.at (.int .i64 x.X0), .at (.int .i64 x.Y0), .at (.int .i64 x.Step), .at (.int .i64 x.Width), .at (.int .i64 x.Height), slT (iC .i64) x.Z] : AV)) (fun x => aj.wf x) := gu.agg MB (by kernel_rfl)
theorem op5 {b : Bool} : gu enc Tryz.prog W b 5 1 (iC .u8) (fun n => (Lit.int .u8 n).wf = true) := gu.int (by kernel_rfl) (by kernel_rfl)
theorem KX : Arg enc Tryz.prog W 5 (fun x : Int => (.at (.int .u8 x) : AV)) (fun x => (Lit.int .u8 x).wf = true) := gu.one op5 (by kernel_rfl)
end

theorem own : ownKnob Tryz.prog.godebug = none := by kernel_rfl
theorem laidOut : laidOutB Tryz.prog = true := by kernel_rfl
theorem zz {w w' : World} {mu mu' : Nat -> Prop} (h : Ext (Lo w.heap.size) w w' mu mu' [] []) : RowKit.Below w.heap.size w w' := ⟨h.os, h.tape, h.output, h.size, h.low⟩

theorem D8 (g : aj) (k : Int) (up : Int) (w0 : aj.wf g) (w1 : (Lit.int .u8 k).wf = true) (w2 : (Lit.int .u8 up).wf = true) : cM 20000 g k up = some true := wg g k up (C5 w1) (C5 w2)

theorem Ex (os : Os) (started : os.Started) (H : Type) (enc : TypeId × Value -> H) :
  ReturnsInHanded {} Tryz.checked os 4 .any (Rows.topContourSolidSpec.pre6 enc Tryz.prog Tryz.f4 Rows.topContourSolidRow.domain false) (Rows.topContourSolidSpec.post enc Tryz.prog Tryz.f4 false true false false) := by
 refine returnsInHanded_of_change (C := Tryz.checked) own started (by kernel_rfl) Tryz.func4
  (ChangeSpec.witness6 (enc := enc) (C := Tryz.checked) false ⟨#[], #[.agg #[.int .i64 0, .int .i64 0, .int .i64 0, .int .i64 0, .int .i64 0, .slice none 0 0], .int .u8 0, .int .u8 0], []⟩ 8 (by kernel_rfl) (by kernel_rfl) (by kernel_rfl) (by kernel_rfl)) ?_
 intro W base args ds gs before hval0 hW hcnd _
 have hval : ∀ (j : Nat) t v, Tryz.f4.params[j]? = some t -> args[j]? = some v -> Value.okWide Tryz.prog W .any base t v := hval0
 have hW' := hW
 obtain ⟨p, q, hA0, hV, rfl, hfz, hnd⟩ := hW
 have hA : DataW.TrodAll enc Tryz.prog W 0 (fun _ => true) true Tryz.f4.params.toList args.toList ds p := hA0
 rw [Tryz.params4] at hA hval
 obtain ⟨v0, v1, v2, d0, d1, d2, p0, p1, p2, rfl, rfl, rfl, h0, h1, h2⟩ := trodAll_three hA
 obtain ⟨rfl, rfl⟩ := trodVars_none hV
 clear hA0 hval0
 simp only [List.append_nil] at hW'
 have hlt : ∀ x ∈ p0 ++ p1 ++ p2, x.block < W.heap.size := fun x hx => by simpa using hW'.lt x hx
 obtain ⟨a0, wa0, hb0⟩ := Kb base v0 d0 _ (hval 0 24 v0 rfl rfl) h0
 obtain ⟨a1, wa1, hb1⟩ := KX base v1 d1 _ (hval 1 5 v1 rfl rfl) h1
 obtain ⟨a2, wa2, hb2⟩ := KX base v2 d2 _ (hval 2 5 v2 rfl rfl) h2
 refine (ky 20000 a0 a1 a2 true (D8 a0 a1 a2 wa0 wa1 wa2) qS W [v0, v1, v2] (fun _ h => h.elim) ⟨v0, _, rfl, hb0, v1, _, rfl, hb1, v2, _, rfl, hb2, rfl⟩).mono fun e W' hr => ?_
 obtain ⟨u, rfl, hE, hu⟩ := hr
 obtain rfl : u = .bool true := hu
 have hB := zz hE
 refine ⟨_, rfl, _, _, _, [], p0 ++ (p1 ++ p2), [], hW', ?_, ?_, rfl, hB.frame _, fun h => by cases h⟩
 · exact trodAll_mk1 (shut_bool (by kernel_rfl) true)
 · exact trodAll_mk3 (Below.trod laidOut (by kernel_rfl) (dcT (by kernel_rfl)) h0 hB (fun x hx => hlt x (by simp [hx]))) (Below.trod laidOut (by kernel_rfl) (dcT (by kernel_rfl)) h1 hB (fun x hx => hlt x (by simp [hx]))) (Below.trod laidOut (by kernel_rfl) (dcT (by kernel_rfl)) h2 hB (fun x hx => hlt x (by simp [hx])))

theorem topContourSolid_holds : Rows.TopContourSolidSaid :=
 OpenClaim.holds_of_wide 4 Tryz.f4 rfl rfl rfl rfl rfl rfl rfl ⟨rfl, rfl, rfl, rfl, rfl⟩ rfl rfl rfl rfl rfl (by kernel_rfl) Tryz.func4 (by kernel_rfl)
  (dcT (by kernel_rfl)) (by unfold Func.isWrapper; first | (rw [if_pos (by decide +kernel)]; kernel_rfl) | (rw [if_neg (by decide +kernel)]; exact ⟨rfl, rfl⟩))
  (fun os started H enc _ => Ex os started H enc)
end Go.Proofs.YtglimpjlhfjgdaaGreat
