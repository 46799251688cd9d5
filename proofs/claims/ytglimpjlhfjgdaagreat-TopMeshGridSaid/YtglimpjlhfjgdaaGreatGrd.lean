
import Derived.Test.YtglimpjlhfjgdaaGreatRows
import Derived.ProofKit
import Derived.Test.YtglimpjlhfjgdaaGreatGrdLP5
import Derived.Test.YtglimpjlhfjgdaaGreatGrdL21M
import Derived.Test.YtglimpjlhfjgdaaGreatRow1Grds
set_option linter.all false
set_option maxRecDepth 100000
namespace Go.Proofs.YtglimpjlhfjgdaaGreat
open Go.ChangeShapes Go.WideShapes Go.ChangeAt Go.RowKit
open Go Go.Proofs Go.Eng Go.L

section
variable {H : Type} {enc : TypeId × Value -> H} {W : World}
def ak.wf (x : ak) : Prop := ((Lit.int .i64 x.X0).wf = true) /\ ((Lit.int .i64 x.Y0).wf = true) /\ ((Lit.int .i64 x.Step).wf = true) /\ ((Lit.int .i64 x.Width).wf = true) /\ ((Lit.int .i64 x.Height).wf = true) /\ (x.Z.length <= maxLen /\ ∀ a ∈ x.Z, (Lit.int .i64 a).wf = true) /\ True
theorem op3 {b : Bool} : ig enc Tryz.prog W b 3 1 (iC .i64) (fun n => (Lit.int .i64 n).wf = true) := ig.int (by kernel_rfl) (by kernel_rfl)
theorem I5 {b : Bool} : ig enc Tryz.prog W b 22 1 (fun l : List Int => [slT (iC .i64) l]) (fun l => l.length <= maxLen /\ ∀ a ∈ l, (Lit.int .i64 a).wf = true) := ig.slice (c := (iC .i64)) (by kernel_rfl) (by kernel_rfl) op3
theorem IB {b : Bool} : ig enc Tryz.prog W b 24 6 (fun x : ak => [.at (.int .i64 x.X0), .at (.int .i64 x.Y0), .at (.int .i64 x.Step), .at (.int .i64 x.Width), .at (.int .i64 x.Height), slT (iC .i64) x.Z]) (fun x => ak.wf x) := (ig.struct (l := [(3, 0), (3, 1), (3, 2), (3, 3), (3, 4), (22, 5)]) (by kernel_rfl) (by kernel_rfl) (lG.cons op3 (lG.cons op3 (lG.cons op3 (lG.cons op3 (lG.cons op3 (lG.cons I5 lG.nil))))))).map (fun p => (⟨p.1, p.2.1, p.2.2.1, p.2.2.2.1, p.2.2.2.2.1, p.2.2.2.2.2.1⟩ : ak)) (fun _ => rfl) (fun _ h => h)
theorem G9 : Arg enc Tryz.prog W 24 (fun x : ak => (.agg [.at (.int .i64 x.X0), .at (.int .i64 x.Y0), .at (.int .i64 x.Step), .at (.int .i64 x.Width), .at (.int .i64 x.Height), slT (iC .i64) x.Z] : AV)) (fun x => ak.wf x) := ig.agg IB (by kernel_rfl)
theorem IH {b : Bool} : ig enc Tryz.prog W b 25 1 (iC .i16) (fun n => (Lit.int .i16 n).wf = true) := ig.int (by kernel_rfl) (by kernel_rfl)
theorem Hr : Arg enc Tryz.prog W 25 (fun x : Int => (.at (.int .i16 x) : AV)) (fun x => (Lit.int .i16 x).wf = true) := ig.one IH (by kernel_rfl)
end

theorem own : ownKnob Tryz.prog.godebug = none := by kernel_rfl
theorem laidOut : laidOutB Tryz.prog = true := by kernel_rfl
theorem yR {w w' : World} {mu mu' : Nat -> Prop} (h : Ext (Lo w.heap.size) w w' mu mu' [] []) : RowKit.Below w.heap.size w w' := ⟨h.os, h.tape, h.output, h.size, h.low⟩

theorem B4 (g : ak) (base : Int) (w0 : ak.wf g) (w1 : (Lit.int .i16 base).wf = true) : eC 20000 g base = some true := Ay g base (D1 w1)

theorem CZ (os : Os) (started : os.Started) (H : Type) (enc : TypeId × Value -> H) :
  ReturnsInHanded {} Tryz.checked os 3 .any (Rows.topMeshGridSpec.pre6 enc Tryz.prog Tryz.f3 Rows.topMeshGridRow.domain false) (Rows.topMeshGridSpec.post enc Tryz.prog Tryz.f3 false true false false) := by
 refine returnsInHanded_of_change (C := Tryz.checked) own started (by kernel_rfl) Tryz.func3
  (ChangeSpec.witness6 (enc := enc) (C := Tryz.checked) false ⟨#[], #[.agg #[.int .i64 0, .int .i64 0, .int .i64 0, .int .i64 0, .int .i64 0, .slice none 0 0], .int .i16 0], []⟩ 8 (by kernel_rfl) (by kernel_rfl) (by kernel_rfl) (by kernel_rfl)) ?_
 intro W base args ds gs before hval0 hW hcnd _
 have hval : ∀ (j : Nat) t v, Tryz.f3.params[j]? = some t -> args[j]? = some v -> Value.okWide Tryz.prog W .any base t v := hval0
 have hW' := hW
 obtain ⟨p, q, hA0, hV, rfl, hfz, hnd⟩ := hW
 have hA : DataW.TrodAll enc Tryz.prog W 0 (fun _ => true) true Tryz.f3.params.toList args.toList ds p := hA0
 rw [Tryz.params3] at hA hval
 obtain ⟨v0, v1, d0, d1, p0, p1, rfl, rfl, rfl, h0, h1⟩ := trodAll_two hA
 obtain ⟨rfl, rfl⟩ := trodVars_none hV
 clear hA0 hval0
 simp only [List.append_nil] at hW'
 have hlt : ∀ x ∈ p0 ++ p1, x.block < W.heap.size := fun x hx => by simpa using hW'.lt x hx
 obtain ⟨a0, wa0, hb0⟩ := G9 base v0 d0 _ (hval 0 24 v0 rfl rfl) h0
 obtain ⟨a1, wa1, hb1⟩ := Hr base v1 d1 _ (hval 1 25 v1 rfl rfl) h1
 refine (nW 20000 a0 a1 true (B4 a0 a1 wa0 wa1) si W [v0, v1] (fun _ h => h.elim) ⟨v0, _, rfl, hb0, v1, _, rfl, hb1, rfl⟩).mono fun e W' hr => ?_
 obtain ⟨u, rfl, hE, hu⟩ := hr
 obtain rfl : u = .bool true := hu
 have hB := yR hE
 refine ⟨_, rfl, _, _, _, [], p0 ++ (p1), [], hW', ?_, ?_, rfl, hB.frame _, fun h => by cases h⟩
 · exact trodAll_mk1 (shut_bool (by kernel_rfl) true)
 · exact trodAll_mk2 (Below.trod laidOut (by kernel_rfl) (dcT (by kernel_rfl)) h0 hB (fun x hx => hlt x (by simp [hx]))) (Below.trod laidOut (by kernel_rfl) (dcT (by kernel_rfl)) h1 hB (fun x hx => hlt x (by simp [hx])))

theorem topMeshGrid_holds : Rows.TopMeshGridSaid :=
 OpenClaim.holds_of_wide 3 Tryz.f3 rfl rfl rfl rfl rfl rfl rfl ⟨rfl, rfl, rfl, rfl, rfl⟩ rfl rfl rfl rfl rfl (by kernel_rfl) Tryz.func3 (by kernel_rfl)
  (dcT (by kernel_rfl)) (by unfold Func.isWrapper; first | (rw [if_pos (by decide +kernel)]; kernel_rfl) | (rw [if_neg (by decide +kernel)]; exact ⟨rfl, rfl⟩))
  (fun os started H enc _ => CZ os started H enc)
end Go.Proofs.YtglimpjlhfjgdaaGreat
