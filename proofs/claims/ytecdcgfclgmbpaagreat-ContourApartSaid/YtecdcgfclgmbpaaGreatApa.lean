
import Derived.Test.YtecdcgfclgmbpaaGreatRows
import Derived.ProofKit
import Derived.Test.YtecdcgfclgmbpaaGreatApaLP3
import Derived.Test.YtecdcgfclgmbpaaGreatApaL51au
import Derived.Test.YtecdcgfclgmbpaaGreatRow1Apas
set_option linter.all false
set_option maxRecDepth 100000
namespace Go.Proofs.YtecdcgfclgmbpaaGreat
open Go.ChangeShapes Go.WideShapes Go.ChangeAt Go.RowKit
open Go Go.Proofs Go.Eng Go.L

section
variable {H : Type} {enc : TypeId × Value -> H} {W : World}
def al.wf (x : al) : Prop := ((Lit.int .i64 x.X0).wf = true) /\ ((Lit.int .i64 x.Y0).wf = true) /\ ((Lit.int .i64 x.Step).wf = true) /\ ((Lit.int .i64 x.Width).wf = true) /\ ((Lit.int .i64 x.Height).wf = true) /\ (x.Z.length <= maxLen /\ ∀ a ∈ x.Z, (Lit.int .i64 a).wf = true) /\ True
theorem op3 {b : Bool} : fW enc Tryz.prog W b 3 1 (iC .i64) (fun n => (Lit.int .i64 n).wf = true) := fW.int (by kernel_rfl) (by kernel_rfl)
theorem Ig {b : Bool} : fW enc Tryz.prog W b 22 1 (fun l : List Int => [slT (iC .i64) l]) (fun l => l.length <= maxLen /\ ∀ a ∈ l, (Lit.int .i64 a).wf = true) := fW.slice (c := (iC .i64)) (by kernel_rfl) (by kernel_rfl) op3
theorem HY {b : Bool} : fW enc Tryz.prog W b 24 6 (fun x : al => [.at (.int .i64 x.X0), .at (.int .i64 x.Y0), .at (.int .i64 x.Step), .at (.int .i64 x.Width), .at (.int .i64 x.Height), slT (iC .i64) x.Z]) (fun x => al.wf x) := (fW.struct (l := [(3, 0), (3, 1), (3, 2), (3, 3), (3, 4), (22, 5)]) (by kernel_rfl) (by kernel_rfl) (iL.cons op3 (iL.cons op3 (iL.cons op3 (iL.cons op3 (iL.cons op3 (iL.cons Ig iL.nil))))))).map (fun p => (⟨p.1, p.2.1, p.2.2.1, p.2.2.2.1, p.2.2.2.2.1, p.2.2.2.2.2.1⟩ : al)) (fun _ => rfl) (fun _ h => h)
theorem G5 : Arg enc Tryz.prog W 24 (fun x : al => (.agg [.at (.int .i64 x.X0), .at (.int .i64 x.Y0), .at (.int .i64 x.Step), .at (.int .i64 x.Width), .at (.int .i64 x.Height), slT (iC .i64) x.Z] : AV)) (fun x => al.wf x) := fW.agg HY (by kernel_rfl)
theorem H6 {b : Bool} : fW enc Tryz.prog W b 49 2 (fun x : A2 Int => [.at (.int .i64 x.e0), .at (.int .i64 x.e1)]) (fun x => ((Lit.int .i64 x.e0).wf = true) /\ ((Lit.int .i64 x.e1).wf = true) /\ True) := (fW.array (m := 2) (e := 3) (k := 1) (by kernel_rfl) (by kernel_rfl) (by kernel_rfl) (show iL _ _ _ _ (((List.range 2).map fun i => (3, i * 1)) : List (TypeId × Nat)) 0 _ _ _ from (iL.cons op3 (iL.cons op3 iL.nil)))).map (fun p => (⟨p.1, p.2.1⟩ : A2 Int)) (fun _ => rfl) (fun _ h => h)
theorem Hx : Arg enc Tryz.prog W 49 (fun x : A2 Int => (.agg [.at (.int .i64 x.e0), .at (.int .i64 x.e1)] : AV)) (fun x => ((Lit.int .i64 x.e0).wf = true) /\ ((Lit.int .i64 x.e1).wf = true) /\ True) := fW.agg H6 (by kernel_rfl)
end

theorem own : ownKnob Tryz.prog.godebug = none := by kernel_rfl
theorem laidOut : laidOutB Tryz.prog = true := by kernel_rfl
theorem yC {w w' : World} {mu mu' : Nat -> Prop} (h : Ext (Lo w.heap.size) w w' mu mu' [] []) : RowKit.Below w.heap.size w w' := ⟨h.os, h.tape, h.output, h.size, h.low⟩

theorem C0 (g : al) (levels : A2 Int) (w0 : al.wf g) (w1 : ((Lit.int .i64 levels.e0).wf = true) /\ ((Lit.int .i64 levels.e1).wf = true) /\ True) : df 20000 g levels = some true := C3 g levels

theorem Dk (os : Os) (started : os.Started) (H : Type) (enc : TypeId × Value -> H) :
  ReturnsInHanded {} Tryz.checked os 7 .any (Rows.contourApartSpec.pre6 enc Tryz.prog Tryz.f7 Rows.contourApartRow.domain false) (Rows.contourApartSpec.post enc Tryz.prog Tryz.f7 false true false false) := by
 refine returnsInHanded_of_change (C := Tryz.checked) own started (by kernel_rfl) Tryz.func7
  (ChangeSpec.witness6 (enc := enc) (C := Tryz.checked) false ⟨#[], #[.agg #[.int .i64 0, .int .i64 0, .int .i64 0, .int .i64 0, .int .i64 0, .slice none 0 0], .agg #[.int .i64 0, .int .i64 0]], []⟩ 8 (by kernel_rfl) (by kernel_rfl) (by kernel_rfl) (by kernel_rfl)) ?_
 intro W base args ds gs before hval0 hW hcnd _
 have hval : ∀ (j : Nat) t v, Tryz.f7.params[j]? = some t -> args[j]? = some v -> Value.okWide Tryz.prog W .any base t v := hval0
 have hW' := hW
 obtain ⟨p, q, hA0, hV, rfl, hfz, hnd⟩ := hW
 have hA : DataW.TrodAll enc Tryz.prog W 0 (fun _ => true) true Tryz.f7.params.toList args.toList ds p := hA0
 rw [Tryz.params7] at hA hval
 obtain ⟨v0, v1, d0, d1, p0, p1, rfl, rfl, rfl, h0, h1⟩ := trodAll_two hA
 obtain ⟨rfl, rfl⟩ := trodVars_none hV
 clear hA0 hval0
 simp only [List.append_nil] at hW'
 have hlt : ∀ x ∈ p0 ++ p1, x.block < W.heap.size := fun x hx => by simpa using hW'.lt x hx
 obtain ⟨a0, wa0, hb0⟩ := G5 base v0 d0 _ (hval 0 24 v0 rfl rfl) h0
 obtain ⟨a1, wa1, hb1⟩ := Hx base v1 d1 _ (hval 1 49 v1 rfl rfl) h1
 refine (lM 20000 a0 a1 true (C0 a0 a1 wa0 wa1) qZ W [v0, v1] (fun _ h => h.elim) ⟨v0, _, rfl, hb0, v1, _, rfl, hb1, rfl⟩).mono fun e W' hr => ?_
 obtain ⟨u, rfl, hE, hu⟩ := hr
 obtain rfl : u = .bool true := hu
 have hB := yC hE
 refine ⟨_, rfl, _, _, _, [], p0 ++ (p1), [], hW', ?_, ?_, rfl, hB.frame _, fun h => by cases h⟩
 · exact trodAll_mk1 (shut_bool (by kernel_rfl) true)
 · exact trodAll_mk2 (Below.trod laidOut (by kernel_rfl) (dcT (by kernel_rfl)) h0 hB (fun x hx => hlt x (by simp [hx]))) (Below.trod laidOut (by kernel_rfl) (dcT (by kernel_rfl)) h1 hB (fun x hx => hlt x (by simp [hx])))

theorem contourApart_holds : Rows.ContourApartSaid :=
 OpenClaim.holds_of_wide 7 Tryz.f7 rfl rfl rfl rfl rfl rfl rfl ⟨rfl, rfl, rfl, rfl, rfl⟩ rfl rfl rfl rfl rfl (by kernel_rfl) Tryz.func7 (by kernel_rfl)
  (dcT (by kernel_rfl)) (by unfold Func.isWrapper; first | (rw [if_pos (by decide +kernel)]; kernel_rfl) | (rw [if_neg (by decide +kernel)]; exact ⟨rfl, rfl⟩))
  (fun os started H enc _ => Dk os started H enc)
end Go.Proofs.YtecdcgfclgmbpaaGreat
