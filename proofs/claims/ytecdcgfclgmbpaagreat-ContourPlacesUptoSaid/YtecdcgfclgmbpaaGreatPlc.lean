
import Derived.Test.YtecdcgfclgmbpaaGreatRows
import Derived.ProofKit
import Derived.JoinedCond
import Derived.OpenShut
import Derived.Test.YtecdcgfclgmbpaaGreatPlcLP4
import Derived.Test.YtecdcgfclgmbpaaGreatPlcL51q
import Derived.Test.YtecdcgfclgmbpaaGreatRow2Plcs
set_option linter.all false
set_option maxRecDepth 100000
namespace Go.Proofs.YtecdcgfclgmbpaaGreat
open Go.ChangeShapes Go.WideShapes Go.ChangeAt Go.RowKit
open Go Go.Proofs Go.Eng Go.L

theorem jZ {H : Type} : xB (Rows.uptoBulk (H := H)) (Rows.uptoBulkAll (H := H)) := ⟨by simp [Rows.uptoBulkAll], fun d r => by simp [Rows.uptoBulkAll], fun d => by cases d with | lit l => cases l <;> simp [Rows.uptoBulk] | _ => simp [Rows.uptoBulk], fun es sp => by simp [Rows.uptoBulk], fun ps => by simp [Rows.uptoBulk]⟩
section
variable {H : Type} {enc : TypeId × Value -> H} {W : World}
def an.wf (x : an) : Prop := ((Lit.int .i64 x.X0).wf = true) /\ ((Lit.int .i64 x.Y0).wf = true) /\ ((Lit.int .i64 x.Step).wf = true) /\ ((Lit.int .i64 x.Width).wf = true) /\ ((Lit.int .i64 x.Height).wf = true) /\ (x.Z.length <= maxLen /\ ∀ a ∈ x.Z, (Lit.int .i64 a).wf = true) /\ True
def ai.wf (x : ai) : Prop := (True) /\ (x.Groups.length <= maxLen /\ ∀ a ∈ x.Groups, (Lit.int .u32 a).wf = true) /\ True
def ak.wf (x : ak) : Prop := (ai.wf x.Num) /\ (ai.wf x.Den) /\ True
def al.wf (x : al) : Prop := ((Lit.int .i64 x.A).wf = true) /\ ((Lit.int .i64 x.B).wf = true) /\ (ak.wf x.At) /\ True
theorem op3 {b : Bool} : di (Rows.uptoBulk (H := H)) enc Tryz.prog W b 3 1 (iC .i64) (fun n => (Lit.int .i64 n).wf = true) (fun x : Int => 1) := di.int jZ (by kernel_rfl) (by kernel_rfl)
theorem CB {b : Bool} : di (Rows.uptoBulk (H := H)) enc Tryz.prog W b 22 1 (fun l : List Int => [slT (iC .i64) l]) (fun l => l.length <= maxLen /\ ∀ a ∈ l, (Lit.int .i64 a).wf = true) (fun x : List Int => ((x.map fun z => 1).sum + 1)) := di.slice jZ (c := (iC .i64)) (by kernel_rfl) (by kernel_rfl) op3
theorem CA {b : Bool} : di (Rows.uptoBulk (H := H)) enc Tryz.prog W b 24 6 (fun x : an => [.at (.int .i64 x.X0), .at (.int .i64 x.Y0), .at (.int .i64 x.Step), .at (.int .i64 x.Width), .at (.int .i64 x.Height), slT (iC .i64) x.Z]) (fun x => an.wf x) (fun x : an => (1 + (1 + (1 + (1 + (1 + (((x.Z.map fun z => 1).sum + 1) + 0))))))) := (di.struct jZ (l := [(3, 0), (3, 1), (3, 2), (3, 3), (3, 4), (22, 5)]) (by kernel_rfl) (by kernel_rfl) (eV.cons jZ op3 (eV.cons jZ op3 (eV.cons jZ op3 (eV.cons jZ op3 (eV.cons jZ op3 (eV.cons jZ CB eV.nil))))))).map (fun p => (⟨p.1, p.2.1, p.2.2.1, p.2.2.2.1, p.2.2.2.2.1, p.2.2.2.2.2.1⟩ : an)) (fun _ => rfl) (fun _ h => h) (fun _ => rfl)
theorem Ck : A0 (Rows.uptoBulk (H := H)) enc Tryz.prog W 24 (fun x : an => (.agg [.at (.int .i64 x.X0), .at (.int .i64 x.Y0), .at (.int .i64 x.Step), .at (.int .i64 x.Width), .at (.int .i64 x.Height), slT (iC .i64) x.Z] : AV)) (fun x => an.wf x) (fun x : an => (1 + (1 + (1 + (1 + (1 + (((x.Z.map fun z => 1).sum + 1) + 0))))))) := di.agg CA (by kernel_rfl)
theorem B6 {b : Bool} : di (Rows.uptoBulk (H := H)) enc Tryz.prog W b 152 1 (iC .u32) (fun n => (Lit.int .u32 n).wf = true) (fun x : Int => 1) := di.int jZ (by kernel_rfl) (by kernel_rfl)
theorem Cz {b : Bool} : di (Rows.uptoBulk (H := H)) enc Tryz.prog W b 38 1 (fun l : List Int => [slT (iC .u32) l]) (fun l => l.length <= maxLen /\ ∀ a ∈ l, (Lit.int .u32 a).wf = true) (fun x : List Int => ((x.map fun z => 1).sum + 1)) := di.slice jZ (c := (iC .u32)) (by kernel_rfl) (by kernel_rfl) B6
theorem op4 {b : Bool} : di (Rows.uptoBulk (H := H)) enc Tryz.prog W b 4 1 bC (fun _ => True) (fun x : Bool => 1) := di.bool jZ (by kernel_rfl) (by kernel_rfl)
theorem BZ {b : Bool} : di (Rows.uptoBulk (H := H)) enc Tryz.prog W b 40 2 (fun x : ai => [.at (.bool x.Negative), slT (iC .u32) x.Groups]) (fun x => ai.wf x) (fun x : ai => (1 + (((x.Groups.map fun z => 1).sum + 1) + 0))) := (di.struct jZ (l := [(4, 0), (38, 1)]) (by kernel_rfl) (by kernel_rfl) (eV.cons jZ op4 (eV.cons jZ Cz eV.nil))).map (fun p => (⟨p.1, p.2.1⟩ : ai)) (fun _ => rfl) (fun _ h => h) (fun _ => rfl)
theorem CK {b : Bool} : di (Rows.uptoBulk (H := H)) enc Tryz.prog W b 42 4 (fun x : ak => [.at (.bool x.Num.Negative), slT (iC .u32) x.Num.Groups, .at (.bool x.Den.Negative), slT (iC .u32) x.Den.Groups]) (fun x => ak.wf x) (fun x : ak => ((1 + (((x.Num.Groups.map fun z => 1).sum + 1) + 0)) + ((1 + (((x.Den.Groups.map fun z => 1).sum + 1) + 0)) + 0))) := (di.struct jZ (l := [(40, 0), (40, 2)]) (by kernel_rfl) (by kernel_rfl) (eV.cons jZ BZ (eV.cons jZ BZ eV.nil))).map (fun p => (⟨p.1, p.2.1⟩ : ak)) (fun _ => rfl) (fun _ h => h) (fun _ => rfl)
theorem CD {b : Bool} : di (Rows.uptoBulk (H := H)) enc Tryz.prog W b 44 6 al.c (fun x => al.wf x) (fun x : al => (1 + (1 + (((1 + (((x.At.Num.Groups.map fun z => 1).sum + 1) + 0)) + ((1 + (((x.At.Den.Groups.map fun z => 1).sum + 1) + 0)) + 0)) + 0)))) := (di.struct jZ (l := [(3, 0), (3, 1), (42, 2)]) (by kernel_rfl) (by kernel_rfl) (eV.cons jZ op3 (eV.cons jZ op3 (eV.cons jZ CK eV.nil)))).map (fun p => (⟨p.1, p.2.1, p.2.2.1⟩ : al)) (fun _ => rfl) (fun _ h => h) (fun _ => rfl)
theorem Cf : A0 (Rows.uptoBulk (H := H)) enc Tryz.prog W 44 (fun x : al => (.agg [.at (.int .i64 x.A), .at (.int .i64 x.B), .at (.bool x.At.Num.Negative), slT (iC .u32) x.At.Num.Groups, .at (.bool x.At.Den.Negative), slT (iC .u32) x.At.Den.Groups] : AV)) (fun x => al.wf x) (fun x : al => (1 + (1 + (((1 + (((x.At.Num.Groups.map fun z => 1).sum + 1) + 0)) + ((1 + (((x.At.Den.Groups.map fun z => 1).sum + 1) + 0)) + 0)) + 0)))) := di.agg CD (by kernel_rfl)
end

theorem own : ownKnob Tryz.prog.godebug = none := by kernel_rfl
theorem laidOut : laidOutB Tryz.prog = true := by kernel_rfl
theorem wv {w w' : World} {mu mu' : Nat -> Prop} (h : Ext (Lo w.heap.size) w w' mu mu' [] []) : RowKit.Below w.heap.size w w' := ⟨h.os, h.tape, h.output, h.size, h.low⟩

theorem za (g : an) (c : al) (w0 : an.wf g) (w1 : al.wf c) (z0 : (1 + (1 + (1 + (1 + (1 + (((g.Z.map fun z => 1).sum + 1) + 0)))))) <= 1048576) (z1 : (1 + (1 + (((1 + (((c.At.Num.Groups.map fun z => 1).sum + 1) + 0)) + ((1 + (((c.At.Den.Groups.map fun z => 1).sum + 1) + 0)) + 0)) + 0))) <= 1048576) : dF 20000 g c = some true := Ah g c ⟨fun a ha => (Ae (w1.2.2.1.1.2.1.2 a ha)).1, fun a ha => (Ae (w1.2.2.1.2.1.2.1.2 a ha)).1⟩ z1

theorem xT (H : Type) (enc : TypeId × Value -> H) (W : World) (base : Nat) (args : Array Value) (ds gs : List (DataW H)) (before : List MemPlace)
  (hval0 : ∀ (j : Nat) t v, Tryz.f8.params[j]? = some t -> args[j]? = some v -> Value.okWide Tryz.prog W .any base t v)
  (hW : DataW.Whole enc Tryz.prog Tryz.f8.params.toList Rows.contourPlacesSpec.vars false W args.toList ds gs before) (hk : Rows.uptoSmall H (ds ++ gs) = true) :
  Calls Tryz.prog 8 args W fun e W' => ∃ v, e = .returned v /\ Rows.contourPlacesSpec.post enc Tryz.prog Tryz.f8 false true false false W args v W' := by
 have hval : ∀ (j : Nat) t v, Tryz.f8.params[j]? = some t -> args[j]? = some v -> Value.okWide Tryz.prog W .any base t v := hval0
 have hW' := hW
 obtain ⟨p, q, hA0, hV, rfl, hfz, hnd⟩ := hW
 have hA : DataW.TrodAll enc Tryz.prog W 0 (fun _ => true) true Tryz.f8.params.toList args.toList ds p := hA0
 rw [Tryz.params8] at hA hval
 obtain ⟨v0, v1, d0, d1, p0, p1, rfl, rfl, rfl, h0, h1⟩ := trodAll_two hA
 obtain ⟨rfl, rfl⟩ := trodVars_none hV
 clear hA0 hval0
 simp only [List.append_nil] at hW' hk
 have hbk : Rows.uptoBulkAll [d0, d1] <= 1048576 := dcT hk
 simp only [Rows.uptoBulkAll] at hbk
 have hlt : ∀ x ∈ p0 ++ p1, x.block < W.heap.size := fun x hx => by simpa using hW'.lt x hx
 obtain ⟨a0, wa0, sa0, hb0⟩ := Ck base v0 d0 _ (hval 0 24 v0 rfl rfl) h0
 obtain ⟨a1, wa1, sa1, hb1⟩ := Cf base v1 d1 _ (hval 1 44 v1 rfl rfl) h1
 refine (lF 20000 a0 a1 true (za a0 a1 wa0 wa1 (Nat.le_trans sa0 (by omega)) (Nat.le_trans sa1 (by omega))) kA W [v0, v1] (fun _ h => h.elim) ⟨v0, _, rfl, hb0, v1, _, rfl, hb1, rfl⟩).mono fun e W' hr => ?_
 obtain ⟨u, rfl, hE, hu⟩ := hr
 obtain rfl : u = .bool true := hu
 have hB := wv hE
 refine ⟨_, rfl, _, _, _, [], p0 ++ (p1), [], hW', ?_, ?_, rfl, hB.frame _, fun h => by cases h⟩
 · exact trodAll_mk1 (shut_bool (by kernel_rfl) true)
 · exact trodAll_mk2 (Below.trod laidOut (by kernel_rfl) (dcT (by kernel_rfl)) h0 hB (fun x hx => hlt x (by simp [hx]))) (Below.trod laidOut (by kernel_rfl) (dcT (by kernel_rfl)) h1 hB (fun x hx => hlt x (by simp [hx])))

theorem An (os : Os) (started : os.Started) (H : Type) (enc : TypeId × Value -> H) (F : Stop.Interp) :
  ReturnsInHanded {} Tryz.checked os 8 .any ((Rows.OpenSpec.upto Rows.contourPlacesSpec).pre6 enc Tryz.prog Tryz.f8 Rows.contourPlacesUptoRow.domain false) (((Rows.OpenSpec.upto Rows.contourPlacesSpec).at F).post enc Tryz.prog Tryz.f8 false true false false) := by
 refine returnsInHanded_of_cond (C := Tryz.checked) (s := Rows.OpenSpec.upto Rows.contourPlacesSpec) (k := Rows.uptoSmall) rfl own started (by kernel_rfl) Tryz.func8
  (OpenSpec.witness (enc := enc) (C := Tryz.checked) (s := Rows.OpenSpec.upto Rows.contourPlacesSpec) (k := Rows.uptoSmall) rfl false ⟨#[], #[.agg #[.int .i64 0, .int .i64 0, .int .i64 0, .int .i64 0, .int .i64 0, .slice none 0 0], .agg #[.int .i64 0, .int .i64 0, .bool false, .slice none 0 0, .bool false, .slice none 0 0]], []⟩ 8 (by kernel_rfl) (by kernel_rfl) (by kernel_rfl)
   (x := ([.agg [.lit (.int .i64 0), .lit (.int .i64 0), .lit (.int .i64 0), .lit (.int .i64 0), .lit (.int .i64 0), .nil], .agg [.lit (.int .i64 0), .lit (.int .i64 0), .agg [.agg [.lit (.bool false), .nil], .agg [.lit (.bool false), .nil]]]], [], [])) (by kernel_rfl) rfl (by kernel_rfl)) ?_
 intro W base args ds gs before hval hW _ hk _
 exact xT H enc W base args ds gs before hval hW hk

theorem contourPlacesUpto_holds : Rows.ContourPlacesUptoSaid :=
 OpenClaim.holds_of_cond 8 Tryz.f8 rfl rfl rfl rfl rfl rfl rfl ⟨rfl, rfl, rfl, rfl, rfl⟩ rfl rfl rfl rfl rfl (by kernel_rfl) Tryz.func8 (by kernel_rfl)
  (dcT (by kernel_rfl)) (by unfold Func.isWrapper; first | (rw [if_pos (by decide +kernel)]; kernel_rfl) | (rw [if_neg (by decide +kernel)]; exact ⟨rfl, rfl⟩))
  (fun os started H enc _ F => An os started H enc F)
end Go.Proofs.YtecdcgfclgmbpaaGreat
