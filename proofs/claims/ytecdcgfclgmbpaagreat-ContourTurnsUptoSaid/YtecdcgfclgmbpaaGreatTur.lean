
import Derived.Test.YtecdcgfclgmbpaaGreatRows
import Derived.ProofKit
import Derived.JoinedCond
import Derived.OpenShut
import Derived.Test.YtecdcgfclgmbpaaGreatTurLP4
import Derived.Test.YtecdcgfclgmbpaaGreatTurL51T
import Derived.Test.YtecdcgfclgmbpaaGreatRow2Turs
set_option linter.all false
set_option maxRecDepth 100000
namespace Go.Proofs.YtecdcgfclgmbpaaGreat
open Go.ChangeShapes Go.WideShapes Go.ChangeAt Go.RowKit
open Go Go.Proofs Go.Eng Go.L

theorem gQ {H : Type} : xO (Rows.uptoBulk (H := H)) (Rows.uptoBulkAll (H := H)) := ⟨by simp [Rows.uptoBulkAll], fun d r => by simp [Rows.uptoBulkAll], fun d => by cases d with | lit l => cases l <;> simp [Rows.uptoBulk] | _ => simp [Rows.uptoBulk], fun es sp => by simp [Rows.uptoBulk], fun ps => by simp [Rows.uptoBulk]⟩
section
variable {H : Type} {enc : TypeId × Value -> H} {W : World}
def ar.wf (x : ar) : Prop := ((Lit.int .i64 x.X0).wf = true) /\ ((Lit.int .i64 x.Y0).wf = true) /\ ((Lit.int .i64 x.Step).wf = true) /\ ((Lit.int .i64 x.Width).wf = true) /\ ((Lit.int .i64 x.Height).wf = true) /\ (x.Z.length <= maxLen /\ ∀ a ∈ x.Z, (Lit.int .i64 a).wf = true) /\ True
def ai.wf (x : ai) : Prop := (True) /\ (x.Groups.length <= maxLen /\ ∀ a ∈ x.Groups, (Lit.int .u32 a).wf = true) /\ True
def ak.wf (x : ak) : Prop := (ai.wf x.Num) /\ (ai.wf x.Den) /\ True
def al.wf (x : al) : Prop := ((Lit.int .i64 x.A).wf = true) /\ ((Lit.int .i64 x.B).wf = true) /\ (ak.wf x.At) /\ True
def ae.wf (x : ae) : Prop := (True) /\ (x.Points.length <= maxLen /\ ∀ a ∈ x.Points, al.wf a) /\ True
theorem op3 {b : Bool} : cD (Rows.uptoBulk (H := H)) enc Tryz.prog W b 3 1 (iC .i64) (fun n => (Lit.int .i64 n).wf = true) (fun x : Int => 1) := cD.int gQ (by kernel_rfl) (by kernel_rfl)
theorem Ep {b : Bool} : cD (Rows.uptoBulk (H := H)) enc Tryz.prog W b 22 1 (fun l : List Int => [slT (iC .i64) l]) (fun l => l.length <= maxLen /\ ∀ a ∈ l, (Lit.int .i64 a).wf = true) (fun x : List Int => ((x.map fun z => 1).sum + 1)) := cD.slice gQ (c := (iC .i64)) (by kernel_rfl) (by kernel_rfl) op3
theorem Et {b : Bool} : cD (Rows.uptoBulk (H := H)) enc Tryz.prog W b 24 6 (fun x : ar => [.at (.int .i64 x.X0), .at (.int .i64 x.Y0), .at (.int .i64 x.Step), .at (.int .i64 x.Width), .at (.int .i64 x.Height), slT (iC .i64) x.Z]) (fun x => ar.wf x) (fun x : ar => (1 + (1 + (1 + (1 + (1 + (((x.Z.map fun z => 1).sum + 1) + 0))))))) := (cD.struct gQ (l := [(3, 0), (3, 1), (3, 2), (3, 3), (3, 4), (22, 5)]) (by kernel_rfl) (by kernel_rfl) (c9.cons gQ op3 (c9.cons gQ op3 (c9.cons gQ op3 (c9.cons gQ op3 (c9.cons gQ op3 (c9.cons gQ Ep c9.nil))))))).map (fun p => (⟨p.1, p.2.1, p.2.2.1, p.2.2.2.1, p.2.2.2.2.1, p.2.2.2.2.2.1⟩ : ar)) (fun _ => rfl) (fun _ h => h) (fun _ => rfl)
theorem DL : AB (Rows.uptoBulk (H := H)) enc Tryz.prog W 24 (fun x : ar => (.agg [.at (.int .i64 x.X0), .at (.int .i64 x.Y0), .at (.int .i64 x.Step), .at (.int .i64 x.Width), .at (.int .i64 x.Height), slT (iC .i64) x.Z] : AV)) (fun x => ar.wf x) (fun x : ar => (1 + (1 + (1 + (1 + (1 + (((x.Z.map fun z => 1).sum + 1) + 0))))))) := cD.agg Et (by kernel_rfl)
theorem DY {b : Bool} : cD (Rows.uptoBulk (H := H)) enc Tryz.prog W b 152 1 (iC .u32) (fun n => (Lit.int .u32 n).wf = true) (fun x : Int => 1) := cD.int gQ (by kernel_rfl) (by kernel_rfl)
theorem En {b : Bool} : cD (Rows.uptoBulk (H := H)) enc Tryz.prog W b 38 1 (fun l : List Int => [slT (iC .u32) l]) (fun l => l.length <= maxLen /\ ∀ a ∈ l, (Lit.int .u32 a).wf = true) (fun x : List Int => ((x.map fun z => 1).sum + 1)) := cD.slice gQ (c := (iC .u32)) (by kernel_rfl) (by kernel_rfl) DY
theorem op4 {b : Bool} : cD (Rows.uptoBulk (H := H)) enc Tryz.prog W b 4 1 bC (fun _ => True) (fun x : Bool => 1) := cD.bool gQ (by kernel_rfl) (by kernel_rfl)
theorem D6 {b : Bool} : cD (Rows.uptoBulk (H := H)) enc Tryz.prog W b 40 2 (fun x : ai => [.at (.bool x.Negative), slT (iC .u32) x.Groups]) (fun x => ai.wf x) (fun x : ai => (1 + (((x.Groups.map fun z => 1).sum + 1) + 0))) := (cD.struct gQ (l := [(4, 0), (38, 1)]) (by kernel_rfl) (by kernel_rfl) (c9.cons gQ op4 (c9.cons gQ En c9.nil))).map (fun p => (⟨p.1, p.2.1⟩ : ai)) (fun _ => rfl) (fun _ h => h) (fun _ => rfl)
theorem Ew {b : Bool} : cD (Rows.uptoBulk (H := H)) enc Tryz.prog W b 42 4 (fun x : ak => [.at (.bool x.Num.Negative), slT (iC .u32) x.Num.Groups, .at (.bool x.Den.Negative), slT (iC .u32) x.Den.Groups]) (fun x => ak.wf x) (fun x : ak => ((1 + (((x.Num.Groups.map fun z => 1).sum + 1) + 0)) + ((1 + (((x.Den.Groups.map fun z => 1).sum + 1) + 0)) + 0))) := (cD.struct gQ (l := [(40, 0), (40, 2)]) (by kernel_rfl) (by kernel_rfl) (c9.cons gQ D6 (c9.cons gQ D6 c9.nil))).map (fun p => (⟨p.1, p.2.1⟩ : ak)) (fun _ => rfl) (fun _ h => h) (fun _ => rfl)
theorem Ey {b : Bool} : cD (Rows.uptoBulk (H := H)) enc Tryz.prog W b 44 6 al.c (fun x => al.wf x) (fun x : al => (1 + (1 + (((1 + (((x.At.Num.Groups.map fun z => 1).sum + 1) + 0)) + ((1 + (((x.At.Den.Groups.map fun z => 1).sum + 1) + 0)) + 0)) + 0)))) := (cD.struct gQ (l := [(3, 0), (3, 1), (42, 2)]) (by kernel_rfl) (by kernel_rfl) (c9.cons gQ op3 (c9.cons gQ op3 (c9.cons gQ Ew c9.nil)))).map (fun p => (⟨p.1, p.2.1, p.2.2.1⟩ : al)) (fun _ => rfl) (fun _ h => h) (fun _ => rfl)
theorem Es {b : Bool} : cD (Rows.uptoBulk (H := H)) enc Tryz.prog W b 33 1 (fun l : List al => [slT al.c l]) (fun l => l.length <= maxLen /\ ∀ a ∈ l, al.wf a) (fun x : List al => ((x.map fun z => (1 + (1 + (((1 + (((z.At.Num.Groups.map fun z => 1).sum + 1) + 0)) + ((1 + (((z.At.Den.Groups.map fun z => 1).sum + 1) + 0)) + 0)) + 0)))).sum + 1)) := cD.slice gQ (c := al.c) (by kernel_rfl) (by kernel_rfl) Ey
theorem Ev {b : Bool} : cD (Rows.uptoBulk (H := H)) enc Tryz.prog W b 35 2 ae.c (fun x => ae.wf x) (fun x : ae => (1 + (((x.Points.map fun z => (1 + (1 + (((1 + (((z.At.Num.Groups.map fun z => 1).sum + 1) + 0)) + ((1 + (((z.At.Den.Groups.map fun z => 1).sum + 1) + 0)) + 0)) + 0)))).sum + 1) + 0))) := (cD.struct gQ (l := [(4, 0), (33, 1)]) (by kernel_rfl) (by kernel_rfl) (c9.cons gQ op4 (c9.cons gQ Es c9.nil))).map (fun p => (⟨p.1, p.2.1⟩ : ae)) (fun _ => rfl) (fun _ h => h) (fun _ => rfl)
theorem Ec : AB (Rows.uptoBulk (H := H)) enc Tryz.prog W 35 (fun x : ae => (.agg [.at (.bool x.Closed), slT al.c x.Points] : AV)) (fun x => ae.wf x) (fun x : ae => (1 + (((x.Points.map fun z => (1 + (1 + (((1 + (((z.At.Num.Groups.map fun z => 1).sum + 1) + 0)) + ((1 + (((z.At.Den.Groups.map fun z => 1).sum + 1) + 0)) + 0)) + 0)))).sum + 1) + 0))) := cD.agg Ev (by kernel_rfl)
theorem Ek {b : Bool} : cD (Rows.uptoBulk (H := H)) enc Tryz.prog W b 49 2 (fun x : A2 Int => [.at (.int .i64 x.e0), .at (.int .i64 x.e1)]) (fun x => ((Lit.int .i64 x.e0).wf = true) /\ ((Lit.int .i64 x.e1).wf = true) /\ True) (fun x : A2 Int => (1 + (1 + 0))) := (cD.array gQ (m := 2) (e := 3) (k := 1) (by kernel_rfl) (by kernel_rfl) (by kernel_rfl) (show c9 _ _ _ _ _ (((List.range 2).map fun i => (3, i * 1)) : List (TypeId × Nat)) 0 _ _ _ _ from (c9.cons gQ op3 (c9.cons gQ op3 c9.nil)))).map (fun p => (⟨p.1, p.2.1⟩ : A2 Int)) (fun _ => rfl) (fun _ h => h) (fun _ => rfl)
theorem D3 : AB (Rows.uptoBulk (H := H)) enc Tryz.prog W 49 (fun x : A2 Int => (.agg [.at (.int .i64 x.e0), .at (.int .i64 x.e1)] : AV)) (fun x => ((Lit.int .i64 x.e0).wf = true) /\ ((Lit.int .i64 x.e1).wf = true) /\ True) (fun x : A2 Int => (1 + (1 + 0))) := cD.agg Ek (by kernel_rfl)
end

theorem own : ownKnob Tryz.prog.godebug = none := by kernel_rfl
theorem laidOut : laidOutB Tryz.prog = true := by kernel_rfl
theorem wK {w w' : World} {mu mu' : Nat -> Prop} (h : Ext (Lo w.heap.size) w w' mu mu' [] []) : RowKit.Below w.heap.size w w' := ⟨h.os, h.tape, h.output, h.size, h.low⟩

theorem Ad (g : ar) (l : ae) (at' : A2 Int) (w0 : ar.wf g) (w1 : ae.wf l) (w2 : ((Lit.int .i64 at'.e0).wf = true) /\ ((Lit.int .i64 at'.e1).wf = true) /\ True) (z0 : (1 + (1 + (1 + (1 + (1 + (((g.Z.map fun z => 1).sum + 1) + 0)))))) <= 1048576) (z1 : (1 + (((l.Points.map fun z => (1 + (1 + (((1 + (((z.At.Num.Groups.map fun z => 1).sum + 1) + 0)) + ((1 + (((z.At.Den.Groups.map fun z => 1).sum + 1) + 0)) + 0)) + 0)))).sum + 1) + 0)) <= 1048576) (z2 : (1 + (1 + 0)) <= 1048576) : dF 20000 g l at' = some true := Am g l at' (fun x hx => ⟨fun a ha => (Bf ((w1.2.1.2 x hx).2.2.1.1.2.1.2 a ha)).1, fun a ha => (Bf ((w1.2.1.2 x hx).2.2.1.2.1.2.1.2 a ha)).1⟩) z1

theorem yX (H : Type) (enc : TypeId × Value -> H) (W : World) (base : Nat) (args : Array Value) (ds gs : List (DataW H)) (before : List MemPlace)
  (hval0 : ∀ (j : Nat) t v, Tryz.f5.params[j]? = some t -> args[j]? = some v -> Value.okWide Tryz.prog W .any base t v)
  (hW : DataW.Whole enc Tryz.prog Tryz.f5.params.toList Rows.contourTurnsSpec.vars false W args.toList ds gs before) (hk : Rows.uptoSmall H (ds ++ gs) = true) :
  Calls Tryz.prog 5 args W fun e W' => ∃ v, e = .returned v /\ Rows.contourTurnsSpec.post enc Tryz.prog Tryz.f5 false true false false W args v W' := by
 have hval : ∀ (j : Nat) t v, Tryz.f5.params[j]? = some t -> args[j]? = some v -> Value.okWide Tryz.prog W .any base t v := hval0
 have hW' := hW
 obtain ⟨p, q, hA0, hV, rfl, hfz, hnd⟩ := hW
 have hA : DataW.TrodAll enc Tryz.prog W 0 (fun _ => true) true Tryz.f5.params.toList args.toList ds p := hA0
 rw [Tryz.params5] at hA hval
 obtain ⟨v0, v1, v2, d0, d1, d2, p0, p1, p2, rfl, rfl, rfl, h0, h1, h2⟩ := trodAll_three hA
 obtain ⟨rfl, rfl⟩ := trodVars_none hV
 clear hA0 hval0
 simp only [List.append_nil] at hW' hk
 have hbk : Rows.uptoBulkAll [d0, d1, d2] <= 1048576 := dcT hk
 simp only [Rows.uptoBulkAll] at hbk
 have hlt : ∀ x ∈ p0 ++ p1 ++ p2, x.block < W.heap.size := fun x hx => by simpa using hW'.lt x hx
 obtain ⟨a0, wa0, sa0, hb0⟩ := DL base v0 d0 _ (hval 0 24 v0 rfl rfl) h0
 obtain ⟨a1, wa1, sa1, hb1⟩ := Ec base v1 d1 _ (hval 1 35 v1 rfl rfl) h1
 obtain ⟨a2, wa2, sa2, hb2⟩ := D3 base v2 d2 _ (hval 2 49 v2 rfl rfl) h2
 refine (mh 20000 a0 a1 a2 true (Ad a0 a1 a2 wa0 wa1 wa2 (Nat.le_trans sa0 (by omega)) (Nat.le_trans sa1 (by omega)) (Nat.le_trans sa2 (by omega))) kN W [v0, v1, v2] (fun _ h => h.elim) ⟨v0, _, rfl, hb0, v1, _, rfl, hb1, v2, _, rfl, hb2, rfl⟩).mono fun e W' hr => ?_
 obtain ⟨u, rfl, hE, hu⟩ := hr
 obtain rfl : u = .bool true := hu
 have hB := wK hE
 refine ⟨_, rfl, _, _, _, [], p0 ++ (p1 ++ p2), [], hW', ?_, ?_, rfl, hB.frame _, fun h => by cases h⟩
 · exact trodAll_mk1 (shut_bool (by kernel_rfl) true)
 · exact trodAll_mk3 (Below.trod laidOut (by kernel_rfl) (dcT (by kernel_rfl)) h0 hB (fun x hx => hlt x (by simp [hx]))) (Below.trod laidOut (by kernel_rfl) (dcT (by kernel_rfl)) h1 hB (fun x hx => hlt x (by simp [hx]))) (Below.trod laidOut (by kernel_rfl) (dcT (by kernel_rfl)) h2 hB (fun x hx => hlt x (by simp [hx])))

theorem BD (os : Os) (started : os.Started) (H : Type) (enc : TypeId × Value -> H) (F : Stop.Interp) :
  ReturnsInHanded {} Tryz.checked os 5 .any ((Rows.OpenSpec.upto Rows.contourTurnsSpec).pre6 enc Tryz.prog Tryz.f5 Rows.contourTurnsUptoRow.domain false) (((Rows.OpenSpec.upto Rows.contourTurnsSpec).at F).post enc Tryz.prog Tryz.f5 false true false false) := by
 refine returnsInHanded_of_cond (C := Tryz.checked) (s := Rows.OpenSpec.upto Rows.contourTurnsSpec) (k := Rows.uptoSmall) rfl own started (by kernel_rfl) Tryz.func5
  (OpenSpec.witness (enc := enc) (C := Tryz.checked) (s := Rows.OpenSpec.upto Rows.contourTurnsSpec) (k := Rows.uptoSmall) rfl false ⟨#[], #[.agg #[.int .i64 0, .int .i64 0, .int .i64 0, .int .i64 0, .int .i64 0, .slice none 0 0], .agg #[.bool false, .slice none 0 0], .agg #[.int .i64 0, .int .i64 0]], []⟩ 8 (by kernel_rfl) (by kernel_rfl) (by kernel_rfl)
   (x := ([.agg [.lit (.int .i64 0), .lit (.int .i64 0), .lit (.int .i64 0), .lit (.int .i64 0), .lit (.int .i64 0), .nil], .agg [.lit (.bool false), .nil], .agg [.lit (.int .i64 0), .lit (.int .i64 0)]], [], [])) (by kernel_rfl) rfl (by kernel_rfl)) ?_
 intro W base args ds gs before hval hW _ hk _
 exact yX H enc W base args ds gs before hval hW hk

theorem contourTurnsUpto_holds : Rows.ContourTurnsUptoSaid :=
 OpenClaim.holds_of_cond 5 Tryz.f5 rfl rfl rfl rfl rfl rfl rfl ⟨rfl, rfl, rfl, rfl, rfl⟩ rfl rfl rfl rfl rfl (by kernel_rfl) Tryz.func5 (by kernel_rfl)
  (dcT (by kernel_rfl)) (by unfold Func.isWrapper; first | (rw [if_pos (by decide +kernel)]; kernel_rfl) | (rw [if_neg (by decide +kernel)]; exact ⟨rfl, rfl⟩))
  (fun os started H enc _ F => BD os started H enc F)
end Go.Proofs.YtecdcgfclgmbpaaGreat
