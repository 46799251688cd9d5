
import Derived.Test.YtfclmnpffhbcpaaGreatRows
import Derived.ProofKit
import Derived.JoinedCond
import Derived.OpenShut
import Derived.Test.YtfclmnpffhbcpaaGreatPldLP4
import Derived.Test.YtfclmnpffhbcpaaGreatPldL22P
import Derived.Test.YtfclmnpffhbcpaaGreatRow2Plds
set_option linter.all false
set_option maxRecDepth 100000
namespace Go.Proofs.YtfclmnpffhbcpaaGreat
open Go.ChangeShapes Go.WideShapes Go.ChangeAt Go.RowKit
open Go Go.Proofs Go.Eng Go.L

theorem kh {H : Type} : Av (Rows.uptoBulk (H := H)) (Rows.uptoBulkAll (H := H)) := ⟨by simp [Rows.uptoBulkAll], fun d r => by simp [Rows.uptoBulkAll], fun d => by cases d with | lit l => cases l <;> simp [Rows.uptoBulk] | _ => simp [Rows.uptoBulk], fun es sp => by simp [Rows.uptoBulk], fun j => by simp [Rows.uptoBulk]⟩
section
variable {H : Type} {enc : TypeId × Value -> H} {W : World}
def aF.wf (x : aF) : Prop := ((Lit.int .i64 x.Width).wf = true) /\ ((Lit.int .i64 x.Height).wf = true) /\ ((Lit.int .i64 x.Low).wf = true) /\ ((Lit.int .i64 x.High).wf = true) /\ ((Lit.int .i64 x.Across).wf = true) /\ ((Lit.int .i64 x.Along).wf = true) /\ ((Lit.int .i64 x.Focal).wf = true) /\ ((Lit.int .i64 x.Overlap).wf = true) /\ ((Lit.int .i64 x.Sidelap).wf = true) /\ ((Lit.int .i64 x.Views).wf = true) /\ True
def aE.wf (x : aE) : Prop := ((Lit.int .i64 x.X).wf = true) /\ ((Lit.int .i64 x.Y).wf = true) /\ True
def aK.wf (x : aK) : Prop := ((Lit.int .i64 x.Height).wf = true) /\ (x.Strips.length <= maxLen /\ ∀ a ∈ x.Strips, a.length <= maxLen /\ ∀ a' ∈ a, aE.wf a') /\ True
theorem op3 {b : Bool} : dY (Rows.uptoBulk (H := H)) enc Tryz.prog W b 3 1 (iC .i64) (fun n => (Lit.int .i64 n).wf = true) (fun x : Int => 1) := dY.int kh (by kernel_rfl) (by kernel_rfl)
theorem Hl {b : Bool} : dY (Rows.uptoBulk (H := H)) enc Tryz.prog W b 23 10 (fun x : aF => [.at (.int .i64 x.Width), .at (.int .i64 x.Height), .at (.int .i64 x.Low), .at (.int .i64 x.High), .at (.int .i64 x.Across), .at (.int .i64 x.Along), .at (.int .i64 x.Focal), .at (.int .i64 x.Overlap), .at (.int .i64 x.Sidelap), .at (.int .i64 x.Views)]) (fun x => aF.wf x) (fun x : aF => (1 + (1 + (1 + (1 + (1 + (1 + (1 + (1 + (1 + (1 + 0))))))))))) := (dY.struct kh (l := [(3, 0), (3, 1), (3, 2), (3, 3), (3, 4), (3, 5), (3, 6), (3, 7), (3, 8), (3, 9)]) (by kernel_rfl) (by kernel_rfl) (eA.cons kh op3 (eA.cons kh op3 (eA.cons kh op3 (eA.cons kh op3 (eA.cons kh op3 (eA.cons kh op3 (eA.cons kh op3 (eA.cons kh op3 (eA.cons kh op3 (eA.cons kh op3 eA.nil))))))))))).map (fun p => (⟨p.1, p.2.1, p.2.2.1, p.2.2.2.1, p.2.2.2.2.1, p.2.2.2.2.2.1, p.2.2.2.2.2.2.1, p.2.2.2.2.2.2.2.1, p.2.2.2.2.2.2.2.2.1, p.2.2.2.2.2.2.2.2.2.1⟩ : aF)) (fun _ => rfl) (fun _ h => h) (fun _ => rfl)
theorem GB : Ei (Rows.uptoBulk (H := H)) enc Tryz.prog W 23 (fun x : aF => (.agg [.at (.int .i64 x.Width), .at (.int .i64 x.Height), .at (.int .i64 x.Low), .at (.int .i64 x.High), .at (.int .i64 x.Across), .at (.int .i64 x.Along), .at (.int .i64 x.Focal), .at (.int .i64 x.Overlap), .at (.int .i64 x.Sidelap), .at (.int .i64 x.Views)] : AV)) (fun x => aF.wf x) (fun x : aF => (1 + (1 + (1 + (1 + (1 + (1 + (1 + (1 + (1 + (1 + 0))))))))))) := dY.agg Hl (by kernel_rfl)
theorem Hn {b : Bool} : dY (Rows.uptoBulk (H := H)) enc Tryz.prog W b 69 2 aE.c (fun x => aE.wf x) (fun x : aE => (1 + (1 + 0))) := (dY.struct kh (l := [(3, 0), (3, 1)]) (by kernel_rfl) (by kernel_rfl) (eA.cons kh op3 (eA.cons kh op3 eA.nil))).map (fun p => (⟨p.1, p.2.1⟩ : aE)) (fun _ => rfl) (fun _ h => h) (fun _ => rfl)
theorem Hg {b : Bool} : dY (Rows.uptoBulk (H := H)) enc Tryz.prog W b 30 1 (fun l : List aE => [slT aE.c l]) (fun l => l.length <= maxLen /\ ∀ a ∈ l, aE.wf a) (fun x : List aE => ((x.map fun z => (1 + (1 + 0))).sum + 1)) := dY.slice kh (c := aE.c) (by kernel_rfl) (by kernel_rfl) Hn
theorem Ho {b : Bool} : dY (Rows.uptoBulk (H := H)) enc Tryz.prog W b 24 1 (fun l : List (List aE) => [slT (slC aE.c) l]) (fun l => l.length <= maxLen /\ ∀ a ∈ l, a.length <= maxLen /\ ∀ a' ∈ a, aE.wf a') (fun x : List (List aE) => ((x.map fun z => ((z.map fun z => (1 + (1 + 0))).sum + 1)).sum + 1)) := dY.slice kh (c := (slC aE.c)) (by kernel_rfl) (by kernel_rfl) Hg
theorem Hd {b : Bool} : dY (Rows.uptoBulk (H := H)) enc Tryz.prog W b 26 2 (fun x : aK => [.at (.int .i64 x.Height), slT (slC aE.c) x.Strips]) (fun x => aK.wf x) (fun x : aK => (1 + (((x.Strips.map fun z => ((z.map fun z => (1 + (1 + 0))).sum + 1)).sum + 1) + 0))) := (dY.struct kh (l := [(3, 0), (24, 1)]) (by kernel_rfl) (by kernel_rfl) (eA.cons kh op3 (eA.cons kh Ho eA.nil))).map (fun p => (⟨p.1, p.2.1⟩ : aK)) (fun _ => rfl) (fun _ h => h) (fun _ => rfl)
theorem GY : Ei (Rows.uptoBulk (H := H)) enc Tryz.prog W 26 (fun x : aK => (.agg [.at (.int .i64 x.Height), slT (slC aE.c) x.Strips] : AV)) (fun x => aK.wf x) (fun x : aK => (1 + (((x.Strips.map fun z => ((z.map fun z => (1 + (1 + 0))).sum + 1)).sum + 1) + 0))) := dY.agg Hd (by kernel_rfl)
theorem Gi {b : Bool} : dY (Rows.uptoBulk (H := H)) enc Tryz.prog W b 27 1 (iC .u16) (fun n => (Lit.int .u16 n).wf = true) (fun x : Int => 1) := dY.int kh (by kernel_rfl) (by kernel_rfl)
theorem Hf {b : Bool} : dY (Rows.uptoBulk (H := H)) enc Tryz.prog W b 28 3 (fun x : A3 Int => [.at (.int .u16 x.e0), .at (.int .u16 x.e1), .at (.int .u16 x.e2)]) (fun x => ((Lit.int .u16 x.e0).wf = true) /\ ((Lit.int .u16 x.e1).wf = true) /\ ((Lit.int .u16 x.e2).wf = true) /\ True) (fun x : A3 Int => (1 + (1 + (1 + 0)))) := (dY.array kh (m := 3) (e := 27) (k := 1) (by kernel_rfl) (by kernel_rfl) (by kernel_rfl) (show eA _ _ _ _ _ (((List.range 3).map fun i => (27, i * 1)) : List (TypeId × Nat)) 0 _ _ _ _ from (eA.cons kh Gi (eA.cons kh Gi (eA.cons kh Gi eA.nil))))).map (fun p => (⟨p.1, p.2.1, p.2.2.1⟩ : A3 Int)) (fun _ => rfl) (fun _ h => h) (fun _ => rfl)
theorem GD : Ei (Rows.uptoBulk (H := H)) enc Tryz.prog W 28 (fun x : A3 Int => (.agg [.at (.int .u16 x.e0), .at (.int .u16 x.e1), .at (.int .u16 x.e2)] : AV)) (fun x => ((Lit.int .u16 x.e0).wf = true) /\ ((Lit.int .u16 x.e1).wf = true) /\ ((Lit.int .u16 x.e2).wf = true) /\ True) (fun x : A3 Int => (1 + (1 + (1 + 0)))) := dY.agg Hf (by kernel_rfl)
end

theorem own : ownKnob Tryz.prog.godebug = none := by kernel_rfl
theorem laidOut : laidOutB Tryz.prog = true := by kernel_rfl
theorem zU {w w' : World} {mu mu' : Nat -> Prop} (h : Ext (Lo w.heap.size) w w' mu mu' [] []) : RowKit.Below w.heap.size w w' := ⟨h.os, h.tape, h.output, h.size, h.low⟩

theorem Dm (s : aF) (f : aK) (j : A3 Int) (C : aF.wf s) (D : aK.wf f) (q : ((Lit.int .u16 j.e0).wf = true) /\ ((Lit.int .u16 j.e1).wf = true) /\ ((Lit.int .u16 j.e2).wf = true) /\ True) (z0 : (1 + (1 + (1 + (1 + (1 + (1 + (1 + (1 + (1 + (1 + 0)))))))))) <= 1048576) (z1 : (1 + (((f.Strips.map fun z => ((z.map fun z => (1 + (1 + 0))).sum + 1)).sum + 1) + 0)) <= 1048576) (z2 : (1 + (1 + (1 + 0))) <= 1048576) : fJ 2000000 s f j = some true := CS s f j z1 (BV q.1) (BV q.2.1) (BV q.2.2.1)

theorem BR (H : Type) (enc : TypeId × Value -> H) (W : World) (base : Nat) (args : Array Value) (O gs : List (DataW H)) (before : List MemPlace)
  (C : ∀ (j : Nat) t v, Tryz.f3.params[j]? = some t -> args[j]? = some v -> Value.okWide Tryz.prog W .any base t v)
  (hW : DataW.Whole enc Tryz.prog Tryz.f3.params.toList Rows.topPlannedSpec.vars false W args.toList O gs before) (hk : Rows.uptoSmall H (O ++ gs) = true) :
  Calls Tryz.prog 3 args W fun e W' => ∃ v, e = .returned v /\ Rows.topPlannedSpec.post enc Tryz.prog Tryz.f3 false true false false W args v W' := by
 have z : ∀ (j : Nat) t v, Tryz.f3.params[j]? = some t -> args[j]? = some v -> Value.okWide Tryz.prog W .any base t v := C
 have D := hW
 obtain ⟨p, q, J, hV, rfl, b1, b2⟩ := hW
 have hA : DataW.TrodAll enc Tryz.prog W 0 (fun _ => true) true Tryz.f3.params.toList args.toList O p := J
 rw [Tryz.params3] at hA z
 obtain ⟨v0, v1, v2, d0, d1, d2, p0, p1, p2, rfl, rfl, rfl, h0, h1, h2⟩ := trodAll_three hA
 obtain ⟨rfl, rfl⟩ := trodVars_none hV
 clear J C
 simp only [List.append_nil] at D hk
 have R : Rows.uptoBulkAll [d0, d1, d2] <= 1048576 := dcT hk
 simp only [Rows.uptoBulkAll] at R
 have E : ∀ x ∈ p0 ++ p1 ++ p2, x.block < W.heap.size := fun x I => by simpa using D.lt x I
 obtain ⟨a0, S, T, U⟩ := GB base v0 d0 _ (z 0 23 v0 rfl rfl) h0
 obtain ⟨a1, Y, Z, a6⟩ := GY base v1 d1 _ (z 1 26 v1 rfl rfl) h1
 obtain ⟨a2, a7, a8, b0⟩ := GD base v2 d2 _ (z 2 28 v2 rfl rfl) h2
 refine (pJ 2000000 a0 a1 a2 true (Dm a0 a1 a2 S Y a7 (Nat.le_trans T (by omega)) (Nat.le_trans Z (by omega)) (Nat.le_trans a8 (by omega))) mF W [v0, v1, v2] (fun _ h => h.elim) ⟨v0, _, rfl, U, v1, _, rfl, a6, v2, _, rfl, b0, rfl⟩).mono fun e W' hr => ?_
 obtain ⟨u, rfl, hE, hu⟩ := hr
 obtain rfl : u = .bool true := hu
 have N := zU hE
 refine ⟨_, rfl, _, _, _, [], p0 ++ (p1 ++ p2), [], D, ?_, ?_, rfl, N.frame _, fun h => by cases h⟩
 · exact trodAll_mk1 (shut_bool (by kernel_rfl) true)
 · exact trodAll_mk3 (Below.trod laidOut (by kernel_rfl) (dcT (by kernel_rfl)) h0 N (fun x I => E x (by simp [I]))) (Below.trod laidOut (by kernel_rfl) (dcT (by kernel_rfl)) h1 N (fun x I => E x (by simp [I]))) (Below.trod laidOut (by kernel_rfl) (dcT (by kernel_rfl)) h2 N (fun x I => E x (by simp [I])))

theorem DL (os : Os) (started : os.Started) (H : Type) (enc : TypeId × Value -> H) (F : Stop.Interp) :
  ReturnsInHanded {} Tryz.checked os 3 .any ((Rows.OpenSpec.upto Rows.topPlannedSpec).pre6 enc Tryz.prog Tryz.f3 Rows.topPlannedUptoRow.domain false) (((Rows.OpenSpec.upto Rows.topPlannedSpec).at F).post enc Tryz.prog Tryz.f3 false true false false) := by
 refine returnsInHanded_of_cond (C := Tryz.checked) (s := Rows.OpenSpec.upto Rows.topPlannedSpec) (k := Rows.uptoSmall) rfl own started (by kernel_rfl) Tryz.func3
  (OpenSpec.witness (enc := enc) (C := Tryz.checked) (s := Rows.OpenSpec.upto Rows.topPlannedSpec) (k := Rows.uptoSmall) rfl false ⟨#[], #[.agg #[.int .i64 0, .int .i64 0, .int .i64 0, .int .i64 0, .int .i64 0, .int .i64 0, .int .i64 0, .int .i64 0, .int .i64 0, .int .i64 0], .agg #[.int .i64 0, .slice none 0 0], .agg #[.int .u16 0, .int .u16 0, .int .u16 0]], []⟩ 8 (by kernel_rfl) (by kernel_rfl) (by kernel_rfl)
   (x := ([.agg [.lit (.int .i64 0), .lit (.int .i64 0), .lit (.int .i64 0), .lit (.int .i64 0), .lit (.int .i64 0), .lit (.int .i64 0), .lit (.int .i64 0), .lit (.int .i64 0), .lit (.int .i64 0), .lit (.int .i64 0)], .agg [.lit (.int .i64 0), .nil], .agg [.lit (.int .u16 0), .lit (.int .u16 0), .lit (.int .u16 0)]], [], [])) (by kernel_rfl) rfl (by kernel_rfl)) ?_
 intro W base args q gs before j z _ hk _
 exact BR H enc W base args q gs before j z hk

theorem topPlannedUpto_holds : Rows.TopPlannedUptoSaid :=
 OpenClaim.holds_of_cond 3 Tryz.f3 rfl rfl rfl rfl rfl rfl rfl ⟨rfl, rfl, rfl, rfl, rfl⟩ rfl rfl rfl rfl rfl (by kernel_rfl) Tryz.func3 (by kernel_rfl)
  (dcT (by kernel_rfl)) (by unfold Func.isWrapper; first | (rw [if_pos (by decide +kernel)]; kernel_rfl) | (rw [if_neg (by decide +kernel)]; exact ⟨rfl, rfl⟩))
  (fun os started H enc _ F => DL os started H enc F)
end Go.Proofs.YtfclmnpffhbcpaaGreat
