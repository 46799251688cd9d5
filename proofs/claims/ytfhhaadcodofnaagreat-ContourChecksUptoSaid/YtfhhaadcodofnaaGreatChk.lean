
import Derived.Test.YtfhhaadcodofnaaGreatRows
import Derived.ProofKit
import Derived.JoinedCond
import Derived.OpenShut
import Derived.Test.YtfhhaadcodofnaaGreatChkLP3
import Derived.Test.YtfhhaadcodofnaaGreatChkL51ch
import Derived.Test.YtfhhaadcodofnaaGreatRow2Chks
set_option linter.all false
set_option maxRecDepth 100000
namespace Go.Proofs.YtfhhaadcodofnaaGreat
open Go.ChangeShapes Go.WideShapes Go.ChangeAt Go.RowKit
open Go Go.Proofs Go.Eng Go.L

theorem jn {H : Type} : Cb (Rows.uptoBulk (H := H)) (Rows.uptoBulkAll (H := H)) := ⟨by simp [Rows.uptoBulkAll], fun d r => by simp [Rows.uptoBulkAll], fun d => by cases d with | lit l => cases l <;> simp [Rows.uptoBulk] | _ => simp [Rows.uptoBulk], fun es sp => by simp [Rows.uptoBulk], fun ps => by simp [Rows.uptoBulk]⟩
section
variable {H : Type} {enc : TypeId × Value -> H} {W : World}
def an.wf (x : an) : Prop := ((Lit.int .i64 x.X0).wf = true) /\ ((Lit.int .i64 x.Y0).wf = true) /\ ((Lit.int .i64 x.Step).wf = true) /\ ((Lit.int .i64 x.Width).wf = true) /\ ((Lit.int .i64 x.Height).wf = true) /\ (x.Z.length <= maxLen /\ ∀ a ∈ x.Z, (Lit.int .i64 a).wf = true) /\ True
def ai.wf (x : ai) : Prop := (True) /\ (x.Groups.length <= maxLen /\ ∀ a ∈ x.Groups, (Lit.int .u32 a).wf = true) /\ True
def ar.wf (x : ar) : Prop := (ai.wf x.Num) /\ (ai.wf x.Den) /\ True
def ah.wf (x : ah) : Prop := ((Lit.int .i64 x.A).wf = true) /\ ((Lit.int .i64 x.B).wf = true) /\ (ar.wf x.At) /\ True
def aa.wf (x : aa) : Prop := (True) /\ (x.Points.length <= maxLen /\ ∀ a ∈ x.Points, ah.wf a) /\ True
theorem op3 {b : Bool} : cQ (Rows.uptoBulk (H := H)) enc Tryz.prog W b 3 1 (iC .i64) (fun n => (Lit.int .i64 n).wf = true) (fun x : Int => 1) := cQ.int jn (by kernel_rfl) (by kernel_rfl)
theorem JL {b : Bool} : cQ (Rows.uptoBulk (H := H)) enc Tryz.prog W b 22 1 (fun l : List Int => [slT (iC .i64) l]) (fun l => l.length <= maxLen /\ ∀ a ∈ l, (Lit.int .i64 a).wf = true) (fun x : List Int => ((x.map fun z => 1).sum + 1)) := cQ.slice jn (c := (iC .i64)) (by kernel_rfl) (by kernel_rfl) op3
theorem JR {b : Bool} : cQ (Rows.uptoBulk (H := H)) enc Tryz.prog W b 24 6 (fun x : an => [.at (.int .i64 x.X0), .at (.int .i64 x.Y0), .at (.int .i64 x.Step), .at (.int .i64 x.Width), .at (.int .i64 x.Height), slT (iC .i64) x.Z]) (fun x => an.wf x) (fun x : an => (1 + (1 + (1 + (1 + (1 + (((x.Z.map fun z => 1).sum + 1) + 0))))))) := (cQ.struct jn (l := [(3, 0), (3, 1), (3, 2), (3, 3), (3, 4), (22, 5)]) (by kernel_rfl) (by kernel_rfl) (eD.cons jn op3 (eD.cons jn op3 (eD.cons jn op3 (eD.cons jn op3 (eD.cons jn op3 (eD.cons jn JL eD.nil))))))).map (fun p => (⟨p.1, p.2.1, p.2.2.1, p.2.2.2.1, p.2.2.2.2.1, p.2.2.2.2.2.1⟩ : an)) (fun _ => rfl) (fun _ h => h) (fun _ => rfl)
theorem I9 : EP (Rows.uptoBulk (H := H)) enc Tryz.prog W 24 (fun x : an => (.agg [.at (.int .i64 x.X0), .at (.int .i64 x.Y0), .at (.int .i64 x.Step), .at (.int .i64 x.Width), .at (.int .i64 x.Height), slT (iC .i64) x.Z] : AV)) (fun x => an.wf x) (fun x : an => (1 + (1 + (1 + (1 + (1 + (((x.Z.map fun z => 1).sum + 1) + 0))))))) := cQ.agg JR (by kernel_rfl)
theorem JM : EP (Rows.uptoBulk (H := H)) enc Tryz.prog W 3 (fun x : Int => (.at (.int .i64 x) : AV)) (fun x => (Lit.int .i64 x).wf = true) (fun x : Int => 1) := cQ.one op3 (by kernel_rfl)
theorem Jo {b : Bool} : cQ (Rows.uptoBulk (H := H)) enc Tryz.prog W b 134 1 (iC .u32) (fun n => (Lit.int .u32 n).wf = true) (fun x : Int => 1) := cQ.int jn (by kernel_rfl) (by kernel_rfl)
theorem J3 {b : Bool} : cQ (Rows.uptoBulk (H := H)) enc Tryz.prog W b 31 1 (fun l : List Int => [slT (iC .u32) l]) (fun l => l.length <= maxLen /\ ∀ a ∈ l, (Lit.int .u32 a).wf = true) (fun x : List Int => ((x.map fun z => 1).sum + 1)) := cQ.slice jn (c := (iC .u32)) (by kernel_rfl) (by kernel_rfl) Jo
theorem op4 {b : Bool} : cQ (Rows.uptoBulk (H := H)) enc Tryz.prog W b 4 1 bC (fun _ => True) (fun x : Bool => 1) := cQ.bool jn (by kernel_rfl) (by kernel_rfl)
theorem I7 {b : Bool} : cQ (Rows.uptoBulk (H := H)) enc Tryz.prog W b 33 2 (fun x : ai => [.at (.bool x.Negative), slT (iC .u32) x.Groups]) (fun x => ai.wf x) (fun x : ai => (1 + (((x.Groups.map fun z => 1).sum + 1) + 0))) := (cQ.struct jn (l := [(4, 0), (31, 1)]) (by kernel_rfl) (by kernel_rfl) (eD.cons jn op4 (eD.cons jn J3 eD.nil))).map (fun p => (⟨p.1, p.2.1⟩ : ai)) (fun _ => rfl) (fun _ h => h) (fun _ => rfl)
theorem JO {b : Bool} : cQ (Rows.uptoBulk (H := H)) enc Tryz.prog W b 35 4 (fun x : ar => [.at (.bool x.Num.Negative), slT (iC .u32) x.Num.Groups, .at (.bool x.Den.Negative), slT (iC .u32) x.Den.Groups]) (fun x => ar.wf x) (fun x : ar => ((1 + (((x.Num.Groups.map fun z => 1).sum + 1) + 0)) + ((1 + (((x.Den.Groups.map fun z => 1).sum + 1) + 0)) + 0))) := (cQ.struct jn (l := [(33, 0), (33, 2)]) (by kernel_rfl) (by kernel_rfl) (eD.cons jn I7 (eD.cons jn I7 eD.nil))).map (fun p => (⟨p.1, p.2.1⟩ : ar)) (fun _ => rfl) (fun _ h => h) (fun _ => rfl)
theorem JT {b : Bool} : cQ (Rows.uptoBulk (H := H)) enc Tryz.prog W b 37 6 ah.c (fun x => ah.wf x) (fun x : ah => (1 + (1 + (((1 + (((x.At.Num.Groups.map fun z => 1).sum + 1) + 0)) + ((1 + (((x.At.Den.Groups.map fun z => 1).sum + 1) + 0)) + 0)) + 0)))) := (cQ.struct jn (l := [(3, 0), (3, 1), (35, 2)]) (by kernel_rfl) (by kernel_rfl) (eD.cons jn op3 (eD.cons jn op3 (eD.cons jn JO eD.nil)))).map (fun p => (⟨p.1, p.2.1, p.2.2.1⟩ : ah)) (fun _ => rfl) (fun _ h => h) (fun _ => rfl)
theorem JS {b : Bool} : cQ (Rows.uptoBulk (H := H)) enc Tryz.prog W b 28 1 (fun l : List ah => [slT ah.c l]) (fun l => l.length <= maxLen /\ ∀ a ∈ l, ah.wf a) (fun x : List ah => ((x.map fun z => (1 + (1 + (((1 + (((z.At.Num.Groups.map fun z => 1).sum + 1) + 0)) + ((1 + (((z.At.Den.Groups.map fun z => 1).sum + 1) + 0)) + 0)) + 0)))).sum + 1)) := cQ.slice jn (c := ah.c) (by kernel_rfl) (by kernel_rfl) JT
theorem JW {b : Bool} : cQ (Rows.uptoBulk (H := H)) enc Tryz.prog W b 30 2 aa.c (fun x => aa.wf x) (fun x : aa => (1 + (((x.Points.map fun z => (1 + (1 + (((1 + (((z.At.Num.Groups.map fun z => 1).sum + 1) + 0)) + ((1 + (((z.At.Den.Groups.map fun z => 1).sum + 1) + 0)) + 0)) + 0)))).sum + 1) + 0))) := (cQ.struct jn (l := [(4, 0), (28, 1)]) (by kernel_rfl) (by kernel_rfl) (eD.cons jn op4 (eD.cons jn JS eD.nil))).map (fun p => (⟨p.1, p.2.1⟩ : aa)) (fun _ => rfl) (fun _ h => h) (fun _ => rfl)
theorem JP {b : Bool} : cQ (Rows.uptoBulk (H := H)) enc Tryz.prog W b 25 1 (fun l : List aa => [slT aa.c l]) (fun l => l.length <= maxLen /\ ∀ a ∈ l, aa.wf a) (fun x : List aa => ((x.map fun z => (1 + (((z.Points.map fun z => (1 + (1 + (((1 + (((z.At.Num.Groups.map fun z => 1).sum + 1) + 0)) + ((1 + (((z.At.Den.Groups.map fun z => 1).sum + 1) + 0)) + 0)) + 0)))).sum + 1) + 0))).sum + 1)) := cQ.slice jn (c := aa.c) (by kernel_rfl) (by kernel_rfl) JW
theorem Jp : EP (Rows.uptoBulk (H := H)) enc Tryz.prog W 25 (fun x : List aa => (slT aa.c x : AV)) (fun x => x.length <= maxLen /\ ∀ a ∈ x, aa.wf a) (fun x : List aa => ((x.map fun z => (1 + (((z.Points.map fun z => (1 + (1 + (((1 + (((z.At.Num.Groups.map fun z => 1).sum + 1) + 0)) + ((1 + (((z.At.Den.Groups.map fun z => 1).sum + 1) + 0)) + 0)) + 0)))).sum + 1) + 0))).sum + 1)) := cQ.one JP (by kernel_rfl)
end

theorem own : ownKnob Tryz.prog.godebug = none := by kernel_rfl
theorem laidOut : laidOutB Tryz.prog = true := by kernel_rfl
theorem AZ {w w' : World} {mu mu' : Nat -> Prop} (h : Ext (Lo w.heap.size) w w' mu mu' [] []) : RowKit.Below w.heap.size w w' := ⟨h.os, h.tape, h.output, h.size, h.low⟩

theorem Er (g : an) (level : Int) (l : List aa) (w0 : an.wf g) (w1 : (Lit.int .i64 level).wf = true) (w2 : l.length <= maxLen /\ ∀ a ∈ l, aa.wf a) (z0 : (1 + (1 + (1 + (1 + (1 + (((g.Z.map fun z => 1).sum + 1) + 0)))))) <= 1048576) (z1 : 1 <= 1048576) (z2 : ((l.map fun z => (1 + (((z.Points.map fun z => (1 + (1 + (((1 + (((z.At.Num.Groups.map fun z => 1).sum + 1) + 0)) + ((1 + (((z.At.Den.Groups.map fun z => 1).sum + 1) + 0)) + 0)) + 0)))).sum + 1) + 0))).sum + 1) <= 1048576) : cY 20000 g level l = some true := Cx g level l (fun c hc x hx => ⟨fun a ha => (EO (((w2.2 c hc).2.1.2 x hx).2.2.1.1.2.1.2 a ha)).1, fun a ha => (EO (((w2.2 c hc).2.1.2 x hx).2.2.1.2.1.2.1.2 a ha)).1⟩) z2

theorem Cs (H : Type) (enc : TypeId × Value -> H) (W : World) (base : Nat) (args : Array Value) (ds gs : List (DataW H)) (before : List MemPlace)
  (hval0 : ∀ (j : Nat) t v, Tryz.f3.params[j]? = some t -> args[j]? = some v -> Value.okWide Tryz.prog W .any base t v)
  (hW : DataW.Whole enc Tryz.prog Tryz.f3.params.toList Rows.contourChecksSpec.vars false W args.toList ds gs before) (hk : Rows.uptoSmall H (ds ++ gs) = true) :
  Calls Tryz.prog 3 args W fun e W' => ∃ v, e = .returned v /\ Rows.contourChecksSpec.post enc Tryz.prog Tryz.f3 false true false false W args v W' := by
 have hval : ∀ (j : Nat) t v, Tryz.f3.params[j]? = some t -> args[j]? = some v -> Value.okWide Tryz.prog W .any base t v := hval0
 have hW' := hW
 obtain ⟨p, q, hA0, hV, rfl, hfz, hnd⟩ := hW
 have hA : DataW.TrodAll enc Tryz.prog W 0 (fun _ => true) true Tryz.f3.params.toList args.toList ds p := hA0
 rw [Tryz.params3] at hA hval
 obtain ⟨v0, v1, v2, d0, d1, d2, p0, p1, p2, rfl, rfl, rfl, h0, h1, h2⟩ := trodAll_three hA
 obtain ⟨rfl, rfl⟩ := trodVars_none hV
 clear hA0 hval0
 simp only [List.append_nil] at hW' hk
 have hbk : Rows.uptoBulkAll [d0, d1, d2] <= 1048576 := dcT hk
 simp only [Rows.uptoBulkAll] at hbk
 have hlt : ∀ x ∈ p0 ++ p1 ++ p2, x.block < W.heap.size := fun x hx => by simpa using hW'.lt x hx
 obtain ⟨a0, wa0, sa0, hb0⟩ := I9 base v0 d0 _ (hval 0 24 v0 rfl rfl) h0
 obtain ⟨a1, wa1, sa1, hb1⟩ := JM base v1 d1 _ (hval 1 3 v1 rfl rfl) h1
 obtain ⟨a2, wa2, sa2, hb2⟩ := Jp base v2 d2 _ (hval 2 25 v2 rfl rfl) h2
 refine (nc 20000 a0 a1 a2 true (Er a0 a1 a2 wa0 wa1 wa2 (Nat.le_trans sa0 (by omega)) (Nat.le_trans sa1 (by omega)) (Nat.le_trans sa2 (by omega))) mP W [v0, v1, v2] (fun _ h => h.elim) ⟨v0, _, rfl, hb0, v1, _, rfl, hb1, v2, _, rfl, hb2, rfl⟩).mono fun e W' hr => ?_
 obtain ⟨u, rfl, hE, hu⟩ := hr
 obtain rfl : u = .bool true := hu
 have hB := AZ hE
 refine ⟨_, rfl, _, _, _, [], p0 ++ (p1 ++ p2), [], hW', ?_, ?_, rfl, hB.frame _, fun h => by cases h⟩
 · exact trodAll_mk1 (shut_bool (by kernel_rfl) true)
 · exact trodAll_mk3 (Below.trod laidOut (by kernel_rfl) (dcT (by kernel_rfl)) h0 hB (fun x hx => hlt x (by simp [hx]))) (Below.trod laidOut (by kernel_rfl) (dcT (by kernel_rfl)) h1 hB (fun x hx => hlt x (by simp [hx]))) (Below.trod laidOut (by kernel_rfl) (dcT (by kernel_rfl)) h2 hB (fun x hx => hlt x (by simp [hx])))

theorem EY (os : Os) (started : os.Started) (H : Type) (enc : TypeId × Value -> H) (F : Stop.Interp) :
  ReturnsInHanded {} Tryz.checked os 3 .any ((Rows.OpenSpec.upto Rows.contourChecksSpec).pre6 enc Tryz.prog Tryz.f3 Rows.contourChecksUptoRow.domain false) (((Rows.OpenSpec.upto Rows.contourChecksSpec).at F).post enc Tryz.prog Tryz.f3 false true false false) := by
 refine returnsInHanded_of_cond (C := Tryz.checked) (s := Rows.OpenSpec.upto Rows.contourChecksSpec) (k := Rows.uptoSmall) rfl own started (by kernel_rfl) Tryz.func3
  (OpenSpec.witness (enc := enc) (C := Tryz.checked) (s := Rows.OpenSpec.upto Rows.contourChecksSpec) (k := Rows.uptoSmall) rfl false ⟨#[], #[.agg #[.int .i64 0, .int .i64 0, .int .i64 0, .int .i64 0, .int .i64 0, .slice none 0 0], .int .i64 0, .slice none 0 0], []⟩ 8 (by kernel_rfl) (by kernel_rfl) (by kernel_rfl)
   (x := ([.agg [.lit (.int .i64 0), .lit (.int .i64 0), .lit (.int .i64 0), .lit (.int .i64 0), .lit (.int .i64 0), .nil], .lit (.int .i64 0), .nil], [], [])) (by kernel_rfl) rfl (by kernel_rfl)) ?_
 intro W base args ds gs before hval hW _ hk _
 exact Cs H enc W base args ds gs before hval hW hk

theorem contourChecksUpto_holds : Rows.ContourChecksUptoSaid :=
 OpenClaim.holds_of_cond 3 Tryz.f3 rfl rfl rfl rfl rfl rfl rfl ⟨rfl, rfl, rfl, rfl, rfl⟩ rfl rfl rfl rfl rfl (by kernel_rfl) Tryz.func3 (by kernel_rfl)
  (dcT (by kernel_rfl)) (by unfold Func.isWrapper; first | (rw [if_pos (by decide +kernel)]; kernel_rfl) | (rw [if_neg (by decide +kernel)]; exact ⟨rfl, rfl⟩))
  (fun os started H enc _ F => EY os started H enc F)
end Go.Proofs.YtfhhaadcodofnaaGreat
