
import Derived.Test.YtlpfiiejhikalaaGreatRows
import Derived.ProofKit
import Derived.Test.YtlpfiiejhikalaaGreatTrkLP3
import Derived.Test.YtlpfiiejhikalaaGreatTrkL11t
import Derived.Test.YtlpfiiejhikalaaGreatRow1Trks
set_option linter.all false
set_option maxRecDepth 100000
namespace Go.Proofs.YtlpfiiejhikalaaGreat
open Go.ChangeShapes Go.WideShapes Go.ChangeAt Go.RowKit
open Go Go.Proofs Go.Eng Go.L

section
variable {H : Type} {enc : TypeId × Value -> H} {W : World}
def ak.wf (x : ak) : Prop := ((Lit.int .i64 x.Width).wf = true) /\ ((Lit.int .i64 x.Height).wf = true) /\ ((Lit.int .i64 x.Max).wf = true) /\ (x.Pixels.length <= maxLen /\ ∀ a ∈ x.Pixels, (Lit.int .i64 a).wf = true) /\ True
def aj.wf (x : aj) : Prop := (((Lit.int .i64 x.A.e0).wf = true) /\ ((Lit.int .i64 x.A.e1).wf = true) /\ ((Lit.int .i64 x.A.e2).wf = true) /\ ((Lit.int .i64 x.A.e3).wf = true) /\ True) /\ (((Lit.int .i64 x.B.e0).wf = true) /\ ((Lit.int .i64 x.B.e1).wf = true) /\ ((Lit.int .i64 x.B.e2).wf = true) /\ ((Lit.int .i64 x.B.e3).wf = true) /\ True) /\ True
theorem op3 {b : Bool} : dq enc Tryz.prog W b 3 1 (iC .i64) (fun n => (Lit.int .i64 n).wf = true) := dq.int (by kernel_rfl) (by kernel_rfl)
theorem Eh {b : Bool} : dq enc Tryz.prog W b 22 1 (fun l : List Int => [slT (iC .i64) l]) (fun l => l.length <= maxLen /\ ∀ a ∈ l, (Lit.int .i64 a).wf = true) := dq.slice (c := (iC .i64)) (by kernel_rfl) (by kernel_rfl) op3
theorem DM {b : Bool} : dq enc Tryz.prog W b 24 4 (fun x : ak => [.at (.int .i64 x.Width), .at (.int .i64 x.Height), .at (.int .i64 x.Max), slT (iC .i64) x.Pixels]) (fun x => ak.wf x) := (dq.struct (l := [(3, 0), (3, 1), (3, 2), (22, 3)]) (by kernel_rfl) (by kernel_rfl) (c7.cons op3 (c7.cons op3 (c7.cons op3 (c7.cons Eh c7.nil))))).map (fun p => (⟨p.1, p.2.1, p.2.2.1, p.2.2.2.1⟩ : ak)) (fun _ => rfl) (fun _ h => h)
theorem CB : Arg enc Tryz.prog W 24 (fun x : ak => (.agg [.at (.int .i64 x.Width), .at (.int .i64 x.Height), .at (.int .i64 x.Max), slT (iC .i64) x.Pixels] : AV)) (fun x => ak.wf x) := dq.agg DM (by kernel_rfl)
theorem Cc {b : Bool} : dq enc Tryz.prog W b 66 4 (fun x : A4 Int => [.at (.int .i64 x.e0), .at (.int .i64 x.e1), .at (.int .i64 x.e2), .at (.int .i64 x.e3)]) (fun x => ((Lit.int .i64 x.e0).wf = true) /\ ((Lit.int .i64 x.e1).wf = true) /\ ((Lit.int .i64 x.e2).wf = true) /\ ((Lit.int .i64 x.e3).wf = true) /\ True) := (dq.array (m := 4) (e := 3) (k := 1) (by kernel_rfl) (by kernel_rfl) (by kernel_rfl) (show c7 _ _ _ _ (((List.range 4).map fun i => (3, i * 1)) : List (TypeId × Nat)) 0 _ _ _ from (c7.cons op3 (c7.cons op3 (c7.cons op3 (c7.cons op3 c7.nil)))))).map (fun p => (⟨p.1, p.2.1, p.2.2.1, p.2.2.2.1⟩ : A4 Int)) (fun _ => rfl) (fun _ h => h)
theorem Ep {b : Bool} : dq enc Tryz.prog W b 68 8 aj.c (fun x => aj.wf x) := (dq.struct (l := [(66, 0), (66, 4)]) (by kernel_rfl) (by kernel_rfl) (c7.cons Cc (c7.cons Cc c7.nil))).map (fun p => (⟨p.1, p.2.1⟩ : aj)) (fun _ => rfl) (fun _ h => h)
theorem Eg {b : Bool} : dq enc Tryz.prog W b 25 1 (fun l : List aj => [slT aj.c l]) (fun l => l.length <= maxLen /\ ∀ a ∈ l, aj.wf a) := dq.slice (c := aj.c) (by kernel_rfl) (by kernel_rfl) Ep
theorem CU : Arg enc Tryz.prog W 25 (fun x : List aj => (slT aj.c x : AV)) (fun x => x.length <= maxLen /\ ∀ a ∈ x, aj.wf a) := dq.one Eg (by kernel_rfl)
theorem op5 {b : Bool} : dq enc Tryz.prog W b 5 1 (iC .u8) (fun n => (Lit.int .u8 n).wf = true) := dq.int (by kernel_rfl) (by kernel_rfl)
theorem Bj {b : Bool} : dq enc Tryz.prog W b 26 4 (fun x : A4 Int => [.at (.int .u8 x.e0), .at (.int .u8 x.e1), .at (.int .u8 x.e2), .at (.int .u8 x.e3)]) (fun x => ((Lit.int .u8 x.e0).wf = true) /\ ((Lit.int .u8 x.e1).wf = true) /\ ((Lit.int .u8 x.e2).wf = true) /\ ((Lit.int .u8 x.e3).wf = true) /\ True) := (dq.array (m := 4) (e := 5) (k := 1) (by kernel_rfl) (by kernel_rfl) (by kernel_rfl) (show c7 _ _ _ _ (((List.range 4).map fun i => (5, i * 1)) : List (TypeId × Nat)) 0 _ _ _ from (c7.cons op5 (c7.cons op5 (c7.cons op5 (c7.cons op5 c7.nil)))))).map (fun p => (⟨p.1, p.2.1, p.2.2.1, p.2.2.2.1⟩ : A4 Int)) (fun _ => rfl) (fun _ h => h)
theorem D9 {b : Bool} : dq enc Tryz.prog W b 27 12 (fun x : A3 (A4 Int) => [.at (.int .u8 x.e0.e0), .at (.int .u8 x.e0.e1), .at (.int .u8 x.e0.e2), .at (.int .u8 x.e0.e3), .at (.int .u8 x.e1.e0), .at (.int .u8 x.e1.e1), .at (.int .u8 x.e1.e2), .at (.int .u8 x.e1.e3), .at (.int .u8 x.e2.e0), .at (.int .u8 x.e2.e1), .at (.int .u8 x.e2.e2), .at (.int .u8 x.e2.e3)]) (fun x => (((Lit.int .u8 x.e0.e0).wf = true) /\ ((Lit.int .u8 x.e0.e1).wf = true) /\ ((Lit.int .u8 x.e0.e2).wf = true) /\ ((Lit.int .u8 x.e0.e3).wf = true) /\ True) /\ (((Lit.int .u8 x.e1.e0).wf = true) /\ ((Lit.int .u8 x.e1.e1).wf = true) /\ ((Lit.int .u8 x.e1.e2).wf = true) /\ ((Lit.int .u8 x.e1.e3).wf = true) /\ True) /\ (((Lit.int .u8 x.e2.e0).wf = true) /\ ((Lit.int .u8 x.e2.e1).wf = true) /\ ((Lit.int .u8 x.e2.e2).wf = true) /\ ((Lit.int .u8 x.e2.e3).wf = true) /\ True) /\ True) := (dq.array (m := 3) (e := 26) (k := 4) (by kernel_rfl) (by kernel_rfl) (by kernel_rfl) (show c7 _ _ _ _ (((List.range 3).map fun i => (26, i * 4)) : List (TypeId × Nat)) 0 _ _ _ from (c7.cons Bj (c7.cons Bj (c7.cons Bj c7.nil))))).map (fun p => (⟨p.1, p.2.1, p.2.2.1⟩ : A3 (A4 Int))) (fun _ => rfl) (fun _ h => h)
theorem C4 : Arg enc Tryz.prog W 27 (fun x : A3 (A4 Int) => (.agg [.at (.int .u8 x.e0.e0), .at (.int .u8 x.e0.e1), .at (.int .u8 x.e0.e2), .at (.int .u8 x.e0.e3), .at (.int .u8 x.e1.e0), .at (.int .u8 x.e1.e1), .at (.int .u8 x.e1.e2), .at (.int .u8 x.e1.e3), .at (.int .u8 x.e2.e0), .at (.int .u8 x.e2.e1), .at (.int .u8 x.e2.e2), .at (.int .u8 x.e2.e3)] : AV)) (fun x => (((Lit.int .u8 x.e0.e0).wf = true) /\ ((Lit.int .u8 x.e0.e1).wf = true) /\ ((Lit.int .u8 x.e0.e2).wf = true) /\ ((Lit.int .u8 x.e0.e3).wf = true) /\ True) /\ (((Lit.int .u8 x.e1.e0).wf = true) /\ ((Lit.int .u8 x.e1.e1).wf = true) /\ ((Lit.int .u8 x.e1.e2).wf = true) /\ ((Lit.int .u8 x.e1.e3).wf = true) /\ True) /\ (((Lit.int .u8 x.e2.e0).wf = true) /\ ((Lit.int .u8 x.e2.e1).wf = true) /\ ((Lit.int .u8 x.e2.e2).wf = true) /\ ((Lit.int .u8 x.e2.e3).wf = true) /\ True) /\ True) := dq.agg D9 (by kernel_rfl)
end

theorem own : ownKnob Tryz.prog.godebug = none := by kernel_rfl
theorem laidOut : laidOutB Tryz.prog = true := by kernel_rfl
theorem tv {w w' : World} {mu mu' : Nat -> Prop} (h : Ext (Lo w.heap.size) w w' mu mu' [] []) : RowKit.Below w.heap.size w w' := ⟨h.os, h.tape, h.output, h.size, h.low⟩

theorem xP (r' : ak) (p : List aj) (windows : A3 (A4 Int)) (w0 : ak.wf r') (w1 : p.length <= maxLen /\ ∀ a ∈ p, aj.wf a) (w2 : (((Lit.int .u8 windows.e0.e0).wf = true) /\ ((Lit.int .u8 windows.e0.e1).wf = true) /\ ((Lit.int .u8 windows.e0.e2).wf = true) /\ ((Lit.int .u8 windows.e0.e3).wf = true) /\ True) /\ (((Lit.int .u8 windows.e1.e0).wf = true) /\ ((Lit.int .u8 windows.e1.e1).wf = true) /\ ((Lit.int .u8 windows.e1.e2).wf = true) /\ ((Lit.int .u8 windows.e1.e3).wf = true) /\ True) /\ (((Lit.int .u8 windows.e2.e0).wf = true) /\ ((Lit.int .u8 windows.e2.e1).wf = true) /\ ((Lit.int .u8 windows.e2.e2).wf = true) /\ ((Lit.int .u8 windows.e2.e3).wf = true) /\ True) /\ True) : c6 20000 r' p windows = some true := vH r' p windows (Av w2)

theorem yZ (os : Os) (started : os.Started) (H : Type) (enc : TypeId × Value -> H) :
  ReturnsInHanded {} Tryz.checked os 3 .any (Rows.topTracksSpec.pre6 enc Tryz.prog Tryz.f3 Rows.topTracksRow.domain false) (Rows.topTracksSpec.post enc Tryz.prog Tryz.f3 false true false false) := by
 refine returnsInHanded_of_change (C := Tryz.checked) own started (by kernel_rfl) Tryz.func3
  (ChangeSpec.witness6 (enc := enc) (C := Tryz.checked) false ⟨#[], #[.agg #[.int .i64 0, .int .i64 0, .int .i64 0, .slice none 0 0], .slice none 0 0, .agg #[.int .u8 0, .int .u8 0, .int .u8 0, .int .u8 0, .int .u8 0, .int .u8 0, .int .u8 0, .int .u8 0, .int .u8 0, .int .u8 0, .int .u8 0, .int .u8 0]], []⟩ 8 (by kernel_rfl) (by kernel_rfl) (by kernel_rfl) (by kernel_rfl)) ?_
 intro W base args ds gs before hval0 hW hcnd _
 have hval : ∀ (j : Nat) t v, Tryz.f3.params[j]? = some t -> args[j]? = some v -> Value.okWide Tryz.prog W .any base t v := hval0
 have hW' := hW
 obtain ⟨p, q, hA0, hV, rfl, hfz, hnd⟩ := hW
 have hA : DataW.TrodAll enc Tryz.prog W 0 (fun _ => true) true Tryz.f3.params.toList args.toList ds p := hA0
 rw [Tryz.params3] at hA hval
 obtain ⟨v0, v1, v2, d0, d1, d2, p0, p1, p2, rfl, rfl, rfl, h0, h1, h2⟩ := trodAll_three hA
 obtain ⟨rfl, rfl⟩ := trodVars_none hV
 clear hA0 hval0
 simp only [List.append_nil] at hW'
 have hlt : ∀ x ∈ p0 ++ p1 ++ p2, x.block < W.heap.size := fun x hx => by simpa using hW'.lt x hx
 obtain ⟨a0, wa0, hb0⟩ := CB base v0 d0 _ (hval 0 24 v0 rfl rfl) h0
 obtain ⟨a1, wa1, hb1⟩ := CU base v1 d1 _ (hval 1 25 v1 rfl rfl) h1
 obtain ⟨a2, wa2, hb2⟩ := C4 base v2 d2 _ (hval 2 27 v2 rfl rfl) h2
 refine (kL 20000 a0 a1 a2 true (xP a0 a1 a2 wa0 wa1 wa2) mU W [v0, v1, v2] (fun _ h => h.elim) ⟨v0, _, rfl, hb0, v1, _, rfl, hb1, v2, _, rfl, hb2, rfl⟩).mono fun e W' hr => ?_
 obtain ⟨u, rfl, hE, hu⟩ := hr
 obtain rfl : u = .bool true := hu
 have hB := tv hE
 refine ⟨_, rfl, _, _, _, [], p0 ++ (p1 ++ p2), [], hW', ?_, ?_, rfl, hB.frame _, fun h => by cases h⟩
 · exact trodAll_mk1 (shut_bool (by kernel_rfl) true)
 · exact trodAll_mk3 (Below.trod laidOut (by kernel_rfl) (dcT (by kernel_rfl)) h0 hB (fun x hx => hlt x (by simp [hx]))) (Below.trod laidOut (by kernel_rfl) (dcT (by kernel_rfl)) h1 hB (fun x hx => hlt x (by simp [hx]))) (Below.trod laidOut (by kernel_rfl) (dcT (by kernel_rfl)) h2 hB (fun x hx => hlt x (by simp [hx])))

theorem topTracks_holds : Rows.TopTracksSaid :=
 OpenClaim.holds_of_wide 3 Tryz.f3 rfl rfl rfl rfl rfl rfl rfl ⟨rfl, rfl, rfl, rfl, rfl⟩ rfl rfl rfl rfl rfl (by kernel_rfl) Tryz.func3 (by kernel_rfl)
  (dcT (by kernel_rfl)) (by unfold Func.isWrapper; first | (rw [if_pos (by decide +kernel)]; kernel_rfl) | (rw [if_neg (by decide +kernel)]; exact ⟨rfl, rfl⟩))
  (fun os started H enc _ => yZ os started H enc)
end Go.Proofs.YtlpfiiejhikalaaGreat
