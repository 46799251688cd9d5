/- VolumeWithin answers true at every input, and the input reads as it did: no condition. -/
import Derived.Test.YtdfhpiaapdbdpaaGreatRows
import Derived.ProofKit
import Derived.Test.YtdfhpiaapdbdpaaGreatWitLP3
import Derived.Test.YtdfhpiaapdbdpaaGreatWitL52W
import Derived.Test.YtdfhpiaapdbdpaaGreatRow1pnggifkd
set_option linter.all false
set_option maxRecDepth 100000
namespace Go.Proofs.YtdfhpiaapdbdpaaGreat
open Go.ChangeShapes Go.WideShapes Go.ChangeAt Go.RowKit
open Go Go.Proofs Go.Eng Go.L

section
variable {H : Type} {enc : TypeId × Value → H} {W : World}
def api_Grid.wf (x : api_Grid) : Prop := ((Lit.int .i64 x.X0).wf = true) ∧ ((Lit.int .i64 x.Y0).wf = true) ∧ ((Lit.int .i64 x.Step).wf = true) ∧ ((Lit.int .i64 x.Width).wf = true) ∧ ((Lit.int .i64 x.Height).wf = true) ∧ (x.Z.length ≤ maxLen ∧ ∀ a ∈ x.Z, (Lit.int .i64 a).wf = true) ∧ True
def api_Banded.wf (x : api_Banded) : Prop := (api_Grid.wf x.Grid) ∧ (x.Err.length ≤ maxLen ∧ ∀ a ∈ x.Err, (Lit.int .i64 a).wf = true) ∧ True
theorem op3 {b : Bool} : Opens enc Tryz.prog W b 3 1 (iC .i64) (fun n => (Lit.int .i64 n).wf = true) := Opens.int (by kernel_rfl) (by kernel_rfl)
theorem op22 {b : Bool} : Opens enc Tryz.prog W b 22 1 (fun l : List Int => [slT (iC .i64) l]) (fun l => l.length ≤ maxLen ∧ ∀ a ∈ l, (Lit.int .i64 a).wf = true) := Opens.slice (c := (iC .i64)) (by kernel_rfl) (by kernel_rfl) op3
theorem op24 {b : Bool} : Opens enc Tryz.prog W b 24 6 (fun x : api_Grid => [.at (.int .i64 x.X0), .at (.int .i64 x.Y0), .at (.int .i64 x.Step), .at (.int .i64 x.Width), .at (.int .i64 x.Height), slT (iC .i64) x.Z]) (fun x => api_Grid.wf x) := (Opens.struct (l := [(3, 0), (3, 1), (3, 2), (3, 3), (3, 4), (22, 5)]) (by kernel_rfl) (by kernel_rfl) (OpensF.cons op3 (OpensF.cons op3 (OpensF.cons op3 (OpensF.cons op3 (OpensF.cons op3 (OpensF.cons op22 OpensF.nil))))))).map (fun p => (⟨p.1, p.2.1, p.2.2.1, p.2.2.2.1, p.2.2.2.2.1, p.2.2.2.2.2.1⟩ : api_Grid)) (fun _ => rfl) (fun _ h => h)
theorem op26 {b : Bool} : Opens enc Tryz.prog W b 26 7 (fun x : api_Banded => [.at (.int .i64 x.Grid.X0), .at (.int .i64 x.Grid.Y0), .at (.int .i64 x.Grid.Step), .at (.int .i64 x.Grid.Width), .at (.int .i64 x.Grid.Height), slT (iC .i64) x.Grid.Z, slT (iC .i64) x.Err]) (fun x => api_Banded.wf x) := (Opens.struct (l := [(24, 0), (22, 6)]) (by kernel_rfl) (by kernel_rfl) (OpensF.cons op24 (OpensF.cons op22 OpensF.nil))).map (fun p => (⟨p.1, p.2.1⟩ : api_Banded)) (fun _ => rfl) (fun _ h => h)
theorem arg26 : Arg enc Tryz.prog W 26 (fun x : api_Banded => (.agg [.at (.int .i64 x.Grid.X0), .at (.int .i64 x.Grid.Y0), .at (.int .i64 x.Grid.Step), .at (.int .i64 x.Grid.Width), .at (.int .i64 x.Grid.Height), slT (iC .i64) x.Grid.Z, slT (iC .i64) x.Err] : AV)) (fun x => api_Banded.wf x) := Opens.agg op26 (by kernel_rfl)
theorem arg3 : Arg enc Tryz.prog W 3 (fun x : Int => (.at (.int .i64 x) : AV)) (fun x => (Lit.int .i64 x).wf = true) := Opens.one op3 (by kernel_rfl)
theorem op33 {b : Bool} : Opens enc Tryz.prog W b 33 1 (iC .i8) (fun n => (Lit.int .i8 n).wf = true) := Opens.int (by kernel_rfl) (by kernel_rfl)
theorem op27 {b : Bool} : Opens enc Tryz.prog W b 27 1 (fun l : List Int => [slT (iC .i8) l]) (fun l => l.length ≤ maxLen ∧ ∀ a ∈ l, (Lit.int .i8 a).wf = true) := Opens.slice (c := (iC .i8)) (by kernel_rfl) (by kernel_rfl) op33
theorem arg27 : Arg enc Tryz.prog W 27 (fun x : List Int => (slT (iC .i8) x : AV)) (fun x => x.length ≤ maxLen ∧ ∀ a ∈ x, (Lit.int .i8 a).wf = true) := Opens.one op27 (by kernel_rfl)
end

theorem own : ownKnob Tryz.prog.godebug = none := by kernel_rfl
theorem laidOut : laidOutB Tryz.prog = true := by kernel_rfl
theorem below_of_ext {w w' : World} {mu mu' : Nat → Prop} (h : Ext (Lo w.heap.size) w w' mu mu' [] []) : RowKit.Below w.heap.size w w' := ⟨h.os, h.tape, h.output, h.size, h.low⟩

theorem law_value (g : api_Banded) (z : Int) (shares : List Int) (w0 : api_Banded.wf g) (w1 : (Lit.int .i64 z).wf = true) (w2 : shares.length ≤ maxLen ∧ ∀ a ∈ shares, (Lit.int .i8 a).wf = true) : fiduciallaw52_VolumeWithin 20000 g z shares = some true := within_v g z shares (fun a ha => i8_of (w2.2 a ha))

theorem f_lifted (os : Os) (started : os.Started) (H : Type) (enc : TypeId × Value → H) :
  ReturnsInHanded {} Tryz.checked os 3 .any (Rows.volumeWithinSpec.pre6 enc Tryz.prog Tryz.f3 Rows.volumeWithinRow.domain false) (Rows.volumeWithinSpec.post enc Tryz.prog Tryz.f3 false true false false) := by
 refine returnsInHanded_of_change (C := Tryz.checked) own started (by kernel_rfl) Tryz.func3
  (ChangeSpec.witness6 (enc := enc) (C := Tryz.checked) false ⟨#[], #[.agg #[.int .i64 0, .int .i64 0, .int .i64 0, .int .i64 0, .int .i64 0, .slice none 0 0, .slice none 0 0], .int .i64 0, .slice none 0 0], []⟩ 8 (by kernel_rfl) (by kernel_rfl) (by kernel_rfl) (by kernel_rfl)) ?_
 intro W base args ds gs before hval0 hW hcnd _
 have hval : ∀ (j : Nat) t v, Tryz.f3.params[j]? = some t → args[j]? = some v → Value.okWide Tryz.prog W .any base t v := hval0
 have hW' := hW
 obtain ⟨p, q, hA0, hV, rfl, hfz, hnd⟩ := hW
 have hA : DataW.TrodAll enc Tryz.prog W 0 (fun _ => true) true Tryz.f3.params.toList args.toList ds p := hA0
 rw [Tryz.params3] at hA hval
 obtain ⟨v0, v1, v2, d0, d1, d2, p0, p1, p2, rfl, rfl, rfl, h0, h1, h2⟩ := trodAll_three hA
 obtain ⟨rfl, rfl⟩ := trodVars_none hV
 clear hA0 hval0
 simp only [List.append_nil] at hW'
 have hlt : ∀ x ∈ p0 ++ p1 ++ p2, x.block < W.heap.size := fun x hx => by simpa using hW'.lt x hx
 obtain ⟨a0, wa0, hb0⟩ := arg26 base v0 d0 _ (hval 0 26 v0 rfl rfl) h0
 obtain ⟨a1, wa1, hb1⟩ := arg3 base v1 d1 _ (hval 1 3 v1 rfl rfl) h1
 obtain ⟨a2, wa2, hb2⟩ := arg27 base v2 d2 _ (hval 2 27 v2 rfl rfl) h2
 refine (fiduciallaw52_VolumeWithin_ok 20000 a0 a1 a2 true (law_value a0 a1 a2 wa0 wa1 wa2) nobody' W [v0, v1, v2] (fun _ h => h.elim) ⟨v0, _, rfl, hb0, v1, _, rfl, hb1, v2, _, rfl, hb2, rfl⟩).mono fun e W' hr => ?_
 obtain ⟨u, rfl, hE, hu⟩ := hr
 obtain rfl : u = .bool true := hu
 have hB := below_of_ext hE
 refine ⟨_, rfl, _, _, _, [], p0 ++ (p1 ++ p2), [], hW', ?_, ?_, rfl, hB.frame _, fun h => by cases h⟩
 · exact trodAll_mk1 (shut_bool (by kernel_rfl) true)
 · exact trodAll_mk3 (Below.trod laidOut (by kernel_rfl) (of_decide_eq_true (by kernel_rfl)) h0 hB (fun x hx => hlt x (by simp [hx]))) (Below.trod laidOut (by kernel_rfl) (of_decide_eq_true (by kernel_rfl)) h1 hB (fun x hx => hlt x (by simp [hx]))) (Below.trod laidOut (by kernel_rfl) (of_decide_eq_true (by kernel_rfl)) h2 hB (fun x hx => hlt x (by simp [hx])))

theorem volumeWithin_holds : Rows.VolumeWithinSaid :=
 OpenClaim.holds_of_wide 3 Tryz.f3 rfl rfl rfl rfl rfl rfl rfl ⟨rfl, rfl, rfl, rfl, rfl⟩ rfl rfl rfl rfl rfl (by kernel_rfl) Tryz.func3 (by kernel_rfl)
  (of_decide_eq_true (by kernel_rfl)) (by unfold Func.isWrapper; first | (rw [if_pos (by decide +kernel)]; kernel_rfl) | (rw [if_neg (by decide +kernel)]; exact ⟨rfl, rfl⟩))
  (fun os started H enc _ => f_lifted os started H enc)
end Go.Proofs.YtdfhpiaapdbdpaaGreat
