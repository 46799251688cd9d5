/- What change.Check and fiduciallaw59.check compute. -/
import Derived.Test.YtlajgmapmocpbaaChecks2
set_option linter.unusedSimpArgs false
set_option linter.unusedVariables false
namespace Go.Proofs.Ytlajgmapmocpbaa
open Go Go.RowKit Go.Proofs Go.Eng

theorem iv_inj1 {a b : Int} (h : iv a = iv b) : a = b := by unfold iv at h; injection h with h; injection h
theorem cells_inj {a b : Grd} (h : a.cells = b.cells) : a = b := by
  obtain ⟨x0, y0, step, w, ht, z, hz⟩ := a
  obtain ⟨x0', y0', step', w', ht', z', hz'⟩ := b
  simp only [Grd.cells, List.cons.injEq, AV.sl.injEq, true_and, and_true] at h
  obtain ⟨h1, h2, h3, h4, h5, h6, _⟩ := h
  rw [iv_inj1 h1, iv_inj1 h2, iv_inj1 h3, iv_inj1 h4, iv_inj1 h5]
  have := iv_inj h6
  subst this
  rfl
theorem chkF_at {x0 y0 step w ht : Int} {z : List Int} (hz : z.length ≤ 9223372036854775807) : chkF [.agg [.at (.int .i64 x0), .at (.int .i64 y0), .at (.int .i64 step), .at (.int .i64 w), .at (.int .i64 ht), .sl true (z.map iv) z.length]] = some (.at (.int .i64 (chk ⟨x0, y0, step, w, ht, z, hz⟩))) :=
  mkF_at (enc := fun g : Grd => [.agg g.cells]) (by
    intro a b h
    injection h with h _; injection h with h
    rw [cells_inj h]) ⟨x0, y0, step, w, ht, z, hz⟩

noncomputable def X51b : FuncId → Option (List AV → Option AV) := addX 35 chkF X0
theorem X51b_ok : ∀ f F, X51b f = some F → ExtOk Try.prog f F := addX_ok check51_ok X0_ok
theorem checked_ok : ExtOk Try.prog 23 chkF := by
  refine ext_of_body (inl := fun _ => false) noNG follows X51b_ok Try.func23 fun args r h => ?_
  obtain ⟨⟨x0, y0, step, w, ht, z, hz⟩, rfl, rfl⟩ := mkF_inv h
  clear h
  refine ⟨50, runPure_EV rfl rfl Try.ntmps23 rfl ?_⟩
  have q1 : X51b 35 = some chkF := rfl
  simp only [go_sem, Grd.cells, q1, iv, chkF_at hz, Nat.reduceAdd, Nat.reduceSub, Nat.reduceLT, Nat.reduceLeDiff, decide_true]

def badE (n : Int) : Bool := decide (n < 0) || decide (n > 1048576)
noncomputable def badEF : List AV → Option AV := mkF (fun z : Int => [.at (.int .i64 z)]) (fun z => .at (.bool (badE z)))
theorem badEF_at (z : Int) : badEF [.at (.int .i64 z)] = some (.at (.bool (badE z))) := mkF_at (enc := fun z : Int => [.at (.int .i64 z)]) (by intro a b h; simp at h; rw [h]) z
theorem badE_ok : ExtOk Try.prog 22 badEF := by
  refine ext_of_body (inl := fun _ => false) noNG follows X0_ok Try.func22 fun args r h => ?_
  obtain ⟨z, rfl, rfl⟩ := mkF_inv h
  refine ⟨50, runPure_EV rfl rfl Try.ntmps22 rfl ?_⟩
  simp only [go_sem, Nat.reduceAdd, Nat.reduceSub]
  refine EVG_cases (fun hb => ?_) (fun hb => ?_) <;> simp only [hb, go_sem, Nat.reduceAdd, Nat.reduceSub]
  all_goals (simp_all [badE] <;> omega)

structure Bnd where
  g : Grd
  e : List Int
  he : e.length ≤ 9223372036854775807
def Bnd.cells (b : Bnd) : List AV := [iv b.g.x0, iv b.g.y0, iv b.g.step, iv b.g.w, iv b.g.h, .sl true (b.g.z.map iv) b.g.z.length, .sl true (b.e.map iv) b.e.length]
def chkB (b : Bnd) : Int := if chk b.g != 0 then chk b.g else if (b.e.length : Int) != b.g.z.length then 4 else if idxOf badE b.e ≥ 0 then 2 else 0
noncomputable def chkBF : List AV → Option AV := mkF (fun b : Bnd => [.agg b.cells]) (fun b => iv (chkB b))

noncomputable def XB : FuncId → Option (List AV → Option AV) := addX 20 chkF (addX 21 (ctF 22 badE) (addX 34 (ixF 22 badE) (addX 22 badEF X0)))
theorem XB_ok : ∀ f F, XB f = some F → ExtOk Try.prog f F := by
  have h1 := addX_ok badE_ok X0_ok
  have h2 := addX_ok (index_ok (g := 22) (p := badE) h1 cb22 rfl badEF_at) h1
  exact addX_ok terrain_ok (addX_ok (contains_ok h2 rfl) h2)

theorem change_ok : ExtOk Try.prog 8 chkBF := by
  refine ext_of_body (inl := fun _ => false) noNG follows XB_ok Try.func8 fun args r h => ?_
  obtain ⟨⟨⟨x0, y0, step, w, ht, z, hz⟩, e, he⟩, rfl, rfl⟩ := mkF_inv h
  clear h
  refine ⟨50, runPure_EV rfl rfl Try.ntmps8 rfl ?_⟩
  have q1 : XB 20 = some chkF := rfl
  have q2 : XB 21 = some (ctF 22 badE) := rfl
  simp only [go_sem, Bnd.cells, q1, q2, iv, chkF_at hz, Nat.reduceAdd, Nat.reduceSub, Nat.reduceLT, Nat.reduceLeDiff, decide_true]
  refine EVC_cases (fun hb => ?_) (fun hb => ?_)
  · simp only [hb, go_sem, Nat.reduceAdd, Nat.reduceSub]
    simp only [chkB, hb, if_true]
  simp only [hb, go_sem, Nat.reduceAdd, Nat.reduceSub, Nat.reduceLT]
  refine EVC_cases (fun hl => ?_) (fun hl => ?_)
  · simp only [hl, go_sem, Nat.reduceAdd, Nat.reduceSub]
    simp [chkB, hb, hl]
  simp only [hl, go_sem, q2, ctF_at he, Nat.reduceAdd, Nat.reduceSub, Nat.reduceLT]
  refine EVC_cases (fun hi => ?_) (fun hi => ?_)
  · simp only [hi, go_sem, Nat.reduceAdd, Nat.reduceSub]
    simp_all [chkB]
  · simp only [hi, go_sem, Nat.reduceAdd, Nat.reduceSub]
    simp_all [chkB]
end Go.Proofs.Ytlajgmapmocpbaa
