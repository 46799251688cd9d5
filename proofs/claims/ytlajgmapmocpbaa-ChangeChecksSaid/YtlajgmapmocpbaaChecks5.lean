/- The law ChangeChecks: whatever the grid, it answers true. -/
import Derived.Test.YtlajgmapmocpbaaChecks4
import Derived.Test.YtlajgmapmocpbaaKnown
set_option linter.unusedSimpArgs false
set_option linter.unusedVariables false
namespace Go.Proofs.Ytlajgmapmocpbaa
open Go Go.RowKit Go.Proofs Go.Eng

def F0 : List AV → Option AV := fun args => match args with | [] => some (.at (.bool true)) | _ => none
theorem F0_at : F0 [] = some (.at (.bool true)) := rfl
theorem F0_ok : ExtOk Try.prog 6 F0 := by
  intro args r h out w vs hout ha
  unfold F0 at h
  split at h
  · cases h; exact known_ok out w vs hout ha
  · cases h

theorem bcells_inj {a b : Bnd} (h : a.cells = b.cells) : a = b := by
  obtain ⟨⟨x0, y0, step, w, ht, z, hz⟩, e, he⟩ := a
  obtain ⟨⟨x0', y0', step', w', ht', z', hz'⟩, e', he'⟩ := b
  simp only [Bnd.cells, List.cons.injEq, AV.sl.injEq, true_and, and_true] at h
  obtain ⟨h1, h2, h3, h4, h5, ⟨h6, _⟩, h7, _⟩ := h
  rw [iv_inj1 h1, iv_inj1 h2, iv_inj1 h3, iv_inj1 h4, iv_inj1 h5]
  have := iv_inj h6
  subst this
  have := iv_inj h7
  subst this
  rfl
theorem chkBF_at {x0 y0 step w ht : Int} {z e : List Int} (hz : z.length ≤ 9223372036854775807) (he : e.length ≤ 9223372036854775807) : chkBF [.agg [.at (.int .i64 x0), .at (.int .i64 y0), .at (.int .i64 step), .at (.int .i64 w), .at (.int .i64 ht), .sl true (z.map iv) z.length, .sl true (e.map iv) e.length]] = some (.at (.int .i64 (chkB ⟨⟨x0, y0, step, w, ht, z, hz⟩, e, he⟩))) :=
  mkF_at (enc := fun b : Bnd => [.agg b.cells]) (by
    intro a b h
    injection h with h _; injection h with h
    rw [bcells_inj h]) ⟨⟨x0, y0, step, w, ht, z, hz⟩, e, he⟩
theorem few1F_at {x0 y0 step w ht : Int} {z e : List Int} (hz : z.length ≤ 9223372036854775807) (he : e.length ≤ 9223372036854775807) : few1F [.sl false [.at (.int .i64 x0), .at (.int .i64 y0), .at (.int .i64 step), .at (.int .i64 w), .at (.int .i64 ht), .sl true (z.map iv) z.length, .sl true (e.map iv) e.length] 1] = some (.at (.bool (fewB ⟨⟨x0, y0, step, w, ht, z, hz⟩, e, he⟩))) :=
  mkF_at (enc := fun b : Bnd => [.sl false b.cells 1]) (by
    intro a b h
    injection h with h _; injection h with _ h _
    rw [bcells_inj h]) ⟨⟨x0, y0, step, w, ht, z, hz⟩, e, he⟩

noncomputable def XW : FuncId → Option (List AV → Option AV) := addX 6 F0 (addX 7 few1F (addX 8 chkBF (addX 9 chkBF X0)))
theorem XW_ok : ∀ f F, XW f = some F → ExtOk Try.prog f F := addX_ok F0_ok (addX_ok few1_ok (addX_ok change_ok (addX_ok law_check_ok X0_ok)))

noncomputable def lawF : List AV → Option AV := mkF (fun b : Bnd => [.agg b.cells]) (fun _ => .at (.bool true))
set_option maxHeartbeats 2000000 in
theorem law_ok : ExtOk Try.prog 3 lawF := by
  refine ext_of_body (inl := fun _ => false) noNG follows XW_ok Try.func3 fun args r h => ?_
  obtain ⟨⟨⟨x0, y0, step, w, ht, z, hz⟩, e, he⟩, rfl, rfl⟩ := mkF_inv h
  clear h
  refine ⟨50, runPure_EV rfl rfl Try.ntmps3 rfl ?_⟩
  have q0 : XW 6 = some F0 := rfl
  have q1 : XW 7 = some few1F := rfl
  have q2 : XW 8 = some chkBF := rfl
  have q3 : XW 9 = some chkBF := rfl
  simp only [go_sem, Bnd.cells, q0, q1, q2, q3, F0_at, few1F_at hz he, iv, Nat.reduceMul, Nat.zero_add, List.foldl, reach, blkIds, List.filter, List.contains_cons, List.contains_nil, BEq.rfl, Bool.or_false, Bool.or_true, Bool.true_or, List.flatMap_cons, List.flatMap_nil, Nat.reduceBEq, Nat.reduceAdd, Nat.reduceSub, Nat.reduceLT, Nat.reduceLeDiff, decide_true]
  refine EVC_cases (fun hb => ?_) (fun hb => ?_)
  · simp only [hb, go_sem, Nat.reduceAdd, Nat.reduceSub]
  simp only [hb, go_sem, q2, q3, chkBF_at hz he, Nat.reduceMul, Nat.zero_add, reach, List.contains_nil, List.flatMap_nil, List.filter, Nat.reduceAdd, Nat.reduceSub, Nat.reduceLT, Nat.reduceLeDiff, decide_true]
  refine ⟨trivial, trivial, trivial, trivial, trivial, trivial, by kernel_rfl, ?_⟩
  simp
end Go.Proofs.Ytlajgmapmocpbaa
