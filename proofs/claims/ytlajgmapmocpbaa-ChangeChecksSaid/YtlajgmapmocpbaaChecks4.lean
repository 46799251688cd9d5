/- What fiduciallaw59.check and few compute. -/
import Derived.Test.YtlajgmapmocpbaaChecks3
set_option linter.unusedSimpArgs false
set_option linter.unusedVariables false
namespace Go.Proofs.Ytlajgmapmocpbaa
open Go Go.RowKit Go.Proofs Go.Eng

noncomputable def XL : FuncId → Option (List AV → Option AV) := addX 23 chkF X0
theorem XL_ok : ∀ f F, XL f = some F → ExtOk Try.prog f F := addX_ok checked_ok X0_ok

set_option maxHeartbeats 2000000 in
theorem law_check_ok : ExtOk Try.prog 9 chkBF := by
  refine ext_of_body (inl := fun _ => false) noNG follows XL_ok Try.func9 fun args r h => ?_
  obtain ⟨⟨⟨x0, y0, step, w, ht, z, hz⟩, e, he⟩, rfl, rfl⟩ := mkF_inv h
  clear h
  refine ⟨e.length + 50, runPure_EV rfl rfl Try.ntmps9 rfl ?_⟩
  have q1 : XL 23 = some chkF := rfl
  simp only [go_sem, Bnd.cells, q1, iv, chkF_at hz, Nat.reduceAdd, Nat.reduceSub, Nat.reduceLT, Nat.reduceLeDiff, decide_true]
  refine EVC_cases (fun hb => ?_) (fun hb => ?_)
  · simp only [hb, go_sem, Nat.reduceAdd, Nat.reduceSub]
    simp only [chkB, hb, if_true]
  simp only [hb, go_sem, Nat.reduceAdd, Nat.reduceSub, Nat.reduceLT]
  refine EVC_cases (fun hl => ?_) (fun hl => ?_)
  · simp only [hl, go_sem, Nat.reduceAdd, Nat.reduceSub]
    simp [chkB, hb, hl]
  simp only [hl, go_sem, Nat.reduceAdd, Nat.reduceSub, Nat.reduceLT]
  refine EV_loopW [5, 23, 24, 25, 26, 27, 28, 29, 30, 31, 32, 33] (fun m v h => h = [.own [.at (.int .i64 x0), .at (.int .i64 y0), .at (.int .i64 step), .at (.int .i64 w), .at (.int .i64 ht), .sl true (z.map iv) z.length, .sl true (e.map iv) e.length]] ∧ ∃ (k : Nat) (u5 u24 u25 u26 u27 u28 u29 u30 u31 u32 u33 : AV), m + k = e.length ∧ (∀ j, j < k → badE (e[j]?.getD 0) = false) ∧
    v = [u5, .at (.int .i64 k), u24, u25, u26, u27, u28, u29, u30, u31, u32, u33]) e.length (by omega) [.unk, .at (.int .i64 0), .unk, .unk, .unk, .unk, .unk, .unk, .unk, .unk, .unk, .unk] rfl
    ⟨rfl, 0, _, _, _, _, _, _, _, _, _, _, _, by simp, by simp, rfl⟩ ?_
  rintro m v h ⟨rfl, k, u5, u24, u25, u26, u27, u28, u29, u30, u31, u32, u33, hk, hpre, rfl⟩
  simp only [go_sem, Nat.reduceAdd, Nat.reduceSub]
  refine EVC_cases (fun hb1 => ?_) (fun hb1 => ?_)
  · have hlt : k < e.length := by simpa using hb1
    have h0 : decide ((0 : Int) ≤ (k : Int)) = true := by simp
    have hc : (e.map iv)[k]? = some (.at (.int .i64 (e[k]?.getD 0))) := by simp [hlt, iv]
    have hw : wrapF .i64 ((k : Int) + 1) = ((k + 1 : Nat) : Int) := by rw [wrap_nat (by omega) (by omega)]; omega
    have bad : badE (e[k]?.getD 0) = true → chkB ⟨⟨x0, y0, step, w, ht, z, hz⟩, e, he⟩ = 2 := fun hbk => by
      have := idxOf_at hlt hpre hbk
      simp [chkB, hb, hl, this]
    have go : badE (e[k]?.getD 0) = false → ∀ j, j < k + 1 → badE (e[j]?.getD 0) = false := fun hf j hj => by
      by_cases hjk : j < k
      · exact hpre j hjk
      · rw [show j = k by omega]; exact hf
    simp only [hb1, h0, hc, q1, hw, go_sem, Nat.reduceAdd, Nat.reduceSub, Int.toNat_natCast, Nat.mul_one]
    refine EVG_cases (fun hb2 => ?_) (fun hb2 => ?_)
    · simp only [hb2, hw, go_sem, Nat.reduceAdd, Nat.reduceSub, Nat.reduceLT]
      rw [bad (by simp [badE, hb2])]
    · simp only [hb2, hw, go_sem, Nat.reduceAdd, Nat.reduceSub, Nat.reduceLT]
      refine EVC_cases (fun hb3 => ?_) (fun hb3 => ?_)
      · simp only [hb3, go_sem, Nat.reduceAdd, Nat.reduceSub]
        rw [bad (by simp [badE, hb3])]
      · simp only [hb3, hw, go_sem, Nat.reduceAdd, Nat.reduceSub]
        exact ⟨m - 1, by omega, [_, _, _, _, _, _, _, _, _, _, _, _], rfl, trivial, k + 1, _, _, _, _, _, _, _, _, _, _, _, by omega, go (by simp only [badE, hb2, hb3, Bool.or_self]), rfl⟩
  · have hge : ¬ k < e.length := by simpa using hb1
    simp only [hb1, go_sem, Nat.reduceAdd, Nat.reduceSub]
    have := idxOf_none (p := badE) (zs := e) fun j hj => hpre j (by omega)
    simp [chkB, hb, hl, this]

/-- A list of one grid. -/
def fewB (b : Bnd) : Bool := !(decide ((b.g.z.length : Int) > 64) || decide ((b.e.length : Int) > 70))
noncomputable def few1F : List AV → Option AV := mkF (fun b : Bnd => [.sl false b.cells 1]) (fun b => .at (.bool (fewB b)))
set_option maxHeartbeats 2000000 in
theorem few1_ok : ExtOk Try.prog 7 few1F := by
  refine ext_of_body (inl := fun _ => false) noNG follows X0_ok Try.func7 fun args r h => ?_
  obtain ⟨⟨⟨x0, y0, step, w, ht, z, hz⟩, e, he⟩, rfl, rfl⟩ := mkF_inv h
  clear h
  refine ⟨50, runPure_EV rfl rfl Try.ntmps7 rfl ?_⟩
  simp only [go_sem, Bnd.cells, iv, Nat.reduceAdd, Nat.reduceSub, Nat.reduceLT, Nat.reduceLeDiff, decide_true]
  refine EV_rounds (EVI_step ?_)
  have d1 : decide ((0 : Int) < ((1 : Nat) : Int)) = true := rfl
  have d2 : decide ((0 : Int) ≤ 0) = true := rfl
  have d3 : decide (wrapF .i64 ((0 : Int) + 1) < ((1 : Nat) : Int)) = false := rfl
  simp only [go_sem, d1, d2, Int.reduceToNat, Nat.reduceMul, Nat.reduceAdd, Nat.reduceSub, Nat.reduceLT, Nat.reduceLeDiff, decide_true]
  refine EVG_cases (fun hb => ?_) (fun hb => ?_)
  · simp only [hb, go_sem, Nat.reduceAdd, Nat.reduceSub, Nat.reduceLT, Nat.reduceLeDiff, decide_true]
    simp only [fewB, hb, Bool.true_or, Bool.not_true]
  · simp only [hb, go_sem, Nat.reduceAdd, Nat.reduceSub, Nat.reduceLT, Nat.reduceLeDiff, decide_true]
    refine EVC_cases (fun hc => ?_) (fun hc => ?_)
    · simp only [hc, go_sem, Nat.reduceAdd, Nat.reduceSub, Nat.reduceLT, Nat.reduceLeDiff, decide_true]
      simp only [fewB, hc, Bool.or_true, Bool.not_true]
    · simp only [hc, go_sem, Nat.reduceAdd, Nat.reduceSub, Nat.reduceLT, Nat.reduceLeDiff, decide_true]
      refine EVI_step ?_
      simp only [d3, go_sem, Nat.reduceAdd, Nat.reduceSub, Nat.reduceLT, Nat.reduceLeDiff, decide_true]
      simp only [fewB, hb, hc, Bool.or_false, Bool.not_false]
end Go.Proofs.Ytlajgmapmocpbaa
