/- What the functions of fiduciallaw51, change and fiduciallaw59 compute that the law ChangeChecks reaches. -/
import Derived.Test.YtlajgmapmocpbaaChecks
set_option linter.unusedSimpArgs false
set_option linter.unusedVariables false
namespace Go.Proofs.Ytlajgmapmocpbaa
open Go Go.RowKit Go.Proofs Go.Eng

theorem out_ok : ExtOk Try.prog 43 farF := by
  refine ext_of_body (inl := fun _ => false) noNG follows X0_ok Try.func43 fun args r h => ?_
  obtain ⟨z, rfl, rfl⟩ := mkF_inv h
  refine ⟨50, runPure_EV rfl rfl Try.ntmps43 rfl ?_⟩
  simp only [go_sem, Nat.reduceAdd, Nat.reduceSub]
  refine EVG_cases (fun hb => ?_) (fun hb => ?_) <;> simp only [hb, go_sem, Nat.reduceAdd, Nat.reduceSub]
  all_goals (simp_all [far] <;> omega)

noncomputable def X51 : FuncId → Option (List AV → Option AV) := addX 43 farF X0
theorem X51_ok : ∀ f F, X51 f = some F → ExtOk Try.prog f F := addX_ok out_ok X0_ok

set_option maxHeartbeats 2000000 in
theorem check51_ok : ExtOk Try.prog 35 chkF := by
  refine ext_of_body (inl := fun _ => false) noNG follows X51_ok Try.func35 fun args r h => ?_
  obtain ⟨⟨x0, y0, step, w, ht, z, hz⟩, rfl, rfl⟩ := mkF_inv h
  clear h
  refine ⟨z.length + 50, runPure_EV rfl rfl Try.ntmps35 rfl ?_⟩
  have q1 : X51 43 = some farF := rfl
  have d20 : decide ((2 : Int) = 0) = false := rfl
  simp only [go_sem, Grd.cells, q1, d20, iv, Nat.reduceAdd, Nat.reduceSub, Nat.reduceLT]
  have fin2 : gridBad ⟨x0, y0, step, w, ht, z, hz⟩ = true → chk ⟨x0, y0, step, w, ht, z, hz⟩ = 2 := fun hg => by simp [chk, hg]
  repeat
    refine EVG_cases (fun hb => ?_) (fun hb => ?_)
    · simp only [hb, d20, go_sem, q1, farF_at, Nat.reduceAdd, Nat.reduceSub, Nat.reduceLT]
      rw [fin2 (by clear fin2 q1 d20; simp_all [gridBad] <;> omega)]
    simp only [hb, d20, go_sem, q1, farF_at, Nat.reduceAdd, Nat.reduceSub, Nat.reduceLT]
  refine EVC_cases (fun hb => ?_) (fun hb => ?_)
  · simp only [hb, go_sem, Nat.reduceAdd, Nat.reduceSub]
    rw [fin2 (by clear fin2 q1 d20; simp_all [gridBad])]
  simp only [hb, d20, go_sem, Nat.reduceAdd, Nat.reduceSub, Nat.reduceLT]
  have hbad : gridBad ⟨x0, y0, step, w, ht, z, hz⟩ = false := by clear fin2 q1 d20; simp_all [gridBad] <;> omega
  refine EVC_cases (fun hl => ?_) (fun hl => ?_)
  · simp only [hl, go_sem, Nat.reduceAdd, Nat.reduceSub]
    simp [chk, hbad, hl]
  simp only [hl, go_sem, Nat.reduceAdd, Nat.reduceSub, Nat.reduceLT]
  refine EV_loopW [4, 61, 62, 63, 64, 65, 66, 67, 68, 69, 70, 71] (fun m v h => h = [.own [.at (.int .i64 x0), .at (.int .i64 y0), .at (.int .i64 step), .at (.int .i64 w), .at (.int .i64 ht), .sl true (z.map iv) z.length]] ∧ ∃ (k : Nat) (u4 u62 u63 u64 u65 u66 u67 u68 u69 u70 u71 : AV), m + k = z.length ∧ (∀ j, j < k → badH (z[j]?.getD 0) = false) ∧
    v = [u4, .at (.int .i64 k), u62, u63, u64, u65, u66, u67, u68, u69, u70, u71]) z.length (by omega) [.unk, .at (.int .i64 0), .unk, .unk, .unk, .unk, .unk, .unk, .unk, .unk, .unk, .unk] rfl
    ⟨rfl, 0, _, _, _, _, _, _, _, _, _, _, _, by simp, by simp, rfl⟩ ?_
  rintro m v h ⟨rfl, k, u4, u62, u63, u64, u65, u66, u67, u68, u69, u70, u71, hk, hpre, rfl⟩
  simp only [go_sem, Nat.reduceAdd, Nat.reduceSub]
  refine EVC_cases (fun hb => ?_) (fun hb => ?_)
  · have hlt : k < z.length := by simpa using hb
    have h0 : decide ((0 : Int) ≤ (k : Int)) = true := by simp
    have hc : (z.map iv)[k]? = some (.at (.int .i64 (z[k]?.getD 0))) := by simp [hlt, iv]
    have hw : wrapF .i64 ((k : Int) + 1) = ((k + 1 : Nat) : Int) := by rw [wrap_nat (by omega) (by omega)]; omega
    simp only [hb, h0, hc, q1, hw, go_sem, Nat.reduceAdd, Nat.reduceSub, Int.toNat_natCast, Nat.mul_one]
    have go : badH (z[k]?.getD 0) = false → ∀ j, j < k + 1 → badH (z[j]?.getD 0) = false := fun hf j hj => by
      by_cases hjk : j < k
      · exact hpre j hjk
      · rw [show j = k by omega]; exact hf
    refine EVG_cases (fun hb2 => ?_) (fun hb2 => ?_)
    · simp only [hb2, q1, hw, farF_at, go_sem, Nat.reduceAdd, Nat.reduceSub, Nat.reduceLT]
      refine EVC_cases (fun hb3 => ?_) (fun hb3 => ?_)
      · simp only [hb3, go_sem, Nat.reduceAdd, Nat.reduceSub]
        have hbk : badH (z[k]?.getD 0) = true := by simp only [badH, hb3]; simpa using hb2
        have := idxOf_at hlt hpre hbk
        have hl' : ((z.length : Int) != wrapF .i64 (w * ht)) = false := hl
        simp [chk, hbad, this, hl']
      · simp only [hb3, hw, go_sem, Nat.reduceAdd, Nat.reduceSub]
        exact ⟨m - 1, by omega, [_, _, _, _, _, _, _, _, _, _, _, _], rfl, trivial, k + 1, _, _, _, _, _, _, _, _, _, _, _, by omega, go (by simp [badH, hb3]), rfl⟩
    · simp only [hb2, hw, go_sem, Nat.reduceAdd, Nat.reduceSub, Nat.reduceLT]
      refine ⟨m - 1, by omega, [_, _, _, _, _, _, _, _, _, _, _, _], rfl, trivial, k + 1, _, _, _, _, _, _, _, _, _, _, _, by omega, go ?_, rfl⟩
      simp only [badH]; simp_all
  · have hge : ¬ k < z.length := by simpa using hb
    simp only [hb, go_sem, Nat.reduceAdd, Nat.reduceSub]
    have := idxOf_none (p := badH) (zs := z) fun j hj => hpre j (by omega)
    simp [chk, hbad, this]; simp_all
end Go.Proofs.Ytlajgmapmocpbaa
