/- Layer 9 in plain Lean: the reference's ends. -/
import Derived.Test.YtlajgmapmocpbaaGreatMeetL09c
import Derived.Test.YtlajgmapmocpbaaGreatMeetL09bt
set_option linter.unusedVariables false
set_option linter.unusedSimpArgs false
namespace Go.L
open Go Go.Eng

/-! The reference. -/
theorem again_v {n : Nat} {out : List api_Pix} {p : api_Pix} (hn : out.length < n) (hl : out.length ≤ 1000) :
    loopO (α := Bool × Int) (β := Bool) n (fun again (g, j) => (cdO (decide (j < (out.length : Int))) (cdO g (again (true, wrapF .i64 (j + 1))) (gdO (inR j out.length) (again ((((gt out j).X : Int) == p.X) && ((((gt out j).Y : Int) == p.Y) && true), wrapF .i64 (j + 1))))) (some g))) (false, 0) = some (out.any (eqP p)) := by
  apply Ok.eq
  refine ok_rangeR (len := out.length) (fun k g => (g = true → out.any (eqP p) = true) ∧ (g = false → ∀ j, j < k → eqP p (out.getD j default) = false)) hn (by omega) ⟨by simp, fun _ j hj => by omega⟩ ?_ ?_
  · intro again k g hk hP ih
    refine Ok.cd (fun _ => ?_) (fun h => ?_)
    · refine Ok.cd (fun hg => ih _ ⟨fun _ => hP.1 hg, fun h => by cases h⟩) (fun hg => ?_)
      refine Ok.gd (by rw [inR_nat]; simpa using hk) (ih _ ?_)
      rw [gt_nat]
      have e : (((out.getD k default).X : Int) == p.X && (((out.getD k default).Y : Int) == p.Y && true)) = eqP p (out.getD k default) := eqP_comm _ _
      rw [e]
      refine ⟨fun h => any_of_at hk h, fun h j hj => ?_⟩
      by_cases hjk : j = k
      · rw [hjk]; exact h
      · exact hP.2 hg j (by omega)
    · simp at h; omega
  · intro again g hP
    refine Ok.cd (fun h => ?_) (fun _ => ?_)
    · simp at h
    · refine ok_some.2 ?_
      cases g with
      | true => exact (hP.1 rfl).symm
      | false => exact (any_false_iff.2 (hP.2 rfl)).symm
theorem rends_v {n : Nat} (h : 10 < n) (a b c d : api_Pix) : fiducialref09_ends n a b c d = some (endsL a b c d (betwB c d a) (betwB c d b) (betwB a b c) (betwB a b d)) := by
  have l1 := addE_len [] a (betwB c d a)
  have l2 := addE_len (addE [] a (betwB c d a)) b (betwB c d b)
  have l3 := addE_len (addE (addE [] a (betwB c d a)) b (betwB c d b)) c (betwB a b c)
  simp only [List.length_nil] at l1
  have fin : ∀ (l : List api_Pix) (p : api_Pix) (lies : Bool) (again : List api_Pix × Int → Option (List api_Pix)) (i : Int), l.length ≤ 1000 →
      cdO lies (cdO (!(l.any (eqP p))) (gdO (decide ((l.length + 1) * 16 ≤ 140737488355328)) (gdO (decide (l.length + 1 ≤ 4611686018427387904)) (again (l ++ [p], i)))) (again (l, i))) (again (l, i)) = again (addE l p lies, i) := by
    intro l p lies again i hl
    have g1 : decide ((l.length + 1) * 16 ≤ 140737488355328) = true := by simp; omega
    have g2 : decide (l.length + 1 ≤ 4611686018427387904) = true := by simp; omega
    rw [g1, g2]
    unfold addE
    cases lies with
    | false => rfl
    | true => cases l.any (eqP p) <;> rfl
  unfold fiducialref09_ends
  apply Ok.eq
  refine Ok.bd (R := fun o => o = endsL a b c d (betwB c d a) (betwB c d b) (betwB a b c) (betwB a b d)) ?_ (fun r hr => ok_some.2 hr)
  refine ok_rangeR (len := 4) (fun k out => out = match k with | 0 => [] | 1 => addE [] a (betwB c d a) | 2 => addE (addE [] a (betwB c d a)) b (betwB c d b) | 3 => addE (addE (addE [] a (betwB c d a)) b (betwB c d b)) c (betwB a b c) | _ => endsL a b c d (betwB c d a) (betwB c d b) (betwB a b c) (betwB a b d)) (by omega) (by omega) rfl ?_ ?_
  · intro again k out hk hP ih
    simp only [rbetween_v h, bdO]
    match k, hk, hP, ih with
    | 0, _, hP, ih =>
      subst hP
      have e : gt [a, b, c, d] ((0 : Nat) : Int) = a := rfl
      rw [e]
      rw [again_v (by simp; omega) (by simp)]
      show Ok (cdO true (gdO true (cdO false _ (cdO (betwB c d a) _ _))) _) _
      simp only [cdO, gdO]
      have := fin [] a (betwB c d a) again (wrapF .i64 (((0 : Nat) : Int) + 1)) (by simp)
      simp only [cdO, gdO] at this
      rw [this]
      exact ih _ rfl
    | 1, _, hP, ih =>
      subst hP
      have e : gt [a, b, c, d] ((1 : Nat) : Int) = b := rfl
      rw [e]
      rw [again_v (by simp only; omega) (by simp only; omega)]
      show Ok (cdO true (gdO true (cdO false _ (cdO (betwB c d b) _ _))) _) _
      simp only [cdO, gdO]
      have := fin (addE [] a (betwB c d a)) b (betwB c d b) again (wrapF .i64 (((1 : Nat) : Int) + 1)) (by omega)
      simp only [cdO, gdO] at this
      rw [this]
      exact ih _ rfl
    | 2, _, hP, ih =>
      subst hP
      have e : gt [a, b, c, d] ((2 : Nat) : Int) = c := rfl
      rw [e]
      rw [again_v (by simp only; omega) (by simp only; omega)]
      show Ok (cdO true (gdO true (cdO true (cdO (betwB a b c) _ _) _)) _) _
      simp only [cdO, gdO]
      have := fin (addE (addE [] a (betwB c d a)) b (betwB c d b)) c (betwB a b c) again (wrapF .i64 (((2 : Nat) : Int) + 1)) (by omega)
      simp only [cdO, gdO] at this
      rw [this]
      exact ih _ rfl
    | 3, _, hP, ih =>
      subst hP
      have e : gt [a, b, c, d] ((3 : Nat) : Int) = d := rfl
      rw [e]
      rw [again_v (by simp only; omega) (by simp only; omega)]
      show Ok (cdO true (gdO true (cdO true (cdO (betwB a b d) _ _) _)) _) _
      simp only [cdO, gdO]
      have := fin (addE (addE (addE [] a (betwB c d a)) b (betwB c d b)) c (betwB a b c)) d (betwB a b d) again (wrapF .i64 (((3 : Nat) : Int) + 1)) (by omega)
      simp only [cdO, gdO] at this
      rw [this]
      exact ih _ rfl
    | k + 4, hk, _, _ => omega
  · intro again out hP
    exact ok_some.2 hP
end Go.L
