/- Layer 9 in plain Lean: how two closed segments lie to each other. -/
import Derived.Test.YtlajgmapmocpbaaGreatMeetL09b
set_option linter.unusedVariables false
set_option linter.unusedSimpArgs false
namespace Go.L
open Go Go.Eng

def eqP (p q : api_Pix) : Bool := (p.X == q.X) && ((p.Y == q.Y) && true)
theorem eqP_iff {p q : api_Pix} : eqP p q = true ↔ p = q := by
  obtain ⟨a, b⟩ := p
  obtain ⟨c, d⟩ := q
  simp [eqP]
theorem eqP_comm (p q : api_Pix) : eqP p q = eqP q p := by
  unfold eqP; rw [Bool.beq_comm (a := p.X), Bool.beq_comm (a := p.Y)]
/-- A point put behind a list unless it is there. -/
def addE (l : List api_Pix) (p : api_Pix) (lies : Bool) : List api_Pix := if (lies && !(l.any (eqP p))) = true then l ++ [p] else l
theorem addE_len (l : List api_Pix) (p : api_Pix) (lies : Bool) : (addE l p lies).length ≤ l.length + 1 := by unfold addE; split <;> simp
theorem contains_v {n : Nat} {s : List api_Pix} {p : api_Pix} (hn : s.length < n) (hl : s.length ≤ 9223372036854775806) : slices_Contains_fiducial_api_Pix_fiducial_api_Pix n s p = some (s.any (eqP p)) := by
  unfold slices_Contains_fiducial_api_Pix_fiducial_api_Pix
  have : slices_Index_fiducial_api_Pix_fiducial_api_Pix n s p = some (idxB (eqP p) s) := loop_index (p := eqP p) hn hl
  rw [this]
  show some (decide (idxB (eqP p) s ≥ 0)) = _
  rw [idxB_ge]
theorem note_v {n : Nat} {l : List api_Pix} {p : api_Pix} {lies : Bool} (hn : l.length < n) (hl : l.length ≤ 1000) : predicate_Relate_1_w n p lies l = some (addE l p lies) := by
  unfold predicate_Relate_1_w addE
  rw [contains_v hn (by omega)]
  have g1 : decide ((l.length + 1) * 16 ≤ 140737488355328) = true := by simp; omega
  have g2 : decide (l.length + 1 ≤ 4611686018427387904) = true := by simp; omega
  rw [g1, g2]
  cases lies with
  | false => rfl
  | true => cases l.any (eqP p) <;> rfl
/-- The ends of both segments that lie on the other one, each once. -/
def endsL (a b c d : api_Pix) (la lb lc ld : Bool) : List api_Pix := addE (addE (addE (addE [] a la) b lb) c lc) d ld
def relZ (k o1 o2 o3 o4 : Int) : Int := if k = 0 then (if o1 * o2 < 0 then (if o3 * o4 < 0 then 2 else 0) else 0) else if k = 1 then 1 else 3
def relP (a b c d : api_Pix) : Int := relZ (endsL a b c d (onB c d a) (onB c d b) (onB a b c) (onB a b d)).length (sgn (crossZ a b c)) (sgn (crossZ a b d)) (sgn (crossZ c d a)) (sgn (crossZ c d b))
theorem in4 {a b c d : api_Pix} (h : ([a, b, c, d] : List api_Pix).any badP = false) : In a ∧ In b ∧ In c ∧ In d := by
  simp only [List.any_cons, List.any_nil, Bool.or_false, Bool.or_eq_false_iff] at h
  exact ⟨h.1, h.2.1, h.2.2.1, h.2.2.2⟩
theorem wrap_sgn (x y : Int) : wrapF .i64 (sgn x * sgn y) = sgn x * sgn y := by
  rcases sgn_cases x with ⟨_, h⟩ | ⟨_, h⟩ | ⟨_, h⟩ <;> rcases sgn_cases y with ⟨_, k⟩ | ⟨_, k⟩ | ⟨_, k⟩ <;> rw [h, k] <;> exact wrap64_in (by omega) (by omega)
theorem rel_fin (k : Nat) (o1 o2 o3 o4 : Int) : cdO ((0 : Int) != 0) (some ((0 : Int), (0 : Int))) (cdO ((k : Int) == 0) (cdO (decide (o1 * o2 < 0)) (cdO (decide (o3 * o4 < 0)) (some (2, 0)) (some (0, 0))) (some (0, 0))) (cdO ((k : Int) == 1) (some (1, 0)) (some (3, 0)))) = some (relZ k o1 o2 o3 o4, 0) := by
  unfold relZ
  have e0 : ((0 : Int) != 0) = false := rfl
  rw [e0]
  by_cases h0 : k = 0
  · subst h0
    by_cases hp : o1 * o2 < 0 <;> by_cases hq : o3 * o4 < 0 <;> simp [hp, hq, cdO]
  · by_cases h1 : k = 1
    · subst h1; rfl
    · have d0 : ((k : Int) == 0) = false := by simpa using h0
      have d1 : ((k : Int) == 1) = false := by simp; omega
      have d2 : ¬ (k : Int) = 0 := by omega
      have d3 : ¬ (k : Int) = 1 := by omega
      simp only [d0, d1, d2, d3, if_false, cdO]
theorem relate_in {n : Nat} (h : 10 < n) {a b c d : api_Pix} (hb : ([a, b, c, d] : List api_Pix).any badP = false) : predicate_Relate n a b c d = some (relP a b c d, 0) := by
  unfold predicate_Relate
  rw [check_v h (by simp; omega) (by simp), hb]
  obtain ⟨ha, hb, hc, hd⟩ := in4 hb
  have l1 := addE_len [] a (onB c d a)
  have l2 := addE_len (addE [] a (onB c d a)) b (onB c d b)
  have l3 := addE_len (addE (addE [] a (onB c d a)) b (onB c d b)) c (onB a b c)
  have l4 := addE_len (addE (addE (addE [] a (onB c d a)) b (onB c d b)) c (onB a b c)) d (onB a b d)
  simp only [List.length_nil] at l1
  simp only [bdO, on_v hc hd ha, on_v hc hd hb, on_v ha hb hc, on_v ha hb hd, Bool.false_eq_true, if_false, cross_v ha hb hc, cross_v ha hb hd, cross_v hc hd ha, cross_v hc hd hb, sign_v, wrap_sgn]
  rw [note_v (by simp; omega) (by simp)]
  simp only
  rw [note_v (by omega) (by omega)]
  simp only
  rw [note_v (by omega) (by omega)]
  simp only
  rw [note_v (by omega) (by omega)]
  exact rel_fin _ _ _ _ _
theorem relate_out {n : Nat} (h : 10 < n) {a b c d : api_Pix} (hb : ([a, b, c, d] : List api_Pix).any badP = true) : predicate_Relate n a b c d = some (0, 2) := by
  unfold predicate_Relate
  rw [check_v h (by simp; omega) (by simp), hb]
  rfl

end Go.L
