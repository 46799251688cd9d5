import Derived.Test.YtkhmlbchphhokaaGreatHulLD
import Derived.Test.YtkhmlbchphhokaaGreatPl2iahmfabp
import Derived.KernelRfl
set_option linter.all false
namespace Go.L
open Go Go.Eng
def offB (z : Int) : Bool := decide (z < -1048576) || decide (z > 1048576)
def badP (p : api_Pix) : Bool := offB p.X || offB p.Y
theorem badP_false {p : api_Pix} : badP p = false ↔ (-1048576 ≤ p.X ∧ p.X ≤ 1048576) ∧ (-1048576 ≤ p.Y ∧ p.Y ≤ 1048576) := by
 unfold badP offB; simp [Int.not_lt]; try omega
theorem off_v (n : Nat) (z : Int) : predicate_inRange_1 n z = some (offB z) := by
 unfold predicate_inRange_1 offB; cases decide (z < -1048576) <;> rfl
theorem inRange_v {n : Nat} {l : List Int} (hn : l.length < n) (hl : l.length ≤ 9223372036854775806) : predicate_inRange n l = some (!l.any offB) := by
 unfold predicate_inRange slices_ContainsFunc_int_int_of_predicate_inRange_1
 have : slices_IndexFunc_int_int_of_predicate_inRange_1 n l = some (idxB offB l) := loop_indexF (fun x => off_v n x) hn hl
 rw [this]
 show some (!decide (idxB offB l ≥ 0)) = _
 rw [idxB_ge]
theorem badP_v {n : Nat} (hn : 10 < n) (p : api_Pix) : predicate_Check_1 n p = some (badP p) := by
 unfold predicate_Check_1
 rw [inRange_v (by simp; omega) (by simp)]
 show some (!!([p.X, p.Y] : List Int).any offB) = _
 simp [badP]
theorem check_v {n : Nat} (h : 10 < n) {l : List api_Pix} (hn : l.length < n) (hl : l.length ≤ 9223372036854775806) : predicate_Check n l = some (if l.any badP = true then 2 else 0) := by
 unfold predicate_Check slices_ContainsFunc_fiducial_api_Pix_fiducial_api_Pix_of_predicate_Check_1
 have : slices_IndexFunc_fiducial_api_Pix_fiducial_api_Pix_of_predicate_Check_1 n l = some (idxB badP l) := loop_indexF (fun x => badP_v h x) hn hl
 rw [this]
 show cdO (decide (idxB badP l ≥ 0)) (some 2) (some 0) = _
 rw [idxB_ge]
 cases l.any badP <;> rfl
theorem valid_v (n : Nat) (p : api_Pix) : fiducialref09_Valid n p = some (!badP p) := by
 unfold fiducialref09_Valid badP offB
 by_cases h1 : p.X ≥ -1048576
 · by_cases h2 : p.X ≤ 1048576
   · by_cases h3 : p.Y ≥ -1048576
     · have e1 : ¬ p.X < -1048576 := by omega
       have e2 : ¬ p.X > 1048576 := by omega
       have e3 : ¬ p.Y < -1048576 := by omega
       by_cases h4 : p.Y ≤ 1048576
       · have e4 : ¬ p.Y > 1048576 := by omega
         simp [cdO, h1, h2, h3, h4, e1, e2, e3, e4]
       · have e4 : p.Y > 1048576 := by omega
         simp [cdO, h1, h2, h3, h4, e1, e2, e3, e4]
     · have e3 : p.Y < -1048576 := by omega
       simp [cdO, h1, h2, h3, e3]
   · have e2 : p.X > 1048576 := by omega
     simp [cdO, h1, h2, e2]
 · have e1 : p.X < -1048576 := by omega
   simp [cdO, h1, e1]
theorem all_v {n : Nat} {l : List api_Pix} (hn : l.length < n) (hl : l.length ≤ 9223372036854775806) : fiducialref09_All n l = some (!l.any badP) := by
 have : fiducialref09_All n l = some (l.all (fun p => !badP p)) := loop_all (fun x => valid_v n x) hn hl
 rw [this, List.all_eq_not_any_not]
 simp
def crossZ (a b c : api_Pix) : Int := (b.X - a.X) * (c.Y - a.Y) - (b.Y - a.Y) * (c.X - a.X)
def dotZ (a b c : api_Pix) : Int := (b.X - a.X) * (c.X - a.X) + (b.Y - a.Y) * (c.Y - a.Y)
def In (p : api_Pix) : Prop := badP p = false
theorem In.iff {p : api_Pix} : In p ↔ (-1048576 ≤ p.X ∧ p.X ≤ 1048576) ∧ (-1048576 ≤ p.Y ∧ p.Y ≤ 1048576) := badP_false
theorem cross_bound {a b c : api_Pix} (ha : In a) (hb : In b) (hc : In c) : (-4398046511104 ≤ (b.X - a.X) * (c.Y - a.Y) ∧ (b.X - a.X) * (c.Y - a.Y) ≤ 4398046511104) ∧ (-4398046511104 ≤ (b.Y - a.Y) * (c.X - a.X) ∧ (b.Y - a.Y) * (c.X - a.X) ≤ 4398046511104) := by
 rw [In.iff] at ha hb hc
 have h1 := mul_bound (a := b.X - a.X) (b := c.Y - a.Y) (A := 2097152) (B := 2097152) (by omega) (by omega) (by omega) (by omega)
 have h2 := mul_bound (a := b.Y - a.Y) (b := c.X - a.X) (A := 2097152) (B := 2097152) (by omega) (by omega) (by omega) (by omega)
 omega
theorem wrapped_cross {a b c : api_Pix} (ha : In a) (hb : In b) (hc : In c) : wrapF .i64 ((wrapF .i64 ((wrapF .i64 (b.X - a.X)) * (wrapF .i64 (c.Y - a.Y)))) - (wrapF .i64 ((wrapF .i64 (b.Y - a.Y)) * (wrapF .i64 (c.X - a.X))))) = crossZ a b c := by
 have hB := cross_bound ha hb hc
 rw [In.iff] at ha hb hc
 rw [wrap64_in (n := b.X - a.X) (by omega) (by omega), wrap64_in (n := c.Y - a.Y) (by omega) (by omega), wrap64_in (n := b.Y - a.Y) (by omega) (by omega), wrap64_in (n := c.X - a.X) (by omega) (by omega)]
 unfold crossZ
 generalize (b.X - a.X) * (c.Y - a.Y) = x at *
 generalize (b.Y - a.Y) * (c.X - a.X) = y at *
 rw [wrap64_in (n := x) (by omega) (by omega), wrap64_in (n := y) (by omega) (by omega), wrap64_in (by omega) (by omega)]
theorem cross_v {n : Nat} {a b c : api_Pix} (ha : In a) (hb : In b) (hc : In c) : predicate_cross n a b c = some (crossZ a b c) := by
 unfold predicate_cross; rw [wrapped_cross ha hb hc]
theorem rsign_v (n : Nat) (z : Int) : fiducialref09_sign n z = some (sgn z) := by
 unfold fiducialref09_sign sgn
 by_cases h : z < 0
 · simp [h, cdO]
 · by_cases h2 : z > 0
   · simp [h, h2, cdO]
   · simp [h, h2, cdO]
def orientZ (a b c : api_Pix) : Int := if (badP a || badP b || badP c) = true then 0 else sgn (crossZ a b c)
theorem in3 {a b c : api_Pix} (h : (badP a || badP b || badP c) = false) : In a ∧ In b ∧ In c := by
 simp only [Bool.or_eq_false_iff] at h; exact ⟨h.1.1, h.1.2, h.2⟩
theorem rorient_v {n : Nat} (h : 10 < n) (a b c : api_Pix) : fiducialref09_Orient n a b c = some (orientZ a b c) := by
 unfold fiducialref09_Orient orientZ
 rw [all_v (by simp; omega) (by simp)]
 have e : ([a, b, c] : List api_Pix).any badP = (badP a || badP b || badP c) := by simp [Bool.or_assoc]
 rw [e]
 cases hb : (badP a || badP b || badP c) with
 | true => rfl
 | false =>
  obtain ⟨ha, hb, hc⟩ := in3 hb
  simp only [bdO, rsign_v, wrapped_cross ha hb hc]
  rfl
theorem cross_turn (a b c : api_Pix) : crossZ b c a = crossZ a b c := by unfold crossZ; grind
theorem cross_swap (a b c : api_Pix) : crossZ b a c = -crossZ a b c := by unfold crossZ; grind
theorem known09_v : fiduciallaw09_known 5000 = some true := by kernel_rfl
end Go.L

