import Derived.Test.YtjpoeeeifgomiaaGreatCheL55a
import Derived.Test.YtjpoeeeifgomiaaGreatCheL02r
import Derived.Test.YtjpoeeeifgomiaaGreatCheL02p
import Derived.Test.YtjpoeeeifgomiaaGreatCheL02c
set_option linter.unusedVariables false
set_option linter.unusedSimpArgs false
namespace Go.L
open Go Go.Eng
def zI : api_Int := api_Int.mk false []
def zR : api_Rat := api_Rat.mk zI zI
theorem foot_bad {n : Nat} {s : api_Survey} (h : chk s ≠ 0) (height ground : Int) : plan_Footprint n s height ground = some (zR, zR, chk s) := by
  have b1 : (chk s != 0) = true := by simpa using h
  unfold plan_Footprint
  rw [check_v]
  simp only [bdO, cdO, b1]; rfl
theorem foot_far {n : Nat} {s : api_Survey} (h : chk s = 0) {height ground : Int} (hn : ¬ (near height ∧ near ground)) : plan_Footprint n s height ground = some (zR, zR, 2) := by
  unfold plan_Footprint
  rw [check_v, h, within_v, within_v]
  by_cases h1 : near height
  · have h2 : ¬ near ground := fun k => hn ⟨h1, k⟩
    simp only [bdO, cdO, decide_eq_true h1, decide_eq_false h2]; rfl
  · simp only [bdO, cdO, decide_eq_false h1]; rfl
theorem foot_low {n : Nat} {s : api_Survey} (h : chk s = 0) {height ground : Int} (h1 : near height) (h2 : near ground) (hg : height ≤ ground) : plan_Footprint n s height ground = some (zR, zR, 20) := by
  unfold plan_Footprint
  rw [check_v, h, within_v, within_v]
  simp only [bdO, cdO, decide_eq_true h1, decide_eq_true h2, decide_eq_true hg]; rfl
theorem rise_in {s : api_Survey} (ok : OkS s) {height ground a : Int} (h1 : near height) (h2 : near ground) (hg : ¬ height ≤ ground) (ha : 1 ≤ a ∧ a ≤ 1048576) :
    wrapF .i64 (a * wrapF .i64 (height - ground)) = a * (height - ground) ∧ 1 ≤ a * (height - ground) ∧ a * (height - ground) ≤ 2199023255552 := by
  unfold near at h1 h2
  have e := wrap64_in (n := height - ground) (by omega) (by omega)
  have p := prod_in (a := height - ground) (b := a) (by omega) ha
  rw [Int.mul_comm] at p
  have q := Int.mul_le_mul ha.1 (show 1 ≤ height - ground by omega) (by omega) (by omega)
  rw [e, wrap64_in (by omega) (by omega)]
  exact ⟨rfl, by omega, by omega⟩
theorem foot_ok {n : Nat} (hn : 5000 ≤ n) {s : api_Survey} (h : chk s = 0) {height ground : Int} (h1 : near height) (h2 : near ground) (hg : ¬ height ≤ ground) :
    Ok (plan_Footprint n s height ground) fun v => Qx v.1 (Rat.divInt (s.Along * (height - ground)) s.Focal) 3 ∧ Qx v.2.1 (Rat.divInt (s.Across * (height - ground)) s.Focal) 3 ∧ v.2.2 = 0 := by
  obtain ⟨ok, _⟩ := chk_zero h
  have hf := ok.fo
  obtain ⟨e1, b1, b2⟩ := rise_in ok h1 h2 hg ok.al
  obtain ⟨e2, b3, b4⟩ := rise_in ok h1 h2 hg ok.ac
  unfold plan_Footprint
  rw [check_v, h, within_v, within_v, e1, e2]
  simp only [bdO, cdO, decide_eq_true h1, decide_eq_true h2, decide_eq_false hg]
  refine Ok.bd (qOf_ok hn (by omega) (by omega) (by omega) (by omega) (by omega)) fun x hx => Ok.bd (qOf_ok hn (by omega) (by omega) (by omega) (by omega) (by omega)) fun y hy => ok_some.2 ⟨hx.1, hy.1, rfl⟩
theorem size_ok {n : Nat} (hn : 5000 ≤ n) {s : api_Survey} (ok : OkS s) {height ground : Int} (h1 : near height) (h2 : near ground) (hg : ¬ height ≤ ground) :
    Ok (fiduciallaw55_size n s height ground) fun v => Qx v.1 (Rat.divInt (s.Along * (height - ground)) s.Focal) 3 ∧ Qx v.2 (Rat.divInt (s.Across * (height - ground)) s.Focal) 3 := by
  have hf := ok.fo
  obtain ⟨e1, b1, b2⟩ := rise_in ok h1 h2 hg ok.al
  obtain ⟨e2, b3, b4⟩ := rise_in ok h1 h2 hg ok.ac
  unfold fiduciallaw55_size
  rw [e1, e2]
  refine Ok.bd (R.qOf_ok hn (by omega) (by omega) (by omega) (by omega) (by omega)) fun x hx => Ok.bd (R.qOf_ok hn (by omega) (by omega) (by omega) (by omega) (by omega)) fun y hy => ok_some.2 ⟨hx.1, hy.1⟩
theorem any2 {a b : Int} : [a, b].any far = decide (¬ (near a ∧ near b)) := by
  by_cases h1 : near a
  · by_cases h2 : near b
    · rw [List.any_cons, List.any_cons, far_f.2 h1, far_f.2 h2, decide_eq_false (by simp [h1, h2])]; rfl
    · rw [List.any_cons, List.any_cons, far_t.2 h2, decide_eq_true (by simp [h2])]; simp
  · rw [List.any_cons, far_t.2 h1, decide_eq_true (by simp [h1])]; rfl
theorem number_ok {n : Nat} (hn : 5000 ≤ n) {x y : api_Rat} {a : Rat} {j k : Nat} (hk : j + k + 1 ≤ 60) (hx : Qx x a j) (hy : Qx y a k) : fiduciallaw55_number n x 0 y 0 = some true := by
  unfold fiduciallaw55_number
  show bdO (fiducialref02_Same n x y) _ = _
  rw [R.qSame_ok hn hk hx hy]; rfl
end Go.L

