import Derived.Test.YtjpoeeeifgomiaaGreatFewL55a
import Derived.Test.YtjpoeeeifgomiaaGreatFewL02r
import Derived.Test.YtjpoeeeifgomiaaGreatFewL02p
import Derived.Test.YtjpoeeeifgomiaaGreatFewL02c
set_option linter.unusedVariables false
set_option linter.unusedSimpArgs false
namespace Go.L
open Go Go.Eng
theorem rise_in {s : api_Survey} (ok : OkS s) {height ground a : Int} (h1 : near height) (h2 : near ground) (hg : ¬ height ≤ ground) (ha : 1 ≤ a ∧ a ≤ 1048576) :
    wrapF .i64 (a * wrapF .i64 (height - ground)) = a * (height - ground) ∧ 1 ≤ a * (height - ground) ∧ a * (height - ground) ≤ 2199023255552 := by
  unfold near at h1 h2
  have e := wrap64_in (n := height - ground) (by omega) (by omega)
  have p := prod_in (a := height - ground) (b := a) (by omega) ha
  rw [Int.mul_comm] at p
  have q := Int.mul_le_mul ha.1 (show 1 ≤ height - ground by omega) (by omega) (by omega)
  rw [e, wrap64_in (by omega) (by omega)]
  exact ⟨rfl, by omega, by omega⟩
theorem size_ok {n : Nat} (hn : 5000 ≤ n) {s : api_Survey} (ok : OkS s) {height ground : Int} (h1 : near height) (h2 : near ground) (hg : ¬ height ≤ ground) :
    Ok (fiduciallaw55_size n s height ground) fun v => Qx v.1 (Rat.divInt (s.Along * (height - ground)) s.Focal) 3 ∧ Qx v.2 (Rat.divInt (s.Across * (height - ground)) s.Focal) 3 := by
  have hf := ok.fo
  obtain ⟨e1, b1, b2⟩ := rise_in ok h1 h2 hg ok.al
  obtain ⟨e2, b3, b4⟩ := rise_in ok h1 h2 hg ok.ac
  unfold fiduciallaw55_size
  rw [e1, e2]
  refine Ok.bd (R.qOf_ok hn (by omega) (by omega) (by omega) (by omega) (by omega)) fun x hx => Ok.bd (R.qOf_ok hn (by omega) (by omega) (by omega) (by omega) (by omega)) fun y hy => ok_some.2 ⟨hx.1, hy.1⟩
theorem any2 {a b : Int} : [a, b].any far = decide (¬ (near a ∧ near b)) := by
  by_cases h1 : near a
  · by_cases h2 : near b
    · rw [List.any_cons, List.any_cons, far_f.2 h1, far_f.2 h2, decide_eq_false (by simp [h1, h2])]; rfl
    · rw [List.any_cons, List.any_cons, far_t.2 h2, decide_eq_true (by simp [h2])]; simp
  · rw [List.any_cons, far_t.2 h1, decide_eq_true (by simp [h1])]; rfl
end Go.L

