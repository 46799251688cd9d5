import Derived.Test.YtlajgmapmocpbaaGreatTotL59t
import Derived.Test.YtlajgmapmocpbaaGreatTotL02c
import Derived.Test.YtlajgmapmocpbaaGreatPl6iaojadnl
set_option linter.unusedVariables false
set_option linter.unusedSimpArgs false
namespace Go.L
open Go Go.Eng
theorem zlo' {b : api_Banded} (g : Good b) {k : Nat} (hk : k < b.Grid.Z.length) : -2147483648 ≤ b.Grid.Z.getD k default ∧ b.Grid.Z.getD k default ≤ 1048576 := by
  have := g.z k hk; omega
theorem both_v' {n : Nat} {a b : api_Banded} (f : Fits2 a b) {k : Nat} (hk : k < a.Grid.Z.length) : fiduciallaw59_both n a b k = some (dif a b k, bnd a b k, isOk a b k) := by
  have e1 : inR (k : Int) a.Grid.Z.length = true := by rw [inR_nat]; simpa using hk
  have e2 : inR (k : Int) b.Grid.Z.length = true := by rw [inR_nat, f.len]; simpa using hk
  have e3 : inR (k : Int) a.Err.length = true := by rw [inR_nat, f.ga.elen]; simpa using hk
  have e4 : inR (k : Int) b.Err.length = true := by rw [inR_nat, f.gb.elen, f.len]; simpa using hk
  have z1 := zlo' f.ga hk
  have z2 := zlo' f.gb (k := k) (by rw [f.len]; exact hk)
  have w1 := f.ga.e k (by rw [f.ga.elen]; exact hk)
  have w2 := f.gb.e k (by rw [f.gb.elen, f.len]; exact hk)
  unfold fiduciallaw59_both
  rw [e1, e2, e3, e4]
  simp only [gt_nat, gdO, isOk, isN]
  rw [wrap64_in (by omega) (by omega), wrap64_in (by omega) (by omega)]
  by_cases h1 : (a.Grid.Z.getD k default == -2147483648) = true
  · have : (a.Grid.Z.getD k default != -2147483648) = false := by simpa using h1
    rw [this, h1]; rfl
  · have h1' : (a.Grid.Z.getD k default == -2147483648) = false := by simpa using h1
    have : (a.Grid.Z.getD k default != -2147483648) = true := by simpa using h1
    rw [this, h1', Bool.false_or]; rfl
theorem okz' {a b : api_Banded} (f : Fits2 a b) {k : Nat} (hk : k < a.Grid.Z.length) (h : isOk a b k = true) : (-2097152 ≤ dif a b k ∧ dif a b k ≤ 2097152) ∧ 0 ≤ bnd a b k ∧ bnd a b k ≤ 2097152 := by
  have z1 := f.ga.z k hk
  have z2 := f.gb.z k (by rw [f.len]; exact hk)
  have w1 := f.ga.e k (by rw [f.ga.elen]; exact hk)
  have w2 := f.gb.e k (by rw [f.gb.elen, f.len]; exact hk)
  unfold isOk isN at h
  simp only [Bool.not_eq_true', Bool.or_eq_false_iff, beq_eq_false_iff_ne] at h
  unfold dif bnd; omega
theorem diff_v' {n : Nat} {a b : api_Banded} (f : Fits2 a b) {k : Nat} (hk : k < a.Grid.Z.length) (h : isOk a b k = true) : change_difference n a b k = some (dif a b k, bnd a b k, true) := by
  rw [diff_v f hk, if_pos h]
theorem diff_n' {n : Nat} {a b : api_Banded} (f : Fits2 a b) {k : Nat} (hk : k < a.Grid.Z.length) (h : isOk a b k = false) : change_difference n a b k = some (0, 0, false) := by
  rw [diff_v f hk, if_neg (by rw [h]; decide)]
theorem few_len {a b : api_Banded} (h : fewB [a, b] = true) : a.Grid.Z.length ≤ 64 := by
  simp [fewB] at h; exact h.1.1
def isR (x : api_Range) (l h : Int) (k : Nat) : Prop := Qx x.Low (Rat.divInt l 1) k ∧ Qx x.High (Rat.divInt h 1) k
theorem isR.mono {x : api_Range} {l h : Int} {j k : Nat} (a : isR x l h j) (hk : j ≤ k) : isR x l h k := ⟨a.1.mono hk, a.2.mono hk⟩
theorem solid_ok {n : Nat} (hn : 5000 ≤ n) {g : api_Grid} {low high : Int} (hs : 2 ≤ g.Step ∧ g.Step ≤ 65536) (hl : -268435456 ≤ low ∧ low ≤ 268435456) (hh : -268435456 ≤ high ∧ high ≤ 268435456) : Ok (change_solid n g low high) fun z => isR z (low * (g.Step * g.Step)) (high * (g.Step * g.Step)) 6 := by
  unfold change_solid
  have hq := mul_bound (a := g.Step) (b := g.Step) (A := 65536) (B := 65536) (by omega) (by omega) (by omega) (by omega)
  rw [wrap64_in (by omega) (by omega)]
  refine Ok.bd (qWhole_ok hn (by omega) (by omega)) fun s hs => Ok.bd (qWhole_ok hn (by omega) (by omega)) fun l hl => Ok.bd (qMul_ok hn (j := 3) (k := 3) (by omega) hl hs) fun u hu => ?_
  refine Ok.bd (qWhole_ok hn (by omega) (by omega)) fun h hh => Ok.bd (qMul_ok hn (j := 3) (k := 3) (by omega) hh hs) fun v hv => ok_some.2 ?_
  rw [Rat.divInt_mul_divInt] at hu hv
  exact ⟨hu, hv⟩
theorem rWhole_ok {n : Nat} (hn : 5000 ≤ n) {l h : Int} (hl : -9223372036854775808 ≤ l ∧ l ≤ 9223372036854775807) (hh : -9223372036854775808 ≤ h ∧ h ≤ 9223372036854775807) : Ok (fiducialref03_Whole n l h) fun z => isR z l h 3 := by
  unfold fiducialref03_Whole
  exact Ok.bd (R.qWhole_ok hn hl.1 hl.2) fun x hx => Ok.bd (R.qWhole_ok hn hh.1 hh.2) fun y hy => ok_some.2 ⟨hx, hy⟩
theorem rCmp {n : Nat} (hn : 5000 ≤ n) {x y : api_Rat} {a b : Int} {j k : Nat} (hk : j + k + 1 ≤ 60) (hx : Qx x (Rat.divInt a 1) j) (hy : Qx y (Rat.divInt b 1) k) (h : a ≤ b) : ∃ v, fiducialref02_Compare n x y = some v ∧ v ≤ 0 :=
  ⟨_, R.qCompare_ok hn hk hx hy, sgn_le (by omega) (by omega) (by omega)⟩
theorem rValid_ok {n : Nat} (hn : 5000 ≤ n) {x : api_Range} {l h : Int} {k : Nat} (hk : k ≤ 20) (hx : isR x l h k) (hlh : l ≤ h) : fiducialref03_Valid n x = some true := by
  obtain ⟨v, e, hv⟩ := rCmp hn (by omega) hx.1 hx.2 hlh
  apply Ok.eq
  unfold fiducialref03_Valid
  refine Ok.bde (R.qValid_ok hn (by omega) hx.1) (Ok.cd (fun _ => Ok.bde (R.qValid_ok hn (by omega) hx.2) (Ok.cd (fun _ => Ok.bde e (ok_some.2 (by simpa using hv))) (fun h => by cases h))) (fun h => by cases h))
theorem rSame_ok {n : Nat} (hn : 5000 ≤ n) {x y : api_Range} {l h : Int} {k : Nat} (hk : k ≤ 20) (hx : isR x l h k) (hy : isR y l h k) (hlh : l ≤ h) : fiducialref03_Same n x y = some true := by
  apply Ok.eq
  unfold fiducialref03_Same fiducialref02_SameRange
  refine Ok.bde (rValid_ok hn hk hx hlh) (Ok.cd (fun _ => Ok.bde (rValid_ok hn hk hy hlh) (Ok.cd (fun _ => ?_) (fun h => by cases h))) (fun h => by cases h))
  refine Ok.bde (b := true) (Ok.eq ?_) (ok_some.2 rfl)
  refine Ok.bde (R.qSame_ok hn (by omega) hx.1 hy.1) (Ok.cd (fun _ => Ok.bde (R.qSame_ok hn (by omega) hx.2 hy.2) (ok_some.2 rfl)) (fun h => by cases h))
theorem rHas_ok {n : Nat} (hn : 5000 ≤ n) {x : api_Range} {w : api_Rat} {l h v : Int} {k : Nat} (hk : k ≤ 20) (hx : isR x l h k) (hw : Qx w (Rat.divInt v 1) 3) (h1 : l ≤ v) (h2 : v ≤ h) : fiducialref03_Has n x w = some true := by
  obtain ⟨p, e, hp⟩ := rCmp hn (by omega) hx.1 hw h1
  obtain ⟨q, e2, hq⟩ := rCmp hn (by omega) hw hx.2 h2
  apply Ok.eq
  unfold fiducialref03_Has
  exact Ok.bde e (Ok.cd (fun _ => Ok.bde e2 (ok_some.2 (by simpa using hq))) (fun h => by simp at h; omega))
def zeroR : api_Range := api_Range.mk (api_Rat.mk (api_Int.mk false []) (api_Int.mk false [])) (api_Rat.mk (api_Int.mk false []) (api_Int.mk false []))
theorem zeroR_v {n : Nat} : fiducialref03_Zero n zeroR = some true := by rfl
theorem truth_in {b : api_Banded} (g : Good b) {k : Nat} (hk : k < b.Grid.Z.length) {p : Int} (hp : 0 ≤ p) (hp2 : p ≤ 255) : b.Grid.Z.getD k default - b.Err.getD k default ≤ truthS b k p ∧ truthS b k p ≤ b.Grid.Z.getD k default + b.Err.getD k default := by
  have e := g.e k (by rw [g.elen]; exact hk)
  have h3 := truth_bd e.1 hp hp2
  unfold truthS; omega
end Go.L

