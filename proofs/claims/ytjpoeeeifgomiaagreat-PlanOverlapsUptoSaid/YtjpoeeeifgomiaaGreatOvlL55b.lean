import Derived.Test.YtjpoeeeifgomiaaGreatOvlL55a
import Derived.Test.YtjpoeeeifgomiaaGreatOvlL02r
import Derived.Test.YtjpoeeeifgomiaaGreatOvlL02p
import Derived.Test.YtjpoeeeifgomiaaGreatOvlL02c
set_option linter.all false
namespace Go.L
open Go Go.Eng
def zI : api_Int := api_Int.mk false []
def zR : api_Rat := api_Rat.mk zI zI
theorem rise_in {s : api_Survey} (ok : OkS s) {height ground a : Int} (h1 : near height) (h2 : near ground) (hg : ¬ height ≤ ground) (ha : 1 ≤ a ∧ a ≤ 1048576) :
  wrapF .i64 (a * wrapF .i64 (height - ground)) = a * (height - ground) ∧ 1 ≤ a * (height - ground) ∧ a * (height - ground) ≤ 2199023255552 := by
 unfold near at h1 h2
 have e := wrap64_in (n := height - ground) (by omega) (by omega)
 have p := prod_in (a := height - ground) (b := a) (by omega) ha
 rw [Int.mul_comm] at p
 have q := Int.mul_le_mul ha.1 (show 1 ≤ height - ground by omega) (by omega) (by omega)
 rw [e, wrap64_in (by omega) (by omega)]
 exact ⟨rfl, by omega, by omega⟩
theorem size_ok {n : Nat} (hn : 5000 ≤ n) {s : api_Survey} (ok : OkS s) {height ground : Int} (h1 : near height) (h2 : near ground) (hg : ¬ height ≤ ground) :
  Ok (fiduciallaw55_size n s height ground) fun v => Qx v.1 (Rat.divInt (s.Along * (height - ground)) s.Focal) 3 ∧ Qx v.2 (Rat.divInt (s.Across * (height - ground)) s.Focal) 3 := by
 have hf := ok.fo
 obtain ⟨e1, b1, b2⟩ := rise_in ok h1 h2 hg ok.al
 obtain ⟨e2, b3, b4⟩ := rise_in ok h1 h2 hg ok.ac
 unfold fiduciallaw55_size
 rw [e1, e2]
 refine Ok.bd (R.qOf_ok hn (by omega) (by omega) (by omega) (by omega) (by omega)) fun x hx => Ok.bd (R.qOf_ok hn (by omega) (by omega) (by omega) (by omega) (by omega)) fun y hy => ok_some.2 ⟨hx.1, hy.1⟩
theorem number_ok {n : Nat} (hn : 5000 ≤ n) {x y : api_Rat} {a : Rat} {j k : Nat} (hk : j + k + 1 ≤ 60) (hx : Qx x a j) (hy : Qx y a k) : fiduciallaw55_number n x 0 y 0 = some true := by
 unfold fiduciallaw55_number
 show bdO (fiducialref02_Same n x y) _ = _
 rw [R.qSame_ok hn hk hx hy]; rfl
end Go.L

