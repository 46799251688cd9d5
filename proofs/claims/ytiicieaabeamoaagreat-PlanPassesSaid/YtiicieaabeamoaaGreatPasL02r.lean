import Derived.Test.YtiicieaabeamoaaGreatPasL01w
set_option linter.all false
namespace Go.L.R
open Go Go.Eng Go.L
def Qx (x : api_Rat) (r : Rat) (k : Nat) : Prop := QL x.Num.Negative x.Num.Groups x.Den.Negative x.Den.Groups r k
theorem neg_len {p q : Bool} {g h : List Int} {v : Int} (a : isI p g v) (b : isI q h (-v)) {k : Nat} (hk : g.length ≤ k) : h.length ≤ k := by
 have := isI_bound a hk
 exact isI_len b (by omega) (by omega)
theorem reduced_ok {n : Nat} {x y : api_Int} {p q : Int} {k : Nat} (hn : 5000 ≤ n) (hk : k ≤ 60) (hx : isI x.Negative x.Groups p) (hy : isI y.Negative y.Groups q) (lx : x.Groups.length ≤ k) (ly : y.Groups.length ≤ k) (hq : q ≠ 0) :
  Ok (fiducialref02_reduced n x y) fun z => Qx z (Rat.divInt p q) k := by
 unfold fiducialref02_reduced
 have hg := gZ_pos (v := p) hq
 refine Ok.bd (Gcd_ok hn hx hy (by omega) (by omega)) fun g hgi => ?_
 have bq := isI_bound hy ly
 have bp := isI_bound hx lx
 have dp := gZ_dvd_left p q
 have dq := gZ_dvd_right p q
 have ap := abs_ediv_le p _ hg dp
 have aq := abs_ediv_le q _ hg dq
 have hq0 : q / gZ p q ≠ 0 := by intro h; rw [h, Int.zero_mul] at dq; exact hq dq
 have gq : gZ p q ≤ (q.natAbs : Int) := by
  have e : q.natAbs = (q / gZ p q).natAbs * (gZ p q).natAbs := by rw [← Int.natAbs_mul, ← dq]
  have : 1 * (gZ p q).natAbs ≤ (q / gZ p q).natAbs * (gZ p q).natAbs := Nat.mul_le_mul_right _ (by omega)
  omega
 have lg : g.Groups.length ≤ k := isI_len hgi (by omega) (by omega)
 refine Ok.bde (Sign_ok (by omega) (by omega) hy) ?_
 have hs := sgn_cases q
 refine Ok.cd (fun h => ?_) (fun h => ?_)
 · have hneg : q < 0 := by have := of_decide_eq_true h; omega
   refine Ok.bd (Neg_ok (by omega) (by omega) hgi) fun g' hg' => ?_
   have lg' := neg_len hgi hg' lg
   refine Ok.bd (Divide_even (k := -(p / gZ p q)) (by omega) (by rw [Int.neg_mul_neg, ← dp]; exact hx) hg' (by omega) (by omega) (by omega)) fun a ha => ?_
   refine Ok.bd (Divide_even (k := -(q / gZ p q)) (by omega) (by rw [Int.neg_mul_neg, ← dq]; exact hy) hg' (by omega) (by omega) (by omega)) fun b hb => ok_some.2 ?_
   have eg : gZ (-p) (-q) = gZ p q := by unfold gZ; rw [Int.natAbs_neg, Int.natAbs_neg]
   have e1 : (Rat.divInt p q).num = -(p / gZ p q) := by
    rw [← divInt_neg, divInt_num (by omega), eg]
    rw [show -p = (-(p / gZ p q)) * gZ p q by rw [Int.neg_mul, ← dp], Int.mul_ediv_cancel _ (by omega)]
   have e2 : ((Rat.divInt p q).den : Int) = -(q / gZ p q) := by
    rw [← divInt_neg, divInt_den (by omega), eg]
    rw [show -q = (-(q / gZ p q)) * gZ p q by rw [Int.neg_mul, ← dq], Int.mul_ediv_cancel _ (by omega)]
   exact ⟨by rw [e1]; exact ha, by rw [e2]; exact hb, isI_len ha (by omega) (by omega), isI_len hb (by omega) (by omega)⟩
 · have hpos : 0 < q := by have := of_decide_eq_false h; omega
   refine Ok.bd (Divide_even (k := p / gZ p q) (by omega) (by rw [← dp]; exact hx) hgi (by omega) (by omega) (by omega)) fun a ha => ?_
   refine Ok.bd (Divide_even (k := q / gZ p q) (by omega) (by rw [← dq]; exact hy) hgi (by omega) (by omega) (by omega)) fun b hb => ok_some.2 ?_
   exact ⟨by rw [divInt_num hpos]; exact ha, by rw [divInt_den hpos]; exact hb, isI_len ha (by omega) (by omega), isI_len hb (by omega) (by omega)⟩
theorem whole_ok {n : Nat} {v : Int} (hn : 5000 ≤ n) (h0 : -9223372036854775808 ≤ v) (hv : v ≤ 9223372036854775807) : Ok (fiducialref02_whole n v) fun z => isI z.Negative z.Groups v := by
 unfold fiducialref02_whole
 exact Ok.bd (Of_ok (by omega) h0 hv) fun a ha => ok_some.2 ha
theorem qValid_ok {n : Nat} {x : api_Rat} {r : Rat} {k : Nat} (hn : 5000 ≤ n) (hk : k ≤ 60) (h : Qx x r k) : fiducialref02_Valid n x = some true := by
 apply Ok.eq
 unfold fiducialref02_Valid
 have hp := den_pos r
 have hnl := h.nl; have hdl := h.dl
 refine Ok.bde (Valid_ok (by omega) (by omega) h.num) (Ok.cd (fun h => by cases h) fun _ => ?_)
 refine Ok.bde (Valid_ok (by omega) (by omega) h.den) (Ok.cd (fun h => by cases h) fun _ => ?_)
 refine Ok.bde (Sign_ok (by omega) (by omega) h.den) ?_
 rw [sgn_pos hp]
 refine Ok.cd (fun h => absurd h (by decide)) fun _ => ?_
 refine Ok.bd (Gcd_ok hn h.num h.den (by omega) (by omega)) fun g hg => ?_
 rw [gZ_red] at hg
 refine Ok.bd (whole_ok (by omega) (by decide) (by decide)) fun one h1 => ?_
 have l1 := isI_len_of h1 (by decide) (by decide)
 have lg := isI_len_of hg (by decide) (by decide)
 exact Ok.bde (Compare_ok (by omega) hg h1 (by omega) (by omega)) (ok_some.2 rfl)
theorem qValue_ok {n : Nat} {x : api_Rat} {r : Rat} {k : Nat} (hn : 5000 ≤ n) (hk : k ≤ 60) (h : Qx x r k) : fiducialref02_Value n x = some x := by
 unfold fiducialref02_Value; rw [qValid_ok hn hk h]; rfl
theorem qOf_ok {n : Nat} {p q : Int} (hn : 5000 ≤ n) (h0 : -9223372036854775808 ≤ p) (hv : p ≤ 9223372036854775807) (h1 : -9223372036854775808 ≤ q) (hv1 : q ≤ 9223372036854775807) (hq : q ≠ 0) : Ok (fiducialref02_Of n p q) fun z => Qx z.1 (Rat.divInt p q) 3 ∧ z.2 = 0 := by
 unfold fiducialref02_Of fiducialref02_New
 refine Ok.bd (whole_ok (by omega) h0 hv) fun a ha => Ok.bd (whole_ok (by omega) h1 hv1) fun b hb => ?_
 have la := isI_len_of ha h0 hv; have lb := isI_len_of hb h1 hv1
 refine Ok.bd (R := fun z => Qx z.1 (Rat.divInt p q) 3 ∧ z.2 = 0) ?_ fun z hz => ok_some.2 hz
 refine Ok.bde (Sign_ok (by omega) (by omega) hb) ?_
 have hs := sgn_cases q
 refine Ok.cd (fun h => ?_) (fun h => ?_)
 · have : sgn q = 0 := by simpa using h
   omega
 · exact Ok.bd (reduced_ok hn (by omega) ha hb la lb hq) fun z hz => ok_some.2 ⟨hz, rfl⟩
theorem add_rat (a b : Rat) : Rat.divInt (a.num * (b.den : Int) + b.num * (a.den : Int)) ((a.den : Int) * (b.den : Int)) = a + b := by
 have h1 := den_pos a; have h2 := den_pos b
 rw [← Rat.divInt_add_divInt _ _ (by omega) (by omega), Rat.num_divInt_den, Rat.num_divInt_den]
theorem qAdd_ok {n : Nat} {x y : api_Rat} {a b : Rat} {j k : Nat} (hn : 5000 ≤ n) (hk : j + k + 1 ≤ 60) (hx : Qx x a j) (hy : Qx y b k) : Ok (fiducialref02_Add n x y) fun z => Qx z (a + b) (j + k + 1) := by
 unfold fiducialref02_Add
 refine Ok.bde (qValue_ok hn (by omega) hx) (Ok.bde (qValue_ok hn (by omega) hy) ?_)
 have n1 := hx.nl; have n2 := hy.nl; have d1 := hx.dl; have d2 := hy.dl
 refine Ok.bd (Mul_ok (by omega) hx.num hy.den (by omega) (by omega)) fun p hp => Ok.bd (Mul_ok (by omega) hy.num hx.den (by omega) (by omega)) fun p' hp' => ?_
 have lp := isI_len_mul hx.num hy.den hp n1 d2
 have lp' := isI_len_mul hy.num hx.den hp' n2 d1
 refine Ok.bd (Add_ok (by omega) hp hp' (by omega) (by omega)) fun s hs => Ok.bd (Mul_ok (by omega) hx.den hy.den (by omega) (by omega)) fun q hq => ?_
 have ls := isI_len_add hp hp' hs (k := j + k) (by omega) (by omega)
 have lq := isI_len_mul hx.den hy.den hq d1 d2
 have h1 := den_pos a; have h2 := den_pos b
 have h3 : (0 : Int) < (a.den : Int) * (b.den : Int) := Int.mul_pos h1 h2
 refine Ok.bd (reduced_ok hn hk hs hq (by omega) (by omega) (by omega)) fun z hz => ok_some.2 ?_
 rw [add_rat] at hz; exact hz
theorem qNeg_ok {n : Nat} {x : api_Rat} {a : Rat} {k : Nat} (hn : 5000 ≤ n) (hk : k ≤ 60) (hx : Qx x a k) : Ok (fiducialref02_Neg n x) fun z => Qx z (-a) k := by
 unfold fiducialref02_Neg
 have n1 := hx.nl
 refine Ok.bde (qValue_ok hn hk hx) (Ok.bd (Neg_ok (by omega) (by omega) hx.num) fun z hz => ok_some.2 ?_)
 exact ⟨(show (-a).num = -a.num from rfl) ▸ hz, (show (-a).den = a.den from rfl) ▸ hx.den, neg_len hx.num hz hx.nl, hx.dl⟩
theorem qSub_ok {n : Nat} {x y : api_Rat} {a b : Rat} {j k : Nat} (hn : 5000 ≤ n) (hk : j + k + 1 ≤ 60) (hx : Qx x a j) (hy : Qx y b k) : Ok (fiducialref02_Sub n x y) fun z => Qx z (a - b) (j + k + 1) := by
 unfold fiducialref02_Sub
 refine Ok.bd (qNeg_ok hn (by omega) hy) fun v hv => Ok.bd (qAdd_ok hn hk hx hv) fun z hz => ok_some.2 ?_
 rw [Rat.sub_eq_add_neg]; exact hz
theorem qSign_ok {n : Nat} {x : api_Rat} {a : Rat} {k : Nat} (hn : 5000 ≤ n) (hk : k ≤ 60) (hx : Qx x a k) : fiducialref02_Sign n x = some (sgn a.num) := by
 unfold fiducialref02_Sign
 have n1 := hx.nl
 rw [qValue_ok hn hk hx]
 show bdO (fiducialref01_Sign n x.Num) _ = _
 rw [Sign_ok (by omega) (by omega) hx.num]; rfl
theorem qCompare_ok {n : Nat} {x y : api_Rat} {a b : Rat} {j k : Nat} (hn : 5000 ≤ n) (hk : j + k + 1 ≤ 60) (hx : Qx x a j) (hy : Qx y b k) : fiducialref02_Compare n x y = some (sgn (a - b).num) := by
 apply Ok.eq
 unfold fiducialref02_Compare
 exact Ok.bd (qSub_ok hn hk hx hy) fun v hv => Ok.bde (qSign_ok hn hk hv) (ok_some.2 rfl)
end Go.L.R

