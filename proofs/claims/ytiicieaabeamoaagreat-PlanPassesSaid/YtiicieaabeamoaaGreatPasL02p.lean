import Derived.Test.YtiicieaabeamoaaGreatPasL01d
import Derived.Test.YtiicieaabeamoaaGreatPl6giknfhhc
set_option linter.all false
namespace Go.L
open Go Go.Eng
def Qx (x : api_Rat) (r : Rat) (k : Nat) : Prop := QL x.Num.Negative x.Num.Groups x.Den.Negative x.Den.Groups r k
theorem quot_ok {n : Nat} {x y : api_Int} {p q : Int} {k : Nat} (hn : 5000 ≤ n) (hk : k ≤ 60) (hx : isI x.Negative x.Groups p) (hy : isI y.Negative y.Groups q) (lx : x.Groups.length ≤ k) (ly : y.Groups.length ≤ k) (hq : 0 < q) :
  Ok (bdO (integer_Gcd n x y) fun v14 => bdO (integer_Divide n x v14) fun v16 => bdO (integer_Divide n y v14) fun v18 => some (api_Rat.mk v16.1 v18.1)) fun z => Qx z (Rat.divInt p q) k := by
 have hg := gZ_pos (v := p) (by omega : q ≠ 0)
 refine Ok.bd (Gcd_ok hn hx hy (by omega) (by omega)) fun g hgi => ?_
 have bq := isI_bound hy ly
 have bp := isI_bound hx lx
 have dp := gZ_dvd_left p q
 have dq := gZ_dvd_right p q
 have ap := abs_ediv_le p _ hg dp
 have aq := abs_ediv_le q _ hg dq
 have lg : g.Groups.length ≤ k := isI_len hgi (by omega) (by
  have : 1 * gZ p q ≤ (q / gZ p q) * gZ p q := Int.mul_le_mul_of_nonneg_right (by
   by_cases h : 1 ≤ q / gZ p q
   · exact h
   · have : (q / gZ p q) * gZ p q ≤ 0 * gZ p q := Int.mul_le_mul_of_nonneg_right (by omega) (by omega)
     omega) (by omega)
  omega)
 refine Ok.bd (Divide_even (k := p / gZ p q) (by omega) (by rw [← dp]; exact hx) hgi (by omega) (by omega) (by omega)) fun a ha => ?_
 refine Ok.bd (Divide_even (k := q / gZ p q) (by omega) (by rw [← dq]; exact hy) hgi (by omega) (by omega) (by omega)) fun b hb => ok_some.2 ?_
 exact ⟨by rw [divInt_num hq]; exact ha, by rw [divInt_den hq]; exact hb, isI_len ha (by omega) (by omega), isI_len hb (by omega) (by omega)⟩
theorem neg_len {p q : Bool} {g h : List Int} {v : Int} (a : isI p g v) (b : isI q h (-v)) {k : Nat} (hk : g.length ≤ k) : h.length ≤ k := by
 have := isI_bound a hk
 exact isI_len b (by omega) (by omega)
theorem reduced_ok {n : Nat} {x y : api_Int} {p q : Int} {k : Nat} (hn : 5000 ≤ n) (hk : k ≤ 60) (hx : isI x.Negative x.Groups p) (hy : isI y.Negative y.Groups q) (lx : x.Groups.length ≤ k) (ly : y.Groups.length ≤ k) (hq : q ≠ 0) :
  Ok (fraction_reduced n x y) fun z => Qx z (Rat.divInt p q) k := by
 unfold fraction_reduced
 refine Ok.bde (Sign_ok (by omega) (by omega) hy) ?_
 have hs := sgn_cases q
 refine Ok.cd (fun h => ?_) (fun h => ?_)
 · have := of_decide_eq_true h
   refine Ok.bd (Neg_ok (by omega) (by omega) hx) fun x' hx' => Ok.bd (Neg_ok (by omega) (by omega) hy) fun y' hy' => ?_
   rw [← divInt_neg]
   exact quot_ok hn hk hx' hy' (neg_len hx hx' lx) (neg_len hy hy' ly) (by omega)
 · have := of_decide_eq_false h
   exact quot_ok hn hk hx hy lx ly (by omega)
theorem qValid_ok {n : Nat} {x : api_Rat} {r : Rat} {k : Nat} (hn : 5000 ≤ n) (hk : k ≤ 60) (h : Qx x r k) : fraction_Valid n x = some true := by
 apply Ok.eq
 unfold fraction_Valid
 have hp := den_pos r
 have hnl := h.nl; have hdl := h.dl
 refine Ok.bde (Valid_ok (by omega) (by omega) h.num) (Ok.cd (fun h => by cases h) fun _ => ?_)
 refine Ok.bde (Valid_ok (by omega) (by omega) h.den) (Ok.cd (fun h => by cases h) fun _ => ?_)
 refine Ok.bde (Sign_ok (by omega) (by omega) h.den) ?_
 rw [sgn_pos hp]
 refine Ok.cd (fun h => absurd h (by decide)) fun _ => ?_
 refine Ok.bd (Gcd_ok hn h.num h.den (by omega) (by omega)) fun g hg => ?_
 rw [gZ_red] at hg
 refine Ok.bd (Of_ok (by omega) (by decide) (by decide)) fun one h1 => ?_
 have l1 := isI_len_of h1 (by decide) (by decide)
 have lg := isI_len_of hg (by decide) (by decide)
 refine Ok.bde (Compare_ok (by omega) hg h1 (by omega) (by omega)) (ok_some.2 rfl)
theorem copied_ok {n : Nat} {x : api_Rat} {r : Rat} {k : Nat} (hn : 5000 ≤ n) (hk : k ≤ 60) (h : Qx x r k) : Ok (fraction_copied n x) fun z => Qx z r k := by
 unfold fraction_copied
 have hnl := h.nl; have hdl := h.dl
 refine Ok.bd (Neg_ok (by omega) (by omega) h.num) fun a ha => ?_
 have la := neg_len h.num ha h.nl
 refine Ok.bd (Neg_ok (by omega) (by omega) ha) fun b hb => ?_
 have lb := neg_len ha hb la
 refine Ok.bd (Neg_ok (by omega) (by omega) h.den) fun c hc => ?_
 have lc := neg_len h.den hc h.dl
 refine Ok.bd (Neg_ok (by omega) (by omega) hc) fun d hd => ok_some.2 ?_
 have ld := neg_len hc hd lc
 rw [Int.neg_neg] at hb hd
 exact ⟨hb, hd, lb, ld⟩
theorem qValue_ok {n : Nat} {x : api_Rat} {r : Rat} {k : Nat} (hn : 5000 ≤ n) (hk : k ≤ 60) (h : Qx x r k) : Ok (fraction_Value n x) fun z => Qx z r k := by
 unfold fraction_Value
 refine Ok.bde (qValid_ok hn hk h) (Ok.cd (fun _ => Ok.bd (copied_ok hn hk h) fun z hz => ok_some.2 hz) fun h => by cases h)
theorem qWhole_ok {n : Nat} {v : Int} (hn : 5000 ≤ n) (h0 : -9223372036854775808 ≤ v) (hv : v ≤ 9223372036854775807) : Ok (fraction_Whole n v) fun z => Qx z (Rat.divInt v 1) 3 := by
 unfold fraction_Whole
 refine Ok.bd (Of_ok (by omega) h0 hv) fun a ha => Ok.bd (Of_ok (by omega) (by decide) (by decide)) fun b hb => ok_some.2 ?_
 obtain ⟨e1, e2⟩ := whole_num v
 exact ⟨by rw [e1]; exact ha, by rw [e2]; exact hb, isI_len_of ha h0 hv, isI_len_of hb (by decide) (by decide)⟩
theorem qNew_ok {n : Nat} {x y : api_Int} {p q : Int} {k : Nat} (hn : 5000 ≤ n) (hk : k ≤ 60) (hx : isI x.Negative x.Groups p) (hy : isI y.Negative y.Groups q) (lx : x.Groups.length ≤ k) (ly : y.Groups.length ≤ k) (hq : q ≠ 0) :
  Ok (fraction_New n x y) fun z => Qx z.1 (Rat.divInt p q) k ∧ z.2 = 0 := by
 unfold fraction_New fraction_counted
 refine Ok.bde (b := x) (by rw [Valid_ok (by omega) (by omega) hx]; rfl) (Ok.bde (b := y) (by rw [Valid_ok (by omega) (by omega) hy]; rfl) ?_)
 refine Ok.bde (Sign_ok (by omega) (by omega) hy) ?_
 have hs := sgn_cases q
 refine Ok.cd (fun h => ?_) (fun h => ?_)
 · have : sgn q = 0 := by simpa using h
   omega
 · exact Ok.bd (reduced_ok hn hk hx hy lx ly hq) fun z hz => ok_some.2 ⟨hz, rfl⟩
theorem qOf_ok {n : Nat} {p q : Int} (hn : 5000 ≤ n) (h0 : -9223372036854775808 ≤ p) (hv : p ≤ 9223372036854775807) (h1 : -9223372036854775808 ≤ q) (hv1 : q ≤ 9223372036854775807) (hq : q ≠ 0) : Ok (fraction_Of n p q) fun z => Qx z.1 (Rat.divInt p q) 3 ∧ z.2 = 0 := by
 unfold fraction_Of
 refine Ok.bd (Of_ok (by omega) h0 hv) fun a ha => Ok.bd (Of_ok (by omega) h1 hv1) fun b hb => ?_
 exact Ok.bd (qNew_ok hn (k := 3) (by omega) ha hb (isI_len_of ha h0 hv) (isI_len_of hb h1 hv1) hq) fun z hz => ok_some.2 hz
theorem add_rat (a b : Rat) : Rat.divInt (a.num * (b.den : Int) + b.num * (a.den : Int)) ((a.den : Int) * (b.den : Int)) = a + b := by
 have h1 := den_pos a; have h2 := den_pos b
 rw [← Rat.divInt_add_divInt _ _ (by omega) (by omega), Rat.num_divInt_den, Rat.num_divInt_den]
theorem qAdd_ok {n : Nat} {x y : api_Rat} {a b : Rat} {j k : Nat} (hn : 5000 ≤ n) (hk : j + k + 1 ≤ 60) (hx : Qx x a j) (hy : Qx y b k) : Ok (fraction_Add n x y) fun z => Qx z (a + b) (j + k + 1) := by
 unfold fraction_Add
 refine Ok.bd (qValue_ok hn (by omega) hx) fun u hu => Ok.bd (qValue_ok hn (by omega) hy) fun v hv => ?_
 have n1 := hu.nl; have n2 := hv.nl; have d1 := hu.dl; have d2 := hv.dl
 refine Ok.bd (Mul_ok (by omega) hu.num hv.den (by omega) (by omega)) fun p hp => Ok.bd (Mul_ok (by omega) hv.num hu.den (by omega) (by omega)) fun p' hp' => ?_
 have lp := isI_len_mul hu.num hv.den hp n1 d2
 have lp' := isI_len_mul hv.num hu.den hp' n2 d1
 refine Ok.bd (Add_ok (by omega) hp hp' (by omega) (by omega)) fun s hs => Ok.bd (Mul_ok (by omega) hu.den hv.den (by omega) (by omega)) fun q hq => ?_
 have ls := isI_len_add hp hp' hs (k := j + k) (by omega) (by omega)
 have lq := isI_len_mul hu.den hv.den hq d1 d2
 have h1 := den_pos a; have h2 := den_pos b
 have h3 : (0 : Int) < (a.den : Int) * (b.den : Int) := Int.mul_pos h1 h2
 refine Ok.bd (reduced_ok hn hk hs hq (by omega) (by omega) (by omega)) fun z hz => ok_some.2 ?_
 rw [add_rat] at hz; exact hz
end Go.L

