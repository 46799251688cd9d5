/- Layer 9, P9.2: the circle. -/
import Derived.Test.YtlajgmapmocpbaaGreatCircL09a
import Derived.Test.YtlajgmapmocpbaaGreatCircL01m
import Derived.Test.YtlajgmapmocpbaaGreatCircL01s
set_option linter.unusedVariables false
set_option linter.unusedSimpArgs false
namespace Go.L
open Go Go.Eng

/-- The sum of |p - d|^2 times the cross product of the other two, seen from d. -/
def circZ (a b c d : api_Pix) : Int := dotZ d a a * crossZ d b c + dotZ d b b * crossZ d c a + dotZ d c c * crossZ d a b
def circV (a b c d : api_Pix) : Int := if orientZ a b c = 0 then 0 else if badP d = true then 0 else orientZ a b c * sgn (circZ a b c d)
theorem orient_in {a b c : api_Pix} (h : orientZ a b c ≠ 0) : In a ∧ In b ∧ In c := by
  apply in3
  cases hb : (badP a || badP b || badP c) with
  | false => rfl
  | true => exact absurd (by unfold orientZ; simp [hb]) h
theorem circle1_ok {n : Nat} (hn : 1000 ≤ n) {p q r d : api_Pix} (hp : In p) (hq : In q) (hr : In r) (hd : In d) {neg : Bool} {g : List Int} {v : Int} (hg : isI neg g v) {k : Nat} (lg : g.length ≤ k) (hk : 6 ≤ k) (hk2 : k ≤ 300) :
    Ok (predicate_Circle_1_w n p q r neg g d.X d.Y) fun z => isI z.1 z.2 (v + dotZ d p p * crossZ d q r) ∧ z.2.length ≤ k + 1 := by
  unfold predicate_Circle_1_w
  have e : (api_Pix.mk d.X d.Y) = d := rfl
  rw [e, dot_v hd hp hp, cross_v hd hq hr]
  have b1 := dot_bound hd hp hp
  have b2 := cross_bound hd hq hr
  have c1 : -9223372036854775808 ≤ dotZ d p p ∧ dotZ d p p ≤ 9223372036854775807 := by unfold dotZ; omega
  have c2 : -9223372036854775808 ≤ crossZ d q r ∧ crossZ d q r ≤ 9223372036854775807 := by unfold crossZ; omega
  refine Ok.bde rfl (Ok.bd (Of_ok hn c1.1 c1.2) fun x hx => Ok.bde rfl (Ok.bd (Of_ok hn c2.1 c2.2) fun y hy => ?_))
  have lx := isI_len_of hx c1.1 c1.2
  have ly := isI_len_of hy c2.1 c2.2
  refine Ok.bd (Mul_ok hn hx hy (by omega) (by omega)) fun z hz => ?_
  have lz := isI_len_mul hx hy hz lx ly
  refine Ok.bd (Add_ok hn (x := api_Int.mk neg g) hg hz (by simp only; omega) (by omega)) fun w hw => ok_some.2 ⟨hw, ?_⟩
  exact isI_len_add hg hz hw lg (by omega)
theorem circle_v {n : Nat} (hn : 1000 ≤ n) (a b c d : api_Pix) : predicate_Circle n a b c d = some (circV a b c d) := by
  apply Ok.eq
  unfold predicate_Circle circV
  rw [orient_v (by omega)]
  show Ok (cdO _ _ _) _
  refine Ok.cd (fun h => ?_) (fun h => ?_)
  · have : orientZ a b c = 0 := by simpa using h
    rw [if_pos this]; exact ok_some.2 rfl
  · have h0 : orientZ a b c ≠ 0 := by simpa using h
    obtain ⟨ha, hb, hc⟩ := orient_in h0
    rw [if_neg h0, check_v (by omega) (by simp; omega) (by simp)]
    show Ok (cdO _ _ _) _
    have hany : ([d] : List api_Pix).any badP = badP d := by simp
    rw [hany]
    refine Ok.cd (fun h => ?_) (fun h => ?_)
    · have : badP d = true := by cases hd : badP d with | true => rfl | false => simp [hd] at h
      rw [if_pos this]; exact ok_some.2 rfl
    · have hd : badP d = false := by cases hd : badP d with | false => rfl | true => simp [hd] at h
      rw [if_neg (by simp [hd])]
      refine Ok.bd (Of_ok hn (by decide) (by decide)) fun z hz => ?_
      have lz := isI_len_of hz (by decide) (by decide)
      refine Ok.bd (circle1_ok hn ha hb hc hd hz (k := 6) (by omega) (by omega) (by omega)) fun z1 h1 => ?_
      refine Ok.bd (circle1_ok hn hb hc ha hd h1.1 (k := 7) h1.2 (by omega) (by omega)) fun z2 h2 => ?_
      refine Ok.bd (circle1_ok hn hc ha hb hd h2.1 (k := 8) h2.2 (by omega) (by omega)) fun z3 h3 => ?_
      rw [Sign_ok hn (x := api_Int.mk z3.1 z3.2) (by simp only; omega) h3.1]
      have e : 0 + dotZ d a a * crossZ d b c + dotZ d b b * crossZ d c a + dotZ d c c * crossZ d a b = circZ a b c d := by unfold circZ; omega
      rw [e]
      refine ok_some.2 ?_
      have ho := orient_range a b c
      have hs := sgn_cases (circZ a b c d)
      have hm := mul_bound (a := orientZ a b c) (b := sgn (circZ a b c d)) (A := 1) (B := 1) (by omega) (by omega) (by omega) (by omega)
      exact wrap64_in (by omega) (by omega)

theorem diff_in {p d : api_Pix} (hp : In p) (hd : In d) : (-2097152 ≤ p.X - d.X ∧ p.X - d.X ≤ 2097152) ∧ (-2097152 ≤ p.Y - d.Y ∧ p.Y - d.Y ≤ 2097152) := by
  have h1 := In.iff.1 hp; have h2 := In.iff.1 hd; omega
def isR (r : A3 api_Int) (p d : api_Pix) : Prop := isI r.e0.Negative r.e0.Groups (p.X - d.X) ∧ isI r.e1.Negative r.e1.Groups (p.Y - d.Y) ∧ isI r.e2.Negative r.e2.Groups (dotZ d p p) ∧ r.e0.Groups.length ≤ 3 ∧ r.e1.Groups.length ≤ 3 ∧ r.e2.Groups.length ≤ 3
theorem row_ok {n : Nat} (hn : 1000 ≤ n) {p d : api_Pix} (hp : In p) (hd : In d) : Ok (fiducialref09_row n p d) fun r => isR r p d := by
  unfold fiducialref09_row
  have h := diff_in hp hd
  have b1 := dot_bound hd hp hp
  rw [wrap64_in (n := p.X - d.X) (by omega) (by omega), wrap64_in (n := p.Y - d.Y) (by omega) (by omega), wrap64_in (n := (p.X - d.X) * (p.X - d.X)) (by omega) (by omega), wrap64_in (n := (p.Y - d.Y) * (p.Y - d.Y)) (by omega) (by omega), wrap64_in (n := (p.X - d.X) * (p.X - d.X) + (p.Y - d.Y) * (p.Y - d.Y)) (by omega) (by omega)]
  refine Ok.bd (R.Of_ok hn (by omega) (by omega)) fun x hx => Ok.bd (R.Of_ok hn (by omega) (by omega)) fun y hy => Ok.bd (R.Of_ok hn (by omega) (by omega)) fun z hz => ok_some.2 ?_
  exact ⟨hx, hy, hz, isI_len_of hx (by omega) (by omega), isI_len_of hy (by omega) (by omega), isI_len_of hz (by omega) (by omega)⟩
theorem two_ok {n : Nat} (hn : 1000 ≤ n) {x y z w : api_Int} {a b c d : Int} (hx : isI x.Negative x.Groups a) (hy : isI y.Negative y.Groups b) (hz : isI z.Negative z.Groups c) (hw : isI w.Negative w.Groups d) (lx : x.Groups.length ≤ 3) (ly : y.Groups.length ≤ 3) (lz : z.Groups.length ≤ 3) (lw : w.Groups.length ≤ 3) :
    Ok (bdO (fiducialref01_Mul n x w) fun v1 => bdO (fiducialref01_Mul n y z) fun v3 => bdO (fiducialref01_Sub n v1 v3) fun v5 => some v5) fun r => isI r.Negative r.Groups (a * d - b * c) ∧ r.Groups.length ≤ 7 := by
  refine Ok.bd (R.Mul_ok hn hx hw (by omega) (by omega)) fun u hu => Ok.bd (R.Mul_ok hn hy hz (by omega) (by omega)) fun v hv => ?_
  have lu := isI_len_mul hx hw hu lx lw
  have lv := isI_len_mul hy hz hv ly lz
  exact Ok.bd (R.Sub_ok hn hu hv (by omega) (by omega)) fun r hr => ok_some.2 ⟨hr, isI_len_sub hu hv hr lu lv⟩
theorem rcircle_v {n : Nat} (hn : 1000 ≤ n) (a b c d : api_Pix) : fiducialref09_Circle n a b c d = some (circV a b c d) := by
  apply Ok.eq
  unfold fiducialref09_Circle circV
  rw [rorient_v (by omega)]
  show Ok (cdO _ _ _) _
  refine Ok.cd (fun h => ?_) (fun h => ?_)
  · have : orientZ a b c = 0 := by simpa using h
    rw [if_pos this]; exact ok_some.2 rfl
  · have h0 : orientZ a b c ≠ 0 := by simpa using h
    obtain ⟨ha, hb, hc⟩ := orient_in h0
    rw [if_neg h0, valid_v]
    show Ok (cdO _ _ _) _
    refine Ok.cd (fun h => ?_) (fun h => ?_)
    · have : badP d = true := by simpa using h
      rw [if_pos this]; exact ok_some.2 rfl
    · have hd : badP d = false := by simpa using h
      rw [if_neg (by simp [hd])]
      refine Ok.bd (row_ok hn ha hd) fun p hp => Ok.bd (row_ok hn hb hd) fun q hq => Ok.bd (row_ok hn hc hd) fun r hr => ?_
      obtain ⟨p0, p1, p2, m0, m1, m2⟩ := hp
      obtain ⟨q0, q1, q2, k0, k1, k2⟩ := hq
      obtain ⟨r0, r1, r2, l0, l1, l2⟩ := hr
      refine Ok.bd (two_ok hn q1 q2 r1 r2 k1 k2 l1 l2) fun t1 ht1 => ?_
      refine Ok.bd (R.Mul_ok hn p0 ht1.1 (by omega) (by omega)) fun s1 hs1 => ?_
      have z1 := isI_len_mul p0 ht1.1 hs1 m0 ht1.2
      refine Ok.bd (two_ok hn q0 q2 r0 r2 k0 k2 l0 l2) fun t2 ht2 => ?_
      refine Ok.bd (R.Mul_ok hn p1 ht2.1 (by omega) (by omega)) fun s2 hs2 => ?_
      have z2 := isI_len_mul p1 ht2.1 hs2 m1 ht2.2
      refine Ok.bd (R.Sub_ok hn hs1 hs2 (by omega) (by omega)) fun s3 hs3 => ?_
      have z3 := isI_len_sub hs1 hs2 hs3 z1 z2
      refine Ok.bd (two_ok hn q0 q1 r0 r1 k0 k1 l0 l1) fun t3 ht3 => ?_
      refine Ok.bd (R.Mul_ok hn p2 ht3.1 (by omega) (by omega)) fun s4 hs4 => ?_
      have z4 := isI_len_mul p2 ht3.1 hs4 m2 ht3.2
      refine Ok.bd (R.Add_ok hn hs3 hs4 (by omega) (by omega)) fun s5 hs5 => ?_
      have z5 := isI_len_add hs3 hs4 hs5 (k := 11) z3 (by omega)
      rw [R.Sign_ok hn (by omega) hs5]
      have e : (a.X - d.X) * ((b.Y - d.Y) * dotZ d c c - dotZ d b b * (c.Y - d.Y)) - (a.Y - d.Y) * ((b.X - d.X) * dotZ d c c - dotZ d b b * (c.X - d.X)) + dotZ d a a * ((b.X - d.X) * (c.Y - d.Y) - (b.Y - d.Y) * (c.X - d.X)) = circZ a b c d := by
        unfold circZ crossZ
        generalize dotZ d a a = A
        generalize dotZ d b b = B
        generalize dotZ d c c = C
        grind
      rw [e]
      refine ok_some.2 ?_
      have ho := orient_range a b c
      have hs := sgn_cases (circZ a b c d)
      have hm := mul_bound (a := orientZ a b c) (b := sgn (circZ a b c d)) (A := 1) (B := 1) (by omega) (by omega) (by omega) (by omega)
      exact wrap64_in (by omega) (by omega)
theorem circ_swap (a b c d : api_Pix) : circZ b a c d = -circZ a b c d := by
  unfold circZ crossZ
  generalize dotZ d a a = A
  generalize dotZ d b b = B
  generalize dotZ d c c = C
  grind
theorem circ_turn (a b c d : api_Pix) : circZ b c a d = circZ a b c d := by unfold circZ; omega
theorem circV_swap (a b c d : api_Pix) : circV b a c d = circV a b c d := by
  unfold circV
  rw [orient_swap, circ_swap, sgn_neg]
  by_cases h : orientZ a b c = 0
  · rw [if_pos (by omega), if_pos h]
  · rw [if_neg (by omega), if_neg h, Int.neg_mul_neg]
theorem circV_turn (a b c d : api_Pix) : circV b c a d = circV a b c d := by
  unfold circV; rw [orient_turn, circ_turn]
theorem circle_law (l : A4 api_Pix) : fiduciallaw09_PredicateCircle 5000 l = some true := by
  unfold fiduciallaw09_PredicateCircle
  rw [known09_v]
  simp only [bdO, circle_v (n := 5000) (by omega), rcircle_v (n := 5000) (by omega), circV_swap l.e0 l.e1 l.e2 l.e3, circV_turn l.e0 l.e1 l.e2 l.e3, beq_self_eq_true]
  rfl
end Go.L
