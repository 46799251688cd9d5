import Derived.Test.YtecdcgfclgmbpaaGreatLinL01v
import Derived.Test.YtecdcgfclgmbpaaGreatLinL02pB
import Derived.Test.YtecdcgfclgmbpaaGreatPl6Lins
import Derived.Test.YtecdcgfclgmbpaaGreatLinL01q
set_option linter.all false
namespace Go.L.R
open Go Go.Eng Go.L
theorem yu {n : Nat} {a b : List Int} (hn : 1000 <= n) (ha : Can a) (hb : Can b) (hb0 : b ≠ []) (la : a.length <= 300) (lb : b.length <= 300) : Ok (cX n a b) fun r => Can r.1 /\ Can r.2 /\ vl r.2 < vl b /\ vl r.1 * vl b + vl r.2 = vl a := by
 unfold cX
 have hbp := jN hb hb0
 have hap := ba ha.dig
 have lpos : 0 < b.length := List.length_pos_iff.2 hb0
 refine Ok.cd (fun h => ?_) (fun h => ?_)
 · have hl : b.length = 1 := by simp at h; omega
   obtain ⟨d, rfl⟩ : ∃ d, b = [d] := by
    match b, hl with
    | [d], _ => exact ⟨d, rfl⟩
   have hd := fy.1 hb.dig
   have hd0 : d ≠ 0 := hb.2.1 rfl
   refine Ok.gd rfl ?_
   have e : gt [d] 0 = d := rfl
   rw [e, aH hd.1 (by omega)]
   refine Ok.bd (mX hn ha.dig (by omega) (by omega) (by omega)) ?_
   rintro ⟨q, r⟩ ⟨q1, q2, q3⟩
   simp only at q1 q2 q3
   dsimp only
   rw [bc q2.1 (by omega)]
   refine Ok.bd (wO hn (fy.2 (by omega)) (by simp)) ?_
   rintro z ⟨z1, z2⟩
   rw [gw] at z2
   refine aw.2 ⟨q1, z1, ?_, ?_⟩
   · simp only [z2, gw]; exact q2.2
   · simp only [z2, gw]; exact q3
 · have hl : 2 <= b.length := by simp at h; omega
   refine Ok.bde (xx hn ha hb (by omega) (by omega)) ?_
   have hs := iu (vl a - vl b)
   refine Ok.cd (fun h => ?_) (fun h => ?_)
   · have hlt : vl a < vl b := by have := dcT h; omega
     exact aw.2 ⟨trivial, ha, hlt, by show 0 * vl b + vl a = vl a; omega⟩
   · have hle : vl b <= vl a := by have := dcF h; omega
     rw [kS (k := b.length) (by omega) (by omega), dx]
     have dt := cu hb.dig (b.length - 1)
     obtain ⟨t1, t2, t3, t4⟩ := sS hb (by omega)
     rw [aH (n := b.getD (b.length - 1) 0) (by omega) (by omega), aH (n := b.getD (b.length - 1) 0 + 1) (by omega) (by omega), (od (by omega : (0 : Int) <= 1000000000)).1]
     obtain ⟨s, hsc⟩ : ∃ s, (1000000000 : Int) / (b.getD (b.length - 1) 0 + 1) = s := ⟨_, rfl⟩
     obtain ⟨s1, s2, s3, s4⟩ := p9 t1 t2 hsc.symm
     rw [hsc, aH (n := s) (by omega) (by omega)]
     refine Ok.gd (by rw [bg]; simp; omega) (Ok.gd (by rw [decide_eq_false (by omega)]; rfl) ?_)
     refine Ok.bd (tx hn ha.dig (by omega) (by omega) (by omega)) ?_
     rintro A ⟨A1, A2⟩
     refine Ok.bd (tx hn hb.dig (by omega) (by omega) (by omega)) ?_
     rintro v ⟨v1, v2⟩
     obtain ⟨lv, hv1, _, _⟩ := zJ hb (by omega) hsc.symm v1 v2
     have lA : A.length <= a.length + 1 := lQ A1 (by
      have h1 := im ha.dig
      rw [A2, cA]
      have : vl a * s <= vl a * 1000000000 := mlT (by omega) hap
      omega)
     have lAv : v.length <= A.length := by
      by_cases h : v.length <= A.length
      · exact h
      · have := cn A1.dig v1 (by omega)
        have : vl b * s <= vl a * s := mrT hle (by omega)
        omega
     have hw0 : FK ((A.length : Int) - (b.length : Int)) = ((A.length - b.length : Nat) : Int) := by rw [wrap64_in (by omega) (by omega)]; omega
     rw [hw0, ji (by omega)]
     obtain ⟨m, hm⟩ : ∃ m, A.length - b.length + 1 = m := ⟨_, rfl⟩
     rw [hm, Int.toNat_natCast, Int.toNat_natCast]
     have et : (A.drop m).take (A.length - m) = A.drop m := by rw [List.take_of_length_le]; rw [List.length_drop]; omega
     rw [et]
     refine Ok.gd (sZ.2 (by omega)) ?_
     refine Ok.bd (wO hn (ik A1.dig m) (by rw [List.length_drop]; omega)) ?_
     rintro r0 ⟨r1, r2⟩
     refine Ok.gd (by simp) (Ok.gd (by simp; omega) (Ok.gd (by simp; omega) ?_))
     have hr0 : vl r0.Groups < vl v := by
      have h1 := im (ik A1.dig m)
      rw [List.length_drop, (by omega : A.length - m = v.length - 1)] at h1
      obtain ⟨c1, c2, c3, c4⟩ := sS v1 (by omega)
      have hp := gU (v.length - 1)
      have : pB (v.length - 1) * 1 <= pB (v.length - 1) * v.getD (v.length - 1) 0 := mlT c1 (by omega)
      omega
     refine Ok.bd (Bz hn v1 lv.symm hv1 (by omega) (by omega) A1.dig (m := m) (by omega) (by omega) r1 hr0 r2 (by omega)) ?_
     rintro ⟨w, q⟩ ⟨w1, w2, q1, q2, q3⟩
     simp only at w1 w2 q1 q2 q3
     dsimp only
     have lw : w.length <= 900 := by
      by_cases hl : w.length <= v.length
      · omega
      · have := cn v1.dig w1 (by omega); omega
     refine Ok.bd (mX hn w1.dig lw (by omega) (by omega)) ?_
     rintro ⟨y, c⟩ ⟨y1, y2, y3⟩
     simp only at y1 y2 y3
     refine Ok.bd (wO hn q1 (by omega)) ?_
     rintro z ⟨z1, z2⟩
     obtain ⟨f1, f2⟩ := CZ (a := vl a) (b := vl b) (q := vl q) s2 y2 y3 (by rw [<- v2]; exact w2) (by rw [<- v2, <- A2, q3])
     refine aw.2 ⟨z1, y1, f1, ?_⟩
     simp only
     rw [z2]; exact f2
theorem AI {n : Nat} {g : List Int} (h : Dig g) (hl : g.length <= 2) : df n g = some (vl g) /\ 0 <= vl g /\ vl g < 1000000000000000000 := by
 unfold df
 have e1 : aZ n g 1 = some (g.getD 1 0) := l9 (k := 1) h
 have e0 : aZ n g 0 = some (g.getD 0 0) := l9 (k := 0) h
 rw [e1, e0]
 have d0 := cu h 0; have d1 := cu h 1
 have ev : vl g = g.getD 0 0 + 1000000000 * g.getD 1 0 := by
  have a0 : vl (g.drop 0) = g.getD 0 0 + 1000000000 * vl (g.drop 1) := gJ g 0
  have a1 := gJ g 1
  rw [List.drop_of_length_le (by omega : g.length <= 1 + 1)] at a1
  have e00 : vl ([] : List Int) = 0 := rfl
  rw [List.drop_zero] at a0
  have a1 : vl (g.drop 1) = g.getD 1 0 + 1000000000 * vl [] := a1
  omega
 show some _ = _ /\ _
 rw [aH (n := g.getD 1 0 * 1000000000) (by omega) (by omega), aH (n := g.getD 1 0 * 1000000000 + g.getD 0 0) (by omega) (by omega), ev]
 exact ⟨congrArg some (by omega), by omega, by omega⟩
theorem qz (x y : Nat) : Nat.gcd y (x % y) = Nat.gcd x y := by rw [Nat.gcd_comm x y, Nat.gcd_rec y x, Nat.gcd_comm]
theorem xl {n : Nat} {x y : ah} {v w : Int} (hn : 20000 <= n) (hx : isI x.Negative x.Groups v) (hy : isI y.Negative y.Groups w) (lx : x.Groups.length <= 250) (ly : y.Groups.length <= 250) : Ok (fu n x y) fun z => isI z.Negative z.Groups (gZ v w) := by
 unfold fu
 refine Ok.bde (jZ (by omega) (by omega) hx) (Ok.bde (jZ (by omega) (by omega) hy) ?_)
 have ex : v.natAbs = (vl x.Groups).toNat := by have := gX hx; omega
 have ey : w.natAbs = (vl y.Groups).toNat := by have := gX hy; omega
 have e0 : gZ v w = ((Nat.gcd (vl x.Groups).toNat (vl y.Groups).toNat : Nat) : Int) := by unfold gZ; rw [ex, ey]
 refine Ok.bd (R := fun o => Can o.1 /\ Can o.2 /\ o.1.length <= 250 /\ o.2.length <= 250 /\ ((Nat.gcd (vl o.1).toNat (vl o.2).toNat : Nat) : Int) = gZ v w /\ (o.2 ≠ [] -> o.1.length <= 2 /\ o.2.length <= 2)) ?_ ?_
 · refine dj (fun p : List Int × List Int => Can p.1 /\ Can p.2 /\ p.1.length <= 250 /\ p.2.length <= 250 /\ ((Nat.gcd (vl p.1).toNat (vl p.2).toNat : Nat) : Int) = gZ v w) (fun p => gm (vl p.1).toNat (vl p.2).toNat) ?_ n _ ⟨hx.1, hy.1, lx, ly, e0.symm⟩ ?_
   · rintro again ⟨a, b⟩ ⟨ha, hb, la, lb, hg⟩ ih
     simp only at ha hb la lb hg
     dsimp only
     have hap := ba ha.dig
     refine Ok.cd (fun h => ?_) (fun h => ?_)
     · have hb0 : b ≠ [] := by rintro rfl; simp at h
       have hbp := jN hb hb0
       have rest : Ok (bdO (cX n a b) fun v57 => again (b, v57.2)) fun o => Can o.1 /\ Can o.2 /\ o.1.length <= 250 /\ o.2.length <= 250 /\ ((Nat.gcd (vl o.1).toNat (vl o.2).toNat : Nat) : Int) = gZ v w /\ (o.2 ≠ [] -> o.1.length <= 2 /\ o.2.length <= 2) := by
        refine Ok.bd (yu (by omega) ha hb hb0 (by omega) (by omega)) ?_
        rintro ⟨q, r⟩ ⟨q1, r1, r2, r3⟩
        simp only at q1 r1 r2 r3
        have hrp := ba r1.dig
        have er : vl r = vl a % vl b := by
         have h1 : (vl q * vl b + vl r) % vl b = vl r % vl b := by rw [Int.add_comm, Int.add_mul_emod_self_right]
         rw [<- r3, h1, Int.emod_eq_of_lt hrp r2]
        have ern : (vl r).toNat = (vl a).toNat % (vl b).toNat := by
         rw [er, Int.toNat_emod hap (by omega)]
        have hlt : r.length <= 250 := by
         by_cases hl : r.length <= 250
         · exact hl
         · have := cn hb.dig r1 (by omega); omega
        exact ih _ ⟨hb, r1, lb, hlt, by simp only; rw [ern, qz]; exact hg⟩ (by simp only; rw [ern]; exact uJ (by omega))
       refine Ok.cd (fun h1 => rest) (fun h1 => Ok.cd (fun h2 => rest) (fun h2 => ?_))
       have := dcF h1; have := dcF h2
       exact aw.2 ⟨ha, hb, la, lb, hg, fun _ => ⟨(show a.length <= 2 by omega), (show b.length <= 2 by omega)⟩⟩
     · have hb0 : b = [] := by
        cases b with
        | nil => rfl
        | cons => exact absurd (dcF h) (by simp)
       exact aw.2 ⟨ha, hb, la, lb, hg, fun h => absurd hb0 h⟩
   · obtain ⟨K, hK⟩ : ∃ K : Nat, K = 250 := ⟨_, rfl⟩
     have h1 := xu hx.1.dig (k := K) (by omega); have h2 := xu hy.1.dig (k := K) (by omega)
     have h3 := Nat.mul_lt_mul'' h1 h2
     rw [<- Nat.pow_add] at h3
     have := sg h3
     simp only; omega
 · rintro ⟨a, b⟩ ⟨ha, hb, la, lb, hg, hs⟩
   simp only at ha hb la lb hg hs
   dsimp only
   have hap := ba ha.dig
   refine Ok.cd (fun h => ?_) (fun h => ?_)
   · have hb0 : b = [] := by simpa using h
     subst hb0
     refine Ok.bd (dR (by omega) false ha.dig (by omega)) fun y hy => aw.2 ?_
     have e : vl a = gZ v w := by
      rw [<- hg]
      show vl a = ((Nat.gcd (vl a).toNat 0 : Nat) : Int)
      rw [Nat.gcd_zero_right]; omega
     rw [e] at hy; exact hy
   · have hb0 : b ≠ [] := by rintro rfl; simp at h
     obtain ⟨la2, lb2⟩ := hs hb0
     have wa := AI (n := n) ha.dig la2
     have wb := AI (n := n) hb.dig lb2
     refine Ok.bde wa.1 (Ok.bde wb.1 ?_)
     refine Ok.bd (R := fun m => m = gZ v w /\ m < 1000000000000000000) ?_ ?_
     · refine dj (fun p : Int × Int => 0 <= p.1 /\ p.1 < 1000000000000000000 /\ 0 <= p.2 /\ p.2 < 1000000000000000000 /\ ((Nat.gcd p.1.toNat p.2.toNat : Nat) : Int) = gZ v w) (fun p => gm p.1.toNat p.2.toNat) ?_ n _ ⟨wa.2.1, wa.2.2, wb.2.1, wb.2.2, hg⟩ ?_
       · rintro again' ⟨c, d⟩ ⟨c1, c2, d1, d2, hcd⟩ ih'
         simp only at c1 c2 d1 d2 hcd
         dsimp only
         refine Ok.cd (fun h => ?_) (fun h => ?_)
         · have hd := dcT h
           refine Ok.gd (by rw [decide_eq_false (by omega)]; rfl) ?_
           rw [(od c1).2]
           have hm1 := Int.emod_nonneg c (by omega : d ≠ 0)
           have hm2 := Int.emod_lt_of_pos c (by omega : 0 < d)
           have em : (c % d).toNat = c.toNat % d.toNat := Int.toNat_emod c1 d1
           exact ih' _ ⟨d1, d2, hm1, by simp only; omega, by simp only; rw [em, qz]; exact hcd⟩ (by simp only; rw [em]; exact uJ (by omega))
         · have hd := dcF h
           have : d = 0 := by omega
           subst this
           refine aw.2 ⟨?_, c2⟩
           rw [<- hcd]
           simp [Nat.gcd_zero_right]; omega
       · have : gm (vl a).toNat (vl b).toNat <= 120 + 3 := sg (by
          have h1 : (vl a).toNat < 2 ^ 60 := by omega
          have h2 : (vl b).toNat < 2 ^ 60 := by omega
          have h3 : (vl a).toNat * (vl b).toNat < 2 ^ 60 * 2 ^ 60 := Nat.mul_lt_mul'' h1 h2
          rw [<- Nat.pow_add] at h3; exact h3)
         simp only; omega
     · rintro m ⟨hm, hm2⟩
       have hm0 : 0 <= m := by rw [hm]; exact Int.natCast_nonneg _
       rw [(od hm0).1, (od hm0).2, aH (n := m / 1000000000) (by omega) (by omega), bc (n := m / 1000000000) (by omega) (by omega), bc (n := m % 1000000000) (by omega) (by omega)]
       refine Ok.bd (dR (by omega) false (hU.2 ⟨by omega, fy.2 (by omega)⟩) (by simp)) fun y hy => aw.2 ?_
       have e : vl [m % 1000000000, m / 1000000000] = m := by
        show m % 1000000000 + 1000000000 * vl [m / 1000000000] = m
        rw [gw]; omega
       simp only [Bool.false_eq_true, if_false] at hy
       rw [e, hm] at hy
       exact hy
theorem zn {n : Nat} {x y : ah} {v w : Int} (hn : 1000 <= n) (hx : isI x.Negative x.Groups v) (hy : isI y.Negative y.Groups w) (lx : x.Groups.length <= 400) (ly : y.Groups.length <= 400) : eZ n x y = some (sgn (v - w)) := by
 apply Ok.eq
 unfold eZ
 refine Ok.bd (BM hn hx hy lx ly) fun z hz => ?_
 have := yi hx hy hz lx ly
 exact Ok.bde (nB hn (by omega) hz) (aw.2 rfl)
theorem jF {n : Nat} {x y : ah} {k w : Int} (hn : 1000 <= n) (hx : isI x.Negative x.Groups (k * w)) (hy : isI y.Negative y.Groups w) (hw : w ≠ 0) (lx : x.Groups.length <= 250) (ly : y.Groups.length <= 250) : Ok (cK n x y) fun z => isI z.1.Negative z.1.Groups k := by
 unfold cK
 refine Ok.bde (jZ hn (by omega) hx) (Ok.bde (jZ hn (by omega) hy) ?_)
 have hy0 : y.Groups ≠ [] := by
  intro h
  have := hy.2.2
  rw [h] at this
  have e : vl ([] : List Int) = 0 := rfl
  rw [e] at this
  apply hw; rw [this]; split <;> rfl
 refine Ok.cd (fun h => absurd h (by simp [hy0])) (fun h => ?_)
 refine Ok.bd (yu hn hx.1 hy.1 hy0 (by omega) (by omega)) ?_
 rintro ⟨c, d⟩ ⟨c1, d1, d2, d3⟩
 simp only at c1 d1 d2 d3
 dsimp only
 have hyp := jN hy.1 hy0
 have cp := ba c1.dig; have dp := ba d1.dig
 have ax := gX hx; have ay := gX hy
 have em : vl x.Groups = (k.natAbs : Int) * vl y.Groups := by rw [ax, ay, Int.natAbs_mul]; push_cast; rfl
 have ec : vl c = (k.natAbs : Int) /\ vl d = 0 := by
  have e : ((k.natAbs : Int) - vl c) * vl y.Groups = vl d := by rw [Int.sub_mul]; omega
  have h0 : (k.natAbs : Int) - vl c = 0 := by
   by_cases h1 : (k.natAbs : Int) - vl c = 0
   · exact h1
   · exfalso
     by_cases h2 : 1 <= (k.natAbs : Int) - vl c
     · have : 1 * vl y.Groups <= ((k.natAbs : Int) - vl c) * vl y.Groups := mrT h2 (by omega)
       omega
     · have : ((k.natAbs : Int) - vl c) * vl y.Groups <= (-1) * vl y.Groups := mrT (by omega) (by omega)
       omega
  rw [h0] at e
  omega
 have lc : c.length <= 250 := by
  by_cases hl : c.length <= 250
  · exact hl
  · have := cn hx.1.dig c1 (by omega)
    have : vl c * 1 <= vl c * vl y.Groups := mlT (by omega) cp
    omega
 have hd0 : d = [] := qB d1 ec.2
 subst hd0
 refine Ok.bd (dR hn _ c1.dig (by omega)) fun z hz => ?_
 have hzk : isI z.Negative z.Groups k := by
  have nx := hx.2.2; have ny := hy.2.2
  have : k = (if (x.Negative != y.Negative) = true then -vl c else vl c) := by
   rw [ec.1]
   have hk : k = 0 \/ 0 < k \/ k < 0 := by omega
   cases hxn : x.Negative <;> cases hyn : y.Negative <;> rw [hxn] at nx <;> rw [hyn] at ny <;> simp only [Bool.false_eq_true, if_false, if_true] at nx ny <;> simp <;> rcases hk with hk | hk | hk <;> try omega
   all_goals exfalso
   all_goals
    first
    | (have h8 := Int.mul_neg_of_neg_of_pos hk (by omega : 0 < w); have := ba hx.1.dig; omega)
    | (have h8 := Int.mul_pos hk (by omega : 0 < w); have hxp := jN hx.1 (hx.2.1 hxn); omega)
    | (have h8 := Int.mul_neg_of_pos_of_neg hk (by omega : w < 0); have := ba hx.1.dig; omega)
    | (have h8 := Int.mul_pos_of_neg_of_neg hk (by omega : w < 0); have hxp := jN hx.1 (hx.2.1 hxn); omega)
  rw [this]; exact hz
 have hcl := im c1.dig
 have hcm := iJ lc
 have lz := gW hzk (k := 250) (by omega) (by omega)
 have tail : ∀ {β : Type} (f : ah -> ah -> Option β) {Q : β -> Prop}, (∀ m d, Ok (f m d) Q) -> Ok (bdO (bO n z y) fun v20 => bdO (cH n x v20) fun v22 => f v20 v22) Q := by
  intro β f Q hf
  refine Ok.bd (x8 hn hzk hy (by omega) (by omega)) fun p hp => ?_
  have lp : p.Groups.length <= 250 := by rw [(Dj hp hx).2]; exact lx
  exact Ok.bd (BM hn hx hp (by omega) (by omega)) fun d _ => hf p d
 refine Ok.cd (fun h => ?_) (fun h => ?_)
 · refine Ok.cd (fun h => absurd (dcT h) (by simp)) (fun h => ?_)
   exact tail (fun m d => some ((z, d, 0))) fun m d => aw.2 hzk
 · exact tail (fun m d => some ((z, d, 0))) fun m d => aw.2 hzk
end Go.L.R


set_option linter.all false
namespace Go.L.R
open Go Go.Eng Go.L
def Qx (x : ak) (r : Rat) (k : Nat) : Prop := QL x.Num.Negative x.Num.Groups x.Den.Negative x.Den.Groups r k
theorem s8 {p q : Bool} {g h : List Int} {v : Int} (a : isI p g v) (b : isI q h (-v)) {k : Nat} (hk : g.length <= k) : h.length <= k := by
 have := jc a hk
 exact gW b (by omega) (by omega)
theorem pI {n : Nat} {x y : ah} {p q : Int} {k : Nat} (hn : 20000 <= n) (hk : k <= 250) (hx : isI x.Negative x.Groups p) (hy : isI y.Negative y.Groups q) (lx : x.Groups.length <= k) (ly : y.Groups.length <= k) (hq : q ≠ 0) :
  Ok (dI n x y) fun z => Qx z (Rat.divInt p q) k := by
 unfold dI
 have hg := zV (v := p) hq
 refine Ok.bd (xl hn hx hy (by omega) (by omega)) fun g hgi => ?_
 have bq := jc hy ly
 have bp := jc hx lx
 have dp := qM p q
 have dq := o0 p q
 have ap := kh p _ hg dp
 have aq := kh q _ hg dq
 have hq0 : q / gZ p q ≠ 0 := by intro h; rw [h, Int.zero_mul] at dq; exact hq dq
 have gq : gZ p q <= (q.natAbs : Int) := by
  have e : q.natAbs = (q / gZ p q).natAbs * (gZ p q).natAbs := by rw [<- Int.natAbs_mul, <- dq]
  have : 1 * (gZ p q).natAbs <= (q / gZ p q).natAbs * (gZ p q).natAbs := Nat.mul_le_mul_right _ (by omega)
  omega
 have lg : g.Groups.length <= k := gW hgi (by omega) (by omega)
 refine Ok.bde (nB (by omega) (by omega) hy) ?_
 have hs := iu q
 refine Ok.cd (fun h => ?_) (fun h => ?_)
 · have hneg : q < 0 := by have := dcT h; omega
   refine Ok.bd (ua (by omega) (by omega) hgi) fun g' hg' => ?_
   have lg' := s8 hgi hg' lg
   refine Ok.bd (jF (k := -(p / gZ p q)) (by omega) (by rw [Int.neg_mul_neg, <- dp]; exact hx) hg' (by omega) (by omega) (by omega)) fun a ha => ?_
   refine Ok.bd (jF (k := -(q / gZ p q)) (by omega) (by rw [Int.neg_mul_neg, <- dq]; exact hy) hg' (by omega) (by omega) (by omega)) fun b hb => aw.2 ?_
   have eg : gZ (-p) (-q) = gZ p q := by unfold gZ; rw [Int.natAbs_neg, Int.natAbs_neg]
   have e1 : (Rat.divInt p q).num = -(p / gZ p q) := by
    rw [<- rW, pc (by omega), eg]
    rw [show -p = (-(p / gZ p q)) * gZ p q by rw [Int.neg_mul, <- dp], Int.mul_ediv_cancel _ (by omega)]
   have e2 : ((Rat.divInt p q).den : Int) = -(q / gZ p q) := by
    rw [<- rW, pe (by omega), eg]
    rw [show -q = (-(q / gZ p q)) * gZ p q by rw [Int.neg_mul, <- dq], Int.mul_ediv_cancel _ (by omega)]
   exact ⟨by rw [e1]; exact ha, by rw [e2]; exact hb, gW ha (by omega) (by omega), gW hb (by omega) (by omega)⟩
 · have hpos : 0 < q := by have := dcF h; omega
   refine Ok.bd (jF (k := p / gZ p q) (by omega) (by rw [<- dp]; exact hx) hgi (by omega) (by omega) (by omega)) fun a ha => ?_
   refine Ok.bd (jF (k := q / gZ p q) (by omega) (by rw [<- dq]; exact hy) hgi (by omega) (by omega) (by omega)) fun b hb => aw.2 ?_
   exact ⟨by rw [pc hpos]; exact ha, by rw [pe hpos]; exact hb, gW ha (by omega) (by omega), gW hb (by omega) (by omega)⟩
theorem vy {n : Nat} {v : Int} (hn : 20000 <= n) (h0 : -9223372036854775808 <= v) (hv : v <= 9223372036854775807) : Ok (bY n v) fun z => isI z.Negative z.Groups v := by
 unfold bY
 exact Ok.bd (AQ (by omega) h0 hv) fun a ha => aw.2 ha
theorem tK {n : Nat} {x : ak} {r : Rat} {k : Nat} (hn : 20000 <= n) (hk : k <= 250) (h : Qx x r k) : cB n x = some true := by
 apply Ok.eq
 unfold cB
 have hp := den_pos r
 have hnl := h.nl; have hdl := h.dl
 refine Ok.bde (nf (by omega) (by omega) h.num) (Ok.cd (fun h => by cases h) fun _ => ?_)
 refine Ok.bde (nf (by omega) (by omega) h.den) (Ok.cd (fun h => by cases h) fun _ => ?_)
 refine Ok.bde (nB (by omega) (by omega) h.den) ?_
 rw [qZ hp]
 refine Ok.cd (fun h => absurd h (by decide)) fun _ => ?_
 refine Ok.bd (xl hn h.num h.den (by omega) (by omega)) fun g hg => ?_
 rw [Ee] at hg
 refine Ok.bd (vy (by omega) (by decide) (by decide)) fun one h1 => ?_
 have l1 := lj h1 (by decide) (by decide)
 have lg := lj hg (by decide) (by decide)
 exact Ok.bde (zn (by omega) hg h1 (by omega) (by omega)) (aw.2 rfl)
theorem qV {n : Nat} {x : ak} {r : Rat} {k : Nat} (hn : 20000 <= n) (hk : k <= 250) (h : Qx x r k) : cW n x = some x := by
 unfold cW; rw [tK hn hk h]; rfl
theorem zp {n : Nat} {p q : Int} (hn : 20000 <= n) (h0 : -9223372036854775808 <= p) (hv : p <= 9223372036854775807) (h1 : -9223372036854775808 <= q) (hv1 : q <= 9223372036854775807) (hq : q ≠ 0) : Ok (fW n p q) fun z => Qx z.1 (Rat.divInt p q) 3 /\ z.2 = 0 := by
 unfold fW jn
 refine Ok.bd (vy (by omega) h0 hv) fun a ha => Ok.bd (vy (by omega) h1 hv1) fun b hb => ?_
 have la := lj ha h0 hv; have lb := lj hb h1 hv1
 refine Ok.bd (R := fun z => Qx z.1 (Rat.divInt p q) 3 /\ z.2 = 0) ?_ fun z hz => aw.2 hz
 refine Ok.bde (nB (by omega) (by omega) hb) ?_
 have hs := iu q
 refine Ok.cd (fun h => ?_) (fun h => ?_)
 · have : sgn q = 0 := by simpa using h
   omega
 · exact Ok.bd (pI hn (by omega) ha hb la lb hq) fun z hz => aw.2 ⟨hz, rfl⟩
theorem CY (a b : Rat) : Rat.divInt (a.num * (b.den : Int) + b.num * (a.den : Int)) ((a.den : Int) * (b.den : Int)) = a + b := by
 have h1 := den_pos a; have h2 := den_pos b
 rw [<- Rat.divInt_add_divInt _ _ (by omega) (by omega), Rat.num_divInt_den, Rat.num_divInt_den]
theorem C7 {n : Nat} {x y : ak} {a b : Rat} {j k : Nat} (hn : 20000 <= n) (hk : j + k + 1 <= 250) (hx : Qx x a j) (hy : Qx y b k) : Ok (gI n x y) fun z => Qx z (a + b) (j + k + 1) := by
 unfold gI
 refine Ok.bde (qV hn (by omega) hx) (Ok.bde (qV hn (by omega) hy) ?_)
 have n1 := hx.nl; have n2 := hy.nl; have d1 := hx.dl; have d2 := hy.dl
 refine Ok.bd (x8 (by omega) hx.num hy.den (by omega) (by omega)) fun p hp => Ok.bd (x8 (by omega) hy.num hx.den (by omega) (by omega)) fun p' hp' => ?_
 have lp := qq hx.num hy.den hp n1 d2
 have lp' := qq hy.num hx.den hp' n2 d1
 refine Ok.bd (Cp (by omega) hp hp' (by omega) (by omega)) fun s hs => Ok.bd (x8 (by omega) hx.den hy.den (by omega) (by omega)) fun q hq => ?_
 have ls := yM hp hp' hs (k := j + k) (by omega) (by omega)
 have lq := qq hx.den hy.den hq d1 d2
 have h1 := den_pos a; have h2 := den_pos b
 have h3 : (0 : Int) < (a.den : Int) * (b.den : Int) := Int.mul_pos h1 h2
 refine Ok.bd (pI hn hk hs hq (by omega) (by omega) (by omega)) fun z hz => aw.2 ?_
 rw [CY] at hz; exact hz
theorem De {n : Nat} {x : ak} {a : Rat} {k : Nat} (hn : 20000 <= n) (hk : k <= 250) (hx : Qx x a k) : Ok (gG n x) fun z => Qx z (-a) k := by
 unfold gG
 have n1 := hx.nl
 refine Ok.bde (qV hn hk hx) (Ok.bd (ua (by omega) (by omega) hx.num) fun z hz => aw.2 ?_)
 exact ⟨(show (-a).num = -a.num from rfl) ▸ hz, (show (-a).den = a.den from rfl) ▸ hx.den, s8 hx.num hz hx.nl, hx.dl⟩
theorem Dt {n : Nat} {x y : ak} {a b : Rat} {j k : Nat} (hn : 20000 <= n) (hk : j + k + 1 <= 250) (hx : Qx x a j) (hy : Qx y b k) : Ok (gF n x y) fun z => Qx z (a - b) (j + k + 1) := by
 unfold gF
 refine Ok.bd (De hn (by omega) hy) fun v hv => Ok.bd (C7 hn hk hx hv) fun z hz => aw.2 ?_
 rw [Rat.sub_eq_add_neg]; exact hz
theorem Cs {n : Nat} {x : ak} {a : Rat} {k : Nat} (hn : 20000 <= n) (hk : k <= 250) (hx : Qx x a k) : ga n x = some (sgn a.num) := by
 unfold ga
 have n1 := hx.nl
 rw [qV hn hk hx]
 show bdO (cw n x.Num) _ = _
 rw [nB (by omega) (by omega) hx.num]; rfl
theorem zf {n : Nat} {x y : ak} {a b : Rat} {j k : Nat} (hn : 20000 <= n) (hk : j + k + 1 <= 250) (hx : Qx x a j) (hy : Qx y b k) : eW n x y = some (sgn (a - b).num) := by
 apply Ok.eq
 unfold eW
 exact Ok.bd (Dt hn hk hx hy) fun v hv => Ok.bde (Cs hn hk hv) (aw.2 rfl)
theorem BJ {n : Nat} {x y : ak} {a : Rat} {j k : Nat} (hn : 20000 <= n) (hk : j + k + 1 <= 250) (hx : Qx x a j) (hy : Qx y a k) : e8 n x y = some true := by
 apply Ok.eq
 unfold e8
 refine Ok.bde (tK hn (by omega) hx) (Ok.cd (fun _ => ?_) fun h => by cases h)
 refine Ok.bde (tK hn (by omega) hy) (Ok.cd (fun _ => ?_) fun h => by cases h)
 refine Ok.bde (zf hn hk hx hy) (aw.2 ?_)
 rw [Rat.sub_self]; rfl
end Go.L.R


set_option linter.unusedVariables false
namespace Go.L
open Go Go.Eng
theorem QL.tight {nn dn : Bool} {ng dg : List Int} {r : Rat} {j : Nat} (h : QL nn ng dn dg r j) {p q : Int} {k : Nat} (hr : r = Rat.divInt p q) (hq : 0 < q) (h1 : -pB k < p) (h2 : p < pB k) (h3 : q < pB k) : QL nn ng dn dg r k := by
 subst hr
 have hg := zV (v := p) (w := q) (by omega)
 have a1 := kh p _ hg (qM p q)
 have a2 := kh q _ hg (o0 p q)
 have e1 := pc (p := p) hq
 have e2 := pe (p := p) hq
 refine ⟨h.num, h.den, gW h.num (by rw [e1]; omega) (by rw [e1]; omega), gW h.den (by rw [e2]; have := gU k; omega) (by rw [e2]; omega)⟩
end Go.L


set_option linter.unusedVariables false
namespace Go.L
open Go Go.Eng
end Go.L


set_option linter.all false
namespace Go.L
open Go Go.Eng
end Go.L


set_option linter.unusedVariables false
namespace Go.L
open Go Go.Eng
end Go.L


set_option linter.all false
namespace Go.L
open Go Go.Eng
end Go.L

