import Derived.Test.YtecdcgfclgmbpaaGreatMonL01v
import Derived.Test.YtecdcgfclgmbpaaGreatMonL02pB
set_option linter.all false
namespace Go.L.R
open Go Go.Eng Go.L
theorem ym {n : Nat} {a b : List Int} (hn : 1000 <= n) (ha : Can a) (hb : Can b) (hb0 : b ≠ []) (la : a.length <= 300) (lb : b.length <= 300) : Ok (dh n a b) fun r => Can r.1 /\ Can r.2 /\ vl r.2 < vl b /\ vl r.1 * vl b + vl r.2 = vl a := by
 unfold dh
 have hbp := jK hb hb0
 have hap := aZ ha.dig
 have lpos : 0 < b.length := List.length_pos_iff.2 hb0
 refine Ok.cd (fun h => ?_) (fun h => ?_)
 · have hl : b.length = 1 := by simp at h; omega
   obtain ⟨d, rfl⟩ : ∃ d, b = [d] := by
    match b, hl with
    | [d], _ => exact ⟨d, rfl⟩
   have hd := fD.1 hb.dig
   have hd0 : d ≠ 0 := hb.2.1 rfl
   refine Ok.gd rfl ?_
   have e : gt [d] 0 = d := rfl
   rw [e, aF hd.1 (by omega)]
   refine Ok.bd (nP hn ha.dig (by omega) (by omega) (by omega)) ?_
   rintro ⟨q, r⟩ ⟨q1, q2, q3⟩
   simp only at q1 q2 q3
   dsimp only
   rw [bb q2.1 (by omega)]
   refine Ok.bd (xq hn (fD.2 (by omega)) (by simp)) ?_
   rintro z ⟨z1, z2⟩
   rw [gJ] at z2
   refine az.2 ⟨q1, z1, ?_, ?_⟩
   · simp only [z2, gJ]; exact q2.2
   · simp only [z2, gJ]; exact q3
 · have hl : 2 <= b.length := by simp at h; omega
   refine Ok.bde (xS hn ha hb (by omega) (by omega)) ?_
   have hs := df (vl a - vl b)
   refine Ok.cd (fun h => ?_) (fun h => ?_)
   · have hlt : vl a < vl b := by have := dcT h; omega
     exact az.2 ⟨trivial, ha, hlt, by show 0 * vl b + vl a = vl a; omega⟩
   · have hle : vl b <= vl a := by have := dcF h; omega
     rw [lT (k := b.length) (by omega) (by omega), dP]
     have dt := cH hb.dig (b.length - 1)
     obtain ⟨t1, t2, t3, t4⟩ := sV hb (by omega)
     rw [aF (n := b.getD (b.length - 1) 0) (by omega) (by omega), aF (n := b.getD (b.length - 1) 0 + 1) (by omega) (by omega), (oK (by omega : (0 : Int) <= 1000000000)).1]
     obtain ⟨s, hsc⟩ : ∃ s, (1000000000 : Int) / (b.getD (b.length - 1) 0 + 1) = s := ⟨_, rfl⟩
     obtain ⟨s1, s2, s3, s4⟩ := qX t1 t2 hsc.symm
     rw [hsc, aF (n := s) (by omega) (by omega)]
     refine Ok.gd (by rw [bP]; simp; omega) (Ok.gd (by rw [decide_eq_false (by omega)]; rfl) ?_)
     refine Ok.bd (tF hn ha.dig (by omega) (by omega) (by omega)) ?_
     rintro A ⟨A1, A2⟩
     refine Ok.bd (tF hn hb.dig (by omega) (by omega) (by omega)) ?_
     rintro v ⟨v1, v2⟩
     obtain ⟨lv, hv1, _, _⟩ := zq hb (by omega) hsc.symm v1 v2
     have lA : A.length <= a.length + 1 := kM A1 (by
      have h1 := gp ha.dig
      rw [A2, cI]
      have : vl a * s <= vl a * 1000000000 := mlT (by omega) hap
      omega)
     have lAv : v.length <= A.length := by
      by_cases h : v.length <= A.length
      · exact h
      · have := ck A1.dig v1 (by omega)
        have : vl b * s <= vl a * s := mrT hle (by omega)
        omega
     have hw0 : Fj ((A.length : Int) - (b.length : Int)) = ((A.length - b.length : Nat) : Int) := by rw [wrap64_in (by omega) (by omega)]; omega
     rw [hw0, jI (by omega)]
     obtain ⟨m, hm⟩ : ∃ m, A.length - b.length + 1 = m := ⟨_, rfl⟩
     rw [hm, Int.toNat_natCast, Int.toNat_natCast]
     have et : (A.drop m).take (A.length - m) = A.drop m := by rw [List.take_of_length_le]; rw [List.length_drop]; omega
     rw [et]
     refine Ok.gd (tE.2 (by omega)) ?_
     refine Ok.bd (xq hn (iA A1.dig m) (by rw [List.length_drop]; omega)) ?_
     rintro r0 ⟨r1, r2⟩
     refine Ok.gd (by simp) (Ok.gd (by simp; omega) (Ok.gd (by simp; omega) ?_))
     have hr0 : vl r0.Groups < vl v := by
      have h1 := gp (iA A1.dig m)
      rw [List.length_drop, (by omega : A.length - m = v.length - 1)] at h1
      obtain ⟨c1, c2, c3, c4⟩ := sV v1 (by omega)
      have hp := gy (v.length - 1)
      have : pB (v.length - 1) * 1 <= pB (v.length - 1) * v.getD (v.length - 1) 0 := mlT c1 (by omega)
      omega
     refine Ok.bd (Cn hn v1 lv.symm hv1 (by omega) (by omega) A1.dig (m := m) (by omega) (by omega) r1 hr0 r2 (by omega)) ?_
     rintro ⟨w, q⟩ ⟨w1, w2, q1, q2, q3⟩
     simp only at w1 w2 q1 q2 q3
     dsimp only
     have lw : w.length <= 900 := by
      by_cases hl : w.length <= v.length
      · omega
      · have := ck v1.dig w1 (by omega); omega
     refine Ok.bd (nP hn w1.dig lw (by omega) (by omega)) ?_
     rintro ⟨y, c⟩ ⟨y1, y2, y3⟩
     simp only at y1 y2 y3
     refine Ok.bd (xq hn q1 (by omega)) ?_
     rintro z ⟨z1, z2⟩
     obtain ⟨f1, f2⟩ := CZ (a := vl a) (b := vl b) (q := vl q) s2 y2 y3 (by rw [<- v2]; exact w2) (by rw [<- v2, <- A2, q3])
     refine az.2 ⟨z1, y1, f1, ?_⟩
     simp only
     rw [z2]; exact f2
theorem z8 {n : Nat} {g : List Int} (h : Dig g) (hl : g.length <= 2) : dz n g = some (vl g) /\ 0 <= vl g /\ vl g < 1000000000000000000 := by
 unfold dz
 have e1 : aX n g 1 = some (g.getD 1 0) := mC (k := 1) h
 have e0 : aX n g 0 = some (g.getD 0 0) := mC (k := 0) h
 rw [e1, e0]
 have d0 := cH h 0; have d1 := cH h 1
 have ev : vl g = g.getD 0 0 + 1000000000 * g.getD 1 0 := by
  have a0 : vl (g.drop 0) = g.getD 0 0 + 1000000000 * vl (g.drop 1) := ie g 0
  have a1 := ie g 1
  rw [List.drop_of_length_le (by omega : g.length <= 1 + 1)] at a1
  have e00 : vl ([] : List Int) = 0 := rfl
  rw [List.drop_zero] at a0
  have a1 : vl (g.drop 1) = g.getD 1 0 + 1000000000 * vl [] := a1
  omega
 show some _ = _ /\ _
 rw [aF (n := g.getD 1 0 * 1000000000) (by omega) (by omega), aF (n := g.getD 1 0 * 1000000000 + g.getD 0 0) (by omega) (by omega), ev]
 exact ⟨congrArg some (by omega), by omega, by omega⟩
theorem qv (x y : Nat) : Nat.gcd y (x % y) = Nat.gcd x y := by rw [Nat.gcd_comm x y, Nat.gcd_rec y x, Nat.gcd_comm]
theorem vn {n : Nat} {x y : ah} {v w : Int} (hn : 20000 <= n) (hx : isI x.Negative x.Groups v) (hy : isI y.Negative y.Groups w) (lx : x.Groups.length <= 250) (ly : y.Groups.length <= 250) : Ok (fE n x y) fun z => isI z.Negative z.Groups (gZ v w) := by
 unfold fE
 refine Ok.bde (kE (by omega) (by omega) hx) (Ok.bde (kE (by omega) (by omega) hy) ?_)
 have ex : v.natAbs = (vl x.Groups).toNat := by have := gF hx; omega
 have ey : w.natAbs = (vl y.Groups).toNat := by have := gF hy; omega
 have e0 : gZ v w = ((Nat.gcd (vl x.Groups).toNat (vl y.Groups).toNat : Nat) : Int) := by unfold gZ; rw [ex, ey]
 refine Ok.bd (R := fun o => Can o.1 /\ Can o.2 /\ o.1.length <= 250 /\ o.2.length <= 250 /\ ((Nat.gcd (vl o.1).toNat (vl o.2).toNat : Nat) : Int) = gZ v w /\ (o.2 ≠ [] -> o.1.length <= 2 /\ o.2.length <= 2)) ?_ ?_
 · refine dL (fun p : List Int × List Int => Can p.1 /\ Can p.2 /\ p.1.length <= 250 /\ p.2.length <= 250 /\ ((Nat.gcd (vl p.1).toNat (vl p.2).toNat : Nat) : Int) = gZ v w) (fun p => gm (vl p.1).toNat (vl p.2).toNat) ?_ n _ ⟨hx.1, hy.1, lx, ly, e0.symm⟩ ?_
   · rintro again ⟨a, b⟩ ⟨ha, hb, la, lb, hg⟩ ih
     simp only at ha hb la lb hg
     dsimp only
     have hap := aZ ha.dig
     refine Ok.cd (fun h => ?_) (fun h => ?_)
     · have hb0 : b ≠ [] := by rintro rfl; simp at h
       have hbp := jK hb hb0
       have rest : Ok (bdO (dh n a b) fun v57 => again (b, v57.2)) fun o => Can o.1 /\ Can o.2 /\ o.1.length <= 250 /\ o.2.length <= 250 /\ ((Nat.gcd (vl o.1).toNat (vl o.2).toNat : Nat) : Int) = gZ v w /\ (o.2 ≠ [] -> o.1.length <= 2 /\ o.2.length <= 2) := by
        refine Ok.bd (ym (by omega) ha hb hb0 (by omega) (by omega)) ?_
        rintro ⟨q, r⟩ ⟨q1, r1, r2, r3⟩
        simp only at q1 r1 r2 r3
        have hrp := aZ r1.dig
        have er : vl r = vl a % vl b := by
         have h1 : (vl q * vl b + vl r) % vl b = vl r % vl b := by rw [Int.add_comm, Int.add_mul_emod_self_right]
         rw [<- r3, h1, Int.emod_eq_of_lt hrp r2]
        have ern : (vl r).toNat = (vl a).toNat % (vl b).toNat := by
         rw [er, Int.toNat_emod hap (by omega)]
        have hlt : r.length <= 250 := by
         by_cases hl : r.length <= 250
         · exact hl
         · have := ck hb.dig r1 (by omega); omega
        exact ih _ ⟨hb, r1, lb, hlt, by simp only; rw [ern, qv]; exact hg⟩ (by simp only; rw [ern]; exact u5 (by omega))
       refine Ok.cd (fun h1 => rest) (fun h1 => Ok.cd (fun h2 => rest) (fun h2 => ?_))
       have := dcF h1; have := dcF h2
       exact az.2 ⟨ha, hb, la, lb, hg, fun _ => ⟨(show a.length <= 2 by omega), (show b.length <= 2 by omega)⟩⟩
     · have hb0 : b = [] := by
        cases b with
        | nil => rfl
        | cons => exact absurd (dcF h) (by simp)
       exact az.2 ⟨ha, hb, la, lb, hg, fun h => absurd hb0 h⟩
   · obtain ⟨K, hK⟩ : ∃ K : Nat, K = 250 := ⟨_, rfl⟩
     have h1 := xU hx.1.dig (k := K) (by omega); have h2 := xU hy.1.dig (k := K) (by omega)
     have h3 := Nat.mul_lt_mul'' h1 h2
     rw [<- Nat.pow_add] at h3
     have := tl h3
     simp only; omega
 · rintro ⟨a, b⟩ ⟨ha, hb, la, lb, hg, hs⟩
   simp only at ha hb la lb hg hs
   dsimp only
   have hap := aZ ha.dig
   refine Ok.cd (fun h => ?_) (fun h => ?_)
   · have hb0 : b = [] := by simpa using h
     subst hb0
     refine Ok.bd (dr (by omega) false ha.dig (by omega)) fun y hy => az.2 ?_
     have e : vl a = gZ v w := by
      rw [<- hg]
      show vl a = ((Nat.gcd (vl a).toNat 0 : Nat) : Int)
      rw [Nat.gcd_zero_right]; omega
     rw [e] at hy; exact hy
   · have hb0 : b ≠ [] := by rintro rfl; simp at h
     obtain ⟨la2, lb2⟩ := hs hb0
     have wa := z8 (n := n) ha.dig la2
     have wb := z8 (n := n) hb.dig lb2
     refine Ok.bde wa.1 (Ok.bde wb.1 ?_)
     refine Ok.bd (R := fun m => m = gZ v w /\ m < 1000000000000000000) ?_ ?_
     · refine dL (fun p : Int × Int => 0 <= p.1 /\ p.1 < 1000000000000000000 /\ 0 <= p.2 /\ p.2 < 1000000000000000000 /\ ((Nat.gcd p.1.toNat p.2.toNat : Nat) : Int) = gZ v w) (fun p => gm p.1.toNat p.2.toNat) ?_ n _ ⟨wa.2.1, wa.2.2, wb.2.1, wb.2.2, hg⟩ ?_
       · rintro again' ⟨c, d⟩ ⟨c1, c2, d1, d2, hcd⟩ ih'
         simp only at c1 c2 d1 d2 hcd
         dsimp only
         refine Ok.cd (fun h => ?_) (fun h => ?_)
         · have hd := dcT h
           refine Ok.gd (by rw [decide_eq_false (by omega)]; rfl) ?_
           rw [(oK c1).2]
           have hm1 := Int.emod_nonneg c (by omega : d ≠ 0)
           have hm2 := Int.emod_lt_of_pos c (by omega : 0 < d)
           have em : (c % d).toNat = c.toNat % d.toNat := Int.toNat_emod c1 d1
           exact ih' _ ⟨d1, d2, hm1, by simp only; omega, by simp only; rw [em, qv]; exact hcd⟩ (by simp only; rw [em]; exact u5 (by omega))
         · have hd := dcF h
           have : d = 0 := by omega
           subst this
           refine az.2 ⟨?_, c2⟩
           rw [<- hcd]
           simp [Nat.gcd_zero_right]; omega
       · have : gm (vl a).toNat (vl b).toNat <= 120 + 3 := tl (by
          have h1 : (vl a).toNat < 2 ^ 60 := by omega
          have h2 : (vl b).toNat < 2 ^ 60 := by omega
          have h3 : (vl a).toNat * (vl b).toNat < 2 ^ 60 * 2 ^ 60 := Nat.mul_lt_mul'' h1 h2
          rw [<- Nat.pow_add] at h3; exact h3)
         simp only; omega
     · rintro m ⟨hm, hm2⟩
       have hm0 : 0 <= m := by rw [hm]; exact Int.natCast_nonneg _
       rw [(oK hm0).1, (oK hm0).2, aF (n := m / 1000000000) (by omega) (by omega), bb (n := m / 1000000000) (by omega) (by omega), bb (n := m % 1000000000) (by omega) (by omega)]
       refine Ok.bd (dr (by omega) false (iN.2 ⟨by omega, fD.2 (by omega)⟩) (by simp)) fun y hy => az.2 ?_
       have e : vl [m % 1000000000, m / 1000000000] = m := by
        show m % 1000000000 + 1000000000 * vl [m / 1000000000] = m
        rw [gJ]; omega
       simp only [Bool.false_eq_true, if_false] at hy
       rw [e, hm] at hy
       exact hy
theorem sG {n : Nat} {x y : ah} {v w : Int} (hn : 1000 <= n) (hx : isI x.Negative x.Groups v) (hy : isI y.Negative y.Groups w) (lx : x.Groups.length <= 400) (ly : y.Groups.length <= 400) : fe n x y = some (sgn (v - w)) := by
 apply Ok.eq
 unfold fe
 refine Ok.bd (Ce hn hx hy lx ly) fun z hz => ?_
 have := yO hx hy hz lx ly
 exact Ok.bde (kd hn (by omega) hz) (az.2 rfl)
theorem jT {n : Nat} {x y : ah} {k w : Int} (hn : 1000 <= n) (hx : isI x.Negative x.Groups (k * w)) (hy : isI y.Negative y.Groups w) (hw : w ≠ 0) (lx : x.Groups.length <= 250) (ly : y.Groups.length <= 250) : Ok (cW n x y) fun z => isI z.1.Negative z.1.Groups k := by
 unfold cW
 refine Ok.bde (kE hn (by omega) hx) (Ok.bde (kE hn (by omega) hy) ?_)
 have hy0 : y.Groups ≠ [] := by
  intro h
  have := hy.2.2
  rw [h] at this
  have e : vl ([] : List Int) = 0 := rfl
  rw [e] at this
  apply hw; rw [this]; split <;> rfl
 refine Ok.cd (fun h => absurd h (by simp [hy0])) (fun h => ?_)
 refine Ok.bd (ym hn hx.1 hy.1 hy0 (by omega) (by omega)) ?_
 rintro ⟨c, d⟩ ⟨c1, d1, d2, d3⟩
 simp only at c1 d1 d2 d3
 dsimp only
 have hyp := jK hy.1 hy0
 have cp := aZ c1.dig; have dp := aZ d1.dig
 have ax := gF hx; have ay := gF hy
 have em : vl x.Groups = (k.natAbs : Int) * vl y.Groups := by rw [ax, ay, Int.natAbs_mul]; push_cast; rfl
 have ec : vl c = (k.natAbs : Int) /\ vl d = 0 := by
  have e : ((k.natAbs : Int) - vl c) * vl y.Groups = vl d := by rw [Int.sub_mul]; omega
  have h0 : (k.natAbs : Int) - vl c = 0 := by
   by_cases h1 : (k.natAbs : Int) - vl c = 0
   · exact h1
   · exfalso
     by_cases h2 : 1 <= (k.natAbs : Int) - vl c
     · have : 1 * vl y.Groups <= ((k.natAbs : Int) - vl c) * vl y.Groups := mrT h2 (by omega)
       omega
     · have : ((k.natAbs : Int) - vl c) * vl y.Groups <= (-1) * vl y.Groups := mrT (by omega) (by omega)
       omega
  rw [h0] at e
  omega
 have lc : c.length <= 250 := by
  by_cases hl : c.length <= 250
  · exact hl
  · have := ck hx.1.dig c1 (by omega)
    have : vl c * 1 <= vl c * vl y.Groups := mlT (by omega) cp
    omega
 have hd0 : d = [] := qP d1 ec.2
 subst hd0
 refine Ok.bd (dr hn _ c1.dig (by omega)) fun z hz => ?_
 have hzk : isI z.Negative z.Groups k := by
  have nx := hx.2.2; have ny := hy.2.2
  have : k = (if (x.Negative != y.Negative) = true then -vl c else vl c) := by
   rw [ec.1]
   have hk : k = 0 \/ 0 < k \/ k < 0 := by omega
   cases hxn : x.Negative <;> cases hyn : y.Negative <;> rw [hxn] at nx <;> rw [hyn] at ny <;> simp only [Bool.false_eq_true, if_false, if_true] at nx ny <;> simp <;> rcases hk with hk | hk | hk <;> try omega
   all_goals exfalso
   all_goals
    first
    | (have h8 := Int.mul_neg_of_neg_of_pos hk (by omega : 0 < w); have := aZ hx.1.dig; omega)
    | (have h8 := Int.mul_pos hk (by omega : 0 < w); have hxp := jK hx.1 (hx.2.1 hxn); omega)
    | (have h8 := Int.mul_neg_of_pos_of_neg hk (by omega : w < 0); have := aZ hx.1.dig; omega)
    | (have h8 := Int.mul_pos_of_neg_of_neg hk (by omega : w < 0); have hxp := jK hx.1 (hx.2.1 hxn); omega)
  rw [this]; exact hz
 have hcl := gp c1.dig
 have hcm := gX lc
 have lz := iy hzk (k := 250) (by omega) (by omega)
 have tail : ∀ {β : Type} (f : ah -> ah -> Option β) {Q : β -> Prop}, (∀ m d, Ok (f m d) Q) -> Ok (bdO (bE n z y) fun v20 => bdO (cS n x v20) fun v22 => f v20 v22) Q := by
  intro β f Q hf
  refine Ok.bd (lF hn hzk hy (by omega) (by omega)) fun p hp => ?_
  have lp : p.Groups.length <= 250 := by rw [(Dd hp hx).2]; exact lx
  exact Ok.bd (Ce hn hx hp (by omega) (by omega)) fun d _ => hf p d
 refine Ok.cd (fun h => ?_) (fun h => ?_)
 · refine Ok.cd (fun h => absurd (dcT h) (by simp)) (fun h => ?_)
   exact tail (fun m d => some ((z, d, 0))) fun m d => az.2 hzk
 · exact tail (fun m d => some ((z, d, 0))) fun m d => az.2 hzk
end Go.L.R


set_option linter.all false
namespace Go.L.R
open Go Go.Eng Go.L
def Qx (x : ai) (r : Rat) (k : Nat) : Prop := QL x.Num.Negative x.Num.Groups x.Den.Negative x.Den.Groups r k
theorem mq {p q : Bool} {g h : List Int} {v : Int} (a : isI p g v) (b : isI q h (-v)) {k : Nat} (hk : g.length <= k) : h.length <= k := by
 have := jA a hk
 exact iy b (by omega) (by omega)
theorem jZ {n : Nat} {x y : ah} {p q : Int} {k : Nat} (hn : 20000 <= n) (hk : k <= 250) (hx : isI x.Negative x.Groups p) (hy : isI y.Negative y.Groups q) (lx : x.Groups.length <= k) (ly : y.Groups.length <= k) (hq : q ≠ 0) :
  Ok (dj n x y) fun z => Qx z (Rat.divInt p q) k := by
 unfold dj
 have hg := y9 (v := p) hq
 refine Ok.bd (vn hn hx hy (by omega) (by omega)) fun g hgi => ?_
 have bq := jA hy ly
 have bp := jA hx lx
 have dp := qS p q
 have dq := pH p q
 have ap := kZ p _ hg dp
 have aq := kZ q _ hg dq
 have hq0 : q / gZ p q ≠ 0 := by intro h; rw [h, Int.zero_mul] at dq; exact hq dq
 have gq : gZ p q <= (q.natAbs : Int) := by
  have e : q.natAbs = (q / gZ p q).natAbs * (gZ p q).natAbs := by rw [<- Int.natAbs_mul, <- dq]
  have : 1 * (gZ p q).natAbs <= (q / gZ p q).natAbs * (gZ p q).natAbs := Nat.mul_le_mul_right _ (by omega)
  omega
 have lg : g.Groups.length <= k := iy hgi (by omega) (by omega)
 refine Ok.bde (kd (by omega) (by omega) hy) ?_
 have hs := df q
 refine Ok.cd (fun h => ?_) (fun h => ?_)
 · have hneg : q < 0 := by have := dcT h; omega
   refine Ok.bd (nJ (by omega) (by omega) hgi) fun g' hg' => ?_
   have lg' := mq hgi hg' lg
   refine Ok.bd (jT (k := -(p / gZ p q)) (by omega) (by rw [Int.neg_mul_neg, <- dp]; exact hx) hg' (by omega) (by omega) (by omega)) fun a ha => ?_
   refine Ok.bd (jT (k := -(q / gZ p q)) (by omega) (by rw [Int.neg_mul_neg, <- dq]; exact hy) hg' (by omega) (by omega) (by omega)) fun b hb => az.2 ?_
   have eg : gZ (-p) (-q) = gZ p q := by unfold gZ; rw [Int.natAbs_neg, Int.natAbs_neg]
   have e1 : (Rat.divInt p q).num = -(p / gZ p q) := by
    rw [<- sD, nT (by omega), eg]
    rw [show -p = (-(p / gZ p q)) * gZ p q by rw [Int.neg_mul, <- dp], Int.mul_ediv_cancel _ (by omega)]
   have e2 : ((Rat.divInt p q).den : Int) = -(q / gZ p q) := by
    rw [<- sD, nO (by omega), eg]
    rw [show -q = (-(q / gZ p q)) * gZ p q by rw [Int.neg_mul, <- dq], Int.mul_ediv_cancel _ (by omega)]
   exact ⟨by rw [e1]; exact ha, by rw [e2]; exact hb, iy ha (by omega) (by omega), iy hb (by omega) (by omega)⟩
 · have hpos : 0 < q := by have := dcF h; omega
   refine Ok.bd (jT (k := p / gZ p q) (by omega) (by rw [<- dp]; exact hx) hgi (by omega) (by omega) (by omega)) fun a ha => ?_
   refine Ok.bd (jT (k := q / gZ p q) (by omega) (by rw [<- dq]; exact hy) hgi (by omega) (by omega) (by omega)) fun b hb => az.2 ?_
   exact ⟨by rw [nT hpos]; exact ha, by rw [nO hpos]; exact hb, iy ha (by omega) (by omega), iy hb (by omega) (by omega)⟩
theorem we {n : Nat} {v : Int} (hn : 20000 <= n) (h0 : -9223372036854775808 <= v) (hv : v <= 9223372036854775807) : Ok (ch n v) fun z => isI z.Negative z.Groups v := by
 unfold ch
 exact Ok.bd (vX (by omega) h0 hv) fun a ha => az.2 ha
theorem tW {n : Nat} {x : ai} {r : Rat} {k : Nat} (hn : 20000 <= n) (hk : k <= 250) (h : Qx x r k) : cQ n x = some true := by
 apply Ok.eq
 unfold cQ
 have hp := den_pos r
 have hnl := h.nl; have hdl := h.dl
 refine Ok.bde (lM (by omega) (by omega) h.num) (Ok.cd (fun h => by cases h) fun _ => ?_)
 refine Ok.bde (lM (by omega) (by omega) h.den) (Ok.cd (fun h => by cases h) fun _ => ?_)
 refine Ok.bde (kd (by omega) (by omega) h.den) ?_
 rw [pD hp]
 refine Ok.cd (fun h => absurd h (by decide)) fun _ => ?_
 refine Ok.bd (vn hn h.num h.den (by omega) (by omega)) fun g hg => ?_
 rw [BN] at hg
 refine Ok.bd (we (by omega) (by decide) (by decide)) fun one h1 => ?_
 have l1 := iu h1 (by decide) (by decide)
 have lg := iu hg (by decide) (by decide)
 exact Ok.bde (sG (by omega) hg h1 (by omega) (by omega)) (az.2 rfl)
theorem fo {n : Nat} {x : ai} {r : Rat} {k : Nat} (hn : 20000 <= n) (hk : k <= 250) (h : Qx x r k) : cz n x = some x := by
 unfold cz; rw [tW hn hk h]; rfl
theorem vY {n : Nat} {p q : Int} (hn : 20000 <= n) (h0 : -9223372036854775808 <= p) (hv : p <= 9223372036854775807) (h1 : -9223372036854775808 <= q) (hv1 : q <= 9223372036854775807) (hq : q ≠ 0) : Ok (gi n p q) fun z => Qx z.1 (Rat.divInt p q) 3 /\ z.2 = 0 := by
 unfold gi jN
 refine Ok.bd (we (by omega) h0 hv) fun a ha => Ok.bd (we (by omega) h1 hv1) fun b hb => ?_
 have la := iu ha h0 hv; have lb := iu hb h1 hv1
 refine Ok.bd (R := fun z => Qx z.1 (Rat.divInt p q) 3 /\ z.2 = 0) ?_ fun z hz => az.2 hz
 refine Ok.bde (kd (by omega) (by omega) hb) ?_
 have hs := df q
 refine Ok.cd (fun h => ?_) (fun h => ?_)
 · have : sgn q = 0 := by simpa using h
   omega
 · exact Ok.bd (jZ hn (by omega) ha hb la lb hq) fun z hz => az.2 ⟨hz, rfl⟩
theorem xx (a b : Rat) : Rat.divInt (a.num * b.num) ((a.den : Int) * (b.den : Int)) = a * b := by
 rw [<- Rat.divInt_mul_divInt, Rat.num_divInt_den, Rat.num_divInt_den]
theorem ya (a b : Rat) : Rat.divInt (a.num * (b.den : Int) + b.num * (a.den : Int)) ((a.den : Int) * (b.den : Int)) = a + b := by
 have h1 := den_pos a; have h2 := den_pos b
 rw [<- Rat.divInt_add_divInt _ _ (by omega) (by omega), Rat.num_divInt_den, Rat.num_divInt_den]
theorem og {n : Nat} {x y : ai} {a b : Rat} {j k : Nat} (hn : 20000 <= n) (hk : j + k <= 250) (hx : Qx x a j) (hy : Qx y b k) : Ok (dR n x y) fun z => Qx z (a * b) (j + k) := by
 unfold dR
 refine Ok.bde (fo hn (by omega) hx) (Ok.bde (fo hn (by omega) hy) ?_)
 have n1 := hx.nl; have n2 := hy.nl; have d1 := hx.dl; have d2 := hy.dl
 refine Ok.bd (lF (by omega) hx.num hy.num (by omega) (by omega)) fun p hp => Ok.bd (lF (by omega) hx.den hy.den (by omega) (by omega)) fun q hq => ?_
 have h1 := den_pos a; have h2 := den_pos b
 have h3 : (0 : Int) < (a.den : Int) * (b.den : Int) := Int.mul_pos h1 h2
 refine Ok.bd (jZ hn hk hp hq (eY hx.num hy.num hp n1 n2) (eY hx.den hy.den hq d1 d2) (by omega)) fun z hz => az.2 ?_
 rw [xx] at hz; exact hz
theorem n9 {n : Nat} {x y : ai} {a b : Rat} {j k : Nat} (hn : 20000 <= n) (hk : j + k + 1 <= 250) (hx : Qx x a j) (hy : Qx y b k) : Ok (hZ n x y) fun z => Qx z (a + b) (j + k + 1) := by
 unfold hZ
 refine Ok.bde (fo hn (by omega) hx) (Ok.bde (fo hn (by omega) hy) ?_)
 have n1 := hx.nl; have n2 := hy.nl; have d1 := hx.dl; have d2 := hy.dl
 refine Ok.bd (lF (by omega) hx.num hy.den (by omega) (by omega)) fun p hp => Ok.bd (lF (by omega) hy.num hx.den (by omega) (by omega)) fun p' hp' => ?_
 have lp := eY hx.num hy.den hp n1 d2
 have lp' := eY hy.num hx.den hp' n2 d1
 refine Ok.bd (xL (by omega) hp hp' (by omega) (by omega)) fun s hs => Ok.bd (lF (by omega) hx.den hy.den (by omega) (by omega)) fun q hq => ?_
 have ls := uN hp hp' hs (k := j + k) (by omega) (by omega)
 have lq := eY hx.den hy.den hq d1 d2
 have h1 := den_pos a; have h2 := den_pos b
 have h3 : (0 : Int) < (a.den : Int) * (b.den : Int) := Int.mul_pos h1 h2
 refine Ok.bd (jZ hn hk hs hq (by omega) (by omega) (by omega)) fun z hz => az.2 ?_
 rw [ya] at hz; exact hz
theorem xu {n : Nat} {x : ai} {a : Rat} {k : Nat} (hn : 20000 <= n) (hk : k <= 250) (hx : Qx x a k) : Ok (gT n x) fun z => Qx z (-a) k := by
 unfold gT
 have n1 := hx.nl
 refine Ok.bde (fo hn hk hx) (Ok.bd (nJ (by omega) (by omega) hx.num) fun z hz => az.2 ?_)
 exact ⟨(show (-a).num = -a.num from rfl) ▸ hz, (show (-a).den = a.den from rfl) ▸ hx.den, mq hx.num hz hx.nl, hx.dl⟩
theorem p7 {n : Nat} {x y : ai} {a b : Rat} {j k : Nat} (hn : 20000 <= n) (hk : j + k + 1 <= 250) (hx : Qx x a j) (hy : Qx y b k) : Ok (fI n x y) fun z => Qx z (a - b) (j + k + 1) := by
 unfold fI
 refine Ok.bd (xu hn (by omega) hy) fun v hv => Ok.bd (n9 hn hk hx hv) fun z hz => az.2 ?_
 rw [Rat.sub_eq_add_neg]; exact hz
theorem B3 {n : Nat} {x : ai} {a : Rat} {k : Nat} (hn : 20000 <= n) (hk : k <= 250) (hx : Qx x a k) : gx n x = some (sgn a.num) := by
 unfold gx
 have n1 := hx.nl
 rw [fo hn hk hx]
 show bdO (cD n x.Num) _ = _
 rw [kd (by omega) (by omega) hx.num]; rfl
theorem qH {n : Nat} {x y : ai} {a b : Rat} {j k : Nat} (hn : 20000 <= n) (hk : j + k + 1 <= 250) (hx : Qx x a j) (hy : Qx y b k) : b8 n x y = some (sgn (a - b).num) := by
 apply Ok.eq
 unfold b8
 exact Ok.bd (p7 hn hk hx hy) fun v hv => Ok.bde (B3 hn hk hv) (az.2 rfl)
end Go.L.R


set_option linter.unusedVariables false
namespace Go.L
open Go Go.Eng
theorem QL.tight {nn dn : Bool} {ng dg : List Int} {r : Rat} {j : Nat} (h : QL nn ng dn dg r j) {p q : Int} {k : Nat} (hr : r = Rat.divInt p q) (hq : 0 < q) (h1 : -pB k < p) (h2 : p < pB k) (h3 : q < pB k) : QL nn ng dn dg r k := by
 subst hr
 have hg := y9 (v := p) (w := q) (by omega)
 have a1 := kZ p _ hg (qS p q)
 have a2 := kZ q _ hg (pH p q)
 have e1 := nT (p := p) hq
 have e2 := nO (p := p) hq
 refine ⟨h.num, h.den, iy h.num (by rw [e1]; omega) (by rw [e1]; omega), iy h.den (by rw [e2]; have := gy k; omega) (by rw [e2]; omega)⟩
theorem jX (a : Int) : Rat.divInt a 1 = (a : Rat) := by
 rw [Rat.divInt_eq_div]
 grind
end Go.L


set_option linter.unusedVariables false
namespace Go.L
open Go Go.Eng
end Go.L


set_option linter.all false
namespace Go.L
open Go Go.Eng
theorem Dj {a b : Rat} : Rat.divInt (a.num * (b.den : Int)) ((a.den : Int) * b.num) = a / b := by
 rw [Rat.div_def, Rat.inv_def, <- Rat.divInt_mul_divInt, Rat.num_divInt_den]
theorem DV {b : Rat} (h : b ≠ 0) : b.num ≠ 0 := fun e => h (Rat.num_eq_zero.1 e)
theorem xu {n : Nat} {x : ai} {a : Rat} {k : Nat} (hn : 20000 <= n) (hk : k <= 250) (hx : Qx x a k) : Ok (lK n x) fun z => Qx z (-a) k := by
 unfold lK
 refine Ok.bd (fo hn hk hx) fun v hv => ?_
 have n1 := hv.nl
 refine Ok.bd (nJ (by omega) (by omega) hv.num) fun z hz => az.2 ?_
 exact ⟨(show (-a).num = -a.num from rfl) ▸ hz, (show (-a).den = a.den from rfl) ▸ hv.den, mq hv.num hz hv.nl, hv.dl⟩
theorem p7 {n : Nat} {x y : ai} {a b : Rat} {j k : Nat} (hn : 20000 <= n) (hk : j + k + 1 <= 250) (hx : Qx x a j) (hy : Qx y b k) : Ok (c6 n x y) fun z => Qx z (a - b) (j + k + 1) := by
 unfold c6
 refine Ok.bd (xu hn (by omega) hy) fun v hv => Ok.bd (n9 hn hk hx hv) fun z hz => az.2 ?_
 rw [Rat.sub_eq_add_neg]; exact hz
end Go.L

