import Derived.Test.YtecdcgfclgmbpaaGreatTurL01v
import Derived.Test.YtecdcgfclgmbpaaGreatTurL02pB
import Derived.Test.YtecdcgfclgmbpaaGreatPl6Turs
import Derived.Test.YtecdcgfclgmbpaaGreatTurL01q
set_option linter.all false
namespace Go.L.R
open Go Go.Eng Go.L
theorem xL {n : Nat} {a b : List Int} (hn : 1000 <= n) (ha : Can a) (hb : Can b) (hb0 : b ≠ []) (la : a.length <= 300) (lb : b.length <= 300) : Ok (dh n a b) fun r => Can r.1 /\ Can r.2 /\ vl r.2 < vl b /\ vl r.1 * vl b + vl r.2 = vl a := by
 unfold dh
 have hbp := ju hb hb0
 have hap := a7 ha.dig
 have lpos : 0 < b.length := List.length_pos_iff.2 hb0
 refine Ok.cd (fun h => ?_) (fun h => ?_)
 · have hl : b.length = 1 := by simp at h; omega
   obtain ⟨d, rfl⟩ : ∃ d, b = [d] := by
    match b, hl with
    | [d], _ => exact ⟨d, rfl⟩
   have hd := fG.1 hb.dig
   have hd0 : d ≠ 0 := hb.2.1 rfl
   refine Ok.gd rfl ?_
   have e : gt [d] 0 = d := rfl
   rw [e, aG hd.1 (by omega)]
   refine Ok.bd (nA hn ha.dig (by omega) (by omega) (by omega)) ?_
   rintro ⟨q, r⟩ ⟨q1, q2, q3⟩
   simp only at q1 q2 q3
   dsimp only
   rw [a9 q2.1 (by omega)]
   refine Ok.bd (wv hn (fG.2 (by omega)) (by simp)) ?_
   rintro z ⟨z1, z2⟩
   rw [gI] at z2
   refine az.2 ⟨q1, z1, ?_, ?_⟩
   · simp only [z2, gI]; exact q2.2
   · simp only [z2, gI]; exact q3
 · have hl : 2 <= b.length := by simp at h; omega
   refine Ok.bde (xi hn ha hb (by omega) (by omega)) ?_
   have hs := cM (vl a - vl b)
   refine Ok.cd (fun h => ?_) (fun h => ?_)
   · have hlt : vl a < vl b := by have := dcT h; omega
     exact az.2 ⟨trivial, ha, hlt, by show 0 * vl b + vl a = vl a; omega⟩
   · have hle : vl b <= vl a := by have := dcF h; omega
     rw [jE (k := b.length) (by omega) (by omega), dG]
     have dt := cL hb.dig (b.length - 1)
     obtain ⟨t1, t2, t3, t4⟩ := sy hb (by omega)
     rw [aG (n := b.getD (b.length - 1) 0) (by omega) (by omega), aG (n := b.getD (b.length - 1) 0 + 1) (by omega) (by omega), (ov (by omega : (0 : Int) <= 1000000000)).1]
     obtain ⟨s, hsc⟩ : ∃ s, (1000000000 : Int) / (b.getD (b.length - 1) 0 + 1) = s := ⟨_, rfl⟩
     obtain ⟨s1, s2, s3, s4⟩ := qi t1 t2 hsc.symm
     rw [hsc, aG (n := s) (by omega) (by omega)]
     refine Ok.gd (by rw [bh]; simp; omega) (Ok.gd (by rw [decide_eq_false (by omega)]; rfl) ?_)
     refine Ok.bd (tv hn ha.dig (by omega) (by omega) (by omega)) ?_
     rintro A ⟨A1, A2⟩
     refine Ok.bd (tv hn hb.dig (by omega) (by omega) (by omega)) ?_
     rintro v ⟨v1, v2⟩
     obtain ⟨lv, hv1, _, _⟩ := y5 hb (by omega) hsc.symm v1 v2
     have lA : A.length <= a.length + 1 := ke A1 (by
      have h1 := gl ha.dig
      rw [A2, cO]
      have : vl a * s <= vl a * 1000000000 := mlT (by omega) hap
      omega)
     have lAv : v.length <= A.length := by
      by_cases h : v.length <= A.length
      · exact h
      · have := cq A1.dig v1 (by omega)
        have : vl b * s <= vl a * s := mrT hle (by omega)
        omega
     have hw0 : EN ((A.length : Int) - (b.length : Int)) = ((A.length - b.length : Nat) : Int) := by rw [wrap64_in (by omega) (by omega)]; omega
     rw [hw0, jv (by omega)]
     obtain ⟨m, hm⟩ : ∃ m, A.length - b.length + 1 = m := ⟨_, rfl⟩
     rw [hm, Int.toNat_natCast, Int.toNat_natCast]
     have et : (A.drop m).take (A.length - m) = A.drop m := by rw [List.take_of_length_le]; rw [List.length_drop]; omega
     rw [et]
     refine Ok.gd (ta.2 (by omega)) ?_
     refine Ok.bd (wv hn (iI A1.dig m) (by rw [List.length_drop]; omega)) ?_
     rintro r0 ⟨r1, r2⟩
     refine Ok.gd (by simp) (Ok.gd (by simp; omega) (Ok.gd (by simp; omega) ?_))
     have hr0 : vl r0.Groups < vl v := by
      have h1 := gl (iI A1.dig m)
      rw [List.length_drop, (by omega : A.length - m = v.length - 1)] at h1
      obtain ⟨c1, c2, c3, c4⟩ := sy v1 (by omega)
      have hp := gJ (v.length - 1)
      have : pB (v.length - 1) * 1 <= pB (v.length - 1) * v.getD (v.length - 1) 0 := mlT c1 (by omega)
      omega
     refine Ok.bd (BN hn v1 lv.symm hv1 (by omega) (by omega) A1.dig (m := m) (by omega) (by omega) r1 hr0 r2 (by omega)) ?_
     rintro ⟨w, q⟩ ⟨w1, w2, q1, q2, q3⟩
     simp only at w1 w2 q1 q2 q3
     dsimp only
     have lw : w.length <= 900 := by
      by_cases hl : w.length <= v.length
      · omega
      · have := cq v1.dig w1 (by omega); omega
     refine Ok.bd (nA hn w1.dig lw (by omega) (by omega)) ?_
     rintro ⟨y, c⟩ ⟨y1, y2, y3⟩
     simp only at y1 y2 y3
     refine Ok.bd (wv hn q1 (by omega)) ?_
     rintro z ⟨z1, z2⟩
     obtain ⟨f1, f2⟩ := CG (a := vl a) (b := vl b) (q := vl q) s2 y2 y3 (by rw [<- v2]; exact w2) (by rw [<- v2, <- A2, q3])
     refine az.2 ⟨z1, y1, f1, ?_⟩
     simp only
     rw [z2]; exact f2
theorem zE {n : Nat} {g : List Int} (h : Dig g) (hl : g.length <= 2) : dJ n g = some (vl g) /\ 0 <= vl g /\ vl g < 1000000000000000000 := by
 unfold dJ
 have e1 : aY n g 1 = some (g.getD 1 0) := l6 (k := 1) h
 have e0 : aY n g 0 = some (g.getD 0 0) := l6 (k := 0) h
 rw [e1, e0]
 have d0 := cL h 0; have d1 := cL h 1
 have ev : vl g = g.getD 0 0 + 1000000000 * g.getD 1 0 := by
  have a0 : vl (g.drop 0) = g.getD 0 0 + 1000000000 * vl (g.drop 1) := hU g 0
  have a1 := hU g 1
  rw [List.drop_of_length_le (by omega : g.length <= 1 + 1)] at a1
  have e00 : vl ([] : List Int) = 0 := rfl
  rw [List.drop_zero] at a0
  have a1 : vl (g.drop 1) = g.getD 1 0 + 1000000000 * vl [] := a1
  omega
 show some _ = _ /\ _
 rw [aG (n := g.getD 1 0 * 1000000000) (by omega) (by omega), aG (n := g.getD 1 0 * 1000000000 + g.getD 0 0) (by omega) (by omega), ev]
 exact ⟨congrArg some (by omega), by omega, by omega⟩
theorem qz (x y : Nat) : Nat.gcd y (x % y) = Nat.gcd x y := by rw [Nat.gcd_comm x y, Nat.gcd_rec y x, Nat.gcd_comm]
theorem rK {n : Nat} {x y : ai} {v w : Int} (hn : 20000 <= n) (hx : isI x.Negative x.Groups v) (hy : isI y.Negative y.Groups w) (lx : x.Groups.length <= 250) (ly : y.Groups.length <= 250) : Ok (eN n x y) fun z => isI z.Negative z.Groups (gZ v w) := by
 unfold eN
 refine Ok.bde (jZ (by omega) (by omega) hx) (Ok.bde (jZ (by omega) (by omega) hy) ?_)
 have ex : v.natAbs = (vl x.Groups).toNat := by have := gD hx; omega
 have ey : w.natAbs = (vl y.Groups).toNat := by have := gD hy; omega
 have e0 : gZ v w = ((Nat.gcd (vl x.Groups).toNat (vl y.Groups).toNat : Nat) : Int) := by unfold gZ; rw [ex, ey]
 refine Ok.bd (R := fun o => Can o.1 /\ Can o.2 /\ o.1.length <= 250 /\ o.2.length <= 250 /\ ((Nat.gcd (vl o.1).toNat (vl o.2).toNat : Nat) : Int) = gZ v w /\ (o.2 ≠ [] -> o.1.length <= 2 /\ o.2.length <= 2)) ?_ ?_
 · refine dC (fun p : List Int × List Int => Can p.1 /\ Can p.2 /\ p.1.length <= 250 /\ p.2.length <= 250 /\ ((Nat.gcd (vl p.1).toNat (vl p.2).toNat : Nat) : Int) = gZ v w) (fun p => gm (vl p.1).toNat (vl p.2).toNat) ?_ n _ ⟨hx.1, hy.1, lx, ly, e0.symm⟩ ?_
   · rintro again ⟨a, b⟩ ⟨ha, hb, la, lb, hg⟩ ih
     simp only at ha hb la lb hg
     dsimp only
     have hap := a7 ha.dig
     refine Ok.cd (fun h => ?_) (fun h => ?_)
     · have hb0 : b ≠ [] := by rintro rfl; simp at h
       have hbp := ju hb hb0
       have rest : Ok (bdO (dh n a b) fun v57 => again (b, v57.2)) fun o => Can o.1 /\ Can o.2 /\ o.1.length <= 250 /\ o.2.length <= 250 /\ ((Nat.gcd (vl o.1).toNat (vl o.2).toNat : Nat) : Int) = gZ v w /\ (o.2 ≠ [] -> o.1.length <= 2 /\ o.2.length <= 2) := by
        refine Ok.bd (xL (by omega) ha hb hb0 (by omega) (by omega)) ?_
        rintro ⟨q, r⟩ ⟨q1, r1, r2, r3⟩
        simp only at q1 r1 r2 r3
        have hrp := a7 r1.dig
        have er : vl r = vl a % vl b := by
         have h1 : (vl q * vl b + vl r) % vl b = vl r % vl b := by rw [Int.add_comm, Int.add_mul_emod_self_right]
         rw [<- r3, h1, Int.emod_eq_of_lt hrp r2]
        have ern : (vl r).toNat = (vl a).toNat % (vl b).toNat := by
         rw [er, Int.toNat_emod hap (by omega)]
        have hlt : r.length <= 250 := by
         by_cases hl : r.length <= 250
         · exact hl
         · have := cq hb.dig r1 (by omega); omega
        exact ih _ ⟨hb, r1, lb, hlt, by simp only; rw [ern, qz]; exact hg⟩ (by simp only; rw [ern]; exact uD (by omega))
       refine Ok.cd (fun h1 => rest) (fun h1 => Ok.cd (fun h2 => rest) (fun h2 => ?_))
       have := dcF h1; have := dcF h2
       exact az.2 ⟨ha, hb, la, lb, hg, fun _ => ⟨(show a.length <= 2 by omega), (show b.length <= 2 by omega)⟩⟩
     · have hb0 : b = [] := by
        cases b with
        | nil => rfl
        | cons => exact absurd (dcF h) (by simp)
       exact az.2 ⟨ha, hb, la, lb, hg, fun h => absurd hb0 h⟩
   · obtain ⟨K, hK⟩ : ∃ K : Nat, K = 250 := ⟨_, rfl⟩
     have h1 := wJ hx.1.dig (k := K) (by omega); have h2 := wJ hy.1.dig (k := K) (by omega)
     have h3 := Nat.mul_lt_mul'' h1 h2
     rw [<- Nat.pow_add] at h3
     have := sV h3
     simp only; omega
 · rintro ⟨a, b⟩ ⟨ha, hb, la, lb, hg, hs⟩
   simp only at ha hb la lb hg hs
   dsimp only
   have hap := a7 ha.dig
   refine Ok.cd (fun h => ?_) (fun h => ?_)
   · have hb0 : b = [] := by simpa using h
     subst hb0
     refine Ok.bd (dx (by omega) false ha.dig (by omega)) fun y hy => az.2 ?_
     have e : vl a = gZ v w := by
      rw [<- hg]
      show vl a = ((Nat.gcd (vl a).toNat 0 : Nat) : Int)
      rw [Nat.gcd_zero_right]; omega
     rw [e] at hy; exact hy
   · have hb0 : b ≠ [] := by rintro rfl; simp at h
     obtain ⟨la2, lb2⟩ := hs hb0
     have wa := zE (n := n) ha.dig la2
     have wb := zE (n := n) hb.dig lb2
     refine Ok.bde wa.1 (Ok.bde wb.1 ?_)
     refine Ok.bd (R := fun m => m = gZ v w /\ m < 1000000000000000000) ?_ ?_
     · refine dC (fun p : Int × Int => 0 <= p.1 /\ p.1 < 1000000000000000000 /\ 0 <= p.2 /\ p.2 < 1000000000000000000 /\ ((Nat.gcd p.1.toNat p.2.toNat : Nat) : Int) = gZ v w) (fun p => gm p.1.toNat p.2.toNat) ?_ n _ ⟨wa.2.1, wa.2.2, wb.2.1, wb.2.2, hg⟩ ?_
       · rintro again' ⟨c, d⟩ ⟨c1, c2, d1, d2, hcd⟩ ih'
         simp only at c1 c2 d1 d2 hcd
         dsimp only
         refine Ok.cd (fun h => ?_) (fun h => ?_)
         · have hd := dcT h
           refine Ok.gd (by rw [decide_eq_false (by omega)]; rfl) ?_
           rw [(ov c1).2]
           have hm1 := Int.emod_nonneg c (by omega : d ≠ 0)
           have hm2 := Int.emod_lt_of_pos c (by omega : 0 < d)
           have em : (c % d).toNat = c.toNat % d.toNat := Int.toNat_emod c1 d1
           exact ih' _ ⟨d1, d2, hm1, by simp only; omega, by simp only; rw [em, qz]; exact hcd⟩ (by simp only; rw [em]; exact uD (by omega))
         · have hd := dcF h
           have : d = 0 := by omega
           subst this
           refine az.2 ⟨?_, c2⟩
           rw [<- hcd]
           simp [Nat.gcd_zero_right]; omega
       · have : gm (vl a).toNat (vl b).toNat <= 120 + 3 := sV (by
          have h1 : (vl a).toNat < 2 ^ 60 := by omega
          have h2 : (vl b).toNat < 2 ^ 60 := by omega
          have h3 : (vl a).toNat * (vl b).toNat < 2 ^ 60 * 2 ^ 60 := Nat.mul_lt_mul'' h1 h2
          rw [<- Nat.pow_add] at h3; exact h3)
         simp only; omega
     · rintro m ⟨hm, hm2⟩
       have hm0 : 0 <= m := by rw [hm]; exact Int.natCast_nonneg _
       rw [(ov hm0).1, (ov hm0).2, aG (n := m / 1000000000) (by omega) (by omega), a9 (n := m / 1000000000) (by omega) (by omega), a9 (n := m % 1000000000) (by omega) (by omega)]
       refine Ok.bd (dx (by omega) false (iA.2 ⟨by omega, fG.2 (by omega)⟩) (by simp)) fun y hy => az.2 ?_
       have e : vl [m % 1000000000, m / 1000000000] = m := by
        show m % 1000000000 + 1000000000 * vl [m / 1000000000] = m
        rw [gI]; omega
       simp only [Bool.false_eq_true, if_false] at hy
       rw [e, hm] at hy
       exact hy
theorem lS {n : Nat} {x y : ai} {v w : Int} (hn : 1000 <= n) (hx : isI x.Negative x.Groups v) (hy : isI y.Negative y.Groups w) (lx : x.Groups.length <= 400) (ly : y.Groups.length <= 400) : dj n x y = some (sgn (v - w)) := by
 apply Ok.eq
 unfold dj
 refine Ok.bd (AR hn hx hy lx ly) fun z hz => ?_
 have := xW hx hy hz lx ly
 exact Ok.bde (kf hn (by omega) hz) (az.2 rfl)
theorem jA {n : Nat} {x y : ai} {k w : Int} (hn : 1000 <= n) (hx : isI x.Negative x.Groups (k * w)) (hy : isI y.Negative y.Groups w) (hw : w ≠ 0) (lx : x.Groups.length <= 250) (ly : y.Groups.length <= 250) : Ok (cZ n x y) fun z => isI z.1.Negative z.1.Groups k := by
 unfold cZ
 refine Ok.bde (jZ hn (by omega) hx) (Ok.bde (jZ hn (by omega) hy) ?_)
 have hy0 : y.Groups ≠ [] := by
  intro h
  have := hy.2.2
  rw [h] at this
  have e : vl ([] : List Int) = 0 := rfl
  rw [e] at this
  apply hw; rw [this]; split <;> rfl
 refine Ok.cd (fun h => absurd h (by simp [hy0])) (fun h => ?_)
 refine Ok.bd (xL hn hx.1 hy.1 hy0 (by omega) (by omega)) ?_
 rintro ⟨c, d⟩ ⟨c1, d1, d2, d3⟩
 simp only at c1 d1 d2 d3
 dsimp only
 have hyp := ju hy.1 hy0
 have cp := a7 c1.dig; have dp := a7 d1.dig
 have ax := gD hx; have ay := gD hy
 have em : vl x.Groups = (k.natAbs : Int) * vl y.Groups := by rw [ax, ay, Int.natAbs_mul]; push_cast; rfl
 have ec : vl c = (k.natAbs : Int) /\ vl d = 0 := by
  have e : ((k.natAbs : Int) - vl c) * vl y.Groups = vl d := by rw [Int.sub_mul]; omega
  have h0 : (k.natAbs : Int) - vl c = 0 := by
   by_cases h1 : (k.natAbs : Int) - vl c = 0
   · exact h1
   · exfalso
     by_cases h2 : 1 <= (k.natAbs : Int) - vl c
     · have : 1 * vl y.Groups <= ((k.natAbs : Int) - vl c) * vl y.Groups := mrT h2 (by omega)
       omega
     · have : ((k.natAbs : Int) - vl c) * vl y.Groups <= (-1) * vl y.Groups := mrT (by omega) (by omega)
       omega
  rw [h0] at e
  omega
 have lc : c.length <= 250 := by
  by_cases hl : c.length <= 250
  · exact hl
  · have := cq hx.1.dig c1 (by omega)
    have : vl c * 1 <= vl c * vl y.Groups := mlT (by omega) cp
    omega
 have hd0 : d = [] := qt d1 ec.2
 subst hd0
 refine Ok.bd (dx hn _ c1.dig (by omega)) fun z hz => ?_
 have hzk : isI z.Negative z.Groups k := by
  have nx := hx.2.2; have ny := hy.2.2
  have : k = (if (x.Negative != y.Negative) = true then -vl c else vl c) := by
   rw [ec.1]
   have hk : k = 0 \/ 0 < k \/ k < 0 := by omega
   cases hxn : x.Negative <;> cases hyn : y.Negative <;> rw [hxn] at nx <;> rw [hyn] at ny <;> simp only [Bool.false_eq_true, if_false, if_true] at nx ny <;> simp <;> rcases hk with hk | hk | hk <;> try omega
   all_goals exfalso
   all_goals
    first
    | (have h8 := Int.mul_neg_of_neg_of_pos hk (by omega : 0 < w); have := a7 hx.1.dig; omega)
    | (have h8 := Int.mul_pos hk (by omega : 0 < w); have hxp := ju hx.1 (hx.2.1 hxn); omega)
    | (have h8 := Int.mul_neg_of_pos_of_neg hk (by omega : w < 0); have := a7 hx.1.dig; omega)
    | (have h8 := Int.mul_pos_of_neg_of_neg hk (by omega : w < 0); have hxp := ju hx.1 (hx.2.1 hxn); omega)
  rw [this]; exact hz
 have hcl := gl c1.dig
 have hcm := gU lc
 have lz := iu hzk (k := 250) (by omega) (by omega)
 have tail : ∀ {β : Type} (f : ai -> ai -> Option β) {Q : β -> Prop}, (∀ m d, Ok (f m d) Q) -> Ok (bdO (bI n z y) fun v20 => bdO (cW n x v20) fun v22 => f v20 v22) Q := by
  intro β f Q hf
  refine Ok.bd (kC hn hzk hy (by omega) (by omega)) fun p hp => ?_
  have lp : p.Groups.length <= 250 := by rw [(Cw hp hx).2]; exact lx
  exact Ok.bd (AR hn hx hp (by omega) (by omega)) fun d _ => hf p d
 refine Ok.cd (fun h => ?_) (fun h => ?_)
 · refine Ok.cd (fun h => absurd (dcT h) (by simp)) (fun h => ?_)
   exact tail (fun m d => some ((z, d, 0))) fun m d => az.2 hzk
 · exact tail (fun m d => some ((z, d, 0))) fun m d => az.2 hzk
end Go.L.R


set_option linter.all false
namespace Go.L.R
open Go Go.Eng Go.L
def Qx (x : ak) (r : Rat) (k : Nat) : Prop := QL x.Num.Negative x.Num.Groups x.Den.Negative x.Den.Groups r k
theorem lW {p q : Bool} {g h : List Int} {v : Int} (a : isI p g v) (b : isI q h (-v)) {k : Nat} (hk : g.length <= k) : h.length <= k := by
 have := gN a hk
 exact iu b (by omega) (by omega)
theorem m9 {n : Nat} {x y : ai} {p q : Int} {k : Nat} (hn : 20000 <= n) (hk : k <= 250) (hx : isI x.Negative x.Groups p) (hy : isI y.Negative y.Groups q) (lx : x.Groups.length <= k) (ly : y.Groups.length <= k) (hq : q ≠ 0) :
  Ok (dk n x y) fun z => Qx z (Rat.divInt p q) k := by
 unfold dk
 have hg := BL (v := p) hq
 refine Ok.bd (rK hn hx hy (by omega) (by omega)) fun g hgi => ?_
 have bq := gN hy ly
 have bp := gN hx lx
 have dp := ui p q
 have dq := sc p q
 have ap := nU p _ hg dp
 have aq := nU q _ hg dq
 have hq0 : q / gZ p q ≠ 0 := by intro h; rw [h, Int.zero_mul] at dq; exact hq dq
 have gq : gZ p q <= (q.natAbs : Int) := by
  have e : q.natAbs = (q / gZ p q).natAbs * (gZ p q).natAbs := by rw [<- Int.natAbs_mul, <- dq]
  have : 1 * (gZ p q).natAbs <= (q / gZ p q).natAbs * (gZ p q).natAbs := Nat.mul_le_mul_right _ (by omega)
  omega
 have lg : g.Groups.length <= k := iu hgi (by omega) (by omega)
 refine Ok.bde (kf (by omega) (by omega) hy) ?_
 have hs := cM q
 refine Ok.cd (fun h => ?_) (fun h => ?_)
 · have hneg : q < 0 := by have := dcT h; omega
   refine Ok.bd (nv (by omega) (by omega) hgi) fun g' hg' => ?_
   have lg' := lW hgi hg' lg
   refine Ok.bd (jA (k := -(p / gZ p q)) (by omega) (by rw [Int.neg_mul_neg, <- dp]; exact hx) hg' (by omega) (by omega) (by omega)) fun a ha => ?_
   refine Ok.bd (jA (k := -(q / gZ p q)) (by omega) (by rw [Int.neg_mul_neg, <- dq]; exact hy) hg' (by omega) (by omega) (by omega)) fun b hb => az.2 ?_
   have eg : gZ (-p) (-q) = gZ p q := by unfold gZ; rw [Int.natAbs_neg, Int.natAbs_neg]
   have e1 : (Rat.divInt p q).num = -(p / gZ p q) := by
    rw [<- rS, pf (by omega), eg]
    rw [show -p = (-(p / gZ p q)) * gZ p q by rw [Int.neg_mul, <- dp], Int.mul_ediv_cancel _ (by omega)]
   have e2 : ((Rat.divInt p q).den : Int) = -(q / gZ p q) := by
    rw [<- rS, pz (by omega), eg]
    rw [show -q = (-(q / gZ p q)) * gZ p q by rw [Int.neg_mul, <- dq], Int.mul_ediv_cancel _ (by omega)]
   exact ⟨by rw [e1]; exact ha, by rw [e2]; exact hb, iu ha (by omega) (by omega), iu hb (by omega) (by omega)⟩
 · have hpos : 0 < q := by have := dcF h; omega
   refine Ok.bd (jA (k := p / gZ p q) (by omega) (by rw [<- dp]; exact hx) hgi (by omega) (by omega) (by omega)) fun a ha => ?_
   refine Ok.bd (jA (k := q / gZ p q) (by omega) (by rw [<- dq]; exact hy) hgi (by omega) (by omega) (by omega)) fun b hb => az.2 ?_
   exact ⟨by rw [pf hpos]; exact ha, by rw [pz hpos]; exact hb, iu ha (by omega) (by omega), iu hb (by omega) (by omega)⟩
theorem ss {n : Nat} {v : Int} (hn : 20000 <= n) (h0 : -9223372036854775808 <= v) (hv : v <= 9223372036854775807) : Ok (bV n v) fun z => isI z.Negative z.Groups v := by
 unfold bV
 exact Ok.bd (wu (by omega) h0 hv) fun a ha => az.2 ha
theorem tP {n : Nat} {x : ak} {r : Rat} {k : Nat} (hn : 20000 <= n) (hk : k <= 250) (h : Qx x r k) : bu n x = some true := by
 apply Ok.eq
 unfold bu
 have hp := den_pos r
 have hnl := h.nl; have hdl := h.dl
 refine Ok.bde (nd (by omega) (by omega) h.num) (Ok.cd (fun h => by cases h) fun _ => ?_)
 refine Ok.bde (nd (by omega) (by omega) h.den) (Ok.cd (fun h => by cases h) fun _ => ?_)
 refine Ok.bde (kf (by omega) (by omega) h.den) ?_
 rw [pA hp]
 refine Ok.cd (fun h => absurd h (by decide)) fun _ => ?_
 refine Ok.bd (rK hn h.num h.den (by omega) (by omega)) fun g hg => ?_
 rw [BO] at hg
 refine Ok.bd (ss (by omega) (by decide) (by decide)) fun one h1 => ?_
 have l1 := ie h1 (by decide) (by decide)
 have lg := ie hg (by decide) (by decide)
 exact Ok.bde (lS (by omega) hg h1 (by omega) (by omega)) (az.2 rfl)
theorem fi {n : Nat} {x : ak} {r : Rat} {k : Nat} (hn : 20000 <= n) (hk : k <= 250) (h : Qx x r k) : cG n x = some x := by
 unfold cG; rw [tP hn hk h]; rfl
theorem jQ {n : Nat} {v : Int} (hn : 20000 <= n) (h0 : -9223372036854775808 <= v) (hv : v <= 9223372036854775807) : Ok (bJ n v) fun z => Qx z (Rat.divInt v 1) 3 := by
 unfold bJ
 refine Ok.bd (ss (by omega) h0 hv) fun a ha => Ok.bd (ss (by omega) (by decide) (by decide)) fun b hb => az.2 ?_
 obtain ⟨e1, e2⟩ := wA v
 exact ⟨by rw [e1]; exact ha, by rw [e2]; exact hb, ie ha h0 hv, ie hb (by decide) (by decide)⟩
theorem xl (a b : Rat) : Rat.divInt (a.num * b.num) ((a.den : Int) * (b.den : Int)) = a * b := by
 rw [<- Rat.divInt_mul_divInt, Rat.num_divInt_den, Rat.num_divInt_den]
theorem wS (a b : Rat) : Rat.divInt (a.num * (b.den : Int) + b.num * (a.den : Int)) ((a.den : Int) * (b.den : Int)) = a + b := by
 have h1 := den_pos a; have h2 := den_pos b
 rw [<- Rat.divInt_add_divInt _ _ (by omega) (by omega), Rat.num_divInt_den, Rat.num_divInt_den]
theorem mR {n : Nat} {x y : ak} {a b : Rat} {j k : Nat} (hn : 20000 <= n) (hk : j + k <= 250) (hx : Qx x a j) (hy : Qx y b k) : Ok (bH n x y) fun z => Qx z (a * b) (j + k) := by
 unfold bH
 refine Ok.bde (fi hn (by omega) hx) (Ok.bde (fi hn (by omega) hy) ?_)
 have n1 := hx.nl; have n2 := hy.nl; have d1 := hx.dl; have d2 := hy.dl
 refine Ok.bd (kC (by omega) hx.num hy.num (by omega) (by omega)) fun p hp => Ok.bd (kC (by omega) hx.den hy.den (by omega) (by omega)) fun q hq => ?_
 have h1 := den_pos a; have h2 := den_pos b
 have h3 : (0 : Int) < (a.den : Int) * (b.den : Int) := Int.mul_pos h1 h2
 refine Ok.bd (m9 hn hk hp hq (e9 hx.num hy.num hp n1 n2) (e9 hx.den hy.den hq d1 d2) (by omega)) fun z hz => az.2 ?_
 rw [xl] at hz; exact hz
theorem qK {n : Nat} {x y : ak} {a b : Rat} {j k : Nat} (hn : 20000 <= n) (hk : j + k + 1 <= 250) (hx : Qx x a j) (hy : Qx y b k) : Ok (bP n x y) fun z => Qx z (a + b) (j + k + 1) := by
 unfold bP
 refine Ok.bde (fi hn (by omega) hx) (Ok.bde (fi hn (by omega) hy) ?_)
 have n1 := hx.nl; have n2 := hy.nl; have d1 := hx.dl; have d2 := hy.dl
 refine Ok.bd (kC (by omega) hx.num hy.den (by omega) (by omega)) fun p hp => Ok.bd (kC (by omega) hy.num hx.den (by omega) (by omega)) fun p' hp' => ?_
 have lp := e9 hx.num hy.den hp n1 d2
 have lp' := e9 hy.num hx.den hp' n2 d1
 refine Ok.bd (xv (by omega) hp hp' (by omega) (by omega)) fun s hs => Ok.bd (kC (by omega) hx.den hy.den (by omega) (by omega)) fun q hq => ?_
 have ls := uo hp hp' hs (k := j + k) (by omega) (by omega)
 have lq := e9 hx.den hy.den hq d1 d2
 have h1 := den_pos a; have h2 := den_pos b
 have h3 : (0 : Int) < (a.den : Int) * (b.den : Int) := Int.mul_pos h1 h2
 refine Ok.bd (m9 hn hk hs hq (by omega) (by omega) (by omega)) fun z hz => az.2 ?_
 rw [wS] at hz; exact hz
theorem wO {n : Nat} {x : ak} {a : Rat} {k : Nat} (hn : 20000 <= n) (hk : k <= 250) (hx : Qx x a k) : Ok (g9 n x) fun z => Qx z (-a) k := by
 unfold g9
 have n1 := hx.nl
 refine Ok.bde (fi hn hk hx) (Ok.bd (nv (by omega) (by omega) hx.num) fun z hz => az.2 ?_)
 exact ⟨(show (-a).num = -a.num from rfl) ▸ hz, (show (-a).den = a.den from rfl) ▸ hx.den, lW hx.num hz hx.nl, hx.dl⟩
theorem ka {n : Nat} {x y : ak} {a b : Rat} {j k : Nat} (hn : 20000 <= n) (hk : j + k + 1 <= 250) (hx : Qx x a j) (hy : Qx y b k) : Ok (bf n x y) fun z => Qx z (a - b) (j + k + 1) := by
 unfold bf
 refine Ok.bd (wO hn (by omega) hy) fun v hv => Ok.bd (qK hn hk hx hv) fun z hz => az.2 ?_
 rw [Rat.sub_eq_add_neg]; exact hz
theorem xB {n : Nat} {x : ak} {a : Rat} {k : Nat} (hn : 20000 <= n) (hk : k <= 250) (hx : Qx x a k) : cJ n x = some (sgn a.num) := by
 unfold cJ
 have n1 := hx.nl
 rw [fi hn hk hx]
 show bdO (cf n x.Num) _ = _
 rw [kf (by omega) (by omega) hx.num]; rfl
theorem kA {n : Nat} {x y : ak} {a b : Rat} {j k : Nat} (hn : 20000 <= n) (hk : j + k + 1 <= 250) (hx : Qx x a j) (hy : Qx y b k) : aS n x y = some (sgn (a - b).num) := by
 apply Ok.eq
 unfold aS
 exact Ok.bd (ka hn hk hx hy) fun v hv => Ok.bde (xB hn hk hv) (az.2 rfl)
end Go.L.R


set_option linter.unusedVariables false
namespace Go.L
open Go Go.Eng
theorem yD (a : Int) : Rat.divInt a 1 = (a : Rat) := by
 rw [Rat.divInt_eq_div]
 grind
end Go.L


set_option linter.unusedVariables false
namespace Go.L
open Go Go.Eng
theorem sub_one (v a : Int) : Rat.divInt v 1 - Rat.divInt a 1 = Rat.divInt (v - a) 1 := by
 rw [Rat.divInt_sub_divInt _ _ (by omega) (by omega)]; simp
end Go.L


set_option linter.all false
namespace Go.L
open Go Go.Eng
theorem wO {n : Nat} {x : ak} {a : Rat} {k : Nat} (hn : 20000 <= n) (hk : k <= 250) (hx : Qx x a k) : Ok (kM n x) fun z => Qx z (-a) k := by
 unfold kM
 refine Ok.bd (fi hn hk hx) fun v hv => ?_
 have n1 := hv.nl
 refine Ok.bd (nv (by omega) (by omega) hv.num) fun z hz => az.2 ?_
 exact ⟨(show (-a).num = -a.num from rfl) ▸ hz, (show (-a).den = a.den from rfl) ▸ hv.den, lW hv.num hz hv.nl, hv.dl⟩
theorem ka {n : Nat} {x y : ak} {a b : Rat} {j k : Nat} (hn : 20000 <= n) (hk : j + k + 1 <= 250) (hx : Qx x a j) (hy : Qx y b k) : Ok (dw n x y) fun z => Qx z (a - b) (j + k + 1) := by
 unfold dw
 refine Ok.bd (wO hn (by omega) hy) fun v hv => Ok.bd (qK hn hk hx hv) fun z hz => az.2 ?_
 rw [Rat.sub_eq_add_neg]; exact hz
end Go.L


set_option linter.unusedVariables false
namespace Go.L
open Go Go.Eng
end Go.L


set_option linter.all false
namespace Go.L
open Go Go.Eng
theorem AM {a : Rat} : a.num <= 0 ↔ a <= 0 := by
 have h := Rat.num_nonneg (q := -a)
 rw [Rat.neg_num] at h
 constructor
 · intro k; have := h.1 (by omega); grind
 · intro k; have := h.2 (by grind); omega
theorem AY {a : Rat} : 0 < a.num ↔ 0 < a := by
 have h := AM (a := a)
 constructor
 · intro k; apply Classical.byContradiction; intro hc; have := h.2 (by grind); omega
 · intro k; apply Classical.byContradiction; intro hc; have := h.1 (by omega); grind
theorem AP {a : Rat} : sgn a.num >= 0 ↔ 0 <= a := by
 have := cM a.num
 rw [<- Rat.num_nonneg]; omega
theorem zV {a : Rat} : sgn a.num <= 0 ↔ a <= 0 := by
 have := cM a.num
 rw [<- AM]; omega
theorem A5 {a : Rat} : sgn a.num > 0 ↔ 0 < a := by
 have := cM a.num
 rw [<- AY]; omega
theorem s9 {n : Nat} {x : ak} {a : Rat} {k : Nat} (hn : 20000 <= n) (hk : k <= 250) (hx : Qx x a k) : bM n x = some (sgn a.num) := by
 apply Ok.eq
 unfold bM
 refine Ok.bd (fi hn hk hx) fun v hv => ?_
 have n1 := hv.nl
 exact Ok.bde (kf (by omega) (by omega) hv.num) (az.2 rfl)
end Go.L

