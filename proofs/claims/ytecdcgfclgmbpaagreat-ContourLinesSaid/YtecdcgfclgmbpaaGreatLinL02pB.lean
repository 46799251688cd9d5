import Derived.Test.YtecdcgfclgmbpaaGreatLinL01h
import Derived.Test.YtecdcgfclgmbpaaGreatPl6Lins
set_option linter.all false
namespace Go.L
open Go Go.Eng
theorem m5 {g : List Int} (h : Dig g) (hl : g.length <= 2) : qI g.reverse = vl g /\ 0 <= vl g /\ vl g < 1000000000000000000 := by
 match g, hl with
 | [], _ => exact ⟨rfl, by decide, by decide⟩
 | [d], _ => 
  have h0 := fy.1 h
  have e : vl [d] = d := gw d
  rw [e]
  refine ⟨?_, by omega, by omega⟩
  simp only [qI, List.reverse_cons, List.reverse_nil, List.nil_append, List.foldl, IntKind.wrap_u64]
  omega
 | [d, e], _ =>
  have h1 := hU.1 h
  have h2 := fy.1 h1.2
  have e1 : vl [d, e] = d + 1000000000 * e := by show d + 1000000000 * vl [e] = _; rw [gw]
  rw [e1]
  refine ⟨?_, by omega, by omega⟩
  simp only [qI, List.reverse_cons, List.reverse_nil, List.nil_append, List.cons_append, List.foldl, IntKind.wrap_u64]
  omega
theorem py {n : Nat} {g : List Int} (h : Dig g) (hl : g.length <= 900) : ∃ r, gQ n g = some r /\ (r.2 = true -> g.length <= 2 /\ r.1 = vl g) /\ (r.2 = false -> 2 < g.length) := by
 unfold gQ
 rw [decide_eq_true (by omega : g.length <= 1099511627776)]
 refine ⟨_, rfl, ?_⟩
 by_cases hg : g.length > 2
 · rw [decide_eq_true hg]; exact ⟨fun h => (by cases h), fun _ => hg⟩
 · rw [decide_eq_false hg]
   exact ⟨fun _ => ⟨by omega, (m5 h (by omega)).1⟩, fun h => (by cases h)⟩
theorem AE {n : Nat} {a b : List Int} (hn : 1000 <= n) (ha : Can a) (hb : Can b) (hb0 : b ≠ []) (la : a.length <= 300) (lb : b.length <= 300) : Ok (gD n a b) fun r => Can r.1 /\ Can r.2 /\ vl r.2 < vl b /\ vl r.1 * vl b + vl r.2 = vl a := by
 unfold gD
 have hbp := jN hb hb0
 have hap := ba ha.dig
 rw [pj ha hb (by omega) (by omega)]
 show Ok (cdO _ _ _) _
 refine Ok.cd (fun h => ?_) (fun h => ?_)
 · have hlt : vl a < vl b := by
    have := dcT h
    rcases iu (vl a - vl b) with ⟨g1, g2⟩ | ⟨g1, g2⟩ | ⟨g1, g2⟩ <;> omega
   exact aw.2 ⟨trivial, ha, hlt, by show 0 * vl b + vl a = vl a; omega⟩
 · have hle : vl b <= vl a := by
    have := dcF h
    rcases iu (vl a - vl b) with ⟨g1, g2⟩ | ⟨g1, g2⟩ | ⟨g1, g2⟩ <;> omega
   obtain ⟨ra, ea, a1, a2⟩ := py (n := n) ha.dig (by omega)
   obtain ⟨rb, eb, b1, b2⟩ := py (n := n) hb.dig (by omega)
   have lpos : 0 < b.length := List.length_pos_iff.2 hb0
   have rest : Ok (cdO (((b.length : Int) : Int) == 1) (gdO (inR 0 b.length) (bdO (fk n a (gt b 0)) fun v17 => bdO (cJ n (aa .u64 v17.2)) fun v19 => some ((v17.1, v19)))) (bdO (iF n a b) fun v21 => some ((v21.1, v21.2))))
     fun r => Can r.1 /\ Can r.2 /\ vl r.2 < vl b /\ vl r.1 * vl b + vl r.2 = vl a := by
    refine Ok.cd (fun h => ?_) (fun h => ?_)
    · have hl : b.length = 1 := by simp at h; omega
      obtain ⟨d, rfl⟩ : ∃ d, b = [d] := by
       match b, hl with
       | [d], _ => exact ⟨d, rfl⟩
      have hd := fy.1 hb.dig
      have hd0 : d ≠ 0 := hb.2.1 rfl
      refine Ok.gd rfl ?_
      have e : gt [d] 0 = d := rfl
      rw [e]
      refine Ok.bd (mX ha.dig (by omega) (by omega) (by omega)) ?_
      rintro ⟨q, r⟩ ⟨q1, q2, q3⟩
      simp only at q1 q2 q3
      dsimp only
      rw [aH q2.1 (by omega)]
      refine Ok.bd (kF hn q2.1 (by omega)) ?_
      rintro z ⟨z1, z2, z3⟩
      refine aw.2 ⟨q1, z1, ?_, ?_⟩
      · simp only [z2, gw]; exact q2.2
      · simp only [z2, gw]; exact q3
    · have hl : b.length ≠ 1 := by simp at h; omega
      exact Ok.bd (Db hn ha hb (by omega) la lb hle) fun r hr => aw.2 hr
   refine Ok.bde ea (Ok.bde eb ?_)
   refine Ok.cd (fun h => ?_) (fun h => rest)
   refine Ok.cd (fun h' => ?_) (fun h' => rest)
   obtain ⟨la2, ea1⟩ := a1 h
   obtain ⟨lb2, eb1⟩ := b1 h'
   have wa := m5 ha.dig la2
   have wb := m5 hb.dig lb2
   rw [ea1, eb1]
   refine Ok.gd (by rw [decide_eq_false (by omega)]; rfl) ?_
   rw [(od hap).1, (od hap).2]
   have hm := Int.emod_add_mul_ediv (vl a) (vl b)
   have hm1 := Int.emod_nonneg (vl a) (by omega : vl b ≠ 0)
   have hm2 := Int.emod_lt_of_pos (vl a) hbp
   have hq0 : 0 <= vl a / vl b := Int.ediv_nonneg hap (by omega)
   have hq1 : vl a / vl b <= vl a := Int.ediv_le_self _ hap
   rw [aH hq0 (by omega)]
   refine Ok.bd (kF hn hq0 (by omega)) ?_
   rintro q ⟨q1, q2, q3⟩
   refine Ok.bd (kF hn hm1 (by omega)) ?_
   rintro r ⟨r1, r2, r3⟩
   refine aw.2 ⟨q1, r1, ?_, ?_⟩
   · simp only [r2]; exact hm2
   · simp only [q2, r2]; rw [Int.mul_comm]; omega
theorem qz (x y : Nat) : Nat.gcd y (x % y) = Nat.gcd x y := by rw [Nat.gcd_comm x y, Nat.gcd_rec y x, Nat.gcd_comm]
theorem vN {n : Nat} {s : List Int} (h : s.length <= 900) : cc n s = some s := by
 unfold cc
 rw [decide_eq_true (by omega : (0 + s.length) * 4 <= 140737488355328), decide_eq_true (by omega : 0 + s.length <= 4611686018427387904)]; rfl
theorem xl {n : Nat} {x y : ah} {v w : Int} (hn : 20000 <= n) (hx : isI x.Negative x.Groups v) (hy : isI y.Negative y.Groups w) (lx : x.Groups.length <= 250) (ly : y.Groups.length <= 250) : Ok (iA n x y) fun z => isI z.Negative z.Groups (gZ v w) := by
 unfold iA
 refine Ok.bde (mT (by omega) (by omega) hx) (Ok.bde (mT (by omega) (by omega) hy) ?_)
 have ex : v.natAbs = (vl x.Groups).toNat := by have := gX hx; omega
 have ey : w.natAbs = (vl y.Groups).toNat := by have := gX hy; omega
 have e0 : gZ v w = ((Nat.gcd (vl x.Groups).toNat (vl y.Groups).toNat : Nat) : Int) := by unfold gZ; rw [ex, ey]
 refine Ok.bd (R := fun o => match o with | .inl a => Can a /\ a.length <= 250 /\ vl a = gZ v w | .inr z => isI z.Negative z.Groups (gZ v w)) ?_ ?_
 · refine dj (fun p : List Int × List Int => Can p.1 /\ Can p.2 /\ p.1.length <= 250 /\ p.2.length <= 250 /\ ((Nat.gcd (vl p.1).toNat (vl p.2).toNat : Nat) : Int) = gZ v w) (fun p => gm (vl p.1).toNat (vl p.2).toNat) ?_ n _ ⟨hx.1, hy.1, lx, ly, e0.symm⟩ ?_
   · rintro again ⟨a, b⟩ ⟨ha, hb, la, lb, hg⟩ ih
     simp only at ha hb la lb hg
     dsimp only
     have hap := ba ha.dig
     refine Ok.cd (fun h => ?_) (fun h => ?_)
     · have hb0 : b ≠ [] := by rintro rfl; simp at h
       have hbp := jN hb hb0
       obtain ⟨ra, ea, a1, a2⟩ := py (n := n) ha.dig (by omega)
       obtain ⟨rb, eb, b1, b2⟩ := py (n := n) hb.dig (by omega)
       have rest : Ok (bdO (gD n a b) fun v57 => again (b, v57.2)) fun o => match o with | .inl a => Can a /\ a.length <= 250 /\ vl a = gZ v w | .inr z => isI z.Negative z.Groups (gZ v w) := by
        refine Ok.bd (AE (by omega) ha hb hb0 (by omega) (by omega)) ?_
        rintro ⟨q, r⟩ ⟨q1, r1, r2, r3⟩
        simp only at q1 r1 r2 r3
        have hrp := ba r1.dig
        have er : vl r = vl a % vl b := by
         have h1 : (vl q * vl b + vl r) % vl b = vl r % vl b := by rw [Int.add_comm, Int.add_mul_emod_self_right]
         rw [<- r3, h1, Int.emod_eq_of_lt hrp r2]
        have ern : (vl r).toNat = (vl a).toNat % (vl b).toNat := by
         rw [er, Int.toNat_emod hap (by omega)]
        have hlt : r.length <= 250 := by
         by_cases hl : r.length <= 250
         · exact hl
         · have := cn hb.dig r1 (by omega); omega
        exact ih _ ⟨hb, r1, lb, hlt, by simp only; rw [ern, qz]; exact hg⟩ (by simp only; rw [ern]; exact uJ (by omega))
       refine Ok.bde ea (Ok.bde eb ?_)
       refine Ok.cd (fun h1 => ?_) (fun h1 => rest)
       refine Ok.cd (fun h2 => ?_) (fun h2 => rest)
       obtain ⟨la2, ea1⟩ := a1 h1
       obtain ⟨lb2, eb1⟩ := b1 h2
       have wa := m5 ha.dig la2
       have wb := m5 hb.dig lb2
       rw [ea1, eb1]
       refine Ok.bd (R := fun m => m = gZ v w /\ m < 1000000000000000000) ?_ ?_
       · refine dj (fun p : Int × Int => 0 <= p.1 /\ p.1 < 1000000000000000000 /\ 0 <= p.2 /\ p.2 < 1000000000000000000 /\ ((Nat.gcd p.1.toNat p.2.toNat : Nat) : Int) = gZ v w) (fun p => gm p.1.toNat p.2.toNat) ?_ n _ ⟨wa.2.1, wa.2.2, wb.2.1, wb.2.2, hg⟩ ?_
         · rintro again' ⟨c, d⟩ ⟨c1, c2, d1, d2, hcd⟩ ih'
           simp only at c1 c2 d1 d2 hcd
           dsimp only
           refine Ok.cd (fun h => ?_) (fun h => ?_)
           · have hd := dcT h
             refine Ok.gd (by rw [decide_eq_false (by omega)]; rfl) ?_
             rw [(od c1).2]
             have hm1 := Int.emod_nonneg c (by omega : d ≠ 0)
             have hm2 := Int.emod_lt_of_pos c (by omega : 0 < d)
             have em : (c % d).toNat = c.toNat % d.toNat := Int.toNat_emod c1 d1
             exact ih' _ ⟨d1, d2, hm1, by simp only; omega, by simp only; rw [em, qz]; exact hcd⟩ (by simp only; rw [em]; exact uJ (by omega))
           · have hd := dcF h
             have : d = 0 := by omega
             subst this
             refine aw.2 ⟨?_, c2⟩
             rw [<- hcd]
             simp [Nat.gcd_zero_right]; omega
         · have : gm (vl a).toNat (vl b).toNat <= 120 + 3 := sg (by
            have h1 : (vl a).toNat < 2 ^ 60 := by omega
            have h2 : (vl b).toNat < 2 ^ 60 := by omega
            have h3 : (vl a).toNat * (vl b).toNat < 2 ^ 60 * 2 ^ 60 := Nat.mul_lt_mul'' h1 h2
            rw [<- Nat.pow_add] at h3; exact h3)
           simp only; omega
       · rintro m ⟨hm, hm2⟩
         have hm0 : 0 <= m := by rw [hm]; exact Int.natCast_nonneg _
         refine Ok.bd (kF (by omega) hm0 (by omega)) ?_
         rintro z ⟨z1, z2, z3⟩
         refine Ok.bd (dR (by omega) false z1.dig (by omega)) fun y hy => aw.2 ?_
         rw [z2, hm] at hy
         exact hy
     · have hb0 : b = [] := by
        cases b with
        | nil => rfl
        | cons => exact absurd (dcF h) (by simp)
       subst hb0
       refine aw.2 ⟨ha, la, ?_⟩
       rw [<- hg]
       show vl a = ((Nat.gcd (vl a).toNat 0 : Nat) : Int)
       rw [Nat.gcd_zero_right]; omega
   · obtain ⟨K, hK⟩ : ∃ K : Nat, K = 250 := ⟨_, rfl⟩
     have h1 := xu hx.1.dig (k := K) (by omega); have h2 := xu hy.1.dig (k := K) (by omega)
     have h3 := Nat.mul_lt_mul'' h1 h2
     rw [<- Nat.pow_add] at h3
     have := sg h3
     simp only; omega
 · rintro (a | z) h
   · obtain ⟨h1, h2, h3⟩ := h
     refine Ok.bde (vN (by omega)) ?_
     refine Ok.bd (dR (by omega) false h1.dig (by omega)) fun y hy => aw.2 ?_
     rw [h3] at hy; exact hy
   · exact aw.2 h
end Go.L


set_option linter.all false
namespace Go.L
open Go Go.Eng
theorem ua {n : Nat} {x : ah} {v : Int} (hn : 1000 <= n) (hl : x.Groups.length <= 900) (h : isI x.Negative x.Groups v) : Ok (dU n x) fun z => isI z.Negative z.Groups (-v) := by
 unfold dU
 refine Ok.bde (mT hn hl h) (Ok.bde (vN hl) ?_)
 refine Ok.bd (dR hn _ h.1.dig hl) fun z hz => aw.2 ?_
 have : -v = if (!x.Negative) = true then -vl x.Groups else vl x.Groups := by rw [h.2.2]; cases x.Negative <;> simp
 rw [this]; exact hz
theorem Be {n : Nat} {x y : ah} {v w : Int} (hn : 1000 <= n) (hx : isI x.Negative x.Groups v) (hy : isI y.Negative y.Groups w) (hw : w ≠ 0) (lx : x.Groups.length <= 300) (ly : y.Groups.length <= 300) :
  Ok (de n x y) fun z => ∃ q r, isI z.1.Negative z.1.Groups q /\ isI z.2.1.Negative z.2.1.Groups r /\ v = q * w + r /\ ((0 <= r /\ r < w) \/ (w < r /\ r <= 0)) /\ z.2.2 = 0 := by
 unfold de
 refine Ok.bde (mT hn (by omega) hx) (Ok.bde (mT hn (by omega) hy) ?_)
 have hy0 : y.Groups ≠ [] := by
  intro h
  have := hy.2.2
  rw [h] at this
  have e : vl ([] : List Int) = 0 := rfl
  rw [e] at this
  apply hw; rw [this]; split <;> rfl
 refine Ok.cd (fun h => absurd h (by simp [hy0])) (fun h => ?_)
 refine Ok.bd (AE hn hx.1 hy.1 hy0 lx ly) ?_
 rintro ⟨c, d⟩ ⟨c1, d1, d2, d3⟩
 simp only at c1 d1 d2 d3
 dsimp only
 have hyp := jN hy.1 hy0
 have cp := ba c1.dig; have dp := ba d1.dig; have xp := ba hx.1.dig
 have ld : d.length <= 300 := by
  by_cases hl : d.length <= 300
  · exact hl
  · have := cn hy.1.dig d1 (by omega); omega
 have lc : c.length <= 300 := by
  by_cases hl : c.length <= 300
  · exact hl
  · have := cn hx.1.dig c1 (by omega)
    have : vl c * 1 <= vl c * vl y.Groups := mlT (by omega) cp
    omega
 refine Ok.bde (vN (by omega)) ?_
 have nx := hx.2.2; have ny := hy.2.2
 refine Ok.cd (fun h => ?_) (fun h => ?_)
 · have hd0 : d ≠ [] := by rintro rfl; simp at h
   have dpos := jN d1 hd0
   refine Ok.cd (fun h => ?_) (fun h => ?_)
   · refine Ok.bd (xB hn c1.dig (fy.2 (by omega)) (by omega) (by simp)) ?_
     rintro c2 ⟨e1, e2⟩
     rw [gw] at e2
     have ldy : d.length <= y.Groups.length := by
      by_cases hl : d.length <= y.Groups.length
      · exact hl
      · have := cn hy.1.dig d1 (by omega); omega
     refine Ok.bd (oW hn hy.1.dig d1.dig (by omega) ldy (by omega)) ?_
     rintro d4 ⟨f1, f2⟩
     have lc2 : c2.length <= 900 := by
      by_cases hl : c2.length <= 301
      · omega
      · have h1 := cn (j5.2 ⟨c1.dig, fy.2 (by omega : (0 : Int) <= 1 /\ (1 : Int) < 1000000000)⟩) e1 (by simp; omega)
        rw [kG, gw] at h1
        have := gU c.length
        omega
     have ld4 : d4.length <= 900 := by
      by_cases hl : d4.length <= 300
      · omega
      · have := cn hy.1.dig f1 (by omega); omega
     refine Ok.bd (dR hn true e1.dig lc2) fun z hz => Ok.bd (dR hn y.Negative f1.dig ld4) fun z' hz' => aw.2 ⟨_, _, hz, hz', ?_, ?_, rfl⟩
     · rw [nx, ny, e2, f2, <- d3]
       cases hxn : x.Negative <;> cases hyn : y.Negative <;> simp [hxn, hyn] at h ⊢ <;> grind
     · rw [ny, f2]
       cases hyn : y.Negative <;> simp <;> omega
   · refine Ok.bd (dR hn false c1.dig (by omega)) fun z hz => Ok.bd (dR hn y.Negative d1.dig (by omega)) fun z' hz' => aw.2 ⟨_, _, hz, hz', ?_, ?_, rfl⟩
     · rw [nx, ny, <- d3]
       cases hxn : x.Negative <;> cases hyn : y.Negative <;> simp [hxn, hyn] at h ⊢ <;> grind
     · rw [ny]
       cases hyn : y.Negative <;> simp <;> omega
 · have hd0 : d = [] := by
    cases d with
    | nil => rfl
    | cons => exact absurd (dcF h) (by simp)
   subst hd0
   have e0 : vl ([] : List Int) = 0 := rfl
   refine Ok.bd (dR hn _ c1.dig (by omega)) fun z hz => Ok.bd (dR hn y.Negative mM (by simp)) fun z' hz' => aw.2 ⟨_, _, hz, hz', ?_, ?_, rfl⟩
   · rw [nx, ny, <- d3]
     rw [e0]
     cases hxn : x.Negative <;> cases hyn : y.Negative <;> simp <;> grind
   · rw [ny]
     rw [e0]
     cases hyn : y.Negative <;> simp <;> omega
theorem jF {n : Nat} {x y : ah} {k w : Int} (hn : 1000 <= n) (hx : isI x.Negative x.Groups (k * w)) (hy : isI y.Negative y.Groups w) (hw : w ≠ 0) (lx : x.Groups.length <= 300) (ly : y.Groups.length <= 300) : Ok (de n x y) fun z => isI z.1.Negative z.1.Groups k := by
 refine (Be hn hx hy hw lx ly).mono ?_
 rintro z ⟨q, r, h1, h2, h3, h4, h5⟩
 have e : (k - q) * w = r := by grind
 have : k - q = 0 := by
  by_cases h : k - q = 0
  · exact h
  · exfalso
    by_cases hp : 0 < w
    · by_cases hq : 1 <= k - q
      · have : 1 * w <= (k - q) * w := mrT hq (by omega)
        omega
      · have : (k - q) * w <= (-1) * w := mrT (by omega) (by omega)
        omega
    · by_cases hq : 1 <= k - q
      · have : 1 * (-w) <= (k - q) * (-w) := mrT hq (by omega)
        have e2 : (k - q) * (-w) = -r := by rw [Int.mul_neg, e]
        omega
      · have : (k - q) * (-w) <= (-1) * (-w) := mrT (by omega) (by omega)
        have e2 : (k - q) * (-w) = -r := by rw [Int.mul_neg, e]
        omega
 rw [(by omega : k = q)]; exact h1
end Go.L


set_option linter.all false
namespace Go.L
open Go Go.Eng
def Qx (x : ak) (r : Rat) (k : Nat) : Prop := QL x.Num.Negative x.Num.Groups x.Den.Negative x.Den.Groups r k
theorem Ay {n : Nat} {x y : ah} {p q : Int} {k : Nat} (hn : 20000 <= n) (hk : k <= 250) (hx : isI x.Negative x.Groups p) (hy : isI y.Negative y.Groups q) (lx : x.Groups.length <= k) (ly : y.Groups.length <= k) (hq : 0 < q) :
  Ok (bdO (iA n x y) fun v14 => bdO (de n x v14) fun v16 => bdO (de n y v14) fun v18 => some (ak.mk v16.1 v18.1)) fun z => Qx z (Rat.divInt p q) k := by
 have hg := zV (v := p) (by omega : q ≠ 0)
 refine Ok.bd (xl hn hx hy (by omega) (by omega)) fun g hgi => ?_
 have bq := jc hy ly
 have bp := jc hx lx
 have dp := qM p q
 have dq := o0 p q
 have ap := kh p _ hg dp
 have aq := kh q _ hg dq
 have lg : g.Groups.length <= k := gW hgi (by omega) (by
  have : 1 * gZ p q <= (q / gZ p q) * gZ p q := mrT (by
   by_cases h : 1 <= q / gZ p q
   · exact h
   · have : (q / gZ p q) * gZ p q <= 0 * gZ p q := mrT (by omega) (by omega)
     omega) (by omega)
  omega)
 refine Ok.bd (jF (k := p / gZ p q) (by omega) (by rw [<- dp]; exact hx) hgi (by omega) (by omega) (by omega)) fun a ha => ?_
 refine Ok.bd (jF (k := q / gZ p q) (by omega) (by rw [<- dq]; exact hy) hgi (by omega) (by omega) (by omega)) fun b hb => aw.2 ?_
 exact ⟨by rw [pc hq]; exact ha, by rw [pe hq]; exact hb, gW ha (by omega) (by omega), gW hb (by omega) (by omega)⟩
theorem s8 {p q : Bool} {g h : List Int} {v : Int} (a : isI p g v) (b : isI q h (-v)) {k : Nat} (hk : g.length <= k) : h.length <= k := by
 have := jc a hk
 exact gW b (by omega) (by omega)
theorem pI {n : Nat} {x y : ah} {p q : Int} {k : Nat} (hn : 20000 <= n) (hk : k <= 250) (hx : isI x.Negative x.Groups p) (hy : isI y.Negative y.Groups q) (lx : x.Groups.length <= k) (ly : y.Groups.length <= k) (hq : q ≠ 0) :
  Ok (ee n x y) fun z => Qx z (Rat.divInt p q) k := by
 unfold ee
 refine Ok.bde (nB (by omega) (by omega) hy) ?_
 have hs := iu q
 refine Ok.cd (fun h => ?_) (fun h => ?_)
 · have := dcT h
   refine Ok.bd (ua (by omega) (by omega) hx) fun x' hx' => Ok.bd (ua (by omega) (by omega) hy) fun y' hy' => ?_
   rw [<- rW]
   exact Ay hn hk hx' hy' (s8 hx hx' lx) (s8 hy hy' ly) (by omega)
 · have := dcF h
   exact Ay hn hk hx hy lx ly (by omega)
theorem Dp {n : Nat} {x y : ah} {p q : Int} {k : Nat} (hn : 20000 <= n) (hk : k <= 250) (hx : isI x.Negative x.Groups p) (hy : isI y.Negative y.Groups q) (lx : x.Groups.length <= k) (ly : y.Groups.length <= k) (hq : q ≠ 0) :
  Ok (kR n x y) fun z => Qx z.1 (Rat.divInt p q) k /\ z.2 = 0 := by
 unfold kR fb
 refine Ok.bde (b := x) (by rw [nf (by omega) (by omega) hx]; rfl) (Ok.bde (b := y) (by rw [nf (by omega) (by omega) hy]; rfl) ?_)
 refine Ok.bde (nB (by omega) (by omega) hy) ?_
 have hs := iu q
 refine Ok.cd (fun h => ?_) (fun h => ?_)
 · have : sgn q = 0 := by simpa using h
   omega
 · exact Ok.bd (pI hn hk hx hy lx ly hq) fun z hz => aw.2 ⟨hz, rfl⟩
theorem zp {n : Nat} {p q : Int} (hn : 20000 <= n) (h0 : -9223372036854775808 <= p) (hv : p <= 9223372036854775807) (h1 : -9223372036854775808 <= q) (hv1 : q <= 9223372036854775807) (hq : q ≠ 0) : Ok (gN n p q) fun z => Qx z.1 (Rat.divInt p q) 3 /\ z.2 = 0 := by
 unfold gN
 refine Ok.bd (AQ (by omega) h0 hv) fun a ha => Ok.bd (AQ (by omega) h1 hv1) fun b hb => ?_
 exact Ok.bd (Dp hn (k := 3) (by omega) ha hb (lj ha h0 hv) (lj hb h1 hv1) hq) fun z hz => aw.2 hz
end Go.L

