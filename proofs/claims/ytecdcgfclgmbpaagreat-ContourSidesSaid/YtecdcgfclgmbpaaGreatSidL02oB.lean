import Derived.Test.YtecdcgfclgmbpaaGreatSidL01h
import Derived.Test.YtecdcgfclgmbpaaGreatPl6Sids
import Derived.Test.YtecdcgfclgmbpaaGreatSidLD
import Derived.Test.YtecdcgfclgmbpaaGreatPl6Sids
set_option linter.all false
namespace Go.L
open Go Go.Eng
theorem mD {g : List Int} (h : Dig g) (hl : g.length <= 2) : pF g.reverse = vl g /\ 0 <= vl g /\ vl g < 1000000000000000000 := by
 match g, hl with
 | [], _ => exact ⟨rfl, by decide, by decide⟩
 | [d], _ => 
  have h0 := kP.1 h
  have e : vl [d] = d := lQ d
  rw [e]
  refine ⟨?_, by omega, by omega⟩
  simp only [pF, List.reverse_cons, List.reverse_nil, List.nil_append, List.foldl, IntKind.wrap_u64]
  omega
 | [d, e], _ =>
  have h1 := gW.1 h
  have h2 := kP.1 h1.2
  have e1 : vl [d, e] = d + 1000000000 * e := by show d + 1000000000 * vl [e] = _; rw [lQ]
  rw [e1]
  refine ⟨?_, by omega, by omega⟩
  simp only [pF, List.reverse_cons, List.reverse_nil, List.nil_append, List.cons_append, List.foldl, IntKind.wrap_u64]
  omega
theorem oE {n : Nat} {g : List Int} (h : Dig g) (hl : g.length <= 900) : ∃ r, fV n g = some r /\ (r.2 = true -> g.length <= 2 /\ r.1 = vl g) /\ (r.2 = false -> 2 < g.length) := by
 unfold fV
 rw [decide_eq_true (by omega : g.length <= 1099511627776)]
 refine ⟨_, rfl, ?_⟩
 by_cases hg : g.length > 2
 · rw [decide_eq_true hg]; exact ⟨fun h => (by cases h), fun _ => hg⟩
 · rw [decide_eq_false hg]
   exact ⟨fun _ => ⟨by omega, (mD h (by omega)).1⟩, fun h => (by cases h)⟩
theorem AR {n : Nat} {a b : List Int} (hn : 1000 <= n) (ha : Can a) (hb : Can b) (hb0 : b ≠ []) (la : a.length <= 300) (lb : b.length <= 300) : Ok (gb n a b) fun r => Can r.1 /\ Can r.2 /\ vl r.2 < vl b /\ vl r.1 * vl b + vl r.2 = vl a := by
 unfold gb
 have hbp := qn hb hb0
 have hap := bL ha.dig
 rw [kG ha hb (by omega) (by omega)]
 show Ok (cdO _ _ _) _
 refine Ok.cd (fun h => ?_) (fun h => ?_)
 · have hlt : vl a < vl b := by
    have := dcT h
    rcases c7 (vl a - vl b) with ⟨g1, g2⟩ | ⟨g1, g2⟩ | ⟨g1, g2⟩ <;> omega
   exact aC.2 ⟨trivial, ha, hlt, by show 0 * vl b + vl a = vl a; omega⟩
 · have hle : vl b <= vl a := by
    have := dcF h
    rcases c7 (vl a - vl b) with ⟨g1, g2⟩ | ⟨g1, g2⟩ | ⟨g1, g2⟩ <;> omega
   obtain ⟨ra, ea, a1, a2⟩ := oE (n := n) ha.dig (by omega)
   obtain ⟨rb, eb, b1, b2⟩ := oE (n := n) hb.dig (by omega)
   have lpos : 0 < b.length := List.length_pos_iff.2 hb0
   have rest : Ok (cdO (((b.length : Int) : Int) == 1) (gdO (inR 0 b.length) (bdO (eO n a (gt b 0)) fun v17 => bdO (ck n (aa .u64 v17.2)) fun v19 => some ((v17.1, v19)))) (bdO (gF n a b) fun v21 => some ((v21.1, v21.2))))
     fun r => Can r.1 /\ Can r.2 /\ vl r.2 < vl b /\ vl r.1 * vl b + vl r.2 = vl a := by
    refine Ok.cd (fun h => ?_) (fun h => ?_)
    · have hl : b.length = 1 := by simp at h; omega
      obtain ⟨d, rfl⟩ : ∃ d, b = [d] := by
       match b, hl with
       | [d], _ => exact ⟨d, rfl⟩
      have hd := kP.1 hb.dig
      have hd0 : d ≠ 0 := hb.2.1 rfl
      refine Ok.gd rfl ?_
      have e : gt [d] 0 = d := rfl
      rw [e]
      refine Ok.bd (sf ha.dig (by omega) (by omega) (by omega)) ?_
      rintro ⟨q, r⟩ ⟨q1, q2, q3⟩
      simp only at q1 q2 q3
      dsimp only
      rw [aX q2.1 (by omega)]
      refine Ok.bd (nU hn q2.1 (by omega)) ?_
      rintro z ⟨z1, z2, z3⟩
      refine aC.2 ⟨q1, z1, ?_, ?_⟩
      · simp only [z2, lQ]; exact q2.2
      · simp only [z2, lQ]; exact q3
    · have hl : b.length ≠ 1 := by simp at h; omega
      exact Ok.bd (DU hn ha hb (by omega) la lb hle) fun r hr => aC.2 hr
   refine Ok.bde ea (Ok.bde eb ?_)
   refine Ok.cd (fun h => ?_) (fun h => rest)
   refine Ok.cd (fun h' => ?_) (fun h' => rest)
   obtain ⟨la2, ea1⟩ := a1 h
   obtain ⟨lb2, eb1⟩ := b1 h'
   have wa := mD ha.dig la2
   have wb := mD hb.dig lb2
   rw [ea1, eb1]
   refine Ok.gd (by rw [decide_eq_false (by omega)]; rfl) ?_
   rw [(vB hap).1, (vB hap).2]
   have hm := Int.emod_add_mul_ediv (vl a) (vl b)
   have hm1 := Int.emod_nonneg (vl a) (by omega : vl b ≠ 0)
   have hm2 := Int.emod_lt_of_pos (vl a) hbp
   have hq0 : 0 <= vl a / vl b := Int.ediv_nonneg hap (by omega)
   have hq1 : vl a / vl b <= vl a := Int.ediv_le_self _ hap
   rw [aX hq0 (by omega)]
   refine Ok.bd (nU hn hq0 (by omega)) ?_
   rintro q ⟨q1, q2, q3⟩
   refine Ok.bd (nU hn hm1 (by omega)) ?_
   rintro r ⟨r1, r2, r3⟩
   refine aC.2 ⟨q1, r1, ?_, ?_⟩
   · simp only [r2]; exact hm2
   · simp only [q2, r2]; rw [Int.mul_comm]; omega
theorem yk (x y : Nat) : Nat.gcd y (x % y) = Nat.gcd x y := by rw [Nat.gcd_comm x y, Nat.gcd_rec y x, Nat.gcd_comm]
theorem uw {n : Nat} {s : List Int} (h : s.length <= 900) : bV n s = some s := by
 unfold bV
 rw [decide_eq_true (by omega : (0 + s.length) * 4 <= 140737488355328), decide_eq_true (by omega : 0 + s.length <= 4611686018427387904)]; rfl
theorem Cx {n : Nat} {x y : ae} {v w : Int} (hn : 20000 <= n) (hx : isI x.Negative x.Groups v) (hy : isI y.Negative y.Groups w) (lx : x.Groups.length <= 250) (ly : y.Groups.length <= 250) : Ok (gC n x y) fun z => isI z.Negative z.Groups (gZ v w) := by
 unfold gC
 refine Ok.bde (fP (by omega) (by omega) hx) (Ok.bde (fP (by omega) (by omega) hy) ?_)
 have ex : v.natAbs = (vl x.Groups).toNat := by have := l7 hx; omega
 have ey : w.natAbs = (vl y.Groups).toNat := by have := l7 hy; omega
 have e0 : gZ v w = ((Nat.gcd (vl x.Groups).toNat (vl y.Groups).toNat : Nat) : Int) := by unfold gZ; rw [ex, ey]
 refine Ok.bd (R := fun o => match o with | .inl a => Can a /\ a.length <= 250 /\ vl a = gZ v w | .inr z => isI z.Negative z.Groups (gZ v w)) ?_ ?_
 · refine gE (fun p : List Int × List Int => Can p.1 /\ Can p.2 /\ p.1.length <= 250 /\ p.2.length <= 250 /\ ((Nat.gcd (vl p.1).toNat (vl p.2).toNat : Nat) : Int) = gZ v w) (fun p => gm (vl p.1).toNat (vl p.2).toNat) ?_ n _ ⟨hx.1, hy.1, lx, ly, e0.symm⟩ ?_
   · rintro again ⟨a, b⟩ ⟨ha, hb, la, lb, hg⟩ ih
     simp only at ha hb la lb hg
     dsimp only
     have hap := bL ha.dig
     refine Ok.cd (fun h => ?_) (fun h => ?_)
     · have hb0 : b ≠ [] := by rintro rfl; simp at h
       have hbp := qn hb hb0
       obtain ⟨ra, ea, a1, a2⟩ := oE (n := n) ha.dig (by omega)
       obtain ⟨rb, eb, b1, b2⟩ := oE (n := n) hb.dig (by omega)
       have rest : Ok (bdO (gb n a b) fun v57 => again (b, v57.2)) fun o => match o with | .inl a => Can a /\ a.length <= 250 /\ vl a = gZ v w | .inr z => isI z.Negative z.Groups (gZ v w) := by
        refine Ok.bd (AR (by omega) ha hb hb0 (by omega) (by omega)) ?_
        rintro ⟨q, r⟩ ⟨q1, r1, r2, r3⟩
        simp only at q1 r1 r2 r3
        have hrp := bL r1.dig
        have er : vl r = vl a % vl b := by
         have h1 : (vl q * vl b + vl r) % vl b = vl r % vl b := by rw [Int.add_comm, Int.add_mul_emod_self_right]
         rw [<- r3, h1, Int.emod_eq_of_lt hrp r2]
        have ern : (vl r).toNat = (vl a).toNat % (vl b).toNat := by
         rw [er, Int.toNat_emod hap (by omega)]
        have hlt : r.length <= 250 := by
         by_cases hl : r.length <= 250
         · exact hl
         · have := fD hb.dig r1 (by omega); omega
        exact ih _ ⟨hb, r1, lb, hlt, by simp only; rw [ern, yk]; exact hg⟩ (by simp only; rw [ern]; exact AQ (by omega))
       refine Ok.bde ea (Ok.bde eb ?_)
       refine Ok.cd (fun h1 => ?_) (fun h1 => rest)
       refine Ok.cd (fun h2 => ?_) (fun h2 => rest)
       obtain ⟨la2, ea1⟩ := a1 h1
       obtain ⟨lb2, eb1⟩ := b1 h2
       have wa := mD ha.dig la2
       have wb := mD hb.dig lb2
       rw [ea1, eb1]
       refine Ok.bd (R := fun m => m = gZ v w /\ m < 1000000000000000000) ?_ ?_
       · refine gE (fun p : Int × Int => 0 <= p.1 /\ p.1 < 1000000000000000000 /\ 0 <= p.2 /\ p.2 < 1000000000000000000 /\ ((Nat.gcd p.1.toNat p.2.toNat : Nat) : Int) = gZ v w) (fun p => gm p.1.toNat p.2.toNat) ?_ n _ ⟨wa.2.1, wa.2.2, wb.2.1, wb.2.2, hg⟩ ?_
         · rintro again' ⟨c, d⟩ ⟨c1, c2, d1, d2, hcd⟩ ih'
           simp only at c1 c2 d1 d2 hcd
           dsimp only
           refine Ok.cd (fun h => ?_) (fun h => ?_)
           · have hd := dcT h
             refine Ok.gd (by rw [decide_eq_false (by omega)]; rfl) ?_
             rw [(vB c1).2]
             have hm1 := Int.emod_nonneg c (by omega : d ≠ 0)
             have hm2 := Int.emod_lt_of_pos c (by omega : 0 < d)
             have em : (c % d).toNat = c.toNat % d.toNat := Int.toNat_emod c1 d1
             exact ih' _ ⟨d1, d2, hm1, by simp only; omega, by simp only; rw [em, yk]; exact hcd⟩ (by simp only; rw [em]; exact AQ (by omega))
           · have hd := dcF h
             have : d = 0 := by omega
             subst this
             refine aC.2 ⟨?_, c2⟩
             rw [<- hcd]
             simp [Nat.gcd_zero_right]; omega
         · have : gm (vl a).toNat (vl b).toNat <= 120 + 3 := x7 (by
            have h1 : (vl a).toNat < 2 ^ 60 := by omega
            have h2 : (vl b).toNat < 2 ^ 60 := by omega
            have h3 : (vl a).toNat * (vl b).toNat < 2 ^ 60 * 2 ^ 60 := Nat.mul_lt_mul'' h1 h2
            rw [<- Nat.pow_add] at h3; exact h3)
           simp only; omega
       · rintro m ⟨hm, hm2⟩
         have hm0 : 0 <= m := by rw [hm]; exact Int.natCast_nonneg _
         refine Ok.bd (nU (by omega) hm0 (by omega)) ?_
         rintro z ⟨z1, z2, z3⟩
         refine Ok.bd (gG (by omega) false z1.dig (by omega)) fun y hy => aC.2 ?_
         rw [z2, hm] at hy
         exact hy
     · have hb0 : b = [] := by
        cases b with
        | nil => rfl
        | cons => exact absurd (dcF h) (by simp)
       subst hb0
       refine aC.2 ⟨ha, la, ?_⟩
       rw [<- hg]
       show vl a = ((Nat.gcd (vl a).toNat 0 : Nat) : Int)
       rw [Nat.gcd_zero_right]; omega
   · obtain ⟨K, hK⟩ : ∃ K : Nat, K = 250 := ⟨_, rfl⟩
     have h1 := Cz hx.1.dig (k := K) (by omega); have h2 := Cz hy.1.dig (k := K) (by omega)
     have h3 := Nat.mul_lt_mul'' h1 h2
     rw [<- Nat.pow_add] at h3
     have := x7 h3
     simp only; omega
 · rintro (a | z) h
   · obtain ⟨h1, h2, h3⟩ := h
     refine Ok.bde (uw (by omega)) ?_
     refine Ok.bd (gG (by omega) false h1.dig (by omega)) fun y hy => aC.2 ?_
     rw [h3] at hy; exact hy
   · exact aC.2 h
end Go.L


set_option linter.all false
namespace Go.L
open Go Go.Eng
theorem rH {n : Nat} {x : ae} {v : Int} (hn : 1000 <= n) (hl : x.Groups.length <= 900) (h : isI x.Negative x.Groups v) : Ok (dw n x) fun z => isI z.Negative z.Groups (-v) := by
 unfold dw
 refine Ok.bde (fP hn hl h) (Ok.bde (uw hl) ?_)
 refine Ok.bd (gG hn _ h.1.dig hl) fun z hz => aC.2 ?_
 have : -v = if (!x.Negative) = true then -vl x.Groups else vl x.Groups := by rw [h.2.2]; cases x.Negative <;> simp
 rw [this]; exact hz
theorem Co {n : Nat} (a b : Int) : gR n a b = some (sgn (a - b)) := by
 unfold gR
 have ea : (a != a) = false := by simp
 have eb : (b != b) = false := by simp
 simp only [jo, bdO, ea, eb]
 rcases c7 (a - b) with ⟨h1, h2⟩ | ⟨h1, h2⟩ | ⟨h1, h2⟩
 · rw [h2]; rw [decide_eq_true (by omega : a < b)]; rfl
 · rw [h2]; rw [decide_eq_false (by omega : ¬ a < b), decide_eq_false (by omega : ¬ a > b)]; rfl
 · rw [h2]; rw [decide_eq_false (by omega : ¬ a < b), decide_eq_true (by omega : a > b)]; rfl
theorem vg {n : Nat} {x y : ae} {v w : Int} (hn : 1000 <= n) (hx : isI x.Negative x.Groups v) (hy : isI y.Negative y.Groups w) (lx : x.Groups.length <= 400) (ly : y.Groups.length <= 400) : fR n x y = some (sgn (v - w)) := by
 apply Ok.eq
 unfold fR
 refine Ok.bde (qw hn (by omega) hx) (Ok.bde (qw hn (by omega) hy) ?_)
 have hv := c7 v; have hw := c7 w; have hvw := c7 (v - w)
 refine Ok.cd (fun h => ?_) (fun h => ?_)
 · have hne : sgn v ≠ sgn w := by simpa using h
   refine Ok.bde (Co _ _) (aC.2 ?_)
   have h3 := c7 (sgn v - sgn w)
   omega
 · have heq : sgn v = sgn w := by simpa using h
   refine Ok.bde (fP hn (by omega) hx) (Ok.bde (fP hn (by omega) hy) (Ok.bde (kG hx.1 hy.1 lx ly) ?_))
   have ax := l7 hx; have ay := l7 hy
   have h3 := c7 (vl x.Groups - vl y.Groups)
   have nx := hx.2.2
   have px := bL hx.1.dig
   refine Ok.cd (fun h => ?_) (fun h => ?_)
   · rw [h, if_pos rfl] at nx
     have hx0 := qn hx.1 (hx.2.1 h)
     refine aC.2 ?_
     rw [wrap64_in (by omega) (by omega)]
     omega
   · rw [h] at nx
     simp only [Bool.false_eq_true, if_false] at nx
     exact aC.2 (by omega)
theorem Bw {n : Nat} {x y : ae} {v w : Int} (hn : 1000 <= n) (hx : isI x.Negative x.Groups v) (hy : isI y.Negative y.Groups w) (hw : w ≠ 0) (lx : x.Groups.length <= 300) (ly : y.Groups.length <= 300) :
  Ok (cG n x y) fun z => ∃ q r, isI z.1.Negative z.1.Groups q /\ isI z.2.1.Negative z.2.1.Groups r /\ v = q * w + r /\ ((0 <= r /\ r < w) \/ (w < r /\ r <= 0)) /\ z.2.2 = 0 := by
 unfold cG
 refine Ok.bde (fP hn (by omega) hx) (Ok.bde (fP hn (by omega) hy) ?_)
 have hy0 : y.Groups ≠ [] := by
  intro h
  have := hy.2.2
  rw [h] at this
  have e : vl ([] : List Int) = 0 := rfl
  rw [e] at this
  apply hw; rw [this]; split <;> rfl
 refine Ok.cd (fun h => absurd h (by simp [hy0])) (fun h => ?_)
 refine Ok.bd (AR hn hx.1 hy.1 hy0 lx ly) ?_
 rintro ⟨c, d⟩ ⟨c1, d1, d2, d3⟩
 simp only at c1 d1 d2 d3
 dsimp only
 have hyp := qn hy.1 hy0
 have cp := bL c1.dig; have dp := bL d1.dig; have xp := bL hx.1.dig
 have ld : d.length <= 300 := by
  by_cases hl : d.length <= 300
  · exact hl
  · have := fD hy.1.dig d1 (by omega); omega
 have lc : c.length <= 300 := by
  by_cases hl : c.length <= 300
  · exact hl
  · have := fD hx.1.dig c1 (by omega)
    have : vl c * 1 <= vl c * vl y.Groups := mlT (by omega) cp
    omega
 refine Ok.bde (uw (by omega)) ?_
 have nx := hx.2.2; have ny := hy.2.2
 refine Ok.cd (fun h => ?_) (fun h => ?_)
 · have hd0 : d ≠ [] := by rintro rfl; simp at h
   have dpos := qn d1 hd0
   refine Ok.cd (fun h => ?_) (fun h => ?_)
   · refine Ok.bd (An hn c1.dig (kP.2 (by omega)) (by omega) (by simp)) ?_
     rintro c2 ⟨e1, e2⟩
     rw [lQ] at e2
     have ldy : d.length <= y.Groups.length := by
      by_cases hl : d.length <= y.Groups.length
      · exact hl
      · have := fD hy.1.dig d1 (by omega); omega
     refine Ok.bd (u4 hn hy.1.dig d1.dig (by omega) ldy (by omega)) ?_
     rintro d4 ⟨f1, f2⟩
     have lc2 : c2.length <= 900 := by
      by_cases hl : c2.length <= 301
      · omega
      · have h1 := fD (r9.2 ⟨c1.dig, kP.2 (by omega : (0 : Int) <= 1 /\ (1 : Int) < 1000000000)⟩) e1 (by simp; omega)
        rw [pQ, lQ] at h1
        have := jI c.length
        omega
     have ld4 : d4.length <= 900 := by
      by_cases hl : d4.length <= 300
      · omega
      · have := fD hy.1.dig f1 (by omega); omega
     refine Ok.bd (gG hn true e1.dig lc2) fun z hz => Ok.bd (gG hn y.Negative f1.dig ld4) fun z' hz' => aC.2 ⟨_, _, hz, hz', ?_, ?_, rfl⟩
     · rw [nx, ny, e2, f2, <- d3]
       cases hxn : x.Negative <;> cases hyn : y.Negative <;> simp [hxn, hyn] at h ⊢ <;> grind
     · rw [ny, f2]
       cases hyn : y.Negative <;> simp <;> omega
   · refine Ok.bd (gG hn false c1.dig (by omega)) fun z hz => Ok.bd (gG hn y.Negative d1.dig (by omega)) fun z' hz' => aC.2 ⟨_, _, hz, hz', ?_, ?_, rfl⟩
     · rw [nx, ny, <- d3]
       cases hxn : x.Negative <;> cases hyn : y.Negative <;> simp [hxn, hyn] at h ⊢ <;> grind
     · rw [ny]
       cases hyn : y.Negative <;> simp <;> omega
 · have hd0 : d = [] := by
    cases d with
    | nil => rfl
    | cons => exact absurd (dcF h) (by simp)
   subst hd0
   have e0 : vl ([] : List Int) = 0 := rfl
   refine Ok.bd (gG hn _ c1.dig (by omega)) fun z hz => Ok.bd (gG hn y.Negative ss (by simp)) fun z' hz' => aC.2 ⟨_, _, hz, hz', ?_, ?_, rfl⟩
   · rw [nx, ny, <- d3]
     rw [e0]
     cases hxn : x.Negative <;> cases hyn : y.Negative <;> simp <;> grind
   · rw [ny]
     rw [e0]
     cases hyn : y.Negative <;> simp <;> omega
theorem tX {n : Nat} {x y : ae} {k w : Int} (hn : 1000 <= n) (hx : isI x.Negative x.Groups (k * w)) (hy : isI y.Negative y.Groups w) (hw : w ≠ 0) (lx : x.Groups.length <= 300) (ly : y.Groups.length <= 300) : Ok (cG n x y) fun z => isI z.1.Negative z.1.Groups k := by
 refine (Bw hn hx hy hw lx ly).mono ?_
 rintro z ⟨q, r, h1, h2, h3, h4, h5⟩
 have e : (k - q) * w = r := by grind
 have : k - q = 0 := by
  by_cases h : k - q = 0
  · exact h
  · exfalso
    by_cases hp : 0 < w
    · by_cases hq : 1 <= k - q
      · have : 1 * w <= (k - q) * w := mrT hq (by omega)
        omega
      · have : (k - q) * w <= (-1) * w := mrT (by omega) (by omega)
        omega
    · by_cases hq : 1 <= k - q
      · have : 1 * (-w) <= (k - q) * (-w) := mrT hq (by omega)
        have e2 : (k - q) * (-w) = -r := by rw [Int.mul_neg, e]
        omega
      · have : (k - q) * (-w) <= (-1) * (-w) := mrT (by omega) (by omega)
        have e2 : (k - q) * (-w) = -r := by rw [Int.mul_neg, e]
        omega
 rw [(by omega : k = q)]; exact h1
end Go.L


set_option linter.all false
namespace Go.L
open Go Go.Eng
def Qx (x : aj) (r : Rat) (k : Nat) : Prop := QL x.Num.Negative x.Num.Groups x.Den.Negative x.Den.Groups r k
theorem AL {n : Nat} {x y : ae} {p q : Int} {k : Nat} (hn : 20000 <= n) (hk : k <= 250) (hx : isI x.Negative x.Groups p) (hy : isI y.Negative y.Groups q) (lx : x.Groups.length <= k) (ly : y.Groups.length <= k) (hq : 0 < q) :
  Ok (bdO (gC n x y) fun v14 => bdO (cG n x v14) fun v16 => bdO (cG n y v14) fun v18 => some (aj.mk v16.1 v18.1)) fun z => Qx z (Rat.divInt p q) k := by
 have hg := CV (v := p) (by omega : q ≠ 0)
 refine Ok.bd (Cx hn hx hy (by omega) (by omega)) fun g hgi => ?_
 have bq := n5 hy ly
 have bp := n5 hx lx
 have dp := tO p q
 have dq := sD p q
 have ap := m5 p _ hg dp
 have aq := m5 q _ hg dq
 have lg : g.Groups.length <= k := mU hgi (by omega) (by
  have : 1 * gZ p q <= (q / gZ p q) * gZ p q := mrT (by
   by_cases h : 1 <= q / gZ p q
   · exact h
   · have : (q / gZ p q) * gZ p q <= 0 * gZ p q := mrT (by omega) (by omega)
     omega) (by omega)
  omega)
 refine Ok.bd (tX (k := p / gZ p q) (by omega) (by rw [<- dp]; exact hx) hgi (by omega) (by omega) (by omega)) fun a ha => ?_
 refine Ok.bd (tX (k := q / gZ p q) (by omega) (by rw [<- dq]; exact hy) hgi (by omega) (by omega) (by omega)) fun b hb => aC.2 ?_
 exact ⟨by rw [q8 hq]; exact ha, by rw [qY hq]; exact hb, mU ha (by omega) (by omega), mU hb (by omega) (by omega)⟩
theorem ph {p q : Bool} {g h : List Int} {v : Int} (a : isI p g v) (b : isI q h (-v)) {k : Nat} (hk : g.length <= k) : h.length <= k := by
 have := n5 a hk
 exact mU b (by omega) (by omega)
theorem qZ {n : Nat} {x y : ae} {p q : Int} {k : Nat} (hn : 20000 <= n) (hk : k <= 250) (hx : isI x.Negative x.Groups p) (hy : isI y.Negative y.Groups q) (lx : x.Groups.length <= k) (ly : y.Groups.length <= k) (hq : q ≠ 0) :
  Ok (dj n x y) fun z => Qx z (Rat.divInt p q) k := by
 unfold dj
 refine Ok.bde (qw (by omega) (by omega) hy) ?_
 have hs := c7 q
 refine Ok.cd (fun h => ?_) (fun h => ?_)
 · have := dcT h
   refine Ok.bd (rH (by omega) (by omega) hx) fun x' hx' => Ok.bd (rH (by omega) (by omega) hy) fun y' hy' => ?_
   rw [<- zp]
   exact AL hn hk hx' hy' (ph hx hx' lx) (ph hy hy' ly) (by omega)
 · have := dcF h
   exact AL hn hk hx hy lx ly (by omega)
theorem wA {n : Nat} {x : aj} {r : Rat} {k : Nat} (hn : 20000 <= n) (hk : k <= 250) (h : Qx x r k) : cH n x = some true := by
 apply Ok.eq
 unfold cH
 have hp := den_pos r
 have hnl := h.nl; have hdl := h.dl
 refine Ok.bde (pG (by omega) (by omega) h.num) (Ok.cd (fun h => by cases h) fun _ => ?_)
 refine Ok.bde (pG (by omega) (by omega) h.den) (Ok.cd (fun h => by cases h) fun _ => ?_)
 refine Ok.bde (qw (by omega) (by omega) h.den) ?_
 rw [uo hp]
 refine Ok.cd (fun h => absurd h (by decide)) fun _ => ?_
 refine Ok.bd (Cx hn h.num h.den (by omega) (by omega)) fun g hg => ?_
 rw [ER] at hg
 refine Ok.bd (yY (by omega) (by decide) (by decide)) fun one h1 => ?_
 have l1 := kF h1 (by decide) (by decide)
 have lg := kF hg (by decide) (by decide)
 refine Ok.bde (vg (by omega) hg h1 (by omega) (by omega)) (aC.2 rfl)
theorem BN {n : Nat} {x : aj} {r : Rat} {k : Nat} (hn : 20000 <= n) (hk : k <= 250) (h : Qx x r k) : Ok (gY n x) fun z => Qx z r k := by
 unfold gY
 have hnl := h.nl; have hdl := h.dl
 refine Ok.bd (rH (by omega) (by omega) h.num) fun a ha => ?_
 have la := ph h.num ha h.nl
 refine Ok.bd (rH (by omega) (by omega) ha) fun b hb => ?_
 have lb := ph ha hb la
 refine Ok.bd (rH (by omega) (by omega) h.den) fun c hc => ?_
 have lc := ph h.den hc h.dl
 refine Ok.bd (rH (by omega) (by omega) hc) fun d hd => aC.2 ?_
 have ld := ph hc hd lc
 rw [Int.neg_neg] at hb hd
 exact ⟨hb, hd, lb, ld⟩
theorem jN {n : Nat} {x : aj} {r : Rat} {k : Nat} (hn : 20000 <= n) (hk : k <= 250) (h : Qx x r k) : Ok (bI n x) fun z => Qx z r k := by
 unfold bI
 refine Ok.bde (wA hn hk h) (Ok.cd (fun _ => Ok.bd (BN hn hk h) fun z hz => aC.2 hz) fun h => by cases h)
theorem n0 {n : Nat} {v : Int} (hn : 20000 <= n) (h0 : -9223372036854775808 <= v) (hv : v <= 9223372036854775807) : Ok (bJ n v) fun z => Qx z (Rat.divInt v 1) 3 := by
 unfold bJ
 refine Ok.bd (yY (by omega) h0 hv) fun a ha => Ok.bd (yY (by omega) (by decide) (by decide)) fun b hb => aC.2 ?_
 obtain ⟨e1, e2⟩ := Bx v
 exact ⟨by rw [e1]; exact ha, by rw [e2]; exact hb, kF ha h0 hv, kF hb (by decide) (by decide)⟩
theorem Ds {n : Nat} {x y : ae} {p q : Int} {k : Nat} (hn : 20000 <= n) (hk : k <= 250) (hx : isI x.Negative x.Groups p) (hy : isI y.Negative y.Groups q) (lx : x.Groups.length <= k) (ly : y.Groups.length <= k) (hq : q ≠ 0) :
  Ok (j4 n x y) fun z => Qx z.1 (Rat.divInt p q) k /\ z.2 = 0 := by
 unfold j4 ee
 refine Ok.bde (b := x) (by rw [pG (by omega) (by omega) hx]; rfl) (Ok.bde (b := y) (by rw [pG (by omega) (by omega) hy]; rfl) ?_)
 refine Ok.bde (qw (by omega) (by omega) hy) ?_
 have hs := c7 q
 refine Ok.cd (fun h => ?_) (fun h => ?_)
 · have : sgn q = 0 := by simpa using h
   omega
 · exact Ok.bd (qZ hn hk hx hy lx ly hq) fun z hz => aC.2 ⟨hz, rfl⟩
theorem ED {n : Nat} {p q : Int} (hn : 20000 <= n) (h0 : -9223372036854775808 <= p) (hv : p <= 9223372036854775807) (h1 : -9223372036854775808 <= q) (hv1 : q <= 9223372036854775807) (hq : q ≠ 0) : Ok (fY n p q) fun z => Qx z.1 (Rat.divInt p q) 3 /\ z.2 = 0 := by
 unfold fY
 refine Ok.bd (yY (by omega) h0 hv) fun a ha => Ok.bd (yY (by omega) h1 hv1) fun b hb => ?_
 exact Ok.bd (Ds hn (k := 3) (by omega) ha hb (kF ha h0 hv) (kF hb h1 hv1) hq) fun z hz => aC.2 hz
theorem DV (a b : Rat) : Rat.divInt (a.num * b.num) ((a.den : Int) * (b.den : Int)) = a * b := by
 rw [<- Rat.divInt_mul_divInt, Rat.num_divInt_den, Rat.num_divInt_den]
theorem Ee (a b : Rat) : Rat.divInt (a.num * (b.den : Int) + b.num * (a.den : Int)) ((a.den : Int) * (b.den : Int)) = a + b := by
 have h1 := den_pos a; have h2 := den_pos b
 rw [<- Rat.divInt_add_divInt _ _ (by omega) (by omega), Rat.num_divInt_den, Rat.num_divInt_den]
theorem sM {n : Nat} {x y : aj} {a b : Rat} {j k : Nat} (hn : 20000 <= n) (hk : j + k <= 250) (hx : Qx x a j) (hy : Qx y b k) : Ok (cA n x y) fun z => Qx z (a * b) (j + k) := by
 unfold cA
 refine Ok.bd (jN hn (by omega) hx) fun u hu => Ok.bd (jN hn (by omega) hy) fun v hv => ?_
 have n1 := hu.nl; have n2 := hv.nl; have d1 := hu.dl; have d2 := hv.dl
 refine Ok.bd (rr (by omega) hu.num hv.num (by omega) (by omega)) fun p hp => Ok.bd (rr (by omega) hu.den hv.den (by omega) (by omega)) fun q hq => ?_
 have h1 := den_pos a; have h2 := den_pos b
 have h3 : (0 : Int) < (a.den : Int) * (b.den : Int) := Int.mul_pos h1 h2
 refine Ok.bd (qZ hn hk hp hq (iW hu.num hv.num hp n1 n2) (iW hu.den hv.den hq d1 d2) (by omega)) fun z hz => aC.2 ?_
 rw [DV] at hz; exact hz
theorem xL {n : Nat} {x y : aj} {a b : Rat} {j k : Nat} (hn : 20000 <= n) (hk : j + k + 1 <= 250) (hx : Qx x a j) (hy : Qx y b k) : Ok (eL n x y) fun z => Qx z (a + b) (j + k + 1) := by
 unfold eL
 refine Ok.bd (jN hn (by omega) hx) fun u hu => Ok.bd (jN hn (by omega) hy) fun v hv => ?_
 have n1 := hu.nl; have n2 := hv.nl; have d1 := hu.dl; have d2 := hv.dl
 refine Ok.bd (rr (by omega) hu.num hv.den (by omega) (by omega)) fun p hp => Ok.bd (rr (by omega) hv.num hu.den (by omega) (by omega)) fun p' hp' => ?_
 have lp := iW hu.num hv.den hp n1 d2
 have lp' := iW hv.num hu.den hp' n2 d1
 refine Ok.bd (Fl (by omega) hp hp' (by omega) (by omega)) fun s hs => Ok.bd (rr (by omega) hu.den hv.den (by omega) (by omega)) fun q hq => ?_
 have ls := ym hp hp' hs (k := j + k) (by omega) (by omega)
 have lq := iW hu.den hv.den hq d1 d2
 have h1 := den_pos a; have h2 := den_pos b
 have h3 : (0 : Int) < (a.den : Int) * (b.den : Int) := Int.mul_pos h1 h2
 refine Ok.bd (qZ hn hk hs hq (by omega) (by omega) (by omega)) fun z hz => aC.2 ?_
 rw [Ee] at hz; exact hz
end Go.L


set_option linter.all false
namespace Go.L.R
open Go Go.Eng Go.L
end Go.L.R


set_option linter.all false
namespace Go.L.R
open Go Go.Eng Go.L
end Go.L.R


set_option linter.all false
namespace Go.L.R
open Go Go.Eng Go.L
end Go.L.R


set_option linter.all false
namespace Go.L.R
open Go Go.Eng Go.L
end Go.L.R


set_option linter.all false
namespace Go.L.R
open Go Go.Eng Go.L
end Go.L.R


set_option linter.all false
namespace Go.L.R
open Go Go.Eng Go.L
def Qx (x : aj) (r : Rat) (k : Nat) : Prop := QL x.Num.Negative x.Num.Groups x.Den.Negative x.Den.Groups r k
end Go.L.R


set_option linter.unusedVariables false
namespace Go.L
open Go Go.Eng
theorem QL.tight {nn dn : Bool} {ng dg : List Int} {r : Rat} {j : Nat} (h : QL nn ng dn dg r j) {p q : Int} {k : Nat} (hr : r = Rat.divInt p q) (hq : 0 < q) (h1 : -pB k < p) (h2 : p < pB k) (h3 : q < pB k) : QL nn ng dn dg r k := by
 subst hr
 have hg := CV (v := p) (w := q) (by omega)
 have a1 := m5 p _ hg (tO p q)
 have a2 := m5 q _ hg (sD p q)
 have e1 := q8 (p := p) hq
 have e2 := qY (p := p) hq
 refine ⟨h.num, h.den, mU h.num (by rw [e1]; omega) (by rw [e1]; omega), mU h.den (by rw [e2]; have := jI k; omega) (by rw [e2]; omega)⟩
theorem jP (a : Int) : Rat.divInt a 1 = (a : Rat) := by
 rw [Rat.divInt_eq_div]
 grind
end Go.L


set_option linter.unusedVariables false
namespace Go.L
open Go Go.Eng
end Go.L

