import Derived.Test.YtecdcgfclgmbpaaGreatApaL01h
import Derived.Test.YtecdcgfclgmbpaaGreatPl6Apas
set_option linter.all false
namespace Go.L
open Go Go.Eng
theorem mO {g : List Int} (h : Dig g) (j : g.length <= 2) : qI g.reverse = vl g /\ 0 <= vl g /\ vl g < 1000000000000000000 := by
 match g, j with
 | [], _ => exact ⟨rfl, by decide, by decide⟩
 | [d], _ => 
  have m := fe.1 h
  have e : vl [d] = d := fU d
  rw [e]
  refine ⟨?_, by omega, by omega⟩
  simp only [qI, List.reverse_cons, List.reverse_nil, List.nil_append, List.foldl, IntKind.wrap_u64]
  omega
 | [d, e], _ =>
  have h1 := gJ.1 h
  have h2 := fe.1 h1.2
  have e1 : vl [d, e] = d + 1000000000 * e := by show d + 1000000000 * vl [e] = _; rw [fU]
  rw [e1]
  refine ⟨?_, by omega, by omega⟩
  simp only [qI, List.reverse_cons, List.reverse_nil, List.nil_append, List.cons_append, List.foldl, IntKind.wrap_u64]
  omega
theorem oY {n : Nat} {g : List Int} (h : Dig g) (m : g.length <= 900) : ∃ r, gi n g = some r /\ (r.2 = true -> g.length <= 2 /\ r.1 = vl g) /\ (r.2 = false -> 2 < g.length) := by
 unfold gi
 rw [decide_eq_true (by omega : g.length <= 1099511627776)]
 refine ⟨_, rfl, ?_⟩
 by_cases j : g.length > 2
 · rw [decide_eq_true j]; exact ⟨fun h => (by cases h), fun _ => j⟩
 · rw [decide_eq_false j]
   exact ⟨fun _ => ⟨by omega, (mO h (by omega)).1⟩, fun h => (by cases h)⟩
theorem By {n : Nat} {a b : List Int} (M : 1000 <= n) (ha : Can a) (hb : Can b) (C : b ≠ []) (la : a.length <= 300) (lb : b.length <= 300) : Ok (gk n a b) fun r => Can r.1 /\ Can r.2 /\ vl r.2 < vl b /\ vl r.1 * vl b + vl r.2 = vl a := by
 unfold gk
 have O := jh hb C
 have j := aY ha.dig
 rw [oS ha hb (by omega) (by omega)]
 show Ok (cdO _ _ _) _
 refine Ok.cd (fun h => ?_) (fun h => ?_)
 · have T : vl a < vl b := by
    have := dcT h
    rcases fB (vl a - vl b) with ⟨g1, D⟩ | ⟨g1, D⟩ | ⟨g1, D⟩ <;> omega
   exact az.2 ⟨trivial, ha, T, by show 0 * vl b + vl a = vl a; omega⟩
 · have hle : vl b <= vl a := by
    have := dcF h
    rcases fB (vl a - vl b) with ⟨g1, D⟩ | ⟨g1, D⟩ | ⟨g1, D⟩ <;> omega
   obtain ⟨ra, ea, a1, a2⟩ := oY (n := n) ha.dig (by omega)
   obtain ⟨rb, eb, b1, b2⟩ := oY (n := n) hb.dig (by omega)
   have a8 : 0 < b.length := List.length_pos_iff.2 C
   have rest : Ok (cdO (((b.length : Int) : Int) == 1) (gdO (inR 0 b.length) (bdO (eO n a (gt b 0)) fun E => bdO (cH n (aa .u64 E.2)) fun U => some ((E.1, U)))) (bdO (ie n a b) fun I => some ((I.1, I.2))))
     fun r => Can r.1 /\ Can r.2 /\ vl r.2 < vl b /\ vl r.1 * vl b + vl r.2 = vl a := by
    refine Ok.cd (fun h => ?_) (fun h => ?_)
    · have hl : b.length = 1 := by simp at h; omega
      obtain ⟨d, rfl⟩ : ∃ d, b = [d] := by
       match b, hl with
       | [d], _ => exact ⟨d, rfl⟩
      have hd := fe.1 hb.dig
      have a9 : d ≠ 0 := hb.2.1 rfl
      refine Ok.gd rfl ?_
      have e : gt [d] 0 = d := rfl
      rw [e]
      refine Ok.bd (mI ha.dig (by omega) (by omega) (by omega)) ?_
      rintro ⟨q, r⟩ ⟨N, m, Y⟩
      simp only at N m Y
      dsimp only
      rw [aG m.1 (by omega)]
      refine Ok.bd (kb M m.1 (by omega)) ?_
      rintro z ⟨z1, z2, z3⟩
      refine az.2 ⟨N, z1, ?_, ?_⟩
      · simp only [z2, fU]; exact m.2
      · simp only [z2, fU]; exact Y
    · have hl : b.length ≠ 1 := by simp at h; omega
      exact Ok.bd (EI M ha hb (by omega) la lb hle) fun r hr => az.2 hr
   refine Ok.bde ea (Ok.bde eb ?_)
   refine Ok.cd (fun h => ?_) (fun h => rest)
   refine Ok.cd (fun h' => ?_) (fun h' => rest)
   obtain ⟨a0, a3⟩ := a1 h
   obtain ⟨a4, a5⟩ := b1 h'
   have wa := mO ha.dig a0
   have wb := mO hb.dig a4
   rw [a3, a5]
   refine Ok.gd (by rw [decide_eq_false (by omega)]; rfl) ?_
   rw [(nW j).1, (nW j).2]
   have hm := Int.emod_add_mul_ediv (vl a) (vl b)
   have a6 := Int.emod_nonneg (vl a) (by omega : vl b ≠ 0)
   have a7 := Int.emod_lt_of_pos (vl a) O
   have J : 0 <= vl a / vl b := Int.ediv_nonneg j (by omega)
   have b0 : vl a / vl b <= vl a := Int.ediv_le_self _ j
   rw [aG J (by omega)]
   refine Ok.bd (kb M J (by omega)) ?_
   rintro q ⟨N, m, Y⟩
   refine Ok.bd (kb M a6 (by omega)) ?_
   rintro r ⟨r1, r2, r3⟩
   refine az.2 ⟨N, r1, ?_, ?_⟩
   · simp only [r2]; exact a7
   · simp only [m, r2]; rw [Int.mul_comm]; omega
theorem qb (x y : Nat) : Nat.gcd y (x % y) = Nat.gcd x y := by rw [Nat.gcd_comm x y, Nat.gcd_rec y x, Nat.gcd_comm]
theorem vL {n : Nat} {s : List Int} (h : s.length <= 900) : cc n s = some s := by
 unfold cc
 rw [decide_eq_true (by omega : (0 + s.length) * 4 <= 140737488355328), decide_eq_true (by omega : 0 + s.length <= 4611686018427387904)]; rfl
theorem xV {n : Nat} {x y : ah} {v w : Int} (hn : 20000 <= n) (hx : isI x.Negative x.Groups v) (j : isI y.Negative y.Groups w) (lx : x.Groups.length <= 250) (ly : y.Groups.length <= 250) : Ok (gV n x y) fun z => isI z.Negative z.Groups (gZ v w) := by
 unfold gV
 refine Ok.bde (mC (by omega) (by omega) hx) (Ok.bde (mC (by omega) (by omega) j) ?_)
 have ex : v.natAbs = (vl x.Groups).toNat := by have := gF hx; omega
 have ey : w.natAbs = (vl y.Groups).toNat := by have := gF j; omega
 have e0 : gZ v w = ((Nat.gcd (vl x.Groups).toNat (vl y.Groups).toNat : Nat) : Int) := by unfold gZ; rw [ex, ey]
 refine Ok.bd (R := fun o => match o with | .inl a => Can a /\ a.length <= 250 /\ vl a = gZ v w | .inr z => isI z.Negative z.Groups (gZ v w)) ?_ ?_
 · refine dc (fun p : List Int × List Int => Can p.1 /\ Can p.2 /\ p.1.length <= 250 /\ p.2.length <= 250 /\ ((Nat.gcd (vl p.1).toNat (vl p.2).toNat : Nat) : Int) = gZ v w) (fun p => gm (vl p.1).toNat (vl p.2).toNat) ?_ n _ ⟨hx.1, j.1, lx, ly, e0.symm⟩ ?_
   · rintro again ⟨a, b⟩ ⟨ha, hb, la, lb, J⟩ ih
     simp only at ha hb la lb J
     dsimp only
     have N := aY ha.dig
     refine Ok.cd (fun h => ?_) (fun h => ?_)
     · have C : b ≠ [] := by rintro rfl; simp at h
       have a9 := jh hb C
       obtain ⟨ra, ea, a1, a2⟩ := oY (n := n) ha.dig (by omega)
       obtain ⟨rb, eb, b1, b2⟩ := oY (n := n) hb.dig (by omega)
       have rest : Ok (bdO (gk n a b) fun O => again (b, O.2)) fun o => match o with | .inl a => Can a /\ a.length <= 250 /\ vl a = gZ v w | .inr z => isI z.Negative z.Groups (gZ v w) := by
        refine Ok.bd (By (by omega) ha hb C (by omega) (by omega)) ?_
        rintro ⟨q, r⟩ ⟨q1, r1, r2, r3⟩
        simp only at q1 r1 r2 r3
        have T := aY r1.dig
        have er : vl r = vl a % vl b := by
         have h1 : (vl q * vl b + vl r) % vl b = vl r % vl b := by rw [Int.add_comm, Int.add_mul_emod_self_right]
         rw [<- r3, h1, Int.emod_eq_of_lt T r2]
        have I : (vl r).toNat = (vl a).toNat % (vl b).toNat := by
         rw [er, Int.toNat_emod N (by omega)]
        have U : r.length <= 250 := by
         by_cases hl : r.length <= 250
         · exact hl
         · have := cm hb.dig r1 (by omega); omega
        exact ih _ ⟨hb, r1, lb, U, by simp only; rw [I, qb]; exact J⟩ (by simp only; rw [I]; exact vc (by omega))
       refine Ok.bde ea (Ok.bde eb ?_)
       refine Ok.cd (fun h1 => ?_) (fun h1 => rest)
       refine Ok.cd (fun h2 => ?_) (fun h2 => rest)
       obtain ⟨Y, a0⟩ := a1 h1
       obtain ⟨a3, a4⟩ := b1 h2
       have wa := mO ha.dig Y
       have wb := mO hb.dig a3
       rw [a0, a4]
       refine Ok.bd (R := fun m => m = gZ v w /\ m < 1000000000000000000) ?_ ?_
       · refine dc (fun p : Int × Int => 0 <= p.1 /\ p.1 < 1000000000000000000 /\ 0 <= p.2 /\ p.2 < 1000000000000000000 /\ ((Nat.gcd p.1.toNat p.2.toNat : Nat) : Int) = gZ v w) (fun p => gm p.1.toNat p.2.toNat) ?_ n _ ⟨wa.2.1, wa.2.2, wb.2.1, wb.2.2, J⟩ ?_
         · rintro M ⟨c, d⟩ ⟨c1, c2, d1, d2, D⟩ a5
           simp only at c1 c2 d1 d2 D
           dsimp only
           refine Ok.cd (fun h => ?_) (fun h => ?_)
           · have hd := dcT h
             refine Ok.gd (by rw [decide_eq_false (by omega)]; rfl) ?_
             rw [(nW c1).2]
             have a6 := Int.emod_nonneg c (by omega : d ≠ 0)
             have a7 := Int.emod_lt_of_pos c (by omega : 0 < d)
             have em : (c % d).toNat = c.toNat % d.toNat := Int.toNat_emod c1 d1
             exact a5 _ ⟨d1, d2, a6, by simp only; omega, by simp only; rw [em, qb]; exact D⟩ (by simp only; rw [em]; exact vc (by omega))
           · have hd := dcF h
             have : d = 0 := by omega
             subst this
             refine az.2 ⟨?_, c2⟩
             rw [<- D]
             simp [Nat.gcd_zero_right]; omega
         · have : gm (vl a).toNat (vl b).toNat <= 120 + 3 := tg (by
            have h1 : (vl a).toNat < 2 ^ 60 := by omega
            have h2 : (vl b).toNat < 2 ^ 60 := by omega
            have E : (vl a).toNat * (vl b).toNat < 2 ^ 60 * 2 ^ 60 := Nat.mul_lt_mul'' h1 h2
            rw [<- Nat.pow_add] at E; exact E)
           simp only; omega
       · rintro m ⟨hm, a7⟩
         have a8 : 0 <= m := by rw [hm]; exact Int.natCast_nonneg _
         refine Ok.bd (kb (by omega) a8 (by omega)) ?_
         rintro z ⟨z1, z2, z3⟩
         refine Ok.bd (dK (by omega) false z1.dig (by omega)) fun y j => az.2 ?_
         rw [z2, hm] at j
         exact j
     · have C : b = [] := by
        cases b with
        | nil => rfl
        | cons => exact absurd (dcF h) (by simp)
       subst C
       refine az.2 ⟨ha, la, ?_⟩
       rw [<- J]
       show vl a = ((Nat.gcd (vl a).toNat 0 : Nat) : Int)
       rw [Nat.gcd_zero_right]; omega
   · obtain ⟨K, hK⟩ : ∃ K : Nat, K = 250 := ⟨_, rfl⟩
     have h1 := xQ hx.1.dig (k := K) (by omega); have h2 := xQ j.1.dig (k := K) (by omega)
     have E := Nat.mul_lt_mul'' h1 h2
     rw [<- Nat.pow_add] at E
     have := tg E
     simp only; omega
 · rintro (a | z) h
   · obtain ⟨h1, h2, E⟩ := h
     refine Ok.bde (vL (by omega)) ?_
     refine Ok.bd (dK (by omega) false h1.dig (by omega)) fun y j => az.2 ?_
     rw [E] at j; exact j
   · exact az.2 h
end Go.L


set_option linter.all false
namespace Go.L
open Go Go.Eng
theorem tU {n : Nat} {x : ah} {v : Int} (m : 1000 <= n) (j : x.Groups.length <= 900) (h : isI x.Negative x.Groups v) : Ok (dU n x) fun z => isI z.Negative z.Groups (-v) := by
 unfold dU
 refine Ok.bde (mC m j h) (Ok.bde (vL j) ?_)
 refine Ok.bd (dK m _ h.1.dig j) fun z q => az.2 ?_
 have : -v = if (!x.Negative) = true then -vl x.Groups else vl x.Groups := by rw [h.2.2]; cases x.Negative <;> simp
 rw [this]; exact q
theorem CP {n : Nat} {x y : ah} {v w : Int} (m : 1000 <= n) (hx : isI x.Negative x.Groups v) (D : isI y.Negative y.Groups w) (hw : w ≠ 0) (lx : x.Groups.length <= 300) (ly : y.Groups.length <= 300) :
  Ok (dd n x y) fun z => ∃ q r, isI z.1.Negative z.1.Groups q /\ isI z.2.1.Negative z.2.1.Groups r /\ v = q * w + r /\ ((0 <= r /\ r < w) \/ (w < r /\ r <= 0)) /\ z.2.2 = 0 := by
 unfold dd
 refine Ok.bde (mC m (by omega) hx) (Ok.bde (mC m (by omega) D) ?_)
 have I : y.Groups ≠ [] := by
  intro h
  have := D.2.2
  rw [h] at this
  have e : vl ([] : List Int) = 0 := rfl
  rw [e] at this
  apply hw; rw [this]; split <;> rfl
 refine Ok.cd (fun h => absurd h (by simp [I])) (fun h => ?_)
 refine Ok.bd (By m hx.1 D.1 I lx ly) ?_
 rintro ⟨c, d⟩ ⟨J, d1, d2, d3⟩
 simp only at J d1 d2 d3
 dsimp only
 have hyp := jh D.1 I
 have cp := aY J.dig; have dp := aY d1.dig; have xp := aY hx.1.dig
 have ld : d.length <= 300 := by
  by_cases M : d.length <= 300
  · exact M
  · have := cm D.1.dig d1 (by omega); omega
 have lc : c.length <= 300 := by
  by_cases M : c.length <= 300
  · exact M
  · have := cm hx.1.dig J (by omega)
    have : vl c * 1 <= vl c * vl y.Groups := mlT (by omega) cp
    omega
 refine Ok.bde (vL (by omega)) ?_
 have U := hx.2.2; have O := D.2.2
 refine Ok.cd (fun h => ?_) (fun h => ?_)
 · have N : d ≠ [] := by rintro rfl; simp at h
   have a2 := jh d1 N
   refine Ok.cd (fun h => ?_) (fun h => ?_)
   · refine Ok.bd (yE m J.dig (fe.2 (by omega)) (by omega) (by simp)) ?_
     rintro c2 ⟨e1, e2⟩
     rw [fU] at e2
     have Y : d.length <= y.Groups.length := by
      by_cases M : d.length <= y.Groups.length
      · exact M
      · have := cm D.1.dig d1 (by omega); omega
     refine Ok.bd (oz m D.1.dig d1.dig (by omega) Y (by omega)) ?_
     rintro d4 ⟨f1, f2⟩
     have a0 : c2.length <= 900 := by
      by_cases M : c2.length <= 301
      · omega
      · have h1 := cm (jz.2 ⟨J.dig, fe.2 (by omega : (0 : Int) <= 1 /\ (1 : Int) < 1000000000)⟩) e1 (by simp; omega)
        rw [ka, fU] at h1
        have := gy c.length
        omega
     have a1 : d4.length <= 900 := by
      by_cases M : d4.length <= 300
      · omega
      · have := cm D.1.dig f1 (by omega); omega
     refine Ok.bd (dK m true e1.dig a0) fun z T => Ok.bd (dK m y.Negative f1.dig a1) fun z' C => az.2 ⟨_, _, T, C, ?_, ?_, rfl⟩
     · rw [U, O, e2, f2, <- d3]
       cases E : x.Negative <;> cases j : y.Negative <;> simp [E, j] at h ⊢ <;> grind
     · rw [O, f2]
       cases j : y.Negative <;> simp <;> omega
   · refine Ok.bd (dK m false J.dig (by omega)) fun z T => Ok.bd (dK m y.Negative d1.dig (by omega)) fun z' C => az.2 ⟨_, _, T, C, ?_, ?_, rfl⟩
     · rw [U, O, <- d3]
       cases E : x.Negative <;> cases j : y.Negative <;> simp [E, j] at h ⊢ <;> grind
     · rw [O]
       cases j : y.Negative <;> simp <;> omega
 · have N : d = [] := by
    cases d with
    | nil => rfl
    | cons => exact absurd (dcF h) (by simp)
   subst N
   have e0 : vl ([] : List Int) = 0 := rfl
   refine Ok.bd (dK m _ J.dig (by omega)) fun z T => Ok.bd (dK m y.Negative mj (by simp)) fun z' C => az.2 ⟨_, _, T, C, ?_, ?_, rfl⟩
   · rw [U, O, <- d3]
     rw [e0]
     cases E : x.Negative <;> cases j : y.Negative <;> simp <;> grind
   · rw [O]
     rw [e0]
     cases j : y.Negative <;> simp <;> omega
theorem iU {n : Nat} {x y : ah} {k w : Int} (m : 1000 <= n) (hx : isI x.Negative x.Groups (k * w)) (C : isI y.Negative y.Groups w) (hw : w ≠ 0) (D : x.Groups.length <= 300) (E : y.Groups.length <= 300) : Ok (dd n x y) fun z => isI z.1.Negative z.1.Groups k := by
 refine (CP m hx C hw D E).mono ?_
 rintro z ⟨q, r, h1, h2, I, J, M⟩
 have e : (k - q) * w = r := by grind
 have : k - q = 0 := by
  by_cases h : k - q = 0
  · exact h
  · exfalso
    by_cases hp : 0 < w
    · by_cases j : 1 <= k - q
      · have : 1 * w <= (k - q) * w := mrT j (by omega)
        omega
      · have : (k - q) * w <= (-1) * w := mrT (by omega) (by omega)
        omega
    · by_cases j : 1 <= k - q
      · have : 1 * (-w) <= (k - q) * (-w) := mrT j (by omega)
        have e2 : (k - q) * (-w) = -r := by rw [Int.mul_neg, e]
        omega
      · have : (k - q) * (-w) <= (-1) * (-w) := mrT (by omega) (by omega)
        have e2 : (k - q) * (-w) = -r := by rw [Int.mul_neg, e]
        omega
 rw [(by omega : k = q)]; exact h1
end Go.L


set_option linter.all false
namespace Go.L
open Go Go.Eng
def Qx (x : ai) (r : Rat) (k : Nat) : Prop := QL x.Num.Negative x.Num.Groups x.Den.Negative x.Den.Groups r k
theorem BI {n : Nat} {x y : ah} {p q : Int} {k : Nat} (O : 20000 <= n) (Y : k <= 250) (hx : isI x.Negative x.Groups p) (C : isI y.Negative y.Groups q) (T : x.Groups.length <= k) (U : y.Groups.length <= k) (I : 0 < q) :
  Ok (bdO (gV n x y) fun m => bdO (dd n x m) fun D => bdO (dd n y m) fun E => some (ai.mk D.1 E.1)) fun z => Qx z (Rat.divInt p q) k := by
 have J := AW (v := p) (by omega : q ≠ 0)
 refine Ok.bd (xV O hx C (by omega) (by omega)) fun g j => ?_
 have bq := iH C U
 have bp := iH hx T
 have M := qf p q
 have N := pD p q
 have ap := jQ p _ J M
 have aq := jQ q _ J N
 have lg : g.Groups.length <= k := gG j (by omega) (by
  have : 1 * gZ p q <= (q / gZ p q) * gZ p q := mrT (by
   by_cases h : 1 <= q / gZ p q
   · exact h
   · have : (q / gZ p q) * gZ p q <= 0 * gZ p q := mrT (by omega) (by omega)
     omega) (by omega)
  omega)
 refine Ok.bd (iU (k := p / gZ p q) (by omega) (by rw [<- M]; exact hx) j (by omega) (by omega) (by omega)) fun a ha => ?_
 refine Ok.bd (iU (k := q / gZ p q) (by omega) (by rw [<- N]; exact C) j (by omega) (by omega) (by omega)) fun b hb => az.2 ?_
 exact ⟨by rw [nj I]; exact ha, by rw [mW I]; exact hb, gG ha (by omega) (by omega), gG hb (by omega) (by omega)⟩
theorem sq {p q : Bool} {g h : List Int} {v : Int} (a : isI p g v) (b : isI q h (-v)) {k : Nat} (j : g.length <= k) : h.length <= k := by
 have := iH a j
 exact gG b (by omega) (by omega)
theorem pj {n : Nat} {x y : ah} {p q : Int} {k : Nat} (D : 20000 <= n) (E : k <= 250) (hx : isI x.Negative x.Groups p) (C : isI y.Negative y.Groups q) (I : x.Groups.length <= k) (J : y.Groups.length <= k) (M : q ≠ 0) :
  Ok (dS n x y) fun z => Qx z (Rat.divInt p q) k := by
 unfold dS
 refine Ok.bde (pd (by omega) (by omega) C) ?_
 have hs := fB q
 refine Ok.cd (fun h => ?_) (fun h => ?_)
 · have := dcT h
   refine Ok.bd (tU (by omega) (by omega) hx) fun N j => Ok.bd (tU (by omega) (by omega) C) fun O m => ?_
   rw [<- r8]
   exact BI D E j m (sq hx j I) (sq C m J) (by omega)
 · have := dcF h
   exact BI D E hx C I J (by omega)
theorem EW {n : Nat} {x y : ah} {p q : Int} {k : Nat} (m : 20000 <= n) (C : k <= 250) (hx : isI x.Negative x.Groups p) (j : isI y.Negative y.Groups q) (D : x.Groups.length <= k) (E : y.Groups.length <= k) (I : q ≠ 0) :
  Ok (jT n x y) fun z => Qx z.1 (Rat.divInt p q) k /\ z.2 = 0 := by
 unfold jT eK
 refine Ok.bde (b := x) (by rw [mY (by omega) (by omega) hx]; rfl) (Ok.bde (b := y) (by rw [mY (by omega) (by omega) j]; rfl) ?_)
 refine Ok.bde (pd (by omega) (by omega) j) ?_
 have hs := fB q
 refine Ok.cd (fun h => ?_) (fun h => ?_)
 · have : sgn q = 0 := by simpa using h
   omega
 · exact Ok.bd (pj m C hx j D E I) fun z J => az.2 ⟨J, rfl⟩
theorem GK {n : Nat} {p q : Int} (D : 20000 <= n) (m : -9223372036854775808 <= p) (C : p <= 9223372036854775807) (h1 : -9223372036854775808 <= q) (j : q <= 9223372036854775807) (E : q ≠ 0) : Ok (jL n p q) fun z => Qx z.1 (Rat.divInt p q) 3 /\ z.2 = 0 := by
 unfold jL
 refine Ok.bd (Bz (by omega) m C) fun a ha => Ok.bd (Bz (by omega) h1 j) fun b hb => ?_
 exact Ok.bd (EW D (k := 3) (by omega) ha hb (kE ha m C) (kE hb h1 j) E) fun z I => az.2 I
end Go.L

