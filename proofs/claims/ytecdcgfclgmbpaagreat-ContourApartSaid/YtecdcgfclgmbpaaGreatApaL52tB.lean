import Derived.Test.YtecdcgfclgmbpaaGreatApaL01v
import Derived.Test.YtecdcgfclgmbpaaGreatApaL02pB
import Derived.Test.YtecdcgfclgmbpaaGreatPl6Apas
import Derived.Test.YtecdcgfclgmbpaaGreatApaL01q
set_option linter.all false
namespace Go.L.R
open Go Go.Eng Go.L
theorem zn {n : Nat} {a b : List Int} (j : 1000 <= n) (ha : Can a) (hb : Can b) (D : b ≠ []) (la : a.length <= 300) (lb : b.length <= 300) : Ok (cW n a b) fun r => Can r.1 /\ Can r.2 /\ vl r.2 < vl b /\ vl r.1 * vl b + vl r.2 = vl a := by
 unfold cW
 have a3 := jh hb D
 have O := aY ha.dig
 have a2 : 0 < b.length := List.length_pos_iff.2 D
 refine Ok.cd (fun h => ?_) (fun h => ?_)
 · have T : b.length = 1 := by simp at h; omega
   obtain ⟨d, rfl⟩ : ∃ d, b = [d] := by
    match b, T with
    | [d], _ => exact ⟨d, rfl⟩
   have hd := fe.1 hb.dig
   have a4 : d ≠ 0 := hb.2.1 rfl
   refine Ok.gd rfl ?_
   have e : gt [d] 0 = d := rfl
   rw [e, aG hd.1 (by omega)]
   refine Ok.bd (mI j ha.dig (by omega) (by omega) (by omega)) ?_
   rintro ⟨q, r⟩ ⟨E, I, J⟩
   simp only at E I J
   dsimp only
   rw [ba I.1 (by omega)]
   refine Ok.bd (xB j (fe.2 (by omega)) (by simp)) ?_
   rintro z ⟨z1, M⟩
   rw [fU] at M
   refine az.2 ⟨E, z1, ?_, ?_⟩
   · simp only [M, fU]; exact I.2
   · simp only [M, fU]; exact J
 · have T : 2 <= b.length := by simp at h; omega
   refine Ok.bde (yc j ha hb (by omega) (by omega)) ?_
   have hs := fB (vl a - vl b)
   refine Ok.cd (fun h => ?_) (fun h => ?_)
   · have U : vl a < vl b := by have := dcT h; omega
     exact az.2 ⟨trivial, ha, U, by show 0 * vl b + vl a = vl a; omega⟩
   · have hle : vl b <= vl a := by have := dcF h; omega
     rw [ku (k := b.length) (by omega) (by omega), dy]
     have dt := cu hb.dig (b.length - 1)
     obtain ⟨t1, t2, t3, t4⟩ := sx hb (by omega)
     rw [aG (n := b.getD (b.length - 1) 0) (by omega) (by omega), aG (n := b.getD (b.length - 1) 0 + 1) (by omega) (by omega), (nW (by omega : (0 : Int) <= 1000000000)).1]
     obtain ⟨s, C⟩ : ∃ s, (1000000000 : Int) / (b.getD (b.length - 1) 0 + 1) = s := ⟨_, rfl⟩
     obtain ⟨s1, s2, s3, s4⟩ := qx t1 t2 C.symm
     rw [C, aG (n := s) (by omega) (by omega)]
     refine Ok.gd (by rw [bg]; simp; omega) (Ok.gd (by rw [decide_eq_false (by omega)]; rfl) ?_)
     refine Ok.bd (tu j ha.dig (by omega) (by omega) (by omega)) ?_
     rintro A ⟨N, A2⟩
     refine Ok.bd (tu j hb.dig (by omega) (by omega) (by omega)) ?_
     rintro v ⟨v1, v2⟩
     obtain ⟨lv, Y, _, _⟩ := AL hb (by omega) C.symm v1 v2
     have lA : A.length <= a.length + 1 := lk N (by
      have h1 := gP ha.dig
      rw [A2, cy]
      have : vl a * s <= vl a * 1000000000 := mlT (by omega) O
      omega)
     have a5 : v.length <= A.length := by
      by_cases h : v.length <= A.length
      · exact h
      · have := cm N.dig v1 (by omega)
        have : vl b * s <= vl a * s := mrT hle (by omega)
        omega
     have a0 : IE ((A.length : Int) - (b.length : Int)) = ((A.length - b.length : Nat) : Int) := by rw [wrap64_in (by omega) (by omega)]; omega
     rw [a0, iQ (by omega)]
     obtain ⟨m, hm⟩ : ∃ m, A.length - b.length + 1 = m := ⟨_, rfl⟩
     rw [hm, Int.toNat_natCast, Int.toNat_natCast]
     have et : (A.drop m).take (A.length - m) = A.drop m := by rw [List.take_of_length_le]; rw [List.length_drop]; omega
     rw [et]
     refine Ok.gd (sA.2 (by omega)) ?_
     refine Ok.bd (xB j (gQ N.dig m) (by rw [List.length_drop]; omega)) ?_
     rintro r0 ⟨r1, r2⟩
     refine Ok.gd (by simp) (Ok.gd (by simp; omega) (Ok.gd (by simp; omega) ?_))
     have a1 : vl r0.Groups < vl v := by
      have h1 := gP (gQ N.dig m)
      rw [List.length_drop, (by omega : A.length - m = v.length - 1)] at h1
      obtain ⟨c1, c2, c3, c4⟩ := sx v1 (by omega)
      have hp := gy (v.length - 1)
      have : pB (v.length - 1) * 1 <= pB (v.length - 1) * v.getD (v.length - 1) 0 := mlT c1 (by omega)
      omega
     refine Ok.bd (DH j v1 lv.symm Y (by omega) (by omega) N.dig (m := m) (by omega) (by omega) r1 a1 r2 (by omega)) ?_
     rintro ⟨w, q⟩ ⟨w1, w2, E, I, J⟩
     simp only at w1 w2 E I J
     dsimp only
     have lw : w.length <= 900 := by
      by_cases T : w.length <= v.length
      · omega
      · have := cm v1.dig w1 (by omega); omega
     refine Ok.bd (mI j w1.dig lw (by omega) (by omega)) ?_
     rintro ⟨y, c⟩ ⟨y1, y2, y3⟩
     simp only at y1 y2 y3
     refine Ok.bd (xB j E (by omega)) ?_
     rintro z ⟨z1, M⟩
     obtain ⟨f1, f2⟩ := Fi (a := vl a) (b := vl b) (q := vl q) s2 y2 y3 (by rw [<- v2]; exact w2) (by rw [<- v2, <- A2, J])
     refine az.2 ⟨z1, y1, f1, ?_⟩
     simp only
     rw [M]; exact f2
theorem Bj {n : Nat} {g : List Int} (h : Dig g) (C : g.length <= 2) : dj n g = some (vl g) /\ 0 <= vl g /\ vl g < 1000000000000000000 := by
 unfold dj
 have e1 : aX n g 1 = some (g.getD 1 0) := lG (k := 1) h
 have e0 : aX n g 0 = some (g.getD 0 0) := lG (k := 0) h
 rw [e1, e0]
 have d0 := cu h 0; have d1 := cu h 1
 have m : vl g = g.getD 0 0 + 1000000000 * g.getD 1 0 := by
  have q : vl (g.drop 0) = g.getD 0 0 + 1000000000 * vl (g.drop 1) := gj g 0
  have j := gj g 1
  rw [List.drop_of_length_le (by omega : g.length <= 1 + 1)] at j
  have z : vl ([] : List Int) = 0 := rfl
  rw [List.drop_zero] at q
  have j : vl (g.drop 1) = g.getD 1 0 + 1000000000 * vl [] := j
  omega
 show some _ = _ /\ _
 rw [aG (n := g.getD 1 0 * 1000000000) (by omega) (by omega), aG (n := g.getD 1 0 * 1000000000 + g.getD 0 0) (by omega) (by omega), m]
 exact ⟨congrArg some (by omega), by omega, by omega⟩
theorem qb (x y : Nat) : Nat.gcd y (x % y) = Nat.gcd x y := by rw [Nat.gcd_comm x y, Nat.gcd_rec y x, Nat.gcd_comm]
theorem xV {n : Nat} {x y : ah} {v w : Int} (hn : 20000 <= n) (hx : isI x.Negative x.Groups v) (C : isI y.Negative y.Groups w) (lx : x.Groups.length <= 250) (ly : y.Groups.length <= 250) : Ok (eX n x y) fun z => isI z.Negative z.Groups (gZ v w) := by
 unfold eX
 refine Ok.bde (jv (by omega) (by omega) hx) (Ok.bde (jv (by omega) (by omega) C) ?_)
 have ex : v.natAbs = (vl x.Groups).toNat := by have := gF hx; omega
 have ey : w.natAbs = (vl y.Groups).toNat := by have := gF C; omega
 have e0 : gZ v w = ((Nat.gcd (vl x.Groups).toNat (vl y.Groups).toNat : Nat) : Int) := by unfold gZ; rw [ex, ey]
 refine Ok.bd (R := fun o => Can o.1 /\ Can o.2 /\ o.1.length <= 250 /\ o.2.length <= 250 /\ ((Nat.gcd (vl o.1).toNat (vl o.2).toNat : Nat) : Int) = gZ v w /\ (o.2 ≠ [] -> o.1.length <= 2 /\ o.2.length <= 2)) ?_ ?_
 · refine dc (fun p : List Int × List Int => Can p.1 /\ Can p.2 /\ p.1.length <= 250 /\ p.2.length <= 250 /\ ((Nat.gcd (vl p.1).toNat (vl p.2).toNat : Nat) : Int) = gZ v w) (fun p => gm (vl p.1).toNat (vl p.2).toNat) ?_ n _ ⟨hx.1, C.1, lx, ly, e0.symm⟩ ?_
   · rintro again ⟨a, b⟩ ⟨ha, hb, I, lb, D⟩ ih
     simp only at ha hb I lb D
     dsimp only
     have J := aY ha.dig
     refine Ok.cd (fun h => ?_) (fun h => ?_)
     · have j : b ≠ [] := by rintro rfl; simp at h
       have a6 := jh hb j
       have rest : Ok (bdO (cW n a b) fun U => again (b, U.2)) fun o => Can o.1 /\ Can o.2 /\ o.1.length <= 250 /\ o.2.length <= 250 /\ ((Nat.gcd (vl o.1).toNat (vl o.2).toNat : Nat) : Int) = gZ v w /\ (o.2 ≠ [] -> o.1.length <= 2 /\ o.2.length <= 2) := by
        refine Ok.bd (zn (by omega) ha hb j (by omega) (by omega)) ?_
        rintro ⟨q, r⟩ ⟨q1, r1, r2, r3⟩
        simp only at q1 r1 r2 r3
        have Y := aY r1.dig
        have er : vl r = vl a % vl b := by
         have h1 : (vl q * vl b + vl r) % vl b = vl r % vl b := by rw [Int.add_comm, Int.add_mul_emod_self_right]
         rw [<- r3, h1, Int.emod_eq_of_lt Y r2]
        have M : (vl r).toNat = (vl a).toNat % (vl b).toNat := by
         rw [er, Int.toNat_emod J (by omega)]
        have a0 : r.length <= 250 := by
         by_cases hl : r.length <= 250
         · exact hl
         · have := cm hb.dig r1 (by omega); omega
        exact ih _ ⟨hb, r1, lb, a0, by simp only; rw [M, qb]; exact D⟩ (by simp only; rw [M]; exact vc (by omega))
       refine Ok.cd (fun h1 => rest) (fun h1 => Ok.cd (fun h2 => rest) (fun h2 => ?_))
       have := dcF h1; have := dcF h2
       exact az.2 ⟨ha, hb, I, lb, D, fun _ => ⟨(show a.length <= 2 by omega), (show b.length <= 2 by omega)⟩⟩
     · have j : b = [] := by
        cases b with
        | nil => rfl
        | cons => exact absurd (dcF h) (by simp)
       exact az.2 ⟨ha, hb, I, lb, D, fun h => absurd j h⟩
   · obtain ⟨K, hK⟩ : ∃ K : Nat, K = 250 := ⟨_, rfl⟩
     have h1 := xQ hx.1.dig (k := K) (by omega); have h2 := xQ C.1.dig (k := K) (by omega)
     have N := Nat.mul_lt_mul'' h1 h2
     rw [<- Nat.pow_add] at N
     have := tg N
     simp only; omega
 · rintro ⟨a, b⟩ ⟨ha, hb, I, lb, D, hs⟩
   simp only at ha hb I lb D hs
   dsimp only
   have J := aY ha.dig
   refine Ok.cd (fun h => ?_) (fun h => ?_)
   · have j : b = [] := by simpa using h
     subst j
     refine Ok.bd (dK (by omega) false ha.dig (by omega)) fun y C => az.2 ?_
     have e : vl a = gZ v w := by
      rw [<- D]
      show vl a = ((Nat.gcd (vl a).toNat 0 : Nat) : Int)
      rw [Nat.gcd_zero_right]; omega
     rw [e] at C; exact C
   · have j : b ≠ [] := by rintro rfl; simp at h
     obtain ⟨a1, a2⟩ := hs j
     have wa := Bj (n := n) ha.dig a1
     have wb := Bj (n := n) hb.dig a2
     refine Ok.bde wa.1 (Ok.bde wb.1 ?_)
     refine Ok.bd (R := fun m => m = gZ v w /\ m < 1000000000000000000) ?_ ?_
     · refine dc (fun p : Int × Int => 0 <= p.1 /\ p.1 < 1000000000000000000 /\ 0 <= p.2 /\ p.2 < 1000000000000000000 /\ ((Nat.gcd p.1.toNat p.2.toNat : Nat) : Int) = gZ v w) (fun p => gm p.1.toNat p.2.toNat) ?_ n _ ⟨wa.2.1, wa.2.2, wb.2.1, wb.2.2, D⟩ ?_
       · rintro T ⟨c, d⟩ ⟨c1, c2, d1, d2, E⟩ a3
         simp only at c1 c2 d1 d2 E
         dsimp only
         refine Ok.cd (fun h => ?_) (fun h => ?_)
         · have hd := dcT h
           refine Ok.gd (by rw [decide_eq_false (by omega)]; rfl) ?_
           rw [(nW c1).2]
           have a4 := Int.emod_nonneg c (by omega : d ≠ 0)
           have a5 := Int.emod_lt_of_pos c (by omega : 0 < d)
           have em : (c % d).toNat = c.toNat % d.toNat := Int.toNat_emod c1 d1
           exact a3 _ ⟨d1, d2, a4, by simp only; omega, by simp only; rw [em, qb]; exact E⟩ (by simp only; rw [em]; exact vc (by omega))
         · have hd := dcF h
           have : d = 0 := by omega
           subst this
           refine az.2 ⟨?_, c2⟩
           rw [<- E]
           simp [Nat.gcd_zero_right]; omega
       · have : gm (vl a).toNat (vl b).toNat <= 120 + 3 := tg (by
          have h1 : (vl a).toNat < 2 ^ 60 := by omega
          have h2 : (vl b).toNat < 2 ^ 60 := by omega
          have N : (vl a).toNat * (vl b).toNat < 2 ^ 60 * 2 ^ 60 := Nat.mul_lt_mul'' h1 h2
          rw [<- Nat.pow_add] at N; exact N)
         simp only; omega
     · rintro m ⟨hm, a5⟩
       have O : 0 <= m := by rw [hm]; exact Int.natCast_nonneg _
       rw [(nW O).1, (nW O).2, aG (n := m / 1000000000) (by omega) (by omega), ba (n := m / 1000000000) (by omega) (by omega), ba (n := m % 1000000000) (by omega) (by omega)]
       refine Ok.bd (dK (by omega) false (gJ.2 ⟨by omega, fe.2 (by omega)⟩) (by simp)) fun y C => az.2 ?_
       have e : vl [m % 1000000000, m / 1000000000] = m := by
        show m % 1000000000 + 1000000000 * vl [m / 1000000000] = m
        rw [fU]; omega
       simp only [Bool.false_eq_true, if_false] at C
       rw [e, hm] at C
       exact C
theorem Ax {n : Nat} {x y : ah} {v w : Int} (j : 1000 <= n) (hx : isI x.Negative x.Groups v) (m : isI y.Negative y.Groups w) (q : x.Groups.length <= 400) (C : y.Groups.length <= 400) : eE n x y = some (sgn (v - w)) := by
 apply Ok.eq
 unfold eE
 refine Ok.bd (El j hx m q C) fun z D => ?_
 have := zD hx m D q C
 exact Ok.bde (pd j (by omega) D) (az.2 rfl)
theorem iU {n : Nat} {x y : ah} {k w : Int} (I : 1000 <= n) (hx : isI x.Negative x.Groups (k * w)) (C : isI y.Negative y.Groups w) (hw : w ≠ 0) (lx : x.Groups.length <= 250) (ly : y.Groups.length <= 250) : Ok (cM n x y) fun z => isI z.1.Negative z.1.Groups k := by
 unfold cM
 refine Ok.bde (jv I (by omega) hx) (Ok.bde (jv I (by omega) C) ?_)
 have D : y.Groups ≠ [] := by
  intro h
  have := C.2.2
  rw [h] at this
  have e : vl ([] : List Int) = 0 := rfl
  rw [e] at this
  apply hw; rw [this]; split <;> rfl
 refine Ok.cd (fun h => absurd h (by simp [D])) (fun h => ?_)
 refine Ok.bd (zn I hx.1 C.1 D (by omega) (by omega)) ?_
 rintro ⟨c, d⟩ ⟨J, d1, d2, d3⟩
 simp only at J d1 d2 d3
 dsimp only
 have hyp := jh C.1 D
 have cp := aY J.dig; have dp := aY d1.dig
 have ax := gF hx; have ay := gF C
 have em : vl x.Groups = (k.natAbs : Int) * vl y.Groups := by rw [ax, ay, Int.natAbs_mul]; push_cast; rfl
 have Y : vl c = (k.natAbs : Int) /\ vl d = 0 := by
  have e : ((k.natAbs : Int) - vl c) * vl y.Groups = vl d := by rw [Int.sub_mul]; omega
  have h0 : (k.natAbs : Int) - vl c = 0 := by
   by_cases h1 : (k.natAbs : Int) - vl c = 0
   · exact h1
   · exfalso
     by_cases h2 : 1 <= (k.natAbs : Int) - vl c
     · have : 1 * vl y.Groups <= ((k.natAbs : Int) - vl c) * vl y.Groups := mrT h2 (by omega)
       omega
     · have : ((k.natAbs : Int) - vl c) * vl y.Groups <= (-1) * vl y.Groups := mrT (by omega) (by omega)
       omega
  rw [h0] at e
  omega
 have lc : c.length <= 250 := by
  by_cases hl : c.length <= 250
  · exact hl
  · have := cm hx.1.dig J (by omega)
    have : vl c * 1 <= vl c * vl y.Groups := mlT (by omega) cp
    omega
 have M : d = [] := qp d1 Y.2
 subst M
 refine Ok.bd (dK I _ J.dig (by omega)) fun z hz => ?_
 have j : isI z.Negative z.Groups k := by
  have nx := hx.2.2; have ny := C.2.2
  have : k = (if (x.Negative != y.Negative) = true then -vl c else vl c) := by
   rw [Y.1]
   have q : k = 0 \/ 0 < k \/ k < 0 := by omega
   cases E : x.Negative <;> cases N : y.Negative <;> rw [E] at nx <;> rw [N] at ny <;> simp only [Bool.false_eq_true, if_false, if_true] at nx ny <;> simp <;> rcases q with q | q | q <;> try omega
   all_goals exfalso
   all_goals
    first
    | (have O := Int.mul_neg_of_neg_of_pos q (by omega : 0 < w); have := aY hx.1.dig; omega)
    | (have O := Int.mul_pos q (by omega : 0 < w); have T := jh hx.1 (hx.2.1 E); omega)
    | (have O := Int.mul_neg_of_pos_of_neg q (by omega : w < 0); have := aY hx.1.dig; omega)
    | (have O := Int.mul_pos_of_neg_of_neg q (by omega : w < 0); have T := jh hx.1 (hx.2.1 E); omega)
  rw [this]; exact hz
 have a0 := gP J.dig
 have a1 := ia lc
 have lz := gG j (k := 250) (by omega) (by omega)
 have tail : ∀ {β : Type} (f : ah -> ah -> Option β) {Q : β -> Prop}, (∀ m d, Ok (f m d) Q) -> Ok (bdO (br n z y) fun v20 => bdO (cG n x v20) fun U => f v20 U) Q := by
  intro β f Q hf
  refine Ok.bd (tm I j C (by omega) (by omega)) fun p hp => ?_
  have lp : p.Groups.length <= 250 := by rw [(E0 hp hx).2]; exact lx
  exact Ok.bd (El I hx hp (by omega) (by omega)) fun d _ => hf p d
 refine Ok.cd (fun h => ?_) (fun h => ?_)
 · refine Ok.cd (fun h => absurd (dcT h) (by simp)) (fun h => ?_)
   exact tail (fun m d => some ((z, d, 0))) fun m d => az.2 j
 · exact tail (fun m d => some ((z, d, 0))) fun m d => az.2 j
end Go.L.R


set_option linter.all false
namespace Go.L.R
open Go Go.Eng Go.L
def Qx (x : ai) (r : Rat) (k : Nat) : Prop := QL x.Num.Negative x.Num.Groups x.Den.Negative x.Den.Groups r k
theorem sq {p q : Bool} {g h : List Int} {v : Int} (a : isI p g v) (b : isI q h (-v)) {k : Nat} (j : g.length <= k) : h.length <= k := by
 have := iH a j
 exact gG b (by omega) (by omega)
theorem pj {n : Nat} {x y : ah} {p q : Int} {k : Nat} (T : 20000 <= n) (hk : k <= 250) (hx : isI x.Negative x.Groups p) (E : isI y.Negative y.Groups q) (U : x.Groups.length <= k) (Y : y.Groups.length <= k) (J : q ≠ 0) :
  Ok (cX n x y) fun z => Qx z (Rat.divInt p q) k := by
 unfold cX
 have M := AW (v := p) J
 refine Ok.bd (xV T hx E (by omega) (by omega)) fun g j => ?_
 have bq := iH E Y
 have bp := iH hx U
 have I := qf p q
 have C := pD p q
 have ap := jQ p _ M I
 have aq := jQ q _ M C
 have a0 : q / gZ p q ≠ 0 := by intro h; rw [h, Int.zero_mul] at C; exact J C
 have gq : gZ p q <= (q.natAbs : Int) := by
  have e : q.natAbs = (q / gZ p q).natAbs * (gZ p q).natAbs := by rw [<- Int.natAbs_mul, <- C]
  have : 1 * (gZ p q).natAbs <= (q / gZ p q).natAbs * (gZ p q).natAbs := Nat.mul_le_mul_right _ (by omega)
  omega
 have lg : g.Groups.length <= k := gG j (by omega) (by omega)
 refine Ok.bde (pd (by omega) (by omega) E) ?_
 have hs := fB q
 refine Ok.cd (fun h => ?_) (fun h => ?_)
 · have N : q < 0 := by have := dcT h; omega
   refine Ok.bd (tU (by omega) (by omega) j) fun g' D => ?_
   have a1 := sq j D lg
   refine Ok.bd (iU (k := -(p / gZ p q)) (by omega) (by rw [Int.neg_mul_neg, <- I]; exact hx) D (by omega) (by omega) (by omega)) fun a ha => ?_
   refine Ok.bd (iU (k := -(q / gZ p q)) (by omega) (by rw [Int.neg_mul_neg, <- C]; exact E) D (by omega) (by omega) (by omega)) fun b hb => az.2 ?_
   have O : gZ (-p) (-q) = gZ p q := by unfold gZ; rw [Int.natAbs_neg, Int.natAbs_neg]
   have e1 : (Rat.divInt p q).num = -(p / gZ p q) := by
    rw [<- r8, nj (by omega), O]
    rw [show -p = (-(p / gZ p q)) * gZ p q by rw [Int.neg_mul, <- I], Int.mul_ediv_cancel _ (by omega)]
   have e2 : ((Rat.divInt p q).den : Int) = -(q / gZ p q) := by
    rw [<- r8, mW (by omega), O]
    rw [show -q = (-(q / gZ p q)) * gZ p q by rw [Int.neg_mul, <- C], Int.mul_ediv_cancel _ (by omega)]
   exact ⟨by rw [e1]; exact ha, by rw [e2]; exact hb, gG ha (by omega) (by omega), gG hb (by omega) (by omega)⟩
 · have m : 0 < q := by have := dcF h; omega
   refine Ok.bd (iU (k := p / gZ p q) (by omega) (by rw [<- I]; exact hx) j (by omega) (by omega) (by omega)) fun a ha => ?_
   refine Ok.bd (iU (k := q / gZ p q) (by omega) (by rw [<- C]; exact E) j (by omega) (by omega) (by omega)) fun b hb => az.2 ?_
   exact ⟨by rw [nj m]; exact ha, by rw [mW m]; exact hb, gG ha (by omega) (by omega), gG hb (by omega) (by omega)⟩
theorem vT {n : Nat} {v : Int} (q : 20000 <= n) (j : -9223372036854775808 <= v) (m : v <= 9223372036854775807) : Ok (bW n v) fun z => isI z.Negative z.Groups v := by
 unfold bW
 exact Ok.bd (Bz (by omega) j m) fun a ha => az.2 ha
theorem xj {n : Nat} {x : ai} {r : Rat} {k : Nat} (m : 20000 <= n) (C : k <= 250) (h : Qx x r k) : bI n x = some true := by
 apply Ok.eq
 unfold bI
 have hp := den_pos r
 have q := h.nl; have z := h.dl
 refine Ok.bde (mY (by omega) (by omega) h.num) (Ok.cd (fun h => by cases h) fun _ => ?_)
 refine Ok.bde (mY (by omega) (by omega) h.den) (Ok.cd (fun h => by cases h) fun _ => ?_)
 refine Ok.bde (pd (by omega) (by omega) h.den) ?_
 rw [q7 hp]
 refine Ok.cd (fun h => absurd h (by decide)) fun _ => ?_
 refine Ok.bd (xV m h.num h.den (by omega) (by omega)) fun g j => ?_
 rw [F6] at j
 refine Ok.bd (vT (by omega) (by decide) (by decide)) fun one h1 => ?_
 have l1 := kE h1 (by decide) (by decide)
 have D := kE j (by decide) (by decide)
 exact Ok.bde (Ax (by omega) j h1 (by omega) (by omega)) (az.2 rfl)
theorem mH {n : Nat} {x : ai} {r : Rat} {k : Nat} (j : 20000 <= n) (m : k <= 250) (h : Qx x r k) : ck n x = some x := by
 unfold ck; rw [xj j m h]; rfl
theorem tQ {n : Nat} {v : Int} (q : 20000 <= n) (j : -9223372036854775808 <= v) (m : v <= 9223372036854775807) : Ok (bH n v) fun z => Qx z (Rat.divInt v 1) 3 := by
 unfold bH
 refine Ok.bd (vT (by omega) j m) fun a ha => Ok.bd (vT (by omega) (by decide) (by decide)) fun b hb => az.2 ?_
 obtain ⟨e1, e2⟩ := CG v
 exact ⟨by rw [e1]; exact ha, by rw [e2]; exact hb, kE ha j m, kE hb (by decide) (by decide)⟩
theorem Fb (a b : Rat) : Rat.divInt (a.num * b.num) ((a.den : Int) * (b.den : Int)) = a * b := by
 rw [<- Rat.divInt_mul_divInt, Rat.num_divInt_den, Rat.num_divInt_den]
theorem E6 (a b : Rat) : Rat.divInt (a.num * (b.den : Int) + b.num * (a.den : Int)) ((a.den : Int) * (b.den : Int)) = a + b := by
 have h1 := den_pos a; have h2 := den_pos b
 rw [<- Rat.divInt_add_divInt _ _ (by omega) (by omega), Rat.num_divInt_den, Rat.num_divInt_den]
theorem xP {n : Nat} {x y : ai} {a b : Rat} {j k : Nat} (C : 20000 <= n) (I : j + k <= 250) (hx : Qx x a j) (m : Qx y b k) : Ok (bn n x y) fun z => Qx z (a * b) (j + k) := by
 unfold bn
 refine Ok.bde (mH C (by omega) hx) (Ok.bde (mH C (by omega) m) ?_)
 have J := hx.nl; have n2 := m.nl; have d1 := hx.dl; have d2 := m.dl
 refine Ok.bd (tm (by omega) hx.num m.num (by omega) (by omega)) fun p hp => Ok.bd (tm (by omega) hx.den m.den (by omega) (by omega)) fun q D => ?_
 have h1 := den_pos a; have h2 := den_pos b
 have M : (0 : Int) < (a.den : Int) * (b.den : Int) := Int.mul_pos h1 h2
 refine Ok.bd (pj C I hp D (lJ hx.num m.num hp J n2) (lJ hx.den m.den D d1 d2) (by omega)) fun z E => az.2 ?_
 rw [Fb] at E; exact E
theorem Ch {n : Nat} {x y : ai} {a b : Rat} {j k : Nat} (D : 20000 <= n) (J : j + k + 1 <= 250) (hx : Qx x a j) (m : Qx y b k) : Ok (bE n x y) fun z => Qx z (a + b) (j + k + 1) := by
 unfold bE
 refine Ok.bde (mH D (by omega) hx) (Ok.bde (mH D (by omega) m) ?_)
 have M := hx.nl; have n2 := m.nl; have d1 := hx.dl; have d2 := m.dl
 refine Ok.bd (tm (by omega) hx.num m.den (by omega) (by omega)) fun p hp => Ok.bd (tm (by omega) m.num hx.den (by omega) (by omega)) fun p' C => ?_
 have O := lJ hx.num m.den hp M d2
 have N := lJ m.num hx.den C n2 d1
 refine Ok.bd (Ds (by omega) hp C (by omega) (by omega)) fun s hs => Ok.bd (tm (by omega) hx.den m.den (by omega) (by omega)) fun q E => ?_
 have ls := yS hp C hs (k := j + k) (by omega) (by omega)
 have T := lJ hx.den m.den E d1 d2
 have h1 := den_pos a; have h2 := den_pos b
 have U : (0 : Int) < (a.den : Int) * (b.den : Int) := Int.mul_pos h1 h2
 refine Ok.bd (pj D J hs E (by omega) (by omega) (by omega)) fun z I => az.2 ?_
 rw [E6] at I; exact I
theorem EG {n : Nat} {x : ai} {a : Rat} {k : Nat} (m : 20000 <= n) (q : k <= 250) (hx : Qx x a k) : Ok (fY n x) fun z => Qx z (-a) k := by
 unfold fY
 have C := hx.nl
 refine Ok.bde (mH m q hx) (Ok.bd (tU (by omega) (by omega) hx.num) fun z j => az.2 ?_)
 exact ⟨(show (-a).num = -a.num from rfl) ▸ j, (show (-a).den = a.den from rfl) ▸ hx.den, sq hx.num j hx.nl, hx.dl⟩
theorem re {n : Nat} {x y : ai} {a b : Rat} {j k : Nat} (m : 20000 <= n) (q : j + k + 1 <= 250) (hx : Qx x a j) (C : Qx y b k) : Ok (bf n x y) fun z => Qx z (a - b) (j + k + 1) := by
 unfold bf
 refine Ok.bd (EG m (by omega) C) fun v D => Ok.bd (Ch m q hx D) fun z E => az.2 ?_
 rw [Rat.sub_eq_add_neg]; exact E
theorem zo {n : Nat} {x : ai} {a : Rat} {k : Nat} (j : 20000 <= n) (m : k <= 250) (hx : Qx x a k) : di n x = some (sgn a.num) := by
 unfold di
 have q := hx.nl
 rw [mH j m hx]
 show bdO (cv n x.Num) _ = _
 rw [pd (by omega) (by omega) hx.num]; rfl
theorem nB {n : Nat} {x y : ai} {a b : Rat} {j k : Nat} (m : 20000 <= n) (q : j + k + 1 <= 250) (hx : Qx x a j) (z : Qx y b k) : bh n x y = some (sgn (a - b).num) := by
 apply Ok.eq
 unfold bh
 exact Ok.bd (re m q hx z) fun v C => Ok.bde (zo m q C) (az.2 rfl)
end Go.L.R


set_option linter.unusedVariables false
namespace Go.L
open Go Go.Eng
theorem QL.tight {nn dn : Bool} {ng m : List Int} {r : Rat} {j : Nat} (h : QL nn ng dn m r j) {p q : Int} {k : Nat} (D : r = Rat.divInt p q) (z : 0 < q) (h1 : -pB k < p) (h2 : p < pB k) (E : q < pB k) : QL nn ng dn m r k := by
 subst D
 have C := AW (v := p) (w := q) (by omega)
 have I := jQ p _ C (qf p q)
 have J := jQ q _ C (pD p q)
 have e1 := nj (p := p) z
 have e2 := mW (p := p) z
 refine ⟨h.num, h.den, gG h.num (by rw [e1]; omega) (by rw [e1]; omega), gG h.den (by rw [e2]; have := gy k; omega) (by rw [e2]; omega)⟩
theorem jR (a : Int) : Rat.divInt a 1 = (a : Rat) := by
 rw [Rat.divInt_eq_div]
 grind
end Go.L


set_option linter.unusedVariables false
namespace Go.L
open Go Go.Eng
theorem sub_one (v a : Int) : Rat.divInt v 1 - Rat.divInt a 1 = Rat.divInt (v - a) 1 := by
 rw [Rat.divInt_sub_divInt _ _ (by omega) (by omega)]; simp
end Go.L


set_option linter.all false
namespace Go.L
open Go Go.Eng
end Go.L


set_option linter.unusedVariables false
namespace Go.L
open Go Go.Eng
def CV (p q r : Rat) : Rat := p * (p * p) / (3 * ((p - q) * (p - r)))
def FK (a b c : Rat) : Rat := (a + (b + c)) / 3
structure SpQ (a b c x y : Rat) : Prop where
 m : x - y = FK a b c
 p : 0 <= a -> 0 <= b -> 0 <= c -> y = 0
 n : a <= 0 -> b <= 0 -> c <= 0 -> x = 0
 u1 : 0 < a -> b <= 0 -> c <= 0 -> x = CV a b c
 u2 : 0 < b -> a <= 0 -> c <= 0 -> x = CV b a c
 u3 : 0 < c -> a <= 0 -> b <= 0 -> x = CV c a b
 d1 : a < 0 -> 0 <= b -> 0 <= c -> y = CV (-a) (-b) (-c)
 d2 : b < 0 -> 0 <= a -> 0 <= c -> y = CV (-b) (-a) (-c)
 d3 : c < 0 -> 0 <= a -> 0 <= b -> y = CV (-c) (-a) (-b)
theorem SpQ.neg {a b c x y : Rat} (h : SpQ a b c x y) : SpQ (-a) (-b) (-c) y x := by
 have e : ∀ z : Rat, - -z = z := fun z => by grind
 refine ⟨?_, fun h1 h2 j => h.n (by grind) (by grind) (by grind), fun h1 h2 j => h.p (by grind) (by grind) (by grind), fun h1 h2 j => h.d1 (by grind) (by grind) (by grind), fun h1 h2 j => h.d2 (by grind) (by grind) (by grind), fun h1 h2 j => h.d3 (by grind) (by grind) (by grind), fun h1 h2 j => ?_, fun h1 h2 j => ?_, fun h1 h2 j => ?_⟩
 · have := h.m; unfold FK at this ⊢; grind
 · rw [e, e, e]; exact h.u1 (by grind) (by grind) (by grind)
 · rw [e, e, e]; exact h.u2 (by grind) (by grind) (by grind)
 · rw [e, e, e]; exact h.u3 (by grind) (by grind) (by grind)
end Go.L


set_option linter.all false
namespace Go.L
open Go Go.Eng
theorem Gs {a : Rat} : a.num <= 0 ↔ a <= 0 := by
 have h := Rat.num_nonneg (q := -a)
 rw [Rat.neg_num] at h
 constructor
 · intro k; have := h.1 (by omega); grind
 · intro k; have := h.2 (by grind); omega
theorem DE {a : Rat} : 0 < a.num ↔ 0 < a := by
 have h := Gs (a := a)
 constructor
 · intro k; apply Classical.byContradiction; intro hc; have := h.2 (by grind); omega
 · intro k; apply Classical.byContradiction; intro hc; have := h.1 (by omega); grind
theorem Ht {a : Rat} : sgn a.num >= 0 ↔ 0 <= a := by
 have := fB a.num
 rw [<- Rat.num_nonneg]; omega
theorem Hk {a : Rat} : sgn a.num > 0 ↔ 0 < a := by
 have := fB a.num
 rw [<- DE]; omega
end Go.L

