import Derived.Test.YtecdcgfclgmbpaaGreatApaLD
import Derived.Test.YtecdcgfclgmbpaaGreatPl6Apas
set_option linter.all false
namespace Go.L.R
open Go Go.Eng Go.L
theorem dy {l : List Int} {k : Nat} : gt l (k : Int) = l.getD k 0 := oP
theorem iQ {k : Nat} (h : k <= 4000000000) : IE ((k : Int) + 1) = ((k + 1 : Nat) : Int) := by rw [wrap64_in (by omega) (by omega)]; omega
theorem ku {k : Nat} (h : 0 < k) (h2 : k <= 4000000000) : IE ((k : Int) - 1) = ((k - 1 : Nat) : Int) := by rw [wrap64_in (by omega) (by omega)]; omega
theorem lq {j k : Nat} (h : j <= 4000000000) (h2 : k <= 4000000000) : IE ((j : Int) + (k : Int)) = ((j + k : Nat) : Int) := by rw [wrap64_in (by omega) (by omega)]; omega
theorem vK {p q o c : Int} (hp : 0 <= p /\ p < 1000000000) (j : 0 <= q /\ q < 1000000000) (m : 0 <= o /\ o < 1000000000) (hc : 0 <= c /\ c < 1000000000) :
  aa .u64 ((aa .u64 ((aa .u64 o) + (aa .u64 ((aa .u64 p) * (aa .u64 q))))) + c) = o + p * q + c /\ 0 <= o + p * q + c /\ o + p * q + c < 1000000000000000000 := by
 have h1 : 0 <= p * q := Int.mul_nonneg hp.1 j.1
 have h2 : p * q <= 999999999 * 999999999 := Int.mul_le_mul (by omega) (by omega) j.1 (by omega)
 rw [aG (n := o) (by omega) (by omega), aG (n := p) (by omega) (by omega), aG (n := q) (by omega) (by omega), aG (n := p * q) (by omega) (by omega), aG (n := o + p * q) (by omega) (by omega), aG (by omega) (by omega)]
 exact ⟨rfl, by omega, by omega⟩
theorem tc {l : List Int} {j : Nat} (h : l.length <= j) : l.getD j 0 = 0 := by simp [List.getD, List.getElem?_eq_none h]
theorem ue {k j : Nat} : (List.replicate k (0 : Int)).getD j 0 = 0 := by
 by_cases h : j < k
 · simp [List.getD, h]
 · exact tc (by simpa using h)
theorem dK {n : Nat} {g : List Int} (N : 1000 <= n) (neg : Bool) (hd : Dig g) (O : g.length <= 900) : Ok (aU n neg g) fun z => isI z.Negative z.Groups (if neg then -vl g else vl g) := by
 unfold aU
 refine Ok.bd (R := fun k : Int => ∃ j : Nat, k = (j : Int) /\ j <= g.length /\ (∀ m, j <= m -> g.getD m 0 = 0) /\ (0 < j -> g.getD (j - 1) 0 ≠ 0)) ?_ ?_
 · refine dc (fun k : Int => ∃ j : Nat, k = (j : Int) /\ j <= g.length /\ (∀ m, j <= m -> g.getD m 0 = 0)) (fun k => k.toNat) ?_ n _ ⟨g.length, rfl, Nat.le_refl _, fun m hm => tc hm⟩ (by simp; omega)
   rintro again k ⟨j, rfl, h1, h2⟩ I
   refine Ok.cd (fun h => ?_) (fun h => ?_)
   · have q : 0 < j := by simp at h; omega
     rw [ku q (by omega)]
     refine Ok.gd (by rw [bg]; simp; omega) ?_
     rw [dy]
     refine Ok.cd (fun h => ?_) (fun h => ?_)
     · refine I _ ⟨j - 1, rfl, by omega, fun m hm => ?_⟩ (by simp; omega)
       by_cases D : m = j - 1
       · rw [D]; simpa using h
       · exact h2 m (by omega)
     · exact az.2 ⟨j, rfl, h1, h2, fun _ => by simpa using h⟩
   · have : j = 0 := by simp at h; omega
     subst this
     exact az.2 ⟨0, rfl, by omega, h2, fun h => by omega⟩
 · rintro _ ⟨j, rfl, h1, h2, J⟩
   have e : (g.drop (0 : Int).toNat).take ((j : Int).toNat - (0 : Int).toNat) = g.take j := by simp
   rw [e]
   have hc : Can (g.take j) := Aa (qF hd _) (by
    by_cases C : j = 0
    · left; rw [C]; rfl
    · right
      rw [List.length_take, Nat.min_eq_left h1]
      have := J (by omega)
      simpa [List.getD, List.getElem?_take, (by omega : j - 1 < j)] using this)
   have E : vl (g.take j) = vl g := yL h1 h2
   refine Ok.cd (fun h => ?_) (fun h => ?_)
   · refine Ok.gd (sA.2 (by omega)) (Ok.gd (by simp; omega) (Ok.gd (by simp; omega) (az.2 ?_)))
     subst h
     by_cases C : j = 0
     · subst C
       refine ⟨hc, fun h => by simp at h, ?_⟩
       rw [if_pos rfl, <- E]; rfl
     · refine ⟨hc, fun _ M => ?_, ?_⟩
       · have := congrArg List.length M
         rw [List.length_take, Nat.min_eq_left h1] at this; exact C this
       · have : decide ((j : Int) > 0) = true := by simp; omega
         simp only [this, if_true, E]
   · refine Ok.gd (sA.2 (by omega)) (Ok.gd (by simp; omega) (Ok.gd (by simp; omega) (az.2 ?_)))
     subst h
     exact ⟨hc, fun h => by simp at h, by simp [E]⟩
theorem kb {n : Nat} {v : Int} (T : 1000 <= n) (I : 0 <= v) (U : v < 18446744073709551616) : Ok (aP (α := Int × List Int) (β := List Int) n (fun again x => match x with
  | (z, j) => (
   cdO (decide (z > 0)) (
    gdO (decide ((j.length + 1) * 4 <= 140737488355328)) (
    gdO (decide (j.length + 1 <= 4611686018427387904)) (
    again (aa .u64 (z.tdiv 1000000000), j ++ [aa .u32 (z.tmod 1000000000)])
    )
    )
   ) (
    some (j)
   )
  )) (v, [])) fun r => Can r /\ vl r = v /\ r.length <= 3 := by
 refine dc (fun x : Int × List Int => Dig x.2 /\ 0 <= x.1 /\ vl x.2 + pB x.2.length * x.1 = v /\ x.2.length <= 3 /\ (x.1 = 0 -> Can x.2)) (fun x => 4 - x.2.length) ?_ n (v, []) ⟨mj, I, by show 0 + 1 * v = v; omega, by simp, fun _ => trivial⟩ (by simp; omega)
 rintro again ⟨m, g⟩ ⟨h1, h2, C, D, E⟩ J
 simp only at h1 h2 C D E
 have Y := aY h1
 have hp := gy g.length
 have M : m <= v := by
  have : m <= pB g.length * m := by
   have := mrT hp h2; omega
  omega
 refine Ok.cd (fun h => ?_) (fun h => ?_)
 · have hm : 0 < m := by simpa using h
   have hlen : g.length <= 2 := by
    by_cases h : g.length <= 2
    · exact h
    · have N : g.length = 3 := by omega
      rw [N] at C
      have : pB 3 = 1000000000000000000000000000 := rfl
      rw [this] at C
      omega
   refine Ok.gd (by simp; omega) (Ok.gd (by simp; omega) ?_)
   have e1 : m.tdiv 1000000000 = m / 1000000000 := Int.tdiv_eq_ediv_of_nonneg h2
   have e2 : m.tmod 1000000000 = m % 1000000000 := Int.tmod_eq_emod_of_nonneg h2
   rw [e1, e2, aG (by omega) (by omega), ba (by omega) (by omega)]
   have q : 0 <= m % 1000000000 /\ m % 1000000000 < 1000000000 := by omega
   refine J _ ⟨jz.2 ⟨h1, fe.2 q⟩, by simp only; omega, ?_, by simp; omega, fun O => vb h1 q (by simp only at O; omega)⟩ (by simp; omega)
   simp only
   rw [ka, fU, List.length_append, List.length_singleton, cy]
   have : m = m % 1000000000 + 1000000000 * (m / 1000000000) := by omega
   rw [<- C]
   grind
 · have hm : m = 0 := by simp at h; omega
   subst hm
   exact az.2 ⟨E rfl, by omega, D⟩
theorem Bz {n : Nat} {v : Int} (q : 1000 <= n) (D : -9223372036854775808 <= v) (E : v <= 9223372036854775807) : Ok (fD n v) fun z => isI z.Negative z.Groups v := by
 unfold fD
 refine Ok.cd (fun h => ?_) (fun h => ?_)
 · have j : v < 0 := by simpa using h
   have e : aa .u64 (aa .u64 (IE (0 - IE (v + 1))) + 1) = -v := by
    rw [wrap64_in (n := v + 1) (by omega) (by omega), wrap64_in (by omega) (by omega), aG (n := 0 - (v + 1)) (by omega) (by omega), aG (by omega) (by omega)]; omega
   rw [e]
   refine Ok.bd (kb q (by omega) (by omega)) ?_
   rintro r ⟨h1, h2, C⟩
   refine Ok.bd (dK q true h1.dig (by omega)) ?_
   intro z m
   rw [h2] at m
   refine az.2 ?_
   simpa using m
 · have j : 0 <= v := by simpa using h
   rw [aG j (by omega)]
   refine Ok.bd (kb q (by omega) (by omega)) ?_
   rintro r ⟨h1, h2, C⟩
   refine Ok.bd (dK q false h1.dig (by omega)) ?_
   intro z m
   rw [h2] at m
   exact az.2 m
theorem mY {n : Nat} {x : ah} {v : Int} (D : 1000 <= n) (E : x.Groups.length <= 900) (h : isI x.Negative x.Groups v) : cz n x = some true := by
 obtain ⟨h1, h2, I⟩ := h
 apply Ok.eq
 unfold cz
 refine Ok.bd (R := fun o => match o with | .inl _ => True | .inr _ => False) ?_ ?_
 · refine vY (len := x.Groups.length) (fun k => True) (by omega) (by omega) trivial ?_ ?_
   · intro again k q _ z
     refine Ok.cd (fun _ => ?_) (fun h => ?_)
     · refine Ok.gd (by rw [bg]; simpa using q) ?_
       rw [dy]
       have := cu h1.dig k
       refine Ok.cd (fun h => ?_) (fun h => z trivial)
       have := dcT h; omega
     · simp at h; omega
   · intro again _
     refine Ok.cd (fun h => ?_) (fun h => az.2 trivial)
     simp at h
 · rintro (_ | r) h
   · refine Ok.cd (fun h => ?_) (fun h => ?_)
     · have m : x.Groups = [] := by simpa using h
       refine az.2 ?_
       cases C : x.Negative with | false => rfl | true => exact absurd m (h2 C)
     · have m : x.Groups ≠ [] := by simpa using h
       have j : 0 < x.Groups.length := List.length_pos_iff.2 m
       rw [ku j (by omega)]
       refine Ok.gd (by rw [bg]; simp; omega) (az.2 ?_)
       rw [dy]
       simpa using qk h1 m
   · exact h.elim
theorem jv {n : Nat} {x : ah} {v : Int} (j : 1000 <= n) (m : x.Groups.length <= 900) (h : isI x.Negative x.Groups v) : bc n x = some x := by
 unfold bc
 rw [mY j m h]
 show gdO _ (gdO _ _) = _
 have e1 : decide ((0 + x.Groups.length) * 4 <= 140737488355328) = true := by simp; omega
 have e2 : decide (0 + x.Groups.length <= 4611686018427387904) = true := by simp; omega
 rw [e1, e2]; rfl
theorem pd {n : Nat} {x : ah} {v : Int} (j : 1000 <= n) (m : x.Groups.length <= 900) (h : isI x.Negative x.Groups v) : cv n x = some (sgn v) := by
 unfold cv; rw [jv j m h, Bk h]
 show cdO _ _ _ = _
 by_cases hx : x.Groups = []
 · rw [hx]; rfl
 · have e : (((x.Groups.length : Int) : Int) == 0) = false := by simp [hx]
   rw [e, if_neg hx]
   cases x.Negative <;> rfl
theorem tU {n : Nat} {x : ah} {v : Int} (j : 1000 <= n) (m : x.Groups.length <= 900) (h : isI x.Negative x.Groups v) : Ok (ec n x) fun z => isI z.Negative z.Groups (-v) := by
 unfold ec
 refine Ok.bde (jv j m h) ?_
 refine Ok.bd (dK j _ h.1.dig m) fun z q => az.2 ?_
 have : -v = if (!x.Negative) = true then -vl x.Groups else vl x.Groups := by rw [h.2.2]; cases x.Negative <;> simp
 rw [this]; exact q
theorem lG {n : Nat} {l : List Int} {k : Nat} (h : Dig l) : aX n l (k : Int) = some (l.getD k 0) := by
 unfold aX
 have hd := cu h k
 by_cases h : k < l.length
 · have e : decide ((k : Int) < (l.length : Int)) = true := by simp; omega
   rw [e, bg, dy]
   have e : decide (k < l.length) = true := by simpa using h
   rw [e, aG (by omega) (by omega)]; rfl
 · have e : decide ((k : Int) < (l.length : Int)) = false := by simp; omega
   rw [e, tc (by omega)]; rfl
end Go.L.R


set_option linter.all false
namespace Go.L.R
open Go Go.Eng Go.L
theorem td {m : Int} (h : 0 <= m) : m.tdiv 1000000000 = m / 1000000000 /\ m.tmod 1000000000 = m % 1000000000 := ⟨Int.tdiv_eq_ediv_of_nonneg h, Int.tmod_eq_emod_of_nonneg h⟩
theorem yE {n : Nat} {a b : List Int} (T : 1000 <= n) (ha : Dig a) (hb : Dig b) (U : a.length <= 400) (lb : b.length <= 400) : Ok (fE n a b) fun r => Can r /\ vl r = vl a + vl b := by
 unfold fE
 obtain ⟨M, h1, h2, h3, h4⟩ : ∃ M : Nat, a.length <= M /\ b.length <= M /\ M <= 400 /\ (M = a.length \/ M = b.length) := by
  by_cases h : a.length <= b.length
  · exact ⟨b.length, h, by omega, lb, .inr rfl⟩
  · exact ⟨a.length, by omega, by omega, U, .inl rfl⟩
 refine Ok.bd (R := fun r => Dig r.1 /\ r.1.length = M /\ (r.2 = 0 \/ r.2 = 1) /\ vl r.1 + pB M * r.2 = vl a + vl b) ?_ ?_
 · refine dc (fun x : List Int × Int × Int => ∃ k : Nat, x.2.2 = (k : Int) /\ k <= M /\ x.1.length = k /\ Dig x.1 /\ (x.2.1 = 0 \/ x.2.1 = 1) /\ vl x.1 + pB k * x.2.1 = vk a k + vk b k) (fun x => M - x.2.2.toNat) ?_ n _
    ⟨0, rfl, by omega, rfl, mj, .inl rfl, by simp [ij, vl]⟩ (by simp; omega)
   rintro again ⟨out, c, x⟩ ⟨k, hx, E, m, q, I, J⟩ Y
   simp only at hx m q I J
   subst hx
   dsimp only
   rw [lG ha, lG hb]
   have da := cu ha k; have db := cu hb k
   have step : k < M -> Ok (bdO (some (a.getD k 0)) fun C => bdO (some (b.getD k 0)) fun D => gdO (decide ((out.length + 1) * 4 <= 140737488355328)) (gdO (decide (out.length + 1 <= 4611686018427387904)) (again (out ++ [aa .u32 ((aa .u64 ((aa .u64 (C + D)) + c)).tmod 1000000000)], aa .u64 ((aa .u64 ((aa .u64 (C + D)) + c)).tdiv 1000000000), IE ((k : Int) + 1)))))
     fun r => Dig r.1 /\ r.1.length = M /\ (r.2 = 0 \/ r.2 = 1) /\ vl r.1 + pB M * r.2 = vl a + vl b := by
    intro hk
    show Ok (gdO _ _) _
    refine Ok.gd (by simp; omega) (Ok.gd (by simp; omega) ?_)
    generalize hs : aa .u64 (aa .u64 (a.getD k 0 + b.getD k 0) + c) = s
    have a0 : s = a.getD k 0 + b.getD k 0 + c := by rw [<- hs, aG (n := a.getD k 0 + b.getD k 0) (by omega) (by omega), aG (by omega) (by omega)]
    rw [(td (by omega)).1, (td (by omega)).2, aG (by omega) (by omega), ba (by omega) (by omega), iQ (by omega)]
    refine Y _ ⟨k + 1, rfl, by omega, by simp; omega, jz.2 ⟨q, fe.2 (by omega)⟩, by simp only; omega, ?_⟩ (by simp; omega)
    simp only
    rw [ka, fU, m, eP, eP, cy]
    have : a.getD k 0 + b.getD k 0 + c = s % 1000000000 + 1000000000 * (s / 1000000000) := by omega
    grind
   refine Ok.cd (fun h => ?_) (fun h => Ok.cd (fun N => ?_) (fun N => ?_))
   · exact step (by have := dcT h; omega)
   · exact step (by have := dcT N; omega)
   · have := dcF h; have := dcF N
     obtain rfl : k = M := by omega
     rw [fu (l := a) (by omega), fu (l := b) (by omega)] at J
     exact az.2 ⟨q, m, I, J⟩
 · rintro ⟨out, c⟩ ⟨E, m, q, I⟩
   simp only at E m q I
   dsimp only
   refine Ok.gd (by simp; omega) (Ok.gd (by simp; omega) ?_)
   rw [ba (by omega) (by omega)]
   refine Ok.bd (dK T false (jz.2 ⟨E, fe.2 (by omega)⟩) (by simp; omega)) fun z O => az.2 ⟨O.1, ?_⟩
   have := O.2.2
   have j := gF O
   have a1 := aY E
   have a2 := gy M
   rw [ka, fU, m] at j
   have : 0 <= vl a + vl b := by have := aY ha; have := aY hb; omega
   simp only [Bool.false_eq_true, if_false] at j
   omega
theorem oz {n : Nat} {a b : List Int} (I : 1000 <= n) (ha : Dig a) (hb : Dig b) (N : a.length <= 400) (lb : b.length <= a.length) (hle : vl b <= vl a) : Ok (bV n a b) fun r => Can r /\ vl r = vl a - vl b := by
 unfold bV
 refine Ok.bd (R := fun r => Dig r /\ r.length = a.length /\ vl r = vl a - vl b) ?_ ?_
 · refine dc (fun x : List Int × Int × Int => ∃ k : Nat, x.2.2 = (k : Int) /\ k <= a.length /\ x.1.length = k /\ Dig x.1 /\ (x.2.1 = 0 \/ x.2.1 = 1) /\ vl x.1 - pB k * x.2.1 = vk a k - vk b k) (fun x => a.length - x.2.2.toNat) ?_ n _
    ⟨0, rfl, by omega, rfl, mj, .inl rfl, by simp [ij, vl]⟩ (by simp; omega)
   rintro again ⟨out, c, x⟩ ⟨k, hx, D, m, q, j, C⟩ J
   simp only at hx m q j C
   subst hx
   dsimp only
   rw [lG ha, lG hb]
   have O := cu ha k; have T := cu hb k
   refine Ok.cd (fun h => ?_) (fun h => ?_)
   · have U : k < a.length := by have := dcT h; omega
     show Ok (gdO _ _) _
     refine Ok.gd (by simp; omega) (Ok.gd (by simp; omega) ?_)
     generalize hs : aa .u64 (aa .u64 (aa .u64 (1000000000 + a.getD k 0) - b.getD k 0) - c) = s
     have M : s = 1000000000 + a.getD k 0 - b.getD k 0 - c := by rw [<- hs, aG (n := 1000000000 + a.getD k 0) (by omega) (by omega), aG (n := 1000000000 + a.getD k 0 - b.getD k 0) (by omega) (by omega), aG (by omega) (by omega)]
     rw [(td (by omega)).1, (td (by omega)).2, aG (n := s / 1000000000) (by omega) (by omega), aG (by omega) (by omega), ba (by omega) (by omega), iQ (by omega)]
     refine J _ ⟨k + 1, rfl, by omega, by simp; omega, jz.2 ⟨q, fe.2 (by omega)⟩, by simp only; omega, ?_⟩ (by simp; omega)
     simp only
     rw [ka, fU, m, eP, eP, cy]
     have : a.getD k 0 - b.getD k 0 - c = s % 1000000000 + 1000000000 * (s / 1000000000) - 1000000000 := by omega
     grind
   · have := dcF h
     obtain rfl : k = a.length := by omega
     rw [fu (l := a) (by omega), fu (l := b) (by omega)] at C
     refine az.2 ⟨q, m, ?_⟩
     have := gP q
     rw [m] at this
     rcases j with j | j
     · rw [j] at C; omega
     · rw [j] at C; omega
 · rintro r ⟨D, m, q⟩
   refine Ok.bd (dK I false D (by omega)) fun z E => az.2 ⟨E.1, ?_⟩
   have := gF E
   simp only [Bool.false_eq_true, if_false] at this
   omega
theorem yc {n : Nat} {a b : List Int} (E : 1000 <= n) (ha : Can a) (hb : Can b) (I : a.length <= 400) (lb : b.length <= 400) : cN n a b = some (sgn (vl a - vl b)) := by
 apply Ok.eq
 unfold cN
 refine Ok.cd (fun h => Ok.cd (fun m => ?_) (fun m => ?_)) (fun h => ?_)
 · have := dcT m
   have := cm ha.dig hb (by omega)
   exact az.2 (kP (by omega)).symm
 · have h1 := dcF m
   have h2 : a.length ≠ b.length := by intro e; rw [e] at h; simp at h
   have := cm hb.dig ha (by omega)
   exact az.2 (q7 (by omega)).symm
 · have J : a.length = b.length := by simp at h; omega
   refine Ok.bd (R := fun o => match o with | .inl _ => sgn (vl a - vl b) = 0 | .inr r => r = sgn (vl a - vl b)) ?_ ?_
   · refine dc (fun i : Int => ∃ k : Nat, i = (k : Int) - 1 /\ k <= a.length /\ vl a - vl b = vk a k - vk b k) (fun i => (i + 1).toNat) ?_ n _ ⟨a.length, by rw [wrap64_in (by omega) (by omega)], Nat.le_refl _, by rw [fu (by omega), fu (by omega)]⟩ (by rw [wrap64_in (by omega) (by omega)]; omega)
     rintro again _ ⟨k, rfl, h1, h2⟩ z
     refine Ok.cd (fun h => ?_) (fun h => ?_)
     · have M := dcT h
       obtain ⟨j, rfl⟩ : ∃ j, k = j + 1 := ⟨k - 1, by omega⟩
       have e : (((j + 1 : Nat) : Int) - 1) = (j : Int) := by omega
       rw [e]
       refine Ok.gd (by rw [bg]; simp; omega) (Ok.gd (by rw [bg]; simp; omega) ?_)
       rw [dy, dy]
       have N := si ha.dig j; have O := si hb.dig j; have C := iz ha.dig j; have D := iz hb.dig j
       rw [eP, eP] at h2
       have hp := gy j
       refine Ok.cd (fun h => ?_) (fun h => Ok.cd (fun m => ?_) (fun m => ?_))
       · have q := dcT h
         have : pB j * 1 <= pB j * (b.getD j 0 - a.getD j 0) := mlT (by omega) (by omega)
         rw [Int.mul_sub] at this
         exact az.2 (kP (by omega)).symm
       · have q := dcT m
         have : pB j * 1 <= pB j * (a.getD j 0 - b.getD j 0) := mlT (by omega) (by omega)
         rw [Int.mul_sub] at this
         exact az.2 (q7 (by omega)).symm
       · have g1 := dcF h; have T := dcF m
         have e : a.getD j 0 = b.getD j 0 := by omega
         rw [e] at h2
         refine z _ ⟨j, by rw [wrap64_in (by omega) (by omega)], by omega, by omega⟩ (by rw [wrap64_in (by omega) (by omega)]; omega)
     · have := dcF h
       obtain rfl : k = 0 := by omega
       rw [ij, ij] at h2
       refine az.2 ?_
       show sgn _ = 0
       rw [h2]; rfl
   · rintro (_ | r) h
     · exact az.2 h.symm
     · exact az.2 h
theorem Ds {n : Nat} {x y : ah} {v w : Int} (m : 1000 <= n) (hx : isI x.Negative x.Groups v) (j : isI y.Negative y.Groups w) (D : x.Groups.length <= 400) (E : y.Groups.length <= 400) : Ok (fg n x y) fun z => isI z.Negative z.Groups (v + w) := by
 unfold fg
 refine Ok.bde (jv m (by omega) hx) (Ok.bde (jv m (by omega) j) ?_)
 obtain ⟨p, a⟩ := x
 obtain ⟨q, b⟩ := y
 simp only at hx j D E
 dsimp only
 have N : ∀ {r : List Int}, Can r -> vl r <= vl a + vl b -> r.length <= 900 := by
  intro r O T
  have := lk O (k := 401) (by
   have U := gP hx.1.dig; have Y := gP j.1.dig
   have p1 := ia D; have p2 := ia E; have p3 : pB 401 = 1000000000 * pB 400 := cy 400; have := gy 400
   omega)
  omega
 have pa := aY hx.1.dig; have pb := aY j.1.dig
 refine Ok.cd (fun h => ?_) (fun h => ?_)
 · have C : p = q := by simpa using h
   subst C
   refine Ok.bd (yE m hx.1.dig j.1.dig D E) ?_
   rintro r ⟨h1, h2⟩
   refine Ok.bd (dK m _ h1.dig (N h1 (by omega))) fun z I => az.2 ?_
   have : v + w = if p = true then -vl r else vl r := by rw [hx.2.2, j.2.2, h2]; cases p <;> simp <;> omega
   rw [this]; exact I
 · rw [yc m hx.1 j.1 D E]
   show Ok (cdO _ _ _) _
   have C : p = !q := by cases p <;> cases q <;> simp at h ⊢
   refine Ok.cd (fun h => ?_) (fun h => ?_)
   · have hle : vl b <= vl a := by
      by_cases J : vl a - vl b < 0
      · rw [kP J] at h; simp at h
      · omega
     have hlen : b.length <= a.length := by
      by_cases J : a.length < b.length
      · have := cm hx.1.dig j.1 J; omega
      · omega
     refine Ok.bd (oz m hx.1.dig j.1.dig D hlen hle) ?_
     rintro r ⟨h1, h2⟩
     refine Ok.bd (dK m _ h1.dig (N h1 (by omega))) fun z I => az.2 ?_
     have : v + w = if p = true then -vl r else vl r := by rw [hx.2.2, j.2.2, h2, C]; cases q <;> simp <;> omega
     rw [this]; exact I
   · have hle : vl a < vl b := by
      rcases fB (vl a - vl b) with ⟨g1, M⟩ | ⟨g1, M⟩ | ⟨g1, M⟩
      · omega
      · rw [M] at h; simp at h
      · rw [M] at h; simp at h
     have hlen : a.length <= b.length := by
      by_cases J : b.length < a.length
      · have := cm j.1.dig hx.1 J; omega
      · omega
     refine Ok.bd (oz m j.1.dig hx.1.dig E hlen (by omega)) ?_
     rintro r ⟨h1, h2⟩
     refine Ok.bd (dK m _ h1.dig (N h1 (by omega))) fun z I => az.2 ?_
     have : v + w = if q = true then -vl r else vl r := by rw [hx.2.2, j.2.2, h2, C]; cases q <;> simp <;> omega
     rw [this]; exact I
theorem El {n : Nat} {x y : ah} {v w : Int} (q : 1000 <= n) (hx : isI x.Negative x.Groups v) (j : isI y.Negative y.Groups w) (C : x.Groups.length <= 400) (D : y.Groups.length <= 400) : Ok (cG n x y) fun z => isI z.Negative z.Groups (v - w) := by
 unfold cG
 refine Ok.bd (tU q (by omega) j) fun z m => ?_
 have E : z.Groups.length <= 400 := lk m.1 (k := 400) (by
  have h1 := gF m; have h2 := gF j; have J := gP j.1.dig; have := ia D; omega)
 refine Ok.bd (Ds q hx m C E) fun r I => az.2 ?_
 rw [(by omega : v - w = v + -w)]; exact I
theorem tm {n : Nat} {x y : ah} {v w : Int} (Y : 1000 <= n) (hx : isI x.Negative x.Groups v) (D : isI y.Negative y.Groups w) (lx : x.Groups.length <= 400) (ly : y.Groups.length <= 400) : Ok (br n x y) fun z => isI z.Negative z.Groups (v * w) := by
 unfold br
 refine Ok.bde (jv Y (by omega) hx) (Ok.bde (jv Y (by omega) D) ?_)
 obtain ⟨p, a⟩ := x
 obtain ⟨q, b⟩ := y
 simp only at hx D lx ly
 dsimp only
 have ha := hx.1.dig; have hb := D.1.dig
 rw [lq (by omega) (by omega)]
 refine Ok.gd (by simp; try omega) (Ok.gd (by simp; try omega) (Ok.gd (by simp; try omega) ?_))
 refine Ok.bd (R := fun r => Dig r /\ r.length <= 900 /\ vl r = vl a * vl b) ?_ (fun r h => Ok.bd (dK Y _ h.1 h.2.1) fun z hz => az.2 ?_)
 · refine dc (fun x : List Int × Int => ∃ i : Nat, x.2 = (i : Int) /\ i <= a.length /\ x.1.length = a.length + b.length /\ Dig x.1 /\ (∀ j, i + b.length <= j -> x.1.getD j 0 = 0) /\ vl x.1 = vk a i * vl b) (fun x => a.length - x.2.toNat) ?_ n _
    ⟨0, rfl, by omega, (by simp; omega), oX _, fun j _ => ue, by simp [ij, tP]⟩ (by simp; omega)
   rintro again ⟨out, x⟩ ⟨i, hx, h4, h5, h6, h7, T⟩ ih
   simp only at hx h5 h6 h7 T
   subst hx
   dsimp only
   have da := cu ha i
   refine Ok.cd (fun h => ?_) (fun h => ?_)
   · have hi : i < a.length := by simp at h; omega
     refine Ok.bd (R := fun r => r.1.length = a.length + b.length /\ Dig r.1 /\ (0 <= r.2 /\ r.2 < 1000000000) /\ (∀ j, i + b.length <= j -> r.1.getD j 0 = 0) /\ vl r.1 + pB (i + b.length) * r.2 = vk a i * vl b + pB i * a.getD i 0 * vl b) ?_ ?_
     · refine dc (fun y : List Int × Int × Int => ∃ j : Nat, y.2.2 = (j : Int) /\ j <= b.length /\ y.1.length = a.length + b.length /\ Dig y.1 /\ (0 <= y.2.1 /\ y.2.1 < 1000000000) /\ (∀ m, i + b.length <= m -> y.1.getD m 0 = 0) /\ vl y.1 + pB (i + j) * y.2.1 = vk a i * vl b + pB i * a.getD i 0 * vk b j) (fun y => b.length - y.2.2.toNat) ?_ n _
        ⟨0, rfl, by omega, h5, h6, by simp, h7, by simp [ij, T]⟩ (by simp; omega)
       rintro U ⟨C, c, y⟩ ⟨j, D, k4, J, E, M, I, N⟩ a0
       simp only at D J E M I N
       subst D
       dsimp only
       have db := cu hb j
       refine Ok.cd (fun h => ?_) (fun h => ?_)
       · have hj : j < b.length := by simp at h; omega
         rw [lq (by omega) (by omega)]
         refine Ok.gd (by rw [bg]; simp; omega) (Ok.gd (by rw [bg]; simpa using hi) (Ok.gd (by rw [bg]; simpa using hj) ?_))
         rw [dy, dy, dy]
         have O := cu E (i + j)
         obtain ⟨e1, e2, e3⟩ := vK da db O M
         rw [e1]
         generalize hs : C.getD (i + j) 0 + a.getD i 0 * b.getD j 0 + c = s at e1 e2 e3
         rw [(td e2).1, (td e2).2, ba (by omega) (by omega), aG (by omega) (by omega), iQ (by omega), Int.toNat_natCast]
         refine a0 _ ⟨j + 1, rfl, by omega, by simpa using J, iN E (by omega), by simp only; omega, ?_, ?_⟩ (by simp; omega)
         · intro m hm
           simp only
           rw [gM (by omega)]
           exact I m hm
         · simp only
           rw [kJ (by omega), eP, <- Nat.add_assoc, cy, kY]
           rw [kY] at N
           have : s = s % 1000000000 + 1000000000 * (s / 1000000000) := by omega
           grind
       · have hj : j = b.length := by simp at h; omega
         subst hj
         rw [fu (l := b) (by omega)] at N
         exact az.2 ⟨J, E, M, I, N⟩
     · rintro ⟨C, c⟩ ⟨J, E, M, I, N⟩
       simp only at J E M I N
       dsimp only
       rw [lq (by omega) (by omega)]
       refine Ok.gd (by rw [bg]; simp; omega) ?_
       rw [ba (by omega) (by omega), iQ (by omega), Int.toNat_natCast]
       refine ih _ ⟨i + 1, rfl, by omega, by simpa using J, iN E M, ?_, ?_⟩ (by simp; omega)
       · intro m hm
         simp only
         rw [gM (by omega)]
         exact I m (by omega)
       · simp only
         rw [kJ (by omega), eP, I _ (by omega)]
         grind
   · have hi : i = a.length := by simp at h; omega
     subst hi
     rw [fu (l := a) (by omega)] at T
     exact az.2 ⟨h6, by omega, T⟩
 · have : v * w = if (p != q) = true then -vl r else vl r := by
    rw [hx.2.2, D.2.2, h.2.2]
    cases p <;> cases q <;> simp <;> grind
   rw [this]; exact hz
end Go.L.R

