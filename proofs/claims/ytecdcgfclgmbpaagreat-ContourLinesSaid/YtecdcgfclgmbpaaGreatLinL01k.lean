import Derived.Test.YtecdcgfclgmbpaaGreatLinL01q
import Derived.Test.YtecdcgfclgmbpaaGreatPl6Lins
set_option linter.all false
namespace Go.L
open Go Go.Eng
theorem lR {j k : Nat} (h : j <= 4000000000) (h2 : k <= 4000000000) : FK ((j : Int) + (k : Int)) = ((j + k : Nat) : Int) := by rw [wrap64_in (by omega) (by omega)]; omega
theorem vE {p q o c : Int} (hp : 0 <= p /\ p < 1000000000) (hq : 0 <= q /\ q < 1000000000) (ho : 0 <= o /\ o < 1000000000) (hc : 0 <= c /\ c < 1000000000) :
  aa .u64 ((aa .u64 ((aa .u64 o) + (aa .u64 ((aa .u64 p) * (aa .u64 q))))) + c) = o + p * q + c /\ 0 <= o + p * q + c /\ o + p * q + c < 1000000000000000000 := by
 have h1 : 0 <= p * q := Int.mul_nonneg hp.1 hq.1
 have h2 : p * q <= 999999999 * 999999999 := Int.mul_le_mul (by omega) (by omega) hq.1 (by omega)
 rw [aH (n := o) (by omega) (by omega), aH (n := p) (by omega) (by omega), aH (n := q) (by omega) (by omega), aH (n := p * q) (by omega) (by omega), aH (n := o + p * q) (by omega) (by omega), aH (by omega) (by omega)]
 exact ⟨rfl, by omega, by omega⟩
theorem sz {l : List Int} {j : Nat} (h : l.length <= j) : l.getD j 0 = 0 := by simp [List.getD, List.getElem?_eq_none h]
theorem tX {k j : Nat} : (List.replicate k (0 : Int)).getD j 0 = 0 := by
 by_cases h : j < k
 · simp [List.getD, h]
 · exact sz (by simpa using h)
theorem y6 {n : Nat} {a b : List Int} (hn : 1000 <= n) (ha : Dig a) (hb : Dig b) (la : a.length <= 400) (lb : b.length <= 400) : Ok (jb n a b) fun r => Can r /\ vl r = vl a * vl b := by
 unfold jb
 rw [lR (by omega) (by omega)]
 refine Ok.gd (by simp; try omega) (Ok.gd (by simp; try omega) (Ok.gd (by simp; try omega) ?_))
 refine Ok.bd (R := fun r => Dig r /\ r.length <= 900 /\ vl r = vl a * vl b) ?_ (fun r h => Ok.bd (qS hn h.1 h.2.1) fun z hz => aw.2 ⟨hz.1, hz.2.trans h.2.2⟩)
 refine dj (fun x : List Int × Int => ∃ i : Nat, x.2 = (i : Int) /\ i <= a.length /\ x.1.length = a.length + b.length /\ Dig x.1 /\ (∀ j, i + b.length <= j -> x.1.getD j 0 = 0) /\ vl x.1 = vk a i * vl b) (fun x => a.length - x.2.toNat) ?_ n _
  ⟨0, rfl, by omega, (by simp; omega), pg _, fun j _ => tX, by simp [iD, tI]⟩ (by simp; omega)
 rintro again ⟨out, x⟩ ⟨i, hx, h4, h5, h6, h7, h8⟩ ih
 simp only at hx h5 h6 h7 h8
 subst hx
 dsimp only
 have da := cu ha i
 refine Ok.cd (fun h => ?_) (fun h => ?_)
 · have hi : i < a.length := by simp at h; omega
   refine Ok.gd (by rw [bg]; simpa using hi) ?_
   rw [dx]
   refine Ok.bd (R := fun r => r.1.length = a.length + b.length /\ Dig r.1 /\ (0 <= r.2 /\ r.2 < 1000000000) /\ (∀ j, i + b.length <= j -> r.1.getD j 0 = 0) /\ vl r.1 + pB (i + b.length) * r.2 = vk a i * vl b + pB i * a.getD i 0 * vl b) ?_ ?_
   · refine dj (fun y : List Int × Int × Int => ∃ j : Nat, y.2.2 = (j : Int) /\ j <= b.length /\ y.1.length = a.length + b.length /\ Dig y.1 /\ (0 <= y.2.1 /\ y.2.1 < 1000000000) /\ (∀ m, i + b.length <= m -> y.1.getD m 0 = 0) /\ vl y.1 + pB (i + j) * y.2.1 = vk a i * vl b + pB i * a.getD i 0 * vk b j) (fun y => b.length - y.2.2.toNat) ?_ n _
      ⟨0, rfl, by omega, h5, h6, by simp, h7, by simp [iD, h8]⟩ (by simp; omega)
     rintro again' ⟨out', c, y⟩ ⟨j, hy, k4, k5, k6, k7, k8, k9⟩ ih'
     simp only at hy k5 k6 k7 k8 k9
     subst hy
     dsimp only
     have db := cu hb j
     refine Ok.cd (fun h => ?_) (fun h => ?_)
     · have hj : j < b.length := by simp at h; omega
       refine Ok.gd (by rw [bg]; simpa using hj) ?_
       rw [lR (by omega) (by omega)]
       refine Ok.gd (by rw [bg]; simp; omega) ?_
       rw [dx, dx]
       have dout := cu k6 (i + j)
       obtain ⟨e1, e2, e3⟩ := vE da db dout k7
       rw [e1]
       generalize hs : out'.getD (i + j) 0 + a.getD i 0 * b.getD j 0 + c = s at e1 e2 e3
       have t1 : s.tdiv 1000000000 = s / 1000000000 := Int.tdiv_eq_ediv_of_nonneg e2
       have t2 : s.tmod 1000000000 = s % 1000000000 := Int.tmod_eq_emod_of_nonneg e2
       rw [t1, t2, bc (by omega) (by omega), aH (by omega) (by omega), ji (by omega), Int.toNat_natCast]
       refine ih' _ ⟨j + 1, rfl, by omega, by simpa using k5, jj k6 (by omega), by simp only; omega, ?_, ?_⟩ (by simp; omega)
       · intro m hm
         simp only
         rw [iw (by omega)]
         exact k8 m hm
       · simp only
         rw [kZ (by omega), fj, <- Nat.add_assoc, cA, lf] 
         rw [lf] at k9
         have : s = s % 1000000000 + 1000000000 * (s / 1000000000) := by omega
         grind
     · have hj : j = b.length := by simp at h; omega
       subst hj
       rw [fO (l := b) (by omega)] at k9
       exact aw.2 ⟨k5, k6, k7, k8, k9⟩
   · rintro ⟨out', c⟩ ⟨k5, k6, k7, k8, k9⟩
     simp only at k5 k6 k7 k8 k9
     dsimp only
     rw [lR (by omega) (by omega)]
     refine Ok.gd (by rw [bg]; simp; omega) ?_
     rw [bc (by omega) (by omega), ji (by omega), Int.toNat_natCast]
     refine ih _ ⟨i + 1, rfl, by omega, by simpa using k5, jj k6 k7, ?_, ?_⟩ (by simp; omega)
     · intro m hm
       simp only
       rw [iw (by omega)]
       exact k8 m (by omega)
     · simp only
       rw [kZ (by omega), fj, k8 _ (by omega)]
       grind
 · have hi : i = a.length := by simp at h; omega
   subst hi
   rw [fO (l := a) (by omega)] at h8
   exact aw.2 ⟨h6, by omega, h8⟩
end Go.L


set_option linter.all false
namespace Go.L
open Go Go.Eng
theorem od {m d : Int} (h : 0 <= m) : m.tdiv d = m / d /\ m.tmod d = m % d := ⟨Int.tdiv_eq_ediv_of_nonneg h, Int.tmod_eq_emod_of_nonneg h⟩
theorem Cg {n : Nat} (hn : 1000 <= n) {P W V wl x0 x1 x2 vw v1 v2 g0 r0 : Int} (k : KN P W V wl x0 x1 x2 vw v1 v2) (hg0 : g0 = (x1 + 1000000000 * x2) / v1) (hr0 : r0 = (x1 + 1000000000 * x2) % v1) {i1 i2 l1 l2 : Nat} (hi1 : i1 < l1) (hi2 : i2 < l2) :
  Ok (aN (α := Int × Int) (β := Int) n (fun again x => match x with
   | (guess, rest) => (
     cdO (decide (guess >= 1000000000)) (
      cdO (decide ((aa .u64 (rest + v1)) >= 1000000000)) (
       some (aa .u64 (guess - 1))
      ) (
       again (aa .u64 (guess - 1), aa .u64 (rest + v1))
      )
     ) (
      gdO (inR (i1 : Int) l1) (
      gdO (inR (i2 : Int) l2) (
      cdO (decide ((aa .u64 (guess * v2)) > (aa .u64 ((aa .u64 (rest * 1000000000)) + x0)))) (
       cdO (decide ((aa .u64 (rest + v1)) >= 1000000000)) (
        some (aa .u64 (guess - 1))
       ) (
        again (aa .u64 (guess - 1), aa .u64 (rest + v1))
       )
      ) (
       some (guess)
      )
      )
      )
     )
    )) (g0, r0)) fun g => 0 <= g /\ g < 1000000000 /\ W < (g + 1) * V /\ (1 <= g -> (g - 1) * V <= W) := by
 have hv1 := k.v1; have hv2 := k.v2; have hx0 := k.x0; have hx1 := k.x1; have hx2 := k.x2
 have htop := k.top
 have hem := Int.emod_add_mul_ediv (x1 + 1000000000 * x2) v1
 have hr1 := Int.emod_lt_of_pos (x1 + 1000000000 * x2) (by omega : 0 < v1)
 have hr2 := Int.emod_nonneg (x1 + 1000000000 * x2) (by omega : v1 ≠ 0)
 rw [<- hg0, <- hr0] at hem
 rw [<- hr0] at hr1 hr2
 have hg2 : 0 <= g0 := by rw [hg0]; exact Int.ediv_nonneg (by omega) (by omega)
 have hcomm : v1 * g0 = g0 * v1 := Int.mul_comm _ _
 have hVpos : 0 <= V := by
  have h1 := k.v; have h2 := k.vw; have h3 : 0 <= P * (v2 + 1000000000 * v1) := Int.mul_nonneg (by have := k.p; omega) (by omega)
  omega
 have dec : ∀ g r : Int, 0 <= g -> g <= 1000000001 -> 0 <= r -> r < 1000000000 -> x1 + 1000000000 * x2 = g * v1 + r -> (1000000000 <= g \/ r * 1000000000 + x0 < g * v2) -> W < g * V := by
  intro g r h1 h2 h3 h4 h5 h6
  rcases h6 with h6 | h6
  · have : 1000000000 * V <= g * V := mrT h6 hVpos
    have := k.lt; omega
  · refine k.less h1 ?_
    have : g * (v2 + 1000000000 * v1) = g * v2 + 1000000000 * (g * v1) := by grind
    omega
 have stop : ∀ g r : Int, 0 <= g -> g < 1000000000 -> x1 + 1000000000 * x2 = g * v1 + r -> g * v2 <= r * 1000000000 + x0 -> (1 <= g -> (g - 1) * V <= W) := by
  intro g r h1 h2 h5 h6 h7
  refine k.more h7 (by omega) ?_
  have : g * (v2 + 1000000000 * v1) = g * v2 + 1000000000 * (g * v1) := by grind
  omega
 have hgb : g0 <= 1000000001 := by
  by_cases h : g0 <= 1000000001
  · exact h
  · have : 1000000002 * v1 <= g0 * v1 := mrT (by omega) (by omega)
    omega
 refine dj (fun x : Int × Int => 0 <= x.1 /\ x.1 <= 1000000001 /\ 0 <= x.2 /\ x.2 < 1000000000 /\ x1 + 1000000000 * x2 = x.1 * v1 + x.2 /\ W < (x.1 + 1) * V) (fun x => ((1000000000 - x.2) / 500000000).toNat) ?_ n (g0, r0) ⟨hg2, hgb, hr2, (by show r0 < 1000000000; omega), (by show _ = g0 * v1 + r0; omega), (show W < (g0 + 1) * V from k.first hr1 hg2 (by omega))⟩ (by simp only; omega)
 rintro again ⟨g, r⟩ ⟨a1, a2, a3, a4, a5, a6⟩ ih
 simp only at a1 a2 a3 a4 a5 a6
 have next : (1000000000 <= g \/ r * 1000000000 + x0 < g * v2) -> Ok (cdO (decide ((aa .u64 (r + v1)) >= 1000000000)) (some (aa .u64 (g - 1))) (again (aa .u64 (g - 1), aa .u64 (r + v1)))) fun g => 0 <= g /\ g < 1000000000 /\ W < (g + 1) * V /\ (1 <= g -> (g - 1) * V <= W) := by
  intro h
  have hW := dec g r a1 a2 a3 a4 a5 h
  have hg1 : 1 <= g := by
   rcases h with h | h
   · omega
   · by_cases h0 : g = 0
     · rw [h0] at h; omega
     · omega
  have e5 : x1 + 1000000000 * x2 = (g - 1) * v1 + (r + v1) := by rw [a5]; grind
  rw [aH (n := r + v1) (by omega) (by omega), aH (by omega) (by omega)]
  refine Ok.cd (fun h => ?_) (fun h => ?_)
  · have hb := dcT h
    have hlt : g - 1 < 1000000000 := by
     by_cases hh : g - 1 < 1000000000
     · exact hh
     · have : 1000000000 * v1 <= (g - 1) * v1 := mrT (by omega) (by omega)
       omega
    refine aw.2 ⟨by omega, hlt, by rw [(by omega : g - 1 + 1 = g)]; exact hW, stop (g - 1) (r + v1) (by omega) hlt e5 ?_⟩
    have : (g - 1) * v2 <= 999999999 * 999999999 := Int.mul_le_mul (by omega) (by omega) hv2.1 (by omega)
    omega
  · have hb := dcF h
    exact ih _ ⟨by simp only; omega, by simp only; omega, by simp only; omega, by simp only; omega, e5, by simp only; rw [(by omega : g - 1 + 1 = g)]; exact hW⟩ (by simp only; omega)
 refine Ok.cd (fun h => ?_) (fun h => ?_)
 · exact next (.inl (dcT h))
 · have hg := dcF h
   refine Ok.gd (by rw [bg]; simpa using hi1) (Ok.gd (by rw [bg]; simpa using hi2) ?_)
   have m1 : 0 <= g * v2 := Int.mul_nonneg a1 hv2.1
   have m2 : g * v2 <= 999999999 * 999999999 := Int.mul_le_mul (by omega) (by omega) hv2.1 (by omega)
   rw [aH (n := g * v2) (by omega) (by omega), aH (n := r * 1000000000) (by omega) (by omega), aH (n := r * 1000000000 + x0) (by omega) (by omega)]
   refine Ok.cd (fun h => ?_) (fun h => ?_)
   · exact next (.inr (dcT h))
   · have := dcF h
     exact aw.2 ⟨a1, by omega, a6, stop g r a1 (by omega) a5 (by omega)⟩
theorem DS {n : Nat} (hn : 1000 <= n) {v u0 : List Int} {g : Int} {j : Nat} (hv : Dig v) (hu : Dig u0) (hg : 0 <= g /\ g < 1000000000) (lv : v.length <= 400) (lu : u0.length <= 900) (hj : j + v.length < u0.length) :
  Ok (aN (α := List Int × Int × Int × Int) (β := List Int × Int × Int) n (fun again x => match x with
   | (u, borrow, carry, i) => (
         cdO (decide (i < (v.length : Int))) (
          gdO (inR i v.length) (
          gdO (inR (FK (i + (j : Int))) u.length) (
          cdO (decide ((FK ((FK ((FK (gt u (FK (i + (j : Int))))) - borrow)) - (FK ((aa .u64 ((aa .u64 (g * (aa .u64 (gt v i)))) + carry)).tmod 1000000000)))) < 0)) (
           again (u.set (FK (i + (j : Int))).toNat (aa .u32 (FK ((FK ((FK ((FK (gt u (FK (i + (j : Int))))) - borrow)) - (FK ((aa .u64 ((aa .u64 (g * (aa .u64 (gt v i)))) + carry)).tmod 1000000000)))) + 1000000000))), 1, aa .u64 ((aa .u64 ((aa .u64 (g * (aa .u64 (gt v i)))) + carry)).tdiv 1000000000), FK (i + 1))
          ) (
           again (u.set (FK (i + (j : Int))).toNat (aa .u32 (FK ((FK ((FK (gt u (FK (i + (j : Int))))) - borrow)) - (FK ((aa .u64 ((aa .u64 (g * (aa .u64 (gt v i)))) + carry)).tmod 1000000000))))), 0, aa .u64 ((aa .u64 ((aa .u64 (g * (aa .u64 (gt v i)))) + carry)).tdiv 1000000000), FK (i + 1))
          )
          )
          )
         ) (
          some ((u, borrow, carry))
         )
    )) (u0, 0, 0, 0)) fun r => r.1.length = u0.length /\ Dig r.1 /\ (r.2.1 = 0 \/ r.2.1 = 1) /\ (0 <= r.2.2 /\ r.2.2 < 1000000000) /\ (∀ m, j + v.length <= m -> r.1.getD m 0 = u0.getD m 0) /\ vk r.1 j = vk u0 j /\ vl r.1 = vl u0 - pB j * (g * vl v) + pB (j + v.length) * (r.2.1 + r.2.2) := by
 refine dj (fun x : List Int × Int × Int × Int => ∃ i : Nat, x.2.2.2 = (i : Int) /\ i <= v.length /\ x.1.length = u0.length /\ Dig x.1 /\ (x.2.1 = 0 \/ x.2.1 = 1) /\ (0 <= x.2.2.1 /\ x.2.2.1 < 1000000000) /\ (∀ m, j + i <= m -> x.1.getD m 0 = u0.getD m 0) /\ vk x.1 j = vk u0 j /\ vl x.1 = vl u0 - pB j * (g * vk v i) + pB (j + i) * (x.2.1 + x.2.2.1)) (fun x => v.length - x.2.2.2.toNat) ?_ n (u0, 0, 0, 0)
  ⟨0, rfl, by omega, rfl, hu, .inl rfl, by simp, fun m _ => rfl, rfl, by simp [iD]⟩ (by simp; omega)
 rintro again ⟨u, bo, ca, x⟩ ⟨i, hx, h1, h2, h3, h4, h5, h6, h7, h8⟩ ih
 simp only at hx h2 h3 h4 h5 h6 h7 h8
 subst hx
 dsimp only
 refine Ok.cd (fun h => ?_) (fun h => ?_)
 · have hi : i < v.length := by have := dcT h; omega
   rw [lR (by omega) (by omega), dx, dx]
   refine Ok.gd (by rw [bg]; simpa using hi) (Ok.gd (by rw [bg]; simp; omega) ?_)
   have dv := cu hv i; have du := cu h3 (i + j)
   have m1 : 0 <= g * v.getD i 0 := Int.mul_nonneg hg.1 dv.1
   have m2 : g * v.getD i 0 <= 999999999 * 999999999 := Int.mul_le_mul (by omega) (by omega) dv.1 (by omega)
   rw [aH (n := v.getD i 0) (by omega) (by omega), aH (n := g * v.getD i 0) (by omega) (by omega), aH (n := g * v.getD i 0 + ca) (by omega) (by omega)]
   generalize hs : g * v.getD i 0 + ca = s
   have hs0 : 0 <= s := by omega
   rw [(od hs0).1, (od hs0).2]
   have hs1 : s / 1000000000 < 1000000000 := by omega
   have e : s = s % 1000000000 + 1000000000 * (s / 1000000000) := by omega
   rw [aH (n := s / 1000000000) (by omega) (by omega), wrap64_in (n := s % 1000000000) (by omega) (by omega), wrap64_in (n := u.getD (i + j) 0) (by omega) (by omega), wrap64_in (n := u.getD (i + j) 0 - bo) (by omega) (by omega), wrap64_in (n := u.getD (i + j) 0 - bo - s % 1000000000) (by omega) (by omega), ji (by omega), Int.toNat_natCast]
   have step : ∀ d b', (0 <= d /\ d < 1000000000) -> (b' = 0 \/ b' = 1) -> u.getD (i + j) 0 - bo - s % 1000000000 = d - 1000000000 * b' -> Ok (again (u.set (i + j) d, b', s / 1000000000, ((i + 1 : Nat) : Int))) fun r => r.1.length = u0.length /\ Dig r.1 /\ (r.2.1 = 0 \/ r.2.1 = 1) /\ (0 <= r.2.2 /\ r.2.2 < 1000000000) /\ (∀ m, j + v.length <= m -> r.1.getD m 0 = u0.getD m 0) /\ vk r.1 j = vk u0 j /\ vl r.1 = vl u0 - pB j * (g * vl v) + pB (j + v.length) * (r.2.1 + r.2.2) := by
    intro d b' hd hb hdb
    refine ih _ ⟨i + 1, rfl, by omega, by simpa using h2, jj h3 hd, hb, by simp only; omega, ?_, ?_, ?_⟩ (by simp; omega)
    · intro m hm
      simp only
      rw [iw (by omega)]
      exact h6 m (by omega)
    · simp only
      unfold vk at h7 ⊢
      rw [List.take_set_of_le (by omega)]; exact h7
    · simp only
      rw [kZ (by omega), fj, <- Nat.add_assoc, cA, Nat.add_comm i j, lf, h8, lf]
      rw [Nat.add_comm i j] at hdb
      have e2 : u.getD (j + i) 0 = d - 1000000000 * b' + bo + s % 1000000000 := by omega
      rw [e2]
      have e3 : s % 1000000000 = g * v.getD i 0 + ca - 1000000000 * (s / 1000000000) := by omega
      rw [e3]
      grind
   refine Ok.cd (fun h => ?_) (fun h => ?_)
   · have hlt := dcT h
     rw [wrap64_in (n := u.getD (i + j) 0 - bo - s % 1000000000 + 1000000000) (by omega) (by omega), bc (by omega) (by omega)]
     exact step _ 1 (by omega) (.inr rfl) (by omega)
   · have hlt := dcF h
     rw [bc (by omega) (by omega)]
     exact step _ 0 (by omega) (.inl rfl) (by omega)
 · have hi : i = v.length := by have := dcF h; omega
   subst hi
   rw [fO (l := v) (by omega)] at h8
   exact aw.2 ⟨h2, h3, h4, h5, h6, h7, h8⟩
theorem D7 {n : Nat} (hn : 1000 <= n) {v u0 : List Int} {j : Nat} (hv : Dig v) (hu : Dig u0) (lv : v.length <= 400) (lu : u0.length <= 900) (hj : j + v.length < u0.length) :
  Ok (aN (α := List Int × Int × Int) (β := List Int × Int) n (fun again x => match x with
   | (u, c, i) => (
               cdO (decide (i < (v.length : Int))) (
                gdO (inR (FK (i + (j : Int))) u.length) (
                gdO (inR i v.length) (
                cdO (decide ((aa .u32 ((aa .u32 ((gt u (FK (i + (j : Int)))) + (gt v i))) + c)) >= 1000000000)) (
                 again (u.set (FK (i + (j : Int))).toNat (aa .u32 ((aa .u32 ((aa .u32 ((gt u (FK (i + (j : Int)))) + (gt v i))) + c)) - 1000000000)), 1, FK (i + 1))
                ) (
                 again (u.set (FK (i + (j : Int))).toNat (aa .u32 ((aa .u32 ((gt u (FK (i + (j : Int)))) + (gt v i))) + c)), 0, FK (i + 1))
                )
                )
                )
               ) (
                some ((u, c))
               )
    )) (u0, 0, 0)) fun r => r.1.length = u0.length /\ Dig r.1 /\ (r.2 = 0 \/ r.2 = 1) /\ (∀ m, j + v.length <= m -> r.1.getD m 0 = u0.getD m 0) /\ vk r.1 j = vk u0 j /\ vl r.1 = vl u0 + pB j * vl v - pB (j + v.length) * r.2 := by
 refine dj (fun x : List Int × Int × Int => ∃ i : Nat, x.2.2 = (i : Int) /\ i <= v.length /\ x.1.length = u0.length /\ Dig x.1 /\ (x.2.1 = 0 \/ x.2.1 = 1) /\ (∀ m, j + i <= m -> x.1.getD m 0 = u0.getD m 0) /\ vk x.1 j = vk u0 j /\ vl x.1 = vl u0 + pB j * vk v i - pB (j + i) * x.2.1) (fun x => v.length - x.2.2.toNat) ?_ n (u0, 0, 0)
  ⟨0, rfl, by omega, rfl, hu, .inl rfl, fun m _ => rfl, rfl, by simp [iD]⟩ (by simp; omega)
 rintro again ⟨u, c, x⟩ ⟨i, hx, h1, h2, h3, h4, h6, h7, h8⟩ ih
 simp only at hx h2 h3 h4 h6 h7 h8
 subst hx
 dsimp only
 refine Ok.cd (fun h => ?_) (fun h => ?_)
 · have hi : i < v.length := by have := dcT h; omega
   rw [lR (by omega) (by omega), dx, dx]
   refine Ok.gd (by rw [bg]; simp; omega) (Ok.gd (by rw [bg]; simpa using hi) ?_)
   have dv := cu hv i; have du := cu h3 (i + j)
   rw [bc (n := u.getD (i + j) 0 + v.getD i 0) (by omega) (by omega), bc (n := u.getD (i + j) 0 + v.getD i 0 + c) (by omega) (by omega), ji (by omega), Int.toNat_natCast]
   have step : ∀ d c', (0 <= d /\ d < 1000000000) -> (c' = 0 \/ c' = 1) -> u.getD (i + j) 0 + v.getD i 0 + c = d + 1000000000 * c' -> Ok (again (u.set (i + j) d, c', ((i + 1 : Nat) : Int))) fun r => r.1.length = u0.length /\ Dig r.1 /\ (r.2 = 0 \/ r.2 = 1) /\ (∀ m, j + v.length <= m -> r.1.getD m 0 = u0.getD m 0) /\ vk r.1 j = vk u0 j /\ vl r.1 = vl u0 + pB j * vl v - pB (j + v.length) * r.2 := by
    intro d c' hd hc hdc
    refine ih _ ⟨i + 1, rfl, by omega, by simpa using h2, jj h3 hd, hc, ?_, ?_, ?_⟩ (by simp; omega)
    · intro m hm
      simp only
      rw [iw (by omega)]
      exact h6 m (by omega)
    · simp only
      unfold vk at h7 ⊢
      rw [List.take_set_of_le (by omega)]; exact h7
    · simp only
      rw [kZ (by omega), fj, <- Nat.add_assoc, cA, Nat.add_comm i j, lf, h8, lf]
      rw [Nat.add_comm i j] at hdc
      have e2 : u.getD (j + i) 0 = d + 1000000000 * c' - v.getD i 0 - c := by omega
      rw [e2]
      grind
   refine Ok.cd (fun h => ?_) (fun h => ?_)
   · have hlt := dcT h
     rw [bc (by omega) (by omega)]
     exact step _ 1 (by omega) (.inr rfl) (by omega)
   · have hlt := dcF h
     exact step _ 0 (by omega) (.inl rfl) (by omega)
 · have hi : i = v.length := by have := dcF h; omega
   subst hi
   rw [fO (l := v) (by omega)] at h8
   exact aw.2 ⟨h2, h3, h4, h6, h7, h8⟩
end Go.L

