import Derived.Test.YtecdcgfclgmbpaaGreatSidL01q
import Derived.Test.YtecdcgfclgmbpaaGreatPl6Sids
set_option linter.all false
namespace Go.L
open Go Go.Eng
theorem qi {j k : Nat} (h : j <= 4000000000) (h2 : k <= 4000000000) : G1 ((j : Int) + (k : Int)) = ((j + k : Nat) : Int) := by rw [wrap64_in (by omega) (by omega)]; omega
theorem C2 {p q o c : Int} (hp : 0 <= p /\ p < 1000000000) (hq : 0 <= q /\ q < 1000000000) (ho : 0 <= o /\ o < 1000000000) (hc : 0 <= c /\ c < 1000000000) :
  aa .u64 ((aa .u64 ((aa .u64 o) + (aa .u64 ((aa .u64 p) * (aa .u64 q))))) + c) = o + p * q + c /\ 0 <= o + p * q + c /\ o + p * q + c < 1000000000000000000 := by
 have h1 : 0 <= p * q := Int.mul_nonneg hp.1 hq.1
 have h2 : p * q <= 999999999 * 999999999 := Int.mul_le_mul (by omega) (by omega) hq.1 (by omega)
 rw [aX (n := o) (by omega) (by omega), aX (n := p) (by omega) (by omega), aX (n := q) (by omega) (by omega), aX (n := p * q) (by omega) (by omega), aX (n := o + p * q) (by omega) (by omega), aX (by omega) (by omega)]
 exact ⟨rfl, by omega, by omega⟩
theorem DZ {l : List Int} {j : Nat} (h : l.length <= j) : l.getD j 0 = 0 := by simp [List.getD, List.getElem?_eq_none h]
theorem C3 {k j : Nat} : (List.replicate k (0 : Int)).getD j 0 = 0 := by
 by_cases h : j < k
 · simp [List.getD, h]
 · exact DZ (by simpa using h)
theorem vo {n : Nat} {a b : List Int} (hn : 1000 <= n) (ha : Dig a) (hb : Dig b) (la : a.length <= 400) (lb : b.length <= 400) : Ok (ib n a b) fun r => Can r /\ vl r = vl a * vl b := by
 unfold ib
 rw [qi (by omega) (by omega)]
 refine Ok.gd (by simp; try omega) (Ok.gd (by simp; try omega) (Ok.gd (by simp; try omega) ?_))
 refine Ok.bd (R := fun r => Dig r /\ r.length <= 900 /\ vl r = vl a * vl b) ?_ (fun r h => Ok.bd (qp hn h.1 h.2.1) fun z hz => aC.2 ⟨hz.1, hz.2.trans h.2.2⟩)
 refine gE (fun x : List Int × Int => ∃ i : Nat, x.2 = (i : Int) /\ i <= a.length /\ x.1.length = a.length + b.length /\ Dig x.1 /\ (∀ j, i + b.length <= j -> x.1.getD j 0 = 0) /\ vl x.1 = vk a i * vl b) (fun x => a.length - x.2.toNat) ?_ n _
  ⟨0, rfl, by omega, (by simp; omega), uk _, fun j _ => C3, by simp [qx, z6]⟩ (by simp; omega)
 rintro again ⟨out, x⟩ ⟨i, hx, h4, h5, h6, h7, h8⟩ ih
 simp only at hx h5 h6 h7 h8
 subst hx
 dsimp only
 have da := fi ha i
 refine Ok.cd (fun h => ?_) (fun h => ?_)
 · have hi : i < a.length := by simp at h; omega
   refine Ok.gd (by rw [b9]; simpa using hi) ?_
   rw [iw]
   refine Ok.bd (R := fun r => r.1.length = a.length + b.length /\ Dig r.1 /\ (0 <= r.2 /\ r.2 < 1000000000) /\ (∀ j, i + b.length <= j -> r.1.getD j 0 = 0) /\ vl r.1 + pB (i + b.length) * r.2 = vk a i * vl b + pB i * a.getD i 0 * vl b) ?_ ?_
   · refine gE (fun y : List Int × Int × Int => ∃ j : Nat, y.2.2 = (j : Int) /\ j <= b.length /\ y.1.length = a.length + b.length /\ Dig y.1 /\ (0 <= y.2.1 /\ y.2.1 < 1000000000) /\ (∀ m, i + b.length <= m -> y.1.getD m 0 = 0) /\ vl y.1 + pB (i + j) * y.2.1 = vk a i * vl b + pB i * a.getD i 0 * vk b j) (fun y => b.length - y.2.2.toNat) ?_ n _
      ⟨0, rfl, by omega, h5, h6, by simp, h7, by simp [qx, h8]⟩ (by simp; omega)
     rintro again' ⟨out', c, y⟩ ⟨j, hy, k4, k5, k6, k7, k8, k9⟩ ih'
     simp only at hy k5 k6 k7 k8 k9
     subst hy
     dsimp only
     have db := fi hb j
     refine Ok.cd (fun h => ?_) (fun h => ?_)
     · have hj : j < b.length := by simp at h; omega
       refine Ok.gd (by rw [b9]; simpa using hj) ?_
       rw [qi (by omega) (by omega)]
       refine Ok.gd (by rw [b9]; simp; omega) ?_
       rw [iw, iw]
       have dout := fi k6 (i + j)
       obtain ⟨e1, e2, e3⟩ := C2 da db dout k7
       rw [e1]
       generalize hs : out'.getD (i + j) 0 + a.getD i 0 * b.getD j 0 + c = s at e1 e2 e3
       have t1 : s.tdiv 1000000000 = s / 1000000000 := Int.tdiv_eq_ediv_of_nonneg e2
       have t2 : s.tmod 1000000000 = s % 1000000000 := Int.tmod_eq_emod_of_nonneg e2
       rw [t1, t2, bU (by omega) (by omega), aX (by omega) (by omega), oK (by omega), Int.toNat_natCast]
       refine ih' _ ⟨j + 1, rfl, by omega, by simpa using k5, kQ k6 (by omega), by simp only; omega, ?_, ?_⟩ (by simp; omega)
       · intro m hm
         simp only
         rw [kH (by omega)]
         exact k8 m hm
       · simp only
         rw [pg (by omega), kK, <- Nat.add_assoc, eK, lR] 
         rw [lR] at k9
         have : s = s % 1000000000 + 1000000000 * (s / 1000000000) := by omega
         grind
     · have hj : j = b.length := by simp at h; omega
       subst hj
       rw [jX (l := b) (by omega)] at k9
       exact aC.2 ⟨k5, k6, k7, k8, k9⟩
   · rintro ⟨out', c⟩ ⟨k5, k6, k7, k8, k9⟩
     simp only at k5 k6 k7 k8 k9
     dsimp only
     rw [qi (by omega) (by omega)]
     refine Ok.gd (by rw [b9]; simp; omega) ?_
     rw [bU (by omega) (by omega), oK (by omega), Int.toNat_natCast]
     refine ih _ ⟨i + 1, rfl, by omega, by simpa using k5, kQ k6 k7, ?_, ?_⟩ (by simp; omega)
     · intro m hm
       simp only
       rw [kH (by omega)]
       exact k8 m (by omega)
     · simp only
       rw [pg (by omega), kK, k8 _ (by omega)]
       grind
 · have hi : i = a.length := by simp at h; omega
   subst hi
   rw [jX (l := a) (by omega)] at h8
   exact aC.2 ⟨h6, by omega, h8⟩
theorem rr {n : Nat} {x y : ae} {v w : Int} (hn : 1000 <= n) (hx : isI x.Negative x.Groups v) (hy : isI y.Negative y.Groups w) (lx : x.Groups.length <= 400) (ly : y.Groups.length <= 400) : Ok (cJ n x y) fun z => isI z.Negative z.Groups (v * w) := by
 unfold cJ
 refine Ok.bde (fP hn (by omega) hx) (Ok.bde (fP hn (by omega) hy) ?_)
 refine Ok.bd (vo hn hx.1.dig hy.1.dig lx ly) ?_
 rintro r ⟨h1, h2⟩
 have hlen : r.length <= 900 := by
  have := oT h1 (k := x.Groups.length + y.Groups.length) (by
   have a1 := jj hx.1.dig; have a2 := jj hy.1.dig; have a3 := bL hx.1.dig; have a4 := bL hy.1.dig
   rw [h2, lR]
   have b1 := jI x.Groups.length
   have : vl x.Groups * vl y.Groups <= pB x.Groups.length * vl y.Groups := mrT (by omega) a4
   have : pB x.Groups.length * vl y.Groups < pB x.Groups.length * pB y.Groups.length := Int.mul_lt_mul_of_pos_left a2 (by omega)
   omega)
  omega
 refine Ok.bd (gG hn _ h1.dig hlen) ?_
 intro z hz
 refine aC.2 ?_
 rw [h2] at hz
 have : v * w = if (x.Negative != y.Negative) = true then -(vl x.Groups * vl y.Groups) else vl x.Groups * vl y.Groups := by
  rw [hx.2.2, hy.2.2]
  cases x.Negative <;> cases y.Negative <;> simp <;> grind
 rw [this]; exact hz
theorem Fa {n : Nat} {p q : Bool} {a b : List Int} {v w : Int} (hn : 1000 <= n) (hx : isI p a v) (hy : isI q b w) (lx : a.length <= 400) (ly : b.length <= 400) : Ok (kY n p a q b) fun z => isI z.Negative z.Groups (v + w) := by
 unfold kY
 have h0 : ∀ {r : List Int}, Can r -> vl r <= vl a + vl b -> r.length <= 900 := by
  intro r hr hv
  have := oT hr (k := 401) (by
   have a1 := jj hx.1.dig; have a2 := jj hy.1.dig
   have p1 := jB lx; have p2 := jB ly; have p3 : pB 401 = 1000000000 * pB 400 := eK 400; have := jI 400
   omega)
  omega
 have pa := bL hx.1.dig; have pb := bL hy.1.dig
 refine Ok.cd (fun h => ?_) (fun h => ?_)
 · have hpq : p = q := by simpa using h
   subst hpq
   refine Ok.bd (An hn hx.1.dig hy.1.dig lx ly) ?_
   rintro r ⟨h1, h2⟩
   refine Ok.bd (gG hn _ h1.dig (h0 h1 (by omega))) fun z hz => aC.2 ?_
   have : v + w = if p = true then -vl r else vl r := by rw [hx.2.2, hy.2.2, h2]; cases p <;> simp <;> omega
   rw [this]; exact hz
 · rw [kG hx.1 hy.1 lx ly]
   show Ok (cdO _ _ _) _
   have hpq : p = !q := by cases p <;> cases q <;> simp at h ⊢
   refine Ok.cd (fun h => ?_) (fun h => ?_)
   · have hle : vl b <= vl a := by
      by_cases hh : vl a - vl b < 0
      · rw [o6 hh] at h; simp at h
      · omega
     have hlen : b.length <= a.length := by
      by_cases hh : a.length < b.length
      · have := fD hx.1.dig hy.1 hh; omega
      · omega
     refine Ok.bd (u4 hn hx.1.dig hy.1.dig lx hlen hle) ?_
     rintro r ⟨h1, h2⟩
     refine Ok.bd (gG hn _ h1.dig (h0 h1 (by omega))) fun z hz => aC.2 ?_
     have : v + w = if p = true then -vl r else vl r := by rw [hx.2.2, hy.2.2, h2, hpq]; cases q <;> simp <;> omega
     rw [this]; exact hz
   · have hle : vl a < vl b := by
      rcases c7 (vl a - vl b) with ⟨g1, g2⟩ | ⟨g1, g2⟩ | ⟨g1, g2⟩
      · omega
      · rw [g2] at h; simp at h
      · rw [g2] at h; simp at h
     have hlen : a.length <= b.length := by
      by_cases hh : b.length < a.length
      · have := fD hy.1.dig hx.1 hh; omega
      · omega
     refine Ok.bd (u4 hn hy.1.dig hx.1.dig ly hlen (by omega)) ?_
     rintro r ⟨h1, h2⟩
     refine Ok.bd (gG hn _ h1.dig (h0 h1 (by omega))) fun z hz => aC.2 ?_
     have : v + w = if q = true then -vl r else vl r := by rw [hx.2.2, hy.2.2, h2, hpq]; cases q <;> simp <;> omega
     rw [this]; exact hz
theorem Fl {n : Nat} {x y : ae} {v w : Int} (hn : 1000 <= n) (hx : isI x.Negative x.Groups v) (hy : isI y.Negative y.Groups w) (lx : x.Groups.length <= 400) (ly : y.Groups.length <= 400) : Ok (kW n x y) fun z => isI z.Negative z.Groups (v + w) := by
 unfold kW
 refine Ok.bde (fP hn (by omega) hx) (Ok.bde (fP hn (by omega) hy) ?_)
 exact Ok.bd (Fa hn hx hy lx ly) fun z hz => aC.2 hz
end Go.L


set_option linter.all false
namespace Go.L
open Go Go.Eng
theorem vB {m d : Int} (h : 0 <= m) : m.tdiv d = m / d /\ m.tmod d = m % d := ⟨Int.tdiv_eq_ediv_of_nonneg h, Int.tmod_eq_emod_of_nonneg h⟩
theorem CM {n : Nat} (hn : 1000 <= n) {P W V wl x0 x1 x2 vw v1 v2 g0 r0 : Int} (k : KN P W V wl x0 x1 x2 vw v1 v2) (hg0 : g0 = (x1 + 1000000000 * x2) / v1) (hr0 : r0 = (x1 + 1000000000 * x2) % v1) {i1 i2 l1 l2 : Nat} (hi1 : i1 < l1) (hi2 : i2 < l2) :
  Ok (aN (α := Int × Int) (β := Int) n (fun again x => match x with
   | (guess, rest) => (
     cdO (decide (guess >= 1000000000)) (
      cdO (decide ((aa .u64 (rest + v1)) >= 1000000000)) (
       some (aa .u64 (guess - 1))
      ) (
       again (aa .u64 (guess - 1), aa .u64 (rest + v1))
      )
     ) (
      gdO (inR (i1 : Int) l1) (
      gdO (inR (i2 : Int) l2) (
      cdO (decide ((aa .u64 (guess * v2)) > (aa .u64 ((aa .u64 (rest * 1000000000)) + x0)))) (
       cdO (decide ((aa .u64 (rest + v1)) >= 1000000000)) (
        some (aa .u64 (guess - 1))
       ) (
        again (aa .u64 (guess - 1), aa .u64 (rest + v1))
       )
      ) (
       some (guess)
      )
      )
      )
     )
    )) (g0, r0)) fun g => 0 <= g /\ g < 1000000000 /\ W < (g + 1) * V /\ (1 <= g -> (g - 1) * V <= W) := by
 have hv1 := k.v1; have hv2 := k.v2; have hx0 := k.x0; have hx1 := k.x1; have hx2 := k.x2
 have htop := k.top
 have hem := Int.emod_add_mul_ediv (x1 + 1000000000 * x2) v1
 have hr1 := Int.emod_lt_of_pos (x1 + 1000000000 * x2) (by omega : 0 < v1)
 have hr2 := Int.emod_nonneg (x1 + 1000000000 * x2) (by omega : v1 ≠ 0)
 rw [<- hg0, <- hr0] at hem
 rw [<- hr0] at hr1 hr2
 have hg2 : 0 <= g0 := by rw [hg0]; exact Int.ediv_nonneg (by omega) (by omega)
 have hcomm : v1 * g0 = g0 * v1 := Int.mul_comm _ _
 have hVpos : 0 <= V := by
  have h1 := k.v; have h2 := k.vw; have h3 : 0 <= P * (v2 + 1000000000 * v1) := Int.mul_nonneg (by have := k.p; omega) (by omega)
  omega
 have dec : ∀ g r : Int, 0 <= g -> g <= 1000000001 -> 0 <= r -> r < 1000000000 -> x1 + 1000000000 * x2 = g * v1 + r -> (1000000000 <= g \/ r * 1000000000 + x0 < g * v2) -> W < g * V := by
  intro g r h1 h2 h3 h4 h5 h6
  rcases h6 with h6 | h6
  · have : 1000000000 * V <= g * V := mrT h6 hVpos
    have := k.lt; omega
  · refine k.less h1 ?_
    have : g * (v2 + 1000000000 * v1) = g * v2 + 1000000000 * (g * v1) := by grind
    omega
 have stop : ∀ g r : Int, 0 <= g -> g < 1000000000 -> x1 + 1000000000 * x2 = g * v1 + r -> g * v2 <= r * 1000000000 + x0 -> (1 <= g -> (g - 1) * V <= W) := by
  intro g r h1 h2 h5 h6 h7
  refine k.more h7 (by omega) ?_
  have : g * (v2 + 1000000000 * v1) = g * v2 + 1000000000 * (g * v1) := by grind
  omega
 have hgb : g0 <= 1000000001 := by
  by_cases h : g0 <= 1000000001
  · exact h
  · have : 1000000002 * v1 <= g0 * v1 := mrT (by omega) (by omega)
    omega
 refine gE (fun x : Int × Int => 0 <= x.1 /\ x.1 <= 1000000001 /\ 0 <= x.2 /\ x.2 < 1000000000 /\ x1 + 1000000000 * x2 = x.1 * v1 + x.2 /\ W < (x.1 + 1) * V) (fun x => ((1000000000 - x.2) / 500000000).toNat) ?_ n (g0, r0) ⟨hg2, hgb, hr2, (by show r0 < 1000000000; omega), (by show _ = g0 * v1 + r0; omega), (show W < (g0 + 1) * V from k.first hr1 hg2 (by omega))⟩ (by simp only; omega)
 rintro again ⟨g, r⟩ ⟨a1, a2, a3, a4, a5, a6⟩ ih
 simp only at a1 a2 a3 a4 a5 a6
 have next : (1000000000 <= g \/ r * 1000000000 + x0 < g * v2) -> Ok (cdO (decide ((aa .u64 (r + v1)) >= 1000000000)) (some (aa .u64 (g - 1))) (again (aa .u64 (g - 1), aa .u64 (r + v1)))) fun g => 0 <= g /\ g < 1000000000 /\ W < (g + 1) * V /\ (1 <= g -> (g - 1) * V <= W) := by
  intro h
  have hW := dec g r a1 a2 a3 a4 a5 h
  have hg1 : 1 <= g := by
   rcases h with h | h
   · omega
   · by_cases h0 : g = 0
     · rw [h0] at h; omega
     · omega
  have e5 : x1 + 1000000000 * x2 = (g - 1) * v1 + (r + v1) := by rw [a5]; grind
  rw [aX (n := r + v1) (by omega) (by omega), aX (by omega) (by omega)]
  refine Ok.cd (fun h => ?_) (fun h => ?_)
  · have hb := dcT h
    have hlt : g - 1 < 1000000000 := by
     by_cases hh : g - 1 < 1000000000
     · exact hh
     · have : 1000000000 * v1 <= (g - 1) * v1 := mrT (by omega) (by omega)
       omega
    refine aC.2 ⟨by omega, hlt, by rw [(by omega : g - 1 + 1 = g)]; exact hW, stop (g - 1) (r + v1) (by omega) hlt e5 ?_⟩
    have : (g - 1) * v2 <= 999999999 * 999999999 := Int.mul_le_mul (by omega) (by omega) hv2.1 (by omega)
    omega
  · have hb := dcF h
    exact ih _ ⟨by simp only; omega, by simp only; omega, by simp only; omega, by simp only; omega, e5, by simp only; rw [(by omega : g - 1 + 1 = g)]; exact hW⟩ (by simp only; omega)
 refine Ok.cd (fun h => ?_) (fun h => ?_)
 · exact next (.inl (dcT h))
 · have hg := dcF h
   refine Ok.gd (by rw [b9]; simpa using hi1) (Ok.gd (by rw [b9]; simpa using hi2) ?_)
   have m1 : 0 <= g * v2 := Int.mul_nonneg a1 hv2.1
   have m2 : g * v2 <= 999999999 * 999999999 := Int.mul_le_mul (by omega) (by omega) hv2.1 (by omega)
   rw [aX (n := g * v2) (by omega) (by omega), aX (n := r * 1000000000) (by omega) (by omega), aX (n := r * 1000000000 + x0) (by omega) (by omega)]
   refine Ok.cd (fun h => ?_) (fun h => ?_)
   · exact next (.inr (dcT h))
   · have := dcF h
     exact aC.2 ⟨a1, by omega, a6, stop g r a1 (by omega) a5 (by omega)⟩
theorem EF {n : Nat} (hn : 1000 <= n) {v u0 : List Int} {g : Int} {j : Nat} (hv : Dig v) (hu : Dig u0) (hg : 0 <= g /\ g < 1000000000) (lv : v.length <= 400) (lu : u0.length <= 900) (hj : j + v.length < u0.length) :
  Ok (aN (α := List Int × Int × Int × Int) (β := List Int × Int × Int) n (fun again x => match x with
   | (u, borrow, carry, i) => (
         cdO (decide (i < (v.length : Int))) (
          gdO (inR i v.length) (
          gdO (inR (G1 (i + (j : Int))) u.length) (
          cdO (decide ((G1 ((G1 ((G1 (gt u (G1 (i + (j : Int))))) - borrow)) - (G1 ((aa .u64 ((aa .u64 (g * (aa .u64 (gt v i)))) + carry)).tmod 1000000000)))) < 0)) (
           again (u.set (G1 (i + (j : Int))).toNat (aa .u32 (G1 ((G1 ((G1 ((G1 (gt u (G1 (i + (j : Int))))) - borrow)) - (G1 ((aa .u64 ((aa .u64 (g * (aa .u64 (gt v i)))) + carry)).tmod 1000000000)))) + 1000000000))), 1, aa .u64 ((aa .u64 ((aa .u64 (g * (aa .u64 (gt v i)))) + carry)).tdiv 1000000000), G1 (i + 1))
          ) (
           again (u.set (G1 (i + (j : Int))).toNat (aa .u32 (G1 ((G1 ((G1 (gt u (G1 (i + (j : Int))))) - borrow)) - (G1 ((aa .u64 ((aa .u64 (g * (aa .u64 (gt v i)))) + carry)).tmod 1000000000))))), 0, aa .u64 ((aa .u64 ((aa .u64 (g * (aa .u64 (gt v i)))) + carry)).tdiv 1000000000), G1 (i + 1))
          )
          )
          )
         ) (
          some ((u, borrow, carry))
         )
    )) (u0, 0, 0, 0)) fun r => r.1.length = u0.length /\ Dig r.1 /\ (r.2.1 = 0 \/ r.2.1 = 1) /\ (0 <= r.2.2 /\ r.2.2 < 1000000000) /\ (∀ m, j + v.length <= m -> r.1.getD m 0 = u0.getD m 0) /\ vk r.1 j = vk u0 j /\ vl r.1 = vl u0 - pB j * (g * vl v) + pB (j + v.length) * (r.2.1 + r.2.2) := by
 refine gE (fun x : List Int × Int × Int × Int => ∃ i : Nat, x.2.2.2 = (i : Int) /\ i <= v.length /\ x.1.length = u0.length /\ Dig x.1 /\ (x.2.1 = 0 \/ x.2.1 = 1) /\ (0 <= x.2.2.1 /\ x.2.2.1 < 1000000000) /\ (∀ m, j + i <= m -> x.1.getD m 0 = u0.getD m 0) /\ vk x.1 j = vk u0 j /\ vl x.1 = vl u0 - pB j * (g * vk v i) + pB (j + i) * (x.2.1 + x.2.2.1)) (fun x => v.length - x.2.2.2.toNat) ?_ n (u0, 0, 0, 0)
  ⟨0, rfl, by omega, rfl, hu, .inl rfl, by simp, fun m _ => rfl, rfl, by simp [qx]⟩ (by simp; omega)
 rintro again ⟨u, bo, ca, x⟩ ⟨i, hx, h1, h2, h3, h4, h5, h6, h7, h8⟩ ih
 simp only at hx h2 h3 h4 h5 h6 h7 h8
 subst hx
 dsimp only
 refine Ok.cd (fun h => ?_) (fun h => ?_)
 · have hi : i < v.length := by have := dcT h; omega
   rw [qi (by omega) (by omega), iw, iw]
   refine Ok.gd (by rw [b9]; simpa using hi) (Ok.gd (by rw [b9]; simp; omega) ?_)
   have dv := fi hv i; have du := fi h3 (i + j)
   have m1 : 0 <= g * v.getD i 0 := Int.mul_nonneg hg.1 dv.1
   have m2 : g * v.getD i 0 <= 999999999 * 999999999 := Int.mul_le_mul (by omega) (by omega) dv.1 (by omega)
   rw [aX (n := v.getD i 0) (by omega) (by omega), aX (n := g * v.getD i 0) (by omega) (by omega), aX (n := g * v.getD i 0 + ca) (by omega) (by omega)]
   generalize hs : g * v.getD i 0 + ca = s
   have hs0 : 0 <= s := by omega
   rw [(vB hs0).1, (vB hs0).2]
   have hs1 : s / 1000000000 < 1000000000 := by omega
   have e : s = s % 1000000000 + 1000000000 * (s / 1000000000) := by omega
   rw [aX (n := s / 1000000000) (by omega) (by omega), wrap64_in (n := s % 1000000000) (by omega) (by omega), wrap64_in (n := u.getD (i + j) 0) (by omega) (by omega), wrap64_in (n := u.getD (i + j) 0 - bo) (by omega) (by omega), wrap64_in (n := u.getD (i + j) 0 - bo - s % 1000000000) (by omega) (by omega), oK (by omega), Int.toNat_natCast]
   have step : ∀ d b', (0 <= d /\ d < 1000000000) -> (b' = 0 \/ b' = 1) -> u.getD (i + j) 0 - bo - s % 1000000000 = d - 1000000000 * b' -> Ok (again (u.set (i + j) d, b', s / 1000000000, ((i + 1 : Nat) : Int))) fun r => r.1.length = u0.length /\ Dig r.1 /\ (r.2.1 = 0 \/ r.2.1 = 1) /\ (0 <= r.2.2 /\ r.2.2 < 1000000000) /\ (∀ m, j + v.length <= m -> r.1.getD m 0 = u0.getD m 0) /\ vk r.1 j = vk u0 j /\ vl r.1 = vl u0 - pB j * (g * vl v) + pB (j + v.length) * (r.2.1 + r.2.2) := by
    intro d b' hd hb hdb
    refine ih _ ⟨i + 1, rfl, by omega, by simpa using h2, kQ h3 hd, hb, by simp only; omega, ?_, ?_, ?_⟩ (by simp; omega)
    · intro m hm
      simp only
      rw [kH (by omega)]
      exact h6 m (by omega)
    · simp only
      unfold vk at h7 ⊢
      rw [List.take_set_of_le (by omega)]; exact h7
    · simp only
      rw [pg (by omega), kK, <- Nat.add_assoc, eK, Nat.add_comm i j, lR, h8, lR]
      rw [Nat.add_comm i j] at hdb
      have e2 : u.getD (j + i) 0 = d - 1000000000 * b' + bo + s % 1000000000 := by omega
      rw [e2]
      have e3 : s % 1000000000 = g * v.getD i 0 + ca - 1000000000 * (s / 1000000000) := by omega
      rw [e3]
      grind
   refine Ok.cd (fun h => ?_) (fun h => ?_)
   · have hlt := dcT h
     rw [wrap64_in (n := u.getD (i + j) 0 - bo - s % 1000000000 + 1000000000) (by omega) (by omega), bU (by omega) (by omega)]
     exact step _ 1 (by omega) (.inr rfl) (by omega)
   · have hlt := dcF h
     rw [bU (by omega) (by omega)]
     exact step _ 0 (by omega) (.inl rfl) (by omega)
 · have hi : i = v.length := by have := dcF h; omega
   subst hi
   rw [jX (l := v) (by omega)] at h8
   exact aC.2 ⟨h2, h3, h4, h5, h6, h7, h8⟩
theorem E5 {n : Nat} (hn : 1000 <= n) {v u0 : List Int} {j : Nat} (hv : Dig v) (hu : Dig u0) (lv : v.length <= 400) (lu : u0.length <= 900) (hj : j + v.length < u0.length) :
  Ok (aN (α := List Int × Int × Int) (β := List Int × Int) n (fun again x => match x with
   | (u, c, i) => (
               cdO (decide (i < (v.length : Int))) (
                gdO (inR (G1 (i + (j : Int))) u.length) (
                gdO (inR i v.length) (
                cdO (decide ((aa .u32 ((aa .u32 ((gt u (G1 (i + (j : Int)))) + (gt v i))) + c)) >= 1000000000)) (
                 again (u.set (G1 (i + (j : Int))).toNat (aa .u32 ((aa .u32 ((aa .u32 ((gt u (G1 (i + (j : Int)))) + (gt v i))) + c)) - 1000000000)), 1, G1 (i + 1))
                ) (
                 again (u.set (G1 (i + (j : Int))).toNat (aa .u32 ((aa .u32 ((gt u (G1 (i + (j : Int)))) + (gt v i))) + c)), 0, G1 (i + 1))
                )
                )
                )
               ) (
                some ((u, c))
               )
    )) (u0, 0, 0)) fun r => r.1.length = u0.length /\ Dig r.1 /\ (r.2 = 0 \/ r.2 = 1) /\ (∀ m, j + v.length <= m -> r.1.getD m 0 = u0.getD m 0) /\ vk r.1 j = vk u0 j /\ vl r.1 = vl u0 + pB j * vl v - pB (j + v.length) * r.2 := by
 refine gE (fun x : List Int × Int × Int => ∃ i : Nat, x.2.2 = (i : Int) /\ i <= v.length /\ x.1.length = u0.length /\ Dig x.1 /\ (x.2.1 = 0 \/ x.2.1 = 1) /\ (∀ m, j + i <= m -> x.1.getD m 0 = u0.getD m 0) /\ vk x.1 j = vk u0 j /\ vl x.1 = vl u0 + pB j * vk v i - pB (j + i) * x.2.1) (fun x => v.length - x.2.2.toNat) ?_ n (u0, 0, 0)
  ⟨0, rfl, by omega, rfl, hu, .inl rfl, fun m _ => rfl, rfl, by simp [qx]⟩ (by simp; omega)
 rintro again ⟨u, c, x⟩ ⟨i, hx, h1, h2, h3, h4, h6, h7, h8⟩ ih
 simp only at hx h2 h3 h4 h6 h7 h8
 subst hx
 dsimp only
 refine Ok.cd (fun h => ?_) (fun h => ?_)
 · have hi : i < v.length := by have := dcT h; omega
   rw [qi (by omega) (by omega), iw, iw]
   refine Ok.gd (by rw [b9]; simp; omega) (Ok.gd (by rw [b9]; simpa using hi) ?_)
   have dv := fi hv i; have du := fi h3 (i + j)
   rw [bU (n := u.getD (i + j) 0 + v.getD i 0) (by omega) (by omega), bU (n := u.getD (i + j) 0 + v.getD i 0 + c) (by omega) (by omega), oK (by omega), Int.toNat_natCast]
   have step : ∀ d c', (0 <= d /\ d < 1000000000) -> (c' = 0 \/ c' = 1) -> u.getD (i + j) 0 + v.getD i 0 + c = d + 1000000000 * c' -> Ok (again (u.set (i + j) d, c', ((i + 1 : Nat) : Int))) fun r => r.1.length = u0.length /\ Dig r.1 /\ (r.2 = 0 \/ r.2 = 1) /\ (∀ m, j + v.length <= m -> r.1.getD m 0 = u0.getD m 0) /\ vk r.1 j = vk u0 j /\ vl r.1 = vl u0 + pB j * vl v - pB (j + v.length) * r.2 := by
    intro d c' hd hc hdc
    refine ih _ ⟨i + 1, rfl, by omega, by simpa using h2, kQ h3 hd, hc, ?_, ?_, ?_⟩ (by simp; omega)
    · intro m hm
      simp only
      rw [kH (by omega)]
      exact h6 m (by omega)
    · simp only
      unfold vk at h7 ⊢
      rw [List.take_set_of_le (by omega)]; exact h7
    · simp only
      rw [pg (by omega), kK, <- Nat.add_assoc, eK, Nat.add_comm i j, lR, h8, lR]
      rw [Nat.add_comm i j] at hdc
      have e2 : u.getD (j + i) 0 = d + 1000000000 * c' - v.getD i 0 - c := by omega
      rw [e2]
      grind
   refine Ok.cd (fun h => ?_) (fun h => ?_)
   · have hlt := dcT h
     rw [bU (by omega) (by omega)]
     exact step _ 1 (by omega) (.inr rfl) (by omega)
   · have hlt := dcF h
     exact step _ 0 (by omega) (.inl rfl) (by omega)
 · have hi : i = v.length := by have := dcF h; omega
   subst hi
   rw [jX (l := v) (by omega)] at h8
   exact aC.2 ⟨h2, h3, h4, h6, h7, h8⟩
end Go.L

