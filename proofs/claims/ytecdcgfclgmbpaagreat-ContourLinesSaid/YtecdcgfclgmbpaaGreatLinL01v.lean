import Derived.Test.YtecdcgfclgmbpaaGreatLinL01s
import Derived.Test.YtecdcgfclgmbpaaGreatPl6Lins
set_option linter.all false
namespace Go.L.R
open Go Go.Eng Go.L
theorem od {m d : Int} (h : 0 <= m) : m.tdiv d = m / d /\ m.tmod d = m % d := ⟨Int.tdiv_eq_ediv_of_nonneg h, Int.tmod_eq_emod_of_nonneg h⟩
theorem wO {n : Nat} {g : List Int} (hn : 1000 <= n) (hd : Dig g) (hl : g.length <= 900) : Ok (aV n false g) fun z => Can z.Groups /\ vl z.Groups = vl g :=
 (dR hn false hd hl).mono fun z hz => ⟨hz.1, by have h1 := gX hz; have h2 := ba hd; simp only [Bool.false_eq_true, if_false] at h1; omega⟩
theorem mX {n : Nat} {a : List Int} {d : Int} (hn : 1000 <= n) (ha : Dig a) (la : a.length <= 900) (hd : 0 < d) (hd2 : d <= 1000000000) : Ok (eO n a d) fun r => Can r.1 /\ (0 <= r.2 /\ r.2 < d) /\ vl r.1 * d + r.2 = vl a := by
 unfold eO
 refine Ok.gd (by simp) (Ok.gd (by simp; omega) (Ok.gd (by simp; omega) ?_))
 refine Ok.bd (R := fun r => Dig r.1 /\ r.1.length = a.length /\ (0 <= r.2 /\ r.2 < d) /\ vl r.1 * d + r.2 = vl a) ?_ ?_
 · refine dj (fun x : List Int × Int × Int => ∃ k : Nat, x.2.2 = (k : Int) - 1 /\ k <= a.length /\ x.1.length = a.length /\ Dig x.1 /\ (∀ i, i < k -> x.1.getD i 0 = 0) /\ (0 <= x.2.1 /\ x.2.1 < d) /\ vl x.1 * d + pB k * x.2.1 = vl a - vk a k) (fun x => (x.2.2 + 1).toNat) ?_ n _
    ⟨a.length, by simp only; rw [wrap64_in (by omega) (by omega)], Nat.le_refl _, by simp, pg _, fun i _ => tX, ⟨Int.le_refl _, hd⟩, by simp only; rw [fO (Nat.le_refl _), tI]; omega⟩ (by simp only; rw [wrap64_in (by omega) (by omega)]; omega)
   rintro again ⟨q, r, x⟩ ⟨k, hx, h1, h2, h3, h4, h5, h6⟩ ih
   simp only at hx h2 h3 h4 h5 h6
   subst hx
   dsimp only
   refine Ok.cd (fun h => ?_) (fun h => ?_)
   · have hk := dcT h
     obtain ⟨j, rfl⟩ : ∃ j, k = j + 1 := ⟨k - 1, by omega⟩
     have ej : (((j + 1 : Nat) : Int) - 1) = (j : Int) := by omega
     rw [ej]
     refine Ok.gd (by rw [bg]; simp; omega) (Ok.gd (by rw [decide_eq_false (by omega)]; rfl) (Ok.gd (by rw [bg]; simp; omega) ?_))
     rw [dx]
     have da := cu ha j
     rw [aH (n := r * 1000000000) (by omega) (by omega), aH (n := a.getD j 0) (by omega) (by omega), aH (n := r * 1000000000 + a.getD j 0) (by omega) (by omega)]
     generalize hs : r * 1000000000 + a.getD j 0 = s
     have hs0 : 0 <= s := by omega
     rw [(od hs0).1, (od hs0).2]
     have hm := Int.emod_add_mul_ediv s d
     have hm1 := Int.emod_nonneg s (by omega : d ≠ 0)
     have hm2 := Int.emod_lt_of_pos s hd
     have hq0 : 0 <= s / d := Int.ediv_nonneg hs0 (by omega)
     have hq1 : s / d < 1000000000 := (Int.ediv_lt_iff_lt_mul hd).2 (by omega)
     rw [aH hq0 (by omega), bc hq0 (by omega), Int.toNat_natCast, wrap64_in (n := (j : Int) - 1) (by omega) (by omega)]
     refine ih _ ⟨j, rfl, by omega, by simpa using h2, jj h3 ⟨hq0, hq1⟩, ?_, ⟨hm1, hm2⟩, ?_⟩ (by simp)
     · intro i hi
       simp only
       rw [iw (by omega)]
       exact h4 i (by omega)
     · simp only
       rw [kZ (by omega), h4 j (by omega)]
       rw [fj, cA] at h6
       rw [<- hs] at hm
       grind
   · have hk := dcF h
     obtain rfl : k = 0 := by omega
     rw [iD] at h6
     have : pB 0 = 1 := rfl
     rw [this] at h6
     exact aw.2 ⟨h3, h2, h5, by simp only; omega⟩
 · rintro ⟨q, r⟩ ⟨h1, h2, h3, h4⟩
   simp only at h1 h2 h3 h4
   dsimp only
   refine Ok.bd (wO hn h1 (by omega)) fun z hz => aw.2 ⟨hz.1, h3, ?_⟩
   simp only
   rw [hz.2]; exact h4
theorem tx {n : Nat} {a : List Int} {d : Int} (hn : 1000 <= n) (ha : Dig a) (la : a.length <= 800) (hd : 0 <= d) (hd2 : d < 1000000000) : Ok (b7 n a d) fun r => Can r /\ vl r = vl a * d := by
 unfold b7
 refine Ok.bd (R := fun r => Dig r.1 /\ r.1.length = a.length /\ (0 <= r.2 /\ r.2 < 1000000000) /\ vl r.1 + pB a.length * r.2 = vl a * d) ?_ ?_
 · refine dj (fun x : List Int × Int × Int => ∃ k : Nat, x.2.2 = (k : Int) /\ k <= a.length /\ x.1.length = k /\ Dig x.1 /\ (0 <= x.2.1 /\ x.2.1 < 1000000000) /\ vl x.1 + pB k * x.2.1 = vk a k * d) (fun x => a.length - x.2.2.toNat) ?_ n _
    ⟨0, rfl, by omega, rfl, mM, by simp, by simp [iD, vl]⟩ (by simp; omega)
   rintro again ⟨out, c, x⟩ ⟨k, hx, h1, h2, h3, h4, h5⟩ ih
   simp only at hx h2 h3 h4 h5
   subst hx
   dsimp only
   refine Ok.cd (fun h => ?_) (fun h => ?_)
   · have hk : k < a.length := by have := dcT h; omega
     refine Ok.gd (by rw [bg]; simpa using hk) (Ok.gd (by simp; omega) (Ok.gd (by simp; omega) ?_))
     rw [dx]
     have da := cu ha k
     have m1 : 0 <= a.getD k 0 * d := Int.mul_nonneg da.1 hd
     have m2 : a.getD k 0 * d <= 999999999 * 999999999 := Int.mul_le_mul (by omega) (by omega) hd (by omega)
     rw [aH (n := a.getD k 0) (by omega) (by omega), aH (n := a.getD k 0 * d) (by omega) (by omega), aH (n := a.getD k 0 * d + c) (by omega) (by omega)]
     generalize hs : a.getD k 0 * d + c = s
     have hs0 : 0 <= s := by omega
     rw [(od hs0).1, (od hs0).2, aH (n := s / 1000000000) (by omega) (by omega), bc (n := s % 1000000000) (by omega) (by omega), ji (by omega)]
     refine ih _ ⟨k + 1, rfl, by omega, by simp; omega, j5.2 ⟨h3, fy.2 (by omega)⟩, by simp only; omega, ?_⟩ (by simp; omega)
     simp only
     rw [kG, gw, h2, fj, cA]
     have : s % 1000000000 = a.getD k 0 * d + c - 1000000000 * (s / 1000000000) := by omega
     rw [this]
     grind
   · have hk := dcF h
     obtain rfl : k = a.length := by omega
     rw [fO (Nat.le_refl _)] at h5
     exact aw.2 ⟨h3, h2, h4, h5⟩
 · rintro ⟨out, c⟩ ⟨h1, h2, h3, h4⟩
   simp only at h1 h2 h3 h4
   dsimp only
   refine Ok.gd (by simp; omega) (Ok.gd (by simp; omega) ?_)
   rw [bc (by omega) (by omega)]
   refine Ok.bd (wO hn (j5.2 ⟨h1, fy.2 (by omega)⟩) (by simp; omega)) fun z hz => aw.2 ⟨hz.1, ?_⟩
   rw [hz.2, kG, gw, h2]; exact h4
theorem zZ {n : Nat} {a : List Int} {d : Int} (hn : 1000 <= n) (ha : Dig a) (la : a.length <= 800) (hd : 0 <= d /\ d < 1000000000) : Ok (dH n a d) fun r => Can r /\ vl r = d + 1000000000 * vl a := by
 unfold dH
 refine Ok.gd (by simp; omega) (Ok.gd (by simp; omega) ?_)
 refine Ok.bd (wO hn (j5.2 ⟨fy.2 hd, ha⟩) (by simp; omega)) fun z hz => aw.2 ⟨hz.1, ?_⟩
 rw [hz.2]; rfl
theorem Di {n : Nat} (hn : 1000 <= n) {v r0 : List Int} {g0 : Int} (hv : Can v) (hr : Can r0) (lv : v.length <= 400) (lr : r0.length <= 400) (hv0 : 0 < vl v) (hlt : vl r0 < 10 * vl v) (hg : 0 <= g0 /\ g0 <= 1000000000000000000) :
  Ok (aN (α := List Int × Int) (β := List Int × Int) n (fun again x => match x with
   | (rest, guess) => (
         bdO (cM n rest v) fun v85 => (
         cdO (decide (v85 >= 0)) (
          bdO (bX n rest v) fun v88 => (
          again (v88, aa .u64 (guess + 1))
          )
         ) (
          some ((rest, guess))
         )
         )
    )) (r0, g0)) fun r => Can r.1 /\ vl r.1 < vl v /\ g0 <= r.2 /\ vl r.1 + r.2 * vl v = vl r0 + g0 * vl v := by
 refine dj (fun x : List Int × Int => Can x.1 /\ x.1.length <= 400 /\ g0 <= x.2 /\ x.2 + vl x.1 / vl v = g0 + vl r0 / vl v /\ vl x.1 + x.2 * vl v = vl r0 + g0 * vl v) (fun x => (vl x.1 / vl v).toNat) ?_ n _ ⟨hr, lr, Int.le_refl _, rfl, rfl⟩ ?_
 · rintro again ⟨r, g⟩ ⟨h1, h2, h3, h4, h5⟩ ih
   simp only at h1 h2 h3 h4 h5
   dsimp only
   refine Ok.bde (xx hn h1 hv h2 lv) ?_
   have hs := iu (vl r - vl v)
   have hd0 : vl r0 / vl v <= 10 := Int.le_of_lt ((Int.ediv_lt_iff_lt_mul hv0).2 hlt)
   have hr0 := ba h1.dig
   have hq0 : 0 <= vl r / vl v := Int.ediv_nonneg hr0 (by omega)
   refine Ok.cd (fun h => ?_) (fun h => ?_)
   · have hle : vl v <= vl r := by have := dcT h; omega
     have ll : v.length <= r.length := by
      by_cases hl : v.length <= r.length
      · exact hl
      · have := cn h1.dig hv (by omega); omega
     refine Ok.bd (oW hn h1.dig hv.dig h2 ll hle) ?_
     rintro z ⟨z1, z2⟩
     have lz : z.length <= 400 := by
      by_cases hl : z.length <= 400
      · exact hl
      · have := cn h1.dig z1 (by omega); omega
     have ed : vl z / vl v = vl r / vl v - 1 := by
      rw [z2, (by omega : vl r - vl v = vl r + (-1) * vl v), Int.add_mul_ediv_right _ _ (by omega)]; omega
     have hz0 : 0 <= vl z / vl v := Int.ediv_nonneg (ba z1.dig) (by omega)
     rw [aH (n := g + 1) (by omega) (by omega)]
     exact ih _ ⟨z1, lz, by simp only; omega, by simp only; omega, by simp only; rw [z2]; grind⟩ (by simp only; omega)
   · have hlt : vl r < vl v := by have := dcF h; omega
     exact aw.2 ⟨h1, hlt, h3, h5⟩
 · have hd0 : vl r0 / vl v < 10 := (Int.ediv_lt_iff_lt_mul hv0).2 hlt
   simp only; omega
end Go.L.R


set_option linter.all false
namespace Go.L.R
open Go Go.Eng Go.L
def DZ (v A : List Int) (m : Nat) (r : List Int × List Int) : Prop := Can r.1 /\ vl r.1 < vl v /\ Dig r.2 /\ r.2.length = m /\ vl A = vl r.1 + vl r.2 * vl v
theorem Bz {n : Nat} (hn : 1000 <= n) {b v A r0 : List Int} {m : Nat} (hv : Can v) (lb : b.length = v.length) (hv1 : 500000000 <= v.getD (v.length - 1) 0) (lv : 2 <= v.length) (lv2 : v.length <= 350) (hA : Dig A) (lA : A.length + 1 = v.length + m) (lA2 : A.length <= 350) (h0 : Can r0) (h1 : vl r0 < vl v) (h2 : vl r0 = vl (A.drop m)) {j0 : Int} (hj0 : j0 = (m : Int) - 1) :
  Ok (aN (α := List Int × List Int × Int) (β := List Int × List Int) n (fun again60 (rest_22, q_23, i_24) => (
    cdO (decide (i_24 >= 0)) (
     gdO (inR i_24 A.length) (
     bdO (dH n rest_22 (gt A i_24)) fun v63 => (
     bdO (aZ n v63 (b.length : Int)) fun v65 => (
     bdO (aZ n v63 ((b.length - 1 : Nat) : Int)) fun v67 => (
     gdO (inR ((b.length - 1 : Nat) : Int) v.length) (
     gdO (!decide (aa .u64 ((aa .u64 (gt v ((b.length - 1 : Nat) : Int))) + 1) = 0)) (
     bdO (b7 n v (aa .u64 ((aa .u64 ((aa .u64 (v65 * 1000000000)) + v67)).tdiv (aa .u64 ((aa .u64 (gt v ((b.length - 1 : Nat) : Int))) + 1))))) fun v71 => (
     bdO (bX n v63 v71) fun v73 => (
     bdO (aN (α := List Int × Int) (β := List Int × Int) n (fun again84 (rest_75, guess_76) => (
      bdO (cM n rest_75 v) fun v85 => (
      cdO (decide (v85 >= 0)) (
       bdO (bX n rest_75 v) fun v88 => (
       again84 (v88, aa .u64 (guess_76 + 1))
       )
      ) (
       some ((rest_75, guess_76))
      )
      )
     )) (v73, aa .u64 ((aa .u64 ((aa .u64 (v65 * 1000000000)) + v67)).tdiv (aa .u64 ((aa .u64 (gt v ((b.length - 1 : Nat) : Int))) + 1))))) fun o90 => (
      match o90 with
      | (rest_82, guess_83) => (
       gdO (inR i_24 q_23.length) (
       again60 (rest_82, q_23.set i_24.toNat (aa .u32 guess_83), FK (i_24 - 1))
       )
      ))
     )
     )
     )
     )
     )
     )
     )
     )
    ) (
     some ((rest_22, q_23))
    )
   )) (r0, List.replicate m (0 : Int), j0)) (DZ v A m) := by
 subst hj0
 rw [lb]
 have hVp : 0 < vl v := jN hv (by rintro rfl; simp at lv)
 have hvlt := im hv.dig
 refine dj (fun x : List Int × List Int × Int => ∃ k : Nat, x.2.2 = (k : Int) - 1 /\ k <= m /\ Can x.1 /\ vl x.1 < vl v /\ x.2.1.length = m /\ Dig x.2.1 /\ (∀ i, i < k -> x.2.1.getD i 0 = 0) /\ vl A = vk A k + pB k * vl x.1 + vl x.2.1 * vl v) (fun x => (x.2.2 + 1).toNat) ?_ n _
  ⟨m, rfl, Nat.le_refl _, h0, h1, by simp, pg _, fun i _ => tX, by simp only; rw [tI, h2]; have := fB A m; omega⟩ (by simp only; omega)
 rintro again ⟨r, q, x⟩ ⟨k, hx, k1, k2, k3, k4, k5, k6, k7⟩ ih
 simp only at hx k2 k3 k4 k5 k6 k7
 subst hx
 dsimp only
 refine Ok.cd (fun h => ?_) (fun h => ?_)
 · have hk := dcT h
   obtain ⟨j, rfl⟩ : ∃ j, k = j + 1 := ⟨k - 1, by omega⟩
   have ej : (((j + 1 : Nat) : Int) - 1) = (j : Int) := by omega
   rw [ej]
   refine Ok.gd (by rw [bg]; simp; omega) ?_
   have dA := cu hA j
   have lr : r.length <= 350 := by
    by_cases hl : r.length <= v.length
    · omega
    · have := cn hv.dig k2 (by omega); omega
   rw [dx]
   refine Ok.bd (zZ hn k2.dig (by omega) dA) ?_
   rintro z ⟨z1, z2⟩
   have hW : vl z < 1000000000 * vl v := by omega
   have lz : z.length <= v.length + 1 := lQ z1 (by rw [cA]; omega)
   rw [l9 z1.dig, l9 z1.dig]
   refine Ok.bde rfl (Ok.bde rfl ?_)
   refine Ok.gd (by rw [bg]; simp; omega) ?_
   rw [dx]
   have d1 := cu hv.dig (v.length - 1)
   have c1 := cu z1.dig (v.length - 1)
   have c2 := cu z1.dig v.length
   have ez := fB z (v.length - 1)
   have ez1 := gJ z (v.length - 1)
   rw [(by omega : v.length - 1 + 1 = v.length)] at ez1
   have ez2 := gJ z v.length
   rw [List.drop_of_length_le (by omega : z.length <= v.length + 1)] at ez2
   have ev := fB v (v.length - 1)
   have ev1 := gJ v (v.length - 1)
   rw [List.drop_of_length_le (by omega : v.length <= v.length - 1 + 1)] at ev1
   have e00 : vl ([] : List Int) = 0 := rfl
   have fz0 := iY z1.dig (v.length - 1)
   have fz1 := sQ z1.dig (v.length - 1)
   have fv0 := iY hv.dig (v.length - 1)
   have fv1 := sQ hv.dig (v.length - 1)
   have hP := gU (v.length - 1)
   have ez3 : vl (z.drop (v.length - 1)) = z.getD (v.length - 1) 0 + 1000000000 * z.getD v.length 0 := by omega
   have ev2 : vl (v.drop (v.length - 1)) = v.getD (v.length - 1) 0 := by omega
   rw [ez3] at ez
   rw [ev2] at ev
   obtain ⟨P, hPe⟩ : ∃ P, pB (v.length - 1) = P := ⟨_, rfl⟩
   obtain ⟨t, ht⟩ : ∃ t, v.getD (v.length - 1) 0 = t := ⟨_, rfl⟩
   rw [ht] at hv1 d1 ev ⊢
   rw [hPe] at ez ev fz1 fv1 hP
   rw [aH (n := t) (by omega) (by omega), aH (n := t + 1) (by omega) (by omega), aH (n := z.getD v.length 0 * 1000000000) (by omega) (by omega), aH (n := z.getD v.length 0 * 1000000000 + z.getD (v.length - 1) 0) (by omega) (by omega)]
   refine Ok.gd (by rw [decide_eq_false (by omega)]; rfl) ?_
   obtain ⟨T, hT⟩ : ∃ T, z.getD v.length 0 * 1000000000 + z.getD (v.length - 1) 0 = T := ⟨_, rfl⟩
   rw [hT, (od (by omega)).1]
   have eT : z.getD (v.length - 1) 0 + 1000000000 * z.getD v.length 0 = T := by omega
   rw [eT] at ez
   obtain ⟨g, hg⟩ : ∃ g, T / (t + 1) = g := ⟨_, rfl⟩
   have hm := Int.emod_add_mul_ediv T (t + 1)
   have hm1 := Int.emod_nonneg T (by omega : t + 1 ≠ 0)
   have hm2 := Int.emod_lt_of_pos T (by omega : 0 < t + 1)
   rw [hg] at hm ⊢
   have hg0 : 0 <= g := by rw [<- hg]; exact Int.ediv_nonneg (by omega) (by omega)
   have ecomm : (t + 1) * g = g * (t + 1) := Int.mul_comm _ _
   have hgV : g * vl v <= vl z := by
    have a1 : g * vl v <= g * (P * (t + 1)) := mlT (by rw [Int.mul_add]; omega) hg0
    have a2 : g * (P * (t + 1)) = P * (g * (t + 1)) := by grind
    have a3 : P * (g * (t + 1)) <= P * T := mlT (by omega) (by omega)
    omega
   have hgB : g < 1000000000 := by
    by_cases hh : g < 1000000000
    · exact hh
    · have : 1000000000 * vl v <= g * vl v := mrT (by omega) (by omega)
      omega
   have hlow : vl z - g * vl v < 10 * vl v := by
    have a1 : P * (T + 1) <= P * ((g + 1) * (t + 1)) := mlT (by
     have : (g + 1) * (t + 1) = g * (t + 1) + (t + 1) := by grind
     omega) (by omega)
    have a2 : P * ((g + 1) * (t + 1)) = (g + 1) * (P * t) + (g + 1) * P := by grind
    have a3 : (g + 1) * (P * t) <= (g + 1) * vl v := mlT (by omega) (by omega)
    have a4 : (g + 1) * P <= 1000000000 * P := mrT (by omega) (by omega)
    have a5 : P * 500000000 <= P * t := mlT (by omega) (by omega)
    have a6 : (g + 1) * vl v = g * vl v + vl v := by grind
    rw [Int.mul_add P T 1] at a1
    omega
   rw [aH (n := g) (by omega) (by omega)]
   refine Ok.bd (tx hn hv.dig (by omega) hg0 hgB) ?_
   rintro y ⟨y1, y2⟩
   rw [Int.mul_comm] at y2
   have ly : y.length <= z.length := by
    by_cases hl : y.length <= z.length
    · exact hl
    · have := cn z1.dig y1 (by omega); omega
   refine Ok.bd (oW hn z1.dig y1.dig (by omega) ly (by omega)) ?_
   rintro s ⟨s1, s2⟩
   have ls : s.length <= 400 := by
    by_cases hl : s.length <= 400
    · exact hl
    · have h9 := cn z1.dig s1 (by omega)
      have := Int.mul_nonneg hg0 (by omega : 0 <= vl v)
      omega
   refine Ok.bd (Di hn hv s1 (by omega) ls hVp (by omega) ⟨hg0, by omega⟩) ?_
   rintro ⟨r1, g1⟩ ⟨b1, b2, b3, b4⟩
   simp only at b1 b2 b3 b4
   dsimp only
   have b5 : vl r1 + g1 * vl v = vl z := by omega
   have hr1 := ba b1.dig
   have hg1 : g1 < 1000000000 := by
    by_cases hh : g1 < 1000000000
    · exact hh
    · have : 1000000000 * vl v <= g1 * vl v := mrT (by omega) (by omega)
      omega
   refine Ok.gd (by rw [bg]; simp; omega) ?_
   rw [bc (n := g1) (by omega) (by omega), Int.toNat_natCast, wrap64_in (n := (j : Int) - 1) (by omega) (by omega)]
   refine ih _ ⟨j, rfl, by omega, b1, b2, by simpa using k4, jj k5 ⟨by omega, hg1⟩, ?_, ?_⟩ (by simp)
   · intro i hi
     simp only
     rw [iw (by omega)]
     exact k6 i (by omega)
   · simp only
     rw [kZ (by omega), k6 j (by omega)]
     rw [fj, cA] at k7
     rw [k7]
     have : A.getD j 0 = vl r1 + g1 * vl v - 1000000000 * vl r := by omega
     rw [this]
     grind
 · have hk := dcF h
   obtain rfl : k = 0 := by omega
   rw [iD] at k7
   have e1 : pB 0 = 1 := rfl
   rw [e1] at k7
   exact aw.2 ⟨k2, k3, k5, k4, by simp only; omega⟩
end Go.L.R

