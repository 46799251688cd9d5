import Derived.Test.YtecdcgfclgmbpaaGreatSidLD
import Derived.Test.YtecdcgfclgmbpaaGreatPl6Sids
import Derived.KernelRfl
import Derived.Test.YtecdcgfclgmbpaaGreatPl6Sids
set_option linter.all false
namespace Go.L
open Go Go.Eng
def ug (z : Int) : Bool := decide (z < -1048576) || decide (z > 1048576)
theorem B7 {z : Int} : (cdO (decide (z < (-1048576))) (some true) (some (decide (z > 1048576))) : Option Bool) = some (ug z) := by
 unfold ug; cases decide (z < -1048576) <;> rfl
theorem zl {n : Nat} {z : Int} : gB n z = some (ug z) := B7
def n8 (z : Int) : Bool := (z != -2147483648) && ug z
theorem GL (n : Nat) (z : Int) : g9 n z = some (n8 z) := by
 unfold g9 n8
 rw [zl]
 cases (z != -2147483648) <;> rfl
theorem Fh {n : Nat} {s : List Int} (hn : s.length < n) (hl : s.length <= 9223372036854775806) : aZ n s = some (s.any n8) := by
 unfold aZ
 have : bH n s = some (nP n8 s) := qh (fun x => GL n x) hn hl
 rw [this]; show some (decide (nP n8 s >= 0)) = _; rw [ur]
theorem F1 {n : Nat} {s : List Int} {v : Int} (hn : s.length < n) (hl : s.length <= 9223372036854775806) : bz n s v = some (s.any fun z => v == z) := by
 unfold bz
 have : fX n s v = some (nP (fun z => v == z) s) := zX hn hl
 rw [this]; show some (decide (nP (fun z => v == z) s >= 0)) = _; rw [ur]
def wL (a : Int) : Bool := decide (2 <= a) && decide (a <= 64)
structure Dim (g : al) : Prop where
 w : 2 <= g.Width /\ g.Width <= 64
 h : 2 <= g.Height /\ g.Height <= 64
 s : 2 <= g.Step /\ g.Step <= 65536
 e : g.Step.tmod 2 = 0
 x : ug g.X0 = false
 y : ug g.Y0 = false
theorem CW {w h : Int} (hw : 2 <= w /\ w <= 64) (hh : 2 <= h /\ h <= 64) : 4 <= w * h /\ w * h <= 4096 := by
 have h1 := Int.mul_le_mul hw.2 hh.2 (by omega) (by omega)
 have h2 := Int.mul_le_mul hw.1 hh.1 (by omega) (by omega)
 omega
open Classical in
noncomputable def mJ (g : al) : Int := if Dim g then (if (g.Z.length : Int) = g.Width * g.Height then (if g.Z.any n8 = true then 2 else 0) else 4) else 2
theorem lX {g : al} (h : ¬ Dim g) : mJ g = 2 := by unfold mJ; rw [if_neg h]
theorem Cw {n : Nat} {a : Int} : dU n a = some (wL a) := by
 unfold dU wL
 have e : decide (a >= 2) = decide (2 <= a) := rfl
 rw [e]; cases decide (2 <= a) <;> rfl
theorem yj {n : Nat} (hn : 4096 < n) (g : al) : ie n g = some (mJ g) := by
 apply Ok.eq
 unfold ie
 refine Ok.bde Cw (Ok.cd (fun h => aC.2 (lX fun d => ?_).symm) (fun h1 => Ok.bde Cw (Ok.cd (fun h => aC.2 (lX fun d => ?_).symm) (fun h2 => Ok.cd (fun h => aC.2 (lX fun d => ?_).symm) (fun h3 => Ok.cd (fun h => aC.2 (lX fun d => ?_).symm) (fun h4 => Ok.cd (fun h => aC.2 (lX fun d => ?_).symm) (fun h5 => Ok.bde zl (Ok.cd (fun h => aC.2 (lX fun d => ?_).symm) (fun h6 => Ok.bde zl (Ok.cd (fun h => aC.2 (lX fun d => ?_).symm) (fun h7 => ?_)))))))))))
 · have := d.w; simp [wL] at h; omega
 · have := d.h; simp [wL] at h; omega
 · have := d.s; have := dcT h; omega
 · have := d.s; have := dcT h; omega
 · have := d.e; simp [this] at h
 · rw [d.x] at h; cases h
 · rw [d.y] at h; cases h
 have h3 := dcF h3
 have h4 := dcF h4
 have d : Dim g := ⟨by simp [wL] at h1; omega, by simp [wL] at h2; omega, by omega, by simpa using h5, h6, h7⟩
 have ha := CW d.w d.h
 rw [wrap64_in (n := g.Width * g.Height) (by omega) (by omega)]
 unfold mJ
 rw [if_pos d]
 refine Ok.cd (fun h => aC.2 ?_) (fun h => ?_)
 · rw [if_neg]; simpa using h
 · have h : (g.Z.length : Int) = g.Width * g.Height := by simpa using h
   rw [if_pos h]
   refine Ok.bde (Fh (by omega) (by omega)) (Ok.cd (fun h => aC.2 ?_) (fun h => aC.2 ?_))
   · rw [if_pos h]
   · rw [if_neg (by rw [h]; decide)]
theorem Bj {γ ρ : Type} [Inhabited γ] {n : Nat} {s : List γ} {p : γ -> Bool} {c : ρ} {F : (Int -> Option (Sum Unit ρ)) -> Int -> Option (Sum Unit ρ)} (hn : s.length < n) (hl : s.length <= 9223372036854775806)
  (step : ∀ again (k : Nat), k < s.length -> F again (k : Int) = if p (s.getD k default) = true then some (.inr c) else again (G1 ((k : Int) + 1))) (hend : ∀ again, F again (s.length : Int) = some (.inl ())) : aN n F 0 = some (if s.any p = true then .inr c else .inl ()) := by
 apply Ok.eq
 refine yE (len := s.length) (fun k => ∀ j, j < k -> p (s.getD j default) = false) hn hl (by intro j hj; omega) ?_ ?_
 · intro again k hk hP ih
   rw [step again k hk]
   by_cases h : p (s.getD k default) = true
   · rw [if_pos h]
     refine aC.2 ?_
     rw [if_pos]
     refine List.any_eq_true.2 ⟨s.getD k default, ?_, h⟩
     simp only [List.getD, geT hk, Option.getD_some]; exact List.getElem_mem hk
   · rw [if_neg h]
     exact ih fun j hj => by
      by_cases hjk : j = k
      · rw [hjk]; simpa using h
      · exact hP j (by omega)
 · intro again hP
   rw [hend]
   refine aC.2 ?_
   rw [if_neg]
   intro ha
   obtain ⟨x, hx, hp⟩ := List.any_eq_true.1 ha
   obtain ⟨j, hj, rfl⟩ := List.getElem_of_mem hx
   have := hP j hj
   simp only [List.getD, geT hj, Option.getD_some] at this
   rw [this] at hp; cases hp
theorem AI {g : al} (h : mJ g = 0) : Dim g /\ (g.Z.length : Int) = g.Width * g.Height /\ g.Z.any n8 = false := by
 unfold mJ at h
 split at h
 · rename_i d
   split at h
   · rename_i e
     split at h
     · omega
     · rename_i f; exact ⟨d, e, by simpa using f⟩
   · omega
 · omega
def B2 {α : Type} (x y : Option α) (Q : α -> Prop) : Prop := ∃ r, x = some r /\ y = some r /\ Q r
section
variable {α β : Type} {Q : α -> Prop} {R : β -> Prop} {x y : Option β} {f g : β -> Option α}
theorem B2.bde {b : β} (hx : x = some b) (hy : y = some b) (k : B2 (f b) (g b) Q) : B2 (bdO x f) (bdO y g) Q := by subst hx hy; exact k
theorem B2.bd (h : B2 x y R) (k : ∀ b, R b -> B2 (f b) (g b) Q) : B2 (bdO x f) (bdO y g) Q := by
 obtain ⟨b, h1, h2, h3⟩ := h; exact B2.bde h1 h2 (k b h3)
theorem B2.cd {b : Bool} {t t' e e' : Option α} (h : b = true -> B2 t t' Q) (k : b = false -> B2 e e' Q) : B2 (cdO b t e) (cdO b t' e') Q := by
 cases b
 · exact k rfl
 · exact h rfl
end
end Go.L


set_option linter.all false
namespace Go.L
open Go Go.Eng
def gg (W : Int) (j i : Nat) : List (A3 Int) := [A3.mk (G1 ((G1 ((j : Int) * W)) + (i : Int))) (G1 ((G1 ((G1 ((j : Int) * W)) + (i : Int))) + 1)) (G1 ((G1 ((G1 ((G1 ((j : Int) * W)) + (i : Int))) + W)) + 1)), A3.mk (G1 ((G1 ((j : Int) * W)) + (i : Int))) (G1 ((G1 ((G1 ((G1 ((j : Int) * W)) + (i : Int))) + W)) + 1)) (G1 ((G1 ((G1 ((j : Int) * W)) + (i : Int))) + W))]
def y9 (W : Int) (w j : Nat) : List (A3 Int) := (List.range w).flatMap (gg W j)
def kz (W : Int) (w h : Nat) : List (A3 Int) := (List.range h).flatMap (y9 W w)
theorem xQ {W : Int} {w j : Nat} : (List.range (w + 1)).flatMap (gg W j) = (List.range w).flatMap (gg W j) ++ gg W j w := by rw [List.range_succ, List.flatMap_append]; simp
theorem yx {W : Int} {w h : Nat} : kz W w (h + 1) = kz W w h ++ y9 W w h := by unfold kz; rw [List.range_succ, List.flatMap_append]; simp
theorem xI {W : Int} {j : Nat} : ∀ w : Nat, ((List.range w).flatMap (gg W j)).length = 2 * w
 | 0 => rfl
 | w + 1 => by rw [xQ, List.length_append, xI w]; simp [gg]; omega
theorem xr {W : Int} {w : Nat} : ∀ h : Nat, (kz W w h).length = 2 * w * h
 | 0 => rfl
 | h + 1 => by rw [yx, List.length_append, xr h, y9, xI, Nat.mul_succ]
def nt (Z : List Int) (t : A3 Int) : Bool := (gt Z t.e0 != -2147483648) && ((gt Z t.e1 != -2147483648) && (gt Z t.e2 != -2147483648))
theorem xX {L : List (A3 Int)} {p : A3 Int -> Bool} {k : Nat} (h : k < L.length) : (L.take (k + 1)).filter p = (L.take k).filter p ++ (if p (L.getD k default) = true then [L.getD k default] else []) := by
 rw [List.take_add_one, geT h, List.filter_append]
 have : L.getD k default = L[k] := by simp [List.getD, geT h]
 rw [this]
 by_cases hp : p L[k] = true
 · simp [hp]
 · simp [hp]
structure Gd (g : al) (w h : Nat) : Prop where
 dim : Dim g
 W : g.Width = (w : Int)
 H : g.Height = (h : Int)
 w1 : 2 <= w /\ w <= 64
 h1 : 2 <= h /\ h <= 64
 m : g.Z.length = w * h
theorem FB {g : al} (h : mJ g = 0) : ∃ w h : Nat, Gd g w h := by
 obtain ⟨d, e, _⟩ := AI h
 have := d.w; have := d.h
 have hW : g.Width = ((g.Width.toNat : Nat) : Int) := by omega
 have hH : g.Height = ((g.Height.toNat : Nat) : Int) := by omega
 refine ⟨g.Width.toNat, g.Height.toNat, d, hW, hH, by omega, by omega, ?_⟩
 have e2 : g.Width * g.Height = ((g.Width.toNat * g.Height.toNat : Nat) : Int) := by rw [Int.natCast_mul, <- hW, <- hH]
 omega
theorem Ad {w h j i m : Nat} (hm : m = w * h) (hw : w <= 64) (hh : h <= 64) (hj : j < h - 1) (hi : i < w - 1) (k : Nat) (hk : k < 2) :
  inR ((gg (w : Int) j i).getD k default).e0 m = true /\ inR ((gg (w : Int) j i).getD k default).e1 m = true /\ inR ((gg (w : Int) j i).getD k default).e2 m = true := by
 have h1 : (j + 2) * w <= h * w := Nat.mul_le_mul_right w (by omega)
 have h2 : h * w <= 64 * 64 := Nat.mul_le_mul hh hw
 rw [Nat.mul_comm h w, Nat.add_mul] at h1
 rw [Nat.mul_comm h w] at h2
 have e : ((j : Int) * (w : Int)) = ((j * w : Nat) : Int) := (Int.natCast_mul _ _).symm
 unfold gg
 rw [e]
 generalize j * w = J at *
 generalize w * h = M at *
 rw [wrap64_in (n := (J : Int)) (by omega) (by omega), wrap64_in (n := (J : Int) + (i : Int)) (by omega) (by omega), wrap64_in (n := (J : Int) + (i : Int) + 1) (by omega) (by omega), wrap64_in (n := (J : Int) + (i : Int) + (w : Int)) (by omega) (by omega), wrap64_in (n := (J : Int) + (i : Int) + (w : Int) + 1) (by omega) (by omega)]
 simp only [j5]
 rcases (show k = 0 \/ k = 1 by omega) with rfl | rfl
 · show (0 <= (J : Int) + i /\ (J : Int) + i < m) /\ (0 <= (J : Int) + i + 1 /\ (J : Int) + i + 1 < m) /\ (0 <= (J : Int) + i + w + 1 /\ (J : Int) + i + w + 1 < m)
   omega
 · show (0 <= (J : Int) + i /\ (J : Int) + i < m) /\ (0 <= (J : Int) + i + w + 1 /\ (J : Int) + i + w + 1 < m) /\ (0 <= (J : Int) + i + w /\ (J : Int) + i + w < m)
   omega
def kj (g : al) (w h : Nat) : List (A3 Int) := (kz g.Width (w - 1) (h - 1)).filter (nt g.Z)
theorem DD {W : Int} {w : Nat} {t : A3 Int} : ∀ {h : Nat}, t ∈ kz W w h -> ∃ j i k, j < h /\ i < w /\ k < 2 /\ t = (gg W j i).getD k default := by
 intro h ht
 unfold kz at ht
 obtain ⟨j, hj, ht⟩ := List.mem_flatMap.1 ht
 unfold y9 at ht
 obtain ⟨i, hi, ht⟩ := List.mem_flatMap.1 ht
 rw [List.mem_range] at hj hi
 obtain ⟨k, hk, e⟩ := List.getElem_of_mem ht
 refine ⟨j, i, k, hj, hi, hk, ?_⟩
 simp only [List.getD, geT hk, Option.getD_some]; exact e.symm
theorem zZ {g : al} {w h : Nat} (hg : Gd g w h) {t : A3 Int} (ht : t ∈ kz g.Width (w - 1) (h - 1)) : inR t.e0 g.Z.length = true /\ inR t.e1 g.Z.length = true /\ inR t.e2 g.Z.length = true := by
 obtain ⟨j, i, k, hj, hi, hk, rfl⟩ := DD ht
 rw [hg.W]
 exact Ad hg.m hg.w1.2 hg.h1.2 hj hi k hk
end Go.L


set_option linter.all false
namespace Go.L
open Go Go.Eng
theorem iw {l : List Int} {k : Nat} : gt l (k : Int) = l.getD k 0 := pe
theorem oK {k : Nat} (h : k <= 4000000000) : G1 ((k : Int) + 1) = ((k + 1 : Nat) : Int) := by rw [wrap64_in (by omega) (by omega)]; omega
theorem pK {k : Nat} (h : 0 < k) (h2 : k <= 4000000000) : G1 ((k : Int) - 1) = ((k - 1 : Nat) : Int) := by rw [wrap64_in (by omega) (by omega)]; omega
theorem qp {n : Nat} {g : List Int} (hn : 1000 <= n) (hd : Dig g) (hl : g.length <= 900) : Ok (de n g) fun r => Can r /\ vl r = vl g := by
 unfold de
 refine Ok.bd (R := fun r => Can r /\ vl r = vl g) ?_ (fun g' h => aC.2 h)
 refine gE (fun l : List Int => Dig l /\ vl l = vl g /\ l.length <= g.length) (fun l => l.length) ?_ n g ⟨hd, rfl, Nat.le_refl _⟩ (by omega)
 rintro again l ⟨h1, h2, h3⟩ ih
 refine Ok.cd (fun h => ?_) (fun h => ?_)
 · have hpos : 0 < l.length := by simpa using h
   rw [pK hpos (by omega)]
   refine Ok.gd (by rw [b9]; simp; omega) ?_
   rw [iw]
   refine Ok.cd (fun h => ?_) (fun h => ?_)
   · refine Ok.gd (Ab.2 (by omega)) ?_
     have e : (l.drop (0 : Int).toNat).take (((l.length - 1 : Nat) : Int).toNat - (0 : Int).toNat) = l.take (l.length - 1) := by simp
     rw [e]
     have hz : l.getD (l.length - 1) 0 = 0 := by simpa using h
     refine ih _ ⟨sJ h1 _, ?_, ?_⟩ ?_
     · rw [zA (by omega) ?_, h2]
       intro j hj
       by_cases hjl : j = l.length - 1
       · rw [hjl]; exact hz
       · simp [List.getD, List.getElem?_eq_none (by omega : l.length <= j)]
     · rw [List.length_take]; omega
     · rw [List.length_take]; omega
   · refine aC.2 ⟨CH h1 (.inr ?_), h2⟩
     simpa using h
 · have : l = [] := by simpa using h
   subst this
   exact aC.2 ⟨trivial, h2⟩
theorem gG {n : Nat} {g : List Int} (hn : 1000 <= n) (neg : Bool) (hd : Dig g) (hl : g.length <= 900) : Ok (bj n neg g) fun z => isI z.Negative z.Groups (if neg then -vl g else vl g) := by
 unfold bj
 refine Ok.bd (qp hn hd hl) ?_
 rintro r ⟨h1, h2⟩
 refine Ok.cd (fun h => ?_) (fun h => ?_)
 · have : r = [] := by simpa using h
   subst this
   refine aC.2 (show isI false [] _ from ⟨trivial, (fun h => absurd h (by decide)), ?_⟩)
   rw [<- h2]; cases neg <;> rfl
 · refine aC.2 ⟨h1, fun _ => ?_, ?_⟩
   · rintro rfl; simp at h
   · rw [<- h2]
theorem nU {n : Nat} {v : Int} (hn : 1000 <= n) (h0 : 0 <= v) (hv : v < 18446744073709551616) : Ok (ck n v) fun r => Can r /\ vl r = v /\ r.length <= 3 := by
 unfold ck
 refine Ok.bd (R := fun r => Can r /\ vl r = v /\ r.length <= 3) ?_ (fun g' h => aC.2 h)
 refine gE (fun x : Int × List Int => Dig x.2 /\ 0 <= x.1 /\ vl x.2 + pB x.2.length * x.1 = v /\ x.2.length <= 3 /\ (x.1 = 0 -> Can x.2)) (fun x => 4 - x.2.length) ?_ n (v, []) ⟨ss, h0, by show 0 + 1 * v = v; omega, by simp, fun _ => trivial⟩ (by simp; omega)
 rintro again ⟨m, g⟩ ⟨h1, h2, h3, h4, h5⟩ ih
 simp only at h1 h2 h3 h4 h5
 have hg := bL h1
 have hp := jI g.length
 have hmv : m <= v := by
  have : m <= pB g.length * m := by
   have := mrT hp h2; omega
  omega
 refine Ok.cd (fun h => ?_) (fun h => ?_)
 · have hm : 0 < m := by simpa using h
   have hlen : g.length <= 2 := by
    by_cases h : g.length <= 2
    · exact h
    · have h6 : g.length = 3 := by omega
      rw [h6] at h3
      have : pB 3 = 1000000000000000000000000000 := rfl
      rw [this] at h3
      omega
   refine Ok.gd (by simp; omega) (Ok.gd (by simp; omega) ?_)
   have e1 : m.tdiv 1000000000 = m / 1000000000 := Int.tdiv_eq_ediv_of_nonneg h2
   have e2 : m.tmod 1000000000 = m % 1000000000 := Int.tmod_eq_emod_of_nonneg h2
   rw [e1, e2, aX (by omega) (by omega), bU (by omega) (by omega)]
   have hdig : 0 <= m % 1000000000 /\ m % 1000000000 < 1000000000 := by omega
   refine ih _ ⟨r9.2 ⟨h1, kP.2 hdig⟩, by simp only; omega, ?_, by simp; omega, fun hz => xl h1 hdig (by simp only at hz; omega)⟩ (by simp; omega)
   simp only
   rw [pQ, lQ, List.length_append, List.length_singleton, eK]
   have : m = m % 1000000000 + 1000000000 * (m / 1000000000) := by omega
   rw [<- h3]
   grind
 · have hm : m = 0 := by simp at h; omega
   subst hm
   exact aC.2 ⟨h5 rfl, by omega, h4⟩
theorem yY {n : Nat} {v : Int} (hn : 1000 <= n) (h0 : -9223372036854775808 <= v) (hv : v <= 9223372036854775807) : Ok (e9 n v) fun z => isI z.Negative z.Groups v := by
 unfold e9
 refine Ok.cd (fun h => ?_) (fun h => ?_)
 · have hneg : v < 0 := by simpa using h
   have e : aa .u64 (0 - aa .u64 v) = -v := by
    rw [jt, jt, IntKind.wrap_u64, IntKind.wrap_u64]; omega
   rw [e]
   refine Ok.bd (nU hn (by omega) (by omega)) ?_
   rintro r ⟨h1, h2, h3⟩
   refine Ok.bd (gG hn true h1.dig (by omega)) ?_
   intro z hz
   rw [h2] at hz
   refine aC.2 ?_
   simpa using hz
 · have hneg : 0 <= v := by simpa using h
   rw [aX hneg (by omega)]
   refine Ok.bd (nU hn (by omega) (by omega)) ?_
   rintro r ⟨h1, h2, h3⟩
   refine Ok.bd (gG hn false h1.dig (by omega)) ?_
   intro z hz
   rw [h2] at hz
   exact aC.2 hz
theorem pG {n : Nat} {x : ae} {v : Int} (hn : 1000 <= n) (hl : x.Groups.length <= 900) (h : isI x.Negative x.Groups v) : dD n x = some true := by
 obtain ⟨h1, h2, h3⟩ := h
 unfold dD
 by_cases hx : x.Groups = []
 · have : x.Negative = false := by cases hh : x.Negative with | false => rfl | true => exact absurd hx (h2 hh)
   rw [hx, this]; rfl
 · have hpos : 0 < x.Groups.length := List.length_pos_iff.2 hx
   have e : (((x.Groups.length : Int) : Int) == 0) = false := by simp [hx]
   rw [e]
   show gdO _ _ = _
   rw [pK hpos (by omega), b9, iw]
   have e1 : decide (x.Groups.length - 1 < x.Groups.length) = true := by simp; omega
   have e2 : (x.Groups.getD (x.Groups.length - 1) 0 != 0) = true := by simpa using uI h1 hx
   rw [e1, e2]
   show bdO (aW n x.Groups) _ = _
   unfold aW
   have : bc n x.Groups = some (nP (fun g => decide (g >= 1000000000)) x.Groups) := qh (fun x => rfl) (by omega) (by omega)
   rw [this]
   show some (!decide (nP _ x.Groups >= 0)) = _
   rw [ur]
   have : x.Groups.any (fun g => decide (g >= 1000000000)) = false := by
    rw [List.any_eq_false]
    intro d hd
    have := h1.dig d hd
    simp; omega
   rw [this]; rfl
theorem fP {n : Nat} {x : ae} {v : Int} (hn : 1000 <= n) (hl : x.Groups.length <= 900) (h : isI x.Negative x.Groups v) : bg n x = some x.Groups := by
 unfold bg; rw [pG hn hl h]; rfl
theorem qw {n : Nat} {x : ae} {v : Int} (hn : 1000 <= n) (hl : x.Groups.length <= 900) (h : isI x.Negative x.Groups v) : cU n x = some (sgn v) := by
 unfold cU; rw [fP hn hl h, DI h]
 show cdO _ _ _ = _
 by_cases hx : x.Groups = []
 · rw [hx]; rfl
 · have e : (((x.Groups.length : Int) : Int) == 0) = false := by simp [hx]
   rw [e, if_neg hx]
   cases x.Negative <;> rfl
theorem A1 {n : Nat} {l : List Int} {k : Nat} : fB n l (k : Int) = some (l.getD k 0) := by
 unfold fB
 by_cases h : k < l.length
 · have e : decide ((k : Int) < (l.length : Int)) = true := by simp; omega
   rw [e, b9, iw]
   have e : decide (k < l.length) = true := by simpa using h
   rw [e]; rfl
 · have e : decide ((k : Int) < (l.length : Int)) = false := by simp; omega
   rw [e]
   have : l.getD k 0 = 0 := by simp [List.getD, List.getElem?_eq_none (by omega : l.length <= k)]
   rw [this]; rfl
end Go.L


set_option linter.all false
namespace Go.L
open Go Go.Eng
theorem An {n : Nat} {a b : List Int} (hn : 1000 <= n) (ha : Dig a) (hb : Dig b) (la : a.length <= 400) (lb : b.length <= 400) : Ok (je n a b) fun r => Can r /\ vl r = vl a + vl b := by
 unfold je
 obtain ⟨M, hM, h1, h2, h3⟩ : ∃ M : Nat, mx (a.length : Int) (b.length : Int) = (M : Int) /\ a.length <= M /\ b.length <= M /\ M <= 400 := by
  unfold mx; split
  · exact ⟨_, rfl, by omega, by omega, by omega⟩
  · exact ⟨_, rfl, by omega, by omega, by omega⟩
 rw [hM, oK (by omega)]
 refine Ok.gd (by simp; try omega) (Ok.gd (by simp; try omega) (Ok.gd (by simp; try omega) ?_))
 refine Ok.bd (R := fun r => Dig r /\ r.length <= 900 /\ vl r = vl a + vl b) ?_ (fun r h => Ok.bd (qp hn h.1 h.2.1) fun z hz => aC.2 ⟨hz.1, hz.2.trans h.2.2⟩)
 refine gE (fun x : List Int × Int × Int => ∃ k : Nat, x.2.2 = (k : Int) /\ k <= M + 1 /\ x.1.length = M + 1 /\ Dig x.1 /\ (x.2.1 = 0 \/ x.2.1 = 1) /\ vk x.1 k + pB k * x.2.1 = vk a k + vk b k) (fun x => M + 1 - x.2.2.toNat) ?_ n _
  ⟨0, rfl, by omega, by simp, uk _, .inl rfl, by simp [qx]⟩ (by simp; omega)
 rintro again ⟨out, c, x⟩ ⟨k, hx, h4, h5, h6, h7, h8⟩ ih
 simp only at hx h5 h6 h7 h8
 subst hx
 dsimp only
 rw [List.length_replicate, Int.toNat_natCast, A1, A1]
 have da := fi ha k; have db := fi hb k
 refine Ok.cd (fun h => ?_) (fun h => ?_)
 · have hk : k < M + 1 := by simp at h; omega
   show Ok (cdO _ _ _) _
   generalize hs : aa .u32 (aa .u32 (a.getD k 0 + b.getD k 0) + c) = s
   have hs' : s = a.getD k 0 + b.getD k 0 + c := by rw [<- hs, bU (n := a.getD k 0 + b.getD k 0) (by omega) (by omega), bU (by omega) (by omega)]
   have step : ∀ d c', (0 <= d /\ d < 1000000000) -> (c' = 0 \/ c' = 1) -> s = d + 1000000000 * c' -> Ok (again (out.set k d, c', ((k + 1 : Nat) : Int))) fun r => Dig r /\ r.length <= 900 /\ vl r = vl a + vl b := by
    intro d c' hd hc hsd
    refine ih _ ⟨k + 1, rfl, by omega, by simpa using h5, kQ h6 hd, hc, ?_⟩ (by simp; omega)
    simp only
    rw [Aq (by omega), kK, kK, eK]
    have : a.getD k 0 + b.getD k 0 + c = d + 1000000000 * c' := by omega
    grind
   rw [oK (by omega), b9, Int.toNat_natCast]
   refine Ok.cd (fun h => ?_) (fun h => ?_)
   · have hge : s >= 1000000000 := by simpa using h
     rw [bU (by omega) (by omega)]
     exact Ok.gd (by simp; omega) (step _ 1 (by omega) (.inr rfl) (by omega))
   · have hge : s < 1000000000 := by simpa using h
     exact Ok.gd (by simp; omega) (step _ 0 (by omega) (.inl rfl) (by omega))
 · have hk : k = M + 1 := by simp at h; omega
   subst hk
   refine aC.2 ⟨h6, by omega, ?_⟩
   rw [jX (by omega), jX (by omega), jX (by omega)] at h8
   have := jj h6
   have hA := jj ha; have hB := jj hb
   have p1 := jB (by omega : a.length <= M); have p2 := jB (by omega : b.length <= M)
   have p3 := eK M
   rcases h7 with h7 | h7
   · rw [h7] at h8; omega
   · rw [h7] at h8; have := bL h6; have := jI M; omega
theorem u4 {n : Nat} {a b : List Int} (hn : 1000 <= n) (ha : Dig a) (hb : Dig b) (la : a.length <= 400) (lb : b.length <= a.length) (hle : vl b <= vl a) : Ok (gh n a b) fun r => Can r /\ vl r = vl a - vl b := by
 unfold gh
 refine Ok.gd (by simp) (Ok.gd (by simp; omega) (Ok.gd (by simp; omega) ?_))
 refine Ok.bd (R := fun r => Dig r /\ r.length <= 900 /\ vl r = vl a - vl b) ?_ (fun r h => Ok.bd (qp hn h.1 h.2.1) fun z hz => aC.2 ⟨hz.1, hz.2.trans h.2.2⟩)
 refine gE (fun x : List Int × Int × Int => ∃ k : Nat, x.2.2 = (k : Int) /\ k <= a.length /\ x.1.length = a.length /\ Dig x.1 /\ (x.2.1 = 0 \/ x.2.1 = 1) /\ vk x.1 k - pB k * x.2.1 = vk a k - vk b k) (fun x => a.length - x.2.2.toNat) ?_ n _
  ⟨0, rfl, by omega, by simp, uk _, .inl rfl, by simp [qx]⟩ (by simp; omega)
 rintro again ⟨out, c, x⟩ ⟨k, hx, h4, h5, h6, h7, h8⟩ ih
 simp only at hx h5 h6 h7 h8
 subst hx
 dsimp only
 rw [List.length_replicate, Int.toNat_natCast, A1]
 have da := fi ha k; have db := fi hb k
 refine Ok.cd (fun h => ?_) (fun h => ?_)
 · have hk : k < a.length := by simp at h; omega
   show Ok (gdO _ _) _
   refine Ok.gd (by rw [b9]; simpa using hk) ?_
   rw [iw]
   generalize hs : aa .u32 (b.getD k 0 + c) = s
   have hs' : s = b.getD k 0 + c := by rw [<- hs, bU (by omega) (by omega)]
   have step : ∀ d c', (0 <= d /\ d < 1000000000) -> (c' = 0 \/ c' = 1) -> a.getD k 0 - s = d - 1000000000 * c' -> Ok (again (out.set k d, c', ((k + 1 : Nat) : Int))) fun r => Dig r /\ r.length <= 900 /\ vl r = vl a - vl b := by
    intro d c' hd hc hsd
    refine ih _ ⟨k + 1, rfl, by omega, by simpa using h5, kQ h6 hd, hc, ?_⟩ (by simp; omega)
    simp only
    rw [Aq (by omega), kK, kK, eK]
    have : a.getD k 0 - b.getD k 0 - c = d - 1000000000 * c' := by omega
    grind
   rw [oK (by omega), b9, Int.toNat_natCast]
   refine Ok.cd (fun h => ?_) (fun h => ?_)
   · have hge : a.getD k 0 < s := by simpa using h
     rw [bU (n := a.getD k 0 + 1000000000) (by omega) (by omega), bU (by omega) (by omega)]
     exact Ok.gd (by simp; omega) (step _ 1 (by omega) (.inr rfl) (by omega))
   · have hge : s <= a.getD k 0 := by simpa using h
     rw [bU (by omega) (by omega)]
     exact Ok.gd (by simp; omega) (step _ 0 (by omega) (.inl rfl) (by omega))
 · have hk : k = a.length := by simp at h; omega
   subst hk
   refine aC.2 ⟨h6, by omega, ?_⟩
   rw [jX (by omega), jX (by omega), jX (by omega)] at h8
   have := jj h6
   rw [h5] at this
   rcases h7 with h7 | h7
   · rw [h7] at h8; omega
   · rw [h7] at h8; omega
theorem kG {n : Nat} {a b : List Int} (ha : Can a) (hb : Can b) (la : a.length <= 400) (lb : b.length <= 400) : e8 n a b = some (sgn (vl a - vl b)) := by
 unfold e8
 have e1 : decide (a.length <= 1099511627776) = true := by simp; omega
 have e2 : decide (b.length <= 1099511627776) = true := by simp; omega
 rw [e1, e2]
 show some _ = _
 by_cases h : a.length = b.length
 · rw [decide_eq_true h, cond_true, Ag ha.dig hb.dig h]
 · rw [decide_eq_false h, cond_false]
   unfold nz
   by_cases h' : a.length < b.length
   · have := fD ha.dig hb h'
     rw [if_pos (by omega), o6 (by omega)]
   · have := fD hb.dig ha (by omega)
     rw [if_neg (by omega), if_pos (by omega), uo (by omega)]
end Go.L

