import Derived.Test.YtecdcgfclgmbpaaGreatApaLD
import Derived.Test.YtecdcgfclgmbpaaGreatPl6Apas
import Derived.KernelRfl
import Derived.Test.YtecdcgfclgmbpaaGreatPl6Apas
set_option linter.all false
namespace Go.L
open Go Go.Eng
def wE (z : Int) : Bool := decide (z < -1048576) || decide (z > 1048576)
theorem Ed {z : Int} : (cdO (decide (z < (-1048576))) (some true) (some (decide (z > 1048576))) : Option Bool) = some (wE z) := by
 unfold wE; cases decide (z < -1048576) <;> rfl
theorem A8 {n : Nat} {z : Int} : gW n z = some (wE z) := Ed
def p4 (z : Int) : Bool := (z != -2147483648) && wE z
theorem Ib (n : Nat) (z : Int) : im n z = some (p4 z) := by
 unfold im p4
 rw [A8]
 cases (z != -2147483648) <;> rfl
theorem Gr {n : Nat} {s : List Int} (j : s.length < n) (m : s.length <= 9223372036854775806) : bj n s = some (s.any p4) := by
 unfold bj
 have : bU n s = some (qh p4 s) := uz (fun x => Ib n x) j m
 rw [this]; show some (decide (qh p4 s >= 0)) = _; rw [ym]
def xC (a : Int) : Bool := decide (2 <= a) && decide (a <= 64)
structure Dim (g : al) : Prop where
 w : 2 <= g.Width /\ g.Width <= 64
 h : 2 <= g.Height /\ g.Height <= 64
 s : 2 <= g.Step /\ g.Step <= 65536
 e : g.Step.tmod 2 = 0
 x : wE g.X0 = false
 y : wE g.Y0 = false
theorem DQ {w h : Int} (hw : 2 <= w /\ w <= 64) (j : 2 <= h /\ h <= 64) : 4 <= w * h /\ w * h <= 4096 := by
 have h1 := Int.mul_le_mul hw.2 j.2 (by omega) (by omega)
 have h2 := Int.mul_le_mul hw.1 j.1 (by omega) (by omega)
 omega
open Classical in
noncomputable def mK (g : al) : Int := if Dim g then (if (g.Z.length : Int) = g.Width * g.Height then (if g.Z.any p4 = true then 2 else 0) else 4) else 2
theorem mh {g : al} (h : ¬ Dim g) : mK g = 2 := by unfold mK; rw [if_neg h]
theorem DK {n : Nat} {a : Int} : eu n a = some (xC a) := by
 unfold eu xC
 have e : decide (a >= 2) = decide (2 <= a) := rfl
 rw [e]; cases decide (2 <= a) <;> rfl
theorem Dl {n : Nat} (D : 4096 < n) (g : al) : jq n g = some (mK g) := by
 apply Ok.eq
 unfold jq
 refine Ok.bde DK (Ok.cd (fun h => az.2 (mh fun d => ?_).symm) (fun h1 => Ok.bde DK (Ok.cd (fun h => az.2 (mh fun d => ?_).symm) (fun h2 => Ok.cd (fun h => az.2 (mh fun d => ?_).symm) (fun j => Ok.cd (fun h => az.2 (mh fun d => ?_).symm) (fun m => Ok.cd (fun h => az.2 (mh fun d => ?_).symm) (fun q => Ok.bde A8 (Ok.cd (fun h => az.2 (mh fun d => ?_).symm) (fun z => Ok.bde A8 (Ok.cd (fun h => az.2 (mh fun d => ?_).symm) (fun C => ?_)))))))))))
 · have := d.w; simp [xC] at h; omega
 · have := d.h; simp [xC] at h; omega
 · have := d.s; have := dcT h; omega
 · have := d.s; have := dcT h; omega
 · have := d.e; simp [this] at h
 · rw [d.x] at h; cases h
 · rw [d.y] at h; cases h
 have j := dcF j
 have m := dcF m
 have d : Dim g := ⟨by simp [xC] at h1; omega, by simp [xC] at h2; omega, by omega, by simpa using q, z, C⟩
 have ha := DQ d.w d.h
 rw [wrap64_in (n := g.Width * g.Height) (by omega) (by omega)]
 unfold mK
 rw [if_pos d]
 refine Ok.cd (fun h => az.2 ?_) (fun h => ?_)
 · rw [if_neg]; simpa using h
 · have h : (g.Z.length : Int) = g.Width * g.Height := by simpa using h
   rw [if_pos h]
   refine Ok.bde (Gr (by omega) (by omega)) (Ok.cd (fun h => az.2 ?_) (fun h => az.2 ?_))
   · rw [if_pos h]
   · rw [if_neg (by rw [h]; decide)]
theorem CO {γ ρ : Type} [Inhabited γ] {n : Nat} {s : List γ} {p : γ -> Bool} {c : ρ} {F : (Int -> Option (Sum Unit ρ)) -> Int -> Option (Sum Unit ρ)} (E : s.length < n) (I : s.length <= 9223372036854775806)
  (step : ∀ again (k : Nat), k < s.length -> F again (k : Int) = if p (s.getD k default) = true then some (.inr c) else again (IE ((k : Int) + 1))) (m : ∀ again, F again (s.length : Int) = some (.inl ())) : aP n F 0 = some (if s.any p = true then .inr c else .inl ()) := by
 apply Ok.eq
 refine vY (len := s.length) (fun k => ∀ j, j < k -> p (s.getD j default) = false) E I (by intro j q; omega) ?_ ?_
 · intro again k z C J
   rw [step again k z]
   by_cases h : p (s.getD k default) = true
   · rw [if_pos h]
     refine az.2 ?_
     rw [if_pos]
     refine List.any_eq_true.2 ⟨s.getD k default, ?_, h⟩
     simp only [List.getD, geT z, Option.getD_some]; exact List.getElem_mem z
   · rw [if_neg h]
     exact J fun j q => by
      by_cases D : j = k
      · rw [D]; simpa using h
      · exact C j (by omega)
 · intro again C
   rw [m]
   refine az.2 ?_
   rw [if_neg]
   intro ha
   obtain ⟨x, hx, hp⟩ := List.any_eq_true.1 ha
   obtain ⟨j, q, rfl⟩ := List.getElem_of_mem hx
   have := C j q
   simp only [List.getD, geT q, Option.getD_some] at this
   rw [this] at hp; cases hp
theorem Cn {g : al} (h : mK g = 0) : Dim g /\ (g.Z.length : Int) = g.Width * g.Height /\ g.Z.any p4 = false := by
 unfold mK at h
 split at h
 · rename_i d
   split at h
   · rename_i e
     split at h
     · omega
     · rename_i f; exact ⟨d, e, by simpa using f⟩
   · omega
 · omega
def B2 {α : Type} (x y : Option α) (Q : α -> Prop) : Prop := ∃ r, x = some r /\ y = some r /\ Q r
section
variable {α β : Type} {Q : α -> Prop} {R : β -> Prop} {x y : Option β} {f g : β -> Option α}
theorem B2.bde {b : β} (hx : x = some b) (j : y = some b) (k : B2 (f b) (g b) Q) : B2 (bdO x f) (bdO y g) Q := by subst hx j; exact k
theorem B2.bd (h : B2 x y R) (k : ∀ b, R b -> B2 (f b) (g b) Q) : B2 (bdO x f) (bdO y g) Q := by
 obtain ⟨b, h1, h2, j⟩ := h; exact B2.bde h1 h2 (k b j)
theorem B2.cd {b : Bool} {t j e m : Option α} (h : b = true -> B2 t j Q) (k : b = false -> B2 e m Q) : B2 (cdO b t e) (cdO b j m) Q := by
 cases b
 · exact k rfl
 · exact h rfl
end
end Go.L


set_option linter.all false
namespace Go.L
open Go Go.Eng
def gL (W : Int) (j i : Nat) : List (A3 Int) := [A3.mk (IE ((IE ((j : Int) * W)) + (i : Int))) (IE ((IE ((IE ((j : Int) * W)) + (i : Int))) + 1)) (IE ((IE ((IE ((IE ((j : Int) * W)) + (i : Int))) + W)) + 1)), A3.mk (IE ((IE ((j : Int) * W)) + (i : Int))) (IE ((IE ((IE ((IE ((j : Int) * W)) + (i : Int))) + W)) + 1)) (IE ((IE ((IE ((j : Int) * W)) + (i : Int))) + W))]
def A6 (W : Int) (w j : Nat) : List (A3 Int) := (List.range w).flatMap (gL W j)
def lK (W : Int) (w h : Nat) : List (A3 Int) := (List.range h).flatMap (A6 W w)
theorem zi {W : Int} {w j : Nat} : (List.range (w + 1)).flatMap (gL W j) = (List.range w).flatMap (gL W j) ++ gL W j w := by rw [List.range_succ, List.flatMap_append]; simp
theorem zJ {W : Int} {w h : Nat} : lK W w (h + 1) = lK W w h ++ A6 W w h := by unfold lK; rw [List.range_succ, List.flatMap_append]; simp
theorem yB {W : Int} {j : Nat} : ∀ w : Nat, ((List.range w).flatMap (gL W j)).length = 2 * w
 | 0 => rfl
 | w + 1 => by rw [zi, List.length_append, yB w]; simp [gL]; omega
theorem va {W : Int} {w : Nat} : ∀ h : Nat, (lK W w h).length = 2 * w * h
 | 0 => rfl
 | h + 1 => by rw [zJ, List.length_append, va h, A6, yB, Nat.mul_succ]
def np (Z : List Int) (t : A3 Int) : Bool := (gt Z t.e0 != -2147483648) && ((gt Z t.e1 != -2147483648) && (gt Z t.e2 != -2147483648))
theorem Ai {L : List (A3 Int)} {p : A3 Int -> Bool} {k : Nat} (h : k < L.length) : (L.take (k + 1)).filter p = (L.take k).filter p ++ (if p (L.getD k default) = true then [L.getD k default] else []) := by
 rw [List.take_add_one, geT h, List.filter_append]
 have : L.getD k default = L[k] := by simp [List.getD, geT h]
 rw [this]
 by_cases hp : p L[k] = true
 · simp [hp]
 · simp [hp]
structure Gd (g : al) (w h : Nat) : Prop where
 dim : Dim g
 W : g.Width = (w : Int)
 H : g.Height = (h : Int)
 w1 : 2 <= w /\ w <= 64
 h1 : 2 <= h /\ h <= 64
 m : g.Z.length = w * h
theorem Hb {g : al} (h : mK g = 0) : ∃ w h : Nat, Gd g w h := by
 obtain ⟨d, e, _⟩ := Cn h
 have := d.w; have := d.h
 have j : g.Width = ((g.Width.toNat : Nat) : Int) := by omega
 have m : g.Height = ((g.Height.toNat : Nat) : Int) := by omega
 refine ⟨g.Width.toNat, g.Height.toNat, d, j, m, by omega, by omega, ?_⟩
 have e2 : g.Width * g.Height = ((g.Width.toNat * g.Height.toNat : Nat) : Int) := by rw [Int.natCast_mul, <- j, <- m]
 omega
theorem BO {w h j i m : Nat} (hm : m = w * h) (hw : w <= 64) (q : h <= 64) (z : j < h - 1) (hi : i < w - 1) (k : Nat) (C : k < 2) :
  inR ((gL (w : Int) j i).getD k default).e0 m = true /\ inR ((gL (w : Int) j i).getD k default).e1 m = true /\ inR ((gL (w : Int) j i).getD k default).e2 m = true := by
 have h1 : (j + 2) * w <= h * w := Nat.mul_le_mul_right w (by omega)
 have h2 : h * w <= 64 * 64 := Nat.mul_le_mul q hw
 rw [Nat.mul_comm h w, Nat.add_mul] at h1
 rw [Nat.mul_comm h w] at h2
 have e : ((j : Int) * (w : Int)) = ((j * w : Nat) : Int) := (Int.natCast_mul _ _).symm
 unfold gL
 rw [e]
 generalize j * w = J at *
 generalize w * h = M at *
 rw [wrap64_in (n := (J : Int)) (by omega) (by omega), wrap64_in (n := (J : Int) + (i : Int)) (by omega) (by omega), wrap64_in (n := (J : Int) + (i : Int) + 1) (by omega) (by omega), wrap64_in (n := (J : Int) + (i : Int) + (w : Int)) (by omega) (by omega), wrap64_in (n := (J : Int) + (i : Int) + (w : Int) + 1) (by omega) (by omega)]
 simp only [jg]
 rcases (show k = 0 \/ k = 1 by omega) with rfl | rfl
 · show (0 <= (J : Int) + i /\ (J : Int) + i < m) /\ (0 <= (J : Int) + i + 1 /\ (J : Int) + i + 1 < m) /\ (0 <= (J : Int) + i + w + 1 /\ (J : Int) + i + w + 1 < m)
   omega
 · show (0 <= (J : Int) + i /\ (J : Int) + i < m) /\ (0 <= (J : Int) + i + w + 1 /\ (J : Int) + i + w + 1 < m) /\ (0 <= (J : Int) + i + w /\ (J : Int) + i + w < m)
   omega
def lD (g : al) (w h : Nat) : List (A3 Int) := (lK g.Width (w - 1) (h - 1)).filter (np g.Z)
theorem Ew {W : Int} {w : Nat} {t : A3 Int} : ∀ {h : Nat}, t ∈ lK W w h -> ∃ j i k, j < h /\ i < w /\ k < 2 /\ t = (gL W j i).getD k default := by
 intro h m
 unfold lK at m
 obtain ⟨j, q, m⟩ := List.mem_flatMap.1 m
 unfold A6 at m
 obtain ⟨i, hi, m⟩ := List.mem_flatMap.1 m
 rw [List.mem_range] at q hi
 obtain ⟨k, z, e⟩ := List.getElem_of_mem m
 refine ⟨j, i, k, q, hi, z, ?_⟩
 simp only [List.getD, geT z, Option.getD_some]; exact e.symm
theorem An {g : al} {w h : Nat} (q : Gd g w h) {t : A3 Int} (z : t ∈ lK g.Width (w - 1) (h - 1)) : inR t.e0 g.Z.length = true /\ inR t.e1 g.Z.length = true /\ inR t.e2 g.Z.length = true := by
 obtain ⟨j, i, k, C, hi, D, rfl⟩ := Ew z
 rw [q.W]
 exact BO q.m q.w1.2 q.h1.2 C hi k D
end Go.L


set_option linter.all false
namespace Go.L
open Go Go.Eng
theorem dy {l : List Int} {k : Nat} : gt l (k : Int) = l.getD k 0 := oP
theorem iQ {k : Nat} (h : k <= 4000000000) : IE ((k : Int) + 1) = ((k + 1 : Nat) : Int) := by rw [wrap64_in (by omega) (by omega)]; omega
theorem ku {k : Nat} (h : 0 < k) (h2 : k <= 4000000000) : IE ((k : Int) - 1) = ((k - 1 : Nat) : Int) := by rw [wrap64_in (by omega) (by omega)]; omega
theorem qV {n : Nat} {g : List Int} (D : 1000 <= n) (hd : Dig g) (E : g.length <= 900) : Ok (dL n g) fun r => Can r /\ vl r = vl g := by
 unfold dL
 refine Ok.bd (R := fun r => Can r /\ vl r = vl g) ?_ (fun I h => az.2 h)
 refine dc (fun l : List Int => Dig l /\ vl l = vl g /\ l.length <= g.length) (fun l => l.length) ?_ n g ⟨hd, rfl, Nat.le_refl _⟩ (by omega)
 rintro again l ⟨h1, h2, J⟩ z
 refine Ok.cd (fun h => ?_) (fun h => ?_)
 · have m : 0 < l.length := by simpa using h
   rw [ku m (by omega)]
   refine Ok.gd (by rw [bg]; simp; omega) ?_
   rw [dy]
   refine Ok.cd (fun h => ?_) (fun h => ?_)
   · refine Ok.gd (sA.2 (by omega)) ?_
     have e : (l.drop (0 : Int).toNat).take (((l.length - 1 : Nat) : Int).toNat - (0 : Int).toNat) = l.take (l.length - 1) := by simp
     rw [e]
     have C : l.getD (l.length - 1) 0 = 0 := by simpa using h
     refine z _ ⟨qF h1 _, ?_, ?_⟩ ?_
     · rw [yL (by omega) ?_, h2]
       intro j M
       by_cases q : j = l.length - 1
       · rw [q]; exact C
       · simp [List.getD, List.getElem?_eq_none (by omega : l.length <= j)]
     · rw [List.length_take]; omega
     · rw [List.length_take]; omega
   · refine az.2 ⟨Aa h1 (.inr ?_), h2⟩
     simpa using h
 · have : l = [] := by simpa using h
   subst this
   exact az.2 ⟨trivial, h2⟩
theorem dK {n : Nat} {g : List Int} (j : 1000 <= n) (neg : Bool) (hd : Dig g) (m : g.length <= 900) : Ok (bM n neg g) fun z => isI z.Negative z.Groups (if neg then -vl g else vl g) := by
 unfold bM
 refine Ok.bd (qV j hd m) ?_
 rintro r ⟨h1, h2⟩
 refine Ok.cd (fun h => ?_) (fun h => ?_)
 · have : r = [] := by simpa using h
   subst this
   refine az.2 (show isI false [] _ from ⟨trivial, (fun h => absurd h (by decide)), ?_⟩)
   rw [<- h2]; cases neg <;> rfl
 · refine az.2 ⟨h1, fun _ => ?_, ?_⟩
   · rintro rfl; simp at h
   · rw [<- h2]
theorem kb {n : Nat} {v : Int} (N : 1000 <= n) (D : 0 <= v) (O : v < 18446744073709551616) : Ok (cH n v) fun r => Can r /\ vl r = v /\ r.length <= 3 := by
 unfold cH
 refine Ok.bd (R := fun r => Can r /\ vl r = v /\ r.length <= 3) ?_ (fun T h => az.2 h)
 refine dc (fun x : Int × List Int => Dig x.2 /\ 0 <= x.1 /\ vl x.2 + pB x.2.length * x.1 = v /\ x.2.length <= 3 /\ (x.1 = 0 -> Can x.2)) (fun x => 4 - x.2.length) ?_ n (v, []) ⟨mj, D, by show 0 + 1 * v = v; omega, by simp, fun _ => trivial⟩ (by simp; omega)
 rintro again ⟨m, g⟩ ⟨h1, h2, q, z, C⟩ E
 simp only at h1 h2 q z C
 have U := aY h1
 have hp := gy g.length
 have I : m <= v := by
  have : m <= pB g.length * m := by
   have := mrT hp h2; omega
  omega
 refine Ok.cd (fun h => ?_) (fun h => ?_)
 · have hm : 0 < m := by simpa using h
   have hlen : g.length <= 2 := by
    by_cases h : g.length <= 2
    · exact h
    · have J : g.length = 3 := by omega
      rw [J] at q
      have : pB 3 = 1000000000000000000000000000 := rfl
      rw [this] at q
      omega
   refine Ok.gd (by simp; omega) (Ok.gd (by simp; omega) ?_)
   have e1 : m.tdiv 1000000000 = m / 1000000000 := Int.tdiv_eq_ediv_of_nonneg h2
   have e2 : m.tmod 1000000000 = m % 1000000000 := Int.tmod_eq_emod_of_nonneg h2
   rw [e1, e2, aG (by omega) (by omega), ba (by omega) (by omega)]
   have j : 0 <= m % 1000000000 /\ m % 1000000000 < 1000000000 := by omega
   refine E _ ⟨jz.2 ⟨h1, fe.2 j⟩, by simp only; omega, ?_, by simp; omega, fun M => vb h1 j (by simp only at M; omega)⟩ (by simp; omega)
   simp only
   rw [ka, fU, List.length_append, List.length_singleton, cy]
   have : m = m % 1000000000 + 1000000000 * (m / 1000000000) := by omega
   rw [<- q]
   grind
 · have hm : m = 0 := by simp at h; omega
   subst hm
   exact az.2 ⟨C rfl, by omega, z⟩
theorem Bz {n : Nat} {v : Int} (q : 1000 <= n) (D : -9223372036854775808 <= v) (E : v <= 9223372036854775807) : Ok (fj n v) fun z => isI z.Negative z.Groups v := by
 unfold fj
 refine Ok.cd (fun h => ?_) (fun h => ?_)
 · have j : v < 0 := by simpa using h
   have e : aa .u64 (0 - aa .u64 v) = -v := by
    rw [jy, jy, IntKind.wrap_u64, IntKind.wrap_u64]; omega
   rw [e]
   refine Ok.bd (kb q (by omega) (by omega)) ?_
   rintro r ⟨h1, h2, C⟩
   refine Ok.bd (dK q true h1.dig (by omega)) ?_
   intro z m
   rw [h2] at m
   refine az.2 ?_
   simpa using m
 · have j : 0 <= v := by simpa using h
   rw [aG j (by omega)]
   refine Ok.bd (kb q (by omega) (by omega)) ?_
   rintro r ⟨h1, h2, C⟩
   refine Ok.bd (dK q false h1.dig (by omega)) ?_
   intro z m
   rw [h2] at m
   exact az.2 m
theorem mY {n : Nat} {x : ah} {v : Int} (q : 1000 <= n) (z : x.Groups.length <= 900) (h : isI x.Negative x.Groups v) : dW n x = some true := by
 obtain ⟨h1, h2, C⟩ := h
 unfold dW
 by_cases hx : x.Groups = []
 · have : x.Negative = false := by cases m : x.Negative with | false => rfl | true => exact absurd hx (h2 m)
   rw [hx, this]; rfl
 · have j : 0 < x.Groups.length := List.length_pos_iff.2 hx
   have e : (((x.Groups.length : Int) : Int) == 0) = false := by simp [hx]
   rw [e]
   show gdO _ _ = _
   rw [ku j (by omega), bg, dy]
   have e1 : decide (x.Groups.length - 1 < x.Groups.length) = true := by simp; omega
   have e2 : (x.Groups.getD (x.Groups.length - 1) 0 != 0) = true := by simpa using qk h1 hx
   rw [e1, e2]
   show bdO (aZ n x.Groups) _ = _
   unfold aZ
   have : bu n x.Groups = some (qh (fun g => decide (g >= 1000000000)) x.Groups) := uz (fun x => rfl) (by omega) (by omega)
   rw [this]
   show some (!decide (qh _ x.Groups >= 0)) = _
   rw [ym]
   have : x.Groups.any (fun g => decide (g >= 1000000000)) = false := by
    rw [List.any_eq_false]
    intro d hd
    have := h1.dig d hd
    simp; omega
   rw [this]; rfl
theorem mC {n : Nat} {x : ah} {v : Int} (j : 1000 <= n) (m : x.Groups.length <= 900) (h : isI x.Negative x.Groups v) : bB n x = some x.Groups := by
 unfold bB; rw [mY j m h]; rfl
theorem pd {n : Nat} {x : ah} {v : Int} (j : 1000 <= n) (m : x.Groups.length <= 900) (h : isI x.Negative x.Groups v) : dx n x = some (sgn v) := by
 unfold dx; rw [mC j m h, Bk h]
 show cdO _ _ _ = _
 by_cases hx : x.Groups = []
 · rw [hx]; rfl
 · have e : (((x.Groups.length : Int) : Int) == 0) = false := by simp [hx]
   rw [e, if_neg hx]
   cases x.Negative <;> rfl
theorem B1 {n : Nat} {l : List Int} {k : Nat} : fJ n l (k : Int) = some (l.getD k 0) := by
 unfold fJ
 by_cases h : k < l.length
 · have e : decide ((k : Int) < (l.length : Int)) = true := by simp; omega
   rw [e, bg, dy]
   have e : decide (k < l.length) = true := by simpa using h
   rw [e]; rfl
 · have e : decide ((k : Int) < (l.length : Int)) = false := by simp; omega
   rw [e]
   have : l.getD k 0 = 0 := by simp [List.getD, List.getElem?_eq_none (by omega : l.length <= k)]
   rw [this]; rfl
end Go.L


set_option linter.all false
namespace Go.L
open Go Go.Eng
theorem yE {n : Nat} {a b : List Int} (N : 1000 <= n) (ha : Dig a) (hb : Dig b) (la : a.length <= 400) (lb : b.length <= 400) : Ok (ji n a b) fun r => Can r /\ vl r = vl a + vl b := by
 unfold ji
 obtain ⟨M, O, h1, h2, h3⟩ : ∃ M : Nat, mx (a.length : Int) (b.length : Int) = (M : Int) /\ a.length <= M /\ b.length <= M /\ M <= 400 := by
  unfold mx; split
  · exact ⟨_, rfl, by omega, by omega, by omega⟩
  · exact ⟨_, rfl, by omega, by omega, by omega⟩
 rw [O, iQ (by omega)]
 refine Ok.gd (by simp; try omega) (Ok.gd (by simp; try omega) (Ok.gd (by simp; try omega) ?_))
 refine Ok.bd (R := fun r => Dig r /\ r.length <= 900 /\ vl r = vl a + vl b) ?_ (fun r h => Ok.bd (qV N h.1 h.2.1) fun z E => az.2 ⟨E.1, E.2.trans h.2.2⟩)
 refine dc (fun x : List Int × Int × Int => ∃ k : Nat, x.2.2 = (k : Int) /\ k <= M + 1 /\ x.1.length = M + 1 /\ Dig x.1 /\ (x.2.1 = 0 \/ x.2.1 = 1) /\ vk x.1 k + pB k * x.2.1 = vk a k + vk b k) (fun x => M + 1 - x.2.2.toNat) ?_ n _
  ⟨0, rfl, by omega, by simp, oX _, .inl rfl, by simp [ij]⟩ (by simp; omega)
 rintro again ⟨out, c, x⟩ ⟨k, hx, h4, I, q, j, C⟩ T
 simp only at hx I q j C
 subst hx
 dsimp only
 rw [List.length_replicate, Int.toNat_natCast, B1, B1]
 have da := cu ha k; have db := cu hb k
 refine Ok.cd (fun h => ?_) (fun h => ?_)
 · have J : k < M + 1 := by simp at h; omega
   show Ok (cdO _ _ _) _
   generalize hs : aa .u32 (aa .u32 (a.getD k 0 + b.getD k 0) + c) = s
   have U : s = a.getD k 0 + b.getD k 0 + c := by rw [<- hs, ba (n := a.getD k 0 + b.getD k 0) (by omega) (by omega), ba (by omega) (by omega)]
   have step : ∀ d m, (0 <= d /\ d < 1000000000) -> (m = 0 \/ m = 1) -> s = d + 1000000000 * m -> Ok (again (out.set k d, m, ((k + 1 : Nat) : Int))) fun r => Dig r /\ r.length <= 900 /\ vl r = vl a + vl b := by
    intro d m hd hc Y
    refine T _ ⟨k + 1, rfl, by omega, by simpa using I, iN q hd, hc, ?_⟩ (by simp; omega)
    simp only
    rw [BX (by omega), eP, eP, cy]
    have : a.getD k 0 + b.getD k 0 + c = d + 1000000000 * m := by omega
    grind
   rw [iQ (by omega), bg, Int.toNat_natCast]
   refine Ok.cd (fun h => ?_) (fun h => ?_)
   · have D : s >= 1000000000 := by simpa using h
     rw [ba (by omega) (by omega)]
     exact Ok.gd (by simp; omega) (step _ 1 (by omega) (.inr rfl) (by omega))
   · have D : s < 1000000000 := by simpa using h
     exact Ok.gd (by simp; omega) (step _ 0 (by omega) (.inl rfl) (by omega))
 · have J : k = M + 1 := by simp at h; omega
   subst J
   refine az.2 ⟨q, by omega, ?_⟩
   rw [fu (by omega), fu (by omega), fu (by omega)] at C
   have := gP q
   have hA := gP ha; have hB := gP hb
   have p1 := ia (by omega : a.length <= M); have p2 := ia (by omega : b.length <= M)
   have p3 := cy M
   rcases j with j | j
   · rw [j] at C; omega
   · rw [j] at C; have := aY q; have := gy M; omega
theorem oz {n : Nat} {a b : List Int} (M : 1000 <= n) (ha : Dig a) (hb : Dig b) (U : a.length <= 400) (lb : b.length <= a.length) (hle : vl b <= vl a) : Ok (gu n a b) fun r => Can r /\ vl r = vl a - vl b := by
 unfold gu
 refine Ok.gd (by simp) (Ok.gd (by simp; omega) (Ok.gd (by simp; omega) ?_))
 refine Ok.bd (R := fun r => Dig r /\ r.length <= 900 /\ vl r = vl a - vl b) ?_ (fun r h => Ok.bd (qV M h.1 h.2.1) fun z J => az.2 ⟨J.1, J.2.trans h.2.2⟩)
 refine dc (fun x : List Int × Int × Int => ∃ k : Nat, x.2.2 = (k : Int) /\ k <= a.length /\ x.1.length = a.length /\ Dig x.1 /\ (x.2.1 = 0 \/ x.2.1 = 1) /\ vk x.1 k - pB k * x.2.1 = vk a k - vk b k) (fun x => a.length - x.2.2.toNat) ?_ n _
  ⟨0, rfl, by omega, by simp, oX _, .inl rfl, by simp [ij]⟩ (by simp; omega)
 rintro again ⟨out, c, x⟩ ⟨k, hx, Y, D, q, j, C⟩ N
 simp only at hx D q j C
 subst hx
 dsimp only
 rw [List.length_replicate, Int.toNat_natCast, B1]
 have da := cu ha k; have db := cu hb k
 refine Ok.cd (fun h => ?_) (fun h => ?_)
 · have E : k < a.length := by simp at h; omega
   show Ok (gdO _ _) _
   refine Ok.gd (by rw [bg]; simpa using E) ?_
   rw [dy]
   generalize hs : aa .u32 (b.getD k 0 + c) = s
   have O : s = b.getD k 0 + c := by rw [<- hs, ba (by omega) (by omega)]
   have step : ∀ d m, (0 <= d /\ d < 1000000000) -> (m = 0 \/ m = 1) -> a.getD k 0 - s = d - 1000000000 * m -> Ok (again (out.set k d, m, ((k + 1 : Nat) : Int))) fun r => Dig r /\ r.length <= 900 /\ vl r = vl a - vl b := by
    intro d m hd hc T
    refine N _ ⟨k + 1, rfl, by omega, by simpa using D, iN q hd, hc, ?_⟩ (by simp; omega)
    simp only
    rw [BX (by omega), eP, eP, cy]
    have : a.getD k 0 - b.getD k 0 - c = d - 1000000000 * m := by omega
    grind
   rw [iQ (by omega), bg, Int.toNat_natCast]
   refine Ok.cd (fun h => ?_) (fun h => ?_)
   · have I : a.getD k 0 < s := by simpa using h
     rw [ba (n := a.getD k 0 + 1000000000) (by omega) (by omega), ba (by omega) (by omega)]
     exact Ok.gd (by simp; omega) (step _ 1 (by omega) (.inr rfl) (by omega))
   · have I : s <= a.getD k 0 := by simpa using h
     rw [ba (by omega) (by omega)]
     exact Ok.gd (by simp; omega) (step _ 0 (by omega) (.inl rfl) (by omega))
 · have E : k = a.length := by simp at h; omega
   subst E
   refine az.2 ⟨q, by omega, ?_⟩
   rw [fu (by omega), fu (by omega), fu (by omega)] at C
   have := gP q
   rw [D] at this
   rcases j with j | j
   · rw [j] at C; omega
   · rw [j] at C; omega
theorem oS {n : Nat} {a b : List Int} (ha : Can a) (hb : Can b) (m : a.length <= 400) (lb : b.length <= 400) : fk n a b = some (sgn (vl a - vl b)) := by
 unfold fk
 have e1 : decide (a.length <= 1099511627776) = true := by simp; omega
 have e2 : decide (b.length <= 1099511627776) = true := by simp; omega
 rw [e1, e2]
 show some _ = _
 by_cases h : a.length = b.length
 · rw [decide_eq_true h, cond_true, BR ha.dig hb.dig h]
 · rw [decide_eq_false h, cond_false]
   unfold nP
   by_cases j : a.length < b.length
   · have := cm ha.dig hb j
     rw [if_pos (by omega), kP (by omega)]
   · have := cm hb.dig ha (by omega)
     rw [if_neg (by omega), if_pos (by omega), q7 (by omega)]
end Go.L

