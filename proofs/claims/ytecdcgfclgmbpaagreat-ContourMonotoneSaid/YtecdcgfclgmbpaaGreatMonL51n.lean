import Derived.Test.YtecdcgfclgmbpaaGreatMonL51x
import Derived.Test.YtecdcgfclgmbpaaGreatMonL02sB
import Derived.Test.YtecdcgfclgmbpaaGreatMonL51b
import Derived.Test.YtecdcgfclgmbpaaGreatMonL51x
set_option linter.all false
namespace Go.L
open Go Go.Eng
theorem CM : Rat.divInt 1 1 = 1 := by rw [jX]; rfl
theorem yL {x y z : ai} {a b c : Rat} (hx : Qx x a 1) (hy : Qx y b 1) (hz : Qx z c 1) (h1 : a - b ≠ 0) (h2 : a - c ≠ 0) : Ok (gh 20000 x y z) fun o => Qx o (shQ a b c) 8 := by
 unfold gh
 refine Ok.bd (og (by omega) (by omega) hx hx) fun p hp => Ok.bd (p7 (by omega) (by omega) hx hy) fun q hq => Ok.bd (p7 (by omega) (by omega) hx hz) fun r hr => ?_
 refine Ok.bd (og (by omega) (by omega) hq hr) fun s hs => Ok.bd (vB (by omega) (by omega) hp hs (by grind)) fun o ho => az.2 ho
theorem yA {x : ai} {a : Rat} {k : Nat} (hk : k <= 100) (hx : Qx x a k) : Ok (jr 20000 x) fun o => Qx o (a / 3) (k + 3) := by
 unfold jr
 refine Ok.bd (pw (by omega) (by omega) (by omega)) fun u hu => ?_
 rw [C0] at hu
 exact Ok.bd (vB (by omega) (by omega) hx hu (by grind)) fun o ho => az.2 ho
theorem CS {x y z : ai} {a b c : Rat} (hx : Qx x a 1) (hy : Qx y b 1) (hz : Qx z c 1) (h1 : a - b ≠ 0) (h2 : a - c ≠ 0) : Ok (fm 20000 x y z) fun o => Qx o (gk a b c) 25 := by
 unfold fm
 refine Ok.bd (yL hx hy hz h1 h2) fun p hp => Ok.bd (og (by omega) (by omega) hx hp) fun q hq => Ok.bd (yA (by omega) hq) fun o ho => az.2 ?_
 have e : a * shQ a b c / 3 = gk a b c := by unfold shQ gk; grind
 rw [e] at ho
 exact QL.mono ho (by omega)
theorem Cl {x y z v : ai} {a b c r : Rat} (hx : Qx x a 1) (hy : Qx y b 1) (hz : Qx z c 1) (hv : Qx v r 25) : Ok (eZ 20000 x y z v) fun o => Qx o (1 - r) 40 := by
 unfold eZ
 refine Ok.bd (pw (by omega) (by omega) (by omega)) fun u hu => ?_
 rw [CM] at hu
 exact Ok.bd (p7 (by omega) (by omega) hu hv) fun o ho => az.2 (QL.mono ho (by omega))
theorem Ba {x y z v : ai} {a b c r : Rat} (hx : Qx x a 1) (hy : Qx y b 1) (hz : Qx z c 1) (hv : Qx v r 25) : Ok (eA 20000 x y z v) fun o => Qx o (cL a b c - r) 40 := by
 unfold eA
 refine Ok.bd (n9 (by omega) (by omega) hy hz) fun p hp => Ok.bd (n9 (by omega) (by omega) hx hp) fun q hq => Ok.bd (yA (by omega) hq) fun s hs => ?_
 exact Ok.bd (p7 (by omega) (by omega) hs hv) fun o ho => az.2 (QL.mono ho (by omega))
structure Fns (tip : ai -> ai -> ai -> Option ai) (rest : ai -> ai -> ai -> ai -> Option ai) (f m : Rat -> Rat -> Rat -> Rat) : Prop where
 tip : ∀ {x y z : ai} {a b c : Rat}, Qx x a 1 -> Qx y b 1 -> Qx z c 1 -> a - b ≠ 0 -> a - c ≠ 0 -> Ok (tip x y z) fun o => Qx o (f a b c) 25
 rest : ∀ {x y z v : ai} {a b c r : Rat}, Qx x a 1 -> Qx y b 1 -> Qx z c 1 -> Qx v r 25 -> Ok (rest x y z v) fun o => Qx o (m a b c - r) 40
 p : Ptr f m
theorem Ef : Fns (gh 20000) (eZ 20000) shQ (fun _ _ _ => 1) := ⟨fun h1 h2 h3 h4 h5 => (yL h1 h2 h3 h4 h5).mono fun o h => QL.mono h (by omega), fun h1 h2 h3 h4 => Cl h1 h2 h3 h4, D0⟩
theorem EI : Fns (fm 20000) (eA 20000) gk cL := ⟨fun h1 h2 h3 h4 h5 => CS h1 h2 h3 h4 h5, fun h1 h2 h3 h4 => Ba h1 h2 h3 h4, Df⟩
theorem Cj (A : Int) : cn (h2 A) = if 0 < A then 1 else 0 := by
 unfold cn
 by_cases h : 0 < A
 · rw [if_pos (qR.2 h), if_pos h]
 · rw [if_neg (fun k => h (qR.1 k)), if_neg h]
def hgt (Z : List Int) (level k : Int) : Int := 2 * gt Z k - level
def okZ (z : Int) : Prop := -1048576 <= z /\ z <= 1048576
def okL (level : Int) : Prop := level.tmod 2 ≠ 0 /\ -2097153 <= level /\ level <= 2097153
theorem pM {Z : List Int} {level k : Int} (hz : okZ (gt Z k)) (hl : okL level) : inH (hgt Z level k) := by
 obtain ⟨l1, l2, l3⟩ := hl; obtain ⟨z1, z2⟩ := hz
 unfold hgt
 refine ⟨fun e => l1 ?_, by omega, by omega⟩
 rw [show level = 2 * gt Z k by omega, Int.mul_tmod_right]
theorem Bi {tip : ai -> ai -> ai -> Option ai} {rest : ai -> ai -> ai -> ai -> Option ai} {f m : Rat -> Rat -> Rat -> Rat} (F : Fns tip rest f m) {Z : List Int} {level : Int} {t : A3 Int} {S : T4} {s : Rat}
  (hin : inR t.e0 Z.length = true /\ inR t.e1 Z.length = true /\ inR t.e2 Z.length = true) (hz : okZ (gt Z t.e0) /\ okZ (gt Z t.e1) /\ okZ (gt Z t.e2)) (hl : okL level) (hS : Qx (rs S) s 95) :
  Ok (B5 20000 tip rest Z level t S) fun o => Qx (rs o) (s + ptQ f m (hgt Z level t.e0) (hgt Z level t.e1) (hgt Z level t.e2)) 136 := by
 unfold B5
 refine Ok.bd (zt hin.1 hz.1 hl.2 1 0) ?_
 rintro x ⟨hx, ux⟩
 refine Ok.bd (zt hin.2.1 hz.2.1 hl.2 _ _) ?_
 rintro y ⟨hy, uy⟩
 refine Ok.bd (zt hin.2.2 hz.2.2 hl.2 _ _) ?_
 rintro z ⟨hz3, uz⟩
 have hu : z.2.2.2.2 = cn (h2 (hgt Z level t.e0)) + cn (h2 (hgt Z level t.e1)) + cn (h2 (hgt Z level t.e2)) := by
  rw [Cj, Cj, Cj, uz, uy, ux]
  show (if 0 < hgt Z level t.e2 then Fj ((if 0 < hgt Z level t.e1 then Fj ((if 0 < hgt Z level t.e0 then 1 else 0) + 1) else if 0 < hgt Z level t.e0 then 1 else 0) + 1) else if 0 < hgt Z level t.e1 then Fj ((if 0 < hgt Z level t.e0 then 1 else 0) + 1) else if 0 < hgt Z level t.e0 then 1 else 0) = _
  by_cases h0 : 0 < hgt Z level t.e0 <;> by_cases h1 : 0 < hgt Z level t.e1 <;> by_cases h2 : 0 < hgt Z level t.e2 <;> simp only [h0, h1, h2, if_true, if_false] <;> rfl
 change Qx (rq x) (h2 (hgt Z level t.e0)) 1 at hx
 change Qx (rq y) (h2 (hgt Z level t.e1)) 1 at hy
 change Qx (rq z) (h2 (hgt Z level t.e2)) 1 at hz3
 unfold ptQ
 generalize z.2.2.2.2 = up at hu ⊢
 generalize h2 (hgt Z level t.e0) = a at *
 generalize h2 (hgt Z level t.e1) = b at *
 generalize h2 (hgt Z level t.e2) = c at *
 have hc : ∀ r : Rat, cn r = 0 \/ cn r = 1 := fun r => by unfold cn; split <;> simp
 have cp : ∀ {r : Rat}, cn r = 1 -> 0 < r := fun {r} h => by unfold cn at h; split at h <;> simp_all
 have cq : ∀ {r : Rat}, cn r = 0 -> ¬ 0 < r := fun {r} h => by unfold cn at h; split at h <;> simp_all
 have ca := hc a; have cb := hc b; have cc := hc c
 refine Ok.cd (fun h => az.2 ?_) (fun h0 => Ok.cd (fun h => ?_) (fun h3 => ?_))
 · have h : up = 0 := by simpa using h
   rw [show ib f (m a b c) a b c = 0 by unfold ib; rw [if_neg (cq (by omega)), if_neg (cq (by omega)), if_neg (cq (by omega))], show s + 0 = s by grind]
   exact QL.mono hS (by omega)
 · have h : up = 3 := by simpa using h
   rw [show ib f (m a b c) a b c = m a b c by unfold ib; rw [if_pos (cp (by omega)), if_pos (cp (by omega)), if_pos (cp (by omega))]]
   refine Ok.bd (pw (by omega) (by omega) (by omega)) fun u hu => ?_
   rw [xQ] at hu
   refine Ok.bd (F.rest hx hy hz3 (QL.mono hu (by omega))) fun v hv => ?_
   rw [show m a b c - 0 = m a b c by grind] at hv
   exact Ok.bd (n9 (by omega) (by omega) hS hv) fun o ho => az.2 ho
 · have h0 : up ≠ 0 := by simpa using h0
   have h3 : up ≠ 3 := by simpa using h3
   refine Ok.bd (DA hx hy hz3 hu h0 h3) ?_
   rintro o ⟨a', b', c', g1, g2, g3, n1, n2, gm, gf⟩
   refine Ok.bd (F.tip g1 g2 g3 n1 n2) fun v hv => ?_
   refine Ok.cd (fun h => ?_) (fun h => ?_)
   · have h : up = 2 := by simpa using h
     rw [(gf f (m a b c)).2 h]
     refine Ok.bd (F.rest g1 g2 g3 hv) fun w hw => ?_
     rw [gm m F.p.rot] at hw
     exact Ok.bd (n9 (by omega) (by omega) hS hw) fun o ho => az.2 ho
   · have h : up ≠ 2 := by simpa using h
     rw [(gf f (m a b c)).1 (by omega)]
     exact Ok.bd (n9 (by omega) (by omega) hS hv) fun o ho => az.2 (QL.mono ho (by omega))
def iv : List Rat -> Rat
 | [] => 0
 | x :: l => x + iv l
theorem uE : ∀ l m : List Rat, iv (l ++ m) = iv l + iv m
 | [], m => by show iv m = 0 + iv m; grind
 | x :: l, m => by show x + iv (l ++ m) = x + iv l + iv m; rw [uE l m]; grind
def ptG (f m : Rat -> Rat -> Rat -> Rat) (Z : List Int) (level : Int) (t : A3 Int) : Rat := ptQ f m (hgt Z level t.e0) (hgt Z level t.e1) (hgt Z level t.e2)
theorem Bh {p : A3 Int -> Rat} (pre : List (A3 Int)) (t : A3 Int) : iv ((pre ++ [t]).map p) = iv (pre.map p) + p t := by
 rw [List.map_append, uE]
 show _ + (p t + 0) = _
 grind
theorem zin {g : al} {w h : Nat} (hb : g.Z.any qU = false) {t : A3 Int} (hg : Gd g w h) (ht : t ∈ n5 g w h) : (inR t.e0 g.Z.length = true /\ inR t.e1 g.Z.length = true /\ inR t.e2 g.Z.length = true) /\ okZ (gt g.Z t.e0) /\ okZ (gt g.Z t.e1) /\ okZ (gt g.Z t.e2) := by
 unfold n5 at ht
 rw [List.mem_filter] at ht
 obtain ⟨i0, i1, i2⟩ := DN hg ht.1
 have hz := ht.2
 unfold oV at hz
 simp only [Bool.and_eq_true] at hz
 have key : ∀ {k : Int}, inR k g.Z.length = true -> (gt g.Z k != -2147483648) = true -> okZ (gt g.Z k) := by
  intro k hk hn
  have hk2 := z5.1 hk
  obtain ⟨m, rfl⟩ : ∃ m : Nat, k = (m : Int) := ⟨k.toNat, by omega⟩
  have hm : m < g.Z.length := by omega
  have h1 : gt g.Z (m : Int) ∈ g.Z := by
   rw [tP]; simp only [List.getD, geT hm, Option.getD_some]; exact List.getElem_mem hm
  have := List.any_eq_false.1 hb _ h1
  unfold qU xV at this
  rw [hn] at this
  simp at this
  exact ⟨by omega, by omega⟩
 exact ⟨⟨i0, i1, i2⟩, key i0 hz.1, key i1 hz.2.1, key i2 hz.2.2⟩
def Sm (f m : Rat -> Rat -> Rat -> Rat) (Z : List Int) (level : Int) (pre : List (A3 Int)) (c : T4) : Prop := Qx (rs c) (iv (pre.map (ptG f m Z level))) 95 /\ Bd (iv (pre.map (ptG f m Z level))) pre.length
theorem zV {tip : ai -> ai -> ai -> Option ai} {rest : ai -> ai -> ai -> ai -> Option ai} {f m : Rat -> Rat -> Rat -> Rat} (F : Fns tip rest f m) {g : al} {level : Int} {w h : Nat} (hg : Gd g w h) (hb : g.Z.any qU = false) (hl : okL level)
  {pre : List (A3 Int)} {t : A3 Int} {c : T4} (ht : t ∈ n5 g w h) (hp : pre.length < 56) (hc : Sm f m g.Z level pre c) : Ok (B5 20000 tip rest g.Z level t c) (Sm f m g.Z level (pre ++ [t])) := by
 obtain ⟨hi, z0, z1, z2⟩ := zin hb hg ht
 refine (Bi F hi ⟨z0, z1, z2⟩ hl hc.1).mono fun o ho => ?_
 have b1 := hc.2.add (Ep F.p (pM z0 hl) (pM z1 hl) (pM z2 hl))
 unfold Sm
 rw [Bh, List.length_append]
 exact ⟨b1.len (by omega) ho, b1⟩
theorem BQ {w h : Nat} (hw : 2 <= w) (hh : 2 <= h) (hm : w * h <= 40) : 2 * ((w - 1) * (h - 1)) <= 56 := by
 have h1 : w * 2 <= w * h := Nat.mul_le_mul_left w hh
 have h2 : 2 * h <= w * h := Nat.mul_le_mul_right h hw
 have : ∀ w, w < 21 -> ∀ h, h < 21 -> 2 <= w -> 2 <= h -> w * h <= 40 -> 2 * ((w - 1) * (h - 1)) <= 56 := by decide
 exact this w (by omega) h (by omega) hw hh hm
theorem EE {g : al} {level : Int} {w h : Nat} (hg : Gd g w h) (hb : g.Z.any qU = false) (h40 : g.Z.length <= 40) (hl : okL level) {S : T4} (hS : Sm shQ (fun _ _ _ => 1) g.Z level [] S) (a b c d e : Int) :
  Ok (bY 20000 g a b c d e g.Z level S.1 S.2.1 S.2.2.1 S.2.2.2) (Sm shQ (fun _ _ _ => 1) g.Z level (n5 g w h)) := by
 have h56 := BQ hg.w1.1 hg.h1.1 (by rw [<- hg.m]; exact h40)
 unfold bY
 refine Ok.bd (R := Sm shQ (fun _ _ _ => 1) g.Z level (n5 g w h)) ?_ (fun o ho => az.2 ho)
 exact xb (γ := T4) (by omega) hg (fun c x => (c.1, c.2.1, c.2.2.1, c.2.2.2, x)) (fun t c' => ia 20000 t a b c d e g.Z level c'.1 c'.2.1 c'.2.2.1 c'.2.2.2)
  (fun _ _ _ => rfl) (fun _ _ _ _ => rfl) (fun _ _ _ _ => rfl) (Sm shQ (fun _ _ _ => 1) g.Z level) hS fun pre t c' ht hp hc => by
   rw [DE]; exact zV Ef hg hb hl ht (by omega) hc
theorem Ey {g : al} {level : Int} {w h : Nat} (hg : Gd g w h) (hb : g.Z.any qU = false) (h40 : g.Z.length <= 40) (hl : okL level) {S : T4} (hS : Sm gk cL g.Z level [] S) (a b c d e : Int) :
  Ok (bK 20000 g a b c d e g.Z level S.1 S.2.1 S.2.2.1 S.2.2.2) (Sm gk cL g.Z level (n5 g w h)) := by
 have h56 := BQ hg.w1.1 hg.h1.1 (by rw [<- hg.m]; exact h40)
 unfold bK
 refine Ok.bd (R := Sm gk cL g.Z level (n5 g w h)) ?_ (fun o ho => az.2 ho)
 exact xb (γ := T4) (by omega) hg (fun c x => (c.1, c.2.1, c.2.2.1, c.2.2.2, x)) (fun t c' => fU 20000 t a b c d e g.Z level c'.1 c'.2.1 c'.2.2.1 c'.2.2.2)
  (fun _ _ _ => rfl) (fun _ _ _ _ => rfl) (fun _ _ _ _ => rfl) (Sm gk cL g.Z level) hS fun pre t c' ht hp hc => by
   rw [DZ]; exact zV EI hg hb hl ht (by omega) hc
def arQ (g : al) : Rat := Rat.divInt (g.Step * g.Step) 2
def zl (f m : Rat -> Rat -> Rat -> Rat) (g : al) (w h : Nat) (level : Int) : Rat := iv ((n5 g w h).map (ptG f m g.Z level)) * arQ g
theorem vc {g : al} {w h : Nat} (hg : Gd g w h) : 0 <= g.Step * g.Step /\ g.Step * g.Step <= 4294967296 := by
 have hs := hg.dim.s
 have s1 := Int.mul_le_mul hs.2 hs.2 (by omega) (by omega)
 have s0 := Int.mul_nonneg (show 0 <= g.Step by omega) (show 0 <= g.Step by omega)
 omega
theorem Bn {f m : Rat -> Rat -> Rat -> Rat} {Z : List Int} {level : Int} {u : ai} (hu : Qx u 0 3) : Sm f m Z level [] (qd u) := ⟨QL.mono hu (by omega), Cz⟩
theorem yD {g : al} {level : Int} {w h : Nat} (hg : Gd g w h) (hb : g.Z.any qU = false) (h40 : g.Z.length <= 40) (hl : okL level) : Ok (bj 20000 g level) fun o => Qx o (zl shQ (fun _ _ _ => 1) g w h level) 98 := by
 have hq := vc hg
 unfold bj
 refine Ok.bd (pw (by omega) (by omega) (by omega)) fun u hu => ?_
 rw [xQ] at hu
 refine Ok.bd (EE hg hb h40 hl (S := qd u) (Bn hu) _ _ _ _ _) fun v hv => ?_
 rw [wrap64_in (by omega) (by omega)]
 refine Ok.bd (vY (by omega) (by omega) (by omega) (by omega) (by omega) (by omega)) ?_
 rintro s ⟨hs, -⟩
 exact Ok.bd (og (x := rs v) (by omega) (by omega) hv.1 hs) fun o ho => az.2 ho
theorem wM {g : al} {level : Int} {w h : Nat} (hg : Gd g w h) (hb : g.Z.any qU = false) (h40 : g.Z.length <= 40) (hl : okL level) : Ok (a8 20000 g level) fun o => Qx o (zl gk cL g w h level) 98 := by
 have hq := vc hg
 unfold a8
 refine Ok.bd (pw (by omega) (by omega) (by omega)) fun u hu => ?_
 rw [xQ] at hu
 refine Ok.bd (Ey hg hb h40 hl (S := qd u) (Bn hu) _ _ _ _ _) fun v hv => ?_
 rw [wrap64_in (by omega) (by omega)]
 refine Ok.bd (vY (by omega) (by omega) (by omega) (by omega) (by omega) (by omega)) ?_
 rintro s ⟨hs, -⟩
 exact Ok.bd (og (x := rs v) (by omega) (by omega) hv.1 hs) fun o ho => az.2 ho
end Go.L


set_option linter.all false
namespace Go.L
open Go Go.Eng
theorem nn {a : Rat} (h : a ≠ 0) : (0 < -a) ↔ ¬ 0 < a := by constructor <;> intro k <;> grind
end Go.L


set_option linter.all false
namespace Go.L
open Go Go.Eng
theorem E0 : (4294967296 : Int) * (5600000000 * 1000000000000000 ^ 56) < pB 97 := dcT (by kernel_rfl)
theorem Bd.Eh {nn dn : Bool} {ng dg : List Int} {r : Rat} {i j : Nat} {s : Int} (hs : 0 <= s /\ s <= 4294967296) (h : Bd r i) (hi : i <= 56) (q : QL nn ng dn dg (Rat.divInt s 2 * r) j) : QL nn ng dn dg (Rat.divInt s 2 * r) 97 := by
 obtain ⟨p, d, h1, h2, h3, h4, h5⟩ := h
 have hp := yo hi
 have hb := E0
 have h0 : (0 : Int) < 1000000000000000 ^ i := Int.pow_pos (by omega)
 have hm : (i : Int) * 100000000 * 1000000000000000 ^ i <= 5600000000 * 1000000000000000 ^ 56 := Int.mul_le_mul (by omega) hp (by omega) (by omega)
 generalize (i : Int) * 100000000 * 1000000000000000 ^ i = M at *
 generalize (1000000000000000 : Int) ^ i = P at *
 generalize (1000000000000000 : Int) ^ 56 = R at *
 have k1 : s * p <= s * (5600000000 * R) := mlT (by omega) hs.1
 have k2 : s * (-(5600000000 * R)) <= s * p := mlT (by omega) hs.1
 have k3 : s * (5600000000 * R) <= 4294967296 * (5600000000 * R) := mrT hs.2 (by omega)
 rw [Int.mul_neg] at k2
 exact QL.tight q (p := s * p) (q := 2 * d) (by rw [h1, Rat.divInt_mul_divInt]) (by omega) (by omega) (by omega) (by omega)
theorem CJ {g : al} {w h : Nat} : (n5 g w h).length <= 2 * ((w - 1) * (h - 1)) := by
 have := List.length_filter_le (oV g.Z) (pP g.Width (w - 1) (h - 1))
 rw [x4, Nat.mul_assoc] at this
 exact this
def yF (c level : Int) : Int := if c ≠ 0 then c else if level.tmod 2 = 0 then 1 else if level < -2097153 then 2 else if 2097153 < level then 2 else 0
theorem Ex {α : Type} {c level : Int} : (cdO ((c : Int) != 0) (some c) (cdO (((level.tmod 2) : Int) == 0) (some 1) (cdO (decide (level < (-2097153))) (some 2) (cdO (decide (level > 2097153)) (some 2) (some 0)))) : Option Int) = some (yF c level) := by
 unfold yF
 by_cases h0 : c = 0
 · subst h0
   by_cases h1 : level.tmod 2 = 0
   · rw [h1]; rfl
   · rw [show (level.tmod 2 == 0) = false by simpa using h1, if_neg (by simp), if_neg h1]
     by_cases h2 : level < -2097153
     · rw [decide_eq_true h2, if_pos h2]; rfl
     · rw [decide_eq_false h2, if_neg h2]
       by_cases h3 : level > 2097153
       · rw [decide_eq_true h3, if_pos h3]; rfl
       · rw [decide_eq_false h3, if_neg h3]; rfl
 · rw [show (c != 0) = true by simpa using h0, if_pos h0]; rfl
theorem xI (g : al) (level : Int) : dD 20000 g level = some (yF (nZ g) level) := by
 unfold dD
 rw [BH (by omega)]
 exact Ex (α := Int)
theorem xa (g : al) (level : Int) : cM 20000 g level = some (yF (nZ g) level) := by
 unfold cM
 rw [AR (by omega)]
 exact Ex (α := Int)
theorem yN {g : al} {level : Int} (h : yF (nZ g) level = 0) : nZ g = 0 /\ okL level := by
 unfold yF at h
 split at h
 · omega
 · rename_i h0
   split at h
   · omega
   · rename_i h1
     split at h
     · omega
     · split at h
       · omega
       · exact ⟨by omega, h1, by omega, by omega⟩
end Go.L


set_option linter.all false
namespace Go.L
open Go Go.Eng
def aQ (a b c : Rat) : Rat := ib shQ 1 a b c
def vQ (a b c : Rat) : Rat := ib gk (cL a b c) a b c
theorem Eg {u v i : Rat} (hi : 0 <= i) (hv : 0 <= v) (h : v <= u) : (u - v) * (v * v) * i <= (u * (u * u) - v * (v * v)) * i / 3 /\ (u * (u * u) - v * (v * v)) * i / 3 <= (u - v) * (u * u) * i := by
 have d : 0 <= u - v := by grind
 have dd := Rat.mul_nonneg d d
 have s1 := Rat.mul_nonneg (Rat.mul_nonneg dd (show 0 <= u + 2 * v by grind)) hi
 have s2 := Rat.mul_nonneg (Rat.mul_nonneg dd (show 0 <= 2 * u + v by grind)) hi
 constructor <;> grind
def Sg (a b c t : Rat) : Prop := t * aQ (a - t) (b - t) (c - t) <= vQ a b c - vQ (a - t) (b - t) (c - t) /\ vQ a b c - vQ (a - t) (b - t) (c - t) <= t * aQ a b c
theorem w9 {t x y : Rat} (ht : 0 < t) (h : t * x <= t * y) : x <= y := by
 apply Classical.byContradiction; intro hc
 have := Rat.mul_pos ht (show 0 < x - y by grind)
 grind
theorem Sg.mono {a b c t : Rat} (h : Sg a b c t) (ht : 0 < t) : aQ (a - t) (b - t) (c - t) <= aQ a b c := w9 ht (Rat.le_trans h.1 h.2)
theorem Sg.zero (a b c : Rat) : Sg a b c 0 := by
 have e : ∀ z : Rat, z - 0 = z := fun z => by grind
 unfold Sg; rw [e, e, e]; constructor <;> grind
theorem Sg.comp {a b c p q : Rat} (h : Sg a b c p) (k : Sg (a - p) (b - p) (c - p) q) (hp : 0 <= p) (hq : 0 <= q) : Sg a b c (p + q) := by
 by_cases p0 : p = 0
 · subst p0
   have e : ∀ z : Rat, z - 0 = z := fun z => by grind
   rw [e, e, e] at k; rw [show (0 : Rat) + q = q by grind]; exact k
 by_cases q0 : q = 0
 · subst q0; rw [show p + 0 = p by grind]; exact h
 have m1 := h.mono (by grind)
 have m2 := k.mono (by grind)
 have e : ∀ z : Rat, z - (p + q) = z - p - q := fun z => by grind
 unfold Sg at *
 rw [e, e, e]
 have t1 := Rat.mul_nonneg hq (show 0 <= aQ a b c - aQ (a - p) (b - p) (c - p) by grind)
 have t2 := Rat.mul_nonneg hp (show 0 <= aQ (a - p) (b - p) (c - p) - aQ (a - p - q) (b - p - q) (c - p - q) by grind)
 constructor <;> grind
theorem DM {a b c : Rat} (ha : a <= 0) (hb : b <= 0) (hc : c <= 0) : aQ a b c = 0 /\ vQ a b c = 0 := by
 have h1 : ¬ 0 < a := by grind
 have h2 : ¬ 0 < b := by grind
 have h3 : ¬ 0 < c := by grind
 unfold aQ vQ ib; simp only [h1, h2, h3, if_false, and_self]
theorem DI {a b c i : Rat} (ha : 0 <= a) (hb : b <= 0) (hc : c <= 0) (hi : 0 < a -> i = ((a - b) * (a - c))⁻¹) : aQ a b c = a * a * i /\ vQ a b c = a * (a * a) * i / 3 := by
 have h2 : ¬ 0 < b := by grind
 have h3 : ¬ 0 < c := by grind
 by_cases h1 : 0 < a
 · rw [hi h1]
   have n1 : a - b ≠ 0 := by grind
   have n2 : a - c ≠ 0 := by grind
   unfold aQ vQ ib; simp only [h1, h2, h3, if_false, if_true]
   constructor
   · unfold shQ; rw [Rat.div_def]
   · unfold gk; grind
 · have : a = 0 := by grind
   subst this
   obtain ⟨e1, e2⟩ := DM (a := 0) (by grind) hb hc
   rw [e1, e2]; constructor <;> grind
theorem DR {a b c : Rat} (hab : b <= a) (hb : 0 <= b) (hc : c <= 0) (hn : c < 0 \/ 0 < b) : aQ a b c = 1 - c * c * ((c - a) * (c - b))⁻¹ /\ vQ a b c = cL a b c - c * (c * c) * ((c - a) * (c - b))⁻¹ / 3 := by
 have h3 : ¬ 0 < c := by grind
 have n1 : c - a ≠ 0 := by grind
 have n2 : c - b ≠ 0 := by grind
 by_cases h2 : 0 < b
 · have h1 : 0 < a := by grind
   unfold aQ vQ ib; simp only [h1, h2, h3, if_false, if_true]
   constructor
   · unfold shQ; rw [Rat.div_def]
   · unfold gk; grind
 · have hb0 : b = 0 := by grind
   subst hb0
   have c0 : c ≠ 0 := by grind
   by_cases h1 : 0 < a
   · have a0 : a ≠ 0 := by grind
     have n3 : a - c ≠ 0 := by grind
     unfold aQ vQ ib; simp only [h1, h2, h3, if_false, if_true]
     constructor
     · unfold shQ; grind
     · unfold gk cL; grind
   · have : a = 0 := by grind
     subst this
     unfold aQ vQ ib; simp only [h1, h2, h3, if_false, if_true]
     constructor
     · grind
     · unfold cL; grind
theorem Ee {a b c : Rat} (hab : b <= a) (hbc : c <= b) (hc : 0 <= c) : vQ a b c = cL a b c /\ aQ a b c <= 1 /\ (0 < c -> aQ a b c = 1) := by
 by_cases h3 : 0 < c
 · have h2 : 0 < b := by grind
   have h1 : 0 < a := by grind
   unfold aQ vQ ib; simp only [h1, h2, h3, if_true]
   exact ⟨trivial, by grind, fun _ => trivial⟩
 · have : c = 0 := by grind
   subst this
   by_cases h2 : 0 < b
   · obtain ⟨e1, e2⟩ := DR (c := 0) hab hbc (show (0 : Rat) <= 0 by grind) (.inr h2)
     rw [e1, e2]
     exact ⟨by grind, by grind, fun h => by grind⟩
   · have : b = 0 := by grind
     subst this
     obtain ⟨e1, e2⟩ := DI (i := ((a - 0) * (a - 0))⁻¹) hab (show (0 : Rat) <= 0 by grind) (show (0 : Rat) <= 0 by grind) (fun _ => rfl)
     rw [e1, e2]
     by_cases h1 : a = 0
     · subst h1; exact ⟨by unfold cL; grind, by grind, fun h => by grind⟩
     · exact ⟨by unfold cL; grind, by grind, fun h => by grind⟩
theorem vH {x : Rat} (h : 0 < x) : 0 <= x⁻¹ := Rat.le_of_lt (Rat.inv_pos.2 h)
theorem st1 {a b c t : Rat} (ht : 0 < t) (hta : t <= a) (hb : b <= 0) (hc : c <= 0) : Sg a b c t := by
 have hi := vH (Rat.mul_pos (show 0 < a - b by grind) (show 0 < a - c by grind))
 have e : (a - t - (b - t)) * (a - t - (c - t)) = (a - b) * (a - c) := by grind
 obtain ⟨e1, e2⟩ := DI (a := a) (b := b) (c := c) (by grind) hb hc (fun _ => rfl)
 obtain ⟨e3, e4⟩ := DI (a := a - t) (b := b - t) (c := c - t) (i := ((a - b) * (a - c))⁻¹) (by grind) (by grind) (by grind) (fun _ => by rw [e])
 obtain ⟨k1, k2⟩ := Eg (u := a) (v := a - t) hi (by grind) (by grind)
 unfold Sg
 rw [e1, e2, e3, e4]
 generalize ((a - b) * (a - c))⁻¹ = i at *
 constructor <;> grind
theorem st2 {a b c t : Rat} (ht : 0 < t) (hab : b <= a) (htb : t <= b) (hc : c <= 0) : Sg a b c t := by
 have hi : 0 <= ((c - a) * (c - b))⁻¹ := by
  have := Rat.mul_pos (show 0 < a - c by grind) (show 0 < b - c by grind)
  exact vH (by grind)
 have e : (c - t - (a - t)) * (c - t - (b - t)) = (c - a) * (c - b) := by grind
 obtain ⟨e1, e2⟩ := DR (a := a) (b := b) (c := c) hab (by grind) hc (.inr (by grind))
 obtain ⟨e3, e4⟩ := DR (a := a - t) (b := b - t) (c := c - t) (by grind) (by grind) (by grind) (.inl (by grind))
 rw [e] at e3 e4
 obtain ⟨k1, k2⟩ := Eg (u := t - c) (v := -c) hi (by grind) (by grind)
 unfold Sg
 rw [e1, e2, e3, e4]
 unfold cL
 generalize ((c - a) * (c - b))⁻¹ = i at *
 constructor <;> grind
theorem st3 {a b c t : Rat} (ht : 0 < t) (hab : b <= a) (hbc : c <= b) (htc : t <= c) : Sg a b c t := by
 obtain ⟨e1, _, e2⟩ := Ee hab hbc (by grind)
 obtain ⟨e3, e4, _⟩ := Ee (a := a - t) (b := b - t) (c := c - t) (by grind) (by grind) (by grind)
 unfold Sg
 rw [e1, e2 (by grind), e3]
 have := Rat.mul_nonneg (Rat.le_of_lt ht) (show 0 <= 1 - aQ (a - t) (b - t) (c - t) by grind)
 unfold cL
 constructor <;> grind
theorem st0 {a b c t : Rat} (ht : 0 <= t) (ha : a <= 0) (hb : b <= 0) (hc : c <= 0) : Sg a b c t := by
 obtain ⟨e1, e2⟩ := DM ha hb hc
 obtain ⟨e3, e4⟩ := DM (a := a - t) (b := b - t) (c := c - t) (by grind) (by grind) (by grind)
 unfold Sg; rw [e1, e2, e3, e4]; constructor <;> grind
theorem CN {a b c t : Rat} (ht : 0 <= t) (hb : b <= 0) (hc : c <= 0) : Sg a b c t := by
 by_cases t0 : t = 0
 · subst t0; exact Sg.zero a b c
 by_cases ha : a <= 0
 · exact st0 ht ha hb hc
 by_cases h : t <= a
 · exact st1 (by grind) h hb hc
 · rw [show t = a + (t - a) by grind]
   exact (st1 (by grind) (by grind) hb hc).comp (st0 (by grind) (by grind) (by grind) (by grind)) (by grind) (by grind)
theorem C1 {a b c t : Rat} (ht : 0 <= t) (hab : b <= a) (hc : c <= 0) : Sg a b c t := by
 by_cases t0 : t = 0
 · subst t0; exact Sg.zero a b c
 by_cases hb : b <= 0
 · exact CN ht hb hc
 by_cases h : t <= b
 · exact st2 (by grind) hab h hc
 · rw [show t = b + (t - b) by grind]
   exact (st2 (by grind) hab (by grind) hc).comp (CN (by grind) (by grind) (by grind)) (by grind) (by grind)
theorem AI {a b c t : Rat} (ht : 0 <= t) (hab : b <= a) (hbc : c <= b) : Sg a b c t := by
 by_cases t0 : t = 0
 · subst t0; exact Sg.zero a b c
 by_cases hc : c <= 0
 · exact C1 ht hab hc
 by_cases h : t <= c
 · exact st3 (by grind) hab hbc h
 · rw [show t = c + (t - c) by grind]
   exact (st3 (by grind) hab hbc (by grind)).comp (C1 (by grind) (by grind) (by grind)) (by grind) (by grind)
theorem A5 {f : Rat -> Rat -> Rat -> Rat} (hf : ∀ x y z, f x y z = f x z y) (m a b c : Rat) : ib f m a b c = ib f m b a c := by
 unfold ib
 by_cases h1 : 0 < a <;> by_cases h2 : 0 < b <;> by_cases h3 : 0 < c <;> simp only [h1, h2, h3, if_true, if_false]
 · rw [hf]
 · rw [hf]
 · rw [hf]
 · rw [hf]
 · rw [hf]
 · rw [hf]
theorem Cf {f : Rat -> Rat -> Rat -> Rat} (hf : ∀ x y z, f x y z = f x z y) (m a b c : Rat) : ib f m a b c = ib f m a c b := by
 unfold ib
 by_cases h1 : 0 < a <;> by_cases h2 : 0 < b <;> by_cases h3 : 0 < c <;> simp only [h1, h2, h3, if_true, if_false]
 · rw [hf]
 · rw [hf]
 · rw [hf]
 · rw [hf]
 · rw [hf]
 · rw [hf]
theorem zT (a b c : Rat) : shQ a b c = shQ a c b := by unfold shQ; rw [Rat.mul_comm (a - b)]
theorem a12 (a b c : Rat) : aQ a b c = aQ b a c := A5 zT 1 a b c
theorem a23 (a b c : Rat) : aQ a b c = aQ a c b := Cf zT 1 a b c
theorem v12 (a b c : Rat) : vQ a b c = vQ b a c := by unfold vQ; rw [A5 o8, show cL a b c = cL b a c by unfold cL; grind]
theorem v23 (a b c : Rat) : vQ a b c = vQ a c b := by unfold vQ; rw [Cf o8, show cL a b c = cL a c b by unfold cL; grind]
theorem Sg.s12 {a b c t : Rat} (h : Sg a b c t) : Sg b a c t := by unfold Sg at *; rw [a12 b a, a12 (b - t), v12 b a, v12 (b - t)]; exact h
theorem Sg.s23 {a b c t : Rat} (h : Sg a b c t) : Sg a c b t := by unfold Sg at *; rw [a23 a c, a23 (a - t) (c - t), v23 a c, v23 (a - t) (c - t)]; exact h
theorem DT {t : Rat} (a b c : Rat) (ht : 0 <= t) : Sg a b c t := by
 by_cases h1 : b <= a <;> by_cases h2 : c <= b <;> by_cases h3 : c <= a
 · exact AI ht h1 h2
 · grind
 · exact (AI ht h3 (by grind)).s23
 · exact ((AI (a := c) (b := a) (c := b) ht (by grind) h1)).s12.s23
 · exact (AI ht (show a <= b by grind) h3).s12
 · exact ((AI (a := b) (b := c) (c := a) ht h2 (by grind))).s23.s12
 · grind
 · exact ((AI (a := c) (b := b) (c := a) ht (by grind) (by grind))).s12.s23.s12
end Go.L

