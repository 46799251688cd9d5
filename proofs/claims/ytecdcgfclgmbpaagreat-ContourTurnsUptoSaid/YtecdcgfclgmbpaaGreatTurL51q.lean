import Derived.Test.YtecdcgfclgmbpaaGreatTurL51v
import Derived.Test.YtecdcgfclgmbpaaGreatTurL51v
import Derived.Test.YtecdcgfclgmbpaaGreatTurL51v
import Derived.Test.YtecdcgfclgmbpaaGreatTurL52tB
import Derived.Test.YtecdcgfclgmbpaaGreatTurL52tB
set_option linter.all false
namespace Go.L
open Go Go.Eng
def ri (t : A3 Int) (a : Int) : Bool := [t.e0, t.e1, t.e2].any fun z => a == z
def mO (T : List (A3 Int)) (a b : Int) : Bool := decide (a < b) && T.any fun t => ri t a && ri t b
theorem sB {t : A3 Int} {a : Int} : ri t a = true ↔ a = t.e0 \/ a = t.e1 \/ a = t.e2 := by unfold ri; simp
theorem zj {g : ar} {w h : Nat} (hg : Gd g w h) {a b : Int} (e : mO (oA g w h) a b = true) : 0 <= a /\ a < b /\ b < g.Z.length := by
 unfold mO at e
 rw [Bool.and_eq_true, List.any_eq_true] at e
 obtain ⟨h1, t, ht, h2⟩ := e
 have h1 := dcT h1
 rw [Bool.and_eq_true, sB, sB] at h2
 obtain ⟨i0, i1, i2⟩ := CX hg (List.mem_filter.1 ht).1
 have i0 := q7.1 i0; have i1 := q7.1 i1; have i2 := q7.1 i2
 omega
theorem C5 {n : Nat} (hn : 10 < n) (t : A3 Int) (p : Bool) (a b : Int) : fh n t p a b = some (p || (ri t a && ri t b)) := by
 unfold fh
 have e : ∀ v, cb n [t.e0, t.e1, t.e2] v = some (ri t v) := fun v => DQ (by simp; omega) (by simp)
 rw [e, e]
 cases p <;> cases ri t a <;> rfl
theorem Bi {n : Nat} (hn : 200 < n) {g : ar} {w h : Nat} (hg : Gd g w h) (a b : Int) : jK n g a b = some (mO (oA g w h) a b) := by
 apply Ok.eq
 have no : ¬ (0 <= a /\ a < b /\ b < g.Z.length) -> false = mO (oA g w h) a b := fun hh => by
  cases e : mO (oA g w h) a b with
  | false => rfl
  | true => exact absurd (zj hg e) hh
 unfold jK
 refine Ok.cd (fun h1 => az.2 (no fun q => by have := dcT h1; omega)) (fun h1 => Ok.cd (fun h2 => az.2 (no fun q => by have := dcT h2; omega)) (fun h2 => Ok.cd (fun h3 => az.2 (no fun q => by have := dcT h3; omega)) (fun h3 => ?_)))
 have h2 := dcF h2
 refine Ok.bd (R := fun o => o = mO (oA g w h) a b) ?_ (fun o ho => az.2 ho)
 unfold cH
 refine Ok.bd (R := fun o => o = mO (oA g w h) a b) ?_ (fun o ho => az.2 ho)
 have e : mO (oA g w h) a b = (oA g w h).any fun t => ri t a && ri t b := by unfold mO; rw [decide_eq_true (by omega), Bool.true_and]
 rw [e]
 refine xP (γ := Bool) hn hg (fun c x => (c, x)) (fun t c => fh n t c a b) (fun _ _ _ => rfl) (fun _ _ _ _ => rfl) (fun _ _ _ _ => rfl) (fun pre c => c = pre.any fun t => ri t a && ri t b) rfl ?_
 rintro pre t c ht hl rfl
 rw [C5 (by omega)]
 refine az.2 ?_
 rw [List.any_append]; simp
def tR (t : A3 Int) (a b : Int) (k : Nat) : Bool := (mn (A3.get t (k : Int)) (A3.get t ((EN ((k : Int) + 1)).tmod 3)) == a) && ((mx (A3.get t (k : Int)) (A3.get t ((EN ((k : Int) + 1)).tmod 3)) == b) && true)
theorem CC {t : A3 Int} {a b : Int} (h : a < b) : (List.range 3).any (tR t a b) = (ri t a && ri t b) := by
 obtain ⟨x, y, z⟩ := t
 have e : (List.range 3).any (tR (A3.mk x y z) a b) = (((mn x y == a) && (mx x y == b)) || ((mn y z == a) && (mx y z == b)) || ((mn z x == a) && (mx z x == b))) := by
  have e0 : tR (A3.mk x y z) a b 0 = ((mn x y == a) && (mx x y == b)) := by rw [<- Bool.and_true (mx x y == b)]; rfl
  have e1 : tR (A3.mk x y z) a b 1 = ((mn y z == a) && (mx y z == b)) := by rw [<- Bool.and_true (mx y z == b)]; rfl
  have e2 : tR (A3.mk x y z) a b 2 = ((mn z x == a) && (mx z x == b)) := by rw [<- Bool.and_true (mx z x == b)]; rfl
  show ([0, 1, 2] : List Nat).any _ = _
  simp only [List.any_cons, List.any_nil, e0, e1, e2, Bool.or_false, Bool.or_assoc]
 rw [e]
 apply Bool.eq_iff_iff.2
 rw [Bool.and_eq_true, sB, sB]
 simp only [Bool.or_eq_true, Bool.and_eq_true, beq_iff_eq]
 unfold mn mx
 constructor
 · intro hh
   split at hh <;> split at hh <;> split at hh <;> omega
 · intro hh
   split <;> split <;> split <;> omega
theorem DE (a : Nat) : ((a : Int)).tmod 3 = ((a % 3 : Nat) : Int) := by rw [Int.tmod_eq_emod_of_nonneg (by omega)]; rfl
theorem BB {t : A3 Int} {a b : Int} {f : Bool} {n : Nat} (hn : 10 < n) : (aL (α := Bool × Int) (β := Bool) n (fun again42 (found_32, x_33) => (
        cdO (decide (x_33 < 3)) (
         cdO (decide (a < b)) (
          gdO (inR x_33 3) (
          gdO (inR ((EN (x_33 + 1)).tmod 3) 3) (
          bdO (gB n (A3.get t x_33) (A3.get t ((EN (x_33 + 1)).tmod 3))) fun v47 => (
          cdO (((v47.e0 : Int) == a) && (((v47.e1 : Int) == b) && true)) (
           again42 (true, EN (x_33 + 1))
          ) (
           again42 (found_32, EN (x_33 + 1))
          )
          )
          )
          )
         ) (
          again42 (found_32, EN (x_33 + 1))
         )
        ) (
         some (found_32)
        )
 )) (f, 0)) = some (f || (decide (a < b) && (ri t a && ri t b))) := by
 apply Ok.eq
 refine qX (len := 3) (fun k c => c = (f || (decide (a < b) && (List.range k).any (tR t a b)))) (by omega) (by omega) (by simp) ?_ ?_
 · rintro again k c hk rfl ih
   dsimp only
   refine Ok.cd (fun _ => ?_) (fun h => by have := dcF h; omega)
   have hr : (List.range (k + 1)).any (tR t a b) = ((List.range k).any (tR t a b) || tR t a b k) := by rw [List.range_succ, List.any_append]; simp
   refine Ok.cd (fun h => ?_) (fun h => ih _ (by rw [h]; simp))
   refine Ok.gd (by rw [q7]; omega) (Ok.gd (by rw [wrap64_in (by omega) (by omega), q7]; have : ((k : Int) + 1).tmod 3 = (((k + 1) % 3 : Nat) : Int) := DE (k + 1); rw [this]; omega) ?_)
   refine Ok.bde (b := A2.mk (mn (A3.get t (k : Int)) (A3.get t ((EN ((k : Int) + 1)).tmod 3))) (mx (A3.get t (k : Int)) (A3.get t ((EN ((k : Int) + 1)).tmod 3)))) rfl ?_
   refine Ok.cd (fun h2 => ih _ ?_) (fun h2 => ih _ ?_)
   · dsimp only at h2
     have h2 : tR t a b k = true := by unfold tR; exact h2
     rw [hr, h, h2]; simp
   · dsimp only at h2
     have h2 : tR t a b k = false := by unfold tR; exact h2
     rw [hr, h, h2]; simp
 · rintro again c rfl
   refine Ok.cd (fun h => by simp at h) (fun _ => az.2 ?_)
   by_cases h : a < b
   · rw [CC h]
   · rw [decide_eq_false h]; rfl
theorem Cp {a b : Int} {T : List (A3 Int)} {n : Nat} (hn : 10000 < n) (hT : T.length <= 8000) : (aL (α := Bool × Int) (β := Bool) n (fun again29 (found_3, x_4) => (
  cdO (decide (x_4 < (T.length : Int))) (
   gdO (inR x_4 T.length) (
   bdO (aL (α := Bool × Int) (β := Bool) n (fun again42 (found_32, x_33) => (
    cdO (decide (x_33 < 3)) (
     cdO (decide (a < b)) (
      gdO (inR x_33 3) (
      gdO (inR ((EN (x_33 + 1)).tmod 3) 3) (
      bdO (gB n (A3.get (gt T x_4) x_33) (A3.get (gt T x_4) ((EN (x_33 + 1)).tmod 3))) fun v47 => (
      cdO (((v47.e0 : Int) == a) && (((v47.e1 : Int) == b) && true)) (
       again42 (true, EN (x_33 + 1))
      ) (
       again42 (found_32, EN (x_33 + 1))
      )
      )
      )
      )
     ) (
      again42 (found_32, EN (x_33 + 1))
     )
    ) (
     some (found_32)
    )
   )) (found_3, 0)) fun found_41 => (
    again29 (found_41, EN (x_4 + 1))
   )
   )
  ) (
   some (found_3)
  )
 )) (false, 0)) = some (mO T a b) := by
 apply Ok.eq
 refine qX (len := T.length) (fun k c => c = mO (T.take k) a b) (by omega) (by omega) (by unfold mO; simp) ?_ ?_
 · rintro again k c hk rfl ih
   refine Ok.cd (fun _ => ?_) (fun h => by have := dcF h; omega)
   refine Ok.gd (by rw [bh]; exact decide_eq_true hk) (Ok.bde (BB (by omega)) (ih _ ?_))
   unfold mO
   rw [List.take_add_one, geT hk, List.any_append, lG]
   simp only [List.getD, geT hk, Option.getD_some, Option.toList_some, List.any_cons, List.any_nil, Bool.or_false]
   cases decide (a < b) <;> simp
 · rintro again c rfl
   exact Ok.cd (fun h => by simp at h) (fun _ => az.2 (by rw [List.take_length]))
def whK (n : Nat) (g : ar) (c : al) (found : Bool) : Option (an × Int) :=
  cdO (!found) (
   some ((an.mk (ak.mk (ai.mk false []) (ai.mk false [])) (ak.mk (ai.mk false []) (ai.mk false [])), 6))
  ) (
   bdO (bu n c.At) fun v57 => (
   cdO (!v57) (
    some ((an.mk (ak.mk (ai.mk false []) (ai.mk false [])) (ak.mk (ai.mk false []) (ai.mk false [])), 1))
   ) (
    bdO (cJ n c.At) fun v60 => (
    cdO (decide (v60 < 0)) (
     some ((an.mk (ak.mk (ai.mk false []) (ai.mk false [])) (ak.mk (ai.mk false []) (ai.mk false [])), 2))
    ) (
     bdO (bJ n 1) fun v63 => (
     bdO (aS n c.At v63) fun v65 => (
     cdO (decide (v65 > 0)) (
      some ((an.mk (ak.mk (ai.mk false []) (ai.mk false [])) (ak.mk (ai.mk false []) (ai.mk false [])), 2))
     ) (
      bdO (bb n g c.A) fun v68 => (
      bdO (bb n g c.B) fun v70 => (
      bdO (bf n v70.X v68.X) fun v72 => (
      bdO (bH n c.At v72) fun v74 => (
      bdO (bP n v68.X v74) fun v76 => (
      bdO (bf n v70.Y v68.Y) fun v78 => (
      bdO (bH n c.At v78) fun v80 => (
      bdO (bP n v68.Y v80) fun v82 => (
      some ((an.mk v76 v82, 0))
      )
      )
      )
      )
      )
      )
      )
      )
     )
     )
     )
    )
    )
   )
   )
  )
theorem Az {g : ar} {w h : Nat} (hg : Gd g w h) : (oA g w h).length <= 8000 := by
 have := List.length_filter_le (pv g.Z) (pG g.Width (w - 1) (h - 1))
 rw [xj] at this
 have h2 : 2 * (w - 1) * (h - 1) <= 2 * 63 * 63 := Nat.mul_le_mul (by have := hg.w1; omega) (by have := hg.h1; omega)
 unfold oA; omega
theorem Cn {n : Nat} (hn : 10000 < n) {g : ar} {w h : Nat} (hg : Gd g w h) (c : al) : cm n g c = whK n g c (mO (oA g w h) c.A c.B) := by
 have h1 := CA (n := n) (by omega) hg
 have h2 := Cp (a := c.A) (b := c.B) (T := oA g w h) hn (Az hg)
 unfold cm
 rw [h1]
 show bdO (aL n _ (false, 0)) _ = _
 rw [h2]; rfl
end Go.L


set_option linter.all false
namespace Go.L
open Go Go.Eng
theorem CB {n : Nat} {x y : ak} {a b : Rat} {j k : Nat} (hn : 20000 <= n) (hj : j <= 30) (hk : k <= 30) (hx : Qx x a j) (hy : Qx y b k) : Ok (eH n x y) fun s => s > 0 ↔ b < a := by
 unfold eH
 refine Ok.bd (fi hn (by omega) hx) fun v hv => Ok.bd (fi hn (by omega) hy) fun w hw => ?_
 have n1 := hv.nl; have n2 := hw.nl; have d1 := hv.dl; have d2 := hw.dl
 refine Ok.bd (kC (by omega) hv.num hw.den (by omega) (by omega)) fun p hp => Ok.bd (kC (by omega) hw.num hv.den (by omega) (by omega)) fun q hq => ?_
 have lp := e9 hv.num hw.den hp n1 d2
 have lq := e9 hw.num hv.den hq n2 d1
 refine Ok.bde (lS (by omega) hp hq (by omega) (by omega)) (az.2 ?_)
 have := cM (a.num * (b.den : Int) - b.num * (a.den : Int))
 rw [Rat.lt_iff]; omega
def zP : an := an.mk (ak.mk (ai.mk false []) (ai.mk false [])) (ak.mk (ai.mk false []) (ai.mk false []))
def pxG (g : ar) (k : Int) : Int := g.X0 + k.tmod g.Width * g.Step
def pyG (g : ar) (k : Int) : Int := g.Y0 + k.tdiv g.Width * g.Step
theorem CP {a b : Nat} : ((a : Int)).tdiv (b : Int) = ((a / b : Nat) : Int) := rfl
theorem AO {a b : Nat} : ((a : Int)).tmod (b : Int) = ((a % b : Nat) : Int) := by rw [Int.tmod_eq_emod_of_nonneg (by omega)]; rfl
theorem sG {z : Int} : vK z = false ↔ -1048576 <= z /\ z <= 1048576 := by
 unfold vK; simp
theorem Ba {g : ar} {w h : Nat} (hg : Gd g w h) {k : Int} (h0 : 0 <= k) (h1 : k < g.Z.length) :
  (EN (g.X0 + (EN ((k.tmod g.Width) * g.Step))) = pxG g k /\ -8000000 <= pxG g k /\ pxG g k <= 8000000) /\ (EN (g.Y0 + (EN ((EN (k.tdiv g.Width)) * g.Step))) = pyG g k /\ -8000000 <= pyG g k /\ pyG g k <= 8000000) := by
 obtain ⟨m, rfl⟩ : ∃ m : Nat, k = (m : Int) := ⟨k.toNat, by omega⟩
 have hw := hg.w1; have hh := hg.h1; have hs := hg.dim.s
 have fx := (sG.1 hg.dim.x); have fy := (sG.1 hg.dim.y)
 have hm : m < w * h := by rw [<- hg.m]; omega
 unfold pxG pyG
 rw [hg.W, AO, CP]
 have a1 : m % w < w := Nat.mod_lt _ (by omega)
 have a2 : m / w < h := Nat.div_lt_of_lt_mul hm
 generalize m % w = p at a1 ⊢
 generalize m / w = q at a2 ⊢
 have b1 := qJ (a := (p : Int)) (b := g.Step) (A := 63) (B := 65536) (by omega) (by omega) (by omega) (by omega)
 have b2 := qJ (a := (q : Int)) (b := g.Step) (A := 63) (B := 65536) (by omega) (by omega) (by omega) (by omega)
 rw [wrap64_in (n := (p : Int) * g.Step) (by omega) (by omega), wrap64_in (n := (q : Int)) (by omega) (by omega), wrap64_in (n := (q : Int) * g.Step) (by omega) (by omega), wrap64_in (n := g.X0 + _) (by omega) (by omega), wrap64_in (n := g.Y0 + _) (by omega) (by omega)]
 omega
def ou (r : Rat) (a b : Int) : Rat := Rat.divInt a 1 + r * Rat.divInt (b - a) 1
theorem zk {c : al} {r : Rat} (hr : Qx c.At r 16) {a b : Int} (ha : -8000000 <= a /\ a <= 8000000) (hb : -8000000 <= b /\ b <= 8000000) (p p' : Int) :
  Ok (dN 20000 a b p p' c.At.Num.Negative c.At.Num.Groups c.At.Den.Negative c.At.Den.Groups) fun z => Qx z (ou r a b) 27 := by
 unfold dN
 refine Ok.bd (jQ (by omega) (by omega) (by omega)) fun u hu => ?_
 rw [wrap64_in (by omega) (by omega)]
 refine Ok.bd (jQ (by omega) (by omega) (by omega)) fun v hv => ?_
 have hr2 : Qx (ak.mk (ai.mk c.At.Num.Negative c.At.Num.Groups) (ai.mk c.At.Den.Negative c.At.Den.Groups)) r 16 := hr
 refine Ok.bd (mR (by omega) (by omega) hr2 hv) fun m hm => ?_
 refine Ok.bd (qK (by omega) (by omega) hu hm) fun z hz => az.2 (hz.mono (by omega))
theorem zY {c : al} {r : Rat} (hr : Qx c.At r 16) {a b : Int} {u v : ak} (hu : R.Qx u (Rat.divInt a 1) 3) (hv : R.Qx v (Rat.divInt b 1) 3) {α : Type} {Q : α -> Prop} {K : ak -> Option α} (k : ∀ z, R.Qx z (ou r a b) 27 -> Ok (K z) Q) :
  Ok (bdO (bf 20000 v u) fun v72 => bdO (bH 20000 c.At v72) fun v74 => bdO (bP 20000 u v74) K) Q := by
 refine Ok.bd (R.ka (by omega) (by omega) hv hu) fun d hd => ?_
 have hr2 : R.Qx c.At r 16 := hr
 refine Ok.bd (R.mR (by omega) (by omega) hr2 hd) fun m hm => ?_
 refine Ok.bd (R.qK (by omega) (by omega) hu hm) fun z hz => k z ?_
 have hz : R.Qx z (Rat.divInt a 1 + r * (Rat.divInt b 1 - Rat.divInt a 1)) _ := hz
 rw [sub_one] at hz
 exact QL.mono hz (by omega)
theorem wQ {g : ar} {w h : Nat} (hg : Gd g w h) {k : Int} (h0 : 0 <= k) (h1 : k < g.Z.length) : Ok (bb 20000 g k) fun p => R.Qx p.X (Rat.divInt (pxG g k) 1) 3 /\ R.Qx p.Y (Rat.divInt (pyG g k) 1) 3 := by
 obtain ⟨⟨e1, b1⟩, e2, b2⟩ := Ba hg h0 h1
 unfold bb
 rw [e1, e2]
 refine Ok.gd (by have := hg.dim.w; simp; omega) (Ok.bd (R.jQ (by omega) (by omega) (by omega)) fun u hu => Ok.bd (R.jQ (by omega) (by omega) (by omega)) fun v hv => az.2 ⟨hu, hv⟩)
def whR (n : Nat) (v68 v70 : an) (c : al) : Option (an × Int) :=
 bdO (bf n v70.X v68.X) fun v72 => bdO (bH n c.At v72) fun v74 => bdO (bP n v68.X v74) fun v76 =>
 bdO (bf n v70.Y v68.Y) fun v78 => bdO (bH n c.At v78) fun v80 => bdO (bP n v68.Y v80) fun v82 => some (an.mk v76 v82, 0)
def WhQ (g : ar) (T : List (A3 Int)) (c : al) (r1 r2 : an × Int) : Prop :=
 (r1.2 ≠ 0 /\ r2.2 = r1.2 /\ r1.1 = zP) \/ (r1.2 = 0 /\ r2.2 = 0 /\ mO T c.A c.B = true /\ ∃ r, Qx c.At r 16 /\ 0 <= r /\ r <= 1 /\
  Qx r1.1.X (ou r (pxG g c.A) (pxG g c.B)) 27 /\ Qx r1.1.Y (ou r (pyG g c.A) (pyG g c.B)) 27 /\ R.Qx r2.1.X (ou r (pxG g c.A) (pxG g c.B)) 27 /\ R.Qx r2.1.Y (ou r (pyG g c.A) (pyG g c.B)) 27)
theorem z7 {g : ar} {w h : Nat} (hg : Gd g w h) {c : al} (d1 : ∀ d ∈ c.At.Num.Groups, 0 <= d) (d2 : ∀ d ∈ c.At.Den.Groups, 0 <= d) (l1 : c.At.Num.Groups.length <= 16) (l2 : c.At.Den.Groups.length <= 16) :
  ∃ r1 r2, eM 20000 g c = some r1 /\ cm 20000 g c = some r2 /\ WhQ g (oA g w h) c r1 r2 := by
 rw [Cn (by omega) hg]
 unfold eM whK
 rw [Bi (by omega) hg]
 cases he : mO (oA g w h) c.A c.B with
 | false => exact ⟨(zP, 6), (zP, 6), rfl, rfl, .inl ⟨by decide, rfl, rfl⟩⟩
 | true =>
  obtain ⟨i0, i1, i2⟩ := zj hg he
  rcases Av (n := 20000) (x := c.At) (by omega) d1 d2 l1 l2 with ⟨v1, v2, r, hr⟩ | ⟨v1, v2⟩
  · rw [v1, v2]
    have hr2 : R.Qx c.At r 16 := hr
    have s1 := s9 (n := 20000) (by omega) (by omega) hr
    have s2 := R.xB (n := 20000) (by omega) (by omega) hr2
    obtain ⟨o1, eo1, ho1⟩ := jQ (n := 20000) (v := 1) (by omega) (by omega) (by omega)
    obtain ⟨o2, eo2, ho2⟩ := R.jQ (n := 20000) (v := 1) (by omega) (by omega) (by omega)
    obtain ⟨k1, ek1, hk1⟩ := CB (n := 20000) (by omega) (by omega) (by omega) hr ho1
    have k2 := R.kA (n := 20000) (by omega) (by omega) hr2 ho2
    have one : Rat.divInt 1 1 = 1 := by rw [yD]; rfl
    rw [one] at hk1 k2
    by_cases hneg : r < 0
    · have e1 : decide (sgn r.num < 0) = true := decide_eq_true (by have := (AP (a := r)); grind)
      refine ⟨(zP, 2), (zP, 2), ?_, ?_, .inl ⟨by decide, rfl, rfl⟩⟩
      · show bdO (bdO (bM 20000 c.At) _) _ = _
        rw [s1]
        show bdO (cdO (decide (sgn r.num < 0)) _ _) _ = _
        rw [e1]; rfl
      · show bdO (cJ 20000 c.At) _ = _
        rw [s2]
        show cdO (decide (sgn r.num < 0)) _ _ = _
        rw [e1]; rfl
    · have e1 : decide (sgn r.num < 0) = false := decide_eq_false (by have := (AP (a := r)); grind)
      by_cases hbig : 1 < r
      · have e2 : decide (k1 > 0) = true := decide_eq_true (hk1.2 hbig)
        have e3 : decide (sgn (r - 1).num > 0) = true := decide_eq_true (A5.2 (by grind))
        refine ⟨(zP, 2), (zP, 2), ?_, ?_, .inl ⟨by decide, rfl, rfl⟩⟩
        · show bdO (bdO (bM 20000 c.At) _) _ = _
          rw [s1]
          show bdO (cdO (decide (sgn r.num < 0)) _ (bdO (bm 20000 1) _)) _ = _
          rw [e1, eo1]
          show bdO (bdO (eH 20000 c.At o1) _) _ = _
          rw [ek1]
          show cdO (decide (k1 > 0)) _ _ = _
          rw [e2]; rfl
        · show bdO (cJ 20000 c.At) _ = _
          rw [s2]
          show cdO (decide (sgn r.num < 0)) _ (bdO (bJ 20000 1) _) = _
          rw [e1, eo2]
          show bdO (aS 20000 c.At o2) _ = _
          rw [k2]
          show cdO (decide (sgn (r - 1).num > 0)) _ _ = _
          rw [e3]; rfl
      · have e2 : decide (k1 > 0) = false := decide_eq_false (fun hh => hbig (hk1.1 hh))
        have e3 : decide (sgn (r - 1).num > 0) = false := decide_eq_false (fun hh => hbig (by have := A5.1 hh; grind))
        obtain ⟨⟨x1, bx1⟩, y1, by1⟩ := Ba hg i0 (by omega : c.A < g.Z.length)
        obtain ⟨⟨x2, bx2⟩, y2, by2⟩ := Ba hg (by omega : 0 <= c.B) i2
        have P1 : Ok (bdO (dN 20000 (pxG g c.A) (pxG g c.B) c.A c.B c.At.Num.Negative c.At.Num.Groups c.At.Den.Negative c.At.Den.Groups) fun v25 => bdO (dN 20000 (pyG g c.A) (pyG g c.B) c.A c.B c.At.Num.Negative c.At.Num.Groups c.At.Den.Negative c.At.Den.Groups) fun v27 => some (an.mk v25 v27, (0 : Int))) fun r1 => r1.2 = 0 /\ Qx r1.1.X (ou r (pxG g c.A) (pxG g c.B)) 27 /\ Qx r1.1.Y (ou r (pyG g c.A) (pyG g c.B)) 27 :=
         Ok.bd (zk hr bx1 bx2 _ _) fun u hu => Ok.bd (zk hr by1 by2 _ _) fun v hv => az.2 ⟨rfl, hu, hv⟩
        obtain ⟨p1, q1⟩ := wQ hg i0 (by omega : c.A < g.Z.length)
        obtain ⟨p2, q2⟩ := wQ hg (by omega : 0 <= c.B) i2
        have P2 : Ok (whR 20000 p1 p2 c) fun r2 => r2.2 = 0 /\ R.Qx r2.1.X (ou r (pxG g c.A) (pxG g c.B)) 27 /\ R.Qx r2.1.Y (ou r (pyG g c.A) (pyG g c.B)) 27 :=
         zY hr q1.2.1 q2.2.1 fun u hu => zY hr q1.2.2 q2.2.2 fun v hv => az.2 ⟨rfl, hu, hv⟩
        obtain ⟨r1, er1, hr1⟩ := P1
        obtain ⟨r2, er2, hr2'⟩ := P2
        refine ⟨r1, r2, ?_, ?_, .inr ⟨hr1.1, hr2'.1, he, r, hr, by grind, by grind, hr1.2.1, hr1.2.2, hr2'.2.1, hr2'.2.2⟩⟩
        · show bdO (bdO (bM 20000 c.At) _) _ = _
          rw [s1]
          show bdO (cdO (decide (sgn r.num < 0)) _ (bdO (bm 20000 1) _)) _ = _
          rw [e1, eo1]
          show bdO (bdO (eH 20000 c.At o1) _) _ = _
          rw [ek1]
          show cdO (decide (k1 > 0)) _ (gdO (!decide (g.Width = 0)) _) = _
          rw [e2, x1, x2, y1, y2, show (!decide (g.Width = 0)) = true by have := hg.dim.w; simp; omega]
          exact er1
        · show bdO (cJ 20000 c.At) _ = _
          rw [s2]
          show cdO (decide (sgn r.num < 0)) _ (bdO (bJ 20000 1) _) = _
          rw [e1, eo2]
          show bdO (aS 20000 c.At o2) _ = _
          rw [k2]
          show cdO (decide (sgn (r - 1).num > 0)) _ (bdO (bb 20000 g c.A) _) = _
          rw [e3, q1.1]
          show bdO (bb 20000 g c.B) _ = _
          rw [q2.1]
          exact er2
  · rw [v1, v2]
    exact ⟨(zP, 1), (zP, 1), rfl, rfl, .inl ⟨by decide, rfl, rfl⟩⟩
def isz (x : ai) : Nat := 1 + (((x.Groups.map fun z => 1).sum + 1) + 0)
def qsz (x : ak) : Nat := isz x.Num + (isz x.Den + 0)
def csz (c : al) : Nat := 1 + (1 + (qsz c.At + 0))
theorem zq {l : List Int} : (l.map fun z => 1).sum = l.length := by
 induction l with
 | nil => rfl
 | cons a l ih => rw [List.map_cons, List.sum_cons, ih, List.length_cons]; omega
theorem Bf {a : Int} (h : (Lit.int .u32 a).wf = true) : 0 <= a /\ a <= 4294967295 := by
 simp [Lit.wf, IntKind.min, IntKind.max, IntKind.signed, IntKind.bits] at h
 exact h
def C3 (x : ak) : Prop := (∀ d ∈ x.Num.Groups, 0 <= d) /\ (∀ d ∈ x.Den.Groups, 0 <= d)
end Go.L

