import Derived.Test.YtecdcgfclgmbpaaGreatSumL51x
import Derived.Test.YtecdcgfclgmbpaaGreatSumL02sB
set_option linter.all false
namespace Go.L
open Go Go.Eng
theorem z8 : Rat.divInt 1 1 = 1 := by rw [kS]; rfl
theorem yC {x y z : ag} {a b c : Rat} (hx : Qx x a 1) (hy : Qx y b 1) (hz : Qx z c 1) (h1 : a - b ≠ 0) (h2 : a - c ≠ 0) : Ok (gk 20000 x y z) fun o => Qx o (shQ a b c) 8 := by
 unfold gk
 refine Ok.bd (mw (by omega) (by omega) hx hx) fun p hp => Ok.bd (pY (by omega) (by omega) hx hy) fun q hq => Ok.bd (pY (by omega) (by omega) hx hz) fun r hr => ?_
 refine Ok.bd (mw (by omega) (by omega) hq hr) fun s hs => Ok.bd (vS (by omega) (by omega) hp hs (by grind)) fun o ho => aw.2 ho
theorem yH {x : ag} {a : Rat} {k : Nat} (hk : k <= 100) (hx : Qx x a k) : Ok (jF 20000 x) fun o => Qx o (a / 3) (k + 3) := by
 unfold jF
 refine Ok.bd (iE (by omega) (by omega) (by omega)) fun u hu => ?_
 rw [C2] at hu
 exact Ok.bd (vS (by omega) (by omega) hx hu (by grind)) fun o ho => aw.2 ho
theorem C6 {x y z : ag} {a b c : Rat} (hx : Qx x a 1) (hy : Qx y b 1) (hz : Qx z c 1) (h1 : a - b ≠ 0) (h2 : a - c ≠ 0) : Ok (fk 20000 x y z) fun o => Qx o (ju a b c) 25 := by
 unfold fk
 refine Ok.bd (yC hx hy hz h1 h2) fun p hp => Ok.bd (mw (by omega) (by omega) hx hp) fun q hq => Ok.bd (yH (by omega) hq) fun o ho => aw.2 ?_
 have e : a * shQ a b c / 3 = ju a b c := by unfold shQ ju; grind
 rw [e] at ho
 exact QL.mono ho (by omega)
theorem A7 {x y z v : ag} {a b c r : Rat} (hx : Qx x a 1) (hy : Qx y b 1) (hz : Qx z c 1) (hv : Qx v r 25) : Ok (e9 20000 x y z v) fun o => Qx o (1 - r) 40 := by
 unfold e9
 refine Ok.bd (iE (by omega) (by omega) (by omega)) fun u hu => ?_
 rw [z8] at hu
 exact Ok.bd (pY (by omega) (by omega) hu hv) fun o ho => aw.2 (QL.mono ho (by omega))
theorem Cc {x y z v : ag} {a b c r : Rat} (hx : Qx x a 1) (hy : Qx y b 1) (hz : Qx z c 1) (hv : Qx v r 25) : Ok (eH 20000 x y z v) fun o => Qx o (fH a b c - r) 40 := by
 unfold eH
 refine Ok.bd (lC (by omega) (by omega) hy hz) fun p hp => Ok.bd (lC (by omega) (by omega) hx hp) fun q hq => Ok.bd (yH (by omega) hq) fun s hs => ?_
 exact Ok.bd (pY (by omega) (by omega) hs hv) fun o ho => aw.2 (QL.mono ho (by omega))
structure Fns (tip : ag -> ag -> ag -> Option ag) (rest : ag -> ag -> ag -> ag -> Option ag) (f m : Rat -> Rat -> Rat -> Rat) : Prop where
 tip : ∀ {x y z : ag} {a b c : Rat}, Qx x a 1 -> Qx y b 1 -> Qx z c 1 -> a - b ≠ 0 -> a - c ≠ 0 -> Ok (tip x y z) fun o => Qx o (f a b c) 25
 rest : ∀ {x y z v : ag} {a b c r : Rat}, Qx x a 1 -> Qx y b 1 -> Qx z c 1 -> Qx v r 25 -> Ok (rest x y z v) fun o => Qx o (m a b c - r) 40
 p : Ptr f m
theorem Ek : Fns (gk 20000) (e9 20000) shQ (fun _ _ _ => 1) := ⟨fun h1 h2 h3 h4 h5 => (yC h1 h2 h3 h4 h5).mono fun o h => QL.mono h (by omega), fun h1 h2 h3 h4 => A7 h1 h2 h3 h4, B7⟩
theorem Ez : Fns (fk 20000) (eH 20000) ju fH := ⟨fun h1 h2 h3 h4 h5 => C6 h1 h2 h3 h4 h5, fun h1 h2 h3 h4 => Cc h1 h2 h3 h4, zP⟩
theorem Bf (A : Int) : cn (h2 A) = if 0 < A then 1 else 0 := by
 unfold cn
 by_cases h : 0 < A
 · rw [if_pos (pA.2 h), if_pos h]
 · rw [if_neg (fun k => h (pA.1 k)), if_neg h]
def hgt (Z : List Int) (level k : Int) : Int := 2 * gt Z k - level
def okZ (z : Int) : Prop := -1048576 <= z /\ z <= 1048576
def okL (level : Int) : Prop := level.tmod 2 ≠ 0 /\ -2097153 <= level /\ level <= 2097153
theorem uw {Z : List Int} {level k : Int} (hz : okZ (gt Z k)) (hl : okL level) : inH (hgt Z level k) := by
 obtain ⟨l1, l2, l3⟩ := hl; obtain ⟨z1, z2⟩ := hz
 unfold hgt
 refine ⟨fun e => l1 ?_, by omega, by omega⟩
 rw [show level = 2 * gt Z k by omega, Int.mul_tmod_right]
theorem BY {tip : ag -> ag -> ag -> Option ag} {rest : ag -> ag -> ag -> ag -> Option ag} {f m : Rat -> Rat -> Rat -> Rat} (F : Fns tip rest f m) {Z : List Int} {level : Int} {t : A3 Int} {S : T4} {s : Rat}
  (hin : inR t.e0 Z.length = true /\ inR t.e1 Z.length = true /\ inR t.e2 Z.length = true) (hz : okZ (gt Z t.e0) /\ okZ (gt Z t.e1) /\ okZ (gt Z t.e2)) (hl : okL level) (hS : Qx (rs S) s 95) :
  Ok (Cw 20000 tip rest Z level t S) fun o => Qx (rs o) (s + ptQ f m (hgt Z level t.e0) (hgt Z level t.e1) (hgt Z level t.e2)) 136 := by
 unfold Cw
 refine Ok.bd (zA hin.1 hz.1 hl.2 1 0) ?_
 rintro x ⟨hx, ux⟩
 refine Ok.bd (zA hin.2.1 hz.2.1 hl.2 _ _) ?_
 rintro y ⟨hy, uy⟩
 refine Ok.bd (zA hin.2.2 hz.2.2 hl.2 _ _) ?_
 rintro z ⟨hz3, uz⟩
 have hu : z.2.2.2.2 = cn (h2 (hgt Z level t.e0)) + cn (h2 (hgt Z level t.e1)) + cn (h2 (hgt Z level t.e2)) := by
  rw [Bf, Bf, Bf, uz, uy, ux]
  show (if 0 < hgt Z level t.e2 then Fc ((if 0 < hgt Z level t.e1 then Fc ((if 0 < hgt Z level t.e0 then 1 else 0) + 1) else if 0 < hgt Z level t.e0 then 1 else 0) + 1) else if 0 < hgt Z level t.e1 then Fc ((if 0 < hgt Z level t.e0 then 1 else 0) + 1) else if 0 < hgt Z level t.e0 then 1 else 0) = _
  by_cases h0 : 0 < hgt Z level t.e0 <;> by_cases h1 : 0 < hgt Z level t.e1 <;> by_cases h2 : 0 < hgt Z level t.e2 <;> simp only [h0, h1, h2, if_true, if_false] <;> rfl
 change Qx (rq x) (h2 (hgt Z level t.e0)) 1 at hx
 change Qx (rq y) (h2 (hgt Z level t.e1)) 1 at hy
 change Qx (rq z) (h2 (hgt Z level t.e2)) 1 at hz3
 unfold ptQ
 generalize z.2.2.2.2 = up at hu ⊢
 generalize h2 (hgt Z level t.e0) = a at *
 generalize h2 (hgt Z level t.e1) = b at *
 generalize h2 (hgt Z level t.e2) = c at *
 have hc : ∀ r : Rat, cn r = 0 \/ cn r = 1 := fun r => by unfold cn; split <;> simp
 have cp : ∀ {r : Rat}, cn r = 1 -> 0 < r := fun {r} h => by unfold cn at h; split at h <;> simp_all
 have cq : ∀ {r : Rat}, cn r = 0 -> ¬ 0 < r := fun {r} h => by unfold cn at h; split at h <;> simp_all
 have ca := hc a; have cb := hc b; have cc := hc c
 refine Ok.cd (fun h => aw.2 ?_) (fun h0 => Ok.cd (fun h => ?_) (fun h3 => ?_))
 · have h : up = 0 := by simpa using h
   rw [show kV f (m a b c) a b c = 0 by unfold kV; rw [if_neg (cq (by omega)), if_neg (cq (by omega)), if_neg (cq (by omega))], show s + 0 = s by grind]
   exact QL.mono hS (by omega)
 · have h : up = 3 := by simpa using h
   rw [show kV f (m a b c) a b c = m a b c by unfold kV; rw [if_pos (cp (by omega)), if_pos (cp (by omega)), if_pos (cp (by omega))]]
   refine Ok.bd (iE (by omega) (by omega) (by omega)) fun u hu => ?_
   rw [s9] at hu
   refine Ok.bd (F.rest hx hy hz3 (QL.mono hu (by omega))) fun v hv => ?_
   rw [show m a b c - 0 = m a b c by grind] at hv
   exact Ok.bd (lC (by omega) (by omega) hS hv) fun o ho => aw.2 ho
 · have h0 : up ≠ 0 := by simpa using h0
   have h3 : up ≠ 3 := by simpa using h3
   refine Ok.bd (DW hx hy hz3 hu h0 h3) ?_
   rintro o ⟨a', b', c', g1, g2, g3, n1, n2, gm, gf⟩
   refine Ok.bd (F.tip g1 g2 g3 n1 n2) fun v hv => ?_
   refine Ok.cd (fun h => ?_) (fun h => ?_)
   · have h : up = 2 := by simpa using h
     rw [(gf f (m a b c)).2 h]
     refine Ok.bd (F.rest g1 g2 g3 hv) fun w hw => ?_
     rw [gm m F.p.rot] at hw
     exact Ok.bd (lC (by omega) (by omega) hS hw) fun o ho => aw.2 ho
   · have h : up ≠ 2 := by simpa using h
     rw [(gf f (m a b c)).1 (by omega)]
     exact Ok.bd (lC (by omega) (by omega) hS hv) fun o ho => aw.2 (QL.mono ho (by omega))
def nL : List Rat -> Rat
 | [] => 0
 | x :: l => x + nL l
theorem uO : ∀ l m : List Rat, nL (l ++ m) = nL l + nL m
 | [], m => by show nL m = 0 + nL m; grind
 | x :: l, m => by show x + nL (l ++ m) = x + nL l + nL m; rw [uO l m]; grind
def ptG (f m : Rat -> Rat -> Rat -> Rat) (Z : List Int) (level : Int) (t : A3 Int) : Rat := ptQ f m (hgt Z level t.e0) (hgt Z level t.e1) (hgt Z level t.e2)
theorem za {p : A3 Int -> Rat} (pre : List (A3 Int)) (t : A3 Int) : nL ((pre ++ [t]).map p) = nL (pre.map p) + p t := by
 rw [List.map_append, uO]
 show _ + (p t + 0) = _
 grind
theorem zin {g : al} {w h : Nat} (hb : g.Z.any qw = false) {t : A3 Int} (hg : Gd g w h) (ht : t ∈ nc g w h) : (inR t.e0 g.Z.length = true /\ inR t.e1 g.Z.length = true /\ inR t.e2 g.Z.length = true) /\ okZ (gt g.Z t.e0) /\ okZ (gt g.Z t.e1) /\ okZ (gt g.Z t.e2) := by
 unfold nc at ht
 rw [List.mem_filter] at ht
 obtain ⟨i0, i1, i2⟩ := Dz hg ht.1
 have hz := ht.2
 unfold pc at hz
 simp only [Bool.and_eq_true] at hz
 have key : ∀ {k : Int}, inR k g.Z.length = true -> (gt g.Z k != -2147483648) = true -> okZ (gt g.Z k) := by
  intro k hk hn
  have hk2 := zO.1 hk
  obtain ⟨m, rfl⟩ : ∃ m : Nat, k = (m : Int) := ⟨k.toNat, by omega⟩
  have hm : m < g.Z.length := by omega
  have h1 : gt g.Z (m : Int) ∈ g.Z := by
   rw [qQ]; simp only [List.getD, geT hm, Option.getD_some]; exact List.getElem_mem hm
  have := List.any_eq_false.1 hb _ h1
  unfold qw xz at this
  rw [hn] at this
  simp at this
  exact ⟨by omega, by omega⟩
 exact ⟨⟨i0, i1, i2⟩, key i0 hz.1, key i1 hz.2.1, key i2 hz.2.2⟩
def Sm (f m : Rat -> Rat -> Rat -> Rat) (Z : List Int) (level : Int) (pre : List (A3 Int)) (c : T4) : Prop := Qx (rs c) (nL (pre.map (ptG f m Z level))) 95 /\ Bd (nL (pre.map (ptG f m Z level))) pre.length
theorem Ag {tip : ag -> ag -> ag -> Option ag} {rest : ag -> ag -> ag -> ag -> Option ag} {f m : Rat -> Rat -> Rat -> Rat} (F : Fns tip rest f m) {g : al} {level : Int} {w h : Nat} (hg : Gd g w h) (hb : g.Z.any qw = false) (hl : okL level)
  {pre : List (A3 Int)} {t : A3 Int} {c : T4} (ht : t ∈ nc g w h) (hp : pre.length < 56) (hc : Sm f m g.Z level pre c) : Ok (Cw 20000 tip rest g.Z level t c) (Sm f m g.Z level (pre ++ [t])) := by
 obtain ⟨hi, z0, z1, z2⟩ := zin hb hg ht
 refine (BY F hi ⟨z0, z1, z2⟩ hl hc.1).mono fun o ho => ?_
 have b1 := hc.2.add (BS F.p (uw z0 hl) (uw z1 hl) (uw z2 hl))
 unfold Sm
 rw [za, List.length_append]
 exact ⟨b1.len (by omega) ho, b1⟩
theorem Bq {w h : Nat} (hw : 2 <= w) (hh : 2 <= h) (hm : w * h <= 40) : 2 * ((w - 1) * (h - 1)) <= 56 := by
 have h1 : w * 2 <= w * h := Nat.mul_le_mul_left w hh
 have h2 : 2 * h <= w * h := Nat.mul_le_mul_right h hw
 have : ∀ w, w < 21 -> ∀ h, h < 21 -> 2 <= w -> 2 <= h -> w * h <= 40 -> 2 * ((w - 1) * (h - 1)) <= 56 := by decide
 exact this w (by omega) h (by omega) hw hh hm
theorem Es {g : al} {level : Int} {w h : Nat} (hg : Gd g w h) (hb : g.Z.any qw = false) (h40 : g.Z.length <= 40) (hl : okL level) {S : T4} (hS : Sm shQ (fun _ _ _ => 1) g.Z level [] S) (a b c d e : Int) :
  Ok (b6 20000 g a b c d e g.Z level S.1 S.2.1 S.2.2.1 S.2.2.2) (Sm shQ (fun _ _ _ => 1) g.Z level (nc g w h)) := by
 have h56 := Bq hg.w1.1 hg.h1.1 (by rw [<- hg.m]; exact h40)
 unfold b6
 refine Ok.bd (R := Sm shQ (fun _ _ _ => 1) g.Z level (nc g w h)) ?_ (fun o ho => aw.2 ho)
 exact tW (γ := T4) (by omega) hg (fun c x => (c.1, c.2.1, c.2.2.1, c.2.2.2, x)) (fun t c' => iu 20000 t a b c d e g.Z level c'.1 c'.2.1 c'.2.2.1 c'.2.2.2)
  (fun _ _ _ => rfl) (fun _ _ _ _ => rfl) (fun _ _ _ _ => rfl) (Sm shQ (fun _ _ _ => 1) g.Z level) hS fun pre t c' ht hp hc => by
   rw [DY]; exact Ag Ek hg hb hl ht (by omega) hc
theorem Ep {g : al} {level : Int} {w h : Nat} (hg : Gd g w h) (hb : g.Z.any qw = false) (h40 : g.Z.length <= 40) (hl : okL level) {S : T4} (hS : Sm ju fH g.Z level [] S) (a b c d e : Int) :
  Ok (bK 20000 g a b c d e g.Z level S.1 S.2.1 S.2.2.1 S.2.2.2) (Sm ju fH g.Z level (nc g w h)) := by
 have h56 := Bq hg.w1.1 hg.h1.1 (by rw [<- hg.m]; exact h40)
 unfold bK
 refine Ok.bd (R := Sm ju fH g.Z level (nc g w h)) ?_ (fun o ho => aw.2 ho)
 exact tW (γ := T4) (by omega) hg (fun c x => (c.1, c.2.1, c.2.2.1, c.2.2.2, x)) (fun t c' => fX 20000 t a b c d e g.Z level c'.1 c'.2.1 c'.2.2.1 c'.2.2.2)
  (fun _ _ _ => rfl) (fun _ _ _ _ => rfl) (fun _ _ _ _ => rfl) (Sm ju fH g.Z level) hS fun pre t c' ht hp hc => by
   rw [DJ]; exact Ag Ez hg hb hl ht (by omega) hc
def arQ (g : al) : Rat := Rat.divInt (g.Step * g.Step) 2
def AG (f m : Rat -> Rat -> Rat -> Rat) (g : al) (w h : Nat) (level : Int) : Rat := nL ((nc g w h).map (ptG f m g.Z level)) * arQ g
theorem xI {g : al} {w h : Nat} (hg : Gd g w h) : 0 <= g.Step * g.Step /\ g.Step * g.Step <= 4294967296 := by
 have hs := hg.dim.s
 have s1 := Int.mul_le_mul hs.2 hs.2 (by omega) (by omega)
 have s0 := Int.mul_nonneg (show 0 <= g.Step by omega) (show 0 <= g.Step by omega)
 omega
theorem BX {f m : Rat -> Rat -> Rat -> Rat} {Z : List Int} {level : Int} {u : ag} (hu : Qx u 0 3) : Sm f m Z level [] (qd u) := ⟨QL.mono hu (by omega), x6⟩
theorem BV {g : al} {level : Int} {w h : Nat} (hg : Gd g w h) (hb : g.Z.any qw = false) (h40 : g.Z.length <= 40) (hl : okL level) : Ok (bj 20000 g level) fun o => Qx o (AG shQ (fun _ _ _ => 1) g w h level) 98 := by
 have hq := xI hg
 unfold bj
 refine Ok.bd (iE (by omega) (by omega) (by omega)) fun u hu => ?_
 rw [s9] at hu
 refine Ok.bd (Es hg hb h40 hl (S := qd u) (BX hu) _ _ _ _ _) fun v hv => ?_
 rw [wrap64_in (by omega) (by omega)]
 refine Ok.bd (pU (by omega) (by omega) (by omega) (by omega) (by omega) (by omega)) ?_
 rintro s ⟨hs, -⟩
 exact Ok.bd (mw (x := rs v) (by omega) (by omega) hv.1 hs) fun o ho => aw.2 ho
theorem AX {g : al} {level : Int} {w h : Nat} (hg : Gd g w h) (hb : g.Z.any qw = false) (h40 : g.Z.length <= 40) (hl : okL level) : Ok (a7 20000 g level) fun o => Qx o (AG ju fH g w h level) 98 := by
 have hq := xI hg
 unfold a7
 refine Ok.bd (iE (by omega) (by omega) (by omega)) fun u hu => ?_
 rw [s9] at hu
 refine Ok.bd (Ep hg hb h40 hl (S := qd u) (BX hu) _ _ _ _ _) fun v hv => ?_
 rw [wrap64_in (by omega) (by omega)]
 refine Ok.bd (pU (by omega) (by omega) (by omega) (by omega) (by omega) (by omega)) ?_
 rintro s ⟨hs, -⟩
 exact Ok.bd (mw (x := rs v) (by omega) (by omega) hv.1 hs) fun o ho => aw.2 ho
end Go.L


set_option linter.all false
namespace Go.L
open Go Go.Eng
def zx (l : List Int) : (Int × Int -> Option Int) -> Int × Int -> Option Int := fun again o =>
 cdO (decide (o.2 < 3)) (gdO (inR o.2 l.length) (cdO (decide ((gt l o.2) > 0)) (again (Fc (o.1 + 1), Fc (o.2 + 1))) (again (o.1, Fc (o.2 + 1))))) (some o.1)
def wB : (Int × Int × Int -> Option (Int × Int × Int)) -> Int × Int × Int -> Option (Int × Int × Int) := fun again o => cdO (decide (o.1 <= 0)) (again (o.2.1, o.2.2, o.1)) (some o)
def Ae (rec : Int -> Int -> Int -> Option (ag × ag)) (n : Nat) (a b c : Int) : Option (ag × ag) :=
 bdO (aH n (zx [a, b, c]) (0, 0)) fun k => cdO ((k : Int) == 0) (bdO (aY n 0) fun u => bdO (aY n 0) fun v => some (u, v))
  (cdO (decide (k >= 2)) (bdO (rec (Fc (0 - a)) (Fc (0 - b)) (Fc (0 - c))) fun r => bdO (bn n (Fc ((Fc (a + b)) + c)) 6) fun x => bdO (aY n 1) fun y => bdO (dV n y r.1) fun z => bdO (cW n x.1 r.2) fun q => some (z, q))
   (bdO (aH n wB (a, b, c)) fun o => bdO (bn n o.1 (Fc (o.1 - o.2.1))) fun u => bdO (bn n o.1 (Fc (o.1 - o.2.2))) fun v => bdO (cw n u.1 v.1) fun p => bdO (bn n o.1 6) fun q => bdO (cw n p q.1) fun s => some (p, s)))
theorem DI (n : Nat) (a b c : Int) : gJ n a b c = Ae (fF n) n a b c := rfl
theorem CF (n : Nat) (a b c : Int) : fF n a b c = Ae (jY n) n a b c := rfl
def cI (a : Int) : Int := if 0 < a then 1 else 0
theorem wc {l : List Int} {m : Nat} {k x : Int} (h : inR x l.length = true) (h3 : x < 3) : aH (m + 1) (zx l) (k, x) = aH m (zx l) (if 0 < gt l x then Fc (k + 1) else k, Fc (x + 1)) := by
 show zx l (aH m (zx l)) (k, x) = _
 unfold zx
 dsimp only
 rw [decide_eq_true h3, h]
 show cdO (decide (gt l x > 0)) _ _ = _
 by_cases g : 0 < gt l x
 · rw [decide_eq_true g, if_pos g]; rfl
 · rw [decide_eq_false g, if_neg g]; rfl
theorem Ec (a b c : Int) : aH 20000 (zx [a, b, c]) (0, 0) = some (cI a + cI b + cI c) := by
 rw [show (20000 : Nat) = 19996 + 1 + 1 + 1 + 1 from rfl, wc rfl (by omega), show Fc ((0 : Int) + 1) = 1 from rfl, wc rfl (by omega), show Fc ((1 : Int) + 1) = 2 from rfl, wc rfl (by omega), show Fc ((2 : Int) + 1) = 3 from rfl]
 show some (if 0 < c then Fc ((if 0 < b then Fc ((if 0 < a then Fc (0 + 1) else 0) + 1) else if 0 < a then Fc (0 + 1) else 0) + 1) else if 0 < b then Fc ((if 0 < a then Fc (0 + 1) else 0) + 1) else if 0 < a then Fc (0 + 1) else 0) = _
 unfold cI
 by_cases h0 : 0 < a <;> by_cases h1 : 0 < b <;> by_cases h2 : 0 < c <;> simp only [h0, h1, h2, if_true, if_false] <;> rfl
theorem xK {m : Nat} {a b c : Int} (h : a <= 0) : aH (m + 1) wB (a, b, c) = aH m wB (b, c, a) := by
 show wB (aH m wB) (a, b, c) = _
 unfold wB; dsimp only; rw [decide_eq_true h]; rfl
theorem vK {m : Nat} {a b c : Int} (h : 0 < a) : aH (m + 1) wB (a, b, c) = some (a, b, c) := by
 show wB (aH m wB) (a, b, c) = _
 unfold wB; dsimp only; rw [decide_eq_false (show ¬ a <= 0 by omega)]; rfl
theorem CH {A B C : Int} (h : cI A + cI B + cI C = 1) : ∃ a b c, aH 20000 wB (A, B, C) = some (a, b, c) /\ 0 < a /\ b <= 0 /\ c <= 0 /\ ((a = A /\ b = B /\ c = C) \/ (a = B /\ b = C /\ c = A) \/ (a = C /\ b = A /\ c = B)) /\ ∀ f m, ptQ f m A B C = f (h2 a) (h2 b) (h2 c) := by
 unfold cI at h
 by_cases h0 : 0 < A <;> by_cases h1 : 0 < B <;> by_cases h2 : 0 < C <;> simp only [h0, h1, h2, if_true, if_false] at h <;> try omega
 · exact ⟨A, B, C, vK (m := 19999) h0, h0, by omega, by omega, .inl ⟨rfl, rfl, rfl⟩, fun f m => by unfold ptQ kV; simp only [pA, h0, h1, h2, if_true, if_false]⟩
 · exact ⟨B, C, A, (xK (m := 19999) (by omega)).trans (vK (m := 19998) h1), h1, by omega, by omega, .inr (.inl ⟨rfl, rfl, rfl⟩), fun f m => by unfold ptQ kV; simp only [pA, h0, h1, h2, if_true, if_false]⟩
 · exact ⟨C, A, B, (xK (m := 19999) (by omega)).trans ((xK (m := 19998) (by omega)).trans (vK (m := 19997) h2)), h2, by omega, by omega, .inr (.inr ⟨rfl, rfl, rfl⟩), fun f m => by unfold ptQ kV; simp only [pA, h0, h1, h2, if_true, if_false]⟩
theorem z5 {f m : Rat -> Rat -> Rat -> Rat} {A B C : Int} (h : cI A + cI B + cI C = 0) : ptQ f m A B C = 0 := by
 unfold cI at h
 by_cases h0 : 0 < A <;> by_cases h1 : 0 < B <;> by_cases h2 : 0 < C <;> simp only [h0, h1, h2, if_true, if_false] at h <;> try omega
 unfold ptQ kV; simp only [pA, h0, h1, h2, if_true, if_false]
theorem tX (A : Int) : h2 (-A) = -h2 A := by unfold h2; rw [Rat.neg_divInt]
theorem DT (a b c : Rat) : shQ (-a) (-b) (-c) = shQ a b c := by
 unfold shQ; rw [show -a * -a = a * a by grind, show (-a - -b) * (-a - -c) = (a - b) * (a - c) by grind]
theorem C0 (a b c : Rat) : ju (-a) (-b) (-c) = -ju a b c := by
 unfold ju; rw [show (-a - -b) * (-a - -c) = (a - b) * (a - c) by grind, show -a * (-a * -a) = -(a * (a * a)) by grind, Rat.div_def, Rat.div_def, Rat.neg_mul]
theorem B8 (a b c : Rat) : fH (-a) (-b) (-c) = -fH a b c := by unfold fH; grind
theorem nn {a : Rat} (h : a ≠ 0) : (0 < -a) ↔ ¬ 0 < a := by constructor <;> intro k <;> grind
theorem xf {A : Int} (h : A ≠ 0) : h2 A ≠ 0 := by
 rw [kX]; intro e
 have : (A : Rat) = 0 := by grind
 exact h (Rat.intCast_inj.1 (this.trans Rat.intCast_zero.symm))
theorem Bm {A B C : Int} (hA : A ≠ 0) (hB : B ≠ 0) (hC : C ≠ 0) : ptQ shQ (fun _ _ _ => 1) (-A) (-B) (-C) = 1 - ptQ shQ (fun _ _ _ => 1) A B C := by
 unfold ptQ kV
 rw [tX, tX, tX]
 simp only [nn (xf hA), nn (xf hB), nn (xf hC), DT]
 by_cases h0 : 0 < h2 A <;> by_cases h1 : 0 < h2 B <;> by_cases h2 : 0 < h2 C <;> simp only [h0, h1, h2, if_true, if_false, not_true, not_false_iff] <;> grind
theorem Ch {A B C : Int} (hA : A ≠ 0) (hB : B ≠ 0) (hC : C ≠ 0) : ptQ ju fH (-A) (-B) (-C) = ptQ ju fH A B C - fH (h2 A) (h2 B) (h2 C) := by
 unfold ptQ kV
 rw [tX, tX, tX]
 simp only [nn (xf hA), nn (xf hB), nn (xf hC), C0, B8]
 by_cases h0 : 0 < h2 A <;> by_cases h1 : 0 < h2 B <;> by_cases h2 : 0 < h2 C <;> simp only [h0, h1, h2, if_true, if_false, not_true, not_false_iff] <;> grind
theorem zJ {A : Int} (h : A ≠ 0) : cI (-A) = 1 - cI A := by unfold cI; by_cases g : 0 < A <;> simp only [g, if_true, if_false] <;> split <;> omega
theorem Au {rec : Int -> Int -> Int -> Option (ag × ag)} {A B C : Int} {K : Nat} (hK : 9 <= K /\ K <= 100) (hA : inH A) (hB : inH B) (hC : inH C)
  (hrec : 2 <= cI A + cI B + cI C -> Ok (rec (-A) (-B) (-C)) fun r => R.Qx r.1 (ptQ shQ (fun _ _ _ => 1) (-A) (-B) (-C)) K /\ R.Qx r.2 (ptQ ju fH (-A) (-B) (-C)) K) :
  Ok (Ae rec 20000 A B C) fun r => R.Qx r.1 (ptQ shQ (fun _ _ _ => 1) A B C) (K + 4) /\ R.Qx r.2 (ptQ ju fH A B C) (K + 4) := by
 have a2 := hA.2; have b2 := hB.2; have c2 := hC.2
 unfold Ae
 refine Ok.bde (Ec A B C) ?_
 have hc : ∀ r : Int, cI r = 0 \/ cI r = 1 := fun r => by unfold cI; split <;> simp
 have ca := hc A; have cb := hc B; have cc := hc C
 refine Ok.cd (fun h => ?_) (fun h0 => Ok.cd (fun h => ?_) (fun h => ?_))
 · have h : cI A + cI B + cI C = 0 := by simpa using h
   rw [z5 h, z5 h]
   refine Ok.bd (R.iE (by omega) (by omega) (by omega)) fun u hu => Ok.bd (R.iE (by omega) (by omega) (by omega)) fun v hv => aw.2 ?_
   rw [s9] at hu hv
   exact ⟨QL.mono hu (by omega), QL.mono hv (by omega)⟩
 · have h := dcT h
   rw [wrap64_in (n := 0 - A) (by omega) (by omega), wrap64_in (n := 0 - B) (by omega) (by omega), wrap64_in (n := 0 - C) (by omega) (by omega), wrap64_in (n := A + B) (by omega) (by omega), wrap64_in (n := A + B + C) (by omega) (by omega), show 0 - A = -A by omega, show 0 - B = -B by omega, show 0 - C = -C by omega]
   refine Ok.bd (hrec h) ?_
   rintro r ⟨hr1, hr2⟩
   refine Ok.bd (R.pU (by omega) (by omega) (by omega) (by omega) (by omega) (by omega)) ?_
   rintro x ⟨hx, -⟩
   refine Ok.bd (R.iE (by omega) (by omega) (by omega)) fun y hy => ?_
   rw [z8] at hy
   refine Ok.bd (R.pY (by omega) (by omega) hy hr1) fun z hz => Ok.bd (R.lC (by omega) (by omega) hx hr2) fun q hq => aw.2 ?_
   rw [Bm hA.1 hB.1 hC.1] at hz
   rw [Ch hA.1 hB.1 hC.1] at hq
   have e1 : (1 : Rat) - (1 - ptQ shQ (fun _ _ _ => 1) A B C) = ptQ shQ (fun _ _ _ => 1) A B C := by grind
   have e2 : Rat.divInt (A + B + C) 6 + (ptQ ju fH A B C - fH (h2 A) (h2 B) (h2 C)) = ptQ ju fH A B C := by
    rw [Rat.divInt_eq_div, kX, kX, kX]; unfold fH; push_cast; grind
   rw [e1] at hz; rw [e2] at hq
   exact ⟨QL.mono hz (by omega), QL.mono hq (by omega)⟩
 · have h0 : cI A + cI B + cI C ≠ 0 := by simpa using h0
   have h := dcF h
   obtain ⟨a, b, c, e, p, q, r, hw, hf⟩ := CH (A := A) (B := B) (C := C) (by omega)
   have ba : inH a /\ inH b /\ inH c := by rcases hw with ⟨rfl, rfl, rfl⟩ | ⟨rfl, rfl, rfl⟩ | ⟨rfl, rfl, rfl⟩ <;> exact ⟨by assumption, by assumption, by assumption⟩
   obtain ⟨⟨_, a3, a4⟩, ⟨_, b3, b4⟩, ⟨_, c3, c4⟩⟩ := ba
   refine Ok.bde e ?_
   dsimp only
   rw [wrap64_in (n := a - b) (by omega) (by omega), wrap64_in (n := a - c) (by omega) (by omega), hf, hf]
   refine Ok.bd (R.pU (by omega) (by omega) (by omega) (by omega) (by omega) (by omega)) ?_
   rintro u ⟨hu, -⟩
   refine Ok.bd (R.pU (by omega) (by omega) (by omega) (by omega) (by omega) (by omega)) ?_
   rintro v ⟨hv, -⟩
   refine Ok.bd (R.mw (by omega) (by omega) hu hv) fun x hx => ?_
   refine Ok.bd (R.pU (by omega) (by omega) (by omega) (by omega) (by omega) (by omega)) ?_
   rintro y ⟨hy, -⟩
   refine Ok.bd (R.mw (by omega) (by omega) hx hy) fun z hz => aw.2 ?_
   have n1 := uf (A := a) (B := b) (by omega)
   have n2 := uf (A := a) (B := c) (by omega)
   have e1 : Rat.divInt a (a - b) * Rat.divInt a (a - c) = shQ (h2 a) (h2 b) (h2 c) := by
    rw [Rat.divInt_eq_div, Rat.divInt_eq_div, kX, kX, kX]; unfold shQ; push_cast; grind
   have e2 : shQ (h2 a) (h2 b) (h2 c) * Rat.divInt a 6 = ju (h2 a) (h2 b) (h2 c) := by
    rw [Rat.divInt_eq_div, kX, kX, kX]; unfold shQ ju; push_cast; grind
   rw [e1] at hx hz; rw [e2] at hz
   exact ⟨QL.mono hx (by omega), QL.mono hz (by omega)⟩
theorem zr {A : Int} (h : inH A) : inH (-A) := ⟨by have := h.1; omega, by have := h.2; omega, by have := h.2; omega⟩
theorem DO {A B C : Int} (hA : inH A) (hB : inH B) (hC : inH C) : Ok (gJ 20000 A B C) fun r => R.Qx r.1 (ptQ shQ (fun _ _ _ => 1) A B C) 17 /\ R.Qx r.2 (ptQ ju fH A B C) 17 := by
 rw [DI]
 refine Au (K := 13) (by omega) hA hB hC fun h => ?_
 rw [CF]
 refine Au (K := 9) (by omega) (zr hA) (zr hB) (zr hC) fun k => ?_
 rw [zJ hA.1, zJ hB.1, zJ hC.1] at k
 omega
end Go.L

