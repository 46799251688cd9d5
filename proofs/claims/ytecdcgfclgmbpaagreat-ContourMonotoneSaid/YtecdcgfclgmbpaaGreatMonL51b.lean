import Derived.Test.YtecdcgfclgmbpaaGreatPl6Mons
import Derived.Test.YtecdcgfclgmbpaaGreatMonL01q
import Derived.Test.YtecdcgfclgmbpaaGreatMonL02sB
import Derived.Test.YtecdcgfclgmbpaaGreatMonL01q
import Derived.Test.YtecdcgfclgmbpaaGreatMonLD
import Derived.Test.YtecdcgfclgmbpaaGreatPl6Mons
import Derived.KernelRfl
import Derived.Test.YtecdcgfclgmbpaaGreatMonL02sB
set_option linter.unusedVariables false
namespace Go.L
open Go Go.Eng
def gk (p q r : Rat) : Rat := p * (p * p) / (3 * ((p - q) * (p - r)))
def cL (a b c : Rat) : Rat := (a + (b + c)) / 3
theorem o8 (p q r : Rat) : gk p q r = gk p r q := by unfold gk; grind
structure Sp (a b c x y : Rat) : Prop where
 m : x - y = cL a b c
 p : 0 <= a -> 0 <= b -> 0 <= c -> y = 0
 n : a <= 0 -> b <= 0 -> c <= 0 -> x = 0
 u1 : 0 < a -> b <= 0 -> c <= 0 -> x = gk a b c
 u2 : 0 < b -> a <= 0 -> c <= 0 -> x = gk b a c
 u3 : 0 < c -> a <= 0 -> b <= 0 -> x = gk c a b
 d1 : a < 0 -> 0 <= b -> 0 <= c -> y = gk (-a) (-b) (-c)
 d2 : b < 0 -> 0 <= a -> 0 <= c -> y = gk (-b) (-a) (-c)
 d3 : c < 0 -> 0 <= a -> 0 <= b -> y = gk (-c) (-a) (-b)
theorem Sp.s12 {a b c x y : Rat} (h : Sp a b c x y) : Sp b a c x y :=
 ⟨by rw [h.m]; unfold cL; grind, fun h1 h2 h3 => h.p h2 h1 h3, fun h1 h2 h3 => h.n h2 h1 h3, fun h1 h2 h3 => h.u2 h1 h2 h3, fun h1 h2 h3 => h.u1 h1 h2 h3, fun h1 h2 h3 => by rw [h.u3 h1 h3 h2, o8], fun h1 h2 h3 => h.d2 h1 h2 h3, fun h1 h2 h3 => h.d1 h1 h2 h3, fun h1 h2 h3 => by rw [h.d3 h1 h3 h2, o8]⟩
theorem Sp.s23 {a b c x y : Rat} (h : Sp a b c x y) : Sp a c b x y :=
 ⟨by rw [h.m]; unfold cL; grind, fun h1 h2 h3 => h.p h1 h3 h2, fun h1 h2 h3 => h.n h1 h3 h2, fun h1 h2 h3 => by rw [h.u1 h1 h3 h2, o8], fun h1 h2 h3 => h.u3 h1 h2 h3, fun h1 h2 h3 => h.u2 h1 h2 h3, fun h1 h2 h3 => by rw [h.d1 h1 h3 h2, o8], fun h1 h2 h3 => h.d3 h1 h2 h3, fun h1 h2 h3 => h.d2 h1 h2 h3⟩
theorem Sp.rot {a b c x y : Rat} (h : Sp a b c x y) : Sp b c a x y := h.s12.s23
end Go.L


set_option linter.all false
namespace Go.L
open Go Go.Eng
theorem A0 {a : Rat} : a.num <= 0 ↔ a <= 0 := by
 have h := Rat.num_nonneg (q := -a)
 rw [Rat.neg_num] at h
 constructor
 · intro k; have := h.1 (by omega); grind
 · intro k; have := h.2 (by grind); omega
theorem DS {a : Rat} : 0 < a.num ↔ 0 < a := by
 have h := A0 (a := a)
 constructor
 · intro k; apply Classical.byContradiction; intro hc; have := h.2 (by grind); omega
 · intro k; apply Classical.byContradiction; intro hc; have := h.1 (by omega); grind
theorem AY {a : Rat} : sgn a.num <= 0 ↔ a <= 0 := by
 have := df a.num
 rw [<- A0]; omega
theorem A9 {a : Rat} : sgn a.num > 0 ↔ 0 < a := by
 have := df a.num
 rw [<- DS]; omega
theorem zU {n : Nat} {x : ai} {a : Rat} {k : Nat} (hn : 20000 <= n) (hk : k <= 250) (hx : Qx x a k) : a7 n x = some (sgn a.num) := by
 apply Ok.eq
 unfold a7
 refine Ok.bd (fo hn hk hx) fun v hv => ?_
 have n1 := hv.nl
 exact Ok.bde (kd (by omega) (by omega) hv.num) (az.2 rfl)
theorem vB {n : Nat} {x y : ai} {a b : Rat} {j k : Nat} (hn : 20000 <= n) (hk : j + k <= 250) (hx : Qx x a j) (hy : Qx y b k) (hb : b ≠ 0) : Ok (gN n x y) fun z => Qx z.1 (a / b) (j + k) := by
 unfold gN
 refine Ok.bd (fo hn (by omega) hx) fun v hv => Ok.bd (fo hn (by omega) hy) fun w hw => ?_
 have n1 := hv.nl; have n2 := hw.nl; have d1 := hv.dl; have d2 := hw.dl
 have hb' := DV hb
 refine Ok.bde (kd (by omega) (by omega) hw.num) (Ok.cd (fun h => ?_) (fun _ => ?_))
 · have : sgn b.num = 0 := by simpa using h
   have := df b.num
   omega
 refine Ok.bd (lF (by omega) hv.num hw.den (by omega) (by omega)) fun p hp => Ok.bd (lF (by omega) hv.den hw.num (by omega) (by omega)) fun q hq => ?_
 have lp := eY hv.num hw.den hp n1 d2
 have lq := eY hv.den hw.num hq d1 n2
 have hne : (a.den : Int) * b.num ≠ 0 := Int.mul_ne_zero (by have := den_pos a; omega) hb'
 refine Ok.bd (jZ hn hk hp hq lp lq hne) fun z hz => az.2 ?_
 rw [Dj] at hz; exact hz
theorem C0 : Rat.divInt 3 1 = 3 := by rw [jX]; rfl
theorem xQ : Rat.divInt 0 1 = 0 := by rw [jX]; rfl
theorem Ct {α β : Type} {n : Nat} {f : (α -> Option β) -> α -> Option β} {a : α} {Q : β -> Prop} (h : Ok (f (aM n f) a) Q) : Ok (aM (n + 1) f a) Q := h
end Go.L


set_option linter.all false
namespace Go.L
open Go Go.Eng
theorem xC {n : Nat} {z : Int} : dT n z = some (xV z) := Bq
theorem AR {n : Nat} (hn : 4096 < n) (g : al) : fS n g = some (nZ g) := by
 apply Ok.eq
 unfold fS
 refine Ok.cd (fun h => az.2 (m9 fun d => ?_).symm) (fun h1 => Ok.cd (fun h => az.2 (m9 fun d => ?_).symm) (fun h2 => Ok.cd (fun h => az.2 (m9 fun d => ?_).symm) (fun h3 => Ok.cd (fun h => az.2 (m9 fun d => ?_).symm) (fun h4 => Ok.cd (fun h => az.2 (m9 fun d => ?_).symm) (fun h5 => Ok.cd (fun h => az.2 (m9 fun d => ?_).symm) (fun h6 => Ok.cd (fun h => az.2 (m9 fun d => ?_).symm) (fun h7 => Ok.bde xC (Ok.cd (fun h => az.2 (m9 fun d => ?_).symm) (fun h8 => Ok.bde xC (Ok.cd (fun h => az.2 (m9 fun d => ?_).symm) (fun h9 => ?_)))))))))))
 · have := d.w; have := dcT h; omega
 · have := d.w; have := dcT h; omega
 · have := d.h; have := dcT h; omega
 · have := d.h; have := dcT h; omega
 · have := d.s; have := dcT h; omega
 · have := d.s; have := dcT h; omega
 · have := d.e; simp [this] at h
 · rw [d.x] at h; cases h
 · rw [d.y] at h; cases h
 have h1 := dcF h1
 have h2 := dcF h2
 have h3 := dcF h3
 have h4 := dcF h4
 have h5 := dcF h5
 have h6 := dcF h6
 have d : Dim g := ⟨by omega, by omega, by omega, by simpa using h7, h8, h9⟩
 have ha := BK d.w d.h
 rw [wrap64_in (n := g.Width * g.Height) (by omega) (by omega)]
 unfold nZ
 rw [if_pos d]
 refine Ok.cd (fun h => az.2 ?_) (fun h => ?_)
 · rw [if_neg]; simpa using h
 · have h : (g.Z.length : Int) = g.Width * g.Height := by simpa using h
   rw [if_pos h]
   refine Ok.bde (Ax (p := qU) (c := (2 : Int)) (s := g.Z) (by omega) (by omega) ?_ ?_) ?_
   · intro again k hk
     have d1 : decide ((k : Int) < (g.Z.length : Int)) = true := by simpa using hk
     have d2 : decide (k < g.Z.length) = true := by simpa using hk
     rw [d1, bP, d2, tP, xC]
     unfold qU
     cases (g.Z.getD k default != -2147483648) <;> cases xV (g.Z.getD k default) <;> rfl
   · intro again
     have d1 : decide ((g.Z.length : Int) < (g.Z.length : Int)) = false := by simp
     rw [d1]; rfl
   · cases hz : g.Z.any qU with
     | true => exact az.2 rfl
     | false => exact az.2 rfl
theorem xb {γ σ : Type} {n : Nat} {g : al} {w h : Nat} (hn : 200 < n) (hg : Gd g w h) (mk : γ -> Int -> σ) (visit : A3 Int -> γ -> Option γ)
  {f1 : (σ -> Option γ) -> σ -> Option γ} {f2 : Int -> (σ -> Option γ) -> σ -> Option γ} {f3 : List (A3 Int) -> (σ -> Option γ) -> σ -> Option γ}
  (h1 : ∀ again c x, f1 again (mk c x) = cdO (decide (x < Fj (g.Height - 1))) (bdO (aM n (f2 x) (mk c 0)) fun o => again (mk o (Fj (x + 1)))) (some c))
  (h2 : ∀ J again c x, f2 J again (mk c x) = cdO (decide (x < Fj (g.Width - 1))) (bdO (some (Fj ((Fj (J * g.Width)) + x))) fun k => bdO (some [A3.mk k (Fj (k + 1)) (Fj ((Fj (k + g.Width)) + 1)), A3.mk k (Fj ((Fj (k + g.Width)) + 1)) (Fj (k + g.Width))]) fun L => bdO (aM n (f3 L) (mk c 0)) fun o => again (mk o (Fj (x + 1)))) (some c))
  (h3 : ∀ L again c x, f3 L again (mk c x) = cdO (decide (x < 2)) (gdO (inR x L.length) (gdO (inR (gt L x).e0 g.Z.length) (cdO ((gt g.Z (gt L x).e0 : Int) != (-2147483648)) (gdO (inR (gt L x).e1 g.Z.length) (cdO ((gt g.Z (gt L x).e1 : Int) != (-2147483648)) (gdO (inR (gt L x).e2 g.Z.length) (cdO ((gt g.Z (gt L x).e2 : Int) != (-2147483648)) (
    bdO (visit (gt L x) c) fun v => again (mk v (Fj (x + 1)))) (again (mk c (Fj (x + 1)))))) (again (mk c (Fj (x + 1)))))) (again (mk c (Fj (x + 1))))))) (some c))
  (P : List (A3 Int) -> γ -> Prop) {c0 : γ} (h0 : P [] c0) (hv : ∀ pre t c, t ∈ n5 g w h -> pre.length < 2 * ((w - 1) * (h - 1)) -> P pre c -> Ok (visit t c) (P (pre ++ [t]))) : Ok (aM n f1 (mk c0 0)) (P (n5 g w h)) := by
 have hw := hg.w1; have hh := hg.h1
 have hH := hg.H; have hW := hg.W
 have e1 : Fj (g.Height - 1) = ((h - 1 : Nat) : Int) := by rw [hH, wrap64_in (by omega) (by omega)]; omega
 have e2 : Fj (g.Width - 1) = ((w - 1 : Nat) : Int) := by rw [hW, wrap64_in (by omega) (by omega)]; omega
 have mem : ∀ j i k, j < h - 1 -> i < w - 1 -> k < 2 -> (jk g.Width j i).getD k default ∈ pP g.Width (w - 1) (h - 1) := by
  intro j i k hj hi hk
  unfold pP A8
  refine List.mem_flatMap.2 ⟨j, List.mem_range.2 hj, List.mem_flatMap.2 ⟨i, List.mem_range.2 hi, ?_⟩⟩
  have hk2 : k < (jk g.Width j i).length := hk
  simp only [List.getD, geT hk2, Option.getD_some]; exact List.getElem_mem hk2
 refine tU (len := h - 1) mk (fun j c => P ((pP g.Width (w - 1) j).filter (oV g.Z)) c) (by omega) (by omega) h0 ?_ ?_
 · rintro again j c hj hP ih
   rw [h1 again c j, e1]
   refine Ok.cd (fun _ => ?_) (fun h => by have := dcF h; omega)
   refine Ok.bd (R := P ((pP g.Width (w - 1) (j + 1)).filter (oV g.Z))) ?_ (fun o ho => ih _ ho)
   refine tU (len := w - 1) mk (fun i c => P ((pP g.Width (w - 1) j ++ (List.range i).flatMap (jk g.Width j)).filter (oV g.Z)) c) (by omega) (by omega) (by simpa using hP) ?_ ?_
   · rintro again2 i c hi hP2 ih2
     rw [h2 j again2 c i, e2]
     refine Ok.cd (fun _ => ?_) (fun h => by have := dcF h; omega)
     have hcell : ∀ k, k < 2 -> inR ((jk g.Width j i).getD k default).e0 g.Z.length = true /\ inR ((jk g.Width j i).getD k default).e1 g.Z.length = true /\ inR ((jk g.Width j i).getD k default).e2 g.Z.length = true := fun k hk => by rw [hW]; exact zY hg.m hw.2 hh.2 hj hi k hk
     have hL : (jk g.Width j i).length = 2 := rfl
     have hmem : ∀ k, k < 2 -> (jk g.Width j i).getD k default ∈ pP g.Width (w - 1) (h - 1) := fun k hk => mem j i k hj hi hk
     show Ok (bdO (aM n (f3 (jk g.Width j i)) (mk c 0)) fun o => again2 (mk o (Fj ((i : Int) + 1)))) _
     refine Ok.bd (R := P ((pP g.Width (w - 1) j ++ (List.range (i + 1)).flatMap (jk g.Width j)).filter (oV g.Z))) ?_ (fun o ho => ih2 _ ho)
     rw [y4, <- List.append_assoc, List.filter_append]
     have hjb : (w - 1) * (j + 1) <= (w - 1) * (h - 1) := Nat.mul_le_mul_left _ (by omega)
     rw [Nat.mul_add, Nat.mul_one] at hjb
     have hpl : ((pP g.Width (w - 1) j ++ (List.range i).flatMap (jk g.Width j)).filter (oV g.Z)).length + 2 <= 2 * ((w - 1) * (h - 1)) := by
      have := List.length_filter_le (oV g.Z) (pP g.Width (w - 1) j ++ (List.range i).flatMap (jk g.Width j))
      rw [List.length_append, x4, xP, Nat.mul_assoc] at this
      omega
     generalize (pP g.Width (w - 1) j ++ (List.range i).flatMap (jk g.Width j)).filter (oV g.Z) = pre at hP2 hpl
     generalize jk g.Width j i = L at hcell hL hmem
     refine tU (len := 2) mk (fun k c => P (pre ++ (L.take k).filter (oV g.Z)) c) (by omega) (by omega) (by simpa using hP2) ?_ ?_
     · rintro again3 k c hk hP3 ih3
       obtain ⟨r0, r1, r2⟩ := hcell k hk
       have hm := hmem k hk
       have hft := ye (L := L) (p := oV g.Z) (k := k) (by omega)
       rw [<- tP] at r0 r1 r2 hft hm
       have no : oV g.Z (gt L (k : Int)) = false -> Ok (again3 (mk c (Fj ((k : Int) + 1)))) (P (pre ++ L.filter (oV g.Z))) := fun h => ih3 _ (by rw [hft, h]; simpa using hP3)
       rw [h3]
       refine Ok.cd (fun _ => ?_) (fun h => by have := dcF h; omega)
       refine Ok.gd (by rw [bP]; exact decide_eq_true (by omega)) (Ok.gd r0 ?_)
       refine Ok.cd (fun h0 => ?_) (fun h => no (by unfold oV; rw [h]; rfl))
       refine Ok.gd r1 (Ok.cd (fun h1 => ?_) (fun h => no (by unfold oV; rw [h0, h]; rfl)))
       refine Ok.gd r2 (Ok.cd (fun h2 => ?_) (fun h => no (by unfold oV; rw [h0, h1, h]; rfl)))
       have hz : oV g.Z (gt L (k : Int)) = true := by unfold oV; rw [h0, h1, h2]; rfl
       refine Ok.bd (hv _ _ _ (List.mem_filter.2 ⟨hm, hz⟩) (by rw [List.length_append]; have := List.length_filter_le (oV g.Z) (L.take k); rw [List.length_take] at this; omega) hP3) fun v hP4 => ih3 v ?_
       rw [hft, if_pos hz, <- List.append_assoc]; exact hP4
     · rintro again3 c hP3
       rw [h3]
       refine Ok.cd (fun h => by simp at h) (fun _ => az.2 ?_)
       rw [List.take_of_length_le (by omega)] at hP3; exact hP3
   · rintro again2 c hP2
     rw [h2 j again2 c, e2]
     refine Ok.cd (fun h => by have := dcT h; omega) (fun _ => az.2 ?_)
     rw [yK]; exact hP2
 · rintro again c hP
   rw [h1 again c, e1]
   exact Ok.cd (fun h => by have := dcT h; omega) (fun _ => az.2 hP)
end Go.L


set_option linter.all false
namespace Go.L
open Go Go.Eng
def Bk {α : Type} (x : α) : List α -> List (List α)
 | [] => [[x]]
 | y :: l => (x :: y :: l) :: (Bk x l).map (y :: ·)
def perms {α : Type} : List α -> List (List α)
 | [] => [[]]
 | x :: l => (perms l).flatMap (Bk x)
theorem yu {α : Type} {x : α} {b : List α} : ∀ a : List α, a ++ x :: b ∈ Bk x (a ++ b)
 | [] => by cases b <;> simp [Bk]
 | y :: a => by
  rw [List.cons_append, List.cons_append, Bk]
  exact List.mem_cons_of_mem _ (List.mem_map.2 ⟨_, yu a, rfl⟩)
theorem xn {α : Type} : ∀ (l p : List α), p.Perm l -> p ∈ perms l
 | [], p, h => by rw [List.perm_nil.1 h]; simp [perms]
 | x :: l, p, h => by
  obtain ⟨a, b, rfl⟩ := List.append_of_mem (h.mem_iff.2 (by simp : x ∈ x :: l))
  have h2 : (a ++ b).Perm l := (List.perm_cons x).1 ((List.perm_middle.symm).trans h)
  exact List.mem_flatMap.2 ⟨_, xn l _ h2, yu a⟩
def wj (n : Nat) (g : al) (level : Int) (v1 : List (A2 Int × A2 Int) × List (A2 Int × Bool)) (sl : Int) (v21 : List (A2 Int)) : Option (List ag) :=
  bdO (aM (α := List (A2 Int × Bool) × List ag × Int) (β := List (A2 Int × Bool) × List ag) n (fun again56 (done_45, out_46, x_47) => (
   cdO (decide (x_47 < sl)) (
    gdO (inR x_47 v21.length) (
    cdO (!(getM false v1.2 (gt v21 x_47))) (
     bdO (fF n (gt v21 x_47) false done_45 g.X0 g.Y0 g.Step g.Width g.Height g.Z level v1.1 out_46) fun v61 => (
     again56 (v61.1, v61.2, Fj (x_47 + 1))
     )
    ) (
     again56 (done_45, out_46, Fj (x_47 + 1))
    )
    )
   ) (
    some ((done_45, out_46))
   )
  )) (([] : List (A2 Int × Bool)), [], 0)) fun o63 => (
   match o63 with
   | (done_54, out_55) => (
    bdO (aM (α := List (A2 Int × Bool) × List ag × Int) (β := List ag) n (fun again76 (done_66, out_67, x_68) => (
     cdO (decide (x_68 < (v21.length : Int))) (
      gdO (inR x_68 v21.length) (
      cdO (!(getM false done_66 (gt v21 x_68))) (
       bdO (fF n (gt v21 x_68) true done_66 g.X0 g.Y0 g.Step g.Width g.Height g.Z level v1.1 out_67) fun v81 => (
       again76 (v81.1, v81.2, Fj (x_68 + 1))
       )
      ) (
       again76 (done_66, out_67, Fj (x_68 + 1))
      )
      )
     ) (
      some (out_67)
     )
    )) (done_54, out_55, 0)) fun out_75 => (
     bdO (aT n out_75) fun v86 => (
     gdO (decide (v86.length = out_75.length)) (
     some (v86)
     )
     )
    )
   ))
def xc (starts_16 : List (A2 Int)) (e12 : A2 Int × A2 Int) : Option (List (A2 Int)) :=
 gdO (decide ((starts_16.length + 1) * 16 <= 140737488355328)) (
 gdO (decide (starts_16.length + 1 <= 4611686018427387904)) (
 some (starts_16 ++ [e12.1])
 )
 )
theorem CW (n : Nat) (g : al) (level : Int) : im n g level = bdO (bh n g g.X0 g.Y0 g.Step g.Width g.Height g.Z level ([] : List (A2 Int × A2 Int)) ([] : List (A2 Int × Bool))) fun v1 =>
  yY v1.1 xc [] fun starts => bdO (aJ n starts) fun v21 => gdO (decide (v21.length = starts.length)) (wj n g level v1 (starts.length : Int) v21) := rfl
theorem vz : ∀ (l : List (A2 Int × A2 Int)) (a : List (A2 Int)), a.length + l.length <= 100000 -> nY xc a l = some (a ++ l.map (·.1))
 | [], a, _ => by simp [nY]
 | e :: l, a, h => by
  rw [List.length_cons] at h
  have e1 : xc a e = some (a ++ [e.1]) := by
   unfold xc
   rw [decide_eq_true (show (a.length + 1) * 16 <= 140737488355328 by omega), decide_eq_true (show a.length + 1 <= 4611686018427387904 by omega)]; rfl
  rw [nY, e1]
  show nY xc (a ++ [e.1]) l = _
  rw [vz l _ (by rw [List.length_append, List.length_cons, List.length_nil]; omega), List.append_assoc]
  rfl
theorem BA {n : Nat} {g : al} {level : Int} {v1 : List (A2 Int × A2 Int) × List (A2 Int × Bool)} {S : List (A2 Int)} {r : List ag}
  (h1 : bh n g g.X0 g.Y0 g.Step g.Width g.Height g.Z level ([] : List (A2 Int × A2 Int)) ([] : List (A2 Int × Bool)) = some v1) (hl : v1.1.length <= 100000)
  (h2 : ∀ p : List (A2 Int), p.Perm (v1.1.map (·.1)) -> aJ n p = some S) (h3 : S.length = v1.1.length) (h4 : wj n g level v1 (v1.1.length : Int) S = some r) : im n g level = some r := by
 rw [CW, h1]
 show yY v1.1 xc [] _ = _
 refine C7 fun p hp => ?_
 have hpl := hp.length_eq
 rw [vz p [] (by simp; omega), List.nil_append]
 show bdO (aJ n (p.map (·.1))) _ = _
 rw [h2 _ (hp.map _)]
 show gdO (decide (S.length = (p.map (·.1)).length)) (wj n g level v1 ((p.map (·.1)).length : Int) S) = _
 rw [List.length_map, hpl, h3, decide_eq_true rfl, h4]; rfl
def exG : al := al.mk 0 0 2 3 3 [(0 : Int), (0 : Int), (0 : Int), (0 : Int), (4 : Int), (0 : Int), (0 : Int), (0 : Int), (0 : Int)]
def exV : List (A2 Int × A2 Int) × List (A2 Int × Bool) := (bh 20000 exG 0 0 2 3 3 exG.Z 1 ([] : List (A2 Int × A2 Int)) ([] : List (A2 Int × Bool))).getD default
def exK : List (A2 Int) := [⟨0, 4⟩, ⟨1, 4⟩, ⟨3, 4⟩, ⟨4, 5⟩, ⟨4, 7⟩, ⟨4, 8⟩]
def exL : List ag := (wj 20000 exG 1 exV 6 exK).getD []
theorem ED : bh 20000 exG exG.X0 exG.Y0 exG.Step exG.Width exG.Height exG.Z 1 ([] : List (A2 Int × A2 Int)) ([] : List (A2 Int × Bool)) = some exV := by kernel_rfl
theorem EN : ((perms (exV.1.map (·.1))).all fun p => aJ 20000 p == some exK) = true := by kernel_rfl
theorem Ev : wj 20000 exG 1 exV (exV.1.length : Int) exK = some exL := by kernel_rfl
theorem yQ : im 20000 exG 1 = some exL :=
 BA ED (lbT (by kernel_rfl)) (fun p hp => eq_of_beq (List.all_eq_true.1 EN p (xn _ _ hp))) (by kernel_rfl) Ev
theorem AF : kr 20000 exG 1 = some (exL, 0) := by
 unfold kr
 rw [yQ]
 kernel_rfl
theorem Bu : kF 20000 exG 1 exL = some 0 := by
 unfold kF
 rw [yQ]
 kernel_rfl
theorem Cv {α β : Type} {a : α} {f : α -> Option β} : bdO (some a) f = f a := rfl
theorem AM : fQ 20000 = some true := by
 unfold fQ
 have e1 : di 20000 = some exG := rfl
 simp only [e1, Cv, AF, Bu]
 refine Eq.symm ?_
 kernel_rfl
end Go.L


set_option linter.unusedVariables false
namespace Go.L
open Go Go.Eng
def Bd1 (r : Rat) : Prop := ∃ p q : Int, r = Rat.divInt p q /\ 0 < q /\ q <= 1000000000000000 /\ -100000000000000000000000 <= p /\ p <= 100000000000000000000000
theorem BO : Bd1 0 := ⟨0, 1, by rw [jX]; rfl, by omega, by omega, by omega, by omega⟩
def Bd (r : Rat) (i : Nat) : Prop := ∃ p q : Int, r = Rat.divInt p q /\ 0 < q /\ q <= 1000000000000000 ^ i /\ -(i * 100000000 * 1000000000000000 ^ i) <= p /\ p <= i * 100000000 * 1000000000000000 ^ i
theorem Cz : Bd 0 0 := ⟨0, 1, by rw [jX]; rfl, by omega, by simp, by simp, by simp⟩
theorem Bd.add {r s : Rat} {i : Nat} (h : Bd r i) (k : Bd1 s) : Bd (r + s) (i + 1) := by
 obtain ⟨p, q, h1, h2, h3, h4, h5⟩ := h
 obtain ⟨u, v, k1, k2, k3, k4, k5⟩ := k
 have hB : (0 : Int) < 1000000000000000 ^ i := Int.pow_pos (by omega)
 refine ⟨p * v + u * q, q * v, ?_, Int.mul_pos h2 k2, ?_, ?_, ?_⟩
 · rw [h1, k1, Rat.divInt_add_divInt _ _ (by omega) (by omega)]
 · rw [Int.pow_succ]; exact Int.mul_le_mul h3 k3 (by omega) (by omega)
 all_goals
  rw [Int.pow_succ]
  push_cast
  generalize (1000000000000000 : Int) ^ i = P at *
  generalize hI : (i : Int) * 100000000 = I at *
  have hI0 : 0 <= I := by omega
  have e : ((i : Int) + 1) * 100000000 * (P * 1000000000000000) = I * P * 1000000000000000 + 100000000 * (P * 1000000000000000) := by rw [Int.add_mul, hI, Int.add_mul, Int.one_mul, Int.mul_assoc]
  have hIP : 0 <= I * P := Int.mul_nonneg hI0 (by omega)
  have m1 : p * v <= I * P * v := mrT h5 (by omega)
  have m2 : I * P * v <= I * P * 1000000000000000 := mlT k3 hIP
  have m3 : u * q <= 100000000000000000000000 * q := mrT k5 (by omega)
  have n1 : -(I * P) * v <= p * v := mrT h4 (by omega)
  rw [Int.neg_mul] at n1
  have n3 : -100000000000000000000000 * q <= u * q := mrT k4 (by omega)
  rw [e]
  generalize I * P * v = T1 at *
  generalize I * P * 1000000000000000 = T2 at *
  generalize p * v = T3 at *
  generalize u * q = T4 at *
  omega
theorem yo {i : Nat} (h : i <= 56) : (1000000000000000 : Int) ^ i <= 1000000000000000 ^ 56 := by
 obtain ⟨j, hj⟩ : ∃ j, 56 = i + j := ⟨56 - i, by omega⟩
 rw [show (1000000000000000 : Int) ^ 56 = 1000000000000000 ^ i * 1000000000000000 ^ j by rw [<- Int.pow_add, <- hj]]
 have h1 : (1 : Int) <= 1000000000000000 ^ j := Int.pow_pos (by omega)
 have h2 : (0 : Int) < 1000000000000000 ^ i := Int.pow_pos (by omega)
 have := mlT h1 (Int.le_of_lt h2)
 omega
theorem E5 : (5600000000 : Int) * 1000000000000000 ^ 56 < pB 95 := dcT (by kernel_rfl)
theorem Bd.len {nn dn : Bool} {ng dg : List Int} {r : Rat} {i j : Nat} (h : Bd r i) (hi : i <= 56) (q : QL nn ng dn dg r j) : QL nn ng dn dg r 95 := by
 obtain ⟨p, d, h1, h2, h3, h4, h5⟩ := h
 have hp := yo hi
 have hb := E5
 have h0 : (0 : Int) < 1000000000000000 ^ i := Int.pow_pos (by omega)
 have hm : (i : Int) * 100000000 * 1000000000000000 ^ i <= 5600000000 * 1000000000000000 ^ 56 := Int.mul_le_mul (by omega) hp (by omega) (by omega)
 generalize (i : Int) * 100000000 * 1000000000000000 ^ i = M at *
 generalize (1000000000000000 : Int) ^ i = P at *
 generalize (1000000000000000 : Int) ^ 56 = R at *
 exact QL.tight q h1 h2 (by omega) (by omega) (by omega)
end Go.L

