import Derived.Test.YtecdcgfclgmbpaaGreatSidL02oB
import Derived.Test.YtecdcgfclgmbpaaGreatPl6Sids
import Derived.Test.YtecdcgfclgmbpaaGreatSidL01q
import Derived.Test.YtecdcgfclgmbpaaGreatSidL01q
import Derived.Test.YtecdcgfclgmbpaaGreatSidLD
import Derived.Test.YtecdcgfclgmbpaaGreatPl6Sids
import Derived.KernelRfl
import Derived.Test.YtecdcgfclgmbpaaGreatSidL02oB
set_option linter.all false
namespace Go.L
open Go Go.Eng
theorem Dj {n : Nat} {x : aj} {a : Rat} {k : Nat} (hn : 20000 <= n) (hk : k <= 250) (hx : Qx x a k) : Ok (ka n x) fun z => Qx z (-a) k := by
 unfold ka
 refine Ok.bd (jN hn hk hx) fun v hv => ?_
 have n1 := hv.nl
 refine Ok.bd (rH (by omega) (by omega) hv.num) fun z hz => aC.2 ?_
 exact ⟨(show (-a).num = -a.num from rfl) ▸ hz, (show (-a).den = a.den from rfl) ▸ hv.den, ph hv.num hz hv.nl, hv.dl⟩
theorem si {n : Nat} {x y : aj} {a b : Rat} {j k : Nat} (hn : 20000 <= n) (hk : j + k + 1 <= 250) (hx : Qx x a j) (hy : Qx y b k) : Ok (cC n x y) fun z => Qx z (a - b) (j + k + 1) := by
 unfold cC
 refine Ok.bd (Dj hn (by omega) hy) fun v hv => Ok.bd (xL hn hk hx hv) fun z hz => aC.2 ?_
 rw [Rat.sub_eq_add_neg]; exact hz
end Go.L


set_option linter.unusedVariables false
namespace Go.L
open Go Go.Eng
def BP (p q r : Rat) : Rat := p * (p * p) / (3 * ((p - q) * (p - r)))
def Ep (a b c : Rat) : Rat := (a + (b + c)) / 3
structure Sp (a b c x y : Rat) : Prop where
 m : x - y = Ep a b c
 p : 0 <= a -> 0 <= b -> 0 <= c -> y = 0
 n : a <= 0 -> b <= 0 -> c <= 0 -> x = 0
 u1 : 0 < a -> b <= 0 -> c <= 0 -> x = BP a b c
 u2 : 0 < b -> a <= 0 -> c <= 0 -> x = BP b a c
 u3 : 0 < c -> a <= 0 -> b <= 0 -> x = BP c a b
 d1 : a < 0 -> 0 <= b -> 0 <= c -> y = BP (-a) (-b) (-c)
 d2 : b < 0 -> 0 <= a -> 0 <= c -> y = BP (-b) (-a) (-c)
 d3 : c < 0 -> 0 <= a -> 0 <= b -> y = BP (-c) (-a) (-b)
theorem Sp.neg {a b c x y : Rat} (h : Sp a b c x y) : Sp (-a) (-b) (-c) y x := by
 have e : ∀ z : Rat, - -z = z := fun z => by grind
 refine ⟨?_, fun h1 h2 h3 => h.n (by grind) (by grind) (by grind), fun h1 h2 h3 => h.p (by grind) (by grind) (by grind), fun h1 h2 h3 => h.d1 (by grind) (by grind) (by grind), fun h1 h2 h3 => h.d2 (by grind) (by grind) (by grind), fun h1 h2 h3 => h.d3 (by grind) (by grind) (by grind), fun h1 h2 h3 => ?_, fun h1 h2 h3 => ?_, fun h1 h2 h3 => ?_⟩
 · have := h.m; unfold Ep at this ⊢; grind
 · rw [e, e, e]; exact h.u1 (by grind) (by grind) (by grind)
 · rw [e, e, e]; exact h.u2 (by grind) (by grind) (by grind)
 · rw [e, e, e]; exact h.u3 (by grind) (by grind) (by grind)
end Go.L


set_option linter.all false
namespace Go.L
open Go Go.Eng
theorem B9 {a : Rat} : a.num <= 0 ↔ a <= 0 := by
 have h := Rat.num_nonneg (q := -a)
 rw [Rat.neg_num] at h
 constructor
 · intro k; have := h.1 (by omega); grind
 · intro k; have := h.2 (by grind); omega
theorem Cq {a : Rat} : 0 < a.num ↔ 0 < a := by
 have h := B9 (a := a)
 constructor
 · intro k; apply Classical.byContradiction; intro hc; have := h.2 (by grind); omega
 · intro k; apply Classical.byContradiction; intro hc; have := h.1 (by omega); grind
theorem El {a : Rat} : sgn a.num >= 0 ↔ 0 <= a := by
 have := c7 a.num
 rw [<- Rat.num_nonneg]; omega
theorem Ah {a : Rat} : sgn a.num <= 0 ↔ a <= 0 := by
 have := c7 a.num
 rw [<- B9]; omega
theorem FM {a : Rat} : sgn a.num > 0 ↔ 0 < a := by
 have := c7 a.num
 rw [<- Cq]; omega
theorem rQ {n : Nat} {x : aj} {a : Rat} {k : Nat} (hn : 20000 <= n) (hk : k <= 250) (hx : Qx x a k) : bE n x = some (sgn a.num) := by
 apply Ok.eq
 unfold bE
 refine Ok.bd (jN hn hk hx) fun v hv => ?_
 have n1 := hv.nl
 exact Ok.bde (qw (by omega) (by omega) hv.num) (aC.2 rfl)
end Go.L


set_option linter.all false
namespace Go.L
open Go Go.Eng
theorem xa {n : Nat} {z : Int} : c6 n z = some (ug z) := B7
theorem BJ {n : Nat} (hn : 4096 < n) (g : al) : fe n g = some (mJ g) := by
 apply Ok.eq
 unfold fe
 refine Ok.cd (fun h => aC.2 (lX fun d => ?_).symm) (fun h1 => Ok.cd (fun h => aC.2 (lX fun d => ?_).symm) (fun h2 => Ok.cd (fun h => aC.2 (lX fun d => ?_).symm) (fun h3 => Ok.cd (fun h => aC.2 (lX fun d => ?_).symm) (fun h4 => Ok.cd (fun h => aC.2 (lX fun d => ?_).symm) (fun h5 => Ok.cd (fun h => aC.2 (lX fun d => ?_).symm) (fun h6 => Ok.cd (fun h => aC.2 (lX fun d => ?_).symm) (fun h7 => Ok.bde xa (Ok.cd (fun h => aC.2 (lX fun d => ?_).symm) (fun h8 => Ok.bde xa (Ok.cd (fun h => aC.2 (lX fun d => ?_).symm) (fun h9 => ?_)))))))))))
 · have := d.w; have := dcT h; omega
 · have := d.w; have := dcT h; omega
 · have := d.h; have := dcT h; omega
 · have := d.h; have := dcT h; omega
 · have := d.s; have := dcT h; omega
 · have := d.s; have := dcT h; omega
 · have := d.e; simp [this] at h
 · rw [d.x] at h; cases h
 · rw [d.y] at h; cases h
 have h1 := dcF h1
 have h2 := dcF h2
 have h3 := dcF h3
 have h4 := dcF h4
 have h5 := dcF h5
 have h6 := dcF h6
 have d : Dim g := ⟨by omega, by omega, by omega, by simpa using h7, h8, h9⟩
 have ha := CW d.w d.h
 rw [wrap64_in (n := g.Width * g.Height) (by omega) (by omega)]
 unfold mJ
 rw [if_pos d]
 refine Ok.cd (fun h => aC.2 ?_) (fun h => ?_)
 · rw [if_neg]; simpa using h
 · have h : (g.Z.length : Int) = g.Width * g.Height := by simpa using h
   rw [if_pos h]
   refine Ok.bde (Bj (p := n8) (c := (2 : Int)) (s := g.Z) (by omega) (by omega) ?_ ?_) ?_
   · intro again k hk
     have d1 : decide ((k : Int) < (g.Z.length : Int)) = true := by simpa using hk
     have d2 : decide (k < g.Z.length) = true := by simpa using hk
     rw [d1, b9, d2, pe, xa]
     unfold n8
     cases (g.Z.getD k default != -2147483648) <;> cases ug (g.Z.getD k default) <;> rfl
   · intro again
     have d1 : decide ((g.Z.length : Int) < (g.Z.length : Int)) = false := by simp
     rw [d1]; rfl
   · cases hz : g.Z.any n8 with
     | true => exact aC.2 rfl
     | false => exact aC.2 rfl
theorem Bp {γ σ : Type} {n : Nat} {g : al} {w h : Nat} (hn : 200 < n) (hg : Gd g w h) (mk : γ -> Int -> σ) (visit : A3 Int -> γ -> Option γ)
  {f1 : (σ -> Option γ) -> σ -> Option γ} {f2 : Int -> (σ -> Option γ) -> σ -> Option γ} {f3 : List (A3 Int) -> (σ -> Option γ) -> σ -> Option γ}
  (h1 : ∀ again c x, f1 again (mk c x) = cdO (decide (x < G1 (g.Height - 1))) (bdO (aN n (f2 x) (mk c 0)) fun o => again (mk o (G1 (x + 1)))) (some c))
  (h2 : ∀ J again c x, f2 J again (mk c x) = cdO (decide (x < G1 (g.Width - 1))) (bdO (some (G1 ((G1 (J * g.Width)) + x))) fun k => bdO (some [A3.mk k (G1 (k + 1)) (G1 ((G1 (k + g.Width)) + 1)), A3.mk k (G1 ((G1 (k + g.Width)) + 1)) (G1 (k + g.Width))]) fun L => bdO (aN n (f3 L) (mk c 0)) fun o => again (mk o (G1 (x + 1)))) (some c))
  (h3 : ∀ L again c x, f3 L again (mk c x) = cdO (decide (x < 2)) (gdO (inR x L.length) (gdO (inR (gt L x).e0 g.Z.length) (cdO ((gt g.Z (gt L x).e0 : Int) != (-2147483648)) (gdO (inR (gt L x).e1 g.Z.length) (cdO ((gt g.Z (gt L x).e1 : Int) != (-2147483648)) (gdO (inR (gt L x).e2 g.Z.length) (cdO ((gt g.Z (gt L x).e2 : Int) != (-2147483648)) (
    bdO (visit (gt L x) c) fun v => again (mk v (G1 (x + 1)))) (again (mk c (G1 (x + 1)))))) (again (mk c (G1 (x + 1)))))) (again (mk c (G1 (x + 1))))))) (some c))
  (P : List (A3 Int) -> γ -> Prop) {c0 : γ} (h0 : P [] c0) (hv : ∀ pre t c, t ∈ kj g w h -> pre.length < 2 * ((w - 1) * (h - 1)) -> P pre c -> Ok (visit t c) (P (pre ++ [t]))) : Ok (aN n f1 (mk c0 0)) (P (kj g w h)) := by
 have hw := hg.w1; have hh := hg.h1
 have hH := hg.H; have hW := hg.W
 have e1 : G1 (g.Height - 1) = ((h - 1 : Nat) : Int) := by rw [hH, wrap64_in (by omega) (by omega)]; omega
 have e2 : G1 (g.Width - 1) = ((w - 1 : Nat) : Int) := by rw [hW, wrap64_in (by omega) (by omega)]; omega
 have mem : ∀ j i k, j < h - 1 -> i < w - 1 -> k < 2 -> (gg g.Width j i).getD k default ∈ kz g.Width (w - 1) (h - 1) := by
  intro j i k hj hi hk
  unfold kz y9
  refine List.mem_flatMap.2 ⟨j, List.mem_range.2 hj, List.mem_flatMap.2 ⟨i, List.mem_range.2 hi, ?_⟩⟩
  have hk2 : k < (gg g.Width j i).length := hk
  simp only [List.getD, geT hk2, Option.getD_some]; exact List.getElem_mem hk2
 refine jQ (len := h - 1) mk (fun j c => P ((kz g.Width (w - 1) j).filter (nt g.Z)) c) (by omega) (by omega) h0 ?_ ?_
 · rintro again j c hj hP ih
   rw [h1 again c j, e1]
   refine Ok.cd (fun _ => ?_) (fun h => by have := dcF h; omega)
   refine Ok.bd (R := P ((kz g.Width (w - 1) (j + 1)).filter (nt g.Z))) ?_ (fun o ho => ih _ ho)
   refine jQ (len := w - 1) mk (fun i c => P ((kz g.Width (w - 1) j ++ (List.range i).flatMap (gg g.Width j)).filter (nt g.Z)) c) (by omega) (by omega) (by simpa using hP) ?_ ?_
   · rintro again2 i c hi hP2 ih2
     rw [h2 j again2 c i, e2]
     refine Ok.cd (fun _ => ?_) (fun h => by have := dcF h; omega)
     have hcell : ∀ k, k < 2 -> inR ((gg g.Width j i).getD k default).e0 g.Z.length = true /\ inR ((gg g.Width j i).getD k default).e1 g.Z.length = true /\ inR ((gg g.Width j i).getD k default).e2 g.Z.length = true := fun k hk => by rw [hW]; exact Ad hg.m hw.2 hh.2 hj hi k hk
     have hL : (gg g.Width j i).length = 2 := rfl
     have hmem : ∀ k, k < 2 -> (gg g.Width j i).getD k default ∈ kz g.Width (w - 1) (h - 1) := fun k hk => mem j i k hj hi hk
     show Ok (bdO (aN n (f3 (gg g.Width j i)) (mk c 0)) fun o => again2 (mk o (G1 ((i : Int) + 1)))) _
     refine Ok.bd (R := P ((kz g.Width (w - 1) j ++ (List.range (i + 1)).flatMap (gg g.Width j)).filter (nt g.Z))) ?_ (fun o ho => ih2 _ ho)
     rw [xQ, <- List.append_assoc, List.filter_append]
     have hjb : (w - 1) * (j + 1) <= (w - 1) * (h - 1) := Nat.mul_le_mul_left _ (by omega)
     rw [Nat.mul_add, Nat.mul_one] at hjb
     have hpl : ((kz g.Width (w - 1) j ++ (List.range i).flatMap (gg g.Width j)).filter (nt g.Z)).length + 2 <= 2 * ((w - 1) * (h - 1)) := by
      have := List.length_filter_le (nt g.Z) (kz g.Width (w - 1) j ++ (List.range i).flatMap (gg g.Width j))
      rw [List.length_append, xr, xI, Nat.mul_assoc] at this
      omega
     generalize (kz g.Width (w - 1) j ++ (List.range i).flatMap (gg g.Width j)).filter (nt g.Z) = pre at hP2 hpl
     generalize gg g.Width j i = L at hcell hL hmem
     refine jQ (len := 2) mk (fun k c => P (pre ++ (L.take k).filter (nt g.Z)) c) (by omega) (by omega) (by simpa using hP2) ?_ ?_
     · rintro again3 k c hk hP3 ih3
       obtain ⟨r0, r1, r2⟩ := hcell k hk
       have hm := hmem k hk
       have hft := xX (L := L) (p := nt g.Z) (k := k) (by omega)
       rw [<- pe] at r0 r1 r2 hft hm
       have no : nt g.Z (gt L (k : Int)) = false -> Ok (again3 (mk c (G1 ((k : Int) + 1)))) (P (pre ++ L.filter (nt g.Z))) := fun h => ih3 _ (by rw [hft, h]; simpa using hP3)
       rw [h3]
       refine Ok.cd (fun _ => ?_) (fun h => by have := dcF h; omega)
       refine Ok.gd (by rw [b9]; exact decide_eq_true (by omega)) (Ok.gd r0 ?_)
       refine Ok.cd (fun h0 => ?_) (fun h => no (by unfold nt; rw [h]; rfl))
       refine Ok.gd r1 (Ok.cd (fun h1 => ?_) (fun h => no (by unfold nt; rw [h0, h]; rfl)))
       refine Ok.gd r2 (Ok.cd (fun h2 => ?_) (fun h => no (by unfold nt; rw [h0, h1, h]; rfl)))
       have hz : nt g.Z (gt L (k : Int)) = true := by unfold nt; rw [h0, h1, h2]; rfl
       refine Ok.bd (hv _ _ _ (List.mem_filter.2 ⟨hm, hz⟩) (by rw [List.length_append]; have := List.length_filter_le (nt g.Z) (L.take k); rw [List.length_take] at this; omega) hP3) fun v hP4 => ih3 v ?_
       rw [hft, if_pos hz, <- List.append_assoc]; exact hP4
     · rintro again3 c hP3
       rw [h3]
       refine Ok.cd (fun h => by simp at h) (fun _ => aC.2 ?_)
       rw [List.take_of_length_le (by omega)] at hP3; exact hP3
   · rintro again2 c hP2
     rw [h2 j again2 c, e2]
     refine Ok.cd (fun h => by have := dcT h; omega) (fun _ => aC.2 ?_)
     rw [yx]; exact hP2
 · rintro again c hP
   rw [h1 again c, e1]
   exact Ok.cd (fun h => by have := dcT h; omega) (fun _ => aC.2 hP)
theorem xN {γ σ : Type} {n : Nat} {g : al} {w h : Nat} (hn : 200 < n) (hg : Gd g w h) (mk : γ -> Int -> σ) (visit : A3 Int -> γ -> Option γ)
  {f1 : (σ -> Option γ) -> σ -> Option γ} {f2 : Int -> (σ -> Option γ) -> σ -> Option γ} {f3 : List (A3 Int) -> (σ -> Option γ) -> σ -> Option γ}
  (h1 : ∀ again c x, f1 again (mk c x) = cdO (decide (x < G1 (g.Height - 1))) (bdO (aN n (f2 x) (mk c 0)) fun o => again (mk o (G1 (x + 1)))) (some c))
  (h2 : ∀ J again c x, f2 J again (mk c x) = cdO (decide (x < G1 (g.Width - 1))) (bdO (some (G1 ((G1 (J * g.Width)) + x))) fun k => bdO (some [A3.mk k (G1 (k + 1)) (G1 ((G1 (k + g.Width)) + 1)), A3.mk k (G1 ((G1 (k + g.Width)) + 1)) (G1 (k + g.Width))]) fun L => bdO (aN n (f3 L) (mk c 0)) fun o => again (mk o (G1 (x + 1)))) (some c))
  (h3 : ∀ L again c x, f3 L again (mk c x) = cdO (decide (x < 2)) (gdO (inR x L.length) (gdO (inR (gt L x).e0 g.Z.length) (cdO ((gt g.Z (gt L x).e0 : Int) != (-2147483648)) (gdO (inR (gt L x).e1 g.Z.length) (cdO ((gt g.Z (gt L x).e1 : Int) != (-2147483648)) (gdO (inR (gt L x).e2 g.Z.length) (cdO ((gt g.Z (gt L x).e2 : Int) != (-2147483648)) (
    bdO (visit (gt L x) c) fun v => again (mk v (G1 (x + 1)))) (again (mk c (G1 (x + 1)))))) (again (mk c (G1 (x + 1)))))) (again (mk c (G1 (x + 1))))))) (some c))
  (P : List (A3 Int) -> γ -> Prop) {c0 : γ} (h0 : P [] c0) (hv : ∀ pre t c, t ∈ kj g w h -> pre.length <= 8000 -> P pre c -> Ok (visit t c) (P (pre ++ [t]))) : Ok (aN n f1 (mk c0 0)) (P (kj g w h)) :=
 Bp hn hg mk visit h1 h2 h3 P h0 fun pre t c ht hl hP => hv pre t c ht (by
  have := Nat.mul_le_mul (show w - 1 <= 63 by have := hg.w1; omega) (show h - 1 <= 63 by have := hg.h1; omega)
  omega) hP
end Go.L


set_option linter.all false
namespace Go.L
open Go Go.Eng
def BU {α : Type} (x : α) : List α -> List (List α)
 | [] => [[x]]
 | y :: l => (x :: y :: l) :: (BU x l).map (y :: ·)
def perms {α : Type} : List α -> List (List α)
 | [] => [[]]
 | x :: l => (perms l).flatMap (BU x)
theorem x4 {α : Type} {x : α} {b : List α} : ∀ a : List α, a ++ x :: b ∈ BU x (a ++ b)
 | [] => by cases b <;> simp [BU]
 | y :: a => by
  rw [List.cons_append, List.cons_append, BU]
  exact List.mem_cons_of_mem _ (List.mem_map.2 ⟨_, x4 a, rfl⟩)
theorem wR {α : Type} : ∀ (l p : List α), p.Perm l -> p ∈ perms l
 | [], p, h => by rw [List.perm_nil.1 h]; simp [perms]
 | x :: l, p, h => by
  obtain ⟨a, b, rfl⟩ := List.append_of_mem (h.mem_iff.2 (by simp : x ∈ x :: l))
  have h2 : (a ++ b).Perm l := (List.perm_cons x).1 ((List.perm_middle.symm).trans h)
  exact List.mem_flatMap.2 ⟨_, wR l _ h2, x4 a⟩
def pX (n : Nat) (g : al) (level : Int) (v1 : List (A2 Int × A2 Int) × List (A2 Int × Bool)) (sl : Int) (v21 : List (A2 Int)) : Option (List ah) :=
  bdO (aN (α := List (A2 Int × Bool) × List ah × Int) (β := List (A2 Int × Bool) × List ah) n (fun again56 (done_45, out_46, x_47) => (
   cdO (decide (x_47 < sl)) (
    gdO (inR x_47 v21.length) (
    cdO (!(getM false v1.2 (gt v21 x_47))) (
     bdO (c5 n (gt v21 x_47) false done_45 g.X0 g.Y0 g.Step g.Width g.Height g.Z level v1.1 out_46) fun v61 => (
     again56 (v61.1, v61.2, G1 (x_47 + 1))
     )
    ) (
     again56 (done_45, out_46, G1 (x_47 + 1))
    )
    )
   ) (
    some ((done_45, out_46))
   )
  )) (([] : List (A2 Int × Bool)), [], 0)) fun o63 => (
   match o63 with
   | (done_54, out_55) => (
    bdO (aN (α := List (A2 Int × Bool) × List ah × Int) (β := List ah) n (fun again76 (done_66, out_67, x_68) => (
     cdO (decide (x_68 < (v21.length : Int))) (
      gdO (inR x_68 v21.length) (
      cdO (!(getM false done_66 (gt v21 x_68))) (
       bdO (c5 n (gt v21 x_68) true done_66 g.X0 g.Y0 g.Step g.Width g.Height g.Z level v1.1 out_67) fun v81 => (
       again76 (v81.1, v81.2, G1 (x_68 + 1))
       )
      ) (
       again76 (done_66, out_67, G1 (x_68 + 1))
      )
      )
     ) (
      some (out_67)
     )
    )) (done_54, out_55, 0)) fun out_75 => (
     bdO (aF n out_75) fun v86 => (
     gdO (decide (v86.length = out_75.length)) (
     some (v86)
     )
     )
    )
   ))
def wK (starts_16 : List (A2 Int)) (e12 : A2 Int × A2 Int) : Option (List (A2 Int)) :=
 gdO (decide ((starts_16.length + 1) * 16 <= 140737488355328)) (
 gdO (decide (starts_16.length + 1 <= 4611686018427387904)) (
 some (starts_16 ++ [e12.1])
 )
 )
theorem Ed (n : Nat) (g : al) (level : Int) : fp n g level = bdO (aS n g g.X0 g.Y0 g.Step g.Width g.Height g.Z level ([] : List (A2 Int × A2 Int)) ([] : List (A2 Int × Bool))) fun v1 =>
  yw v1.1 wK [] fun starts => bdO (au n starts) fun v21 => gdO (decide (v21.length = starts.length)) (pX n g level v1 (starts.length : Int) v21) := rfl
theorem vz : ∀ (l : List (A2 Int × A2 Int)) (a : List (A2 Int)), a.length + l.length <= 100000 -> mH wK a l = some (a ++ l.map (·.1))
 | [], a, _ => by simp [mH]
 | e :: l, a, h => by
  rw [List.length_cons] at h
  have e1 : wK a e = some (a ++ [e.1]) := by
   unfold wK
   rw [decide_eq_true (show (a.length + 1) * 16 <= 140737488355328 by omega), decide_eq_true (show a.length + 1 <= 4611686018427387904 by omega)]; rfl
  rw [mH, e1]
  show mH wK (a ++ [e.1]) l = _
  rw [vz l _ (by rw [List.length_append, List.length_cons, List.length_nil]; omega), List.append_assoc]
  rfl
theorem yp {n : Nat} {g : al} {level : Int} {v1 : List (A2 Int × A2 Int) × List (A2 Int × Bool)} {S : List (A2 Int)} {r : List ah}
  (h1 : aS n g g.X0 g.Y0 g.Step g.Width g.Height g.Z level ([] : List (A2 Int × A2 Int)) ([] : List (A2 Int × Bool)) = some v1) (hl : v1.1.length <= 100000)
  (h2 : ∀ p : List (A2 Int), p.Perm (v1.1.map (·.1)) -> au n p = some S) (h3 : S.length = v1.1.length) (h4 : pX n g level v1 (v1.1.length : Int) S = some r) : fp n g level = some r := by
 rw [Ed, h1]
 show yw v1.1 wK [] _ = _
 refine DP fun p hp => ?_
 have hpl := hp.length_eq
 rw [vz p [] (by simp; omega), List.nil_append]
 show bdO (au n (p.map (·.1))) _ = _
 rw [h2 _ (hp.map _)]
 show gdO (decide (S.length = (p.map (·.1)).length)) (pX n g level v1 ((p.map (·.1)).length : Int) S) = _
 rw [List.length_map, hpl, h3, decide_eq_true rfl, h4]; rfl
def exG : al := al.mk 0 0 2 3 3 [(0 : Int), (0 : Int), (0 : Int), (0 : Int), (4 : Int), (0 : Int), (0 : Int), (0 : Int), (0 : Int)]
def exV : List (A2 Int × A2 Int) × List (A2 Int × Bool) := (aS 20000 exG 0 0 2 3 3 exG.Z 1 ([] : List (A2 Int × A2 Int)) ([] : List (A2 Int × Bool))).getD default
def exK : List (A2 Int) := [⟨0, 4⟩, ⟨1, 4⟩, ⟨3, 4⟩, ⟨4, 5⟩, ⟨4, 7⟩, ⟨4, 8⟩]
def exL : List ah := (pX 20000 exG 1 exV 6 exK).getD []
theorem F3 : aS 20000 exG exG.X0 exG.Y0 exG.Step exG.Width exG.Height exG.Z 1 ([] : List (A2 Int × A2 Int)) ([] : List (A2 Int × Bool)) = some exV := by kernel_rfl
theorem Gc : ((perms (exV.1.map (·.1))).all fun p => au 20000 p == some exK) = true := by kernel_rfl
theorem Fx : pX 20000 exG 1 exV (exV.1.length : Int) exK = some exL := by kernel_rfl
theorem yh : fp 20000 exG 1 = some exL :=
 yp F3 (lbT (by kernel_rfl)) (fun p hp => eq_of_beq (List.all_eq_true.1 Gc p (wR _ _ hp))) (by kernel_rfl) Fx
theorem BL : fq 20000 exG 1 = some (exL, 0) := by
 unfold fq
 rw [yh]
 kernel_rfl
theorem BT : jr 20000 exG 1 exL = some 0 := by
 unfold jr
 rw [yh]
 kernel_rfl
theorem Dw {α β : Type} {a : α} {f : α -> Option β} : bdO (some a) f = f a := rfl
theorem Bq : fg 20000 = some true := by
 unfold fg
 have e1 : cz 20000 = some exG := rfl
 simp only [e1, Dw, BL, BT]
 refine Eq.symm ?_
 kernel_rfl
end Go.L


set_option linter.all false
namespace Go.L
open Go Go.Eng
end Go.L


set_option linter.all false
namespace Go.L
open Go Go.Eng
def ue (t : A3 Int) (a : Int) : Bool := [t.e0, t.e1, t.e2].any fun z => a == z
def pr (T : List (A3 Int)) (a b : Int) : Bool := decide (a < b) && T.any fun t => ue t a && ue t b
theorem rV {t : A3 Int} {a : Int} : ue t a = true ↔ a = t.e0 \/ a = t.e1 \/ a = t.e2 := by unfold ue; simp
theorem Ak {g : al} {w h : Nat} (hg : Gd g w h) {a b : Int} (e : pr (kj g w h) a b = true) : 0 <= a /\ a < b /\ b < g.Z.length := by
 unfold pr at e
 rw [Bool.and_eq_true, List.any_eq_true] at e
 obtain ⟨h1, t, ht, h2⟩ := e
 have h1 := dcT h1
 rw [Bool.and_eq_true, rV, rV] at h2
 obtain ⟨i0, i1, i2⟩ := zZ hg (List.mem_filter.1 ht).1
 have i0 := j5.1 i0; have i1 := j5.1 i1; have i2 := j5.1 i2
 omega
theorem EZ {n : Nat} (hn : 10 < n) (t : A3 Int) (p : Bool) (a b : Int) : eF n t p a b = some (p || (ue t a && ue t b)) := by
 unfold eF
 have e : ∀ v, bz n [t.e0, t.e1, t.e2] v = some (ue t v) := fun v => F1 (by simp; omega) (by simp)
 rw [e, e]
 cases p <;> cases ue t a <;> rfl
theorem C0 {n : Nat} (hn : 200 < n) {g : al} {w h : Nat} (hg : Gd g w h) (a b : Int) : iZ n g a b = some (pr (kj g w h) a b) := by
 apply Ok.eq
 have no : ¬ (0 <= a /\ a < b /\ b < g.Z.length) -> false = pr (kj g w h) a b := fun hh => by
  cases e : pr (kj g w h) a b with
  | false => rfl
  | true => exact absurd (Ak hg e) hh
 unfold iZ
 refine Ok.cd (fun h1 => aC.2 (no fun q => by have := dcT h1; omega)) (fun h1 => Ok.cd (fun h2 => aC.2 (no fun q => by have := dcT h2; omega)) (fun h2 => Ok.cd (fun h3 => aC.2 (no fun q => by have := dcT h3; omega)) (fun h3 => ?_)))
 have h2 := dcF h2
 refine Ok.bd (R := fun o => o = pr (kj g w h) a b) ?_ (fun o ho => aC.2 ho)
 unfold b6
 refine Ok.bd (R := fun o => o = pr (kj g w h) a b) ?_ (fun o ho => aC.2 ho)
 have e : pr (kj g w h) a b = (kj g w h).any fun t => ue t a && ue t b := by unfold pr; rw [decide_eq_true (by omega), Bool.true_and]
 rw [e]
 refine xN (γ := Bool) hn hg (fun c x => (c, x)) (fun t c => eF n t c a b) (fun _ _ _ => rfl) (fun _ _ _ _ => rfl) (fun _ _ _ _ => rfl) (fun pre c => c = pre.any fun t => ue t a && ue t b) rfl ?_
 rintro pre t c ht hl rfl
 rw [EZ (by omega)]
 refine aC.2 ?_
 rw [List.any_append]; simp
end Go.L


set_option linter.all false
namespace Go.L
open Go Go.Eng
theorem DT {n : Nat} {x y : aj} {a b : Rat} {j k : Nat} (hn : 20000 <= n) (hj : j <= 30) (hk : k <= 30) (hx : Qx x a j) (hy : Qx y b k) : Ok (ez n x y) fun s => s > 0 ↔ b < a := by
 unfold ez
 refine Ok.bd (jN hn (by omega) hx) fun v hv => Ok.bd (jN hn (by omega) hy) fun w hw => ?_
 have n1 := hv.nl; have n2 := hw.nl; have d1 := hv.dl; have d2 := hw.dl
 refine Ok.bd (rr (by omega) hv.num hw.den (by omega) (by omega)) fun p hp => Ok.bd (rr (by omega) hw.num hv.den (by omega) (by omega)) fun q hq => ?_
 have lp := iW hv.num hw.den hp n1 d2
 have lq := iW hw.num hv.den hq n2 d1
 refine Ok.bde (vg (by omega) hp hq (by omega) (by omega)) (aC.2 ?_)
 have := c7 (a.num * (b.den : Int) - b.num * (a.den : Int))
 rw [Rat.lt_iff]; omega
def pxG (g : al) (k : Int) : Int := g.X0 + k.tmod g.Width * g.Step
def pyG (g : al) (k : Int) : Int := g.Y0 + k.tdiv g.Width * g.Step
theorem Ev {a b : Nat} : ((a : Int)).tdiv (b : Int) = ((a / b : Nat) : Int) := rfl
theorem yS {a b : Nat} : ((a : Int)).tmod (b : Int) = ((a % b : Nat) : Int) := by rw [Int.tmod_eq_emod_of_nonneg (by omega)]; rfl
theorem sP {z : Int} : ug z = false ↔ -1048576 <= z /\ z <= 1048576 := by
 unfold ug; simp
theorem Ek {g : al} {w h : Nat} (hg : Gd g w h) {k : Int} (h0 : 0 <= k) (h1 : k < g.Z.length) :
  (G1 (g.X0 + (G1 ((k.tmod g.Width) * g.Step))) = pxG g k /\ -8000000 <= pxG g k /\ pxG g k <= 8000000) /\ (G1 (g.Y0 + (G1 ((G1 (k.tdiv g.Width)) * g.Step))) = pyG g k /\ -8000000 <= pyG g k /\ pyG g k <= 8000000) := by
 obtain ⟨m, rfl⟩ : ∃ m : Nat, k = (m : Int) := ⟨k.toNat, by omega⟩
 have hw := hg.w1; have hh := hg.h1; have hs := hg.dim.s
 have fx := (sP.1 hg.dim.x); have fy := (sP.1 hg.dim.y)
 have hm : m < w * h := by rw [<- hg.m]; omega
 unfold pxG pyG
 rw [hg.W, yS, Ev]
 have a1 : m % w < w := Nat.mod_lt _ (by omega)
 have a2 : m / w < h := Nat.div_lt_of_lt_mul hm
 generalize m % w = p at a1 ⊢
 generalize m / w = q at a2 ⊢
 have b1 := qk (a := (p : Int)) (b := g.Step) (A := 63) (B := 65536) (by omega) (by omega) (by omega) (by omega)
 have b2 := qk (a := (q : Int)) (b := g.Step) (A := 63) (B := 65536) (by omega) (by omega) (by omega) (by omega)
 rw [wrap64_in (n := (p : Int) * g.Step) (by omega) (by omega), wrap64_in (n := (q : Int)) (by omega) (by omega), wrap64_in (n := (q : Int) * g.Step) (by omega) (by omega), wrap64_in (n := g.X0 + _) (by omega) (by omega), wrap64_in (n := g.Y0 + _) (by omega) (by omega)]
 omega
def oP (r : Rat) (a b : Int) : Rat := Rat.divInt a 1 + r * Rat.divInt (b - a) 1
theorem A4 {c : ak} {r : Rat} (hr : Qx c.At r 16) {a b : Int} (ha : -8000000 <= a /\ a <= 8000000) (hb : -8000000 <= b /\ b <= 8000000) (p p' : Int) :
  Ok (cR 20000 a b p p' c.At.Num.Negative c.At.Num.Groups c.At.Den.Negative c.At.Den.Groups) fun z => Qx z (oP r a b) 27 := by
 unfold cR
 refine Ok.bd (n0 (by omega) (by omega) (by omega)) fun u hu => ?_
 rw [wrap64_in (by omega) (by omega)]
 refine Ok.bd (n0 (by omega) (by omega) (by omega)) fun v hv => ?_
 have hr2 : Qx (aj.mk (ae.mk c.At.Num.Negative c.At.Num.Groups) (ae.mk c.At.Den.Negative c.At.Den.Groups)) r 16 := hr
 refine Ok.bd (sM (by omega) (by omega) hr2 hv) fun m hm => ?_
 refine Ok.bd (xL (by omega) (by omega) hu hm) fun z hz => aC.2 (hz.mono (by omega))
end Go.L

