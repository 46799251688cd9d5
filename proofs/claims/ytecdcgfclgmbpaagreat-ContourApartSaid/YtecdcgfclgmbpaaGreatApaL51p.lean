import Derived.Test.YtecdcgfclgmbpaaGreatApaL01q
import Derived.Test.YtecdcgfclgmbpaaGreatApaLD
import Derived.Test.YtecdcgfclgmbpaaGreatPl6Apas
import Derived.KernelRfl
import Derived.Test.YtecdcgfclgmbpaaGreatApaL52tB
import Derived.Test.YtecdcgfclgmbpaaGreatApaL52tB
import Derived.Test.YtecdcgfclgmbpaaGreatApaL52tB
set_option linter.all false
namespace Go.L
open Go Go.Eng
theorem yz {n : Nat} {z : Int} : dC n z = some (wE z) := Ed
theorem Cx {n : Nat} (J : 4096 < n) (g : al) : fo n g = some (mK g) := by
 apply Ok.eq
 unfold fo
 refine Ok.cd (fun h => az.2 (mh fun d => ?_).symm) (fun h1 => Ok.cd (fun h => az.2 (mh fun d => ?_).symm) (fun h2 => Ok.cd (fun h => az.2 (mh fun d => ?_).symm) (fun j => Ok.cd (fun h => az.2 (mh fun d => ?_).symm) (fun m => Ok.cd (fun h => az.2 (mh fun d => ?_).symm) (fun q => Ok.cd (fun h => az.2 (mh fun d => ?_).symm) (fun z => Ok.cd (fun h => az.2 (mh fun d => ?_).symm) (fun D => Ok.bde yz (Ok.cd (fun h => az.2 (mh fun d => ?_).symm) (fun E => Ok.bde yz (Ok.cd (fun h => az.2 (mh fun d => ?_).symm) (fun I => ?_)))))))))))
 · have := d.w; have := dcT h; omega
 · have := d.w; have := dcT h; omega
 · have := d.h; have := dcT h; omega
 · have := d.h; have := dcT h; omega
 · have := d.s; have := dcT h; omega
 · have := d.s; have := dcT h; omega
 · have := d.e; simp [this] at h
 · rw [d.x] at h; cases h
 · rw [d.y] at h; cases h
 have h1 := dcF h1
 have h2 := dcF h2
 have j := dcF j
 have m := dcF m
 have q := dcF q
 have z := dcF z
 have d : Dim g := ⟨by omega, by omega, by omega, by simpa using D, E, I⟩
 have ha := DQ d.w d.h
 rw [wrap64_in (n := g.Width * g.Height) (by omega) (by omega)]
 unfold mK
 rw [if_pos d]
 refine Ok.cd (fun h => az.2 ?_) (fun h => ?_)
 · rw [if_neg]; simpa using h
 · have h : (g.Z.length : Int) = g.Width * g.Height := by simpa using h
   rw [if_pos h]
   refine Ok.bde (CO (p := p4) (c := (2 : Int)) (s := g.Z) (by omega) (by omega) ?_ ?_) ?_
   · intro again k C
     have d1 : decide ((k : Int) < (g.Z.length : Int)) = true := by simpa using C
     have d2 : decide (k < g.Z.length) = true := by simpa using C
     rw [d1, bg, d2, oP, yz]
     unfold p4
     cases (g.Z.getD k default != -2147483648) <;> cases wE (g.Z.getD k default) <;> rfl
   · intro again
     have d1 : decide ((g.Z.length : Int) < (g.Z.length : Int)) = false := by simp
     rw [d1]; rfl
   · cases M : g.Z.any p4 with
     | true => exact az.2 rfl
     | false => exact az.2 rfl
theorem Cy {γ σ : Type} {n : Nat} {g : al} {w h : Nat} (hn : 200 < n) (O : Gd g w h) (mk : γ -> Int -> σ) (visit : A3 Int -> γ -> Option γ)
  {f1 : (σ -> Option γ) -> σ -> Option γ} {f2 : Int -> (σ -> Option γ) -> σ -> Option γ} {f3 : List (A3 Int) -> (σ -> Option γ) -> σ -> Option γ}
  (h1 : ∀ again c x, f1 again (mk c x) = cdO (decide (x < IE (g.Height - 1))) (bdO (aP n (f2 x) (mk c 0)) fun o => again (mk o (IE (x + 1)))) (some c))
  (h2 : ∀ J again c x, f2 J again (mk c x) = cdO (decide (x < IE (g.Width - 1))) (bdO (some (IE ((IE (J * g.Width)) + x))) fun k => bdO (some [A3.mk k (IE (k + 1)) (IE ((IE (k + g.Width)) + 1)), A3.mk k (IE ((IE (k + g.Width)) + 1)) (IE (k + g.Width))]) fun L => bdO (aP n (f3 L) (mk c 0)) fun o => again (mk o (IE (x + 1)))) (some c))
  (h3 : ∀ L again c x, f3 L again (mk c x) = cdO (decide (x < 2)) (gdO (inR x L.length) (gdO (inR (gt L x).e0 g.Z.length) (cdO ((gt g.Z (gt L x).e0 : Int) != (-2147483648)) (gdO (inR (gt L x).e1 g.Z.length) (cdO ((gt g.Z (gt L x).e1 : Int) != (-2147483648)) (gdO (inR (gt L x).e2 g.Z.length) (cdO ((gt g.Z (gt L x).e2 : Int) != (-2147483648)) (
    bdO (visit (gt L x) c) fun v => again (mk v (IE (x + 1)))) (again (mk c (IE (x + 1)))))) (again (mk c (IE (x + 1)))))) (again (mk c (IE (x + 1))))))) (some c))
  (P : List (A3 Int) -> γ -> Prop) {c0 : γ} (T : P [] c0) (hv : ∀ pre t c, t ∈ lD g w h -> pre.length < 2 * ((w - 1) * (h - 1)) -> P pre c -> Ok (visit t c) (P (pre ++ [t]))) : Ok (aP n f1 (mk c0 0)) (P (lD g w h)) := by
 have hw := O.w1; have hh := O.h1
 have hH := O.H; have hW := O.W
 have e1 : IE (g.Height - 1) = ((h - 1 : Nat) : Int) := by rw [hH, wrap64_in (by omega) (by omega)]; omega
 have e2 : IE (g.Width - 1) = ((w - 1 : Nat) : Int) := by rw [hW, wrap64_in (by omega) (by omega)]; omega
 have mem : ∀ j i k, j < h - 1 -> i < w - 1 -> k < 2 -> (gL g.Width j i).getD k default ∈ lK g.Width (w - 1) (h - 1) := by
  intro j i k hj hi I
  unfold lK A6
  refine List.mem_flatMap.2 ⟨j, List.mem_range.2 hj, List.mem_flatMap.2 ⟨i, List.mem_range.2 hi, ?_⟩⟩
  have U : k < (gL g.Width j i).length := I
  simp only [List.getD, geT U, Option.getD_some]; exact List.getElem_mem U
 refine iG (len := h - 1) mk (fun j c => P ((lK g.Width (w - 1) j).filter (np g.Z)) c) (by omega) (by omega) T ?_ ?_
 · rintro again j c hj hP ih
   rw [h1 again c j, e1]
   refine Ok.cd (fun _ => ?_) (fun h => by have := dcF h; omega)
   refine Ok.bd (R := P ((lK g.Width (w - 1) (j + 1)).filter (np g.Z))) ?_ (fun o ho => ih _ ho)
   refine iG (len := w - 1) mk (fun i c => P ((lK g.Width (w - 1) j ++ (List.range i).flatMap (gL g.Width j)).filter (np g.Z)) c) (by omega) (by omega) (by simpa using hP) ?_ ?_
   · rintro q i c hi E a0
     rw [h2 j q c i, e2]
     refine Ok.cd (fun _ => ?_) (fun h => by have := dcF h; omega)
     have C : ∀ k, k < 2 -> inR ((gL g.Width j i).getD k default).e0 g.Z.length = true /\ inR ((gL g.Width j i).getD k default).e1 g.Z.length = true /\ inR ((gL g.Width j i).getD k default).e2 g.Z.length = true := fun k I => by rw [hW]; exact BO O.m hw.2 hh.2 hj hi k I
     have hL : (gL g.Width j i).length = 2 := rfl
     have M : ∀ k, k < 2 -> (gL g.Width j i).getD k default ∈ lK g.Width (w - 1) (h - 1) := fun k I => mem j i k hj hi I
     show Ok (bdO (aP n (f3 (gL g.Width j i)) (mk c 0)) fun o => q (mk o (IE ((i : Int) + 1)))) _
     refine Ok.bd (R := P ((lK g.Width (w - 1) j ++ (List.range (i + 1)).flatMap (gL g.Width j)).filter (np g.Z))) ?_ (fun o ho => a0 _ ho)
     rw [zi, <- List.append_assoc, List.filter_append]
     have a1 : (w - 1) * (j + 1) <= (w - 1) * (h - 1) := Nat.mul_le_mul_left _ (by omega)
     rw [Nat.mul_add, Nat.mul_one] at a1
     have a2 : ((lK g.Width (w - 1) j ++ (List.range i).flatMap (gL g.Width j)).filter (np g.Z)).length + 2 <= 2 * ((w - 1) * (h - 1)) := by
      have := List.length_filter_le (np g.Z) (lK g.Width (w - 1) j ++ (List.range i).flatMap (gL g.Width j))
      rw [List.length_append, va, yB, Nat.mul_assoc] at this
      omega
     generalize (lK g.Width (w - 1) j ++ (List.range i).flatMap (gL g.Width j)).filter (np g.Z) = pre at E a2
     generalize gL g.Width j i = L at C hL M
     refine iG (len := 2) mk (fun k c => P (pre ++ (L.take k).filter (np g.Z)) c) (by omega) (by omega) (by simpa using E) ?_ ?_
     · rintro z k c I D Y
       obtain ⟨r0, r1, r2⟩ := C k I
       have hm := M k I
       have N := Ai (L := L) (p := np g.Z) (k := k) (by omega)
       rw [<- oP] at r0 r1 r2 N hm
       have no : np g.Z (gt L (k : Int)) = false -> Ok (z (mk c (IE ((k : Int) + 1)))) (P (pre ++ L.filter (np g.Z))) := fun h => Y _ (by rw [N, h]; simpa using D)
       rw [h3]
       refine Ok.cd (fun _ => ?_) (fun h => by have := dcF h; omega)
       refine Ok.gd (by rw [bg]; exact decide_eq_true (by omega)) (Ok.gd r0 ?_)
       refine Ok.cd (fun T => ?_) (fun h => no (by unfold np; rw [h]; rfl))
       refine Ok.gd r1 (Ok.cd (fun h1 => ?_) (fun h => no (by unfold np; rw [T, h]; rfl)))
       refine Ok.gd r2 (Ok.cd (fun h2 => ?_) (fun h => no (by unfold np; rw [T, h1, h]; rfl)))
       have hz : np g.Z (gt L (k : Int)) = true := by unfold np; rw [T, h1, h2]; rfl
       refine Ok.bd (hv _ _ _ (List.mem_filter.2 ⟨hm, hz⟩) (by rw [List.length_append]; have := List.length_filter_le (np g.Z) (L.take k); rw [List.length_take] at this; omega) D) fun v a3 => Y v ?_
       rw [N, if_pos hz, <- List.append_assoc]; exact a3
     · rintro z c D
       rw [h3]
       refine Ok.cd (fun h => by simp at h) (fun _ => az.2 ?_)
       rw [List.take_of_length_le (by omega)] at D; exact D
   · rintro q c E
     rw [h2 j q c, e2]
     refine Ok.cd (fun h => by have := dcT h; omega) (fun _ => az.2 ?_)
     rw [zJ]; exact E
 · rintro again c hP
   rw [h1 again c, e1]
   exact Ok.cd (fun h => by have := dcT h; omega) (fun _ => az.2 hP)
theorem zw {γ σ : Type} {n : Nat} {g : al} {w h : Nat} (m : 200 < n) (j : Gd g w h) (mk : γ -> Int -> σ) (visit : A3 Int -> γ -> Option γ)
  {f1 : (σ -> Option γ) -> σ -> Option γ} {f2 : Int -> (σ -> Option γ) -> σ -> Option γ} {f3 : List (A3 Int) -> (σ -> Option γ) -> σ -> Option γ}
  (h1 : ∀ again c x, f1 again (mk c x) = cdO (decide (x < IE (g.Height - 1))) (bdO (aP n (f2 x) (mk c 0)) fun o => again (mk o (IE (x + 1)))) (some c))
  (h2 : ∀ J again c x, f2 J again (mk c x) = cdO (decide (x < IE (g.Width - 1))) (bdO (some (IE ((IE (J * g.Width)) + x))) fun k => bdO (some [A3.mk k (IE (k + 1)) (IE ((IE (k + g.Width)) + 1)), A3.mk k (IE ((IE (k + g.Width)) + 1)) (IE (k + g.Width))]) fun L => bdO (aP n (f3 L) (mk c 0)) fun o => again (mk o (IE (x + 1)))) (some c))
  (q : ∀ L again c x, f3 L again (mk c x) = cdO (decide (x < 2)) (gdO (inR x L.length) (gdO (inR (gt L x).e0 g.Z.length) (cdO ((gt g.Z (gt L x).e0 : Int) != (-2147483648)) (gdO (inR (gt L x).e1 g.Z.length) (cdO ((gt g.Z (gt L x).e1 : Int) != (-2147483648)) (gdO (inR (gt L x).e2 g.Z.length) (cdO ((gt g.Z (gt L x).e2 : Int) != (-2147483648)) (
    bdO (visit (gt L x) c) fun v => again (mk v (IE (x + 1)))) (again (mk c (IE (x + 1)))))) (again (mk c (IE (x + 1)))))) (again (mk c (IE (x + 1))))))) (some c))
  (P : List (A3 Int) -> γ -> Prop) {c0 : γ} (z : P [] c0) (C : ∀ pre t c, t ∈ lD g w h -> pre.length <= 8000 -> P pre c -> Ok (visit t c) (P (pre ++ [t]))) : Ok (aP n f1 (mk c0 0)) (P (lD g w h)) :=
 Cy m j mk visit h1 h2 q P z fun pre t c D I E => C pre t c D (by
  have := Nat.mul_le_mul (show w - 1 <= 63 by have := j.w1; omega) (show h - 1 <= 63 by have := j.h1; omega)
  omega) E
theorem FQ {α β : Type} {a : Bool} {x : Option α} {f : α -> Option β} : bdO (gdO a x) f = gdO a (bdO x f) := by cases a <;> rfl
theorem Fl {n : Nat} (j : 200 < n) {g : al} {w h : Nat} (m : Gd g w h) : dT n g = some (lD g w h) := by
 apply Ok.eq
 unfold dT
 refine Ok.bd (R := fun o => o = lD g w h) ?_ (fun o q => az.2 q)
 refine zw (γ := List (A3 Int)) j m (fun c x => (c, x)) (fun t c => gdO (decide ((c.length + 1) * 24 <= 140737488355328)) (gdO (decide (c.length + 1 <= 4611686018427387904)) (some (c ++ [t]))))
  (fun _ _ _ => rfl) (fun _ _ _ _ => rfl) ?_ (fun pre c => c = pre) rfl ?_
 · intro L again c x
   rw [FQ, FQ]; rfl
 · rintro pre t c z C rfl
   exact Ok.gd (decide_eq_true (by omega)) (Ok.gd (decide_eq_true (by omega)) (az.2 rfl))
end Go.L


set_option linter.all false
namespace Go.L
open Go Go.Eng
def D8 {α : Type} (x : α) : List α -> List (List α)
 | [] => [[x]]
 | y :: l => (x :: y :: l) :: (D8 x l).map (y :: ·)
def perms {α : Type} : List α -> List (List α)
 | [] => [[]]
 | x :: l => (perms l).flatMap (D8 x)
theorem y4 {α : Type} {x : α} {b : List α} : ∀ a : List α, a ++ x :: b ∈ D8 x (a ++ b)
 | [] => by cases b <;> simp [D8]
 | y :: a => by
  rw [List.cons_append, List.cons_append, D8]
  exact List.mem_cons_of_mem _ (List.mem_map.2 ⟨_, y4 a, rfl⟩)
theorem xo {α : Type} : ∀ (l p : List α), p.Perm l -> p ∈ perms l
 | [], p, h => by rw [List.perm_nil.1 h]; simp [perms]
 | x :: l, p, h => by
  obtain ⟨a, b, rfl⟩ := List.append_of_mem (h.mem_iff.2 (by simp : x ∈ x :: l))
  have h2 : (a ++ b).Perm l := (List.perm_cons x).1 ((List.perm_middle.symm).trans h)
  exact List.mem_flatMap.2 ⟨_, xo l _ h2, y4 a⟩
def qo (n : Nat) (g : al) (level : Int) (v1 : List (A2 Int × A2 Int) × List (A2 Int × Bool)) (sl : Int) (J : List (A2 Int)) : Option (List ak) :=
  bdO (aP (α := List (A2 Int × Bool) × List ak × Int) (β := List (A2 Int × Bool) × List ak) n (fun E (j, C, q) => (
   cdO (decide (q < sl)) (
    gdO (inR q J.length) (
    cdO (!(getM false v1.2 (gt J q))) (
     bdO (dB n (gt J q) false j g.X0 g.Y0 g.Step g.Width g.Height g.Z level v1.1 C) fun T => (
     E (T.1, T.2, IE (q + 1))
     )
    ) (
     E (j, C, IE (q + 1))
    )
    )
   ) (
    some ((j, C))
   )
  )) (([] : List (A2 Int × Bool)), [], 0)) fun a0 => (
   match a0 with
   | (N, O) => (
    bdO (aP (α := List (A2 Int × Bool) × List ak × Int) (β := List ak) n (fun I (m, D, z) => (
     cdO (decide (z < (J.length : Int))) (
      gdO (inR z J.length) (
      cdO (!(getM false m (gt J z))) (
       bdO (dB n (gt J z) true m g.X0 g.Y0 g.Step g.Width g.Height g.Z level v1.1 D) fun U => (
       I (U.1, U.2, IE (z + 1))
       )
      ) (
       I (m, D, IE (z + 1))
      )
      )
     ) (
      some (D)
     )
    )) (N, O, 0)) fun M => (
     bdO (aH n M) fun Y => (
     gdO (decide (Y.length = M.length)) (
     some (Y)
     )
     )
    )
   ))
def xc (j : List (A2 Int)) (m : A2 Int × A2 Int) : Option (List (A2 Int)) :=
 gdO (decide ((j.length + 1) * 16 <= 140737488355328)) (
 gdO (decide (j.length + 1 <= 4611686018427387904)) (
 some (j ++ [m.1])
 )
 )
theorem E7 (n : Nat) (g : al) (level : Int) : gB n g level = bdO (aW n g g.X0 g.Y0 g.Step g.Width g.Height g.Z level ([] : List (A2 Int × A2 Int)) ([] : List (A2 Int × Bool))) fun v1 =>
  zK v1.1 xc [] fun j => bdO (aA n j) fun m => gdO (decide (m.length = j.length)) (qo n g level v1 (j.length : Int) m) := rfl
theorem vy : ∀ (l : List (A2 Int × A2 Int)) (a : List (A2 Int)), a.length + l.length <= 100000 -> mN xc a l = some (a ++ l.map (·.1))
 | [], a, _ => by simp [mN]
 | e :: l, a, h => by
  rw [List.length_cons] at h
  have e1 : xc a e = some (a ++ [e.1]) := by
   unfold xc
   rw [decide_eq_true (show (a.length + 1) * 16 <= 140737488355328 by omega), decide_eq_true (show a.length + 1 <= 4611686018427387904 by omega)]; rfl
  rw [mN, e1]
  show mN xc (a ++ [e.1]) l = _
  rw [vy l _ (by rw [List.length_append, List.length_cons, List.length_nil]; omega), List.append_assoc]
  rfl
theorem Ab {n : Nat} {g : al} {level : Int} {v1 : List (A2 Int × A2 Int) × List (A2 Int × Bool)} {S : List (A2 Int)} {r : List ak}
  (h1 : aW n g g.X0 g.Y0 g.Step g.Width g.Height g.Z level ([] : List (A2 Int × A2 Int)) ([] : List (A2 Int × Bool)) = some v1) (z : v1.1.length <= 100000)
  (h2 : ∀ p : List (A2 Int), p.Perm (v1.1.map (·.1)) -> aA n p = some S) (m : S.length = v1.1.length) (q : qo n g level v1 (v1.1.length : Int) S = some r) : gB n g level = some r := by
 rw [E7, h1]
 show zK v1.1 xc [] _ = _
 refine Eu fun p hp => ?_
 have j := hp.length_eq
 rw [vy p [] (by simp; omega), List.nil_append]
 show bdO (aA n (p.map (·.1))) _ = _
 rw [h2 _ (hp.map _)]
 show gdO (decide (S.length = (p.map (·.1)).length)) (qo n g level v1 ((p.map (·.1)).length : Int) S) = _
 rw [List.length_map, j, m, decide_eq_true rfl, q]; rfl
def exG : al := al.mk 0 0 2 3 3 [(0 : Int), (0 : Int), (0 : Int), (0 : Int), (4 : Int), (0 : Int), (0 : Int), (0 : Int), (0 : Int)]
def exV : List (A2 Int × A2 Int) × List (A2 Int × Bool) := (aW 20000 exG 0 0 2 3 3 exG.Z 1 ([] : List (A2 Int × A2 Int)) ([] : List (A2 Int × Bool))).getD default
def exK : List (A2 Int) := [⟨0, 4⟩, ⟨1, 4⟩, ⟨3, 4⟩, ⟨4, 5⟩, ⟨4, 7⟩, ⟨4, 8⟩]
def exL : List ak := (qo 20000 exG 1 exV 6 exK).getD []
theorem Ha : aW 20000 exG exG.X0 exG.Y0 exG.Step exG.Width exG.Height exG.Z 1 ([] : List (A2 Int × A2 Int)) ([] : List (A2 Int × Bool)) = some exV := by kernel_rfl
theorem HK : ((perms (exV.1.map (·.1))).all fun p => aA 20000 p == some exK) = true := by kernel_rfl
theorem HH : qo 20000 exG 1 exV (exV.1.length : Int) exK = some exL := by kernel_rfl
theorem DL : gB 20000 exG 1 = some exL :=
 Ab Ha (lbT (by kernel_rfl)) (fun p hp => eq_of_beq (List.all_eq_true.1 HK p (xo _ _ hp))) (by kernel_rfl) HH
theorem CH : jn 20000 = some true := rfl
end Go.L


set_option linter.all false
namespace Go.L
open Go Go.Eng
end Go.L


set_option linter.all false
namespace Go.L
open Go Go.Eng
def zI (t : A3 Int) (a : Int) : Bool := [t.e0, t.e1, t.e2].any fun z => a == z
def rp (T : List (A3 Int)) (a b : Int) : Bool := decide (a < b) && T.any fun t => zI t a && zI t b
theorem oA {t : A3 Int} {a : Int} : zI t a = true ↔ a = t.e0 \/ a = t.e1 \/ a = t.e2 := by unfold zI; simp
theorem ET {g : al} {w h : Nat} (j : Gd g w h) {a b : Int} (e : rp (lD g w h) a b = true) : 0 <= a /\ a < b /\ b < g.Z.length := by
 unfold rp at e
 rw [Bool.and_eq_true, List.any_eq_true] at e
 obtain ⟨h1, t, m, h2⟩ := e
 have h1 := dcT h1
 rw [Bool.and_eq_true, oA, oA] at h2
 obtain ⟨i0, i1, i2⟩ := An j (List.mem_filter.1 m).1
 have i0 := jg.1 i0; have i1 := jg.1 i1; have i2 := jg.1 i2
 omega
def tt (t : A3 Int) (a b : Int) (k : Nat) : Bool := (mn (A3.get t (k : Int)) (A3.get t ((IE ((k : Int) + 1)).tmod 3)) == a) && ((mx (A3.get t (k : Int)) (A3.get t ((IE ((k : Int) + 1)).tmod 3)) == b) && true)
theorem Ey {t : A3 Int} {a b : Int} (h : a < b) : (List.range 3).any (tt t a b) = (zI t a && zI t b) := by
 obtain ⟨x, y, z⟩ := t
 have e : (List.range 3).any (tt (A3.mk x y z) a b) = (((mn x y == a) && (mx x y == b)) || ((mn y z == a) && (mx y z == b)) || ((mn z x == a) && (mx z x == b))) := by
  have e0 : tt (A3.mk x y z) a b 0 = ((mn x y == a) && (mx x y == b)) := by rw [<- Bool.and_true (mx x y == b)]; rfl
  have e1 : tt (A3.mk x y z) a b 1 = ((mn y z == a) && (mx y z == b)) := by rw [<- Bool.and_true (mx y z == b)]; rfl
  have e2 : tt (A3.mk x y z) a b 2 = ((mn z x == a) && (mx z x == b)) := by rw [<- Bool.and_true (mx z x == b)]; rfl
  show ([0, 1, 2] : List Nat).any _ = _
  simp only [List.any_cons, List.any_nil, e0, e1, e2, Bool.or_false, Bool.or_assoc]
 rw [e]
 apply Bool.eq_iff_iff.2
 rw [Bool.and_eq_true, oA, oA]
 simp only [Bool.or_eq_true, Bool.and_eq_true, beq_iff_eq]
 unfold mn mx
 constructor
 · intro j
   split at j <;> split at j <;> split at j <;> omega
 · intro j
   split <;> split <;> split <;> omega
theorem HA (a : Nat) : ((a : Int)).tmod 3 = ((a % 3 : Nat) : Int) := by rw [Int.tmod_eq_emod_of_nonneg (by omega)]; rfl
theorem DX {t : A3 Int} {a b : Int} {f : Bool} {n : Nat} (E : 10 < n) : (aP (α := Bool × Int) (β := Bool) n (fun q (j, m) => (
        cdO (decide (m < 3)) (
         cdO (decide (a < b)) (
          gdO (inR m 3) (
          gdO (inR ((IE (m + 1)).tmod 3) 3) (
          bdO (fH n (A3.get t m) (A3.get t ((IE (m + 1)).tmod 3))) fun z => (
          cdO (((z.e0 : Int) == a) && (((z.e1 : Int) == b) && true)) (
           q (true, IE (m + 1))
          ) (
           q (j, IE (m + 1))
          )
          )
          )
          )
         ) (
          q (j, IE (m + 1))
         )
        ) (
         some (j)
        )
 )) (f, 0)) = some (f || (decide (a < b) && (zI t a && zI t b))) := by
 apply Ok.eq
 refine ui (len := 3) (fun k c => c = (f || (decide (a < b) && (List.range k).any (tt t a b)))) (by omega) (by omega) (by simp) ?_ ?_
 · rintro again k c I rfl C
   dsimp only
   refine Ok.cd (fun _ => ?_) (fun h => by have := dcF h; omega)
   have D : (List.range (k + 1)).any (tt t a b) = ((List.range k).any (tt t a b) || tt t a b k) := by rw [List.range_succ, List.any_append]; simp
   refine Ok.cd (fun h => ?_) (fun h => C _ (by rw [h]; simp))
   refine Ok.gd (by rw [jg]; omega) (Ok.gd (by rw [wrap64_in (by omega) (by omega), jg]; have : ((k : Int) + 1).tmod 3 = (((k + 1) % 3 : Nat) : Int) := HA (k + 1); rw [this]; omega) ?_)
   refine Ok.bde (b := A2.mk (mn (A3.get t (k : Int)) (A3.get t ((IE ((k : Int) + 1)).tmod 3))) (mx (A3.get t (k : Int)) (A3.get t ((IE ((k : Int) + 1)).tmod 3)))) rfl ?_
   refine Ok.cd (fun h2 => C _ ?_) (fun h2 => C _ ?_)
   · dsimp only at h2
     have h2 : tt t a b k = true := by unfold tt; exact h2
     rw [D, h, h2]; simp
   · dsimp only at h2
     have h2 : tt t a b k = false := by unfold tt; exact h2
     rw [D, h, h2]; simp
 · rintro again c rfl
   refine Ok.cd (fun h => by simp at h) (fun _ => az.2 ?_)
   by_cases h : a < b
   · rw [Ey h]
   · rw [decide_eq_false h]; rfl
theorem EE {a b : Int} {T : List (A3 Int)} {n : Nat} (N : 10000 < n) (O : T.length <= 8000) : (aP (α := Bool × Int) (β := Bool) n (fun D (z, E) => (
  cdO (decide (E < (T.length : Int))) (
   gdO (inR E T.length) (
   bdO (aP (α := Bool × Int) (β := Bool) n (fun q (j, m) => (
    cdO (decide (m < 3)) (
     cdO (decide (a < b)) (
      gdO (inR m 3) (
      gdO (inR ((IE (m + 1)).tmod 3) 3) (
      bdO (fH n (A3.get (gt T E) m) (A3.get (gt T E) ((IE (m + 1)).tmod 3))) fun I => (
      cdO (((I.e0 : Int) == a) && (((I.e1 : Int) == b) && true)) (
       q (true, IE (m + 1))
      ) (
       q (j, IE (m + 1))
      )
      )
      )
      )
     ) (
      q (j, IE (m + 1))
     )
    ) (
     some (j)
    )
   )) (z, 0)) fun C => (
    D (C, IE (E + 1))
   )
   )
  ) (
   some (z)
  )
 )) (false, 0)) = some (rp T a b) := by
 apply Ok.eq
 refine ui (len := T.length) (fun k c => c = rp (T.take k) a b) (by omega) (by omega) (by unfold rp; simp) ?_ ?_
 · rintro again k c J rfl M
   refine Ok.cd (fun _ => ?_) (fun h => by have := dcF h; omega)
   refine Ok.gd (by rw [bg]; exact decide_eq_true J) (Ok.bde (DX (by omega)) (M _ ?_))
   unfold rp
   rw [List.take_add_one, geT J, List.any_append, oP]
   simp only [List.getD, geT J, Option.getD_some, Option.toList_some, List.any_cons, List.any_nil, Bool.or_false]
   cases decide (a < b) <;> simp
 · rintro again c rfl
   exact Ok.cd (fun h => by simp at h) (fun _ => az.2 (by rw [List.take_length]))
def whK (n : Nat) (g : al) (c : an) (found : Bool) : Option (ar × Int) :=
  cdO (!found) (
   some ((ar.mk (ai.mk (ah.mk false []) (ah.mk false [])) (ai.mk (ah.mk false []) (ah.mk false [])), 6))
  ) (
   bdO (bI n c.At) fun q => (
   cdO (!q) (
    some ((ar.mk (ai.mk (ah.mk false []) (ah.mk false [])) (ai.mk (ah.mk false []) (ah.mk false [])), 1))
   ) (
    bdO (di n c.At) fun z => (
    cdO (decide (z < 0)) (
     some ((ar.mk (ai.mk (ah.mk false []) (ah.mk false [])) (ai.mk (ah.mk false []) (ah.mk false [])), 2))
    ) (
     bdO (bH n 1) fun C => (
     bdO (bh n c.At C) fun D => (
     cdO (decide (D > 0)) (
      some ((ar.mk (ai.mk (ah.mk false []) (ah.mk false [])) (ai.mk (ah.mk false []) (ah.mk false [])), 2))
     ) (
      bdO (bJ n g c.A) fun j => (
      bdO (bJ n g c.B) fun m => (
      bdO (bf n m.X j.X) fun E => (
      bdO (bn n c.At E) fun I => (
      bdO (bE n j.X I) fun J => (
      bdO (bf n m.Y j.Y) fun M => (
      bdO (bn n c.At M) fun N => (
      bdO (bE n j.Y N) fun O => (
      some ((ar.mk J O, 0))
      )
      )
      )
      )
      )
      )
      )
      )
     )
     )
     )
    )
    )
   )
   )
  )
theorem D2 {g : al} {w h : Nat} (j : Gd g w h) : (lD g w h).length <= 8000 := by
 have := List.length_filter_le (np g.Z) (lK g.Width (w - 1) (h - 1))
 rw [va] at this
 have h2 : 2 * (w - 1) * (h - 1) <= 2 * 63 * 63 := Nat.mul_le_mul (by have := j.w1; omega) (by have := j.h1; omega)
 unfold lD; omega
theorem Ev {n : Nat} (m : 10000 < n) {g : al} {w h : Nat} (j : Gd g w h) (c : an) : bt n g c = whK n g c (rp (lD g w h) c.A c.B) := by
 have h1 := Fl (n := n) (by omega) j
 have h2 := EE (a := c.A) (b := c.B) (T := lD g w h) m (D2 j)
 unfold bt
 rw [h1]
 show bdO (aP n _ (false, 0)) _ = _
 rw [h2]; rfl
end Go.L

