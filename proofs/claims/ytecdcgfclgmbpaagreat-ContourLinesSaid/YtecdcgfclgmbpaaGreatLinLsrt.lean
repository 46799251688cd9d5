import Derived.Test.YtecdcgfclgmbpaaGreatLinL01q
import Derived.Test.YtecdcgfclgmbpaaGreatLinLD
import Derived.Test.YtecdcgfclgmbpaaGreatPl6Lins
import Derived.KernelRfl
import Derived.Test.YtecdcgfclgmbpaaGreatLinL52tB
import Derived.Test.YtecdcgfclgmbpaaGreatLinL52tB
import Derived.Test.YtecdcgfclgmbpaaGreatLinL52tB
import Derived.Test.YtecdcgfclgmbpaaGreatLinL52tB
import Derived.Test.YtecdcgfclgmbpaaGreatLinL52tB
import Derived.Test.YtecdcgfclgmbpaaGreatPl2Lins
import Derived.Test.YtecdcgfclgmbpaaGreatScSLins
set_option linter.all false
namespace Go.L
open Go Go.Eng
theorem xm {n : Nat} {z : Int} : dD n z = some (xI z) := B4
theorem A6 {n : Nat} (hn : 4096 < n) (g : al) : fG n g = some (mb g) := by
 apply Ok.eq
 unfold fG
 refine Ok.cd (fun h => aw.2 (mE fun d => ?_).symm) (fun h1 => Ok.cd (fun h => aw.2 (mE fun d => ?_).symm) (fun h2 => Ok.cd (fun h => aw.2 (mE fun d => ?_).symm) (fun h3 => Ok.cd (fun h => aw.2 (mE fun d => ?_).symm) (fun h4 => Ok.cd (fun h => aw.2 (mE fun d => ?_).symm) (fun h5 => Ok.cd (fun h => aw.2 (mE fun d => ?_).symm) (fun h6 => Ok.cd (fun h => aw.2 (mE fun d => ?_).symm) (fun h7 => Ok.bde xm (Ok.cd (fun h => aw.2 (mE fun d => ?_).symm) (fun h8 => Ok.bde xm (Ok.cd (fun h => aw.2 (mE fun d => ?_).symm) (fun h9 => ?_)))))))))))
 · have := d.w; have := dcT h; omega
 · have := d.w; have := dcT h; omega
 · have := d.h; have := dcT h; omega
 · have := d.h; have := dcT h; omega
 · have := d.s; have := dcT h; omega
 · have := d.s; have := dcT h; omega
 · have := d.e; simp [this] at h
 · rw [d.x] at h; cases h
 · rw [d.y] at h; cases h
 have h1 := dcF h1
 have h2 := dcF h2
 have h3 := dcF h3
 have h4 := dcF h4
 have h5 := dcF h5
 have h6 := dcF h6
 have d : Dim g := ⟨by omega, by omega, by omega, by simpa using h7, h8, h9⟩
 have ha := CI d.w d.h
 rw [wrap64_in (n := g.Width * g.Height) (by omega) (by omega)]
 unfold mb
 rw [if_pos d]
 refine Ok.cd (fun h => aw.2 ?_) (fun h => ?_)
 · rw [if_neg]; simpa using h
 · have h : (g.Z.length : Int) = g.Width * g.Height := by simpa using h
   rw [if_pos h]
   refine Ok.bde (A8 (p := pQ) (c := (2 : Int)) (s := g.Z) (by omega) (by omega) ?_ ?_) ?_
   · intro again k hk
     have d1 : decide ((k : Int) < (g.Z.length : Int)) = true := by simpa using hk
     have d2 : decide (k < g.Z.length) = true := by simpa using hk
     rw [d1, bg, d2, mW, xm]
     unfold pQ
     cases (g.Z.getD k default != -2147483648) <;> cases xI (g.Z.getD k default) <;> rfl
   · intro again
     have d1 : decide ((g.Z.length : Int) < (g.Z.length : Int)) = false := by simp
     rw [d1]; rfl
   · cases hz : g.Z.any pQ with
     | true => exact aw.2 rfl
     | false => exact aw.2 rfl
theorem Bk {γ σ : Type} {n : Nat} {g : al} {w h : Nat} (hn : 200 < n) (hg : Gd g w h) (mk : γ -> Int -> σ) (visit : A3 Int -> γ -> Option γ)
  {f1 : (σ -> Option γ) -> σ -> Option γ} {f2 : Int -> (σ -> Option γ) -> σ -> Option γ} {f3 : List (A3 Int) -> (σ -> Option γ) -> σ -> Option γ}
  (h1 : ∀ again c x, f1 again (mk c x) = cdO (decide (x < FK (g.Height - 1))) (bdO (aN n (f2 x) (mk c 0)) fun o => again (mk o (FK (x + 1)))) (some c))
  (h2 : ∀ J again c x, f2 J again (mk c x) = cdO (decide (x < FK (g.Width - 1))) (bdO (some (FK ((FK (J * g.Width)) + x))) fun k => bdO (some [A3.mk k (FK (k + 1)) (FK ((FK (k + g.Width)) + 1)), A3.mk k (FK ((FK (k + g.Width)) + 1)) (FK (k + g.Width))]) fun L => bdO (aN n (f3 L) (mk c 0)) fun o => again (mk o (FK (x + 1)))) (some c))
  (h3 : ∀ L again c x, f3 L again (mk c x) = cdO (decide (x < 2)) (gdO (inR x L.length) (gdO (inR (gt L x).e0 g.Z.length) (cdO ((gt g.Z (gt L x).e0 : Int) != (-2147483648)) (gdO (inR (gt L x).e1 g.Z.length) (cdO ((gt g.Z (gt L x).e1 : Int) != (-2147483648)) (gdO (inR (gt L x).e2 g.Z.length) (cdO ((gt g.Z (gt L x).e2 : Int) != (-2147483648)) (
    bdO (visit (gt L x) c) fun v => again (mk v (FK (x + 1)))) (again (mk c (FK (x + 1)))))) (again (mk c (FK (x + 1)))))) (again (mk c (FK (x + 1))))))) (some c))
  (P : List (A3 Int) -> γ -> Prop) {c0 : γ} (h0 : P [] c0) (hv : ∀ pre t c, t ∈ kI g w h -> pre.length < 2 * ((w - 1) * (h - 1)) -> P pre c -> Ok (visit t c) (P (pre ++ [t]))) : Ok (aN n f1 (mk c0 0)) (P (kI g w h)) := by
 have hw := hg.w1; have hh := hg.h1
 have hH := hg.H; have hW := hg.W
 have e1 : FK (g.Height - 1) = ((h - 1 : Nat) : Int) := by rw [hH, wrap64_in (by omega) (by omega)]; omega
 have e2 : FK (g.Width - 1) = ((w - 1 : Nat) : Int) := by rw [hW, wrap64_in (by omega) (by omega)]; omega
 have mem : ∀ j i k, j < h - 1 -> i < w - 1 -> k < 2 -> (ia g.Width j i).getD k default ∈ nu g.Width (w - 1) (h - 1) := by
  intro j i k hj hi hk
  unfold nu Bx
  refine List.mem_flatMap.2 ⟨j, List.mem_range.2 hj, List.mem_flatMap.2 ⟨i, List.mem_range.2 hi, ?_⟩⟩
  have hk2 : k < (ia g.Width j i).length := hk
  simp only [List.getD, geT hk2, Option.getD_some]; exact List.getElem_mem hk2
 refine fr (len := h - 1) mk (fun j c => P ((nu g.Width (w - 1) j).filter (nW g.Z)) c) (by omega) (by omega) h0 ?_ ?_
 · rintro again j c hj hP ih
   rw [h1 again c j, e1]
   refine Ok.cd (fun _ => ?_) (fun h => by have := dcF h; omega)
   refine Ok.bd (R := P ((nu g.Width (w - 1) (j + 1)).filter (nW g.Z))) ?_ (fun o ho => ih _ ho)
   refine fr (len := w - 1) mk (fun i c => P ((nu g.Width (w - 1) j ++ (List.range i).flatMap (ia g.Width j)).filter (nW g.Z)) c) (by omega) (by omega) (by simpa using hP) ?_ ?_
   · rintro again2 i c hi hP2 ih2
     rw [h2 j again2 c i, e2]
     refine Ok.cd (fun _ => ?_) (fun h => by have := dcF h; omega)
     have hcell : ∀ k, k < 2 -> inR ((ia g.Width j i).getD k default).e0 g.Z.length = true /\ inR ((ia g.Width j i).getD k default).e1 g.Z.length = true /\ inR ((ia g.Width j i).getD k default).e2 g.Z.length = true := fun k hk => by rw [hW]; exact Aq hg.m hw.2 hh.2 hj hi k hk
     have hL : (ia g.Width j i).length = 2 := rfl
     have hmem : ∀ k, k < 2 -> (ia g.Width j i).getD k default ∈ nu g.Width (w - 1) (h - 1) := fun k hk => mem j i k hj hi hk
     show Ok (bdO (aN n (f3 (ia g.Width j i)) (mk c 0)) fun o => again2 (mk o (FK ((i : Int) + 1)))) _
     refine Ok.bd (R := P ((nu g.Width (w - 1) j ++ (List.range (i + 1)).flatMap (ia g.Width j)).filter (nW g.Z))) ?_ (fun o ho => ih2 _ ho)
     rw [zm, <- List.append_assoc, List.filter_append]
     have hjb : (w - 1) * (j + 1) <= (w - 1) * (h - 1) := Nat.mul_le_mul_left _ (by omega)
     rw [Nat.mul_add, Nat.mul_one] at hjb
     have hpl : ((nu g.Width (w - 1) j ++ (List.range i).flatMap (ia g.Width j)).filter (nW g.Z)).length + 2 <= 2 * ((w - 1) * (h - 1)) := by
      have := List.length_filter_le (nW g.Z) (nu g.Width (w - 1) j ++ (List.range i).flatMap (ia g.Width j))
      rw [List.length_append, uP, xM, Nat.mul_assoc] at this
      omega
     generalize (nu g.Width (w - 1) j ++ (List.range i).flatMap (ia g.Width j)).filter (nW g.Z) = pre at hP2 hpl
     generalize ia g.Width j i = L at hcell hL hmem
     refine fr (len := 2) mk (fun k c => P (pre ++ (L.take k).filter (nW g.Z)) c) (by omega) (by omega) (by simpa using hP2) ?_ ?_
     · rintro again3 k c hk hP3 ih3
       obtain ⟨r0, r1, r2⟩ := hcell k hk
       have hm := hmem k hk
       have hft := yO (L := L) (p := nW g.Z) (k := k) (by omega)
       rw [<- mW] at r0 r1 r2 hft hm
       have no : nW g.Z (gt L (k : Int)) = false -> Ok (again3 (mk c (FK ((k : Int) + 1)))) (P (pre ++ L.filter (nW g.Z))) := fun h => ih3 _ (by rw [hft, h]; simpa using hP3)
       rw [h3]
       refine Ok.cd (fun _ => ?_) (fun h => by have := dcF h; omega)
       refine Ok.gd (by rw [bg]; exact decide_eq_true (by omega)) (Ok.gd r0 ?_)
       refine Ok.cd (fun h0 => ?_) (fun h => no (by unfold nW; rw [h]; rfl))
       refine Ok.gd r1 (Ok.cd (fun h1 => ?_) (fun h => no (by unfold nW; rw [h0, h]; rfl)))
       refine Ok.gd r2 (Ok.cd (fun h2 => ?_) (fun h => no (by unfold nW; rw [h0, h1, h]; rfl)))
       have hz : nW g.Z (gt L (k : Int)) = true := by unfold nW; rw [h0, h1, h2]; rfl
       refine Ok.bd (hv _ _ _ (List.mem_filter.2 ⟨hm, hz⟩) (by rw [List.length_append]; have := List.length_filter_le (nW g.Z) (L.take k); rw [List.length_take] at this; omega) hP3) fun v hP4 => ih3 v ?_
       rw [hft, if_pos hz, <- List.append_assoc]; exact hP4
     · rintro again3 c hP3
       rw [h3]
       refine Ok.cd (fun h => by simp at h) (fun _ => aw.2 ?_)
       rw [List.take_of_length_le (by omega)] at hP3; exact hP3
   · rintro again2 c hP2
     rw [h2 j again2 c, e2]
     refine Ok.cd (fun h => by have := dcT h; omega) (fun _ => aw.2 ?_)
     rw [yq]; exact hP2
 · rintro again c hP
   rw [h1 again c, e1]
   exact Ok.cd (fun h => by have := dcT h; omega) (fun _ => aw.2 hP)
theorem ya {γ σ : Type} {n : Nat} {g : al} {w h : Nat} (hn : 200 < n) (hg : Gd g w h) (mk : γ -> Int -> σ) (visit : A3 Int -> γ -> Option γ)
  {f1 : (σ -> Option γ) -> σ -> Option γ} {f2 : Int -> (σ -> Option γ) -> σ -> Option γ} {f3 : List (A3 Int) -> (σ -> Option γ) -> σ -> Option γ}
  (h1 : ∀ again c x, f1 again (mk c x) = cdO (decide (x < FK (g.Height - 1))) (bdO (aN n (f2 x) (mk c 0)) fun o => again (mk o (FK (x + 1)))) (some c))
  (h2 : ∀ J again c x, f2 J again (mk c x) = cdO (decide (x < FK (g.Width - 1))) (bdO (some (FK ((FK (J * g.Width)) + x))) fun k => bdO (some [A3.mk k (FK (k + 1)) (FK ((FK (k + g.Width)) + 1)), A3.mk k (FK ((FK (k + g.Width)) + 1)) (FK (k + g.Width))]) fun L => bdO (aN n (f3 L) (mk c 0)) fun o => again (mk o (FK (x + 1)))) (some c))
  (h3 : ∀ L again c x, f3 L again (mk c x) = cdO (decide (x < 2)) (gdO (inR x L.length) (gdO (inR (gt L x).e0 g.Z.length) (cdO ((gt g.Z (gt L x).e0 : Int) != (-2147483648)) (gdO (inR (gt L x).e1 g.Z.length) (cdO ((gt g.Z (gt L x).e1 : Int) != (-2147483648)) (gdO (inR (gt L x).e2 g.Z.length) (cdO ((gt g.Z (gt L x).e2 : Int) != (-2147483648)) (
    bdO (visit (gt L x) c) fun v => again (mk v (FK (x + 1)))) (again (mk c (FK (x + 1)))))) (again (mk c (FK (x + 1)))))) (again (mk c (FK (x + 1))))))) (some c))
  (P : List (A3 Int) -> γ -> Prop) {c0 : γ} (h0 : P [] c0) (hv : ∀ pre t c, t ∈ kI g w h -> pre.length <= 8000 -> P pre c -> Ok (visit t c) (P (pre ++ [t]))) : Ok (aN n f1 (mk c0 0)) (P (kI g w h)) :=
 Bk hn hg mk visit h1 h2 h3 P h0 fun pre t c ht hl hP => hv pre t c ht (by
  have := Nat.mul_le_mul (show w - 1 <= 63 by have := hg.w1; omega) (show h - 1 <= 63 by have := hg.h1; omega)
  omega) hP
theorem DB {α β : Type} {a : Bool} {x : Option α} {f : α -> Option β} : bdO (gdO a x) f = gdO a (bdO x f) := by cases a <;> rfl
theorem C9 {n : Nat} (hn : 200 < n) {g : al} {w h : Nat} (hg : Gd g w h) : dW n g = some (kI g w h) := by
 apply Ok.eq
 unfold dW
 refine Ok.bd (R := fun o => o = kI g w h) ?_ (fun o ho => aw.2 ho)
 refine ya (γ := List (A3 Int)) hn hg (fun c x => (c, x)) (fun t c => gdO (decide ((c.length + 1) * 24 <= 140737488355328)) (gdO (decide (c.length + 1 <= 4611686018427387904)) (some (c ++ [t]))))
  (fun _ _ _ => rfl) (fun _ _ _ _ => rfl) ?_ (fun pre c => c = pre) rfl ?_
 · intro L again c x
   rw [DB, DB]; rfl
 · rintro pre t c ht hl rfl
   exact Ok.gd (decide_eq_true (by omega)) (Ok.gd (decide_eq_true (by omega)) (aw.2 rfl))
end Go.L


set_option linter.all false
namespace Go.L
open Go Go.Eng
def B0 {α : Type} (x : α) : List α -> List (List α)
 | [] => [[x]]
 | y :: l => (x :: y :: l) :: (B0 x l).map (y :: ·)
def perms {α : Type} : List α -> List (List α)
 | [] => [[]]
 | x :: l => (perms l).flatMap (B0 x)
theorem yD {α : Type} {x : α} {b : List α} : ∀ a : List α, a ++ x :: b ∈ B0 x (a ++ b)
 | [] => by cases b <;> simp [B0]
 | y :: a => by
  rw [List.cons_append, List.cons_append, B0]
  exact List.mem_cons_of_mem _ (List.mem_map.2 ⟨_, yD a, rfl⟩)
theorem wM {α : Type} : ∀ (l p : List α), p.Perm l -> p ∈ perms l
 | [], p, h => by rw [List.perm_nil.1 h]; simp [perms]
 | x :: l, p, h => by
  obtain ⟨a, b, rfl⟩ := List.append_of_mem (h.mem_iff.2 (by simp : x ∈ x :: l))
  have h2 : (a ++ b).Perm l := (List.perm_cons x).1 ((List.perm_middle.symm).trans h)
  exact List.mem_flatMap.2 ⟨_, wM l _ h2, yD a⟩
def p8 (n : Nat) (g : al) (level : Int) (v1 : List (A2 Int × A2 Int) × List (A2 Int × Bool)) (sl : Int) (v21 : List (A2 Int)) : Option (List ae) :=
  bdO (aN (α := List (A2 Int × Bool) × List ae × Int) (β := List (A2 Int × Bool) × List ae) n (fun again56 (done_45, out_46, x_47) => (
   cdO (decide (x_47 < sl)) (
    gdO (inR x_47 v21.length) (
    cdO (!(getM false v1.2 (gt v21 x_47))) (
     bdO (dC n (gt v21 x_47) false done_45 g.X0 g.Y0 g.Step g.Width g.Height g.Z level v1.1 out_46) fun v61 => (
     again56 (v61.1, v61.2, FK (x_47 + 1))
     )
    ) (
     again56 (done_45, out_46, FK (x_47 + 1))
    )
    )
   ) (
    some ((done_45, out_46))
   )
  )) (([] : List (A2 Int × Bool)), [], 0)) fun o63 => (
   match o63 with
   | (done_54, out_55) => (
    bdO (aN (α := List (A2 Int × Bool) × List ae × Int) (β := List ae) n (fun again76 (done_66, out_67, x_68) => (
     cdO (decide (x_68 < (v21.length : Int))) (
      gdO (inR x_68 v21.length) (
      cdO (!(getM false done_66 (gt v21 x_68))) (
       bdO (dC n (gt v21 x_68) true done_66 g.X0 g.Y0 g.Step g.Width g.Height g.Z level v1.1 out_67) fun v81 => (
       again76 (v81.1, v81.2, FK (x_68 + 1))
       )
      ) (
       again76 (done_66, out_67, FK (x_68 + 1))
      )
      )
     ) (
      some (out_67)
     )
    )) (done_54, out_55, 0)) fun out_75 => (
     bdO (aL n out_75) fun v86 => (
     gdO (decide (v86.length = out_75.length)) (
     some (v86)
     )
     )
    )
   ))
def wR (starts_16 : List (A2 Int)) (e12 : A2 Int × A2 Int) : Option (List (A2 Int)) :=
 gdO (decide ((starts_16.length + 1) * 16 <= 140737488355328)) (
 gdO (decide (starts_16.length + 1 <= 4611686018427387904)) (
 some (starts_16 ++ [e12.1])
 )
 )
theorem Dq (n : Nat) (g : al) (level : Int) : fU n g level = bdO (aY n g g.X0 g.Y0 g.Step g.Width g.Height g.Z level ([] : List (A2 Int × A2 Int)) ([] : List (A2 Int × Bool))) fun v1 =>
  zb v1.1 wR [] fun starts => bdO (aA n starts) fun v21 => gdO (decide (v21.length = starts.length)) (p8 n g level v1 (starts.length : Int) v21) := rfl
theorem vT : ∀ (l : List (A2 Int × A2 Int)) (a : List (A2 Int)), a.length + l.length <= 100000 -> mY wR a l = some (a ++ l.map (·.1))
 | [], a, _ => by simp [mY]
 | e :: l, a, h => by
  rw [List.length_cons] at h
  have e1 : wR a e = some (a ++ [e.1]) := by
   unfold wR
   rw [decide_eq_true (show (a.length + 1) * 16 <= 140737488355328 by omega), decide_eq_true (show a.length + 1 <= 4611686018427387904 by omega)]; rfl
  rw [mY, e1]
  show mY wR (a ++ [e.1]) l = _
  rw [vT l _ (by rw [List.length_append, List.length_cons, List.length_nil]; omega), List.append_assoc]
  rfl
theorem yX {n : Nat} {g : al} {level : Int} {v1 : List (A2 Int × A2 Int) × List (A2 Int × Bool)} {S : List (A2 Int)} {r : List ae}
  (h1 : aY n g g.X0 g.Y0 g.Step g.Width g.Height g.Z level ([] : List (A2 Int × A2 Int)) ([] : List (A2 Int × Bool)) = some v1) (hl : v1.1.length <= 100000)
  (h2 : ∀ p : List (A2 Int), p.Perm (v1.1.map (·.1)) -> aA n p = some S) (h3 : S.length = v1.1.length) (h4 : p8 n g level v1 (v1.1.length : Int) S = some r) : fU n g level = some r := by
 rw [Dq, h1]
 show zb v1.1 wR [] _ = _
 refine C4 fun p hp => ?_
 have hpl := hp.length_eq
 rw [vT p [] (by simp; omega), List.nil_append]
 show bdO (aA n (p.map (·.1))) _ = _
 rw [h2 _ (hp.map _)]
 show gdO (decide (S.length = (p.map (·.1)).length)) (p8 n g level v1 ((p.map (·.1)).length : Int) S) = _
 rw [List.length_map, hpl, h3, decide_eq_true rfl, h4]; rfl
def exG : al := al.mk 0 0 2 3 3 [(0 : Int), (0 : Int), (0 : Int), (0 : Int), (4 : Int), (0 : Int), (0 : Int), (0 : Int), (0 : Int)]
def exV : List (A2 Int × A2 Int) × List (A2 Int × Bool) := (aY 20000 exG 0 0 2 3 3 exG.Z 1 ([] : List (A2 Int × A2 Int)) ([] : List (A2 Int × Bool))).getD default
def exK : List (A2 Int) := [⟨0, 4⟩, ⟨1, 4⟩, ⟨3, 4⟩, ⟨4, 5⟩, ⟨4, 7⟩, ⟨4, 8⟩]
def exL : List ae := (p8 20000 exG 1 exV 6 exK).getD []
theorem ET : aY 20000 exG exG.X0 exG.Y0 exG.Step exG.Width exG.Height exG.Z 1 ([] : List (A2 Int × A2 Int)) ([] : List (A2 Int × Bool)) = some exV := by kernel_rfl
theorem Es : ((perms (exV.1.map (·.1))).all fun p => aA 20000 p == some exK) = true := by kernel_rfl
theorem Eu : p8 20000 exG 1 exV (exV.1.length : Int) exK = some exL := by kernel_rfl
theorem yg : fU 20000 exG 1 = some exL :=
 yX ET (lbT (by kernel_rfl)) (fun p hp => eq_of_beq (List.all_eq_true.1 Es p (wM _ _ hp))) (by kernel_rfl) Eu
theorem A5 : ew 20000 exG 1 = some (exL, 0) := by
 unfold ew
 rw [yg]
 kernel_rfl
theorem Cy : jW 20000 exG 1 exL = some 0 := by
 unfold jW
 rw [yg]
 kernel_rfl
theorem Dn {α β : Type} {a : α} {f : α -> Option β} : bdO (some a) f = f a := rfl
theorem Bw : fH 20000 = some true := by
 unfold fH
 have e1 : cY 20000 = some exG := rfl
 simp only [e1, Dn, A5, Cy]
 refine Eq.symm ?_
 kernel_rfl
end Go.L


set_option linter.unusedVariables false
namespace Go.L
open Go Go.Eng
def Bd (r : Rat) (i : Nat) : Prop := ∃ p q : Int, r = Rat.divInt p q /\ 0 < q /\ q <= 1000000000000000 ^ i /\ -(i * 100000000 * 1000000000000000 ^ i) <= p /\ p <= i * 100000000 * 1000000000000000 ^ i
theorem BP {i : Nat} (h : i <= 56) : (1000000000000000 : Int) ^ i <= 1000000000000000 ^ 56 := by
 obtain ⟨j, hj⟩ : ∃ j, 56 = i + j := ⟨56 - i, by omega⟩
 rw [show (1000000000000000 : Int) ^ 56 = 1000000000000000 ^ i * 1000000000000000 ^ j by rw [<- Int.pow_add, <- hj]]
 have h1 : (1 : Int) <= 1000000000000000 ^ j := Int.pow_pos (by omega)
 have h2 : (0 : Int) < 1000000000000000 ^ i := Int.pow_pos (by omega)
 have := mlT h1 (Int.le_of_lt h2)
 omega
theorem Fs : (5600000000 : Int) * 1000000000000000 ^ 56 < pB 95 := dcT (by kernel_rfl)
theorem Bd.len {nn dn : Bool} {ng dg : List Int} {r : Rat} {i j : Nat} (h : Bd r i) (hi : i <= 56) (q : QL nn ng dn dg r j) : QL nn ng dn dg r 95 := by
 obtain ⟨p, d, h1, h2, h3, h4, h5⟩ := h
 have hp := BP hi
 have hb := Fs
 have h0 : (0 : Int) < 1000000000000000 ^ i := Int.pow_pos (by omega)
 have hm : (i : Int) * 100000000 * 1000000000000000 ^ i <= 5600000000 * 1000000000000000 ^ 56 := Int.mul_le_mul (by omega) hp (by omega) (by omega)
 generalize (i : Int) * 100000000 * 1000000000000000 ^ i = M at *
 generalize (1000000000000000 : Int) ^ i = P at *
 generalize (1000000000000000 : Int) ^ 56 = R at *
 exact QL.tight q h1 h2 (by omega) (by omega) (by omega)
end Go.L


set_option linter.all false
namespace Go.L
open Go Go.Eng
def h2 (A : Int) : Rat := Rat.divInt A 2
end Go.L


set_option linter.all false
namespace Go.L
open Go Go.Eng
abbrev T12 := Bool × List Int × Bool × List Int × Bool × List Int × Bool × List Int × Bool × List Int × Bool × List Int
def r1 (o : T12) : ak := ak.mk (ah.mk o.1 o.2.1) (ah.mk o.2.2.1 o.2.2.2.1)
def r2 (o : T12) : ak := ak.mk (ah.mk o.2.2.2.2.1 o.2.2.2.2.2.1) (ah.mk o.2.2.2.2.2.2.1 o.2.2.2.2.2.2.2.1)
def r3 (o : T12) : ak := ak.mk (ah.mk o.2.2.2.2.2.2.2.2.1 o.2.2.2.2.2.2.2.2.2.1) (ah.mk o.2.2.2.2.2.2.2.2.2.2.1 o.2.2.2.2.2.2.2.2.2.2.2)
end Go.L


set_option linter.all false
namespace Go.L
open Go Go.Eng
def okL (level : Int) : Prop := level.tmod 2 ≠ 0 /\ -2097153 <= level /\ level <= 2097153
theorem Ey {w h : Nat} (hw : 2 <= w) (hh : 2 <= h) (hm : w * h <= 40) : 2 * ((w - 1) * (h - 1)) <= 56 := by
 have h1 : w * 2 <= w * h := Nat.mul_le_mul_left w hh
 have h2 : 2 * h <= w * h := Nat.mul_le_mul_right h hw
 have : ∀ w, w < 21 -> ∀ h, h < 21 -> 2 <= w -> 2 <= h -> w * h <= 40 -> 2 * ((w - 1) * (h - 1)) <= 56 := by decide
 exact this w (by omega) h (by omega) hw hh hm
end Go.L


set_option linter.all false
namespace Go.L
open Go Go.Eng
theorem nn {a : Rat} (h : a ≠ 0) : (0 < -a) ↔ ¬ 0 < a := by constructor <;> intro k <;> grind
end Go.L


set_option linter.all false
namespace Go.L
open Go Go.Eng
theorem C5 {g : al} {w h : Nat} : (kI g w h).length <= 2 * ((w - 1) * (h - 1)) := by
 have := List.length_filter_le (nW g.Z) (nu g.Width (w - 1) (h - 1))
 rw [uP, Nat.mul_assoc] at this
 exact this
def wu (c level : Int) : Int := if c ≠ 0 then c else if level.tmod 2 = 0 then 1 else if level < -2097153 then 2 else if 2097153 < level then 2 else 0
theorem EH {α : Type} {c level : Int} : (cdO ((c : Int) != 0) (some c) (cdO (((level.tmod 2) : Int) == 0) (some 1) (cdO (decide (level < (-2097153))) (some 2) (cdO (decide (level > 2097153)) (some 2) (some 0)))) : Option Int) = some (wu c level) := by
 unfold wu
 by_cases h0 : c = 0
 · subst h0
   by_cases h1 : level.tmod 2 = 0
   · rw [h1]; rfl
   · rw [show (level.tmod 2 == 0) = false by simpa using h1, if_neg (by simp), if_neg h1]
     by_cases h2 : level < -2097153
     · rw [decide_eq_true h2, if_pos h2]; rfl
     · rw [decide_eq_false h2, if_neg h2]
       by_cases h3 : level > 2097153
       · rw [decide_eq_true h3, if_pos h3]; rfl
       · rw [decide_eq_false h3, if_neg h3]; rfl
 · rw [show (c != 0) = true by simpa using h0, if_pos h0]; rfl
theorem BN (g : al) (level : Int) : dT 20000 g level = some (wu (mb g) level) := by
 unfold dT
 rw [BC (by omega)]
 exact EH (α := Int)
theorem w8 (g : al) (level : Int) : eY 20000 g level = some (wu (mb g) level) := by
 unfold eY
 rw [A6 (by omega)]
 exact EH (α := Int)
theorem BX {g : al} {level : Int} (h : wu (mb g) level = 0) : mb g = 0 /\ okL level := by
 unfold wu at h
 split at h
 · omega
 · rename_i h0
   split at h
   · omega
   · rename_i h1
     split at h
     · omega
     · split at h
       · omega
       · exact ⟨by omega, h1, by omega, by omega⟩
end Go.L


set_option linter.all false
namespace Go.L
open Go Go.Eng
section
variable {γ : Type} {κ : γ -> Int}
abbrev ltK (κ : γ -> Int) : γ -> γ -> Bool := fun x y => decide (κ x < κ y)
theorem vU {lt lt' : γ -> γ -> Bool} {x : γ} : ∀ {l : List γ}, (∀ y, y ∈ l -> lt y x = lt' y x) -> lE lt x l = lE lt' x l
 | [], _ => rfl
 | y :: l, h => by
  unfold lE
  rw [h y (by simp), vU (l := l) fun z hz => h z (List.mem_cons_of_mem _ hz)]
theorem vG {lt : γ -> γ -> Bool} {x z : γ} : ∀ {l : List γ}, z ∈ lE lt x l ↔ z = x \/ z ∈ l
 | [] => by simp [lE]
 | y :: l => by
  unfold lE
  split
  · rw [List.mem_cons, vG (l := l), List.mem_cons]
    constructor
    · rintro (h | h | h)
      · exact .inr (.inl h)
      · exact .inl h
      · exact .inr (.inr h)
    · rintro (h | h | h)
      · exact .inr (.inl h)
      · exact .inl h
      · exact .inr (.inr h)
  · rw [List.mem_cons]
theorem gz {lt : γ -> γ -> Bool} {z : γ} : ∀ {l : List γ}, z ∈ gv lt l ↔ z ∈ l
 | [] => Iff.rfl
 | x :: l => by unfold gv; rw [vG, gz (l := l), List.mem_cons]
theorem y4 {lt : γ -> γ -> Bool} {x : γ} : ∀ {l : List γ}, (lE lt x l).length = l.length + 1
 | [] => rfl
 | y :: l => by
  unfold lE
  split
  · rw [List.length_cons, y4 (l := l), List.length_cons]
  · rw [List.length_cons]
theorem lD {lt : γ -> γ -> Bool} : ∀ {l : List γ}, (gv lt l).length = l.length
 | [] => rfl
 | x :: l => by unfold gv; rw [y4, lD (l := l), List.length_cons]
theorem uA {lt lt' : γ -> γ -> Bool} : ∀ {l : List γ}, (∀ x y, x ∈ l -> y ∈ l -> lt x y = lt' x y) -> gv lt l = gv lt' l
 | [], _ => rfl
 | x :: l, h => by
  unfold gv
  rw [uA (l := l) fun y z hy hz => h y z (List.mem_cons_of_mem _ hy) (List.mem_cons_of_mem _ hz)]
  exact vU fun y hy => h y x (List.mem_cons_of_mem _ (gz.1 hy)) (by simp)
theorem AO {x : γ} : ∀ {l : List γ}, l.Pairwise (fun a b => κ a < κ b) -> (∀ y, y ∈ l -> κ y ≠ κ x) -> (lE (ltK κ) x l).Pairwise (fun a b => κ a < κ b)
 | [], _, _ => by simp [lE]
 | y :: l, h, hx => by
  unfold lE
  rw [List.pairwise_cons] at h
  have hy := hx y (by simp)
  by_cases hlt : κ y < κ x
  · rw [if_pos (decide_eq_true hlt), List.pairwise_cons]
    refine ⟨fun z hz => ?_, AO h.2 fun z hz => hx z (List.mem_cons_of_mem _ hz)⟩
    rcases vG.1 hz with rfl | hz
    · exact hlt
    · exact h.1 z hz
  · rw [if_neg (by simpa [ltK] using hlt), List.pairwise_cons]
    refine ⟨fun z hz => ?_, List.pairwise_cons.2 h⟩
    rcases List.mem_cons.1 hz with rfl | hz
    · omega
    · have := h.1 z hz; omega
theorem qa : ∀ {l : List γ}, l.Pairwise (fun a b => κ a ≠ κ b) -> (gv (ltK κ) l).Pairwise (fun a b => κ a < κ b)
 | [], _ => .nil
 | x :: l, h => by
  rw [List.pairwise_cons] at h
  exact AO (qa h.2) fun y hy => (fun e => h.1 y (gz.1 hy) e.symm)
theorem wI [DecidableEq γ] {cmp : γ -> γ -> Option Int} {l : List γ} (hs : ∀ x y, x ∈ l -> y ∈ l -> ∃ c, cmp x y = some c /\ (c < 0 ↔ κ x < κ y)) (inj : ∀ x y, x ∈ l -> y ∈ l -> κ x = κ y -> x = y) : sV cmp l = some (gv (ltK κ) l) := by
 have hc : ∀ x y, x ∈ l -> y ∈ l -> (cfO cmp x y < 0 ↔ κ x < κ y) := fun x y hx hy => by
  obtain ⟨c, h1, h2⟩ := hs x y hx hy
  unfold cfO; rw [h1]; exact h2
 have ok : xL cmp l = true := by
  unfold xL
  rw [List.all_eq_true]
  intro x hx
  rw [Bool.and_eq_true, List.all_eq_true]
  refine ⟨decide_eq_true (by rw [hc x x hx hx]; omega), fun y hy => ?_⟩
  rw [Bool.and_eq_true]
  refine ⟨by obtain ⟨c, h1, _⟩ := hs x y hx hy; rw [h1]; rfl, ?_⟩
  rw [Bool.and_eq_true, List.all_eq_true]
  refine ⟨decide_eq_true ?_, fun z hz => ?_⟩
  · rw [hc x y hx hy, hc y x hy hx]
    by_cases h : κ x = κ y
    · exact .inr (.inr (inj x y hx hy h))
    · omega
  · rw [Bool.and_eq_true]
    refine ⟨decide_eq_true ?_, decide_eq_true ?_⟩
    · rw [hc x y hx hy, hc y z hy hz, hc x z hx hz]; omega
    · rw [hc x y hx hy, hc y z hy hz, hc x z hx hz]; omega
 unfold sV
 rw [if_pos ok, uA (lt' := ltK κ) fun x y hx hy => by rw [decide_eq_decide]; exact hc x y hx hy]
end
end Go.L

