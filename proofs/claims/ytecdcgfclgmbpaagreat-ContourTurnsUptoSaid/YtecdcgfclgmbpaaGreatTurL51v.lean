import Derived.Test.YtecdcgfclgmbpaaGreatTurL01q
import Derived.Test.YtecdcgfclgmbpaaGreatTurLD
import Derived.Test.YtecdcgfclgmbpaaGreatPl6Turs
import Derived.KernelRfl
import Derived.Test.YtecdcgfclgmbpaaGreatTurL52tB
set_option linter.all false
namespace Go.L
open Go Go.Eng
theorem wZ {n : Nat} {z : Int} : dX n z = some (vK z) := AU
theorem lD {n : Nat} (hn : 4096 < n) (g : ar) : fR n g = some (oW g) := by
 apply Ok.eq
 unfold fR
 refine Ok.cd (fun h => az.2 (mH fun d => ?_).symm) (fun h1 => Ok.cd (fun h => az.2 (mH fun d => ?_).symm) (fun h2 => Ok.cd (fun h => az.2 (mH fun d => ?_).symm) (fun h3 => Ok.cd (fun h => az.2 (mH fun d => ?_).symm) (fun h4 => Ok.cd (fun h => az.2 (mH fun d => ?_).symm) (fun h5 => Ok.cd (fun h => az.2 (mH fun d => ?_).symm) (fun h6 => Ok.cd (fun h => az.2 (mH fun d => ?_).symm) (fun h7 => Ok.bde wZ (Ok.cd (fun h => az.2 (mH fun d => ?_).symm) (fun h8 => Ok.bde wZ (Ok.cd (fun h => az.2 (mH fun d => ?_).symm) (fun h9 => ?_)))))))))))
 · have := d.w; have := dcT h; omega
 · have := d.w; have := dcT h; omega
 · have := d.h; have := dcT h; omega
 · have := d.h; have := dcT h; omega
 · have := d.s; have := dcT h; omega
 · have := d.s; have := dcT h; omega
 · have := d.e; simp [this] at h
 · rw [d.x] at h; cases h
 · rw [d.y] at h; cases h
 have h1 := dcF h1
 have h2 := dcF h2
 have h3 := dcF h3
 have h4 := dcF h4
 have h5 := dcF h5
 have h6 := dcF h6
 have d : Dim g := ⟨by omega, by omega, by omega, by simpa using h7, h8, h9⟩
 have ha := BC d.w d.h
 rw [wrap64_in (n := g.Width * g.Height) (by omega) (by omega)]
 unfold oW
 rw [if_pos d]
 refine Ok.cd (fun h => az.2 ?_) (fun h => ?_)
 · rw [if_neg]; simpa using h
 · have h : (g.Z.length : Int) = g.Width * g.Height := by simpa using h
   rw [if_pos h]
   refine Ok.bde (Ag (p := vR) (c := (2 : Int)) (s := g.Z) (by omega) (by omega) ?_ ?_) ?_
   · intro again k hk
     have d1 : decide ((k : Int) < (g.Z.length : Int)) = true := by simpa using hk
     have d2 : decide (k < g.Z.length) = true := by simpa using hk
     rw [d1, bh, d2, lG, wZ]
     unfold vR
     cases (g.Z.getD k default != -2147483648) <;> cases vK (g.Z.getD k default) <;> rfl
   · intro again
     have d1 : decide ((g.Z.length : Int) < (g.Z.length : Int)) = false := by simp
     rw [d1]; rfl
   · cases hz : g.Z.any vR with
     | true => exact az.2 rfl
     | false => exact az.2 rfl
theorem Aa {γ σ : Type} {n : Nat} {g : ar} {w h : Nat} (hn : 200 < n) (hg : Gd g w h) (mk : γ -> Int -> σ) (visit : A3 Int -> γ -> Option γ)
  {f1 : (σ -> Option γ) -> σ -> Option γ} {f2 : Int -> (σ -> Option γ) -> σ -> Option γ} {f3 : List (A3 Int) -> (σ -> Option γ) -> σ -> Option γ}
  (h1 : ∀ again c x, f1 again (mk c x) = cdO (decide (x < EN (g.Height - 1))) (bdO (aL n (f2 x) (mk c 0)) fun o => again (mk o (EN (x + 1)))) (some c))
  (h2 : ∀ J again c x, f2 J again (mk c x) = cdO (decide (x < EN (g.Width - 1))) (bdO (some (EN ((EN (J * g.Width)) + x))) fun k => bdO (some [A3.mk k (EN (k + 1)) (EN ((EN (k + g.Width)) + 1)), A3.mk k (EN ((EN (k + g.Width)) + 1)) (EN (k + g.Width))]) fun L => bdO (aL n (f3 L) (mk c 0)) fun o => again (mk o (EN (x + 1)))) (some c))
  (h3 : ∀ L again c x, f3 L again (mk c x) = cdO (decide (x < 2)) (gdO (inR x L.length) (gdO (inR (gt L x).e0 g.Z.length) (cdO ((gt g.Z (gt L x).e0 : Int) != (-2147483648)) (gdO (inR (gt L x).e1 g.Z.length) (cdO ((gt g.Z (gt L x).e1 : Int) != (-2147483648)) (gdO (inR (gt L x).e2 g.Z.length) (cdO ((gt g.Z (gt L x).e2 : Int) != (-2147483648)) (
    bdO (visit (gt L x) c) fun v => again (mk v (EN (x + 1)))) (again (mk c (EN (x + 1)))))) (again (mk c (EN (x + 1)))))) (again (mk c (EN (x + 1))))))) (some c))
  (P : List (A3 Int) -> γ -> Prop) {c0 : γ} (h0 : P [] c0) (hv : ∀ pre t c, t ∈ oA g w h -> pre.length < 2 * ((w - 1) * (h - 1)) -> P pre c -> Ok (visit t c) (P (pre ++ [t]))) : Ok (aL n f1 (mk c0 0)) (P (oA g w h)) := by
 have hw := hg.w1; have hh := hg.h1
 have hH := hg.H; have hW := hg.W
 have e1 : EN (g.Height - 1) = ((h - 1 : Nat) : Int) := by rw [hH, wrap64_in (by omega) (by omega)]; omega
 have e2 : EN (g.Width - 1) = ((w - 1 : Nat) : Int) := by rw [hW, wrap64_in (by omega) (by omega)]; omega
 have mem : ∀ j i k, j < h - 1 -> i < w - 1 -> k < 2 -> (ja g.Width j i).getD k default ∈ pG g.Width (w - 1) (h - 1) := by
  intro j i k hj hi hk
  unfold pG AI
  refine List.mem_flatMap.2 ⟨j, List.mem_range.2 hj, List.mem_flatMap.2 ⟨i, List.mem_range.2 hi, ?_⟩⟩
  have hk2 : k < (ja g.Width j i).length := hk
  simp only [List.getD, geT hk2, Option.getD_some]; exact List.getElem_mem hk2
 refine tp (len := h - 1) mk (fun j c => P ((pG g.Width (w - 1) j).filter (pv g.Z)) c) (by omega) (by omega) h0 ?_ ?_
 · rintro again j c hj hP ih
   rw [h1 again c j, e1]
   refine Ok.cd (fun _ => ?_) (fun h => by have := dcF h; omega)
   refine Ok.bd (R := P ((pG g.Width (w - 1) (j + 1)).filter (pv g.Z))) ?_ (fun o ho => ih _ ho)
   refine tp (len := w - 1) mk (fun i c => P ((pG g.Width (w - 1) j ++ (List.range i).flatMap (ja g.Width j)).filter (pv g.Z)) c) (by omega) (by omega) (by simpa using hP) ?_ ?_
   · rintro again2 i c hi hP2 ih2
     rw [h2 j again2 c i, e2]
     refine Ok.cd (fun _ => ?_) (fun h => by have := dcF h; omega)
     have hcell : ∀ k, k < 2 -> inR ((ja g.Width j i).getD k default).e0 g.Z.length = true /\ inR ((ja g.Width j i).getD k default).e1 g.Z.length = true /\ inR ((ja g.Width j i).getD k default).e2 g.Z.length = true := fun k hk => by rw [hW]; exact zU hg.m hw.2 hh.2 hj hi k hk
     have hL : (ja g.Width j i).length = 2 := rfl
     have hmem : ∀ k, k < 2 -> (ja g.Width j i).getD k default ∈ pG g.Width (w - 1) (h - 1) := fun k hk => mem j i k hj hi hk
     show Ok (bdO (aL n (f3 (ja g.Width j i)) (mk c 0)) fun o => again2 (mk o (EN ((i : Int) + 1)))) _
     refine Ok.bd (R := P ((pG g.Width (w - 1) j ++ (List.range (i + 1)).flatMap (ja g.Width j)).filter (pv g.Z))) ?_ (fun o ho => ih2 _ ho)
     rw [yp, <- List.append_assoc, List.filter_append]
     have hjb : (w - 1) * (j + 1) <= (w - 1) * (h - 1) := Nat.mul_le_mul_left _ (by omega)
     rw [Nat.mul_add, Nat.mul_one] at hjb
     have hpl : ((pG g.Width (w - 1) j ++ (List.range i).flatMap (ja g.Width j)).filter (pv g.Z)).length + 2 <= 2 * ((w - 1) * (h - 1)) := by
      have := List.length_filter_le (pv g.Z) (pG g.Width (w - 1) j ++ (List.range i).flatMap (ja g.Width j))
      rw [List.length_append, xj, xm, Nat.mul_assoc] at this
      omega
     generalize (pG g.Width (w - 1) j ++ (List.range i).flatMap (ja g.Width j)).filter (pv g.Z) = pre at hP2 hpl
     generalize ja g.Width j i = L at hcell hL hmem
     refine tp (len := 2) mk (fun k c => P (pre ++ (L.take k).filter (pv g.Z)) c) (by omega) (by omega) (by simpa using hP2) ?_ ?_
     · rintro again3 k c hk hP3 ih3
       obtain ⟨r0, r1, r2⟩ := hcell k hk
       have hm := hmem k hk
       have hft := x4 (L := L) (p := pv g.Z) (k := k) (by omega)
       rw [<- lG] at r0 r1 r2 hft hm
       have no : pv g.Z (gt L (k : Int)) = false -> Ok (again3 (mk c (EN ((k : Int) + 1)))) (P (pre ++ L.filter (pv g.Z))) := fun h => ih3 _ (by rw [hft, h]; simpa using hP3)
       rw [h3]
       refine Ok.cd (fun _ => ?_) (fun h => by have := dcF h; omega)
       refine Ok.gd (by rw [bh]; exact decide_eq_true (by omega)) (Ok.gd r0 ?_)
       refine Ok.cd (fun h0 => ?_) (fun h => no (by unfold pv; rw [h]; rfl))
       refine Ok.gd r1 (Ok.cd (fun h1 => ?_) (fun h => no (by unfold pv; rw [h0, h]; rfl)))
       refine Ok.gd r2 (Ok.cd (fun h2 => ?_) (fun h => no (by unfold pv; rw [h0, h1, h]; rfl)))
       have hz : pv g.Z (gt L (k : Int)) = true := by unfold pv; rw [h0, h1, h2]; rfl
       refine Ok.bd (hv _ _ _ (List.mem_filter.2 ⟨hm, hz⟩) (by rw [List.length_append]; have := List.length_filter_le (pv g.Z) (L.take k); rw [List.length_take] at this; omega) hP3) fun v hP4 => ih3 v ?_
       rw [hft, if_pos hz, <- List.append_assoc]; exact hP4
     · rintro again3 c hP3
       rw [h3]
       refine Ok.cd (fun h => by simp at h) (fun _ => az.2 ?_)
       rw [List.take_of_length_le (by omega)] at hP3; exact hP3
   · rintro again2 c hP2
     rw [h2 j again2 c, e2]
     refine Ok.cd (fun h => by have := dcT h; omega) (fun _ => az.2 ?_)
     rw [xS]; exact hP2
 · rintro again c hP
   rw [h1 again c, e1]
   exact Ok.cd (fun h => by have := dcT h; omega) (fun _ => az.2 hP)
theorem xP {γ σ : Type} {n : Nat} {g : ar} {w h : Nat} (hn : 200 < n) (hg : Gd g w h) (mk : γ -> Int -> σ) (visit : A3 Int -> γ -> Option γ)
  {f1 : (σ -> Option γ) -> σ -> Option γ} {f2 : Int -> (σ -> Option γ) -> σ -> Option γ} {f3 : List (A3 Int) -> (σ -> Option γ) -> σ -> Option γ}
  (h1 : ∀ again c x, f1 again (mk c x) = cdO (decide (x < EN (g.Height - 1))) (bdO (aL n (f2 x) (mk c 0)) fun o => again (mk o (EN (x + 1)))) (some c))
  (h2 : ∀ J again c x, f2 J again (mk c x) = cdO (decide (x < EN (g.Width - 1))) (bdO (some (EN ((EN (J * g.Width)) + x))) fun k => bdO (some [A3.mk k (EN (k + 1)) (EN ((EN (k + g.Width)) + 1)), A3.mk k (EN ((EN (k + g.Width)) + 1)) (EN (k + g.Width))]) fun L => bdO (aL n (f3 L) (mk c 0)) fun o => again (mk o (EN (x + 1)))) (some c))
  (h3 : ∀ L again c x, f3 L again (mk c x) = cdO (decide (x < 2)) (gdO (inR x L.length) (gdO (inR (gt L x).e0 g.Z.length) (cdO ((gt g.Z (gt L x).e0 : Int) != (-2147483648)) (gdO (inR (gt L x).e1 g.Z.length) (cdO ((gt g.Z (gt L x).e1 : Int) != (-2147483648)) (gdO (inR (gt L x).e2 g.Z.length) (cdO ((gt g.Z (gt L x).e2 : Int) != (-2147483648)) (
    bdO (visit (gt L x) c) fun v => again (mk v (EN (x + 1)))) (again (mk c (EN (x + 1)))))) (again (mk c (EN (x + 1)))))) (again (mk c (EN (x + 1))))))) (some c))
  (P : List (A3 Int) -> γ -> Prop) {c0 : γ} (h0 : P [] c0) (hv : ∀ pre t c, t ∈ oA g w h -> pre.length <= 8000 -> P pre c -> Ok (visit t c) (P (pre ++ [t]))) : Ok (aL n f1 (mk c0 0)) (P (oA g w h)) :=
 Aa hn hg mk visit h1 h2 h3 P h0 fun pre t c ht hl hP => hv pre t c ht (by
  have := Nat.mul_le_mul (show w - 1 <= 63 by have := hg.w1; omega) (show h - 1 <= 63 by have := hg.h1; omega)
  omega) hP
theorem CK {α β : Type} {a : Bool} {x : Option α} {f : α -> Option β} : bdO (gdO a x) f = gdO a (bdO x f) := by cases a <;> rfl
theorem CA {n : Nat} (hn : 200 < n) {g : ar} {w h : Nat} (hg : Gd g w h) : eG n g = some (oA g w h) := by
 apply Ok.eq
 unfold eG
 refine Ok.bd (R := fun o => o = oA g w h) ?_ (fun o ho => az.2 ho)
 refine xP (γ := List (A3 Int)) hn hg (fun c x => (c, x)) (fun t c => gdO (decide ((c.length + 1) * 24 <= 140737488355328)) (gdO (decide (c.length + 1 <= 4611686018427387904)) (some (c ++ [t]))))
  (fun _ _ _ => rfl) (fun _ _ _ _ => rfl) ?_ (fun pre c => c = pre) rfl ?_
 · intro L again c x
   rw [CK, CK]; rfl
 · rintro pre t c ht hl rfl
   exact Ok.gd (decide_eq_true (by omega)) (Ok.gd (decide_eq_true (by omega)) (az.2 rfl))
end Go.L


set_option linter.all false
namespace Go.L
open Go Go.Eng
def Bp {α : Type} (x : α) : List α -> List (List α)
 | [] => [[x]]
 | y :: l => (x :: y :: l) :: (Bp x l).map (y :: ·)
def perms {α : Type} : List α -> List (List α)
 | [] => [[]]
 | x :: l => (perms l).flatMap (Bp x)
theorem x5 {α : Type} {x : α} {b : List α} : ∀ a : List α, a ++ x :: b ∈ Bp x (a ++ b)
 | [] => by cases b <;> simp [Bp]
 | y :: a => by
  rw [List.cons_append, List.cons_append, Bp]
  exact List.mem_cons_of_mem _ (List.mem_map.2 ⟨_, x5 a, rfl⟩)
theorem wj {α : Type} : ∀ (l p : List α), p.Perm l -> p ∈ perms l
 | [], p, h => by rw [List.perm_nil.1 h]; simp [perms]
 | x :: l, p, h => by
  obtain ⟨a, b, rfl⟩ := List.append_of_mem (h.mem_iff.2 (by simp : x ∈ x :: l))
  have h2 : (a ++ b).Perm l := (List.perm_cons x).1 ((List.perm_middle.symm).trans h)
  exact List.mem_flatMap.2 ⟨_, wj l _ h2, x5 a⟩
def vc (n : Nat) (g : ar) (level : Int) (v1 : List (A2 Int × A2 Int) × List (A2 Int × Bool)) (sl : Int) (v21 : List (A2 Int)) : Option (List ae) :=
  bdO (aL (α := List (A2 Int × Bool) × List ae × Int) (β := List (A2 Int × Bool) × List ae) n (fun again56 (done_45, out_46, x_47) => (
   cdO (decide (x_47 < sl)) (
    gdO (inR x_47 v21.length) (
    cdO (!(getM false v1.2 (gt v21 x_47))) (
     bdO (fF n (gt v21 x_47) false done_45 g.X0 g.Y0 g.Step g.Width g.Height g.Z level v1.1 out_46) fun v61 => (
     again56 (v61.1, v61.2, EN (x_47 + 1))
     )
    ) (
     again56 (done_45, out_46, EN (x_47 + 1))
    )
    )
   ) (
    some ((done_45, out_46))
   )
  )) (([] : List (A2 Int × Bool)), [], 0)) fun o63 => (
   match o63 with
   | (done_54, out_55) => (
    bdO (aL (α := List (A2 Int × Bool) × List ae × Int) (β := List ae) n (fun again76 (done_66, out_67, x_68) => (
     cdO (decide (x_68 < (v21.length : Int))) (
      gdO (inR x_68 v21.length) (
      cdO (!(getM false done_66 (gt v21 x_68))) (
       bdO (fF n (gt v21 x_68) true done_66 g.X0 g.Y0 g.Step g.Width g.Height g.Z level v1.1 out_67) fun v81 => (
       again76 (v81.1, v81.2, EN (x_68 + 1))
       )
      ) (
       again76 (done_66, out_67, EN (x_68 + 1))
      )
      )
     ) (
      some (out_67)
     )
    )) (done_54, out_55, 0)) fun out_75 => (
     bdO (aW n out_75) fun v86 => (
     gdO (decide (v86.length = out_75.length)) (
     some (v86)
     )
     )
    )
   ))
def vY (starts_16 : List (A2 Int)) (e12 : A2 Int × A2 Int) : Option (List (A2 Int)) :=
 gdO (decide ((starts_16.length + 1) * 16 <= 140737488355328)) (
 gdO (decide (starts_16.length + 1 <= 4611686018427387904)) (
 some (starts_16 ++ [e12.1])
 )
 )
theorem B7 (n : Nat) (g : ar) (level : Int) : im n g level = bdO (bc n g g.X0 g.Y0 g.Step g.Width g.Height g.Z level ([] : List (A2 Int × A2 Int)) ([] : List (A2 Int × Bool))) fun v1 =>
  xH v1.1 vY [] fun starts => bdO (aJ n starts) fun v21 => gdO (decide (v21.length = starts.length)) (vc n g level v1 (starts.length : Int) v21) := rfl
theorem u7 : ∀ (l : List (A2 Int × A2 Int)) (a : List (A2 Int)), a.length + l.length <= 100000 -> nt vY a l = some (a ++ l.map (·.1))
 | [], a, _ => by simp [nt]
 | e :: l, a, h => by
  rw [List.length_cons] at h
  have e1 : vY a e = some (a ++ [e.1]) := by
   unfold vY
   rw [decide_eq_true (show (a.length + 1) * 16 <= 140737488355328 by omega), decide_eq_true (show a.length + 1 <= 4611686018427387904 by omega)]; rfl
  rw [nt, e1]
  show nt vY (a ++ [e.1]) l = _
  rw [u7 l _ (by rw [List.length_append, List.length_cons, List.length_nil]; omega), List.append_assoc]
  rfl
theorem Bn {n : Nat} {g : ar} {level : Int} {v1 : List (A2 Int × A2 Int) × List (A2 Int × Bool)} {S : List (A2 Int)} {r : List ae}
  (h1 : bc n g g.X0 g.Y0 g.Step g.Width g.Height g.Z level ([] : List (A2 Int × A2 Int)) ([] : List (A2 Int × Bool)) = some v1) (hl : v1.1.length <= 100000)
  (h2 : ∀ p : List (A2 Int), p.Perm (v1.1.map (·.1)) -> aJ n p = some S) (h3 : S.length = v1.1.length) (h4 : vc n g level v1 (v1.1.length : Int) S = some r) : im n g level = some r := by
 rw [B7, h1]
 show xH v1.1 vY [] _ = _
 refine Cc fun p hp => ?_
 have hpl := hp.length_eq
 rw [u7 p [] (by simp; omega), List.nil_append]
 show bdO (aJ n (p.map (·.1))) _ = _
 rw [h2 _ (hp.map _)]
 show gdO (decide (S.length = (p.map (·.1)).length)) (vc n g level v1 ((p.map (·.1)).length : Int) S) = _
 rw [List.length_map, hpl, h3, decide_eq_true rfl, h4]; rfl
def exG : ar := ar.mk 0 0 2 3 3 [(0 : Int), (0 : Int), (0 : Int), (0 : Int), (4 : Int), (0 : Int), (0 : Int), (0 : Int), (0 : Int)]
def exV : List (A2 Int × A2 Int) × List (A2 Int × Bool) := (bc 20000 exG 0 0 2 3 3 exG.Z 1 ([] : List (A2 Int × A2 Int)) ([] : List (A2 Int × Bool))).getD default
def exK : List (A2 Int) := [⟨0, 4⟩, ⟨1, 4⟩, ⟨3, 4⟩, ⟨4, 5⟩, ⟨4, 7⟩, ⟨4, 8⟩]
def exL : List ae := (vc 20000 exG 1 exV 6 exK).getD []
theorem Dv : bc 20000 exG exG.X0 exG.Y0 exG.Step exG.Width exG.Height exG.Z 1 ([] : List (A2 Int × A2 Int)) ([] : List (A2 Int × Bool)) = some exV := by kernel_rfl
theorem DG : ((perms (exV.1.map (·.1))).all fun p => aJ 20000 p == some exK) = true := by kernel_rfl
theorem D4 : vc 20000 exG 1 exV (exV.1.length : Int) exK = some exL := by kernel_rfl
theorem xD : im 20000 exG 1 = some exL :=
 Bn Dv (lbT (by kernel_rfl)) (fun p hp => eq_of_beq (List.all_eq_true.1 DG p (wj _ _ hp))) (by kernel_rfl) D4
theorem Au : j8 20000 exG 1 = some (exL, 0) := by
 unfold j8
 rw [xD]
 kernel_rfl
theorem Bj : j7 20000 exG 1 exL = some 0 := by
 unfold j7
 rw [xD]
 kernel_rfl
theorem Cf {α β : Type} {a : α} {f : α -> Option β} : bdO (some a) f = f a := rfl
theorem Ao : fQ 20000 = some true := by
 unfold fQ
 have e1 : di 20000 = some exG := rfl
 simp only [e1, Cf, Au, Bj]
 refine Eq.symm ?_
 kernel_rfl
end Go.L


set_option linter.all false
namespace Go.L
open Go Go.Eng
def xT (d : Int) : Bool := decide (d >= 1000000000)
def vI (neg : Bool) (g : List Int) : Bool := !(g.any xT) && (if g = [] then !neg else (g.getD (g.length - 1) 0 != 0))
theorem BF : ∀ {g : List Int}, Dig g -> (g ≠ [] -> g.getD (g.length - 1) 0 ≠ 0) -> Can g
 | [], _, _ => trivial
 | d :: l, h, hl => by
  refine ⟨h d (by simp), fun e => ?_, BF (fun x hx => h x (by simp [hx])) fun hne => ?_⟩
  · subst e; simpa using hl (by simp)
  · have hpos : 0 < l.length := List.length_pos_iff.2 hne
    have := hl (by simp)
    have e : (d :: l).length - 1 = (l.length - 1) + 1 := by rw [List.length_cons]; omega
    rw [e] at this
    simpa using this
theorem CN {neg : Bool} {g : List Int} (h0 : ∀ d ∈ g, 0 <= d) (h : vI neg g = true) : ∃ v, isI neg g v := by
 unfold vI at h
 rw [Bool.and_eq_true] at h
 have hb : g.any xT = false := by simpa using h.1
 have hd : Dig g := fun d hd => by
  have := h0 d hd
  have := (List.any_eq_false.1 hb) d hd
  unfold xT at this
  have := dcF (by simpa using this : decide (d >= 1000000000) = false)
  omega
 refine ⟨if neg then -vl g else vl g, BF hd fun hne => ?_, fun hn e => ?_, rfl⟩
 · have h2 := h.2
   rw [if_neg hne] at h2
   simpa using h2
 · have h2 := h.2
   rw [if_pos e, hn] at h2; cases h2
theorem xU {n : Nat} {x : ai} (hn : 1000 <= n) (hl : x.Groups.length <= 900) : dM n x = some (vI x.Negative x.Groups) := by
 unfold dM vI
 by_cases hx : x.Groups = []
 · rw [hx]; rfl
 · have hpos : 0 < x.Groups.length := List.length_pos_iff.2 hx
   have e : (((x.Groups.length : Int) : Int) == 0) = false := by simp [hx]
   rw [e, if_neg hx]
   show gdO _ _ = _
   rw [jE hpos (by omega), bh, dG]
   have e1 : decide (x.Groups.length - 1 < x.Groups.length) = true := by simp; omega
   rw [e1]
   show cdO _ _ _ = _
   have hs : aR n x.Groups = some (x.Groups.any xT) := by
    unfold aR
    have : bg n x.Groups = some (nD xT x.Groups) := nZ (fun x => rfl) (by omega) (by omega)
    rw [this]
    show some (decide (nD _ x.Groups >= 0)) = _
    rw [sZ]
   rw [hs]
   cases hq : (x.Groups.getD (x.Groups.length - 1) 0 != 0)
   · rw [Bool.and_false]; rfl
   · rw [Bool.and_true]; rfl
theorem u9 {γ ρ : Type} [Inhabited γ] {n : Nat} {s : List γ} {p : γ -> Bool} {c : ρ} {F : (Int -> Option (Sum Unit ρ)) -> Int -> Option (Sum Unit ρ)} (hn : s.length < n) (hl : s.length <= 9223372036854775806)
  (step : ∀ again (k : Nat), k < s.length -> F again (k : Int) = if p (s.getD k default) = true then some (.inr c) else again (EN ((k : Int) + 1))) (hend : ∀ again, F again (s.length : Int) = some (.inl ())) : aL n F 0 = some (if s.any p = true then .inr c else .inl ()) := by
 apply Ok.eq
 refine sm (len := s.length) (fun k => ∀ j, j < k -> p (s.getD j default) = false) hn hl (by intro j hj; omega) ?_ ?_
 · intro again k hk hP ih
   rw [step again k hk]
   by_cases h : p (s.getD k default) = true
   · rw [if_pos h]
     refine az.2 ?_
     rw [if_pos]
     refine List.any_eq_true.2 ⟨s.getD k default, ?_, h⟩
     simp only [List.getD, geT hk, Option.getD_some]; exact List.getElem_mem hk
   · rw [if_neg h]
     exact ih fun j hj => by
      by_cases hjk : j = k
      · rw [hjk]; simpa using h
      · exact hP j (by omega)
 · intro again hP
   rw [hend]
   refine az.2 ?_
   rw [if_neg]
   intro ha
   obtain ⟨x, hx, hp⟩ := List.any_eq_true.1 ha
   obtain ⟨j, hj, rfl⟩ := List.getElem_of_mem hx
   have := hP j hj
   simp only [List.getD, geT hj, Option.getD_some] at this
   rw [this] at hp; cases hp
theorem x8 {n : Nat} {x : ai} (hn : 1000 <= n) (hl : x.Groups.length <= 900) : ck n x = some (vI x.Negative x.Groups) := by
 apply Ok.eq
 unfold ck
 refine Ok.bde (u9 (p := xT) (c := false) (s := x.Groups) (by omega) (by omega) ?_ ?_) ?_
 · intro again k hk
   have d1 : decide ((k : Int) < (x.Groups.length : Int)) = true := by simpa using hk
   have d2 : decide (k < x.Groups.length) = true := by simpa using hk
   rw [d1, bh, d2, lG]
   unfold xT
   cases decide (x.Groups.getD k default >= 1000000000) <;> rfl
 · intro again
   have d1 : decide ((x.Groups.length : Int) < (x.Groups.length : Int)) = false := by simp
   rw [d1]; rfl
 · unfold vI
   cases hb : x.Groups.any xT with
   | true => exact az.2 rfl
   | false =>
    by_cases hx : x.Groups = []
    · rw [if_neg (by decide), hx]
      exact az.2 rfl
    · have hpos : 0 < x.Groups.length := List.length_pos_iff.2 hx
      rw [if_neg (by decide), if_neg hx]
      refine Ok.cd (fun h => absurd (by simpa using h) hx) (fun _ => ?_)
      rw [jE hpos (by omega)]
      refine Ok.gd (by rw [bh]; simp; omega) (az.2 ?_)
      rw [dG]; rfl
theorem Av {n : Nat} {x : ak} (hn : 20000 <= n) (d1 : ∀ d ∈ x.Num.Groups, 0 <= d) (d2 : ∀ d ∈ x.Den.Groups, 0 <= d) (l1 : x.Num.Groups.length <= 16) (l2 : x.Den.Groups.length <= 16) :
  (cS n x = some true /\ bu n x = some true /\ ∃ r, Qx x r 16) \/ (cS n x = some false /\ bu n x = some false) := by
 have a1 := xU (n := n) (x := x.Num) (by omega) (by omega)
 have a2 := xU (n := n) (x := x.Den) (by omega) (by omega)
 have b1 := x8 (n := n) (x := x.Num) (by omega) (by omega)
 have b2 := x8 (n := n) (x := x.Den) (by omega) (by omega)
 unfold cS bu
 rw [a1, b1, a2, b2]
 cases v1 : vI x.Num.Negative x.Num.Groups with
 | false => exact .inr ⟨rfl, rfl⟩
 | true =>
  cases v2 : vI x.Den.Negative x.Den.Groups with
  | false => exact .inr ⟨rfl, rfl⟩
  | true =>
   obtain ⟨p, hp⟩ := CN d1 v1
   obtain ⟨q, hq⟩ := CN d2 v2
   show (bdO (c8 n x.Den) _ = _ /\ bdO (cf n x.Den) _ = _ /\ _) \/ (bdO (c8 n x.Den) _ = _ /\ bdO (cf n x.Den) _ = _)
   rw [kf (by omega) (by omega) hq, R.kf (by omega) (by omega) hq]
   by_cases hq0 : q <= 0
   · have : decide (sgn q <= 0) = true := decide_eq_true (by have := cM q; omega)
     refine .inr ⟨?_, ?_⟩
     · show cdO (decide (sgn q <= 0)) _ _ = _
       rw [this]; rfl
     · show cdO (decide (sgn q <= 0)) _ _ = _
       rw [this]; rfl
   · have hs : decide (sgn q <= 0) = false := decide_eq_false (by have := cM q; omega)
     obtain ⟨g1, eg1, hg1⟩ := rK (n := n) (by omega) hp hq (by omega) (by omega)
     obtain ⟨g2, eg2, hg2⟩ := R.rK (n := n) (by omega) hp hq (by omega) (by omega)
     obtain ⟨o1, eo1, ho1⟩ := wu (n := n) (v := 1) (by omega) (by decide) (by decide)
     obtain ⟨o2, eo2, ho2⟩ := R.ss (n := n) (v := 1) (by omega) (by decide) (by decide)
     have hgb := gN hp (k := 16) l1
     have hqb := gN hq (k := 16) l2
     have hgle : 0 <= gZ p q /\ gZ p q <= q := by
      unfold gZ
      have := Nat.gcd_le_right p.natAbs (by omega : 0 < q.natAbs)
      omega
     have lg1 : g1.Groups.length <= 16 := iu hg1 (by omega) (by omega)
     have lg2 : g2.Groups.length <= 16 := iu hg2 (by omega) (by omega)
     have lo1 := ie ho1 (by decide) (by decide)
     have lo2 := ie ho2 (by decide) (by decide)
     have c1 := lS (n := n) (by omega) hg1 ho1 (by omega) (by omega)
     have c2 := R.lS (n := n) (by omega) hg2 ho2 (by omega) (by omega)
     have t1 : (cdO (decide (sgn q <= 0)) (some false) (bdO (hZ n x.Num x.Den) fun v10 => bdO (fl n 1) fun v12 => bdO (fc n v10 v12) fun v14 => some ((v14 : Int) == 0)) : Option Bool) = some (sgn (gZ p q - 1) == 0) := by
      rw [hs, eg1, eo1]
      show bdO (fc n g1 o1) _ = _
      rw [c1]; rfl
     have t2 : (cdO (decide (sgn q <= 0)) (some false) (bdO (eN n x.Num x.Den) fun v10 => bdO (bV n 1) fun v12 => bdO (dj n v10 v12) fun v14 => some ((v14 : Int) == 0)) : Option Bool) = some (sgn (gZ p q - 1) == 0) := by
      rw [hs, eg2, eo2]
      show bdO (dj n g2 o2) _ = _
      rw [c2]; rfl
     by_cases hg : gZ p q = 1
     · have e : (sgn (gZ p q - 1) == 0) = true := by rw [hg]; rfl
       rw [e] at t1 t2
       refine .inl ⟨t1, t2, ⟨p, q.toNat, by omega, ?_⟩, ?_⟩
       · have : q.toNat = q.natAbs := by omega
         rw [this]
         unfold gZ at hg
         exact (by omega : Nat.gcd p.natAbs q.natAbs = 1)
       · refine ⟨hp, ?_, l1, l2⟩
         show isI _ _ ((q.toNat : Nat) : Int)
         rw [Int.toNat_of_nonneg (by omega)]; exact hq
     · have e : (sgn (gZ p q - 1) == 0) = false := by
        have := cM (gZ p q - 1)
        rw [beq_eq_false_iff_ne]; omega
       rw [e] at t1 t2
       exact .inr ⟨t1, t2⟩
end Go.L

