import Derived.Test.YtlpfiiejhikalaaGreatPl2Trks
import Derived.Test.YtlpfiiejhikalaaGreatScSTrks
import Derived.Test.YtlpfiiejhikalaaGreatSc11Trks
import Derived.Test.YtlpfiiejhikalaaGreatTrkLD
import Derived.Test.YtlpfiiejhikalaaGreatPl6Trks
set_option linter.all false
namespace Go.L
open Go Go.Eng
section
variable {γ : Type} {κ : γ -> Int}
abbrev ltK (κ : γ -> Int) : γ -> γ -> Bool := fun x y => decide (κ x < κ y)
theorem qP {lt lt' : γ -> γ -> Bool} {x : γ} : ∀ {l : List γ}, (∀ y, y ∈ l -> lt y x = lt' y x) -> kV lt x l = kV lt' x l
 | [], _ => rfl
 | y :: l, h => by
  unfold kV
  rw [h y (by simp), qP (l := l) fun z hz => h z (List.mem_cons_of_mem _ hz)]
theorem oq {lt : γ -> γ -> Bool} {x z : γ} : ∀ {l : List γ}, z ∈ kV lt x l ↔ z = x \/ z ∈ l
 | [] => by simp [kV]
 | y :: l => by
  unfold kV
  split
  · rw [List.mem_cons, oq (l := l), List.mem_cons]
    constructor
    · rintro (h | h | h)
      · exact .inr (.inl h)
      · exact .inl h
      · exact .inr (.inr h)
    · rintro (h | h | h)
      · exact .inr (.inl h)
      · exact .inl h
      · exact .inr (.inr h)
  · rw [List.mem_cons]
theorem lx {lt : γ -> γ -> Bool} {z : γ} : ∀ {l : List γ}, z ∈ fG lt l ↔ z ∈ l
 | [] => Iff.rfl
 | x :: l => by unfold fG; rw [oq, lx (l := l), List.mem_cons]
theorem uI {lt : γ -> γ -> Bool} {x : γ} : ∀ {l : List γ}, (kV lt x l).length = l.length + 1
 | [] => rfl
 | y :: l => by
  unfold kV
  split
  · rw [List.length_cons, uI (l := l), List.length_cons]
  · rw [List.length_cons]
theorem iV {lt : γ -> γ -> Bool} : ∀ {l : List γ}, (fG lt l).length = l.length
 | [] => rfl
 | x :: l => by unfold fG; rw [uI, iV (l := l), List.length_cons]
theorem pK {lt lt' : γ -> γ -> Bool} : ∀ {l : List γ}, (∀ x y, x ∈ l -> y ∈ l -> lt x y = lt' x y) -> fG lt l = fG lt' l
 | [], _ => rfl
 | x :: l, h => by
  unfold fG
  rw [pK (l := l) fun y z hy hz => h y z (List.mem_cons_of_mem _ hy) (List.mem_cons_of_mem _ hz)]
  exact qP fun y hy => h y x (List.mem_cons_of_mem _ (lx.1 hy)) (by simp)
theorem wR {x : γ} : ∀ {l : List γ}, l.Pairwise (fun a b => κ a < κ b) -> (∀ y, y ∈ l -> κ y ≠ κ x) -> (kV (ltK κ) x l).Pairwise (fun a b => κ a < κ b)
 | [], _, _ => by simp [kV]
 | y :: l, h, hx => by
  unfold kV
  rw [List.pairwise_cons] at h
  have hy := hx y (by simp)
  by_cases hlt : κ y < κ x
  · rw [if_pos (decide_eq_true hlt), List.pairwise_cons]
    refine ⟨fun z hz => ?_, wR h.2 fun z hz => hx z (List.mem_cons_of_mem _ hz)⟩
    rcases oq.1 hz with rfl | hz
    · exact hlt
    · exact h.1 z hz
  · rw [if_neg (by simpa [ltK] using hlt), List.pairwise_cons]
    refine ⟨fun z hz => ?_, List.pairwise_cons.2 h⟩
    rcases List.mem_cons.1 hz with rfl | hz
    · omega
    · have := h.1 z hz; omega
theorem uC : ∀ {l : List γ}, l.Pairwise (fun a b => κ a ≠ κ b) -> (fG (ltK κ) l).Pairwise (fun a b => κ a < κ b)
 | [], _ => .nil
 | x :: l, h => by
  rw [List.pairwise_cons] at h
  exact wR (uC h.2) fun y hy => (fun e => h.1 y (lx.1 hy) e.symm)
theorem sP [DecidableEq γ] {cmp : γ -> γ -> Option Int} {l : List γ} (hs : ∀ x y, x ∈ l -> y ∈ l -> ∃ c, cmp x y = some c /\ (c < 0 ↔ κ x < κ y)) (inj : ∀ x y, x ∈ l -> y ∈ l -> κ x = κ y -> x = y) : pP cmp l = some (fG (ltK κ) l) := by
 have hc : ∀ x y, x ∈ l -> y ∈ l -> (cfO cmp x y < 0 ↔ κ x < κ y) := fun x y hx hy => by
  obtain ⟨c, h1, h2⟩ := hs x y hx hy
  unfold cfO; rw [h1]; exact h2
 have ok : s8 cmp l = true := by
  unfold s8
  rw [List.all_eq_true]
  intro x hx
  rw [Bool.and_eq_true, List.all_eq_true]
  refine ⟨decide_eq_true (by rw [hc x x hx hx]; omega), fun y hy => ?_⟩
  rw [Bool.and_eq_true]
  refine ⟨by obtain ⟨c, h1, _⟩ := hs x y hx hy; rw [h1]; rfl, ?_⟩
  rw [Bool.and_eq_true, List.all_eq_true]
  refine ⟨decide_eq_true ?_, fun z hz => ?_⟩
  · rw [hc x y hx hy, hc y x hy hx]
    by_cases h : κ x = κ y
    · exact .inr (.inr (inj x y hx hy h))
    · omega
  · rw [Bool.and_eq_true]
    refine ⟨decide_eq_true ?_, decide_eq_true ?_⟩
    · rw [hc x y hx hy, hc y z hy hz, hc x z hx hz]; omega
    · rw [hc x y hx hy, hc y z hy hz, hc x z hx hz]; omega
 unfold pP
 rw [if_pos ok, pK (lt' := ltK κ) fun x y hx hy => by rw [decide_eq_decide]; exact hc x y hx hy]
end
end Go.L


set_option linter.all false
namespace Go.L
open Go Go.Eng
end Go.L


set_option linter.all false
namespace Go.L
open Go Go.Eng
section
variable {γ : Type} [Inhabited γ]
def kpG (E : γ -> γ -> Bool) (s : List γ) : Nat -> List γ
 | 0 => []
 | t + 1 => if t = 0 \/ E (s.getD t default) (s.getD (t - 1) default) = false then kpG E s t ++ [s.getD t default] else kpG E s t
theorem ti {E : γ -> γ -> Bool} {s : List γ} : ∀ t, (kpG E s t).length <= t
 | 0 => Nat.le_refl _
 | t + 1 => by
  unfold kpG; have := ti (E := E) (s := s) t
  split
  · simp; omega
  · omega
theorem pg {l : List γ} {k : Nat} (h : k < l.length) : l.getD k default ∈ l := by
 rw [List.getD_eq_getElem?_getD, geT h]; exact List.getElem_mem h
theorem uj {s : List γ} {k : Nat} (hk : k < s.length) : s.take (k + 1) = s.take k ++ [s.getD k default] := by
 rw [List.take_add_one, List.getD_eq_getElem?_getD, geT hk]; rfl
theorem yy {n : Nat} {s : List γ} {z : γ} {f : γ -> γ -> Option Bool} {E : γ -> γ -> Bool} (hE : ∀ x ∈ s, ∀ y ∈ s, f x y = some (E x y)) (hl : s.length <= 1024) (hn : 1024 < n) :
 cdO (decide ((s.length : Int) < 2)) (
  some (s)
 ) (
  bdO (aP (α := Int) (β := Sum (Unit) (List γ)) n (fun again118 k_81 => (
   cdO (decide (k_81 < (s.length : Int))) (
    gdO (inR k_81 s.length) (
    gdO (inR (Ew (k_81 - 1)) s.length) (
    bdO (f (gt s k_81) (gt s (Ew (k_81 - 1)))) fun v122 => (
    cdO v122 (
     gdO (inS k_81 (s.length : Int) s.length) (
     bdO (aP (α := List γ × Int × Int) (β := List γ × Int) n (fun again140 (s_126, k_127, k2_128) => (
      cdO (decide (k2_128 < ((s.length - k_81.toNat : Nat) : Int))) (
       gdO (inR k2_128 (s.length - k_81.toNat)) (
       gdO (inR ((k_81.toNat + k2_128.toNat : Nat) : Int) s_126.length) (
       gdO (inR (Ew (k2_128 - 1)) (s.length - k_81.toNat)) (
       gdO (inR ((k_81.toNat + (Ew (k2_128 - 1)).toNat : Nat) : Int) s_126.length) (
       bdO (f (gt s_126 ((k_81.toNat + k2_128.toNat : Nat) : Int)) (gt s_126 ((k_81.toNat + (Ew (k2_128 - 1)).toNat : Nat) : Int))) fun v146 => (
       cdO (!v146) (
        gdO (inR k_127 s_126.length) (
        again140 (s_126.set k_127.toNat (gt s_126 ((k_81.toNat + k2_128.toNat : Nat) : Int)), Ew (k_127 + 1), Ew (k2_128 + 1))
        )
       ) (
        again140 (s_126, k_127, Ew (k2_128 + 1))
       )
       )
       )
       )
       )
       )
      ) (
       some ((s_126, k_127))
      )
     )) (s, k_81, 1)) fun o150 => (
      match o150 with
      | (s_138, k_139) => (
       gdO (inS k_139 (s_138.length : Int) s_138.length) (
       gdO (inS 0 k_139 s_138.length) (
       some (Sum.inr (((fZ s_138 k_139.toNat (List.replicate (s_138.length - k_139.toNat) z)).take k_139.toNat)))
       )
       )
      ))
     )
    ) (
     again118 (Ew (k_81 + 1))
    )
    )
    )
    )
   ) (
    some (Sum.inl ())
   )
  )) 1) fun o155 => (
   match o155 with
   | .inl _ => (
    some (s)
   )
   | .inr (r0) => (
    some r0
   ))
 ) = some (kpG E s s.length) := by
 apply Ok.eq
 have kp0 : kpG E s 1 = [s.getD 0 default] := by simp [kpG]
 refine Ok.cd (fun h => aw.2 ?_) (fun h => ?_)
 · have h := dcT h
   match s, h with
   | [], _ => rfl
   | [a], _ => simp [kpG]
   | a :: b :: s, h => simp at h; omega
 · have h2 : 2 <= s.length := by have := dcF h; omega
   refine Ok.bd (R := fun o => match o with | .inl _ => s = kpG E s s.length | .inr r => r = kpG E s s.length) ?_ (fun o ho => by cases o <;> exact aw.2 ho)
   refine bI (fun x : Int => ∃ k : Nat, x = k /\ 1 <= k /\ k <= s.length /\ kpG E s k = s.take k) (fun x => s.length - x.toNat) ?_ n 1 ⟨1, rfl, by omega, by omega, by rw [kp0, uj (by omega)]; rfl⟩ (by simp; omega)
   rintro again x ⟨k, rfl, h1, hk, hP⟩ ih
   refine Ok.cd (fun hlt => ?_) (fun hge => ?_)
   · have hlt : k < s.length := by have := dcT hlt; omega
     have ek : ((k : Int) - 1) = ((k - 1 : Nat) : Int) := by omega
     rw [wrap64_in (n := (k : Int) - 1) (by omega) (by omega), ek, aJ, aJ, cO, cO]
     refine Ok.gd (decide_eq_true hlt) (Ok.gd (decide_eq_true (by omega)) ?_)
     refine Ok.bde (hE _ (pg hlt) _ (pg (show k - 1 < s.length by omega))) ?_
     refine Ok.cd (fun he => ?_) (fun he => ?_)
     · have hP1 : kpG E s (k + 1) = s.take k := by
        rw [kpG, if_neg (by rw [he]; simp; omega), hP]
       refine Ok.gd (by rw [sY]; omega) ?_
       have ekn : ((k : Int)).toNat = k := by omega
       rw [ekn]
       refine Ok.bd (R := fun o => o.1.length = s.length /\ (o.2 : Int) = ((kpG E s s.length).length : Nat) /\ o.1.take (kpG E s s.length).length = kpG E s s.length) ?_ ?_
       · refine bI (fun q : List γ × Int × Int => ∃ m : Nat, q.2.2 = m /\ 1 <= m /\ k + m <= s.length /\ q.1.length = s.length /\ q.2.1 = ((kpG E s (k + m)).length : Nat) /\ (kpG E s (k + m)).length <= k + m - 1 /\ q.1.take (kpG E s (k + m)).length = kpG E s (k + m) /\ ∀ j, (kpG E s (k + m)).length <= j -> q.1.getD j default = s.getD j default) (fun q => s.length - q.2.2.toNat) ?_ n _ ?_ ?_
         · rintro again2 ⟨b, x, y⟩ ⟨m, hm, m1, mk, bl, hx, hle, ht, hg⟩ ih2
           dsimp only at hm bl hx ht hg
           subst hm hx
           dsimp only
           have e1 : ((s.length - k : Nat) : Int) = (s.length : Int) - k := by omega
           refine Ok.cd (fun hlt2 => ?_) (fun hge2 => ?_)
           · have hlt2 : k + m < s.length := by have := dcT hlt2; omega
             have em : ((m : Int)).toNat = m := by omega
             have em1 : ((m : Int) - 1) = ((m - 1 : Nat) : Int) := by omega
             have em1n : (((m - 1 : Nat) : Int)).toNat = m - 1 := by omega
             rw [wrap64_in (n := (m : Int) - 1) (by omega) (by omega), em1, em, em1n, aJ, aJ, aJ, aJ, cO, cO]
             refine Ok.gd (decide_eq_true (by omega)) (Ok.gd (decide_eq_true (by omega)) (Ok.gd (decide_eq_true (by omega)) (Ok.gd (decide_eq_true (by omega)) ?_)))
             have g1 := hg (k + m) (by omega)
             have g2 := hg (k + (m - 1)) (by omega)
             rw [g1, g2]
             refine Ok.bde (hE _ (pg hlt2) _ (pg (show k + (m - 1) < s.length by omega))) ?_
             have ekm : k + (m - 1) = k + m - 1 := by omega
             rw [ekm]
             have hw : Ew ((m : Int) + 1) = ((m + 1 : Nat) : Int) := by rw [wrap64_in (by omega) (by omega)]; omega
             rw [hw]
             clear hw
             refine Ok.cd (fun hn => ?_) (fun hn => ?_)
             · have hn : E (s.getD (k + m) default) (s.getD (k + m - 1) default) = false := by simpa using hn
               have hK : kpG E s (k + (m + 1)) = kpG E s (k + m) ++ [s.getD (k + m) default] := by
                rw [<- Nat.add_assoc, kpG, if_pos (.inr hn)]
               have hw2 : Ew ((((kpG E s (k + m)).length : Nat) : Int) + 1) = (((kpG E s (k + m)).length + 1 : Nat) : Int) := by rw [wrap64_in (by omega) (by omega)]; omega
               rw [hw2]
               clear hw2
               refine Ok.gd (decide_eq_true (by omega)) ?_
               have en : ((((kpG E s (k + m)).length : Nat) : Int)).toNat = (kpG E s (k + m)).length := by omega
               rw [en]
               refine ih2 _ ⟨m + 1, rfl, by omega, by omega, by simpa using bl, by rw [hK]; simp, by rw [hK]; simp; omega, ?_, ?_⟩ ?_
               · dsimp only
                 rw [hK, List.length_append, List.length_singleton, uj (by simp; omega), List.take_set_of_le (by omega), ht]
                 congr 1
                 rw [List.getD_eq_getElem?_getD, List.getElem?_set, if_pos rfl, bl, if_pos (by omega)]; rfl
               · intro j hj
                 dsimp only
                 rw [hK] at hj
                 simp only [List.length_append, List.length_singleton] at hj
                 have := hg j (by omega)
                 simp only [List.getD, List.getElem?_set, if_neg (by omega : ¬ (kpG E s (k + m)).length = j)] at this ⊢
                 exact this
               · show s.length - ((m + 1 : Nat) : Int).toNat < s.length - ((m : Int)).toNat
                 omega
             · have hn : E (s.getD (k + m) default) (s.getD (k + m - 1) default) = true := by simpa using hn
               have hK : kpG E s (k + (m + 1)) = kpG E s (k + m) := by
                rw [<- Nat.add_assoc, kpG, if_neg (by rw [hn]; simp; omega)]
               refine ih2 _ ⟨m + 1, rfl, by omega, by omega, bl, by rw [hK], by rw [hK]; omega, by rw [hK]; exact ht, by rw [hK]; exact hg⟩ ?_
               show s.length - ((m + 1 : Nat) : Int).toNat < s.length - ((m : Int)).toNat
               omega
           · have hge2 := dcF hge2
             have e : k + m = s.length := by omega
             rw [e] at ht
             refine aw.2 ⟨bl, ?_, ht⟩
             dsimp only
             rw [e]
         · exact ⟨1, rfl, by omega, by omega, rfl, by show (k : Int) = _; rw [hP1, List.length_take, Nat.min_eq_left (by omega)], by rw [hP1, List.length_take]; omega, by rw [hP1, List.length_take, Nat.min_eq_left (by omega)], fun j hj => rfl⟩
         · show s.length - 1 < n
           omega
       · rintro ⟨b, x⟩ ⟨bl, hx, ht⟩
         dsimp only at bl hx ht
         subst hx
         dsimp only
         have hK := ti (E := E) (s := s) s.length
         refine Ok.gd (by rw [sY]; omega) (Ok.gd (by rw [sY]; omega) (aw.2 ?_))
         have en : ((((kpG E s s.length).length : Nat) : Int)).toNat = (kpG E s s.length).length := by omega
         rw [en, uD (by simp; omega)]
         show List.take _ _ = _
         rw [List.append_assoc, List.take_append_of_le_length (by rw [List.length_take]; omega), List.take_take, Nat.min_self]
         exact ht
     · have hw : Ew ((k : Int) + 1) = ((k + 1 : Nat) : Int) := by rw [wrap64_in (by omega) (by omega)]; omega
       rw [hw]
       clear hw
       refine ih _ ⟨k + 1, rfl, by omega, by omega, ?_⟩ (by omega)
       rw [kpG, if_pos (.inr he), hP, uj hlt]
   · have hge := dcF hge
     have e : k = s.length := by omega
     subst e
     refine aw.2 ?_
     show s = _
     rw [hP, List.take_length]
end
end Go.L


set_option linter.all false
namespace Go.L
open Go Go.Eng
section
variable {κ α : Type} [DecidableEq κ]
theorem iK {x : κ} : ∀ {l : List (κ × α)}, cW l x = true ↔ ∃ p ∈ l, p.1 = x
 | [] => by simp [cW]
 | p :: l => by
  unfold cW
  cases h : x == p.1 with
  | true =>
   have h := eq_of_beq h
   exact ⟨fun _ => ⟨p, by simp, h.symm⟩, fun _ => rfl⟩
  | false =>
   show cW l x = true ↔ _
   rw [iK (l := l)]
   constructor
   · rintro ⟨q, hq, e⟩; exact ⟨q, List.mem_cons_of_mem _ hq, e⟩
   · rintro ⟨q, hq, e⟩
     rcases List.mem_cons.1 hq with rfl | hq
     · rw [e] at h; simp at h
     · exact ⟨q, hq, e⟩
theorem mb {x : κ} {v : α} : ∀ {l : List (κ × α)}, cW l x = false -> dT l x v = l ++ [(x, v)]
 | [], _ => rfl
 | p :: l, h => by
  unfold cW at h
  unfold dT
  cases hx : x == p.1 with
  | true => rw [hx] at h; cases h
  | false =>
   rw [hx] at h
   show p :: dT l x v = p :: (l ++ [(x, v)])
   rw [mb h]
theorem qS {z v : α} {x y : κ} : ∀ {l : List (κ × α)}, getM z (dT l x v) y = if y = x then v else getM z l y
 | [] => by
  unfold dT getM getM
  by_cases h : y = x
  · subst h; simp
  · rw [if_neg h, show (y == x) = false by simpa using h]; rfl
 | p :: l => by
  unfold dT
  cases hx : x == p.1 with
  | true =>
   have hx := eq_of_beq hx
   show getM z ((x, v) :: l) y = _
   unfold getM
   by_cases h : y = x
   · subst h; simp
   · rw [if_neg h]; subst hx; rw [show (y == p.1) = false by simpa using h]; rfl
  | false =>
   show getM z (p :: dT l x v) y = _
   unfold getM
   rw [qS (l := l)]
   cases hy : y == p.1 with
   | true =>
    have hy := eq_of_beq hy
    subst hy
    have hne : ¬ p.1 = x := fun e => by rw [e] at hx; simp at hx
    simp only [cond_true, if_neg hne]
   | false => rfl
theorem qO {z v : α} {x : κ} : ∀ {l : List (κ × α)}, l.Pairwise (fun p q => p.1 ≠ q.1) -> (x, v) ∈ l -> getM z l x = v
 | [], _, h => by cases h
 | p :: l, hp, h => by
  rw [List.pairwise_cons] at hp
  unfold getM
  rcases List.mem_cons.1 h with rfl | h
  · simp
  · have : (x == p.1) = false := by
     have := hp.1 _ h
     simpa using fun e => this e.symm
    rw [this]; exact qO hp.2 h
theorem u6 {z : α} {x : κ} : ∀ {l : List (κ × α)}, cW l x = true -> (x, getM z l x) ∈ l
 | [], h => by cases h
 | p :: l, h => by
  unfold cW at h; unfold getM
  cases hx : x == p.1 with
  | true => have := eq_of_beq hx; subst this; exact List.mem_cons_self ..
  | false => rw [hx] at h; exact List.mem_cons_of_mem _ (u6 h)
end
end Go.L


set_option linter.all false
namespace Go.L
open Go Go.Eng
abbrev Mks := List aa
def seen (t : Mks) (a : Int) : Bool := t.any fun m => m.Image == a
end Go.L


set_option linter.all false
namespace Go.L
open Go Go.Eng
def qU (l : List Mks) (a : Int) (k : Nat) : List Mks := (l.take k).filter fun t => decide ((t.length : Int) >= a)
theorem x5 {l : List Mks} {a : Int} {k : Nat} (hk : k < l.length) : qU l a (k + 1) = qU l a k ++ (if decide (((gt l (k : Int)).length : Int) >= a) = true then [gt l (k : Int)] else []) := by
 unfold qU
 have e : gt l (k : Int) = l[k] := by rw [cO]; simp [List.getD, geT hk]
 rw [List.take_add_one, geT hk, List.filter_append, e]
 congr 1
 show List.filter _ [l[k]] = _
 rw [List.filter_cons]
 split <;> rfl
theorem ym {l : List Mks} {a : Int} {k : Nat} : (qU l a k).length <= k := by
 unfold qU
 have := List.length_filter_le (fun t : Mks => decide ((t.length : Int) >= a)) (l.take k)
 rw [List.length_take] at this; omega
theorem AI {l : List Mks} {k : Nat} (h : k < l.length) : gt l (k : Int) ∈ l := by
 rw [cO]; simp only [List.getD, geT h, Option.getD_some]; exact List.getElem_mem h
end Go.L

