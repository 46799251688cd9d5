import Derived.Test.YtecdcgfclgmbpaaGreatApaL51p
import Derived.Test.YtecdcgfclgmbpaaGreatApaLD
set_option linter.all false
namespace Go.L
open Go Go.Eng
abbrev K2 := A2 Int
def sm (z : Int) : Prop := -1048576 <= z /\ z <= 1048576
def abv (Z : List Int) (level k : Int) : Bool := decide (2 * gt Z k > level)
abbrev S5 := Int × Int × Int × Int × Bool
def stp (Z : List Int) (level : Int) (s : S5) (a b : Int) : S5 :=
 if (abv Z level a && !abv Z level b) = true then (mn a b, mx a b, s.2.2.1, s.2.2.2.1, true) else if (!abv Z level a && abv Z level b) = true then (s.1, s.2.1, mn a b, mx a b, s.2.2.2.2) else s
def CL (Z : List Int) (level : Int) (t : A3 Int) : Nat -> S5
 | 0 => (0, 0, 0, 0, false)
 | k + 1 => stp Z level (CL Z level t k) (A3.get t (k : Int)) (A3.get t (((k + 1) % 3 : Nat) : Int))
def CS (s : S5) : Option (K2 × K2) := match s with | (f0, f1, t0, t1, true) => some (A2.mk f0 f1, A2.mk t0 t1) | _ => none
def seg (Z : List Int) (level : Int) (t : A3 Int) : Option (K2 × K2) := CS (CL Z level t 3)
theorem H3 {k : Nat} (h : k < 3) : (IE ((k : Int) + 1)).tmod 3 = (((k + 1) % 3 : Nat) : Int) := by
 rcases (by omega : k = 0 \/ k = 1 \/ k = 2) with rfl | rfl | rfl <;> rfl
def okT (Z : List Int) (t : A3 Int) : Prop := ∀ i : Nat, i < 3 -> inR (A3.get t (i : Int)) Z.length = true /\ sm (gt Z (A3.get t (i : Int)))
theorem GM {Z : List Int} {t : A3 Int} (hi : inR t.e0 Z.length = true /\ inR t.e1 Z.length = true /\ inR t.e2 Z.length = true) (j : sm (gt Z t.e0) /\ sm (gt Z t.e1) /\ sm (gt Z t.e2)) : okT Z t := by
 intro i h
 rcases (by omega : i = 0 \/ i = 1 \/ i = 2) with rfl | rfl | rfl
 · exact ⟨hi.1, j.1⟩
 · exact ⟨hi.2.1, j.2.1⟩
 · exact ⟨hi.2.2, j.2.2⟩
theorem FR {n : Nat} {Z : List Int} {level k : Int} (h : inR k Z.length = true /\ sm (gt Z k)) (a b c d e : Int) : dq n k a b c d e Z level = some (abv Z level k) := by
 unfold dq abv
 rw [h.1, wrap64_in (by have := h.2.1; omega) (by have := h.2.2; omega)]; rfl
def stM (c : List (K2 × K2) × List (K2 × Bool)) (q : K2 × K2) : List (K2 × K2) × List (K2 × Bool) := (eJ c.1 q.1 q.2, eJ c.2 q.2 true)
def stT (Z : List Int) (level : Int) (c : List (K2 × K2) × List (K2 × Bool)) (t : A3 Int) : List (K2 × K2) × List (K2 × Bool) := match seg Z level t with | some q => stM c q | none => c
theorem C7 {n : Nat} (M : 10 < n) {t : A3 Int} {Z : List Int} {level : Int} (E : okT Z t) (a b c d e : Int) (m : List (K2 × K2) × List (K2 × Bool)) : eY n t a b c d e Z level m.1 m.2 = some (stT Z level m t) := by
 apply Ok.eq
 unfold eY
 refine Ok.bd (R := fun o => o = CL Z level t 3) ?_ ?_
 · refine iG (γ := S5) (len := 3) (fun s x => (s.1, s.2.1, s.2.2.1, s.2.2.2.1, s.2.2.2.2, x)) (fun k s => s = CL Z level t k) (by omega) (by omega) (c0 := (0, 0, 0, 0, false)) rfl ?_ ?_
   · rintro again k s I hs C
     have h1 := E k I
     have h2 := E ((k + 1) % 3) (by omega)
     refine Ok.cd (fun _ => ?_) (fun h => by have := dcF h; omega)
     rw [H3 I]
     refine Ok.gd (by rw [jg]; omega) (Ok.gd (by rw [jg]; omega) ?_)
     have key : CL Z level t (k + 1) = stp Z level s (A3.get t (k : Int)) (A3.get t (((k + 1) % 3 : Nat) : Int)) := by rw [hs]; rfl
     have C : ∀ j, j = stp Z level s (A3.get t (k : Int)) (A3.get t (((k + 1) % 3 : Nat) : Int)) -> Ok (again (j.1, j.2.1, j.2.2.1, j.2.2.2.1, j.2.2.2.2, IE ((k : Int) + 1))) _ := fun j h => C j (h.trans key.symm)
     clear key
     have e1 := FR (n := n) (level := level) h1 a b c d e
     have e2 := FR (n := n) (level := level) h2 a b c d e
     generalize A3.get t (((k + 1) % 3 : Nat) : Int) = y at *
     generalize A3.get t (k : Int) = x at *
     refine Ok.bde rfl (Ok.bd (R := fun o => o = (abv Z level x && !abv Z level y)) (Ok.bde e1 ?_) ?_)
     · exact Ok.cd (fun h => Ok.bde e2 (az.2 (by rw [h]; rfl))) (fun h => az.2 (by rw [h]; rfl))
     · rintro o rfl
       refine Ok.cd (fun h => Ok.bde rfl (C (mn x y, mx x y, s.2.2.1, s.2.2.2.1, true) (by unfold stp; rw [if_pos h]))) (fun h => Ok.bde e1 (Ok.cd (fun D => Ok.bde e2 (Ok.cd (fun z => Ok.bde rfl (C (s.1, s.2.1, mn x y, mx x y, s.2.2.2.2) (by unfold stp; rw [h, if_neg (by simp), D, z]; rfl))) (fun z => C s (by unfold stp; rw [h, if_neg (by simp), D, z]; rfl)))) (fun D => C s (by unfold stp; rw [h, if_neg (by simp), D]; rfl))))
   · rintro again s rfl
     exact Ok.cd (fun h => by have := dcT h; omega) (fun _ => az.2 rfl)
 · rintro o J
   have e : stT Z level m t = (match CS o with | some q => stM m q | none => m) := by unfold stT seg; rw [<- J]
   rw [e]; clear J e
   obtain ⟨f0, f1, t0, t1, cr⟩ := o
   cases cr <;> exact az.2 rfl
def mq (g : al) (w h : Nat) (level : Int) : List (K2 × K2) := (lD g w h).filterMap (seg g.Z level)
theorem HD {g : al} {w h : Nat} (hb : g.Z.any p4 = false) {t : A3 Int} (z : Gd g w h) (q : t ∈ lD g w h) : okT g.Z t := by
 unfold lD at q
 rw [List.mem_filter] at q
 obtain ⟨i0, i1, i2⟩ := An z q.1
 have j := q.2
 unfold np at j
 simp only [Bool.and_eq_true] at j
 have key : ∀ {k : Int}, inR k g.Z.length = true -> (gt g.Z k != -2147483648) = true -> sm (gt g.Z k) := by
  intro k C D
  have E := jg.1 C
  obtain ⟨m, rfl⟩ : ∃ m : Nat, k = (m : Int) := ⟨k.toNat, by omega⟩
  have hm : m < g.Z.length := by omega
  have h1 : gt g.Z (m : Int) ∈ g.Z := by
   rw [oP]; simp only [List.getD, geT hm, Option.getD_some]; exact List.getElem_mem hm
  have := List.any_eq_false.1 hb _ h1
  unfold p4 wE at this
  rw [D] at this
  simp at this
  exact ⟨by omega, by omega⟩
 exact GM ⟨i0, i1, i2⟩ ⟨key i0 j.1, key i1 j.2.1, key i2 j.2.2⟩
theorem GO {n : Nat} (q : 200 < n) {g : al} {level : Int} {w h : Nat} (j : Gd g w h) (hb : g.Z.any p4 = false) (a b c d e : Int) :
  aW n g a b c d e g.Z level ([] : List (K2 × K2)) ([] : List (K2 × Bool)) = some ((mq g w h level).foldl stM ([], [])) := by
 apply Ok.eq
 unfold aW
 refine Ok.bd (R := fun o => o = (lD g w h).foldl (stT g.Z level) ([], [])) ?_ ?_
 · refine zw (γ := List (K2 × K2) × List (K2 × Bool)) q j (fun c x => (c.1, c.2, x)) (fun t m => eY n t a b c d e g.Z level m.1 m.2)
    (fun _ _ _ => rfl) (fun _ _ _ _ => rfl) (fun _ _ _ _ => rfl) (fun pre m => m = pre.foldl (stT g.Z level) ([], [])) rfl fun pre t m z _ hm => ?_
   rw [C7 (by omega) (HD hb j z)]
   exact az.2 (by rw [List.foldl_append, <- hm]; rfl)
 · rintro o rfl
   refine az.2 ?_
   unfold mq
   rw [List.foldl_filterMap]
   show List.foldl (stT g.Z level) ([], []) (lD g w h) = _
   congr 1
   funext x y; unfold stT; cases seg g.Z level y <;> rfl
end Go.L


set_option linter.all false
namespace Go.L
open Go Go.Eng
def dE (t : A3 Int) : List (Int × Int) := [(t.e0, t.e1), (t.e1, t.e2), (t.e2, t.e0)]
theorem sJ {Z : List Int} {level : Int} {t : A3 Int} {q : K2 × K2} (h : seg Z level t = some q) : (∃ a b, (a, b) ∈ dE t /\ abv Z level a = true /\ abv Z level b = false /\ q.1 = A2.mk (mn a b) (mx a b)) /\ (∃ a b, (a, b) ∈ dE t /\ abv Z level a = false /\ abv Z level b = true /\ q.2 = A2.mk (mn a b) (mx a b)) := by
 have e : CL Z level t 3 = stp Z level (stp Z level (stp Z level (0, 0, 0, 0, false) t.e0 t.e1) t.e1 t.e2) t.e2 t.e0 := rfl
 unfold seg at h
 rw [e] at h
 clear e
 have j : (t.e0, t.e1) ∈ dE t := by simp [dE]
 have m : (t.e1, t.e2) ∈ dE t := by simp [dE]
 have z : (t.e2, t.e0) ∈ dE t := by simp [dE]
 cases ha : abv Z level t.e0 <;> cases hb : abv Z level t.e1 <;> cases hc : abv Z level t.e2 <;> simp [stp, ha, hb, hc, CS] at h <;> subst h <;>
  exact ⟨by first | exact ⟨_, _, j, ha, hb, rfl⟩ | exact ⟨_, _, m, hb, hc, rfl⟩ | exact ⟨_, _, z, hc, ha, rfl⟩, by first | exact ⟨_, _, j, ha, hb, rfl⟩ | exact ⟨_, _, m, hb, hc, rfl⟩ | exact ⟨_, _, z, hc, ha, rfl⟩⟩
def Rd (t j : A3 Int) : Prop := ∀ e ∈ dE t, e ∉ dE j
theorem xx {w j i : Nat} (hw : w <= 64) (m : j < 64) (hi : i < 64) : gL (w : Int) j i = [A3.mk ((j * w + i : Nat) : Int) (((j * w + i : Nat) : Int) + 1) (((j * w + i : Nat) : Int) + w + 1), A3.mk ((j * w + i : Nat) : Int) (((j * w + i : Nat) : Int) + w + 1) (((j * w + i : Nat) : Int) + w)] := by
 have h1 : j * w <= 63 * 64 := Nat.mul_le_mul (by omega) hw
 unfold gL
 have e : IE ((IE ((j : Int) * (w : Int))) + (i : Int)) = ((j * w + i : Nat) : Int) := by
  rw [<- Int.natCast_mul, wrap64_in (n := ((j * w : Nat) : Int)) (by omega) (by omega), wrap64_in (by omega) (by omega), Int.natCast_add]
 rw [e, wrap64_in (n := ((j * w + i : Nat) : Int) + 1) (by omega) (by omega), wrap64_in (n := ((j * w + i : Nat) : Int) + (w : Int)) (by omega) (by omega), wrap64_in (n := ((j * w + i : Nat) : Int) + (w : Int) + 1) (by omega) (by omega)]
theorem De {k k' w : Int} (h : k ≠ k') (hw : 2 <= w) : ∀ x ∈ [A3.mk k (k + 1) (k + w + 1), A3.mk k (k + w + 1) (k + w)], ∀ y ∈ [A3.mk k' (k' + 1) (k' + w + 1), A3.mk k' (k' + w + 1) (k' + w)], Rd x y := by
 intro x hx y m e he j
 simp only [List.mem_cons, List.not_mem_nil, or_false] at hx m
 rcases hx with rfl | rfl <;> rcases m with rfl | rfl <;> simp only [dE, List.mem_cons, List.not_mem_nil, or_false] at he j <;> rcases he with rfl | rfl | rfl <;> rcases j with j | j | j <;> (rw [Prod.mk.injEq] at j; omega)
theorem Gb {k w : Int} (hw : 2 <= w) : Rd (A3.mk k (k + 1) (k + w + 1)) (A3.mk k (k + w + 1) (k + w)) := by
 intro e he j
 simp only [dE, List.mem_cons, List.not_mem_nil, or_false] at he j
 rcases he with rfl | rfl | rfl <;> rcases j with j | j | j <;> (rw [Prod.mk.injEq] at j; omega)
theorem GD {w h : Nat} (hw : 2 <= w /\ w <= 64) (I : 2 <= h /\ h <= 64) : (lK (w : Int) (w - 1) (h - 1)).Pairwise Rd := by
 unfold lK A6
 refine List.pairwise_flatMap.2 ⟨fun j C => List.pairwise_flatMap.2 ⟨fun i hi => ?_, ?_⟩, ?_⟩
 · rw [List.mem_range] at C hi
   rw [xx hw.2 (by omega) (by omega)]
   exact List.pairwise_cons.2 ⟨fun y m => by rw [List.mem_singleton] at m; subst m; exact Gb (by omega), List.pairwise_singleton _ _⟩
 · rw [List.mem_range] at C
   refine List.pairwise_lt_range.imp_of_mem fun {i E} hi q z => ?_
   rw [List.mem_range] at hi q
   rw [xx hw.2 (by omega) (by omega), xx hw.2 (by omega) (by omega)]
   exact De (by omega) (by omega)
 · refine List.pairwise_lt_range.imp_of_mem fun {j j'} C D z => ?_
   rw [List.mem_range] at C D
   intro x hx y m
   obtain ⟨i, hi, hx⟩ := List.mem_flatMap.1 hx
   obtain ⟨E, q, m⟩ := List.mem_flatMap.1 m
   rw [List.mem_range] at hi q
   rw [xx hw.2 (by omega) (by omega)] at hx m
   have h1 : (j + 1) * w <= j' * w := Nat.mul_le_mul_right w z
   rw [Nat.add_mul, Nat.one_mul] at h1
   exact De (by omega) (by omega) x hx y m
def Rq (q j : K2 × K2) : Prop := q.1 ≠ j.1 /\ q.2 ≠ j.2
theorem Cf {a b c d : Int} (h : A2.mk (mn a b) (mx a b) = A2.mk (mn c d) (mx c d)) : (a = c /\ b = d) \/ (a = d /\ b = c) := by
 injection h with h1 h2
 unfold mn at h1; unfold mx at h2
 split at h1 <;> split at h1 <;> split at h2 <;> split at h2 <;> omega
theorem Bm {g : al} {w h : Nat} (z : Gd g w h) (level : Int) : (mq g w h level).Pairwise Rq := by
 have hp : (lD g w h).Pairwise Rd := by
  unfold lD; rw [z.W]; exact (GD z.w1 z.h1).filter _
 refine hp.filterMap _ fun t t' M q N q' C => ?_
 obtain ⟨⟨a, b, O, T, b1, e1⟩, ⟨c, d, U, Y, d1, e2⟩⟩ := sJ N
 obtain ⟨⟨a', b', D, a0, j, E⟩, ⟨c', d', I, a2, m, J⟩⟩ := sJ C
 refine ⟨fun e => ?_, fun e => ?_⟩
 · rw [e1, E] at e
   rcases Cf e with ⟨rfl, rfl⟩ | ⟨rfl, rfl⟩
   · exact M _ O D
   · rw [T] at j; cases j
 · rw [e2, J] at e
   rcases Cf e with ⟨rfl, rfl⟩ | ⟨rfl, rfl⟩
   · exact M _ U I
   · rw [Y] at m; cases m
section
variable {κ α : Type} [DecidableEq κ]
theorem iq {x : κ} : ∀ {l : List (κ × α)}, cD l x = true ↔ ∃ p ∈ l, p.1 = x
 | [] => by simp [cD]
 | p :: l => by
  unfold cD
  cases h : x == p.1 with
  | true =>
   have h := eq_of_beq h
   exact ⟨fun _ => ⟨p, by simp, h.symm⟩, fun _ => rfl⟩
  | false =>
   show cD l x = true ↔ _
   rw [iq (l := l)]
   constructor
   · rintro ⟨q, j, e⟩; exact ⟨q, List.mem_cons_of_mem _ j, e⟩
   · rintro ⟨q, j, e⟩
     rcases List.mem_cons.1 j with rfl | j
     · rw [e] at h; simp at h
     · exact ⟨q, j, e⟩
theorem vJ {x : κ} {v : α} : ∀ {l : List (κ × α)}, cD l x = false -> eJ l x v = l ++ [(x, v)]
 | [], _ => rfl
 | p :: l, h => by
  unfold cD at h
  unfold eJ
  cases hx : x == p.1 with
  | true => rw [hx] at h; cases h
  | false =>
   rw [hx] at h
   show p :: eJ l x v = p :: (l ++ [(x, v)])
   rw [vJ h]
theorem zf {z v : α} {x y : κ} : ∀ {l : List (κ × α)}, getM z (eJ l x v) y = if y = x then v else getM z l y
 | [] => by
  unfold eJ getM getM
  by_cases h : y = x
  · subst h; simp
  · rw [if_neg h, show (y == x) = false by simpa using h]; rfl
 | p :: l => by
  unfold eJ
  cases hx : x == p.1 with
  | true =>
   have hx := eq_of_beq hx
   show getM z ((x, v) :: l) y = _
   unfold getM
   by_cases h : y = x
   · subst h; simp
   · rw [if_neg h]; subst hx; rw [show (y == p.1) = false by simpa using h]; rfl
  | false =>
   show getM z (p :: eJ l x v) y = _
   unfold getM
   rw [zf (l := l)]
   cases j : y == p.1 with
   | true =>
    have j := eq_of_beq j
    subst j
    have m : ¬ p.1 = x := fun e => by rw [e] at hx; simp at hx
    simp only [cond_true, if_neg m]
   | false => rfl
theorem vz {z v : α} {x : κ} : ∀ {l : List (κ × α)}, l.Pairwise (fun p q => p.1 ≠ q.1) -> (x, v) ∈ l -> getM z l x = v
 | [], _, h => by cases h
 | p :: l, hp, h => by
  rw [List.pairwise_cons] at hp
  unfold getM
  rcases List.mem_cons.1 h with rfl | h
  · simp
  · have : (x == p.1) = false := by
     have := hp.1 _ h
     simpa using fun e => this e.symm
    rw [this]; exact vz hp.2 h
theorem ox {z : α} {x : κ} : ∀ {l : List (κ × α)}, cD l x = true -> (x, getM z l x) ∈ l
 | [], h => by cases h
 | p :: l, h => by
  unfold cD at h; unfold getM
  cases hx : x == p.1 with
  | true => have := eq_of_beq hx; subst this; exact List.mem_cons_self ..
  | false => rw [hx] at h; exact List.mem_cons_of_mem _ (ox h)
end
theorem zQ : ∀ (S pre : List (K2 × K2)), (pre ++ S).Pairwise Rq -> S.foldl stM (pre, pre.map fun q => (q.2, true)) = (pre ++ S, (pre ++ S).map fun q => (q.2, true))
 | [], pre, _ => by rw [List.append_nil]; rfl
 | q :: S, pre, h => by
  have hd := List.pairwise_append.1 h
  have m : cD pre q.1 = false := by
   cases hc : cD pre q.1 with
   | false => rfl
   | true =>
    obtain ⟨p, hp, e⟩ := iq.1 hc
    exact absurd e (hd.2.2 p hp q (by simp)).1
  have n2 : cD (pre.map fun q => (q.2, true)) q.2 = false := by
   cases hc : cD (pre.map fun q => (q.2, true)) q.2 with
   | false => rfl
   | true =>
    obtain ⟨p, hp, e⟩ := iq.1 hc
    obtain ⟨p', j, rfl⟩ := List.mem_map.1 hp
    exact absurd e (hd.2.2 p' j q (by simp)).2
  show S.foldl stM (eJ pre q.1 q.2, eJ (pre.map fun q => (q.2, true)) q.2 true) = _
  rw [vJ m, vJ n2]
  have := zQ S (pre ++ [q]) (by rw [List.append_assoc]; exact h)
  rw [List.map_append] at this
  rw [show pre ++ q :: S = pre ++ [q] ++ S by simp]
  exact this
end Go.L


set_option linter.all false
namespace Go.L
open Go Go.Eng
def dn (D : List (K2 × Bool)) (x : K2) : Bool := getM false D x
theorem AY (D : List (K2 × Bool)) (e : K2) : dn (eJ D e true) = fun x => x == e || dn D x := by
 funext x
 unfold dn
 rw [zf]
 by_cases h : x = e
 · subst h; simp
 · rw [if_neg h, show (x == e) = false by simpa using h]; rfl
def W (S : List (K2 × K2)) : Nat -> (K2 -> Bool) -> K2 -> List K2
 | 0, _, _ => []
 | f + 1, D, e => if D e = true then [] else e :: (if cD S e = true then W S f (fun x => x == e || D x) (getM (A2.mk 0 0) S e) else [])
def lU (D : List (K2 × Bool)) (l : List K2) : List (K2 × Bool) := l.foldl (fun d x => eJ d x true) D
theorem oF : ∀ (l : List K2) (D : List (K2 × Bool)) (x : K2), dn (lU D l) x = true ↔ x ∈ l \/ dn D x = true
 | [], D, x => by simp [lU]
 | e :: l, D, x => by
  show dn (lU (eJ D e true) l) x = true ↔ _
  rw [oF l, AY]
  simp only [Bool.or_eq_true, beq_iff_eq, List.mem_cons]
  constructor
  · rintro (h | h | h)
    · exact .inl (.inr h)
    · exact .inl (.inl h)
    · exact .inr h
  · rintro ((h | h) | h)
    · exact .inr (.inl h)
    · exact .inl h
    · exact .inr (.inr h)
def mu (S : List (K2 × K2)) (D : K2 -> Bool) : Nat := (S.filter fun q => !D q.1).length
theorem w7 (S : List (K2 × K2)) (D : K2 -> Bool) : mu S D <= S.length := List.length_filter_le _ _
theorem BH {α : Type} {p p' : α -> Bool} (h : ∀ x, p' x = true -> p x = true) : ∀ l : List α, (l.filter p').length <= (l.filter p).length
 | [] => Nat.le_refl _
 | x :: l => by
  have := BH h l
  rw [List.filter_cons, List.filter_cons]
  by_cases h1 : p' x = true
  · rw [if_pos h1, if_pos (h x h1), List.length_cons, List.length_cons]; omega
  · rw [if_neg h1]
    split
    · rw [List.length_cons]; omega
    · exact this
theorem Bq {α : Type} {p p' : α -> Bool} (h : ∀ x, p' x = true -> p x = true) {y : α} (h1 : p y = true) (h2 : p' y = false) : ∀ l : List α, y ∈ l -> (l.filter p').length + 1 <= (l.filter p).length
 | [], j => by cases j
 | x :: l, j => by
  rw [List.filter_cons, List.filter_cons]
  rcases List.mem_cons.1 j with rfl | j
  · rw [if_neg (by rw [h2]; simp), if_pos h1, List.length_cons]
    have := BH h l; omega
  · have := Bq h h1 h2 l j
    by_cases m : p' x = true
    · rw [if_pos m, if_pos (h x m), List.length_cons, List.length_cons]; omega
    · rw [if_neg m]
      split
      · rw [List.length_cons]; omega
      · exact this
theorem u9 {S : List (K2 × K2)} {D : K2 -> Bool} {e : K2} (h : cD S e = true) (hd : D e = false) : mu S (fun x => x == e || D x) + 1 <= mu S D := by
 obtain ⟨q, j, rfl⟩ := iq.1 h
 refine Bq (p := fun x => !D x.1) (p' := fun x => !(x.1 == q.1 || D x.1)) (fun x hx => ?_) (y := q) (by simp [hd]) (by simp) S j
 revert hx
 cases D x.1 <;> simp
section
variable {S : List (K2 × K2)}
theorem yp : ∀ (f : Nat) (V : K2 -> Bool) (e x y : K2), mu S V + 1 <= f -> x ∈ W S f V e -> cD S x = true -> y = getM (A2.mk 0 0) S x -> y ∈ W S f V e \/ V y = true
 | 0, V, e, x, y, E, hx, _, _ => by cases hx
 | f + 1, V, e, x, y, E, hx, m, q => by
  unfold W at hx ⊢
  cases j : V e with
  | true => rw [if_pos j] at hx; cases hx
  | false =>
   rw [if_neg (by simp [j])] at hx ⊢
   have step : cD S e = true -> (x ∈ W S f (fun z => z == e || V z) (getM (A2.mk 0 0) S e)) -> y ∈ W S f (fun z => z == e || V z) (getM (A2.mk 0 0) S e) \/ (y = e \/ V y = true) := fun he hx => by
    have := u9 (S := S) (D := V) he j
    rcases yp f _ _ x y (by omega) hx m q with h | h
    · exact .inl h
    · simp only [Bool.or_eq_true, beq_iff_eq] at h; exact .inr h
   have fin : cD S e = true -> y ∈ W S f (fun z => z == e || V z) (getM (A2.mk 0 0) S e) \/ (y = e \/ V y = true) -> y ∈ (e :: (if cD S e = true then W S f (fun x => x == e || V x) (getM (A2.mk 0 0) S e) else [])) \/ V y = true := fun he h => by
    rw [if_pos he]
    rcases h with h | h | h
    · exact .inl (List.mem_cons_of_mem _ h)
    · exact .inl (by rw [h]; exact List.mem_cons_self ..)
    · exact .inr h
   rcases List.mem_cons.1 hx with rfl | hx
   · refine fin m ?_
     have hm := u9 (S := S) (D := V) m j
     obtain ⟨C, rfl⟩ : ∃ C, f = C + 1 := ⟨f - 1, by omega⟩
     by_cases hd : (y == x || V y) = true
     · simp only [Bool.or_eq_true, beq_iff_eq] at hd; exact .inr hd
     · refine .inl ?_
       unfold W
       rw [<- q, if_neg hd]
       exact List.mem_cons_self ..
   · by_cases he : cD S e = true
     · rw [if_pos he] at hx; exact fin he (step he hx)
     · rw [if_neg he] at hx; cases hx
theorem A5 : ∀ (f : Nat) (V : K2 -> Bool) (e y : K2), y ∈ W S f V e -> y = e \/ ∃ x ∈ W S f V e, cD S x = true /\ y = getM (A2.mk 0 0) S x
 | 0, V, e, y, h => by cases h
 | f + 1, V, e, y, h => by
  unfold W at h ⊢
  by_cases j : V e = true
  · rw [if_pos j] at h; cases h
  · rw [if_neg j] at h ⊢
    rcases List.mem_cons.1 h with rfl | h
    · exact .inl rfl
    · by_cases he : cD S e = true
      · rw [if_pos he] at h ⊢
        rcases A5 f _ _ y h with h | ⟨x, hx, h1, h2⟩
        · exact .inr ⟨e, List.mem_cons_self .., he, h⟩
        · exact .inr ⟨x, List.mem_cons_of_mem _ hx, h1, h2⟩
      · rw [if_neg he] at h; cases h
def Cl (S : List (K2 × K2)) (D : K2 -> Bool) : Prop := ∀ x, cD S x = true -> (D x = true ↔ D (getM (A2.mk 0 0) S x) = true)
theorem Cc {D : K2 -> Bool} (q : Cl S D) : ∀ (f : Nat) (V : K2 -> Bool) (x : K2), D x = false -> W S f (fun z => V z || D z) x = W S f V x
 | 0, _, _, _ => rfl
 | f + 1, V, x, hx => by
  unfold W
  simp only [hx, Bool.or_false]
  by_cases m : V x = true
  · rw [if_pos m, if_pos m]
  · rw [if_neg m, if_neg m]
    by_cases j : cD S x = true
    · rw [if_pos j, if_pos j]
      have C : D (getM (A2.mk 0 0) S x) = false := by
       cases hc : D (getM (A2.mk 0 0) S x) with
       | false => rfl
       | true => rw [(q x j).2 hc] at hx; cases hx
      have := Cc q f (fun z => z == x || V z) _ C
      rw [<- this]
      congr 2
      funext z
      rw [Bool.or_assoc]
    · rw [if_neg j, if_neg j]
def path (S : List (K2 × K2)) (e : K2) : List K2 := W S 100 (fun _ => false) e
theorem Gj {D : K2 -> Bool} (j : Cl S D) {e : K2} (he : D e = false) : W S 100 D e = path S e := by
 have := Cc j 100 (fun _ => false) e he
 unfold path
 rw [<- this]
 rfl
theorem AM {f : Nat} {D : K2 -> Bool} {e : K2} (j : 0 < f) (he : D e = false) : ∃ l, W S f D e = e :: l := by
 obtain ⟨k, rfl⟩ : ∃ k, f = k + 1 := ⟨f - 1, by omega⟩
 unfold W
 rw [if_neg (by simp [he])]
 exact ⟨_, rfl⟩
theorem yV : ∀ (f : Nat) (D : K2 -> Bool) (e x : K2), x ∈ W S f D e -> D x = false
 | 0, _, _, _, h => by cases h
 | f + 1, D, e, x, h => by
  unfold W at h
  by_cases j : D e = true
  · rw [if_pos j] at h; cases h
  · rw [if_neg j] at h
    rcases List.mem_cons.1 h with rfl | h
    · simpa using j
    · by_cases he : cD S e = true
      · rw [if_pos he] at h
        have := yV f _ _ x h
        simp only [Bool.or_eq_false_iff] at this
        exact this.2
      · rw [if_neg he] at h; cases h
end
structure Ge (S : List (K2 × K2)) (P : K2 -> Prop) : Prop where
 k : ∀ q ∈ S, P q.1 /\ P q.2
theorem Ge.next {S : List (K2 × K2)} {P : K2 -> Prop} (h : Ge S P) {e : K2} (he : cD S e = true) : P (getM (A2.mk 0 0) S e) := (h.k _ (ox he)).2
theorem AF {S : List (K2 × K2)} {P : K2 -> Prop} (h : Ge S P) : ∀ (f : Nat) (D : K2 -> Bool) (e : K2), P e -> ∀ x ∈ W S f D e, P x
 | 0, _, _, _, x, hx => by cases hx
 | f + 1, D, e, he, x, hx => by
  unfold W at hx
  split at hx
  · cases hx
  · rcases List.mem_cons.1 hx with rfl | hx
    · exact he
    · split at hx
      · rename_i j; exact AF h f _ _ (h.next j) x hx
      · cases hx
noncomputable def crP (g : al) (level : Int) (e : K2) : an := (cC 20000 g level e).getD default
theorem zB {g : al} {level : Int} {S : List (K2 × K2)} {P : K2 -> Prop} (O : Ge S P) (T : ∀ e, P e -> cC 20000 g level e = some (crP g level e)) (hl : S.length <= 60) {e : K2} (he : P e) {closed : Bool} {D : List (K2 × Bool)} (hd : dn D e = false) {out : List ak} (N : out.length <= 10000) :
  dB 20000 e closed D g.X0 g.Y0 g.Step g.Width g.Height g.Z level S out = some (lU D (W S 100 (dn D) e), out ++ [ak.mk closed ((W S 100 (dn D) e).map (crP g level))]) := by
 apply Ok.eq
 unfold dB
 refine Ok.bd (R := fun o => o = (lU D (W S 100 (dn D) e), [] ++ (W S 100 (dn D) e).map (crP g level))) ?_ (by
  rintro o rfl
  exact Ok.gd (decide_eq_true (by omega)) (Ok.gd (decide_eq_true (by omega)) (az.2 (by rw [List.nil_append]))))
 have key : ∀ (f m : Nat) (D : List (K2 × Bool)) (c : List an) (e : K2), f < m -> mu S (dn D) + 1 <= f -> P e -> dn D e = false -> c.length + f <= 10000 ->
   Ok (aP m (fun E (C, z, j, q) => (
  bdO (cC 20000 (al.mk g.X0 g.Y0 g.Step g.Width g.Height g.Z) level (A2.mk j q)) fun I => (
  gdO (decide ((z.length + 1) * 80 <= 140737488355328)) (
  gdO (decide (z.length + 1 <= 4611686018427387904)) (
  cdO (!(cD S (A2.mk j q))) (
   some ((eJ C (A2.mk j q) true, z ++ [I]))
  ) (
   cdO (getM false (eJ C (A2.mk j q) true) (getM (A2.mk 0 0 : A2 Int) S (A2.mk j q))) (
    some ((eJ C (A2.mk j q) true, z ++ [I]))
   ) (
    E (eJ C (A2.mk j q) true, z ++ [I], (getM (A2.mk 0 0 : A2 Int) S (A2.mk j q)).e0, (getM (A2.mk 0 0 : A2 Int) S (A2.mk j q)).e1)
   ))))))) (D, c, e.e0, e.e1)) fun o => o = (lU D (W S f (dn D) e), c ++ (W S f (dn D) e).map (crP g level)) := by
  intro f
  induction f with
  | zero => intro m D c e _ h; omega
  | succ f U =>
   intro m D c e hm hf he hd hc
   obtain ⟨m, rfl⟩ : ∃ k, m = k + 1 := ⟨m - 1, by omega⟩
   rw [xK]
   dsimp only
   have Y : W S (f + 1) (dn D) e = e :: (if cD S e = true then W S f (dn (eJ D e true)) (getM (A2.mk 0 0) S e) else []) := by
    rw [AY]
    conv => lhs; unfold W
    rw [if_neg (by simp [hd])]
   rw [Y]
   refine Ok.bde (T e he) (Ok.gd (decide_eq_true (by omega)) (Ok.gd (decide_eq_true (by omega)) ?_))
   refine Ok.cd (fun h => az.2 ?_) (fun h => ?_)
   · have h : cD S e = false := by simpa using h
     rw [if_neg (by rw [h]; simp)]; rfl
   · have h : cD S e = true := by simpa using h
     rw [if_pos h]
     have M := u9 (S := S) h hd
     rw [<- AY] at M
     refine Ok.cd (fun J => az.2 ?_) (fun J => ?_)
     · have J : dn (eJ D e true) (getM (A2.mk 0 0) S e) = true := J
       rw [show W S f (dn (eJ D e true)) (getM (A2.mk 0 0) S e) = [] by cases f <;> unfold W <;> simp [J]]; rfl
     · have J : dn (eJ D e true) (getM (A2.mk 0 0) S e) = false := J
       refine (U m (eJ D e true) (c ++ [crP g level e]) _ (by omega) (by omega) (O.next h) J (by rw [List.length_append, List.length_singleton]; omega)).mono fun o N => N.trans ?_
       rw [List.map_cons, List.append_assoc]; rfl
 have := w7 S (dn D)
 exact key 100 20000 D [] e (by omega) (by omega) he hd (by simp)
end Go.L

