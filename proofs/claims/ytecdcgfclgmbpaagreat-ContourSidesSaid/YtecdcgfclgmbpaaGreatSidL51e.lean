import Derived.Test.YtecdcgfclgmbpaaGreatSidL51q
import Derived.Test.YtecdcgfclgmbpaaGreatSidLD
set_option linter.all false
namespace Go.L
open Go Go.Eng
abbrev K2 := A2 Int
def rY (z : Int) : Prop := -1048576 <= z /\ z <= 1048576
def abv (Z : List Int) (level k : Int) : Bool := decide (2 * gt Z k > level)
abbrev S5 := Int × Int × Int × Int × Bool
def stp (Z : List Int) (level : Int) (s : S5) (a b : Int) : S5 :=
 if (abv Z level a && !abv Z level b) = true then (mn a b, mx a b, s.2.2.1, s.2.2.2.1, true) else if (!abv Z level a && abv Z level b) = true then (s.1, s.2.1, mn a b, mx a b, s.2.2.2.2) else s
def zB (Z : List Int) (level : Int) (t : A3 Int) : Nat -> S5
 | 0 => (0, 0, 0, 0, false)
 | k + 1 => stp Z level (zB Z level t k) (A3.get t (k : Int)) (A3.get t (((k + 1) % 3 : Nat) : Int))
def zm (s : S5) : Option (K2 × K2) := match s with | (f0, f1, t0, t1, true) => some (A2.mk f0 f1, A2.mk t0 t1) | _ => none
def seg (Z : List Int) (level : Int) (t : A3 Int) : Option (K2 × K2) := zm (zB Z level t 3)
theorem GJ {k : Nat} (h : k < 3) : (G1 ((k : Int) + 1)).tmod 3 = (((k + 1) % 3 : Nat) : Int) := by
 rcases (by omega : k = 0 \/ k = 1 \/ k = 2) with rfl | rfl | rfl <;> rfl
def okT (Z : List Int) (t : A3 Int) : Prop := ∀ i : Nat, i < 3 -> inR (A3.get t (i : Int)) Z.length = true /\ rY (gt Z (A3.get t (i : Int)))
theorem E4 {Z : List Int} {t : A3 Int} (hi : inR t.e0 Z.length = true /\ inR t.e1 Z.length = true /\ inR t.e2 Z.length = true) (hz : rY (gt Z t.e0) /\ rY (gt Z t.e1) /\ rY (gt Z t.e2)) : okT Z t := by
 intro i h
 rcases (by omega : i = 0 \/ i = 1 \/ i = 2) with rfl | rfl | rfl
 · exact ⟨hi.1, hz.1⟩
 · exact ⟨hi.2.1, hz.2.1⟩
 · exact ⟨hi.2.2, hz.2.2⟩
theorem EA {n : Nat} {Z : List Int} {level k : Int} (h : inR k Z.length = true /\ rY (gt Z k)) (a b c d e : Int) : cQ n k a b c d e Z level = some (abv Z level k) := by
 unfold cQ abv
 rw [h.1, wrap64_in (by have := h.2.1; omega) (by have := h.2.2; omega)]; rfl
def stM (c : List (K2 × K2) × List (K2 × Bool)) (q : K2 × K2) : List (K2 × K2) × List (K2 × Bool) := (eE c.1 q.1 q.2, eE c.2 q.2 true)
def stT (Z : List Int) (level : Int) (c : List (K2 × K2) × List (K2 × Bool)) (t : A3 Int) : List (K2 × K2) × List (K2 × Bool) := match seg Z level t with | some q => stM c q | none => c
theorem Ck {n : Nat} (hn : 10 < n) {t : A3 Int} {Z : List Int} {level : Int} (hT : okT Z t) (a b c d e : Int) (m : List (K2 × K2) × List (K2 × Bool)) : eV n t a b c d e Z level m.1 m.2 = some (stT Z level m t) := by
 apply Ok.eq
 unfold eV
 refine Ok.bd (R := fun o => o = zB Z level t 3) ?_ ?_
 · refine jQ (γ := S5) (len := 3) (fun s x => (s.1, s.2.1, s.2.2.1, s.2.2.2.1, s.2.2.2.2, x)) (fun k s => s = zB Z level t k) (by omega) (by omega) (c0 := (0, 0, 0, 0, false)) rfl ?_ ?_
   · rintro again k s hk hs ih
     have h1 := hT k hk
     have h2 := hT ((k + 1) % 3) (by omega)
     refine Ok.cd (fun _ => ?_) (fun h => by have := dcF h; omega)
     rw [GJ hk]
     refine Ok.gd (by rw [j5]; omega) (Ok.gd (by rw [j5]; omega) ?_)
     have key : zB Z level t (k + 1) = stp Z level s (A3.get t (k : Int)) (A3.get t (((k + 1) % 3 : Nat) : Int)) := by rw [hs]; rfl
     have ih : ∀ c', c' = stp Z level s (A3.get t (k : Int)) (A3.get t (((k + 1) % 3 : Nat) : Int)) -> Ok (again (c'.1, c'.2.1, c'.2.2.1, c'.2.2.2.1, c'.2.2.2.2, G1 ((k : Int) + 1))) _ := fun c' h => ih c' (h.trans key.symm)
     clear key
     have e1 := EA (n := n) (level := level) h1 a b c d e
     have e2 := EA (n := n) (level := level) h2 a b c d e
     generalize A3.get t (((k + 1) % 3 : Nat) : Int) = y at *
     generalize A3.get t (k : Int) = x at *
     refine Ok.bde rfl (Ok.bd (R := fun o => o = (abv Z level x && !abv Z level y)) (Ok.bde e1 ?_) ?_)
     · exact Ok.cd (fun h => Ok.bde e2 (aC.2 (by rw [h]; rfl))) (fun h => aC.2 (by rw [h]; rfl))
     · rintro o rfl
       refine Ok.cd (fun h => Ok.bde rfl (ih (mn x y, mx x y, s.2.2.1, s.2.2.2.1, true) (by unfold stp; rw [if_pos h]))) (fun h => Ok.bde e1 (Ok.cd (fun h' => Ok.bde e2 (Ok.cd (fun h'' => Ok.bde rfl (ih (s.1, s.2.1, mn x y, mx x y, s.2.2.2.2) (by unfold stp; rw [h, if_neg (by simp), h', h'']; rfl))) (fun h'' => ih s (by unfold stp; rw [h, if_neg (by simp), h', h'']; rfl)))) (fun h' => ih s (by unfold stp; rw [h, if_neg (by simp), h']; rfl))))
   · rintro again s rfl
     exact Ok.cd (fun h => by have := dcT h; omega) (fun _ => aC.2 rfl)
 · rintro o ho
   have e : stT Z level m t = (match zm o with | some q => stM m q | none => m) := by unfold stT seg; rw [<- ho]
   rw [e]; clear ho e
   obtain ⟨f0, f1, t0, t1, cr⟩ := o
   cases cr <;> exact aC.2 rfl
def nZ (g : al) (w h : Nat) (level : Int) : List (K2 × K2) := (kj g w h).filterMap (seg g.Z level)
theorem Fw {g : al} {w h : Nat} (hb : g.Z.any n8 = false) {t : A3 Int} (hg : Gd g w h) (ht : t ∈ kj g w h) : okT g.Z t := by
 unfold kj at ht
 rw [List.mem_filter] at ht
 obtain ⟨i0, i1, i2⟩ := zZ hg ht.1
 have hz := ht.2
 unfold nt at hz
 simp only [Bool.and_eq_true] at hz
 have key : ∀ {k : Int}, inR k g.Z.length = true -> (gt g.Z k != -2147483648) = true -> rY (gt g.Z k) := by
  intro k hk hn
  have hk2 := j5.1 hk
  obtain ⟨m, rfl⟩ : ∃ m : Nat, k = (m : Int) := ⟨k.toNat, by omega⟩
  have hm : m < g.Z.length := by omega
  have h1 : gt g.Z (m : Int) ∈ g.Z := by
   rw [pe]; simp only [List.getD, geT hm, Option.getD_some]; exact List.getElem_mem hm
  have := List.any_eq_false.1 hb _ h1
  unfold n8 ug at this
  rw [hn] at this
  simp at this
  exact ⟨by omega, by omega⟩
 exact E4 ⟨i0, i1, i2⟩ ⟨key i0 hz.1, key i1 hz.2.1, key i2 hz.2.2⟩
theorem Ff {n : Nat} (hn : 200 < n) {g : al} {level : Int} {w h : Nat} (hg : Gd g w h) (hb : g.Z.any n8 = false) (a b c d e : Int) :
  aS n g a b c d e g.Z level ([] : List (K2 × K2)) ([] : List (K2 × Bool)) = some ((nZ g w h level).foldl stM ([], [])) := by
 apply Ok.eq
 unfold aS
 refine Ok.bd (R := fun o => o = (kj g w h).foldl (stT g.Z level) ([], [])) ?_ ?_
 · refine xN (γ := List (K2 × K2) × List (K2 × Bool)) hn hg (fun c x => (c.1, c.2, x)) (fun t m => eV n t a b c d e g.Z level m.1 m.2)
    (fun _ _ _ => rfl) (fun _ _ _ _ => rfl) (fun _ _ _ _ => rfl) (fun pre m => m = pre.foldl (stT g.Z level) ([], [])) rfl fun pre t m ht _ hm => ?_
   rw [Ck (by omega) (Fw hb hg ht)]
   exact aC.2 (by rw [List.foldl_append, <- hm]; rfl)
 · rintro o rfl
   refine aC.2 ?_
   unfold nZ
   rw [List.foldl_filterMap]
   show List.foldl (stT g.Z level) ([], []) (kj g w h) = _
   congr 1
   funext x y; unfold stT; cases seg g.Z level y <;> rfl
end Go.L


set_option linter.all false
namespace Go.L
open Go Go.Eng
def dE (t : A3 Int) : List (Int × Int) := [(t.e0, t.e1), (t.e1, t.e2), (t.e2, t.e0)]
theorem oA {Z : List Int} {level : Int} {t : A3 Int} {q : K2 × K2} (h : seg Z level t = some q) : (∃ a b, (a, b) ∈ dE t /\ abv Z level a = true /\ abv Z level b = false /\ q.1 = A2.mk (mn a b) (mx a b)) /\ (∃ a b, (a, b) ∈ dE t /\ abv Z level a = false /\ abv Z level b = true /\ q.2 = A2.mk (mn a b) (mx a b)) := by
 have e : zB Z level t 3 = stp Z level (stp Z level (stp Z level (0, 0, 0, 0, false) t.e0 t.e1) t.e1 t.e2) t.e2 t.e0 := rfl
 unfold seg at h
 rw [e] at h
 clear e
 have m0 : (t.e0, t.e1) ∈ dE t := by simp [dE]
 have m1 : (t.e1, t.e2) ∈ dE t := by simp [dE]
 have m2 : (t.e2, t.e0) ∈ dE t := by simp [dE]
 cases ha : abv Z level t.e0 <;> cases hb : abv Z level t.e1 <;> cases hc : abv Z level t.e2 <;> simp [stp, ha, hb, hc, zm] at h <;> subst h <;>
  exact ⟨by first | exact ⟨_, _, m0, ha, hb, rfl⟩ | exact ⟨_, _, m1, hb, hc, rfl⟩ | exact ⟨_, _, m2, hc, ha, rfl⟩, by first | exact ⟨_, _, m0, ha, hb, rfl⟩ | exact ⟨_, _, m1, hb, hc, rfl⟩ | exact ⟨_, _, m2, hc, ha, rfl⟩⟩
def Rd (t t' : A3 Int) : Prop := ∀ e ∈ dE t, e ∉ dE t'
theorem vj {w j i : Nat} (hw : w <= 64) (hj : j < 64) (hi : i < 64) : gg (w : Int) j i = [A3.mk ((j * w + i : Nat) : Int) (((j * w + i : Nat) : Int) + 1) (((j * w + i : Nat) : Int) + w + 1), A3.mk ((j * w + i : Nat) : Int) (((j * w + i : Nat) : Int) + w + 1) (((j * w + i : Nat) : Int) + w)] := by
 have h1 : j * w <= 63 * 64 := Nat.mul_le_mul (by omega) hw
 unfold gg
 have e : G1 ((G1 ((j : Int) * (w : Int))) + (i : Int)) = ((j * w + i : Nat) : Int) := by
  rw [<- Int.natCast_mul, wrap64_in (n := ((j * w : Nat) : Int)) (by omega) (by omega), wrap64_in (by omega) (by omega), Int.natCast_add]
 rw [e, wrap64_in (n := ((j * w + i : Nat) : Int) + 1) (by omega) (by omega), wrap64_in (n := ((j * w + i : Nat) : Int) + (w : Int)) (by omega) (by omega), wrap64_in (n := ((j * w + i : Nat) : Int) + (w : Int) + 1) (by omega) (by omega)]
theorem BV {k k' w : Int} (h : k ≠ k') (hw : 2 <= w) : ∀ x ∈ [A3.mk k (k + 1) (k + w + 1), A3.mk k (k + w + 1) (k + w)], ∀ y ∈ [A3.mk k' (k' + 1) (k' + w + 1), A3.mk k' (k' + w + 1) (k' + w)], Rd x y := by
 intro x hx y hy e he he'
 simp only [List.mem_cons, List.not_mem_nil, or_false] at hx hy
 rcases hx with rfl | rfl <;> rcases hy with rfl | rfl <;> simp only [dE, List.mem_cons, List.not_mem_nil, or_false] at he he' <;> rcases he with rfl | rfl | rfl <;> rcases he' with he' | he' | he' <;> (rw [Prod.mk.injEq] at he'; omega)
theorem EC {k w : Int} (hw : 2 <= w) : Rd (A3.mk k (k + 1) (k + w + 1)) (A3.mk k (k + w + 1) (k + w)) := by
 intro e he he'
 simp only [dE, List.mem_cons, List.not_mem_nil, or_false] at he he'
 rcases he with rfl | rfl | rfl <;> rcases he' with he' | he' | he' <;> (rw [Prod.mk.injEq] at he'; omega)
theorem Fe {w h : Nat} (hw : 2 <= w /\ w <= 64) (hh : 2 <= h /\ h <= 64) : (kz (w : Int) (w - 1) (h - 1)).Pairwise Rd := by
 unfold kz y9
 refine List.pairwise_flatMap.2 ⟨fun j hj => List.pairwise_flatMap.2 ⟨fun i hi => ?_, ?_⟩, ?_⟩
 · rw [List.mem_range] at hj hi
   rw [vj hw.2 (by omega) (by omega)]
   exact List.pairwise_cons.2 ⟨fun y hy => by rw [List.mem_singleton] at hy; subst hy; exact EC (by omega), List.pairwise_singleton _ _⟩
 · rw [List.mem_range] at hj
   refine List.pairwise_lt_range.imp_of_mem fun {i i'} hi hi' hlt => ?_
   rw [List.mem_range] at hi hi'
   rw [vj hw.2 (by omega) (by omega), vj hw.2 (by omega) (by omega)]
   exact BV (by omega) (by omega)
 · refine List.pairwise_lt_range.imp_of_mem fun {j j'} hj hj' hlt => ?_
   rw [List.mem_range] at hj hj'
   intro x hx y hy
   obtain ⟨i, hi, hx⟩ := List.mem_flatMap.1 hx
   obtain ⟨i', hi', hy⟩ := List.mem_flatMap.1 hy
   rw [List.mem_range] at hi hi'
   rw [vj hw.2 (by omega) (by omega)] at hx hy
   have h1 : (j + 1) * w <= j' * w := Nat.mul_le_mul_right w hlt
   rw [Nat.add_mul, Nat.one_mul] at h1
   exact BV (by omega) (by omega) x hx y hy
def Rq (q q' : K2 × K2) : Prop := q.1 ≠ q'.1 /\ q.2 ≠ q'.2
theorem Av {a b c d : Int} (h : A2.mk (mn a b) (mx a b) = A2.mk (mn c d) (mx c d)) : (a = c /\ b = d) \/ (a = d /\ b = c) := by
 injection h with h1 h2
 unfold mn at h1; unfold mx at h2
 split at h1 <;> split at h1 <;> split at h2 <;> split at h2 <;> omega
theorem AN {g : al} {w h : Nat} (hg : Gd g w h) (level : Int) : (nZ g w h level).Pairwise Rq := by
 have hp : (kj g w h).Pairwise Rd := by
  unfold kj; rw [hg.W]; exact (Fe hg.w1 hg.h1).filter _
 refine hp.filterMap _ fun t t' hR q hq q' hq' => ?_
 obtain ⟨⟨a, b, m1, a1, b1, e1⟩, ⟨c, d, m2, c1, d1, e2⟩⟩ := oA hq
 obtain ⟨⟨a', b', m1', a1', b1', e1'⟩, ⟨c', d', m2', c1', d1', e2'⟩⟩ := oA hq'
 refine ⟨fun e => ?_, fun e => ?_⟩
 · rw [e1, e1'] at e
   rcases Av e with ⟨rfl, rfl⟩ | ⟨rfl, rfl⟩
   · exact hR _ m1 m1'
   · rw [a1] at b1'; cases b1'
 · rw [e2, e2'] at e
   rcases Av e with ⟨rfl, rfl⟩ | ⟨rfl, rfl⟩
   · exact hR _ m2 m2'
   · rw [c1] at d1'; cases d1'
section
variable {κ α : Type} [DecidableEq κ]
theorem iM {x : κ} : ∀ {l : List (κ × α)}, dB l x = true ↔ ∃ p ∈ l, p.1 = x
 | [] => by simp [dB]
 | p :: l => by
  unfold dB
  cases h : x == p.1 with
  | true =>
   have h := eq_of_beq h
   exact ⟨fun _ => ⟨p, by simp, h.symm⟩, fun _ => rfl⟩
  | false =>
   show dB l x = true ↔ _
   rw [iM (l := l)]
   constructor
   · rintro ⟨q, hq, e⟩; exact ⟨q, List.mem_cons_of_mem _ hq, e⟩
   · rintro ⟨q, hq, e⟩
     rcases List.mem_cons.1 hq with rfl | hq
     · rw [e] at h; simp at h
     · exact ⟨q, hq, e⟩
theorem vA {x : κ} {v : α} : ∀ {l : List (κ × α)}, dB l x = false -> eE l x v = l ++ [(x, v)]
 | [], _ => rfl
 | p :: l, h => by
  unfold dB at h
  unfold eE
  cases hx : x == p.1 with
  | true => rw [hx] at h; cases h
  | false =>
   rw [hx] at h
   show p :: eE l x v = p :: (l ++ [(x, v)])
   rw [vA h]
theorem yn {z v : α} {x y : κ} : ∀ {l : List (κ × α)}, getM z (eE l x v) y = if y = x then v else getM z l y
 | [] => by
  unfold eE getM getM
  by_cases h : y = x
  · subst h; simp
  · rw [if_neg h, show (y == x) = false by simpa using h]; rfl
 | p :: l => by
  unfold eE
  cases hx : x == p.1 with
  | true =>
   have hx := eq_of_beq hx
   show getM z ((x, v) :: l) y = _
   unfold getM
   by_cases h : y = x
   · subst h; simp
   · rw [if_neg h]; subst hx; rw [show (y == p.1) = false by simpa using h]; rfl
  | false =>
   show getM z (p :: eE l x v) y = _
   unfold getM
   rw [yn (l := l)]
   cases hy : y == p.1 with
   | true =>
    have hy := eq_of_beq hy
    subst hy
    have hne : ¬ p.1 = x := fun e => by rw [e] at hx; simp at hx
    simp only [cond_true, if_neg hne]
   | false => rfl
theorem pU {z v : α} {x : κ} : ∀ {l : List (κ × α)}, l.Pairwise (fun p q => p.1 ≠ q.1) -> (x, v) ∈ l -> getM z l x = v
 | [], _, h => by cases h
 | p :: l, hp, h => by
  rw [List.pairwise_cons] at hp
  unfold getM
  rcases List.mem_cons.1 h with rfl | h
  · simp
  · have : (x == p.1) = false := by
     have := hp.1 _ h
     simpa using fun e => this e.symm
    rw [this]; exact pU hp.2 h
theorem nT {z : α} {x : κ} : ∀ {l : List (κ × α)}, dB l x = true -> (x, getM z l x) ∈ l
 | [], h => by cases h
 | p :: l, h => by
  unfold dB at h; unfold getM
  cases hx : x == p.1 with
  | true => have := eq_of_beq hx; subst this; exact List.mem_cons_self ..
  | false => rw [hx] at h; exact List.mem_cons_of_mem _ (nT h)
end
theorem y5 : ∀ (S pre : List (K2 × K2)), (pre ++ S).Pairwise Rq -> S.foldl stM (pre, pre.map fun q => (q.2, true)) = (pre ++ S, (pre ++ S).map fun q => (q.2, true))
 | [], pre, _ => by rw [List.append_nil]; rfl
 | q :: S, pre, h => by
  have hd := List.pairwise_append.1 h
  have n1 : dB pre q.1 = false := by
   cases hc : dB pre q.1 with
   | false => rfl
   | true =>
    obtain ⟨p, hp, e⟩ := iM.1 hc
    exact absurd e (hd.2.2 p hp q (by simp)).1
  have n2 : dB (pre.map fun q => (q.2, true)) q.2 = false := by
   cases hc : dB (pre.map fun q => (q.2, true)) q.2 with
   | false => rfl
   | true =>
    obtain ⟨p, hp, e⟩ := iM.1 hc
    obtain ⟨p', hp', rfl⟩ := List.mem_map.1 hp
    exact absurd e (hd.2.2 p' hp' q (by simp)).2
  show S.foldl stM (eE pre q.1 q.2, eE (pre.map fun q => (q.2, true)) q.2 true) = _
  rw [vA n1, vA n2]
  have := y5 S (pre ++ [q]) (by rw [List.append_assoc]; exact h)
  rw [List.map_append] at this
  rw [show pre ++ q :: S = pre ++ [q] ++ S by simp]
  exact this
end Go.L


set_option linter.all false
namespace Go.L
open Go Go.Eng
def dn (D : List (K2 × Bool)) (x : K2) : Bool := getM false D x
theorem zV (D : List (K2 × Bool)) (e : K2) : dn (eE D e true) = fun x => x == e || dn D x := by
 funext x
 unfold dn
 rw [yn]
 by_cases h : x = e
 · subst h; simp
 · rw [if_neg h, show (x == e) = false by simpa using h]; rfl
def W (S : List (K2 × K2)) : Nat -> (K2 -> Bool) -> K2 -> List K2
 | 0, _, _ => []
 | f + 1, D, e => if D e = true then [] else e :: (if dB S e = true then W S f (fun x => x == e || D x) (getM (A2.mk 0 0) S e) else [])
def lD (D : List (K2 × Bool)) (l : List K2) : List (K2 × Bool) := l.foldl (fun d x => eE d x true) D
theorem oa : ∀ (l : List K2) (D : List (K2 × Bool)) (x : K2), dn (lD D l) x = true ↔ x ∈ l \/ dn D x = true
 | [], D, x => by simp [lD]
 | e :: l, D, x => by
  show dn (lD (eE D e true) l) x = true ↔ _
  rw [oa l, zV]
  simp only [Bool.or_eq_true, beq_iff_eq, List.mem_cons]
  constructor
  · rintro (h | h | h)
    · exact .inl (.inr h)
    · exact .inl (.inl h)
    · exact .inr h
  · rintro ((h | h) | h)
    · exact .inr (.inl h)
    · exact .inl h
    · exact .inr (.inr h)
def mu (S : List (K2 × K2)) (D : K2 -> Bool) : Nat := (S.filter fun q => !D q.1).length
theorem Cu (S : List (K2 × K2)) (D : K2 -> Bool) : mu S D <= S.length := List.length_filter_le _ _
theorem AZ {α : Type} {p p' : α -> Bool} (h : ∀ x, p' x = true -> p x = true) : ∀ l : List α, (l.filter p').length <= (l.filter p).length
 | [] => Nat.le_refl _
 | x :: l => by
  have := AZ h l
  rw [List.filter_cons, List.filter_cons]
  by_cases h1 : p' x = true
  · rw [if_pos h1, if_pos (h x h1), List.length_cons, List.length_cons]; omega
  · rw [if_neg h1]
    split
    · rw [List.length_cons]; omega
    · exact this
theorem AM {α : Type} {p p' : α -> Bool} (h : ∀ x, p' x = true -> p x = true) {y : α} (h1 : p y = true) (h2 : p' y = false) : ∀ l : List α, y ∈ l -> (l.filter p').length + 1 <= (l.filter p).length
 | [], hy => by cases hy
 | x :: l, hy => by
  rw [List.filter_cons, List.filter_cons]
  rcases List.mem_cons.1 hy with rfl | hy
  · rw [if_neg (by rw [h2]; simp), if_pos h1, List.length_cons]
    have := AZ h l; omega
  · have := AM h h1 h2 l hy
    by_cases h3 : p' x = true
    · rw [if_pos h3, if_pos (h x h3), List.length_cons, List.length_cons]; omega
    · rw [if_neg h3]
      split
      · rw [List.length_cons]; omega
      · exact this
theorem xf {S : List (K2 × K2)} {D : K2 -> Bool} {e : K2} (h : dB S e = true) (hd : D e = false) : mu S (fun x => x == e || D x) + 1 <= mu S D := by
 obtain ⟨q, hq, rfl⟩ := iM.1 h
 refine AM (p := fun x => !D x.1) (p' := fun x => !(x.1 == q.1 || D x.1)) (fun x hx => ?_) (y := q) (by simp [hd]) (by simp) S hq
 revert hx
 cases D x.1 <;> simp
section
variable {S : List (K2 × K2)}
theorem zS : ∀ (f : Nat) (V : K2 -> Bool) (e x y : K2), mu S V + 1 <= f -> x ∈ W S f V e -> dB S x = true -> y = getM (A2.mk 0 0) S x -> y ∈ W S f V e \/ V y = true
 | 0, V, e, x, y, hf, hx, _, _ => by cases hx
 | f + 1, V, e, x, y, hf, hx, hh, hy => by
  unfold W at hx ⊢
  cases hV : V e with
  | true => rw [if_pos hV] at hx; cases hx
  | false =>
   rw [if_neg (by simp [hV])] at hx ⊢
   have step : dB S e = true -> (x ∈ W S f (fun z => z == e || V z) (getM (A2.mk 0 0) S e)) -> y ∈ W S f (fun z => z == e || V z) (getM (A2.mk 0 0) S e) \/ (y = e \/ V y = true) := fun he hx => by
    have := xf (S := S) (D := V) he hV
    rcases zS f _ _ x y (by omega) hx hh hy with h | h
    · exact .inl h
    · simp only [Bool.or_eq_true, beq_iff_eq] at h; exact .inr h
   have fin : dB S e = true -> y ∈ W S f (fun z => z == e || V z) (getM (A2.mk 0 0) S e) \/ (y = e \/ V y = true) -> y ∈ (e :: (if dB S e = true then W S f (fun x => x == e || V x) (getM (A2.mk 0 0) S e) else [])) \/ V y = true := fun he h => by
    rw [if_pos he]
    rcases h with h | h | h
    · exact .inl (List.mem_cons_of_mem _ h)
    · exact .inl (by rw [h]; exact List.mem_cons_self ..)
    · exact .inr h
   rcases List.mem_cons.1 hx with rfl | hx
   · refine fin hh ?_
     have hm := xf (S := S) (D := V) hh hV
     obtain ⟨f', rfl⟩ : ∃ f', f = f' + 1 := ⟨f - 1, by omega⟩
     by_cases hd : (y == x || V y) = true
     · simp only [Bool.or_eq_true, beq_iff_eq] at hd; exact .inr hd
     · refine .inl ?_
       unfold W
       rw [<- hy, if_neg hd]
       exact List.mem_cons_self ..
   · by_cases he : dB S e = true
     · rw [if_pos he] at hx; exact fin he (step he hx)
     · rw [if_neg he] at hx; cases hx
theorem zE : ∀ (f : Nat) (V : K2 -> Bool) (e y : K2), y ∈ W S f V e -> y = e \/ ∃ x ∈ W S f V e, dB S x = true /\ y = getM (A2.mk 0 0) S x
 | 0, V, e, y, h => by cases h
 | f + 1, V, e, y, h => by
  unfold W at h ⊢
  by_cases hV : V e = true
  · rw [if_pos hV] at h; cases h
  · rw [if_neg hV] at h ⊢
    rcases List.mem_cons.1 h with rfl | h
    · exact .inl rfl
    · by_cases he : dB S e = true
      · rw [if_pos he] at h ⊢
        rcases zE f _ _ y h with h | ⟨x, hx, h1, h2⟩
        · exact .inr ⟨e, List.mem_cons_self .., he, h⟩
        · exact .inr ⟨x, List.mem_cons_of_mem _ hx, h1, h2⟩
      · rw [if_neg he] at h; cases h
def Cl (S : List (K2 × K2)) (D : K2 -> Bool) : Prop := ∀ x, dB S x = true -> (D x = true ↔ D (getM (A2.mk 0 0) S x) = true)
theorem AF {D : K2 -> Bool} (hD : Cl S D) : ∀ (f : Nat) (V : K2 -> Bool) (x : K2), D x = false -> W S f (fun z => V z || D z) x = W S f V x
 | 0, _, _, _ => rfl
 | f + 1, V, x, hx => by
  unfold W
  simp only [hx, Bool.or_false]
  by_cases hV : V x = true
  · rw [if_pos hV, if_pos hV]
  · rw [if_neg hV, if_neg hV]
    by_cases hh : dB S x = true
    · rw [if_pos hh, if_pos hh]
      have ht : D (getM (A2.mk 0 0) S x) = false := by
       cases hc : D (getM (A2.mk 0 0) S x) with
       | false => rfl
       | true => rw [(hD x hh).2 hc] at hx; cases hx
      have := AF hD f (fun z => z == x || V z) _ ht
      rw [<- this]
      congr 2
      funext z
      rw [Bool.or_assoc]
    · rw [if_neg hh, if_neg hh]
def path (S : List (K2 × K2)) (e : K2) : List K2 := W S 100 (fun _ => false) e
theorem E8 {D : K2 -> Bool} (hD : Cl S D) {e : K2} (he : D e = false) : W S 100 D e = path S e := by
 have := AF hD 100 (fun _ => false) e he
 unfold path
 rw [<- this]
 rfl
theorem z8 {f : Nat} {D : K2 -> Bool} {e : K2} (hf : 0 < f) (he : D e = false) : ∃ l, W S f D e = e :: l := by
 obtain ⟨k, rfl⟩ : ∃ k, f = k + 1 := ⟨f - 1, by omega⟩
 unfold W
 rw [if_neg (by simp [he])]
 exact ⟨_, rfl⟩
theorem Bf : ∀ (f : Nat) (D : K2 -> Bool) (e x : K2), x ∈ W S f D e -> D x = false
 | 0, _, _, _, h => by cases h
 | f + 1, D, e, x, h => by
  unfold W at h
  by_cases hD : D e = true
  · rw [if_pos hD] at h; cases h
  · rw [if_neg hD] at h
    rcases List.mem_cons.1 h with rfl | h
    · simpa using hD
    · by_cases he : dB S e = true
      · rw [if_pos he] at h
        have := Bf f _ _ x h
        simp only [Bool.or_eq_false_iff] at this
        exact this.2
      · rw [if_neg he] at h; cases h
end
structure Ge (S : List (K2 × K2)) (P : K2 -> Prop) : Prop where
 k : ∀ q ∈ S, P q.1 /\ P q.2
theorem Ge.next {S : List (K2 × K2)} {P : K2 -> Prop} (h : Ge S P) {e : K2} (he : dB S e = true) : P (getM (A2.mk 0 0) S e) := (h.k _ (nT he)).2
noncomputable def crP (g : al) (level : Int) (e : K2) : ak := (cj 20000 g level e).getD default
theorem yu {g : al} {level : Int} {S : List (K2 × K2)} {P : K2 -> Prop} (hS : Ge S P) (hP : ∀ e, P e -> cj 20000 g level e = some (crP g level e)) (hl : S.length <= 60) {e : K2} (he : P e) {closed : Bool} {D : List (K2 × Bool)} (hd : dn D e = false) {out : List ah} (ho : out.length <= 10000) :
  c5 20000 e closed D g.X0 g.Y0 g.Step g.Width g.Height g.Z level S out = some (lD D (W S 100 (dn D) e), out ++ [ah.mk closed ((W S 100 (dn D) e).map (crP g level))]) := by
 apply Ok.eq
 unfold c5
 refine Ok.bd (R := fun o => o = (lD D (W S 100 (dn D) e), [] ++ (W S 100 (dn D) e).map (crP g level))) ?_ (by
  rintro o rfl
  exact Ok.gd (decide_eq_true (by omega)) (Ok.gd (decide_eq_true (by omega)) (aC.2 (by rw [List.nil_append]))))
 have key : ∀ (f m : Nat) (D : List (K2 × Bool)) (c : List ak) (e : K2), f < m -> mu S (dn D) + 1 <= f -> P e -> dn D e = false -> c.length + f <= 10000 ->
   Ok (aN m (fun again39 (p_27, c_28, at_29, at_30) => (
  bdO (cj 20000 (al.mk g.X0 g.Y0 g.Step g.Width g.Height g.Z) level (A2.mk at_29 at_30)) fun v40 => (
  gdO (decide ((c_28.length + 1) * 80 <= 140737488355328)) (
  gdO (decide (c_28.length + 1 <= 4611686018427387904)) (
  cdO (!(dB S (A2.mk at_29 at_30))) (
   some ((eE p_27 (A2.mk at_29 at_30) true, c_28 ++ [v40]))
  ) (
   cdO (getM false (eE p_27 (A2.mk at_29 at_30) true) (getM (A2.mk 0 0 : A2 Int) S (A2.mk at_29 at_30))) (
    some ((eE p_27 (A2.mk at_29 at_30) true, c_28 ++ [v40]))
   ) (
    again39 (eE p_27 (A2.mk at_29 at_30) true, c_28 ++ [v40], (getM (A2.mk 0 0 : A2 Int) S (A2.mk at_29 at_30)).e0, (getM (A2.mk 0 0 : A2 Int) S (A2.mk at_29 at_30)).e1)
   ))))))) (D, c, e.e0, e.e1)) fun o => o = (lD D (W S f (dn D) e), c ++ (W S f (dn D) e).map (crP g level)) := by
  intro f
  induction f with
  | zero => intro m D c e _ h; omega
  | succ f ih =>
   intro m D c e hm hf he hd hc
   obtain ⟨m, rfl⟩ : ∃ k, m = k + 1 := ⟨m - 1, by omega⟩
   rw [wm]
   dsimp only
   have hW : W S (f + 1) (dn D) e = e :: (if dB S e = true then W S f (dn (eE D e true)) (getM (A2.mk 0 0) S e) else []) := by
    rw [zV]
    conv => lhs; unfold W
    rw [if_neg (by simp [hd])]
   rw [hW]
   refine Ok.bde (hP e he) (Ok.gd (decide_eq_true (by omega)) (Ok.gd (decide_eq_true (by omega)) ?_))
   refine Ok.cd (fun h => aC.2 ?_) (fun h => ?_)
   · have h : dB S e = false := by simpa using h
     rw [if_neg (by rw [h]; simp)]; rfl
   · have h : dB S e = true := by simpa using h
     rw [if_pos h]
     have hmu := xf (S := S) h hd
     rw [<- zV] at hmu
     refine Ok.cd (fun h' => aC.2 ?_) (fun h' => ?_)
     · have h' : dn (eE D e true) (getM (A2.mk 0 0) S e) = true := h'
       rw [show W S f (dn (eE D e true)) (getM (A2.mk 0 0) S e) = [] by cases f <;> unfold W <;> simp [h']]; rfl
     · have h' : dn (eE D e true) (getM (A2.mk 0 0) S e) = false := h'
       refine (ih m (eE D e true) (c ++ [crP g level e]) _ (by omega) (by omega) (hS.next h) h' (by rw [List.length_append, List.length_singleton]; omega)).mono fun o ho => ho.trans ?_
       rw [List.map_cons, List.append_assoc]; rfl
 have := Cu S (dn D)
 exact key 100 20000 D [] e (by omega) (by omega) he hd (by simp)
end Go.L

