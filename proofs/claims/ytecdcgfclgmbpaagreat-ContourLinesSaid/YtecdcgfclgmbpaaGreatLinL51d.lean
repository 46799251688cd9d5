import Derived.Test.YtecdcgfclgmbpaaGreatLinLsrt
import Derived.Test.YtecdcgfclgmbpaaGreatLinLD
set_option linter.all false
namespace Go.L
open Go Go.Eng
abbrev K2 := A2 Int
def rj (z : Int) : Prop := -1048576 <= z /\ z <= 1048576
def abv (Z : List Int) (level k : Int) : Bool := decide (2 * gt Z k > level)
abbrev S5 := Int × Int × Int × Int × Bool
def stp (Z : List Int) (level : Int) (s : S5) (a b : Int) : S5 :=
 if (abv Z level a && !abv Z level b) = true then (mn a b, mx a b, s.2.2.1, s.2.2.2.1, true) else if (!abv Z level a && abv Z level b) = true then (s.1, s.2.1, mn a b, mx a b, s.2.2.2.2) else s
def xV (Z : List Int) (level : Int) (t : A3 Int) : Nat -> S5
 | 0 => (0, 0, 0, 0, false)
 | k + 1 => stp Z level (xV Z level t k) (A3.get t (k : Int)) (A3.get t (((k + 1) % 3 : Nat) : Int))
def CP (s : S5) : Option (K2 × K2) := match s with | (f0, f1, t0, t1, true) => some (A2.mk f0 f1, A2.mk t0 t1) | _ => none
def seg (Z : List Int) (level : Int) (t : A3 Int) : Option (K2 × K2) := CP (xV Z level t 3)
theorem EF {k : Nat} (h : k < 3) : (FK ((k : Int) + 1)).tmod 3 = (((k + 1) % 3 : Nat) : Int) := by
 rcases (by omega : k = 0 \/ k = 1 \/ k = 2) with rfl | rfl | rfl <;> rfl
def okT (Z : List Int) (t : A3 Int) : Prop := ∀ i : Nat, i < 3 -> inR (A3.get t (i : Int)) Z.length = true /\ rj (gt Z (A3.get t (i : Int)))
theorem Ea {Z : List Int} {t : A3 Int} (hi : inR t.e0 Z.length = true /\ inR t.e1 Z.length = true /\ inR t.e2 Z.length = true) (hz : rj (gt Z t.e0) /\ rj (gt Z t.e1) /\ rj (gt Z t.e2)) : okT Z t := by
 intro i h
 rcases (by omega : i = 0 \/ i = 1 \/ i = 2) with rfl | rfl | rfl
 · exact ⟨hi.1, hz.1⟩
 · exact ⟨hi.2.1, hz.2.1⟩
 · exact ⟨hi.2.2, hz.2.2⟩
theorem DF {n : Nat} {Z : List Int} {level k : Int} (h : inR k Z.length = true /\ rj (gt Z k)) (a b c d e : Int) : di n k a b c d e Z level = some (abv Z level k) := by
 unfold di abv
 rw [h.1, wrap64_in (by have := h.2.1; omega) (by have := h.2.2; omega)]; rfl
theorem DH {n : Nat} {g : al} {level k : Int} (h : inR k g.Z.length = true /\ rj (gt g.Z k)) : bn n g level k = some (abv g.Z level k) := by
 unfold bn abv
 rw [h.1, wrap64_in (by have := h.2.1; omega) (by have := h.2.2; omega)]; rfl
def stM (c : List (K2 × K2) × List (K2 × Bool)) (q : K2 × K2) : List (K2 × K2) × List (K2 × Bool) := (cV c.1 q.1 q.2, cV c.2 q.2 true)
def stT (Z : List Int) (level : Int) (c : List (K2 × K2) × List (K2 × Bool)) (t : A3 Int) : List (K2 × K2) × List (K2 × Bool) := match seg Z level t with | some q => stM c q | none => c
theorem BY {n : Nat} (hn : 10 < n) {t : A3 Int} {Z : List Int} {level : Int} (hT : okT Z t) (a b c d e : Int) (m : List (K2 × K2) × List (K2 × Bool)) : fz n t a b c d e Z level m.1 m.2 = some (stT Z level m t) := by
 apply Ok.eq
 unfold fz
 refine Ok.bd (R := fun o => o = xV Z level t 3) ?_ ?_
 · refine fr (γ := S5) (len := 3) (fun s x => (s.1, s.2.1, s.2.2.1, s.2.2.2.1, s.2.2.2.2, x)) (fun k s => s = xV Z level t k) (by omega) (by omega) (c0 := (0, 0, 0, 0, false)) rfl ?_ ?_
   · rintro again k s hk hs ih
     have h1 := hT k hk
     have h2 := hT ((k + 1) % 3) (by omega)
     refine Ok.cd (fun _ => ?_) (fun h => by have := dcF h; omega)
     rw [EF hk]
     refine Ok.gd (by rw [lO]; omega) (Ok.gd (by rw [lO]; omega) ?_)
     have key : xV Z level t (k + 1) = stp Z level s (A3.get t (k : Int)) (A3.get t (((k + 1) % 3 : Nat) : Int)) := by rw [hs]; rfl
     have ih : ∀ c', c' = stp Z level s (A3.get t (k : Int)) (A3.get t (((k + 1) % 3 : Nat) : Int)) -> Ok (again (c'.1, c'.2.1, c'.2.2.1, c'.2.2.2.1, c'.2.2.2.2, FK ((k : Int) + 1))) _ := fun c' h => ih c' (h.trans key.symm)
     clear key
     have e1 := DF (n := n) (level := level) h1 a b c d e
     have e2 := DF (n := n) (level := level) h2 a b c d e
     generalize A3.get t (((k + 1) % 3 : Nat) : Int) = y at *
     generalize A3.get t (k : Int) = x at *
     refine Ok.bde rfl (Ok.bd (R := fun o => o = (abv Z level x && !abv Z level y)) (Ok.bde e1 ?_) ?_)
     · exact Ok.cd (fun h => Ok.bde e2 (aw.2 (by rw [h]; rfl))) (fun h => aw.2 (by rw [h]; rfl))
     · rintro o rfl
       refine Ok.cd (fun h => Ok.bde rfl (ih (mn x y, mx x y, s.2.2.1, s.2.2.2.1, true) (by unfold stp; rw [if_pos h]))) (fun h => Ok.bde e1 (Ok.cd (fun h' => Ok.bde e2 (Ok.cd (fun h'' => Ok.bde rfl (ih (s.1, s.2.1, mn x y, mx x y, s.2.2.2.2) (by unfold stp; rw [h, if_neg (by simp), h', h'']; rfl))) (fun h'' => ih s (by unfold stp; rw [h, if_neg (by simp), h', h'']; rfl)))) (fun h' => ih s (by unfold stp; rw [h, if_neg (by simp), h']; rfl))))
   · rintro again s rfl
     exact Ok.cd (fun h => by have := dcT h; omega) (fun _ => aw.2 rfl)
 · rintro o ho
   have e : stT Z level m t = (match CP o with | some q => stM m q | none => m) := by unfold stT seg; rw [<- ho]
   rw [e]; clear ho e
   obtain ⟨f0, f1, t0, t1, cr⟩ := o
   cases cr <;> exact aw.2 rfl
def rP (g : al) (w h : Nat) (level : Int) : List (K2 × K2) := (kI g w h).filterMap (seg g.Z level)
theorem D2 {g : al} {w h : Nat} (hb : g.Z.any pQ = false) {t : A3 Int} (hg : Gd g w h) (ht : t ∈ kI g w h) : okT g.Z t := by
 unfold kI at ht
 rw [List.mem_filter] at ht
 obtain ⟨i0, i1, i2⟩ := D0 hg ht.1
 have hz := ht.2
 unfold nW at hz
 simp only [Bool.and_eq_true] at hz
 have key : ∀ {k : Int}, inR k g.Z.length = true -> (gt g.Z k != -2147483648) = true -> rj (gt g.Z k) := by
  intro k hk hn
  have hk2 := lO.1 hk
  obtain ⟨m, rfl⟩ : ∃ m : Nat, k = (m : Int) := ⟨k.toNat, by omega⟩
  have hm : m < g.Z.length := by omega
  have h1 : gt g.Z (m : Int) ∈ g.Z := by
   rw [mW]; simp only [List.getD, geT hm, Option.getD_some]; exact List.getElem_mem hm
  have := List.any_eq_false.1 hb _ h1
  unfold pQ xI at this
  rw [hn] at this
  simp at this
  exact ⟨by omega, by omega⟩
 exact Ea ⟨i0, i1, i2⟩ ⟨key i0 hz.1, key i1 hz.2.1, key i2 hz.2.2⟩
theorem DO {n : Nat} (hn : 200 < n) {g : al} {level : Int} {w h : Nat} (hg : Gd g w h) (hb : g.Z.any pQ = false) (a b c d e : Int) :
  aY n g a b c d e g.Z level ([] : List (K2 × K2)) ([] : List (K2 × Bool)) = some ((rP g w h level).foldl stM ([], [])) := by
 apply Ok.eq
 unfold aY
 refine Ok.bd (R := fun o => o = (kI g w h).foldl (stT g.Z level) ([], [])) ?_ ?_
 · refine ya (γ := List (K2 × K2) × List (K2 × Bool)) hn hg (fun c x => (c.1, c.2, x)) (fun t m => fz n t a b c d e g.Z level m.1 m.2)
    (fun _ _ _ => rfl) (fun _ _ _ _ => rfl) (fun _ _ _ _ => rfl) (fun pre m => m = pre.foldl (stT g.Z level) ([], [])) rfl fun pre t m ht _ hm => ?_
   rw [BY (by omega) (D2 hb hg ht)]
   exact aw.2 (by rw [List.foldl_append, <- hm]; rfl)
 · rintro o rfl
   refine aw.2 ?_
   unfold rP
   rw [List.foldl_filterMap]
   show List.foldl (stT g.Z level) ([], []) (kI g w h) = _
   congr 1
   funext x y; unfold stT; cases seg g.Z level y <;> rfl
theorem DV {n : Nat} (hn : 10000 < n) {g : al} {level : Int} {w h : Nat} (hg : Gd g w h) (hb : g.Z.any pQ = false) (hT : (kI g w h).length <= 8000) : eC n g level = some ((rP g w h level).map fun q => A2.mk q.1 q.2) := by
 apply Ok.eq
 unfold eC
 refine Ok.bde (C9 (by omega) hg) ?_
 refine Ok.bd (R := fun o => o = (rP g w h level).map fun q => A2.mk q.1 q.2) ?_ (fun o ho => aw.2 ho)
 have hl : ∀ k, (((kI g w h).take k).filterMap (seg g.Z level)).length <= 8000 := fun k => Nat.le_trans (List.length_filterMap_le _ _) (by rw [List.length_take]; omega)
 refine fr (γ := List (A2 K2)) (len := (kI g w h).length) (fun l x => (l, x)) (fun k l => l = (((kI g w h).take k).filterMap (seg g.Z level)).map fun q => A2.mk q.1 q.2) (by omega) (by omega) (c0 := []) rfl ?_ ?_
 · rintro again k l hk hl2 ih
   have hm : gt (kI g w h) (k : Int) ∈ kI g w h := by
    rw [mW]; simp only [List.getD, geT hk, Option.getD_some]; exact List.getElem_mem hk
   have hT := D2 hb hg hm
   have ht : ((kI g w h).take (k + 1)).filterMap (seg g.Z level) = ((kI g w h).take k).filterMap (seg g.Z level) ++ (match seg g.Z level (gt (kI g w h) (k : Int)) with | some q => [q] | none => []) := by
    rw [List.take_add_one, geT hk, List.filterMap_append, mW]
    simp only [List.getD, geT hk, Option.getD_some, Option.toList_some]
    cases hs : seg g.Z level (kI g w h)[k] <;> simp [List.filterMap, hs]
   have hll := hl k
   rw [ht] at ih
   refine Ok.cd (fun _ => ?_) (fun h => by have := dcF h; omega)
   refine Ok.gd (by rw [bg]; exact decide_eq_true hk) ?_
   generalize gt (kI g w h) (k : Int) = t at *
   refine Ok.bd (R := fun o => o = xV g.Z level t 3) ?_ ?_
   · refine fr (γ := S5) (len := 3) (fun s x => (s.1, s.2.1, s.2.2.1, s.2.2.2.1, s.2.2.2.2, x)) (fun k s => s = xV g.Z level t k) (by omega) (by omega) (c0 := (0, 0, 0, 0, false)) rfl ?_ ?_
     · rintro again2 j s hj hs ih2
       have h1 := hT j hj
       have h2 := hT ((j + 1) % 3) (by omega)
       refine Ok.cd (fun _ => ?_) (fun h => by have := dcF h; omega)
       rw [EF hj]
       refine Ok.gd (by rw [lO]; omega) (Ok.gd (by rw [lO]; omega) ?_)
       have key : xV g.Z level t (j + 1) = stp g.Z level s (A3.get t (j : Int)) (A3.get t (((j + 1) % 3 : Nat) : Int)) := by rw [hs]; rfl
       have ih2 : ∀ c', c' = stp g.Z level s (A3.get t (j : Int)) (A3.get t (((j + 1) % 3 : Nat) : Int)) -> Ok (again2 (c'.1, c'.2.1, c'.2.2.1, c'.2.2.2.1, c'.2.2.2.2, FK ((j : Int) + 1))) _ := fun c' h => ih2 c' (h.trans key.symm)
       clear key
       have e1 := DH (n := n) (level := level) h1
       have e2 := DH (n := n) (level := level) h2
       generalize A3.get t (((j + 1) % 3 : Nat) : Int) = y at *
       generalize A3.get t (j : Int) = x at *
       refine Ok.bde rfl (Ok.bde e1 ?_)
       cases hx : abv g.Z level x with
       | true =>
        rw [hx] at e1
        refine Ok.cd (fun _ => Ok.bde e2 ?_) (fun h => by cases h)
        cases hy : abv g.Z level y with
        | true =>
         refine Ok.cd (fun h => by cases h) (fun _ => Ok.bde e1 (Ok.cd (fun h => by cases h) (fun _ => ih2 s ?_)))
         unfold stp; rw [hx, hy]; rfl
        | false =>
         refine Ok.cd (fun _ => Ok.bde rfl (Ok.bde e1 (Ok.cd (fun h => by cases h) (fun _ => ih2 (mn x y, mx x y, s.2.2.1, s.2.2.2.1, true) ?_)))) (fun h => by cases h)
         unfold stp; rw [hx, hy]; rfl
       | false =>
        rw [hx] at e1
        refine Ok.cd (fun h => by cases h) (fun _ => Ok.bde e1 (Ok.cd (fun _ => Ok.bde e2 ?_) (fun h => by cases h)))
        cases hy : abv g.Z level y with
        | true =>
         refine Ok.cd (fun _ => Ok.bde rfl (ih2 (s.1, s.2.1, mn x y, mx x y, s.2.2.2.2) ?_)) (fun h => by cases h)
         unfold stp; rw [hx, hy]; rfl
        | false =>
         refine Ok.cd (fun h => by cases h) (fun _ => ih2 s ?_)
         unfold stp; rw [hx, hy]; rfl
     · rintro again2 s rfl
       exact Ok.cd (fun h => by have := dcT h; omega) (fun _ => aw.2 rfl)
   · rintro o ho
     have e : seg g.Z level t = CP o := by unfold seg; rw [<- ho]
     rw [e] at ih
     clear ho e
     have hlen : l.length <= 8000 := by rw [hl2, List.length_map]; exact hll
     obtain ⟨f0, f1, t0, t1, cr⟩ := o
     cases cr with
     | true => exact Ok.cd (fun _ => Ok.gd (decide_eq_true (by omega)) (Ok.gd (decide_eq_true (by omega)) (ih _ (by rw [hl2, List.map_append]; rfl)))) (fun h => by cases h)
     | false => exact Ok.cd (fun h => by cases h) (fun _ => ih _ (by rw [hl2, List.map_append]; show _ = _ ++ []; rw [List.append_nil]))
 · rintro again l hl2
   rw [List.take_length] at hl2
   exact Ok.cd (fun h => by have := dcT h; omega) (fun _ => aw.2 hl2)
end Go.L


set_option linter.all false
namespace Go.L
open Go Go.Eng
def dE (t : A3 Int) : List (Int × Int) := [(t.e0, t.e1), (t.e1, t.e2), (t.e2, t.e0)]
theorem wc {Z : List Int} {level : Int} {t : A3 Int} {q : K2 × K2} (h : seg Z level t = some q) : (∃ a b, (a, b) ∈ dE t /\ abv Z level a = true /\ abv Z level b = false /\ q.1 = A2.mk (mn a b) (mx a b)) /\ (∃ a b, (a, b) ∈ dE t /\ abv Z level a = false /\ abv Z level b = true /\ q.2 = A2.mk (mn a b) (mx a b)) := by
 have e : xV Z level t 3 = stp Z level (stp Z level (stp Z level (0, 0, 0, 0, false) t.e0 t.e1) t.e1 t.e2) t.e2 t.e0 := rfl
 unfold seg at h
 rw [e] at h
 clear e
 have m0 : (t.e0, t.e1) ∈ dE t := by simp [dE]
 have m1 : (t.e1, t.e2) ∈ dE t := by simp [dE]
 have m2 : (t.e2, t.e0) ∈ dE t := by simp [dE]
 cases ha : abv Z level t.e0 <;> cases hb : abv Z level t.e1 <;> cases hc : abv Z level t.e2 <;> simp [stp, ha, hb, hc, CP] at h <;> subst h <;>
  exact ⟨by first | exact ⟨_, _, m0, ha, hb, rfl⟩ | exact ⟨_, _, m1, hb, hc, rfl⟩ | exact ⟨_, _, m2, hc, ha, rfl⟩, by first | exact ⟨_, _, m0, ha, hb, rfl⟩ | exact ⟨_, _, m1, hb, hc, rfl⟩ | exact ⟨_, _, m2, hc, ha, rfl⟩⟩
def Rd (t t' : A3 Int) : Prop := ∀ e ∈ dE t, e ∉ dE t'
theorem AN {w j i : Nat} (hw : w <= 64) (hj : j < 64) (hi : i < 64) : ia (w : Int) j i = [A3.mk ((j * w + i : Nat) : Int) (((j * w + i : Nat) : Int) + 1) (((j * w + i : Nat) : Int) + w + 1), A3.mk ((j * w + i : Nat) : Int) (((j * w + i : Nat) : Int) + w + 1) (((j * w + i : Nat) : Int) + w)] := by
 have h1 : j * w <= 63 * 64 := Nat.mul_le_mul (by omega) hw
 unfold ia
 have e : FK ((FK ((j : Int) * (w : Int))) + (i : Int)) = ((j * w + i : Nat) : Int) := by
  rw [<- Int.natCast_mul, wrap64_in (n := ((j * w : Nat) : Int)) (by omega) (by omega), wrap64_in (by omega) (by omega), Int.natCast_add]
 rw [e, wrap64_in (n := ((j * w + i : Nat) : Int) + 1) (by omega) (by omega), wrap64_in (n := ((j * w + i : Nat) : Int) + (w : Int)) (by omega) (by omega), wrap64_in (n := ((j * w + i : Nat) : Int) + (w : Int) + 1) (by omega) (by omega)]
theorem Ci {k k' w : Int} (h : k ≠ k') (hw : 2 <= w) : ∀ x ∈ [A3.mk k (k + 1) (k + w + 1), A3.mk k (k + w + 1) (k + w)], ∀ y ∈ [A3.mk k' (k' + 1) (k' + w + 1), A3.mk k' (k' + w + 1) (k' + w)], Rd x y := by
 intro x hx y hy e he he'
 simp only [List.mem_cons, List.not_mem_nil, or_false] at hx hy
 rcases hx with rfl | rfl <;> rcases hy with rfl | rfl <;> simp only [dE, List.mem_cons, List.not_mem_nil, or_false] at he he' <;> rcases he with rfl | rfl | rfl <;> rcases he' with he' | he' | he' <;> (rw [Prod.mk.injEq] at he'; omega)
theorem Ef {k w : Int} (hw : 2 <= w) : Rd (A3.mk k (k + 1) (k + w + 1)) (A3.mk k (k + w + 1) (k + w)) := by
 intro e he he'
 simp only [dE, List.mem_cons, List.not_mem_nil, or_false] at he he'
 rcases he with rfl | rfl | rfl <;> rcases he' with he' | he' | he' <;> (rw [Prod.mk.injEq] at he'; omega)
theorem DL {w h : Nat} (hw : 2 <= w /\ w <= 64) (hh : 2 <= h /\ h <= 64) : (nu (w : Int) (w - 1) (h - 1)).Pairwise Rd := by
 unfold nu Bx
 refine List.pairwise_flatMap.2 ⟨fun j hj => List.pairwise_flatMap.2 ⟨fun i hi => ?_, ?_⟩, ?_⟩
 · rw [List.mem_range] at hj hi
   rw [AN hw.2 (by omega) (by omega)]
   exact List.pairwise_cons.2 ⟨fun y hy => by rw [List.mem_singleton] at hy; subst hy; exact Ef (by omega), List.pairwise_singleton _ _⟩
 · rw [List.mem_range] at hj
   refine List.pairwise_lt_range.imp_of_mem fun {i i'} hi hi' hlt => ?_
   rw [List.mem_range] at hi hi'
   rw [AN hw.2 (by omega) (by omega), AN hw.2 (by omega) (by omega)]
   exact Ci (by omega) (by omega)
 · refine List.pairwise_lt_range.imp_of_mem fun {j j'} hj hj' hlt => ?_
   rw [List.mem_range] at hj hj'
   intro x hx y hy
   obtain ⟨i, hi, hx⟩ := List.mem_flatMap.1 hx
   obtain ⟨i', hi', hy⟩ := List.mem_flatMap.1 hy
   rw [List.mem_range] at hi hi'
   rw [AN hw.2 (by omega) (by omega)] at hx hy
   have h1 : (j + 1) * w <= j' * w := Nat.mul_le_mul_right w hlt
   rw [Nat.add_mul, Nat.one_mul] at h1
   exact Ci (by omega) (by omega) x hx y hy
def Rq (q q' : K2 × K2) : Prop := q.1 ≠ q'.1 /\ q.2 ≠ q'.2
theorem Al {a b c d : Int} (h : A2.mk (mn a b) (mx a b) = A2.mk (mn c d) (mx c d)) : (a = c /\ b = d) \/ (a = d /\ b = c) := by
 injection h with h1 h2
 unfold mn at h1; unfold mx at h2
 split at h1 <;> split at h1 <;> split at h2 <;> split at h2 <;> omega
theorem Ai {g : al} {w h : Nat} (hg : Gd g w h) (level : Int) : (rP g w h level).Pairwise Rq := by
 have hp : (kI g w h).Pairwise Rd := by
  unfold kI; rw [hg.W]; exact (DL hg.w1 hg.h1).filter _
 refine hp.filterMap _ fun t t' hR q hq q' hq' => ?_
 obtain ⟨⟨a, b, m1, a1, b1, e1⟩, ⟨c, d, m2, c1, d1, e2⟩⟩ := wc hq
 obtain ⟨⟨a', b', m1', a1', b1', e1'⟩, ⟨c', d', m2', c1', d1', e2'⟩⟩ := wc hq'
 refine ⟨fun e => ?_, fun e => ?_⟩
 · rw [e1, e1'] at e
   rcases Al e with ⟨rfl, rfl⟩ | ⟨rfl, rfl⟩
   · exact hR _ m1 m1'
   · rw [a1] at b1'; cases b1'
 · rw [e2, e2'] at e
   rcases Al e with ⟨rfl, rfl⟩ | ⟨rfl, rfl⟩
   · exact hR _ m2 m2'
   · rw [c1] at d1'; cases d1'
section
variable {κ α : Type} [DecidableEq κ]
theorem lU {x : κ} : ∀ {l : List (κ × α)}, dG l x = true ↔ ∃ p ∈ l, p.1 = x
 | [] => by simp [dG]
 | p :: l => by
  unfold dG
  cases h : x == p.1 with
  | true =>
   have h := eq_of_beq h
   exact ⟨fun _ => ⟨p, by simp, h.symm⟩, fun _ => rfl⟩
  | false =>
   show dG l x = true ↔ _
   rw [lU (l := l)]
   constructor
   · rintro ⟨q, hq, e⟩; exact ⟨q, List.mem_cons_of_mem _ hq, e⟩
   · rintro ⟨q, hq, e⟩
     rcases List.mem_cons.1 hq with rfl | hq
     · rw [e] at h; simp at h
     · exact ⟨q, hq, e⟩
theorem uX {x : κ} {v : α} : ∀ {l : List (κ × α)}, dG l x = false -> cV l x v = l ++ [(x, v)]
 | [], _ => rfl
 | p :: l, h => by
  unfold dG at h
  unfold cV
  cases hx : x == p.1 with
  | true => rw [hx] at h; cases h
  | false =>
   rw [hx] at h
   show p :: cV l x v = p :: (l ++ [(x, v)])
   rw [uX h]
theorem yZ {z v : α} {x y : κ} : ∀ {l : List (κ × α)}, getM z (cV l x v) y = if y = x then v else getM z l y
 | [] => by
  unfold cV getM getM
  by_cases h : y = x
  · subst h; simp
  · rw [if_neg h, show (y == x) = false by simpa using h]; rfl
 | p :: l => by
  unfold cV
  cases hx : x == p.1 with
  | true =>
   have hx := eq_of_beq hx
   show getM z ((x, v) :: l) y = _
   unfold getM
   by_cases h : y = x
   · subst h; simp
   · rw [if_neg h]; subst hx; rw [show (y == p.1) = false by simpa using h]; rfl
  | false =>
   show getM z (p :: cV l x v) y = _
   unfold getM
   rw [yZ (l := l)]
   cases hy : y == p.1 with
   | true =>
    have hy := eq_of_beq hy
    subst hy
    have hne : ¬ p.1 = x := fun e => by rw [e] at hx; simp at hx
    simp only [cond_true, if_neg hne]
   | false => rfl
theorem zj {z v : α} {x : κ} : ∀ {l : List (κ × α)}, l.Pairwise (fun p q => p.1 ≠ q.1) -> (x, v) ∈ l -> getM z l x = v
 | [], _, h => by cases h
 | p :: l, hp, h => by
  rw [List.pairwise_cons] at hp
  unfold getM
  rcases List.mem_cons.1 h with rfl | h
  · simp
  · have : (x == p.1) = false := by
     have := hp.1 _ h
     simpa using fun e => this e.symm
    rw [this]; exact zj hp.2 h
theorem pZ {z : α} {x : κ} : ∀ {l : List (κ × α)}, dG l x = true -> (x, getM z l x) ∈ l
 | [], h => by cases h
 | p :: l, h => by
  unfold dG at h; unfold getM
  cases hx : x == p.1 with
  | true => have := eq_of_beq hx; subst this; exact List.mem_cons_self ..
  | false => rw [hx] at h; exact List.mem_cons_of_mem _ (pZ h)
end
theorem vV : ∀ (S pre : List (K2 × K2)), (pre ++ S).Pairwise Rq -> S.foldl stM (pre, pre.map fun q => (q.2, true)) = (pre ++ S, (pre ++ S).map fun q => (q.2, true))
 | [], pre, _ => by rw [List.append_nil]; rfl
 | q :: S, pre, h => by
  have hd := List.pairwise_append.1 h
  have n1 : dG pre q.1 = false := by
   cases hc : dG pre q.1 with
   | false => rfl
   | true =>
    obtain ⟨p, hp, e⟩ := lU.1 hc
    exact absurd e (hd.2.2 p hp q (by simp)).1
  have n2 : dG (pre.map fun q => (q.2, true)) q.2 = false := by
   cases hc : dG (pre.map fun q => (q.2, true)) q.2 with
   | false => rfl
   | true =>
    obtain ⟨p, hp, e⟩ := lU.1 hc
    obtain ⟨p', hp', rfl⟩ := List.mem_map.1 hp
    exact absurd e (hd.2.2 p' hp' q (by simp)).2
  show S.foldl stM (cV pre q.1 q.2, cV (pre.map fun q => (q.2, true)) q.2 true) = _
  rw [uX n1, uX n2]
  have := vV S (pre ++ [q]) (by rw [List.append_assoc]; exact h)
  rw [List.map_append] at this
  rw [show pre ++ q :: S = pre ++ [q] ++ S by simp]
  exact this
end Go.L

