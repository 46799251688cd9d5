import Derived.Test.YtecdcgfclgmbpaaGreatPl2Sids
set_option linter.all false
namespace Go.L
open Go Go.Eng
def vl : List Int -> Int
 | [] => 0
 | d :: l => d + 1000000000 * vl l
def pB : Nat -> Int
 | 0 => 1
 | k + 1 => 1000000000 * pB k
def Dig (l : List Int) : Prop := ∀ d, d ∈ l -> 0 <= d /\ d < 1000000000
def Can : List Int -> Prop
 | [] => True
 | d :: l => (0 <= d /\ d < 1000000000) /\ (l = [] -> d ≠ 0) /\ Can l
theorem jI : ∀ k, 1 <= pB k
 | 0 => by decide
 | k + 1 => by have := jI k; unfold pB; omega
theorem eK (k : Nat) : pB (k + 1) = 1000000000 * pB k := rfl
theorem lR : ∀ j k, pB (j + k) = pB j * pB k
 | 0, k => by rw [Nat.zero_add]; show _ = 1 * _; omega
 | j + 1, k => by rw [Nat.add_right_comm, eK, lR j k, eK]; grind
theorem jB {j k : Nat} (h : j <= k) : pB j <= pB k := by
 induction k with
 | zero => obtain rfl : j = 0 := by omega
           exact Int.le_refl _
 | succ k ih =>
  by_cases hj : j = k + 1
  · rw [hj]; exact Int.le_refl _
  · have := ih (by omega); have := jI k; rw [eK]; omega
theorem ss : Dig [] := fun _ h => by cases h
theorem gW {d : Int} {l : List Int} : Dig (d :: l) ↔ (0 <= d /\ d < 1000000000) /\ Dig l :=
 ⟨fun h => ⟨h d (by simp), fun x hx => h x (by simp [hx])⟩, fun h x hx => by rcases List.mem_cons.1 hx with rfl | hx; exact h.1; exact h.2 x hx⟩
theorem r9 {a b : List Int} : Dig (a ++ b) ↔ Dig a /\ Dig b :=
 ⟨fun h => ⟨fun x hx => h x (by simp [hx]), fun x hx => h x (by simp [hx])⟩, fun h x hx => by rcases List.mem_append.1 hx with hx | hx; exact h.1 x hx; exact h.2 x hx⟩
theorem kP {d : Int} : Dig [d] ↔ 0 <= d /\ d < 1000000000 := by rw [gW]; exact ⟨fun h => h.1, fun h => ⟨h, ss⟩⟩
theorem sJ {l : List Int} (h : Dig l) (k : Nat) : Dig (l.take k) := fun x hx => h x (List.mem_of_mem_take hx)
theorem iV {l : List Int} (h : Dig l) (k : Nat) : Dig (l.drop k) := fun x hx => h x (List.mem_of_mem_drop hx)
theorem uk (k : Nat) : Dig (List.replicate k 0) := fun x hx => by rw [List.eq_of_mem_replicate hx]; omega
theorem fi {l : List Int} (h : Dig l) (k : Nat) : 0 <= l.getD k 0 /\ l.getD k 0 < 1000000000 := by
 by_cases hk : k < l.length
 · have : l.getD k 0 = l[k] := by simp [List.getD, hk]
   rw [this]; exact h _ (List.getElem_mem hk)
 · have : l.getD k 0 = 0 := by simp [List.getD, List.getElem?_eq_none (by omega : l.length <= k)]
   rw [this]; omega
theorem kQ {l : List Int} (h : Dig l) {k : Nat} {x : Int} (hx : 0 <= x /\ x < 1000000000) : Dig (l.set k x) := fun y hy => by
 rcases List.mem_or_eq_of_mem_set hy with hy | rfl
 · exact h y hy
 · exact hx
theorem Can.dig : ∀ {l : List Int}, Can l -> Dig l
 | [], _ => ss
 | d :: l, h => gW.2 ⟨h.1, Can.dig h.2.2⟩
theorem pQ : ∀ a b : List Int, vl (a ++ b) = vl a + pB a.length * vl b
 | [], b => by show vl b = 0 + 1 * vl b; omega
 | d :: a, b => by
  rw [List.cons_append, List.length_cons, eK]
  show d + 1000000000 * vl (a ++ b) = d + 1000000000 * vl a + _
  rw [pQ a b]; grind
theorem lQ (d : Int) : vl [d] = d := by show d + 1000000000 * 0 = d; omega
theorem z6 : ∀ k : Nat, vl (List.replicate k 0) = 0
 | 0 => rfl
 | k + 1 => by rw [List.replicate_succ]; show 0 + 1000000000 * vl (List.replicate k 0) = 0; rw [z6 k]; rfl
theorem bL : ∀ {l : List Int}, Dig l -> 0 <= vl l
 | [], _ => Int.le_refl _
 | d :: l, h => by have h' := gW.1 h; have := bL h'.2; unfold vl; omega
theorem jj : ∀ {l : List Int}, Dig l -> vl l < pB l.length
 | [], _ => by decide
 | d :: l, h => by have h' := gW.1 h; have := jj h'.2; rw [List.length_cons, eK]; unfold vl; omega
def vk (l : List Int) (k : Nat) : Int := vl (l.take k)
theorem qx (l : List Int) : vk l 0 = 0 := by simp [vk, vl]
theorem jX {l : List Int} {k : Nat} (h : l.length <= k) : vk l k = vl l := by unfold vk; rw [List.take_of_length_le h]
theorem kK (l : List Int) (k : Nat) : vk l (k + 1) = vk l k + pB k * l.getD k 0 := by
 by_cases hk : k < l.length
 · unfold vk
   rw [List.take_succ_eq_append_getElem hk, pQ, lQ, List.length_take, Nat.min_eq_left (by omega)]
   simp [List.getD, hk]
 · rw [jX (by omega), jX (by omega)]
   have : l.getD k 0 = 0 := by simp [List.getD, List.getElem?_eq_none (by omega : l.length <= k)]
   rw [this]; omega
theorem nK {l : List Int} (h : Dig l) (k : Nat) : 0 <= vk l k := bL (sJ h k)
theorem Bg {l : List Int} (h : Dig l) (k : Nat) : vk l k < pB k := by
 have := jj (sJ h k)
 have h2 := jB (by rw [List.length_take]; omega : (l.take k).length <= k)
 unfold vk; omega
theorem EY {l : List Int} {k : Nat} {x : Int} : vk (l.set k x) k = vk l k := by unfold vk; rw [List.take_set_of_le (by omega)]
theorem Db {l : List Int} {k : Nat} {x : Int} (h : k < l.length) : (l.set k x).getD k 0 = x := by simp [List.getD, h]
theorem kH {l : List Int} {j k : Nat} {x : Int} (h : k ≠ j) : (l.set k x).getD j 0 = l.getD j 0 := by simp [List.getD, h]
theorem Aq {l : List Int} {k : Nat} {x : Int} (h : k < l.length) : vk (l.set k x) (k + 1) = vk l k + pB k * x := by rw [kK, EY, Db h]
theorem D5 (l : List Int) (k : Nat) (h : k <= l.length) : vl l = vk l k + pB k * vl (l.drop k) := by
 have := pQ (l.take k) (l.drop k)
 rw [List.take_append_drop, List.length_take, Nat.min_eq_left h] at this
 exact this
theorem pg : ∀ {l : List Int} {k : Nat} {x : Int}, k < l.length -> vl (l.set k x) = vl l + pB k * (x - l.getD k 0)
 | [], k, x, h => by simp at h
 | d :: l, 0, x, _ => by
  show x + 1000000000 * vl l = d + 1000000000 * vl l + 1 * (x - d); omega
 | d :: l, k + 1, x, h => by
  have ih := pg (l := l) (k := k) (x := x) (by simpa using h)
  show d + 1000000000 * vl (l.set k x) = d + 1000000000 * vl l + 1000000000 * pB k * (x - l.getD k 0)
  rw [ih]; grind
theorem yd : ∀ {l : List Int}, Can l -> vl l = 0 -> l = []
 | [], _, _ => rfl
 | d :: l, h, hv => by
  have h0 := bL h.2.2.dig
  have hv' : d + 1000000000 * vl l = 0 := hv
  have h1 := h.1
  have hl : l = [] := yd h.2.2 (by omega)
  have := h.2.1 hl
  exfalso; omega
theorem qn {l : List Int} (h : Can l) (hl : l ≠ []) : 0 < vl l := by
 have h0 := bL h.dig
 by_cases hz : vl l = 0
 · exact absurd (yd h hz) hl
 · omega
theorem zk : ∀ {l : List Int}, Can l -> l ≠ [] -> pB (l.length - 1) <= vl l
 | [], _, h => absurd rfl h
 | [d], h, _ => by
  have := h.1; have := h.2.1 rfl
  show 1 <= d + 1000000000 * 0; omega
 | d :: e :: l, h, _ => by
  have ih := zk h.2.2 (by simp)
  have := h.1
  show 1000000000 * pB ((e :: l).length - 1) <= d + 1000000000 * vl (e :: l)
  omega
theorem oT {l : List Int} (h : Can l) {k : Nat} (hk : vl l < pB k) : l.length <= k := by
 by_cases hl : l = []
 · subst hl; simp
 · have h1 := zk h hl
   by_cases hlt : k < l.length
   · have := jB (by omega : k <= l.length - 1); omega
   · omega
theorem xl : ∀ {a : List Int} {d : Int}, Dig a -> (0 <= d /\ d < 1000000000) -> d ≠ 0 -> Can (a ++ [d])
 | [], d, _, hd, hz => ⟨hd, fun _ => hz, trivial⟩
 | x :: a, d, ha, hd, hz => ⟨(gW.1 ha).1, fun h => by simp at h, xl (gW.1 ha).2 hd hz⟩
theorem CH {l : List Int} (h : Dig l) (hz : l = [] \/ l.getD (l.length - 1) 0 ≠ 0) : Can l := by
 rcases List.eq_nil_or_concat l with rfl | ⟨a, d, rfl⟩
 · trivial
 · rw [List.concat_eq_append] at *
   have h' := r9.1 h
   refine xl h'.1 (kP.1 h'.2) ?_
   rcases hz with hz | hz
   · simp at hz
   · simpa using hz
theorem uI : ∀ {l : List Int}, Can l -> l ≠ [] -> l.getD (l.length - 1) 0 ≠ 0
 | [], _, h => absurd rfl h
 | [d], h, _ => h.2.1 rfl
 | d :: e :: l, h, _ => by
  have ih := uI h.2.2 (by simp)
  simpa using ih
theorem zA {l : List Int} {k : Nat} (hk : k <= l.length) (hz : ∀ j, k <= j -> l.getD j 0 = 0) : vl (l.take k) = vl l := by
 have : ∀ m, vk l (k + m) = vk l k := by
  intro m
  induction m with
  | zero => rfl
  | succ m ih => rw [<- Nat.add_assoc, kK, ih, hz _ (by omega)]; omega
 have h2 := this (l.length - k)
 rw [jX (by omega)] at h2
 exact h2.symm
theorem uo {n : Int} (h : 0 < n) : sgn n = 1 := by unfold sgn; rw [if_neg (by omega), if_pos h]
theorem o6 {n : Int} (h : n < 0) : sgn n = -1 := by unfold sgn; rw [if_pos h]
theorem Ag : ∀ {a b : List Int}, Dig a -> Dig b -> a.length = b.length -> pE a b = sgn (vl a - vl b)
 | [], [], _, _, _ => rfl
 | [], _ :: _, _, _, h => by simp at h
 | _ :: _, [], _, _, h => by simp at h
 | x :: a, y :: b, ha, hb, h => by
  have ha' := gW.1 ha; have hb' := gW.1 hb
  have ih := Ag ha'.2 hb'.2 (by simpa using h)
  show (if pE a b ≠ 0 then pE a b else nz x y) = sgn (x + 1000000000 * vl a - (y + 1000000000 * vl b))
  rw [ih]
  rcases c7 (vl a - vl b) with ⟨h1, h2⟩ | ⟨h1, h2⟩ | ⟨h1, h2⟩
  · rw [if_pos (by omega), h2, o6 (by omega)]
  · rw [if_neg (by omega), (by omega : x + 1000000000 * vl a - (y + 1000000000 * vl b) = x - y)]
    unfold nz
    rcases c7 (x - y) with ⟨h3, h4⟩ | ⟨h3, h4⟩ | ⟨h3, h4⟩
    · rw [h4, if_pos (by omega)]
    · rw [h4, if_neg (by omega), if_neg (by omega)]
    · rw [h4, if_neg (by omega), if_pos (by omega)]
  · rw [if_pos (by omega), h2, uo (by omega)]
theorem fD {a b : List Int} (ha : Dig a) (hb : Can b) (h : a.length < b.length) : vl a < vl b := by
 have h1 := jj ha
 have h2 := zk hb (by intro e; subst e; simp at h)
 have h3 := jB (by omega : a.length <= b.length - 1)
 omega
def isI (neg : Bool) (g : List Int) (v : Int) : Prop := Can g /\ (neg = true -> g ≠ []) /\ v = (if neg then -vl g else vl g)
theorem l7 {p : Bool} {g : List Int} {v : Int} (a : isI p g v) : vl g = v.natAbs := by
 obtain ⟨a1, a2, a3⟩ := a
 have := bL a1.dig
 cases p <;> simp at a3 <;> omega
theorem mU {p : Bool} {g : List Int} {v : Int} (a : isI p g v) {k : Nat} (h : -pB k < v) (h2 : v < pB k) : g.length <= k :=
 oT a.1 (by rw [l7 a]; omega)
theorem DI {p : Bool} {g : List Int} {v : Int} (a : isI p g v) : sgn v = (if g = [] then 0 else if p then -1 else 1) := by
 obtain ⟨a1, a2, a3⟩ := a
 by_cases hg : g = []
 · subst hg
   have hp : p = false := by cases p with | false => rfl | true => exact absurd rfl (a2 rfl)
   subst hp; subst a3; rfl
 · have := qn a1 hg
   rw [if_neg hg]
   cases p
   · simp at a3; rw [a3, uo this]; rfl
   · simp at a3; rw [a3, o6 (by omega)]; rfl
theorem n5 {p : Bool} {g : List Int} {v : Int} (a : isI p g v) {k : Nat} (hk : g.length <= k) : -pB k < v /\ v < pB k := by
 have h1 := l7 a; have h2 := jj a.1.dig; have h3 := jB hk
 omega
theorem iW {p q r : Bool} {g h z : List Int} {v w : Int} (a : isI p g v) (b : isI q h w) (c : isI r z (v * w)) {j k : Nat} (hj : g.length <= j) (hk : h.length <= k) : z.length <= j + k := by
 refine oT c.1 ?_
 have h1 := l7 a; have h2 := l7 b; have h3 := l7 c
 have a1 := jj a.1.dig; have a2 := jj b.1.dig; have a3 := bL a.1.dig; have a4 := bL b.1.dig
 have b1 := jB hj; have b2 := jB hk; have b3 := jI j
 have e : vl z = vl g * vl h := by rw [h3, h1, h2, Int.natAbs_mul]; push_cast; rfl
 rw [e, lR]
 have : vl g * vl h <= pB j * vl h := mrT (by omega) a4
 have : pB j * vl h < pB j * pB k := Int.mul_lt_mul_of_pos_left (by omega) (by omega)
 omega
theorem ym {p q r : Bool} {g h z : List Int} {v w : Int} (a : isI p g v) (b : isI q h w) (c : isI r z (v + w)) {k : Nat} (hj : g.length <= k) (hk : h.length <= k) : z.length <= k + 1 := by
 have h1 := n5 a hj; have h2 := n5 b hk; have := jI k
 exact mU c (by rw [eK]; omega) (by rw [eK]; omega)
theorem kF {p : Bool} {g : List Int} {v : Int} (a : isI p g v) (h : -9223372036854775808 <= v) (h2 : v <= 9223372036854775807) : g.length <= 3 := by
 have : pB 3 = 1000000000000000000000000000 := rfl
 exact mU a (by omega) (by omega)
end Go.L


set_option linter.all false
namespace Go.L
open Go Go.Eng
structure KN (P W V wl x0 x1 x2 vw v1 v2 : Int) : Prop where
 p : 1 <= P
 w : W = wl + P * (x0 + 1000000000 * x1 + 1000000000000000000 * x2)
 wl : 0 <= wl /\ wl < P
 v : V = vw + P * (v2 + 1000000000 * v1)
 vw : 0 <= vw /\ vw < P
 v1 : 500000000 <= v1 /\ v1 < 1000000000
 v2 : 0 <= v2 /\ v2 < 1000000000
 x0 : 0 <= x0 /\ x0 < 1000000000
 x1 : 0 <= x1 /\ x1 < 1000000000
 x2 : 0 <= x2 /\ x2 < 1000000000
 lt : W < 1000000000 * V
section
variable {P W V wl x0 x1 x2 vw v1 v2 : Int}
theorem KN.top (k : KN P W V wl x0 x1 x2 vw v1 v2) : x2 <= v1 := by
 obtain ⟨hp, hw, hwl, hv, hvw, hv1, hv2, h0, h1, h2, hlt⟩ := k
 by_cases h : x2 <= v1
 · exact h
 · exfalso
   have e1 : W = wl + P * x0 + 1000000000 * (P * x1) + 1000000000000000000 * (P * x2) := by rw [hw]; grind
   have e2 : V = vw + P * v2 + 1000000000 * (P * v1) := by rw [hv]; grind
   have f1 : P * (v1 + 1) <= P * x2 := mlT (by omega) (by omega)
   have f2 : P * v2 <= P * 999999999 := mlT (by omega) (by omega)
   have f3 : 0 <= P * x0 := Int.mul_nonneg (by omega) h0.1
   have f4 : 0 <= P * x1 := Int.mul_nonneg (by omega) h1.1
   rw [Int.mul_add] at f1
   omega
theorem KN.less (k : KN P W V wl x0 x1 x2 vw v1 v2) {g : Int} (hg : 0 <= g) (h : x0 + 1000000000 * x1 + 1000000000000000000 * x2 < g * (v2 + 1000000000 * v1)) : W < g * V := by
 obtain ⟨hp, hw, hwl, hv, hvw, hv1, hv2, h0, h1, h2, hlt⟩ := k
 have e : g * V = g * vw + P * (g * (v2 + 1000000000 * v1)) := by rw [hv]; grind
 have f1 : P * (x0 + 1000000000 * x1 + 1000000000000000000 * x2 + 1) <= P * (g * (v2 + 1000000000 * v1)) := mlT (by omega) (by omega)
 have f2 : 0 <= g * vw := Int.mul_nonneg hg hvw.1
 rw [Int.mul_add] at f1
 omega
theorem KN.more (k : KN P W V wl x0 x1 x2 vw v1 v2) {g : Int} (hg : 1 <= g) (hg2 : g <= 1000000000) (h : g * (v2 + 1000000000 * v1) <= x0 + 1000000000 * x1 + 1000000000000000000 * x2) : (g - 1) * V <= W := by
 obtain ⟨hp, hw, hwl, hv, hvw, hv1, hv2, h0, h1, h2, hlt⟩ := k
 have e : (g - 1) * V = (g - 1) * vw + P * ((g - 1) * (v2 + 1000000000 * v1)) := by rw [hv]; grind
 have f2 : (g - 1) * vw <= (g - 1) * P := mlT (by omega) (by omega)
 have e2 : (g - 1) * P = P * (g - 1) := Int.mul_comm _ _
 have e3 : (g - 1) * (v2 + 1000000000 * v1) = g * (v2 + 1000000000 * v1) - (v2 + 1000000000 * v1) := by grind
 have f1 : P * ((g - 1) * (v2 + 1000000000 * v1) + (g - 1)) <= P * (x0 + 1000000000 * x1 + 1000000000000000000 * x2) := mlT (by omega) (by omega)
 rw [Int.mul_add] at f1
 omega
theorem KN.first (k : KN P W V wl x0 x1 x2 vw v1 v2) {g r : Int} (hr : r < v1) (hg0 : 0 <= g) (h : x1 + 1000000000 * x2 = g * v1 + r) : W < (g + 1) * V := by
 obtain ⟨hp, hw, hwl, hv, hvw, hv1, hv2, h0, h1, h2, hlt⟩ := k
 have e : (g + 1) * V = (g + 1) * vw + P * ((g + 1) * v2) + 1000000000 * (P * ((g + 1) * v1)) := by rw [hv]; grind
 have e2 : (g + 1) * v1 = g * v1 + v1 := by grind
 have f1 : P * (x1 + 1000000000 * x2 + 1) <= P * ((g + 1) * v1) := mlT (by omega) (by omega)
 have f2 : 0 <= (g + 1) * vw := Int.mul_nonneg (by omega) hvw.1
 have f3 : 0 <= P * ((g + 1) * v2) := Int.mul_nonneg (by omega) (Int.mul_nonneg (by omega) hv2.1)
 have e1 : W = wl + P * x0 + 1000000000 * (P * (x1 + 1000000000 * x2)) := by rw [hw]; grind
 have f4 : P * x0 <= P * 999999999 := mlT (by omega) (by omega)
 rw [Int.mul_add P _ 1] at f1
 omega
end
theorem yX {t s : Int} (ht : 1 <= t) (ht2 : t < 1000000000) (hs : s = 1000000000 / (t + 1)) : 500000000 <= t * s /\ 1 <= s /\ s <= 500000000 /\ (t + 1) * s <= 1000000000 := by
 have hm := Int.emod_add_mul_ediv 1000000000 (t + 1)
 have hm2 := Int.emod_lt_of_pos 1000000000 (by omega : 0 < t + 1)
 have hm3 := Int.emod_nonneg 1000000000 (by omega : t + 1 ≠ 0)
 rw [<- hs] at hm
 have e : (t + 1) * s = t * s + s := by grind
 have s1 : 1 <= s := by rw [hs]; exact (Int.le_ediv_iff_mul_le (by omega)).2 (by omega)
 have s2 : s <= 500000000 := by
  have : 2 * s <= (t + 1) * s := mrT (by omega) (by omega)
  omega
 refine ⟨?_, s1, s2, by omega⟩
 have h1 : 0 <= (t - 1) * (s - 1) := Int.mul_nonneg (by omega) (by omega)
 have h2 : (t - 1) * (s - 1) = t * s - t - s + 1 := by grind
 omega
theorem kX (l : List Int) (j : Nat) : vl (l.drop j) = l.getD j 0 + 1000000000 * vl (l.drop (j + 1)) := by
 by_cases h : j < l.length
 · rw [List.drop_eq_getElem_cons h]
   show l[j] + _ = _
   simp [List.getD, h]
 · rw [List.drop_of_length_le (by omega), List.drop_of_length_le (by omega)]
   have : l.getD j 0 = 0 := by simp [List.getD, List.getElem?_eq_none (by omega : l.length <= j)]
   rw [this]; rfl
theorem iK (l : List Int) (k : Nat) : vl l = vk l k + pB k * vl (l.drop k) := by
 by_cases h : k <= l.length
 · exact D5 l k h
 · rw [jX (by omega), List.drop_of_length_le (by omega)]; show _ = _ + _ * 0; omega
theorem nj {l : List Int} (h : Dig l) {k : Nat} (hv : vl l < pB k) : vl (l.drop k) = 0 := by
 have h1 := iK l k
 have h2 := nK h k
 have h3 := bL (iV h k)
 have h4 := jI k
 by_cases hz : vl (l.drop k) = 0
 · exact hz
 · have : pB k * 1 <= pB k * vl (l.drop k) := mlT (by omega) (by omega)
   omega
theorem n4 (l : List Int) (j k : Nat) : (l.drop j).getD k 0 = l.getD (j + k) 0 := by simp [List.getD, List.getElem?_drop]
theorem Fy {X v : List Int} {n : Nat} (hn : 2 <= n) (hX : Dig X) (hv : Dig v) (hl : v.length = n) (hv1 : 500000000 <= v.getD (n - 1) 0) (hlt : vl X < 1000000000 * vl v) :
  KN (pB (n - 2)) (vl X) (vl v) (vk X (n - 2)) (X.getD (n - 2) 0) (X.getD (n - 1) 0) (X.getD n 0) (vk v (n - 2)) (v.getD (n - 1) 0) (v.getD (n - 2) 0) := by
 obtain ⟨m, rfl⟩ : ∃ m, n = m + 2 := ⟨n - 2, by omega⟩
 have e1 : m + 2 - 2 = m := by omega
 have e2 : m + 2 - 1 = m + 1 := by omega
 rw [e1, e2]
 have hv1 : 500000000 <= v.getD (m + 1) 0 := hv1
 have hvlt := jj hv
 rw [hl] at hvlt
 have hX3 : vl X < pB (m + 3) := by rw [eK]; omega
 have hz := nj hX hX3
 have a1 := iK X m
 have a2 := kX X m
 have a3 : vl (X.drop (m + 1)) = X.getD (m + 1) 0 + 1000000000 * vl (X.drop (m + 2)) := kX X (m + 1)
 have a4 : vl (X.drop (m + 2)) = X.getD (m + 2) 0 + 1000000000 * vl (X.drop (m + 3)) := kX X (m + 2)
 rw [hz] at a4
 have b1 := iK v m
 have b2 := kX v m
 have b3 := kX v (m + 1)
 rw [List.drop_of_length_le (by omega : v.length <= m + 1 + 1)] at b3
 have b4 : vl ([] : List Int) = 0 := rfl
 have c0 := fi hX m; have c1 := fi hX (m + 1); have c2 := fi hX (m + 2)
 have d1 := fi hv (m + 1); have d2 := fi hv m
 refine ⟨jI m, ?_, ⟨nK hX m, Bg hX m⟩, ?_, ⟨nK hv m, Bg hv m⟩, ⟨hv1, d1.2⟩, d2, c0, c1, c2, hlt⟩
 · have : vl (X.drop m) = X.getD m 0 + 1000000000 * X.getD (m + 1) 0 + 1000000000000000000 * X.getD (m + 2) 0 := by omega
   rw [<- this]; exact a1
 · have : vl (v.drop m) = v.getD m 0 + 1000000000 * v.getD (m + 1) 0 := by omega
   rw [<- this]; exact b1
theorem drop_zero {l : List Int} {t : Nat} (h : ∀ m, t <= m -> l.getD m 0 = 0) : vl (l.drop t) = 0 := by
 have h1 := zA (l := l.drop t) (k := 0) (Nat.zero_le _) (fun j _ => by rw [n4]; exact h _ (by omega))
 rw [<- h1]; rfl
theorem Aj {l : List Int} (hd : Dig l) {t : Nat} (h : vl (l.drop t) = 0) : ∀ m, t <= m -> l.getD m 0 = 0 := by
 intro m hm
 have e := iK (l.drop t) (m - t)
 have e2 := kX (l.drop t) (m - t)
 rw [n4, (by omega : t + (m - t) = m)] at e2
 have h1 := nK (iV hd t) (m - t)
 have h2 := bL (iV (iV hd t) (m - t))
 have h3 := bL (iV (iV hd t) (m - t + 1))
 have h4 := fi hd m
 have h5 := jI (m - t)
 have h6 : 1 * vl ((l.drop t).drop (m - t)) <= pB (m - t) * vl ((l.drop t).drop (m - t)) := mrT h5 h2
 omega
theorem win {z : List Int} (hd : Dig z) {j n : Nat} (h : ∀ m, j + n + 1 <= m -> z.getD m 0 = 0) : vl (z.drop j) < pB (n + 1) := by
 have e := iK (z.drop j) (n + 1)
 rw [List.drop_drop, (by omega : j + (n + 1) = j + n + 1), drop_zero h] at e
 have := Bg (iV hd j) (n + 1)
 omega
theorem zH {y z : List Int} {j : Nat} {D : Int} (hk : vk z j = vk y j) (h : vl z = vl y + pB j * D) : vl (z.drop j) = vl (y.drop j) + D := by
 have e1 := iK y j
 have e2 := iK z j
 have hp := jI j
 have : pB j * vl (z.drop j) = pB j * (vl (y.drop j) + D) := by rw [Int.mul_add]; omega
 exact Int.eq_of_mul_eq_mul_left (by omega) this
def gm (x y : Nat) : Nat := if y = 0 then 0 else Nat.log2 (x * y) + 2 + (if x < y then 1 else 0)
theorem AQ {x y : Nat} (hy : 0 < y) : gm y (x % y) < gm x y := by
 unfold gm
 rw [if_neg (by omega : ¬ y = 0)]
 by_cases hr : x % y = 0
 · rw [if_pos hr]; omega
 · rw [if_neg hr]
   have hlt := Nat.mod_lt x hy
   rw [if_neg (by omega : ¬ y < x % y)]
   by_cases hxy : x < y
   · rw [if_pos hxy, Nat.mod_eq_of_lt hxy, Nat.mul_comm y x]; omega
   · rw [if_neg hxy]
     have h2 : 2 * (x % y) <= x := by
      have e := Nat.div_add_mod x y
      have : y * 1 <= y * (x / y) := Nat.mul_le_mul_left y (Nat.div_pos (by omega) hy)
      omega
     have h3 : 2 * (y * (x % y)) <= x * y := by
      have := Nat.mul_le_mul_left y h2
      rw [Nat.mul_comm x y, <- Nat.mul_assoc, Nat.mul_comm 2 y, Nat.mul_assoc]; exact this
     have hp : 0 < y * (x % y) := Nat.mul_pos hy (by omega)
     have : Nat.log2 (y * (x % y)) < Nat.log2 (x * y) := by
      rw [Nat.log2_lt (by omega)]
      have h4 := Nat.lt_log2_self (n := x * y)
      have h5 : 2 ^ (Nat.log2 (x * y) + 1) = 2 * 2 ^ Nat.log2 (x * y) := by rw [Nat.pow_succ]; omega
      omega
     omega
theorem x7 {x y k : Nat} (h : x * y < 2 ^ k) : gm x y <= k + 3 := by
 unfold gm
 split
 · omega
 · by_cases h0 : x * y = 0
   · rw [h0]; have : Nat.log2 0 = 0 := by decide
     rw [this]; split <;> omega
   · have := (Nat.log2_lt h0).2 h
     split <;> omega
theorem CO : ∀ k : Nat, pB k <= ((2 ^ (30 * k) : Nat) : Int)
 | 0 => by decide
 | k + 1 => by
  have ih := CO k
  rw [eK, (by omega : 30 * (k + 1) = 30 * k + 30), Nat.pow_add]
  generalize (2 : Nat) ^ (30 * k) = q at ih
  have h30 : (2 : Nat) ^ 30 = 1073741824 := by decide
  rw [h30, Int.natCast_mul]
  omega
theorem Cz {l : List Int} (h : Dig l) {k : Nat} (hk : l.length <= k) : (vl l).toNat < 2 ^ (30 * k) := by
 have h1 := jj h; have h2 := jB hk; have h3 := CO k; have h4 := bL h
 omega
end Go.L


set_option linter.all false
namespace Go.L
open Go Go.Eng
def gZ (v w : Int) : Int := ((Nat.gcd v.natAbs w.natAbs : Nat) : Int)
theorem CV {v w : Int} (h : w ≠ 0) : 1 <= gZ v w := by
 unfold gZ
 have := Nat.gcd_pos_of_pos_right v.natAbs (by omega : 0 < w.natAbs)
 omega
theorem tO (v w : Int) : v = (v / gZ v w) * gZ v w := by
 have : gZ v w ∣ v := by unfold gZ; exact Int.ofNat_dvd_left.2 (Nat.gcd_dvd_left _ _)
 rw [Int.ediv_mul_cancel this]
theorem sD (v w : Int) : w = (w / gZ v w) * gZ v w := by
 have : gZ v w ∣ w := by unfold gZ; exact Int.ofNat_dvd_left.2 (Nat.gcd_dvd_right _ _)
 rw [Int.ediv_mul_cancel this]
theorem CZ (v w : Int) : gZ v w = ((Int.gcd w v : Nat) : Int) := by unfold gZ Int.gcd; rw [Nat.gcd_comm]
theorem zp (p q : Int) : Rat.divInt (-p) (-q) = Rat.divInt p q := by
 by_cases h : q = 0
 · subst h; simp [Rat.divInt_zero]
 · rw [Rat.divInt_eq_divInt_iff (by omega) h]; grind
theorem q8 {p q : Int} (hq : 0 < q) : (Rat.divInt p q).num = p / gZ p q := by
 rw [Rat.num_divInt, Int.sign_eq_one_of_pos hq, Int.one_mul, CZ]
theorem qY {p q : Int} (hq : 0 < q) : ((Rat.divInt p q).den : Int) = q / gZ p q := by
 rw [Rat.den_divInt, if_neg (by omega), CZ]
 rw [Int.natCast_ediv]
 congr 1
 omega
structure QL (nn : Bool) (ng : List Int) (dn : Bool) (dg : List Int) (r : Rat) (k : Nat) : Prop where
 num : isI nn ng r.num
 den : isI dn dg (r.den : Int)
 nl : ng.length <= k
 dl : dg.length <= k
theorem QL.mono {nn dn : Bool} {ng dg : List Int} {r : Rat} {j k : Nat} (h : QL nn ng dn dg r j) (hk : j <= k) : QL nn ng dn dg r k := ⟨h.num, h.den, Nat.le_trans h.nl hk, Nat.le_trans h.dl hk⟩
theorem den_pos (r : Rat) : (0 : Int) < (r.den : Int) := by have := r.den_nz; omega
theorem ER (r : Rat) : gZ r.num (r.den : Int) = 1 := by
 have := r.reduced
 unfold gZ Nat.Coprime at *
 rw [Int.natAbs_natCast, this]; rfl
theorem Bx (v : Int) : (Rat.divInt v 1).num = v /\ ((Rat.divInt v 1).den : Int) = 1 := by
 have e : gZ v 1 = 1 := by unfold gZ; simp
 rw [q8 (by omega), qY (by omega), e]; simp
theorem m5 (p g : Int) (hg : 1 <= g) (h : p = (p / g) * g) : (p / g).natAbs <= p.natAbs := by
 have e : p.natAbs = (p / g).natAbs * g.natAbs := by rw [<- Int.natAbs_mul, <- h]
 have : (p / g).natAbs * 1 <= (p / g).natAbs * g.natAbs := Nat.mul_le_mul_left _ (by omega)
 omega
end Go.L


set_option linter.unusedVariables false
namespace Go.L
open Go Go.Eng
theorem wm {α β : Type} (n : Nat) (f : (α -> Option β) -> α -> Option β) (a : α) : aN (n + 1) f a = f (aN n f) a := rfl
theorem jQ {σ γ α : Type} {Q : α -> Prop} {f : (σ -> Option α) -> σ -> Option α} {n len : Nat} (mk : γ -> Int -> σ) (P : Nat -> γ -> Prop) (hn : len < n) (hl : len <= 9223372036854775806) {c0 : γ} (h0 : P 0 c0)
  (step : ∀ again (k : Nat) c, k < len -> P k c -> (∀ c', P (k + 1) c' -> Ok (again (mk c' (G1 ((k : Int) + 1)))) Q) -> Ok (f again (mk c (k : Int))) Q) (hend : ∀ again c, P len c -> Ok (f again (mk c (len : Int))) Q) : Ok (aN n f (mk c0 0)) Q := by
 have key : ∀ (m k : Nat) (c : γ), len - k < m -> k <= len -> P k c -> Ok (aN m f (mk c (k : Int))) Q := by
  intro m
  induction m with
  | zero => intro k c h; omega
  | succ m ih =>
   intro k c hm hk hP
   rw [wm]
   by_cases hlt : k < len
   · refine step _ k c hlt hP fun c' hP' => ?_
     have hw : G1 ((k : Int) + 1) = ((k + 1 : Nat) : Int) := by rw [wrap64_in (by omega) (by omega)]; omega
     rw [hw]
     exact ih (k + 1) c' (by omega) (by omega) hP'
   · obtain rfl : k = len := by omega
     exact hend _ c hP
 exact key n 0 c0 (by omega) (by omega) h0
end Go.L

