import Derived.Test.YtndahnebnggdmaaGreatPl2pkcjgaif
set_option linter.all false
namespace Go.L
open Go Go.Eng
def vl : List Int → Int
 | [] => 0
 | d :: l => d + 1000000000 * vl l
def pB : Nat → Int
 | 0 => 1
 | k + 1 => 1000000000 * pB k
def Dig (l : List Int) : Prop := ∀ d, d ∈ l → 0 ≤ d ∧ d < 1000000000
def Can : List Int → Prop
 | [] => True
 | d :: l => (0 ≤ d ∧ d < 1000000000) ∧ (l = [] → d ≠ 0) ∧ Can l
theorem pB_pos : ∀ k, 1 ≤ pB k
 | 0 => by decide
 | k + 1 => by have := pB_pos k; unfold pB; omega
theorem pB_succ (k : Nat) : pB (k + 1) = 1000000000 * pB k := rfl
theorem pB_add : ∀ j k, pB (j + k) = pB j * pB k
 | 0, k => by rw [Nat.zero_add]; show _ = 1 * _; omega
 | j + 1, k => by rw [Nat.add_right_comm, pB_succ, pB_add j k, pB_succ]; grind
theorem pB_mono {j k : Nat} (h : j ≤ k) : pB j ≤ pB k := by
 induction k with
 | zero => obtain rfl : j = 0 := by omega
           exact Int.le_refl _
 | succ k ih =>
  by_cases hj : j = k + 1
  · rw [hj]; exact Int.le_refl _
  · have := ih (by omega); have := pB_pos k; rw [pB_succ]; omega
theorem dig_nil : Dig [] := fun _ h => by cases h
theorem dig_cons {d : Int} {l : List Int} : Dig (d :: l) ↔ (0 ≤ d ∧ d < 1000000000) ∧ Dig l :=
 ⟨fun h => ⟨h d (by simp), fun x hx => h x (by simp [hx])⟩, fun h x hx => by rcases List.mem_cons.1 hx with rfl | hx; exact h.1; exact h.2 x hx⟩
theorem dig_app {a b : List Int} : Dig (a ++ b) ↔ Dig a ∧ Dig b :=
 ⟨fun h => ⟨fun x hx => h x (by simp [hx]), fun x hx => h x (by simp [hx])⟩, fun h x hx => by rcases List.mem_append.1 hx with hx | hx; exact h.1 x hx; exact h.2 x hx⟩
theorem dig_one {d : Int} : Dig [d] ↔ 0 ≤ d ∧ d < 1000000000 := by rw [dig_cons]; exact ⟨fun h => h.1, fun h => ⟨h, dig_nil⟩⟩
theorem dig_take {l : List Int} (h : Dig l) (k : Nat) : Dig (l.take k) := fun x hx => h x (List.mem_of_mem_take hx)
theorem dig_drop {l : List Int} (h : Dig l) (k : Nat) : Dig (l.drop k) := fun x hx => h x (List.mem_of_mem_drop hx)
theorem dig_rep (k : Nat) : Dig (List.replicate k 0) := fun x hx => by rw [List.eq_of_mem_replicate hx]; omega
theorem dig_at {l : List Int} (h : Dig l) (k : Nat) : 0 ≤ l.getD k 0 ∧ l.getD k 0 < 1000000000 := by
 by_cases hk : k < l.length
 · have : l.getD k 0 = l[k] := by simp [List.getD, hk]
   rw [this]; exact h _ (List.getElem_mem hk)
 · have : l.getD k 0 = 0 := by simp [List.getD, List.getElem?_eq_none (by omega : l.length ≤ k)]
   rw [this]; omega
theorem dig_set {l : List Int} (h : Dig l) {k : Nat} {x : Int} (hx : 0 ≤ x ∧ x < 1000000000) : Dig (l.set k x) := fun y hy => by
 rcases List.mem_or_eq_of_mem_set hy with hy | rfl
 · exact h y hy
 · exact hx
theorem Can.dig : ∀ {l : List Int}, Can l → Dig l
 | [], _ => dig_nil
 | d :: l, h => dig_cons.2 ⟨h.1, Can.dig h.2.2⟩
theorem vl_app : ∀ a b : List Int, vl (a ++ b) = vl a + pB a.length * vl b
 | [], b => by show vl b = 0 + 1 * vl b; omega
 | d :: a, b => by
  rw [List.cons_append, List.length_cons, pB_succ]
  show d + 1000000000 * vl (a ++ b) = d + 1000000000 * vl a + _
  rw [vl_app a b]; grind
theorem vl_one (d : Int) : vl [d] = d := by show d + 1000000000 * 0 = d; omega
theorem vl_rep : ∀ k : Nat, vl (List.replicate k 0) = 0
 | 0 => rfl
 | k + 1 => by rw [List.replicate_succ]; show 0 + 1000000000 * vl (List.replicate k 0) = 0; rw [vl_rep k]; rfl
theorem vl_nonneg : ∀ {l : List Int}, Dig l → 0 ≤ vl l
 | [], _ => Int.le_refl _
 | d :: l, h => by have h' := dig_cons.1 h; have := vl_nonneg h'.2; unfold vl; omega
theorem vl_lt : ∀ {l : List Int}, Dig l → vl l < pB l.length
 | [], _ => by decide
 | d :: l, h => by have h' := dig_cons.1 h; have := vl_lt h'.2; rw [List.length_cons, pB_succ]; unfold vl; omega
def vk (l : List Int) (k : Nat) : Int := vl (l.take k)
theorem vk_zero (l : List Int) : vk l 0 = 0 := by simp [vk, vl]
theorem vk_len {l : List Int} {k : Nat} (h : l.length ≤ k) : vk l k = vl l := by unfold vk; rw [List.take_of_length_le h]
theorem vk_succ (l : List Int) (k : Nat) : vk l (k + 1) = vk l k + pB k * l.getD k 0 := by
 by_cases hk : k < l.length
 · unfold vk
   rw [List.take_succ_eq_append_getElem hk, vl_app, vl_one, List.length_take, Nat.min_eq_left (by omega)]
   simp [List.getD, hk]
 · rw [vk_len (by omega), vk_len (by omega)]
   have : l.getD k 0 = 0 := by simp [List.getD, List.getElem?_eq_none (by omega : l.length ≤ k)]
   rw [this]; omega
theorem vk_nonneg {l : List Int} (h : Dig l) (k : Nat) : 0 ≤ vk l k := vl_nonneg (dig_take h k)
theorem vk_lt {l : List Int} (h : Dig l) (k : Nat) : vk l k < pB k := by
 have := vl_lt (dig_take h k)
 have h2 := pB_mono (by rw [List.length_take]; omega : (l.take k).length ≤ k)
 unfold vk; omega
theorem at_set_ne {l : List Int} {j k : Nat} {x : Int} (h : k ≠ j) : (l.set k x).getD j 0 = l.getD j 0 := by simp [List.getD, h]
theorem vk_drop (l : List Int) (k : Nat) (h : k ≤ l.length) : vl l = vk l k + pB k * vl (l.drop k) := by
 have := vl_app (l.take k) (l.drop k)
 rw [List.take_append_drop, List.length_take, Nat.min_eq_left h] at this
 exact this
theorem vl_set : ∀ {l : List Int} {k : Nat} {x : Int}, k < l.length → vl (l.set k x) = vl l + pB k * (x - l.getD k 0)
 | [], k, x, h => by simp at h
 | d :: l, 0, x, _ => by
  show x + 1000000000 * vl l = d + 1000000000 * vl l + 1 * (x - d); omega
 | d :: l, k + 1, x, h => by
  have ih := vl_set (l := l) (k := k) (x := x) (by simpa using h)
  show d + 1000000000 * vl (l.set k x) = d + 1000000000 * vl l + 1000000000 * pB k * (x - l.getD k 0)
  rw [ih]; grind
theorem can_zero : ∀ {l : List Int}, Can l → vl l = 0 → l = []
 | [], _, _ => rfl
 | d :: l, h, hv => by
  have h0 := vl_nonneg h.2.2.dig
  have hv' : d + 1000000000 * vl l = 0 := hv
  have h1 := h.1
  have hl : l = [] := can_zero h.2.2 (by omega)
  have := h.2.1 hl
  exfalso; omega
theorem can_inj : ∀ {a b : List Int}, Can a → Can b → vl a = vl b → a = b
 | [], b, _, hb, h => (can_zero hb h.symm).symm
 | a, [], ha, _, h => can_zero ha h
 | x :: a, y :: b, ha, hb, h => by
  have h' : x + 1000000000 * vl a = y + 1000000000 * vl b := h
  have h1 := ha.1; have h2 := hb.1
  obtain rfl : x = y := by omega
  rw [can_inj ha.2.2 hb.2.2 (by omega)]
theorem can_pos {l : List Int} (h : Can l) (hl : l ≠ []) : 0 < vl l := by
 have h0 := vl_nonneg h.dig
 by_cases hz : vl l = 0
 · exact absurd (can_zero h hz) hl
 · omega
theorem can_ge : ∀ {l : List Int}, Can l → l ≠ [] → pB (l.length - 1) ≤ vl l
 | [], _, h => absurd rfl h
 | [d], h, _ => by
  have := h.1; have := h.2.1 rfl
  show 1 ≤ d + 1000000000 * 0; omega
 | d :: e :: l, h, _ => by
  have ih := can_ge h.2.2 (by simp)
  have := h.1
  show 1000000000 * pB ((e :: l).length - 1) ≤ d + 1000000000 * vl (e :: l)
  omega
theorem can_len {l : List Int} (h : Can l) {k : Nat} (hk : vl l < pB k) : l.length ≤ k := by
 by_cases hl : l = []
 · subst hl; simp
 · have h1 := can_ge h hl
   by_cases hlt : k < l.length
   · have := pB_mono (by omega : k ≤ l.length - 1); omega
   · omega
theorem can_app : ∀ {a : List Int} {d : Int}, Dig a → (0 ≤ d ∧ d < 1000000000) → d ≠ 0 → Can (a ++ [d])
 | [], d, _, hd, hz => ⟨hd, fun _ => hz, trivial⟩
 | x :: a, d, ha, hd, hz => ⟨(dig_cons.1 ha).1, fun h => by simp at h, can_app (dig_cons.1 ha).2 hd hz⟩
theorem can_tail {l : List Int} (h : Dig l) (hz : l = [] ∨ l.getD (l.length - 1) 0 ≠ 0) : Can l := by
 rcases List.eq_nil_or_concat l with rfl | ⟨a, d, rfl⟩
 · trivial
 · rw [List.concat_eq_append] at *
   have h' := dig_app.1 h
   refine can_app h'.1 (dig_one.1 h'.2) ?_
   rcases hz with hz | hz
   · simp at hz
   · simpa using hz
theorem can_last : ∀ {l : List Int}, Can l → l ≠ [] → l.getD (l.length - 1) 0 ≠ 0
 | [], _, h => absurd rfl h
 | [d], h, _ => h.2.1 rfl
 | d :: e :: l, h, _ => by
  have ih := can_last h.2.2 (by simp)
  simpa using ih
theorem vl_cut {l : List Int} {k : Nat} (hk : k ≤ l.length) (hz : ∀ j, k ≤ j → l.getD j 0 = 0) : vl (l.take k) = vl l := by
 have : ∀ m, vk l (k + m) = vk l k := by
  intro m
  induction m with
  | zero => rfl
  | succ m ih => rw [← Nat.add_assoc, vk_succ, ih, hz _ (by omega)]; omega
 have h2 := this (l.length - k)
 rw [vk_len (by omega)] at h2
 exact h2.symm
theorem sgn_pos {n : Int} (h : 0 < n) : sgn n = 1 := by unfold sgn; rw [if_neg (by omega), if_pos h]
theorem sgn_of_neg {n : Int} (h : n < 0) : sgn n = -1 := by unfold sgn; rw [if_pos h]
theorem can_lt_len {a b : List Int} (ha : Dig a) (hb : Can b) (h : a.length < b.length) : vl a < vl b := by
 have h1 := vl_lt ha
 have h2 := can_ge hb (by intro e; subst e; simp at h)
 have h3 := pB_mono (by omega : a.length ≤ b.length - 1)
 omega
def isI (neg : Bool) (g : List Int) (v : Int) : Prop := Can g ∧ (neg = true → g ≠ []) ∧ v = (if neg then -vl g else vl g)
theorem isI_inj {p q : Bool} {g h : List Int} {v : Int} (a : isI p g v) (b : isI q h v) : p = q ∧ g = h := by
 obtain ⟨a1, a2, a3⟩ := a; obtain ⟨b1, b2, b3⟩ := b
 cases p <;> cases q
 · exact ⟨rfl, can_inj a1 b1 (by simp at a3 b3; omega)⟩
 · have := can_pos b1 (b2 rfl); have := vl_nonneg a1.dig; simp at a3 b3; exfalso; omega
 · have := can_pos a1 (a2 rfl); have := vl_nonneg b1.dig; simp at a3 b3; exfalso; omega
 · exact ⟨rfl, can_inj a1 b1 (by simp at a3 b3; omega)⟩
theorem isI_abs {p : Bool} {g : List Int} {v : Int} (a : isI p g v) : vl g = v.natAbs := by
 obtain ⟨a1, a2, a3⟩ := a
 have := vl_nonneg a1.dig
 cases p <;> simp at a3 <;> omega
theorem isI_len {p : Bool} {g : List Int} {v : Int} (a : isI p g v) {k : Nat} (h : -pB k < v) (h2 : v < pB k) : g.length ≤ k :=
 can_len a.1 (by rw [isI_abs a]; omega)
theorem isI_sgn {p : Bool} {g : List Int} {v : Int} (a : isI p g v) : sgn v = (if g = [] then 0 else if p then -1 else 1) := by
 obtain ⟨a1, a2, a3⟩ := a
 by_cases hg : g = []
 · subst hg
   have hp : p = false := by cases p with | false => rfl | true => exact absurd rfl (a2 rfl)
   subst hp; subst a3; rfl
 · have := can_pos a1 hg
   rw [if_neg hg]
   cases p
   · simp at a3; rw [a3, sgn_pos this]; rfl
   · simp at a3; rw [a3, sgn_of_neg (by omega)]; rfl
theorem isI_bound {p : Bool} {g : List Int} {v : Int} (a : isI p g v) {k : Nat} (hk : g.length ≤ k) : -pB k < v ∧ v < pB k := by
 have h1 := isI_abs a; have h2 := vl_lt a.1.dig; have h3 := pB_mono hk
 omega
theorem isI_len_mul {p q r : Bool} {g h z : List Int} {v w : Int} (a : isI p g v) (b : isI q h w) (c : isI r z (v * w)) {j k : Nat} (hj : g.length ≤ j) (hk : h.length ≤ k) : z.length ≤ j + k := by
 refine can_len c.1 ?_
 have h1 := isI_abs a; have h2 := isI_abs b; have h3 := isI_abs c
 have a1 := vl_lt a.1.dig; have a2 := vl_lt b.1.dig; have a3 := vl_nonneg a.1.dig; have a4 := vl_nonneg b.1.dig
 have b1 := pB_mono hj; have b2 := pB_mono hk; have b3 := pB_pos j
 have e : vl z = vl g * vl h := by rw [h3, h1, h2, Int.natAbs_mul]; push_cast; rfl
 rw [e, pB_add]
 have : vl g * vl h ≤ pB j * vl h := Int.mul_le_mul_of_nonneg_right (by omega) a4
 have : pB j * vl h < pB j * pB k := Int.mul_lt_mul_of_pos_left (by omega) (by omega)
 omega
theorem isI_len_add {p q r : Bool} {g h z : List Int} {v w : Int} (a : isI p g v) (b : isI q h w) (c : isI r z (v + w)) {k : Nat} (hj : g.length ≤ k) (hk : h.length ≤ k) : z.length ≤ k + 1 := by
 have h1 := isI_bound a hj; have h2 := isI_bound b hk; have := pB_pos k
 exact isI_len c (by rw [pB_succ]; omega) (by rw [pB_succ]; omega)
theorem isI_len_sub {p q r : Bool} {g h z : List Int} {v w : Int} (a : isI p g v) (b : isI q h w) (c : isI r z (v - w)) {k : Nat} (hj : g.length ≤ k) (hk : h.length ≤ k) : z.length ≤ k + 1 := by
 have h1 := isI_bound a hj; have h2 := isI_bound b hk; have := pB_pos k
 exact isI_len c (by rw [pB_succ]; omega) (by rw [pB_succ]; omega)
theorem isI_len_of {p : Bool} {g : List Int} {v : Int} (a : isI p g v) (h : -9223372036854775808 ≤ v) (h2 : v ≤ 9223372036854775807) : g.length ≤ 3 := by
 have : pB 3 = 1000000000000000000000000000 := rfl
 exact isI_len a (by omega) (by omega)
end Go.L


set_option linter.all false
namespace Go.L
open Go Go.Eng
structure KN (P W V wl x0 x1 x2 vw v1 v2 : Int) : Prop where
 p : 1 ≤ P
 w : W = wl + P * (x0 + 1000000000 * x1 + 1000000000000000000 * x2)
 wl : 0 ≤ wl ∧ wl < P
 v : V = vw + P * (v2 + 1000000000 * v1)
 vw : 0 ≤ vw ∧ vw < P
 v1 : 500000000 ≤ v1 ∧ v1 < 1000000000
 v2 : 0 ≤ v2 ∧ v2 < 1000000000
 x0 : 0 ≤ x0 ∧ x0 < 1000000000
 x1 : 0 ≤ x1 ∧ x1 < 1000000000
 x2 : 0 ≤ x2 ∧ x2 < 1000000000
 lt : W < 1000000000 * V
section
variable {P W V wl x0 x1 x2 vw v1 v2 : Int}
theorem KN.less (k : KN P W V wl x0 x1 x2 vw v1 v2) {g : Int} (hg : 0 ≤ g) (h : x0 + 1000000000 * x1 + 1000000000000000000 * x2 < g * (v2 + 1000000000 * v1)) : W < g * V := by
 obtain ⟨hp, hw, hwl, hv, hvw, hv1, hv2, h0, h1, h2, hlt⟩ := k
 have e : g * V = g * vw + P * (g * (v2 + 1000000000 * v1)) := by rw [hv]; grind
 have f1 : P * (x0 + 1000000000 * x1 + 1000000000000000000 * x2 + 1) ≤ P * (g * (v2 + 1000000000 * v1)) := Int.mul_le_mul_of_nonneg_left (by omega) (by omega)
 have f2 : 0 ≤ g * vw := Int.mul_nonneg hg hvw.1
 rw [Int.mul_add] at f1
 omega
end
theorem scale_great {t s : Int} (ht : 1 ≤ t) (ht2 : t < 1000000000) (hs : s = 1000000000 / (t + 1)) : 500000000 ≤ t * s ∧ 1 ≤ s ∧ s ≤ 500000000 ∧ (t + 1) * s ≤ 1000000000 := by
 have hm := Int.emod_add_mul_ediv 1000000000 (t + 1)
 have hm2 := Int.emod_lt_of_pos 1000000000 (by omega : 0 < t + 1)
 have hm3 := Int.emod_nonneg 1000000000 (by omega : t + 1 ≠ 0)
 rw [← hs] at hm
 have e : (t + 1) * s = t * s + s := by grind
 have s1 : 1 ≤ s := by rw [hs]; exact (Int.le_ediv_iff_mul_le (by omega)).2 (by omega)
 have s2 : s ≤ 500000000 := by
  have : 2 * s ≤ (t + 1) * s := Int.mul_le_mul_of_nonneg_right (by omega) (by omega)
  omega
 refine ⟨?_, s1, s2, by omega⟩
 have h1 : 0 ≤ (t - 1) * (s - 1) := Int.mul_nonneg (by omega) (by omega)
 have h2 : (t - 1) * (s - 1) = t * s - t - s + 1 := by grind
 omega
theorem vl_drop0 (l : List Int) (j : Nat) : vl (l.drop j) = l.getD j 0 + 1000000000 * vl (l.drop (j + 1)) := by
 by_cases h : j < l.length
 · rw [List.drop_eq_getElem_cons h]
   show l[j] + _ = _
   simp [List.getD, h]
 · rw [List.drop_of_length_le (by omega), List.drop_of_length_le (by omega)]
   have : l.getD j 0 = 0 := by simp [List.getD, List.getElem?_eq_none (by omega : l.length ≤ j)]
   rw [this]; rfl
theorem vl_vk_drop (l : List Int) (k : Nat) : vl l = vk l k + pB k * vl (l.drop k) := by
 by_cases h : k ≤ l.length
 · exact vk_drop l k h
 · rw [vk_len (by omega), List.drop_of_length_le (by omega)]; show _ = _ + _ * 0; omega
def gm (x y : Nat) : Nat := if y = 0 then 0 else Nat.log2 (x * y) + 2 + (if x < y then 1 else 0)
theorem gm_step {x y : Nat} (hy : 0 < y) : gm y (x % y) < gm x y := by
 unfold gm
 rw [if_neg (by omega : ¬ y = 0)]
 by_cases hr : x % y = 0
 · rw [if_pos hr]; omega
 · rw [if_neg hr]
   have hlt := Nat.mod_lt x hy
   rw [if_neg (by omega : ¬ y < x % y)]
   by_cases hxy : x < y
   · rw [if_pos hxy, Nat.mod_eq_of_lt hxy, Nat.mul_comm y x]; omega
   · rw [if_neg hxy]
     have h2 : 2 * (x % y) ≤ x := by
      have e := Nat.div_add_mod x y
      have : y * 1 ≤ y * (x / y) := Nat.mul_le_mul_left y (Nat.div_pos (by omega) hy)
      omega
     have h3 : 2 * (y * (x % y)) ≤ x * y := by
      have := Nat.mul_le_mul_left y h2
      rw [Nat.mul_comm x y, ← Nat.mul_assoc, Nat.mul_comm 2 y, Nat.mul_assoc]; exact this
     have hp : 0 < y * (x % y) := Nat.mul_pos hy (by omega)
     have : Nat.log2 (y * (x % y)) < Nat.log2 (x * y) := by
      rw [Nat.log2_lt (by omega)]
      have h4 := Nat.lt_log2_self (n := x * y)
      have h5 : 2 ^ (Nat.log2 (x * y) + 1) = 2 * 2 ^ Nat.log2 (x * y) := by rw [Nat.pow_succ]; omega
      omega
     omega
theorem gm_bound {x y k : Nat} (h : x * y < 2 ^ k) : gm x y ≤ k + 3 := by
 unfold gm
 split
 · omega
 · by_cases h0 : x * y = 0
   · rw [h0]; have : Nat.log2 0 = 0 := by decide
     rw [this]; split <;> omega
   · have := (Nat.log2_lt h0).2 h
     split <;> omega
theorem pB_two : ∀ k : Nat, pB k ≤ ((2 ^ (30 * k) : Nat) : Int)
 | 0 => by decide
 | k + 1 => by
  have ih := pB_two k
  rw [pB_succ, (by omega : 30 * (k + 1) = 30 * k + 30), Nat.pow_add]
  generalize (2 : Nat) ^ (30 * k) = q at ih
  have h30 : (2 : Nat) ^ 30 = 1073741824 := by decide
  rw [h30, Int.natCast_mul]
  omega
theorem vl_two {l : List Int} (h : Dig l) {k : Nat} (hk : l.length ≤ k) : (vl l).toNat < 2 ^ (30 * k) := by
 have h1 := vl_lt h; have h2 := pB_mono hk; have h3 := pB_two k; have h4 := vl_nonneg h
 omega
end Go.L


set_option linter.all false
namespace Go.L
open Go Go.Eng
def gZ (v w : Int) : Int := ((Nat.gcd v.natAbs w.natAbs : Nat) : Int)
theorem gZ_pos {v w : Int} (h : w ≠ 0) : 1 ≤ gZ v w := by
 unfold gZ
 have := Nat.gcd_pos_of_pos_right v.natAbs (by omega : 0 < w.natAbs)
 omega
theorem gZ_dvd_left (v w : Int) : v = (v / gZ v w) * gZ v w := by
 have : gZ v w ∣ v := by unfold gZ; exact Int.ofNat_dvd_left.2 (Nat.gcd_dvd_left _ _)
 rw [Int.ediv_mul_cancel this]
theorem gZ_dvd_right (v w : Int) : w = (w / gZ v w) * gZ v w := by
 have : gZ v w ∣ w := by unfold gZ; exact Int.ofNat_dvd_left.2 (Nat.gcd_dvd_right _ _)
 rw [Int.ediv_mul_cancel this]
theorem gZ_int (v w : Int) : gZ v w = ((Int.gcd w v : Nat) : Int) := by unfold gZ Int.gcd; rw [Nat.gcd_comm]
theorem divInt_neg (p q : Int) : Rat.divInt (-p) (-q) = Rat.divInt p q := by
 by_cases h : q = 0
 · subst h; simp [Rat.divInt_zero]
 · rw [Rat.divInt_eq_divInt_iff (by omega) h]; grind
theorem divInt_num {p q : Int} (hq : 0 < q) : (Rat.divInt p q).num = p / gZ p q := by
 rw [Rat.num_divInt, Int.sign_eq_one_of_pos hq, Int.one_mul, gZ_int]
theorem divInt_den {p q : Int} (hq : 0 < q) : ((Rat.divInt p q).den : Int) = q / gZ p q := by
 rw [Rat.den_divInt, if_neg (by omega), gZ_int]
 rw [Int.natCast_ediv]
 congr 1
 omega
structure QL (nn : Bool) (ng : List Int) (dn : Bool) (dg : List Int) (r : Rat) (k : Nat) : Prop where
 num : isI nn ng r.num
 den : isI dn dg (r.den : Int)
 nl : ng.length ≤ k
 dl : dg.length ≤ k
theorem QL.mono {nn dn : Bool} {ng dg : List Int} {r : Rat} {j k : Nat} (h : QL nn ng dn dg r j) (hk : j ≤ k) : QL nn ng dn dg r k := ⟨h.num, h.den, Nat.le_trans h.nl hk, Nat.le_trans h.dl hk⟩
theorem den_pos (r : Rat) : (0 : Int) < (r.den : Int) := by have := r.den_nz; omega
theorem gZ_red (r : Rat) : gZ r.num (r.den : Int) = 1 := by
 have := r.reduced
 unfold gZ Nat.Coprime at *
 rw [Int.natAbs_natCast, this]; rfl
theorem whole_num (v : Int) : (Rat.divInt v 1).num = v ∧ ((Rat.divInt v 1).den : Int) = 1 := by
 have e : gZ v 1 = 1 := by unfold gZ; simp
 rw [divInt_num (by omega), divInt_den (by omega), e]; simp
theorem abs_ediv_le (p g : Int) (hg : 1 ≤ g) (h : p = (p / g) * g) : (p / g).natAbs ≤ p.natAbs := by
 have e : p.natAbs = (p / g).natAbs * g.natAbs := by rw [← Int.natAbs_mul, ← h]
 have : (p / g).natAbs * 1 ≤ (p / g).natAbs * g.natAbs := Nat.mul_le_mul_left _ (by omega)
 omega
theorem can_topZ {b : List Int} (hb : Can b) (lb : 1 ≤ b.length) : 1 ≤ b.getD (b.length - 1) 0 ∧ b.getD (b.length - 1) 0 < 1000000000 ∧ pB (b.length - 1) * b.getD (b.length - 1) 0 ≤ vl b ∧ vl b < pB (b.length - 1) * (b.getD (b.length - 1) 0 + 1) := by
 have h1 := can_last hb (by rintro rfl; simp at lb)
 have h2 := dig_at hb.dig (b.length - 1)
 have e := vl_vk_drop b (b.length - 1)
 have e2 := vl_drop0 b (b.length - 1)
 rw [List.drop_of_length_le (by omega : b.length ≤ b.length - 1 + 1)] at e2
 have e3 : vl ([] : List Int) = 0 := rfl
 have e4 : vl (b.drop (b.length - 1)) = b.getD (b.length - 1) 0 := by omega
 rw [e4] at e
 have h3 := vk_nonneg hb.dig (b.length - 1)
 have h4 := vk_lt hb.dig (b.length - 1)
 refine ⟨by omega, h2.2, by omega, ?_⟩
 rw [Int.mul_add]; omega
theorem scaled_top {b v : List Int} {s : Int} (hb : Can b) (lb : 1 ≤ b.length) (hs : s = 1000000000 / (b.getD (b.length - 1) 0 + 1)) (hv : Can v) (v2 : vl v = vl b * s) : v.length = b.length ∧ 500000000 ≤ v.getD (v.length - 1) 0 ∧ 1 ≤ s ∧ s ≤ 500000000 := by
 obtain ⟨t1, t2, t3, t4⟩ := can_topZ hb lb
 obtain ⟨t, ht⟩ : ∃ t, b.getD (b.length - 1) 0 = t := ⟨_, rfl⟩
 rw [ht] at t1 t2 t3 t4 hs
 obtain ⟨s1, s2, s3, s4⟩ := scale_great t1 t2 hs
 have hp := pB_pos (b.length - 1)
 have ep : pB b.length = 1000000000 * pB (b.length - 1) := by rw [← pB_succ, (by omega : b.length - 1 + 1 = b.length)]
 have hvlt : vl v < pB b.length := by
  have : vl b * s ≤ (pB (b.length - 1) * (t + 1) - 1) * s := Int.mul_le_mul_of_nonneg_right (by omega) (by omega)
  have e : (pB (b.length - 1) * (t + 1) - 1) * s = pB (b.length - 1) * ((t + 1) * s) - s := by grind
  have : pB (b.length - 1) * ((t + 1) * s) ≤ pB (b.length - 1) * 1000000000 := Int.mul_le_mul_of_nonneg_left s4 (by omega)
  omega
 have hvge : 500000000 * pB (b.length - 1) ≤ vl v := by
  have h1 : (pB (b.length - 1) * t) * s ≤ vl b * s := Int.mul_le_mul_of_nonneg_right t3 (by omega)
  have e : (pB (b.length - 1) * t) * s = pB (b.length - 1) * (t * s) := by grind
  have h2 : pB (b.length - 1) * 500000000 ≤ pB (b.length - 1) * (t * s) := Int.mul_le_mul_of_nonneg_left s1 (by omega)
  omega
 have lv : v.length = b.length := by
  have h1 := can_len hv hvlt
  by_cases h : v.length = b.length
  · exact h
  · have h2 := vl_lt hv.dig
    have h3 := pB_mono (by omega : v.length ≤ b.length - 1)
    omega
 refine ⟨lv, ?_, s2, s3⟩
 obtain ⟨c1, c2, c3, c4⟩ := can_topZ hv (by omega)
 rw [lv] at c4 ⊢
 by_cases h : 500000000 ≤ v.getD (b.length - 1) 0
 · exact h
 · have : pB (b.length - 1) * (v.getD (b.length - 1) 0 + 1) ≤ pB (b.length - 1) * 500000000 := Int.mul_le_mul_of_nonneg_left (by omega) (by omega)
   omega
theorem unscale {a b q w y c s : Int} (hs : 1 ≤ s) (hc : 0 ≤ c ∧ c < s) (hw : y * s + c = w) (hlt : w < b * s) (h : w + q * (b * s) = a * s) : y < b ∧ q * b + y = a := by
 have h1 : y * s < b * s := by omega
 refine ⟨Int.lt_of_mul_lt_mul_right h1 (by omega), ?_⟩
 have e : c = (a - y - q * b) * s := by grind
 have hc0 : a - y - q * b = 0 := by
  by_cases h1 : a - y - q * b = 0
  · exact h1
  · exfalso
    by_cases h2 : 1 ≤ a - y - q * b
    · have : 1 * s ≤ (a - y - q * b) * s := Int.mul_le_mul_of_nonneg_right h2 (by omega)
      omega
    · have : (a - y - q * b) * s ≤ (-1) * s := Int.mul_le_mul_of_nonneg_right (by omega) (by omega)
      omega
 omega
end Go.L


set_option linter.unusedVariables false
namespace Go.L
open Go Go.Eng
theorem loop_step {α β : Type} (n : Nat) (f : (α → Option β) → α → Option β) (a : α) : loopO (n + 1) f a = f (loopO n f) a := rfl
theorem ok_rangeG {σ γ α : Type} {Q : α → Prop} {f : (σ → Option α) → σ → Option α} {n len : Nat} (mk : γ → Int → σ) (P : Nat → γ → Prop) (hn : len < n) (hl : len ≤ 9223372036854775806) {c0 : γ} (h0 : P 0 c0)
  (step : ∀ again (k : Nat) c, k < len → P k c → (∀ c', P (k + 1) c' → Ok (again (mk c' (wrapF .i64 ((k : Int) + 1)))) Q) → Ok (f again (mk c (k : Int))) Q) (hend : ∀ again c, P len c → Ok (f again (mk c (len : Int))) Q) : Ok (loopO n f (mk c0 0)) Q := by
 have key : ∀ (m k : Nat) (c : γ), len - k < m → k ≤ len → P k c → Ok (loopO m f (mk c (k : Int))) Q := by
  intro m
  induction m with
  | zero => intro k c h; omega
  | succ m ih =>
   intro k c hm hk hP
   rw [loop_step]
   by_cases hlt : k < len
   · refine step _ k c hlt hP fun c' hP' => ?_
     have hw : wrapF .i64 ((k : Int) + 1) = ((k + 1 : Nat) : Int) := by rw [wrap64_in (by omega) (by omega)]; omega
     rw [hw]
     exact ih (k + 1) c' (by omega) (by omega) hP'
   · obtain rfl : k = len := by omega
     exact hend _ c hP
 exact key n 0 c0 (by omega) (by omega) h0
end Go.L

