/- Plain laws, part 3: magnitudes in groups of nine digits, the least group first. -/
import Derived.Test.YtlajgmapmocpbaaGreatPl2e
set_option linter.unusedVariables false
set_option linter.unusedSimpArgs false
namespace Go.L
open Go Go.Eng

/-- The value of groups. -/
def vl : List Int → Int
  | [] => 0
  | d :: l => d + 1000000000 * vl l
/-- The powers of the base. -/
def pB : Nat → Int
  | 0 => 1
  | k + 1 => 1000000000 * pB k
def Dig (l : List Int) : Prop := ∀ d, d ∈ l → 0 ≤ d ∧ d < 1000000000
/-- Groups without a nought at the end. -/
def Can : List Int → Prop
  | [] => True
  | d :: l => (0 ≤ d ∧ d < 1000000000) ∧ (l = [] → d ≠ 0) ∧ Can l

theorem pB_pos : ∀ k, 1 ≤ pB k
  | 0 => by decide
  | k + 1 => by have := pB_pos k; unfold pB; omega
theorem pB_succ (k : Nat) : pB (k + 1) = 1000000000 * pB k := rfl
theorem pB_add : ∀ j k, pB (j + k) = pB j * pB k
  | 0, k => by rw [Nat.zero_add]; show _ = 1 * _; omega
  | j + 1, k => by rw [Nat.add_right_comm, pB_succ, pB_add j k, pB_succ]; grind
theorem pB_mono {j k : Nat} (h : j ≤ k) : pB j ≤ pB k := by
  induction k with
  | zero => obtain rfl : j = 0 := by omega
            exact Int.le_refl _
  | succ k ih =>
    by_cases hj : j = k + 1
    · rw [hj]; exact Int.le_refl _
    · have := ih (by omega); have := pB_pos k; rw [pB_succ]; omega
theorem dig_nil : Dig [] := fun _ h => by cases h
theorem dig_cons {d : Int} {l : List Int} : Dig (d :: l) ↔ (0 ≤ d ∧ d < 1000000000) ∧ Dig l :=
  ⟨fun h => ⟨h d (by simp), fun x hx => h x (by simp [hx])⟩, fun h x hx => by rcases List.mem_cons.1 hx with rfl | hx; exact h.1; exact h.2 x hx⟩
theorem dig_app {a b : List Int} : Dig (a ++ b) ↔ Dig a ∧ Dig b :=
  ⟨fun h => ⟨fun x hx => h x (by simp [hx]), fun x hx => h x (by simp [hx])⟩, fun h x hx => by rcases List.mem_append.1 hx with hx | hx; exact h.1 x hx; exact h.2 x hx⟩
theorem dig_one {d : Int} : Dig [d] ↔ 0 ≤ d ∧ d < 1000000000 := by rw [dig_cons]; exact ⟨fun h => h.1, fun h => ⟨h, dig_nil⟩⟩
theorem dig_take {l : List Int} (h : Dig l) (k : Nat) : Dig (l.take k) := fun x hx => h x (List.mem_of_mem_take hx)
theorem dig_drop {l : List Int} (h : Dig l) (k : Nat) : Dig (l.drop k) := fun x hx => h x (List.mem_of_mem_drop hx)
theorem dig_rep (k : Nat) : Dig (List.replicate k 0) := fun x hx => by rw [List.eq_of_mem_replicate hx]; omega
theorem dig_at {l : List Int} (h : Dig l) (k : Nat) : 0 ≤ l.getD k 0 ∧ l.getD k 0 < 1000000000 := by
  by_cases hk : k < l.length
  · have : l.getD k 0 = l[k] := by simp [List.getD, hk]
    rw [this]; exact h _ (List.getElem_mem hk)
  · have : l.getD k 0 = 0 := by simp [List.getD, List.getElem?_eq_none (by omega : l.length ≤ k)]
    rw [this]; omega
theorem dig_set {l : List Int} (h : Dig l) {k : Nat} {x : Int} (hx : 0 ≤ x ∧ x < 1000000000) : Dig (l.set k x) := fun y hy => by
  rcases List.mem_or_eq_of_mem_set hy with hy | rfl
  · exact h y hy
  · exact hx
theorem Can.dig : ∀ {l : List Int}, Can l → Dig l
  | [], _ => dig_nil
  | d :: l, h => dig_cons.2 ⟨h.1, Can.dig h.2.2⟩
theorem vl_app : ∀ a b : List Int, vl (a ++ b) = vl a + pB a.length * vl b
  | [], b => by show vl b = 0 + 1 * vl b; omega
  | d :: a, b => by
    rw [List.cons_append, List.length_cons, pB_succ]
    show d + 1000000000 * vl (a ++ b) = d + 1000000000 * vl a + _
    rw [vl_app a b]; grind
theorem vl_one (d : Int) : vl [d] = d := by show d + 1000000000 * 0 = d; omega
theorem vl_rep : ∀ k : Nat, vl (List.replicate k 0) = 0
  | 0 => rfl
  | k + 1 => by rw [List.replicate_succ]; show 0 + 1000000000 * vl (List.replicate k 0) = 0; rw [vl_rep k]; rfl
theorem vl_nonneg : ∀ {l : List Int}, Dig l → 0 ≤ vl l
  | [], _ => Int.le_refl _
  | d :: l, h => by have h' := dig_cons.1 h; have := vl_nonneg h'.2; unfold vl; omega
theorem vl_lt : ∀ {l : List Int}, Dig l → vl l < pB l.length
  | [], _ => by decide
  | d :: l, h => by have h' := dig_cons.1 h; have := vl_lt h'.2; rw [List.length_cons, pB_succ]; unfold vl; omega
/-- The value of the first k groups. -/
def vk (l : List Int) (k : Nat) : Int := vl (l.take k)
theorem vk_zero (l : List Int) : vk l 0 = 0 := by simp [vk, vl]
theorem vk_len {l : List Int} {k : Nat} (h : l.length ≤ k) : vk l k = vl l := by unfold vk; rw [List.take_of_length_le h]
theorem vk_succ (l : List Int) (k : Nat) : vk l (k + 1) = vk l k + pB k * l.getD k 0 := by
  by_cases hk : k < l.length
  · unfold vk
    rw [List.take_succ_eq_append_getElem hk, vl_app, vl_one, List.length_take, Nat.min_eq_left (by omega)]
    simp [List.getD, hk]
  · rw [vk_len (by omega), vk_len (by omega)]
    have : l.getD k 0 = 0 := by simp [List.getD, List.getElem?_eq_none (by omega : l.length ≤ k)]
    rw [this]; omega
theorem vk_nonneg {l : List Int} (h : Dig l) (k : Nat) : 0 ≤ vk l k := vl_nonneg (dig_take h k)
theorem vk_lt {l : List Int} (h : Dig l) (k : Nat) : vk l k < pB k := by
  have := vl_lt (dig_take h k)
  have h2 := pB_mono (by rw [List.length_take]; omega : (l.take k).length ≤ k)
  unfold vk; omega
theorem vk_set {l : List Int} {k : Nat} {x : Int} : vk (l.set k x) k = vk l k := by unfold vk; rw [List.take_set_of_le (by omega)]
theorem at_set {l : List Int} {k : Nat} {x : Int} (h : k < l.length) : (l.set k x).getD k 0 = x := by simp [List.getD, h]
theorem at_set_ne {l : List Int} {j k : Nat} {x : Int} (h : k ≠ j) : (l.set k x).getD j 0 = l.getD j 0 := by simp [List.getD, h]
theorem vk_set1 {l : List Int} {k : Nat} {x : Int} (h : k < l.length) : vk (l.set k x) (k + 1) = vk l k + pB k * x := by rw [vk_succ, vk_set, at_set h]
theorem vk_drop (l : List Int) (k : Nat) (h : k ≤ l.length) : vl l = vk l k + pB k * vl (l.drop k) := by
  have := vl_app (l.take k) (l.drop k)
  rw [List.take_append_drop, List.length_take, Nat.min_eq_left h] at this
  exact this
theorem vl_set : ∀ {l : List Int} {k : Nat} {x : Int}, k < l.length → vl (l.set k x) = vl l + pB k * (x - l.getD k 0)
  | [], k, x, h => by simp at h
  | d :: l, 0, x, _ => by
    show x + 1000000000 * vl l = d + 1000000000 * vl l + 1 * (x - d); omega
  | d :: l, k + 1, x, h => by
    have ih := vl_set (l := l) (k := k) (x := x) (by simpa using h)
    show d + 1000000000 * vl (l.set k x) = d + 1000000000 * vl l + 1000000000 * pB k * (x - l.getD k 0)
    rw [ih]; grind
/-- Groups of one value, both without noughts at the end, are the same. -/
theorem can_zero : ∀ {l : List Int}, Can l → vl l = 0 → l = []
  | [], _, _ => rfl
  | d :: l, h, hv => by
    have h0 := vl_nonneg h.2.2.dig
    have hv' : d + 1000000000 * vl l = 0 := hv
    have h1 := h.1
    have hl : l = [] := can_zero h.2.2 (by omega)
    have := h.2.1 hl
    exfalso; omega
theorem can_inj : ∀ {a b : List Int}, Can a → Can b → vl a = vl b → a = b
  | [], b, _, hb, h => (can_zero hb h.symm).symm
  | a, [], ha, _, h => can_zero ha h
  | x :: a, y :: b, ha, hb, h => by
    have h' : x + 1000000000 * vl a = y + 1000000000 * vl b := h
    have h1 := ha.1; have h2 := hb.1
    obtain rfl : x = y := by omega
    rw [can_inj ha.2.2 hb.2.2 (by omega)]
theorem can_pos {l : List Int} (h : Can l) (hl : l ≠ []) : 0 < vl l := by
  have h0 := vl_nonneg h.dig
  by_cases hz : vl l = 0
  · exact absurd (can_zero h hz) hl
  · omega
theorem can_ge : ∀ {l : List Int}, Can l → l ≠ [] → pB (l.length - 1) ≤ vl l
  | [], _, h => absurd rfl h
  | [d], h, _ => by
    have := h.1; have := h.2.1 rfl
    show 1 ≤ d + 1000000000 * 0; omega
  | d :: e :: l, h, _ => by
    have ih := can_ge h.2.2 (by simp)
    have := h.1
    show 1000000000 * pB ((e :: l).length - 1) ≤ d + 1000000000 * vl (e :: l)
    omega
theorem can_len {l : List Int} (h : Can l) {k : Nat} (hk : vl l < pB k) : l.length ≤ k := by
  by_cases hl : l = []
  · subst hl; simp
  · have h1 := can_ge h hl
    by_cases hlt : k < l.length
    · have := pB_mono (by omega : k ≤ l.length - 1); omega
    · omega
theorem can_app : ∀ {a : List Int} {d : Int}, Dig a → (0 ≤ d ∧ d < 1000000000) → d ≠ 0 → Can (a ++ [d])
  | [], d, _, hd, hz => ⟨hd, fun _ => hz, trivial⟩
  | x :: a, d, ha, hd, hz => ⟨(dig_cons.1 ha).1, fun h => by simp at h, can_app (dig_cons.1 ha).2 hd hz⟩
theorem can_tail {l : List Int} (h : Dig l) (hz : l = [] ∨ l.getD (l.length - 1) 0 ≠ 0) : Can l := by
  rcases List.eq_nil_or_concat l with rfl | ⟨a, d, rfl⟩
  · trivial
  · rw [List.concat_eq_append] at *
    have h' := dig_app.1 h
    refine can_app h'.1 (dig_one.1 h'.2) ?_
    rcases hz with hz | hz
    · simp at hz
    · simpa using hz
theorem can_last : ∀ {l : List Int}, Can l → l ≠ [] → l.getD (l.length - 1) 0 ≠ 0
  | [], _, h => absurd rfl h
  | [d], h, _ => h.2.1 rfl
  | d :: e :: l, h, _ => by
    have ih := can_last h.2.2 (by simp)
    simpa using ih
theorem vl_cut {l : List Int} {k : Nat} (hk : k ≤ l.length) (hz : ∀ j, k ≤ j → l.getD j 0 = 0) : vl (l.take k) = vl l := by
  have : ∀ m, vk l (k + m) = vk l k := by
    intro m
    induction m with
    | zero => rfl
    | succ m ih => rw [← Nat.add_assoc, vk_succ, ih, hz _ (by omega)]; omega
  have h2 := this (l.length - k)
  rw [vk_len (by omega)] at h2
  exact h2.symm
theorem sgn_pos {n : Int} (h : 0 < n) : sgn n = 1 := by unfold sgn; rw [if_neg (by omega), if_pos h]
theorem sgn_of_neg {n : Int} (h : n < 0) : sgn n = -1 := by unfold sgn; rw [if_pos h]
theorem sgn_zero : sgn 0 = 0 := rfl
/-- Groups of the same number: the order is that of the greatest ones that differ. -/
theorem cmpE_vl : ∀ {a b : List Int}, Dig a → Dig b → a.length = b.length → cmpE a b = sgn (vl a - vl b)
  | [], [], _, _, _ => rfl
  | [], _ :: _, _, _, h => by simp at h
  | _ :: _, [], _, _, h => by simp at h
  | x :: a, y :: b, ha, hb, h => by
    have ha' := dig_cons.1 ha; have hb' := dig_cons.1 hb
    have ih := cmpE_vl ha'.2 hb'.2 (by simpa using h)
    show (if cmpE a b ≠ 0 then cmpE a b else cmp3 x y) = sgn (x + 1000000000 * vl a - (y + 1000000000 * vl b))
    rw [ih]
    rcases sgn_cases (vl a - vl b) with ⟨h1, h2⟩ | ⟨h1, h2⟩ | ⟨h1, h2⟩
    · rw [if_pos (by omega), h2, sgn_of_neg (by omega)]
    · rw [if_neg (by omega), (by omega : x + 1000000000 * vl a - (y + 1000000000 * vl b) = x - y)]
      unfold cmp3
      rcases sgn_cases (x - y) with ⟨h3, h4⟩ | ⟨h3, h4⟩ | ⟨h3, h4⟩
      · rw [h4, if_pos (by omega)]
      · rw [h4, if_neg (by omega), if_neg (by omega)]
      · rw [h4, if_neg (by omega), if_pos (by omega)]
    · rw [if_pos (by omega), h2, sgn_pos (by omega)]
theorem can_lt_len {a b : List Int} (ha : Dig a) (hb : Can b) (h : a.length < b.length) : vl a < vl b := by
  have h1 := vl_lt ha
  have h2 := can_ge hb (by intro e; subst e; simp at h)
  have h3 := pB_mono (by omega : a.length ≤ b.length - 1)
  omega

/-- x is the canonical integer of value v. -/
def isI (neg : Bool) (g : List Int) (v : Int) : Prop := Can g ∧ (neg = true → g ≠ []) ∧ v = (if neg then -vl g else vl g)
theorem isI_inj {p q : Bool} {g h : List Int} {v : Int} (a : isI p g v) (b : isI q h v) : p = q ∧ g = h := by
  obtain ⟨a1, a2, a3⟩ := a; obtain ⟨b1, b2, b3⟩ := b
  cases p <;> cases q
  · exact ⟨rfl, can_inj a1 b1 (by simp at a3 b3; omega)⟩
  · have := can_pos b1 (b2 rfl); have := vl_nonneg a1.dig; simp at a3 b3; exfalso; omega
  · have := can_pos a1 (a2 rfl); have := vl_nonneg b1.dig; simp at a3 b3; exfalso; omega
  · exact ⟨rfl, can_inj a1 b1 (by simp at a3 b3; omega)⟩
theorem isI_abs {p : Bool} {g : List Int} {v : Int} (a : isI p g v) : vl g = v.natAbs := by
  obtain ⟨a1, a2, a3⟩ := a
  have := vl_nonneg a1.dig
  cases p <;> simp at a3 <;> omega
theorem isI_len {p : Bool} {g : List Int} {v : Int} (a : isI p g v) {k : Nat} (h : -pB k < v) (h2 : v < pB k) : g.length ≤ k :=
  can_len a.1 (by rw [isI_abs a]; omega)
theorem isI_sgn {p : Bool} {g : List Int} {v : Int} (a : isI p g v) : sgn v = (if g = [] then 0 else if p then -1 else 1) := by
  obtain ⟨a1, a2, a3⟩ := a
  by_cases hg : g = []
  · subst hg
    have hp : p = false := by cases p with | false => rfl | true => exact absurd rfl (a2 rfl)
    subst hp; subst a3; rfl
  · have := can_pos a1 hg
    rw [if_neg hg]
    cases p
    · simp at a3; rw [a3, sgn_pos this]; rfl
    · simp at a3; rw [a3, sgn_of_neg (by omega)]; rfl
theorem isI_bound {p : Bool} {g : List Int} {v : Int} (a : isI p g v) {k : Nat} (hk : g.length ≤ k) : -pB k < v ∧ v < pB k := by
  have h1 := isI_abs a; have h2 := vl_lt a.1.dig; have h3 := pB_mono hk
  omega
theorem isI_len_mul {p q r : Bool} {g h z : List Int} {v w : Int} (a : isI p g v) (b : isI q h w) (c : isI r z (v * w)) {j k : Nat} (hj : g.length ≤ j) (hk : h.length ≤ k) : z.length ≤ j + k := by
  refine can_len c.1 ?_
  have h1 := isI_abs a; have h2 := isI_abs b; have h3 := isI_abs c
  have a1 := vl_lt a.1.dig; have a2 := vl_lt b.1.dig; have a3 := vl_nonneg a.1.dig; have a4 := vl_nonneg b.1.dig
  have b1 := pB_mono hj; have b2 := pB_mono hk; have b3 := pB_pos j
  have e : vl z = vl g * vl h := by rw [h3, h1, h2, Int.natAbs_mul]; push_cast; rfl
  rw [e, pB_add]
  have : vl g * vl h ≤ pB j * vl h := Int.mul_le_mul_of_nonneg_right (by omega) a4
  have : pB j * vl h < pB j * pB k := Int.mul_lt_mul_of_pos_left (by omega) (by omega)
  omega
theorem isI_len_add {p q r : Bool} {g h z : List Int} {v w : Int} (a : isI p g v) (b : isI q h w) (c : isI r z (v + w)) {k : Nat} (hj : g.length ≤ k) (hk : h.length ≤ k) : z.length ≤ k + 1 := by
  have h1 := isI_bound a hj; have h2 := isI_bound b hk; have := pB_pos k
  exact isI_len c (by rw [pB_succ]; omega) (by rw [pB_succ]; omega)
theorem isI_len_sub {p q r : Bool} {g h z : List Int} {v w : Int} (a : isI p g v) (b : isI q h w) (c : isI r z (v - w)) {k : Nat} (hj : g.length ≤ k) (hk : h.length ≤ k) : z.length ≤ k + 1 := by
  have h1 := isI_bound a hj; have h2 := isI_bound b hk; have := pB_pos k
  exact isI_len c (by rw [pB_succ]; omega) (by rw [pB_succ]; omega)
theorem isI_len_of {p : Bool} {g : List Int} {v : Int} (a : isI p g v) (h : -9223372036854775808 ≤ v) (h2 : v ≤ 9223372036854775807) : g.length ≤ 3 := by
  have : pB 3 = 1000000000000000000000000000 := rfl
  exact isI_len a (by omega) (by omega)
end Go.L
