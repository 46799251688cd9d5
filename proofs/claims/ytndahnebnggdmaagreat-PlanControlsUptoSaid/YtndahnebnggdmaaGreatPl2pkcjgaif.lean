import Derived.Test.YtndahnebnggdmaaGreatSc6obedklpc
set_option linter.unusedVariables false
namespace Go.L
open Go Go.Eng
def Ok {α : Type} (x : Option α) (Q : α → Prop) : Prop := ∃ a, x = some a ∧ Q a
section
variable {α β : Type} {Q Q' : α → Prop}
theorem Ok.mono {x : Option α} (h : Ok x Q) (k : ∀ a, Q a → Q' a) : Ok x Q' := by obtain ⟨a, h1, h2⟩ := h; exact ⟨a, h1, k a h2⟩
theorem ok_some {a : α} : Ok (some a) Q ↔ Q a := ⟨fun ⟨b, h, hq⟩ => (by cases h; exact hq), fun h => ⟨a, rfl, h⟩⟩
theorem ok_gd {b : Bool} {t : Option α} : Ok (gdO b t) Q ↔ b = true ∧ Ok t Q := by
 cases b
 · exact ⟨fun ⟨a, h, _⟩ => (by cases h), fun h => (by cases h.1)⟩
 · exact ⟨fun h => ⟨rfl, h⟩, fun h => h.2⟩
theorem ok_cd {b : Bool} {t e : Option α} : Ok (cdO b t e) Q ↔ (b = true → Ok t Q) ∧ (b = false → Ok e Q) := by
 cases b
 · exact ⟨fun h => ⟨(fun e => by cases e), fun _ => h⟩, fun h => h.2 rfl⟩
 · exact ⟨fun h => ⟨fun _ => h, (fun e => by cases e)⟩, fun h => h.1 rfl⟩
theorem ok_bd {x : Option β} {f : β → Option α} : Ok (bdO x f) Q ↔ Ok x (fun b => Ok (f b) Q) := by
 cases x
 · exact ⟨fun ⟨a, h, _⟩ => (by cases h), fun ⟨a, h, _⟩ => (by cases h)⟩
 · exact ⟨fun h => ⟨_, rfl, h⟩, fun ⟨a, h, hq⟩ => (by cases h; exact hq)⟩
theorem Ok.bd {x : Option β} {f : β → Option α} {R : β → Prop} (h : Ok x R) (k : ∀ b, R b → Ok (f b) Q) : Ok (bdO x f) Q := ok_bd.2 (h.mono k)
theorem Ok.bde {x : Option β} {f : β → Option α} {b : β} (h : x = some b) (k : Ok (f b) Q) : Ok (bdO x f) Q := by subst h; exact k
theorem Ok.gd {b : Bool} {t : Option α} (h : b = true) (k : Ok t Q) : Ok (gdO b t) Q := ok_gd.2 ⟨h, k⟩
theorem Ok.cd {b : Bool} {t e : Option α} (h : b = true → Ok t Q) (k : b = false → Ok e Q) : Ok (cdO b t e) Q := ok_cd.2 ⟨h, k⟩
theorem Ok.eq {x : Option α} {a : α} (h : Ok x (· = a)) : x = some a := by obtain ⟨b, h1, rfl⟩ := h; exact h1
theorem Ok.get {x : Option α} (h : Ok x Q) {a : α} (ha : x = some a) : Q a := by obtain ⟨b, h1, h2⟩ := h; rw [ha] at h1; cases h1; exact h2
theorem ok_loop {f : (β → Option α) → β → Option α} (I : β → Prop) (μ : β → Nat) (step : ∀ again a, I a → (∀ a', I a' → μ a' < μ a → Ok (again a') Q) → Ok (f again a) Q) : ∀ (n : Nat) (a : β), I a → μ a < n → Ok (loopO n f a) Q
 | 0, a, _, h => by omega
 | n + 1, a, hI, h => step (loopO n f) a hI fun a' hI' hμ => ok_loop I μ step n a' hI' (by omega)
theorem wrap64_in {n : Int} (h : -9223372036854775808 ≤ n) (h2 : n ≤ 9223372036854775807) : wrapF .i64 n = n := by
 unfold wrapF inKind
 have : (decide (-9223372036854775808 ≤ n) && decide (n ≤ 9223372036854775807)) = true := by simp; omega
 simp only [this]
theorem wrapU64_in {n : Int} (h : 0 ≤ n) (h2 : n ≤ 18446744073709551615) : wrapF .u64 n = n := by
 unfold wrapF inKind
 have : (decide (0 ≤ n) && decide (n ≤ 18446744073709551615)) = true := by simp; omega
 simp only [this]
theorem wrapU32_in {n : Int} (h : 0 ≤ n) (h2 : n ≤ 4294967295) : wrapF .u32 n = n := by
 unfold wrapF inKind
 have : (decide (0 ≤ n) && decide (n ≤ 4294967295)) = true := by simp; omega
 simp only [this]
theorem inR_nat {k len : Nat} : inR (k : Int) len = decide (k < len) := by
 unfold inR
 have h1 : decide ((0 : Int) ≤ (k : Int)) = true := by simp
 rw [h1, Bool.true_and]
 by_cases h : k < len <;> simp [h]
theorem gt_nat {γ : Type} [Inhabited γ] {l : List γ} {k : Nat} : gt l (k : Int) = l.getD k default := by unfold gt; simp
theorem inS_iff {a b : Int} {n : Nat} : inS a b n = true ↔ (0 ≤ a ∧ a ≤ b) ∧ b ≤ n := by simp [inS]
theorem ok_range {f : (Int → Option α) → Int → Option α} {n len : Nat} (P : Nat → Prop) (hn : len < n) (hl : len ≤ 9223372036854775806) (h0 : P 0)
  (step : ∀ again (k : Nat), k < len → P k → (P (k + 1) → Ok (again (wrapF .i64 ((k : Int) + 1))) Q) → Ok (f again (k : Int)) Q) (hend : ∀ again, P len → Ok (f again (len : Int)) Q) : Ok (loopO n f 0) Q := by
 refine ok_loop (fun x : Int => ∃ k : Nat, x = (k : Int) ∧ k ≤ len ∧ P k) (fun x => len - x.toNat) ?_ n 0 ⟨0, rfl, Nat.zero_le _, h0⟩ (by simpa using hn)
 rintro again x ⟨k, rfl, hk, hP⟩ ih
 by_cases hlt : k < len
 · refine step again k hlt hP fun hP' => ?_
   have hw : wrapF .i64 ((k : Int) + 1) = ((k + 1 : Nat) : Int) := by rw [wrap64_in (by omega) (by omega)]; omega
   rw [hw]
   exact ih _ ⟨k + 1, rfl, by omega, hP'⟩ (by simp; omega)
 · obtain rfl : k = len := by omega
   exact hend again hP
theorem ok_rangeR {γ : Type} {f : (γ × Int → Option α) → γ × Int → Option α} {n len : Nat} (P : Nat → γ → Prop) (hn : len < n) (hl : len ≤ 9223372036854775806) {c0 : γ} (h0 : P 0 c0)
  (step : ∀ again (k : Nat) c, k < len → P k c → (∀ c', P (k + 1) c' → Ok (again (c', wrapF .i64 ((k : Int) + 1))) Q) → Ok (f again (c, (k : Int))) Q) (hend : ∀ again c, P len c → Ok (f again (c, (len : Int))) Q) : Ok (loopO n f (c0, 0)) Q := by
 refine ok_loop (fun x => ∃ k : Nat, x.2 = (k : Int) ∧ k ≤ len ∧ P k x.1) (fun x => len - x.2.toNat) ?_ n (c0, 0) ⟨0, rfl, Nat.zero_le _, h0⟩ (by simpa using hn)
 rintro again ⟨c, x⟩ ⟨k, hx, hk, hP⟩ ih
 obtain rfl : x = (k : Int) := hx
 by_cases hlt : k < len
 · refine step again k c hlt hP fun c' hP' => ?_
   have hw : wrapF .i64 ((k : Int) + 1) = ((k + 1 : Nat) : Int) := by rw [wrap64_in (by omega) (by omega)]; omega
   rw [hw]
   exact ih _ ⟨k + 1, rfl, by omega, hP'⟩ (by simp; omega)
 · obtain rfl : k = len := by omega
   exact hend again c hP
end
theorem any_false_iff {γ : Type} [Inhabited γ] {p : γ → Bool} {l : List γ} : l.any p = false ↔ ∀ j, j < l.length → p (l.getD j default) = false := by
 rw [List.any_eq_false]
 constructor
 · intro h j hj
   have := h (l[j]) (List.getElem_mem hj)
   simp only [List.getD, List.getElem?_eq_getElem hj, Option.getD_some]
   simpa using this
 · intro h x hx
   obtain ⟨j, hj, rfl⟩ := List.getElem_of_mem hx
   have := h j hj
   simp only [List.getD, List.getElem?_eq_getElem hj, Option.getD_some] at this
   simp [this]
theorem any_of_at {γ : Type} [Inhabited γ] {p : γ → Bool} {l : List γ} {j : Nat} (hj : j < l.length) (h : p (l.getD j default) = true) : l.any p = true := by
 cases ha : l.any p with
 | true => rfl
 | false => rw [any_false_iff.1 ha j hj] at h; cases h
end Go.L


set_option linter.all false
namespace Go.L
open Go Go.Eng
def idxB {γ : Type} (p : γ → Bool) : List γ → Int
 | [] => -1
 | x :: s => bif p x then 0 else bif decide (idxB p s ≥ 0) then idxB p s + 1 else -1
theorem idxB_ge {γ : Type} (p : γ → Bool) : ∀ s : List γ, decide (idxB p s ≥ 0) = s.any p
 | [] => rfl
 | x :: s => by
  have ih := idxB_ge p s
  rw [List.any_cons, ← ih, idxB]
  cases p x with
  | true => rfl
  | false =>
   by_cases h : idxB p s ≥ 0
   · simp only [decide_eq_true h, cond_true, cond_false, Bool.false_or]; simp; omega
   · simp only [decide_eq_false h, cond_true, cond_false, Bool.false_or]; rfl
theorem idxB_none {γ : Type} [Inhabited γ] (p : γ → Bool) : ∀ s : List γ, (∀ j, j < s.length → p (s.getD j default) = false) → idxB p s = -1
 | [], _ => rfl
 | x :: s, h => by
  have h0 : p x = false := by simpa using h 0 (by simp)
  have ih := idxB_none p s (fun j hj => by simpa using h (j + 1) (by simpa using hj))
  simp only [idxB, h0, ih, cond_false]; rfl
theorem idxB_at {γ : Type} [Inhabited γ] (p : γ → Bool) : ∀ (s : List γ) (k : Nat), k < s.length → (∀ j, j < k → p (s.getD j default) = false) → p (s.getD k default) = true → idxB p s = k
 | [], k, hk, _, _ => by simp at hk
 | x :: s, 0, _, _, h => by
  have h0 : p x = true := by simpa using h
  simp only [idxB, h0, cond_true]; rfl
 | x :: s, k + 1, hk, h, h1 => by
  have h0 : p x = false := by simpa using h 0 (by omega)
  have ih := idxB_at p s k (by simpa using hk) (fun j hj => by simpa using h (j + 1) (by omega)) (by simpa using h1)
  simp only [idxB, h0, ih, cond_false]
  have : decide ((k : Int) ≥ 0) = true := by simp
  rw [this, cond_true]; omega
theorem loop_indexF {γ : Type} [Inhabited γ] {n : Nat} {s : List γ} {f : γ → Option Bool} {p : γ → Bool} (hf : ∀ x, f x = some (p x)) (hn : s.length < n) (hl : s.length ≤ 9223372036854775806) :
  bdO (loopO (α := Int) (β := Sum (Unit) (Int)) n (fun again x => cdO (decide (x < (s.length : Int))) (gdO (inR x s.length) (bdO (f (gt s x)) fun v => (cdO v (some (Sum.inr (x))) (again (wrapF .i64 (x + 1)))))) (some (Sum.inl ()))) 0) (fun o => match o with | .inl _ => some (-1) | .inr r0 => some r0) = some (idxB p s) := by
 apply Ok.eq
 refine Ok.bd (R := fun o => match o with | .inl _ => idxB p s = -1 | .inr r => r = idxB p s) ?_ ?_
 · refine ok_range (len := s.length) (fun k => ∀ j, j < k → p (s.getD j default) = false) hn hl (by intro j hj; omega) ?_ ?_
   · intro again k hk hP ih
     refine Ok.cd (fun _ => ?_) (fun h => ?_)
     · refine Ok.gd (by rw [inR_nat]; simpa using hk) ?_
       rw [gt_nat, hf]
       refine Ok.cd (fun h => ?_) (fun h => ?_)
       · exact ok_some.2 (idxB_at p s k hk hP h).symm
       · exact ih fun j hj => by
          by_cases hjk : j = k
          · rw [hjk]; exact h
          · exact hP j (by omega)
     · simp at h; omega
   · intro again hP
     refine Ok.cd (fun h => ?_) (fun _ => ?_)
     · simp at h
     · exact ok_some.2 (idxB_none p s hP)
 · rintro (_ | r) h
   · exact ok_some.2 h.symm
   · exact ok_some.2 h
def sgn (n : Int) : Int := if n < 0 then -1 else if n > 0 then 1 else 0
theorem sgn_cases (n : Int) : (n < 0 ∧ sgn n = -1) ∨ (n = 0 ∧ sgn n = 0) ∨ (0 < n ∧ sgn n = 1) := by unfold sgn; split <;> (try split) <;> omega
theorem mul_bound {a b A B : Int} (h1 : -A ≤ a) (h2 : a ≤ A) (h3 : -B ≤ b) (h4 : b ≤ B) : -(A * B) ≤ a * b ∧ a * b ≤ A * B := by
 have ha : a.natAbs ≤ A.natAbs := by omega
 have hb : b.natAbs ≤ B.natAbs := by omega
 have hm := Nat.mul_le_mul ha hb
 rw [← Int.natAbs_mul, ← Int.natAbs_mul] at hm
 have h0 : 0 ≤ A * B := Int.mul_nonneg (by omega) (by omega)
 generalize a * b = x at *
 generalize A * B = y at *
 omega
end Go.L

