import Derived.Test.YtlpfiiejhikalaaGreatSc6Trks
set_option linter.unusedVariables false
namespace Go.L
open Go Go.Eng
def Ok {α : Type} (x : Option α) (Q : α -> Prop) : Prop := ∃ a, x = some a /\ Q a
section
variable {α β : Type} {Q Q' : α -> Prop}
theorem Ok.mono {x : Option α} (h : Ok x Q) (k : ∀ a, Q a -> Q' a) : Ok x Q' := by obtain ⟨a, h1, h2⟩ := h; exact ⟨a, h1, k a h2⟩
theorem aw {a : α} : Ok (some a) Q ↔ Q a := ⟨fun ⟨b, h, hq⟩ => (by cases h; exact hq), fun h => ⟨a, rfl, h⟩⟩
theorem Co {b : Bool} {t : Option α} : Ok (gdO b t) Q ↔ b = true /\ Ok t Q := by
 cases b
 · exact ⟨fun ⟨a, h, _⟩ => (by cases h), fun h => (by cases h.1)⟩
 · exact ⟨fun h => ⟨rfl, h⟩, fun h => h.2⟩
theorem De {b : Bool} {t e : Option α} : Ok (cdO b t e) Q ↔ (b = true -> Ok t Q) /\ (b = false -> Ok e Q) := by
 cases b
 · exact ⟨fun h => ⟨(fun e => by cases e), fun _ => h⟩, fun h => h.2 rfl⟩
 · exact ⟨fun h => ⟨fun _ => h, (fun e => by cases e)⟩, fun h => h.1 rfl⟩
theorem C5 {x : Option β} {f : β -> Option α} : Ok (bdO x f) Q ↔ Ok x (fun b => Ok (f b) Q) := by
 cases x
 · exact ⟨fun ⟨a, h, _⟩ => (by cases h), fun ⟨a, h, _⟩ => (by cases h)⟩
 · exact ⟨fun h => ⟨_, rfl, h⟩, fun ⟨a, h, hq⟩ => (by cases h; exact hq)⟩
theorem Ok.bd {x : Option β} {f : β -> Option α} {R : β -> Prop} (h : Ok x R) (k : ∀ b, R b -> Ok (f b) Q) : Ok (bdO x f) Q := C5.2 (h.mono k)
theorem Ok.bde {x : Option β} {f : β -> Option α} {b : β} (h : x = some b) (k : Ok (f b) Q) : Ok (bdO x f) Q := by subst h; exact k
theorem Ok.gd {b : Bool} {t : Option α} (h : b = true) (k : Ok t Q) : Ok (gdO b t) Q := Co.2 ⟨h, k⟩
theorem Ok.cd {b : Bool} {t e : Option α} (h : b = true -> Ok t Q) (k : b = false -> Ok e Q) : Ok (cdO b t e) Q := De.2 ⟨h, k⟩
theorem Ok.eq {x : Option α} {a : α} (h : Ok x (· = a)) : x = some a := by obtain ⟨b, h1, rfl⟩ := h; exact h1
theorem Ok.get {x : Option α} (h : Ok x Q) {a : α} (ha : x = some a) : Q a := by obtain ⟨b, h1, h2⟩ := h; rw [ha] at h1; cases h1; exact h2
theorem bI {f : (β -> Option α) -> β -> Option α} (I : β -> Prop) (μ : β -> Nat) (step : ∀ again a, I a -> (∀ a', I a' -> μ a' < μ a -> Ok (again a') Q) -> Ok (f again a) Q) : ∀ (n : Nat) (a : β), I a -> μ a < n -> Ok (aP n f a) Q
 | 0, a, _, h => by omega
 | n + 1, a, hI, h => step (aP n f) a hI fun a' hI' hμ => bI I μ step n a' hI' (by omega)
theorem wrap64_in {n : Int} (h : -9223372036854775808 <= n) (h2 : n <= 9223372036854775807) : Ew n = n := by
 (try unfold Ew); unfold ae tQ
 have : (decide (-9223372036854775808 <= n) && decide (n <= 9223372036854775807)) = true := by simp; omega
 simp only [this]
theorem dJ {n : Int} (h : 0 <= n) (h2 : n <= 18446744073709551615) : ae .u64 n = n := by
 (try unfold Ew); unfold ae tQ
 have : (decide (0 <= n) && decide (n <= 18446744073709551615)) = true := by simp; omega
 simp only [this]
theorem aJ {k len : Nat} : inR (k : Int) len = decide (k < len) := by
 unfold inR
 have h1 : decide ((0 : Int) <= (k : Int)) = true := by simp
 rw [h1, Bool.true_and]
 by_cases h : k < len <;> simp [h]
theorem cO {γ : Type} [Inhabited γ] {l : List γ} {k : Nat} : gt l (k : Int) = l.getD k default := by unfold gt; simp
theorem sY {a b : Int} {n : Nat} : inS a b n = true ↔ (0 <= a /\ a <= b) /\ b <= n := by simp [inS]
theorem rB {f : (Int -> Option α) -> Int -> Option α} {n len : Nat} (P : Nat -> Prop) (hn : len < n) (hl : len <= 9223372036854775806) (h0 : P 0)
  (step : ∀ again (k : Nat), k < len -> P k -> (P (k + 1) -> Ok (again (Ew ((k : Int) + 1))) Q) -> Ok (f again (k : Int)) Q) (hend : ∀ again, P len -> Ok (f again (len : Int)) Q) : Ok (aP n f 0) Q := by
 refine bI (fun x : Int => ∃ k : Nat, x = (k : Int) /\ k <= len /\ P k) (fun x => len - x.toNat) ?_ n 0 ⟨0, rfl, Nat.zero_le _, h0⟩ (by simpa using hn)
 rintro again x ⟨k, rfl, hk, hP⟩ ih
 by_cases hlt : k < len
 · refine step again k hlt hP fun hP' => ?_
   have hw : Ew ((k : Int) + 1) = ((k + 1 : Nat) : Int) := by rw [wrap64_in (by omega) (by omega)]; omega
   rw [hw]
   exact ih _ ⟨k + 1, rfl, by omega, hP'⟩ (by simp; omega)
 · obtain rfl : k = len := by omega
   exact hend again hP
theorem xG {γ : Type} {f : (γ × Int -> Option α) -> γ × Int -> Option α} {n len : Nat} (P : Nat -> γ -> Prop) (hn : len < n) (hl : len <= 9223372036854775806) {c0 : γ} (h0 : P 0 c0)
  (step : ∀ again (k : Nat) c, k < len -> P k c -> (∀ c', P (k + 1) c' -> Ok (again (c', Ew ((k : Int) + 1))) Q) -> Ok (f again (c, (k : Int))) Q) (hend : ∀ again c, P len c -> Ok (f again (c, (len : Int))) Q) : Ok (aP n f (c0, 0)) Q := by
 refine bI (fun x => ∃ k : Nat, x.2 = (k : Int) /\ k <= len /\ P k x.1) (fun x => len - x.2.toNat) ?_ n (c0, 0) ⟨0, rfl, Nat.zero_le _, h0⟩ (by simpa using hn)
 rintro again ⟨c, x⟩ ⟨k, hx, hk, hP⟩ ih
 obtain rfl : x = (k : Int) := hx
 by_cases hlt : k < len
 · refine step again k c hlt hP fun c' hP' => ?_
   have hw : Ew ((k : Int) + 1) = ((k + 1 : Nat) : Int) := by rw [wrap64_in (by omega) (by omega)]; omega
   rw [hw]
   exact ih _ ⟨k + 1, rfl, by omega, hP'⟩ (by simp; omega)
 · obtain rfl : k = len := by omega
   exact hend again c hP
end
end Go.L


set_option linter.all false
namespace Go.L
open Go Go.Eng
end Go.L

