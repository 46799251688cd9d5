import Derived.Test.YtlpfiiejhikalaaGreatPl2Trks
set_option linter.all false
namespace Go.L
open Go Go.Eng
def vl : List Int -> Int
 | [] => 0
 | d :: l => d + 1000000000 * vl l
def Can : List Int -> Prop
 | [] => True
 | d :: l => (0 <= d /\ d < 1000000000) /\ (l = [] -> d ≠ 0) /\ Can l
def vk (l : List Int) (k : Nat) : Int := vl (l.take k)
def isI (neg : Bool) (g : List Int) (v : Int) : Prop := Can g /\ (neg = true -> g ≠ []) /\ v = (if neg then -vl g else vl g)
end Go.L


set_option linter.all false
namespace Go.L
open Go Go.Eng
structure KN (P W V wl x0 x1 x2 vw v1 v2 : Int) : Prop where
 p : 1 <= P
 w : W = wl + P * (x0 + 1000000000 * x1 + 1000000000000000000 * x2)
 wl : 0 <= wl /\ wl < P
 v : V = vw + P * (v2 + 1000000000 * v1)
 vw : 0 <= vw /\ vw < P
 v1 : 500000000 <= v1 /\ v1 < 1000000000
 v2 : 0 <= v2 /\ v2 < 1000000000
 x0 : 0 <= x0 /\ x0 < 1000000000
 x1 : 0 <= x1 /\ x1 < 1000000000
 x2 : 0 <= x2 /\ x2 < 1000000000
 lt : W < 1000000000 * V
section
variable {P W V wl x0 x1 x2 vw v1 v2 : Int}
theorem KN.less (k : KN P W V wl x0 x1 x2 vw v1 v2) {g : Int} (hg : 0 <= g) (h : x0 + 1000000000 * x1 + 1000000000000000000 * x2 < g * (v2 + 1000000000 * v1)) : W < g * V := by
 obtain ⟨hp, hw, hwl, hv, hvw, hv1, hv2, h0, h1, h2, hlt⟩ := k
 have e : g * V = g * vw + P * (g * (v2 + 1000000000 * v1)) := by rw [hv]; grind
 have f1 : P * (x0 + 1000000000 * x1 + 1000000000000000000 * x2 + 1) <= P * (g * (v2 + 1000000000 * v1)) := mlT (by omega) (by omega)
 have f2 : 0 <= g * vw := Int.mul_nonneg hg hvw.1
 rw [Int.mul_add] at f1
 omega
end
def gm (x y : Nat) : Nat := if y = 0 then 0 else Nat.log2 (x * y) + 2 + (if x < y then 1 else 0)
end Go.L


set_option linter.all false
namespace Go.L
open Go Go.Eng
structure QL (nn : Bool) (ng : List Int) (dn : Bool) (dg : List Int) (r : Rat) (k : Nat) : Prop where
 num : isI nn ng r.num
 den : isI dn dg (r.den : Int)
 nl : ng.length <= k
 dl : dg.length <= k
theorem QL.mono {nn dn : Bool} {ng dg : List Int} {r : Rat} {j k : Nat} (h : QL nn ng dn dg r j) (hk : j <= k) : QL nn ng dn dg r k := ⟨h.num, h.den, Nat.le_trans h.nl hk, Nat.le_trans h.dl hk⟩
end Go.L


set_option linter.unusedVariables false
namespace Go.L
open Go Go.Eng
theorem xN {α β : Type} (n : Nat) (f : (α -> Option β) -> α -> Option β) (a : α) : aP (n + 1) f a = f (aP n f) a := rfl
theorem pj {σ γ α : Type} {Q : α -> Prop} {f : (σ -> Option α) -> σ -> Option α} {n len : Nat} (mk : γ -> Int -> σ) (P : Nat -> γ -> Prop) (hn : len < n) (hl : len <= 9223372036854775806) {c0 : γ} (h0 : P 0 c0)
  (step : ∀ again (k : Nat) c, k < len -> P k c -> (∀ c', P (k + 1) c' -> Ok (again (mk c' (Ew ((k : Int) + 1)))) Q) -> Ok (f again (mk c (k : Int))) Q) (hend : ∀ again c, P len c -> Ok (f again (mk c (len : Int))) Q) : Ok (aP n f (mk c0 0)) Q := by
 have key : ∀ (m k : Nat) (c : γ), len - k < m -> k <= len -> P k c -> Ok (aP m f (mk c (k : Int))) Q := by
  intro m
  induction m with
  | zero => intro k c h; omega
  | succ m ih =>
   intro k c hm hk hP
   rw [xN]
   by_cases hlt : k < len
   · refine step _ k c hlt hP fun c' hP' => ?_
     have hw : Ew ((k : Int) + 1) = ((k + 1 : Nat) : Int) := by rw [wrap64_in (by omega) (by omega)]; omega
     rw [hw]
     exact ih (k + 1) c' (by omega) (by omega) hP'
   · obtain rfl : k = len := by omega
     exact hend _ c hP
 exact key n 0 c0 (by omega) (by omega) h0
end Go.L

