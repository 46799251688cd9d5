import Derived.Test.YtlpfiiejhikalaaGreatSc11Trks
set_option linter.all false
namespace Go.Eng
open Go Go.RowKit
variable [Dr]
def iA (k : IntKind) (v : Int) : AV := .at (.int k v)
def bA (v : Bool) : AV := .at (.bool v)
def mpK {κ α : Type} (K : κ -> Value) (f : α -> AV) (p : κ × α) : Value × AV := (K p.1, f p.2)
def mpc {α : Type} (k : IntKind) (f : α -> AV) (p : Int × α) : Value × AV := (.int k p.1, f p.2)
section
variable {κ : Type} [DecidableEq κ] {α : Type}
def getM (z : α) : List (κ × α) -> κ -> α
 | [], _ => z
 | p :: l, x => bif x == p.1 then p.2 else getM z l x
def cW : List (κ × α) -> κ -> Bool
 | [], _ => false
 | p :: l, x => bif x == p.1 then true else cW l x
def fu : List (κ × α) -> κ -> Nat
 | [], _ => 0
 | p :: l, x => bif x == p.1 then 0 else fu l x + 1
def dT : List (κ × α) -> κ -> α -> List (κ × α)
 | [], x, v => [(x, v)]
 | p :: l, x, v => bif x == p.1 then (x, v) :: l else p :: dT l x v
def th (K : κ -> Value) : Prop := ∀ x y, kEq (K x) (K y) = some (x == y)
theorem mL {K : κ -> Value} (hK : th K) {f : α -> AV} {z : α} {x : κ} : ∀ (l : List (κ × α)) (i : Nat), gA (K x) (l.map (mpK K f)) i = some (bif cW l x then some (i + fu l x, f (getM z l x)) else none)
 | [], _ => rfl
 | p :: l, i => by
  simp only [List.map_cons, mpK, gA, hK x p.1, cW, fu, getM]
  cases h : x == p.1 with
  | true => rfl
  | false =>
   simp only [cond_false]
   have := mL hK (f := f) (z := z) (x := x) l (i + 1)
   rw [this]
   cases cW l x <;> simp only [cond_true, cond_false]
   rw [show i + 1 + fu l x = i + (fu l x + 1) by omega]
theorem oI {z : α} {x : κ} : ∀ {l : List (κ × α)}, cW l x = false -> getM z l x = z
 | [], _ => rfl
 | p :: l, h => by
  simp only [cW, getM] at h ⊢
  cases hx : x == p.1 with
  | true => rw [hx] at h; simp at h
  | false => rw [hx] at h; exact oI h
theorem wH {K : κ -> Value} {f : α -> AV} {x : κ} {v : α} : ∀ {l : List (κ × α)}, cW l x = true -> (l.map (mpK K f)).set (fu l x) (K x, f v) = (dT l x v).map (mpK K f)
 | [], h => by simp [cW] at h
 | p :: l, h => by
  simp only [cW, fu, dT] at h ⊢
  cases hx : x == p.1 with
  | true => rfl
  | false => rw [hx] at h; simp only [cond_false, List.map_cons, List.set_cons_succ]; rw [wH h]
theorem wJ {K : κ -> Value} {f : α -> AV} {x : κ} {v : α} : ∀ {l : List (κ × α)}, cW l x = false -> l.map (mpK K f) ++ [(K x, f v)] = (dT l x v).map (mpK K f)
 | [], _ => rfl
 | p :: l, h => by
  simp only [cW, dT] at h ⊢
  cases hx : x == p.1 with
  | true => rw [hx] at h; simp at h
  | false => rw [hx] at h; simp only [cond_false, List.map_cons, List.cons_append]; rw [wJ h]
theorem qn {x : κ} : ∀ {l : List (κ × α)}, cW l x = false -> fu l x = l.length
 | [], _ => rfl
 | p :: l, h => by
  simp only [cW, fu] at h ⊢
  cases hx : x == p.1 with
  | true => rw [hx] at h; simp at h
  | false => rw [hx] at h; simp only [cond_false, List.length_cons]; rw [qn h]
variable {P : Program} {H : List Blk} {t kt e : TypeId} {b : Nat} {K : κ -> Value} {f : α -> AV} {l : List (κ × α)} {x : κ} {A : AV}
theorem zh {z : α} (hK : th K) (hu : P.underlying t = some (.map kt e)) (hk : dV P kt (K x) = true) (hz : oD P e = some (f z)) (hb : H[b]? = some (.map (l.map (mpK K f)))) (hA : toV A = some (K x)) :
  bc.ofP (dj P H t (.mp b) A false) = some (.pure (f (getM z l x))) := by
 simp only [dj, hu, fO, hb, hk, hz, hA, mL hK (z := z)]
 cases h : cW l x with
 | true => rfl
 | false => rw [oI h]; rfl
theorem wY {z : α} (hK : th K) (hu : P.underlying t = some (.map kt e)) (hk : dV P kt (K x) = true) (hz : oD P e = some (f z)) (hb : H[b]? = some (.map (l.map (mpK K f)))) (hA : toV A = some (K x)) :
  bc.ofP (dj P H t (.mp b) A true) = some (.pure (.tup [f (getM z l x), .at (.bool (cW l x))])) := by
 simp only [dj, hu, fO, hb, hk, hz, hA, mL hK (z := z)]
 cases h : cW l x with
 | true => rfl
 | false => rw [oI h]; rfl
theorem AY {v : α} (hK : th K) (hu : P.underlying t = some (.map kt e)) (hk : dV P kt (K x) = true) (hb : H[b]? = some (.map (l.map (mpK K f)))) (hA : toV A = some (K x)) :
  fA P H t (.mp b) A (f v) = some (.eff .unk [(b, .map ((dT l x v).map (mpK K f)))]) := by
 simp only [fA, hu, fO, hb, hk, hA, mL hK (z := v)]
 cases h : cW l x with
 | true => simp only [cond_true, Nat.zero_add]; rw [wH h]
 | false => simp only [cond_false]; rw [wJ h]
end
theorem Dt (k : IntKind) : th (fun x : Int => .int k x) := fun x y => by
 have hk : IntKind.nk k k = true := by cases k <;> rfl
 simp only [kEq, hk]
section
variable {P : Program} {H : List Blk} {t kt e : TypeId} {b : Nat} {k : IntKind} {α : Type} {f : α -> AV} {l : List (Int × α)} {x : Int}
theorem Ar {z : α} (hu : P.underlying t = some (.map kt e)) (hk : dV P kt (.int k x) = true) (hz : oD P e = some (f z)) (hb : H[b]? = some (.map (l.map (mpc k f)))) :
  bc.ofP (dj P H t (.mp b) (.at (.int k x)) true) = some (.pure (.tup [f (getM z l x), .at (.bool (cW l x))])) := wY (Dt k) hu hk hz hb rfl
theorem C6 {v : α} (hu : P.underlying t = some (.map kt e)) (hk : dV P kt (.int k x) = true) (hb : H[b]? = some (.map (l.map (mpc k f)))) :
  fA P H t (.mp b) (.at (.int k x)) (f v) = some (.eff .unk [(b, .map ((dT l x v).map (mpc k f)))]) := AY (Dt k) hu hk hb rfl
end
theorem dP {κ α : Type} {K : κ -> Value} {f : α -> AV} (hf : ∀ a, jh (f a) = []) : ∀ l : List (κ × α), j5 (l.map (mpK K f)) = []
 | [] => rfl
 | p :: l => by
  simp only [List.map_cons, mpK, j5, hf]
  exact dP hf l
theorem zJ {α : Type} {k : IntKind} {f : α -> AV} (hf : ∀ a, jh (f a) = []) (l : List (Int × α)) : j5 (l.map (mpc k f)) = [] := dP (K := fun x => .int k x) hf l
theorem pKM {H : List Blk} {b : Nat} {l : List (Nat × Bool)} {κ α : Type} (K : κ -> Value) (f : α -> AV) (hf : ∀ x, jh (f x) = []) (e : List (κ × α)) (rest : gu H l) (hb : H[b]? = some (.map (e.map (mpK K f))) := by kernel_rfl) : gu H ((b, false) :: l) :=
 ⟨by rw [hb]; exact dP hf e, rest⟩
theorem pKm {H : List Blk} {b : Nat} {l : List (Nat × Bool)} {α : Type} {k : IntKind} (f : α -> AV) (hf : ∀ x, jh (f x) = []) (e : List (Int × α)) (rest : gu H l) (hb : H[b]? = some (.map (e.map (mpc k f))) := by kernel_rfl) : gu H ((b, false) :: l) :=
 ⟨by rw [hb]; exact zJ hf e, rest⟩
end Go.Eng

