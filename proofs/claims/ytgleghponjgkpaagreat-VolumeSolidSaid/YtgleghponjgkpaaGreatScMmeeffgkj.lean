import Derived.Test.YtgleghponjgkpaaGreatSc11phkkjgan
set_option linter.all false
namespace Go.Eng
open Go Go.RowKit
variable [Dr]
def iA (k : IntKind) (v : Int) : AV := .at (.int k v)
def bA (v : Bool) : AV := .at (.bool v)
def mpK {κ α : Type} (K : κ → Value) (f : α → AV) (p : κ × α) : Value × AV := (K p.1, f p.2)
section
variable {κ : Type} [DecidableEq κ] {α : Type}
def getM (z : α) : List (κ × α) → κ → α
 | [], _ => z
 | p :: l, x => bif x == p.1 then p.2 else getM z l x
def hasM : List (κ × α) → κ → Bool
 | [], _ => false
 | p :: l, x => bif x == p.1 then true else hasM l x
def posM : List (κ × α) → κ → Nat
 | [], _ => 0
 | p :: l, x => bif x == p.1 then 0 else posM l x + 1
def putM : List (κ × α) → κ → α → List (κ × α)
 | [], x, v => [(x, v)]
 | p :: l, x, v => bif x == p.1 then (x, v) :: l else p :: putM l x v
def KeyK (K : κ → Value) : Prop := ∀ x y, kEq (K x) (K y) = some (x == y)
theorem findM_mpK {K : κ → Value} (hK : KeyK K) {f : α → AV} {z : α} {x : κ} : ∀ (l : List (κ × α)) (i : Nat), findM (K x) (l.map (mpK K f)) i = some (bif hasM l x then some (i + posM l x, f (getM z l x)) else none)
 | [], _ => rfl
 | p :: l, i => by
  simp only [List.map_cons, mpK, findM, hK x p.1, hasM, posM, getM]
  cases h : x == p.1 with
  | true => rfl
  | false =>
   simp only [cond_false]
   have := findM_mpK hK (f := f) (z := z) (x := x) l (i + 1)
   rw [this]
   cases hasM l x <;> simp only [cond_true, cond_false]
   rw [show i + 1 + posM l x = i + (posM l x + 1) by omega]
theorem get_not {z : α} {x : κ} : ∀ {l : List (κ × α)}, hasM l x = false → getM z l x = z
 | [], _ => rfl
 | p :: l, h => by
  simp only [hasM, getM] at h ⊢
  cases hx : x == p.1 with
  | true => rw [hx] at h; simp at h
  | false => rw [hx] at h; exact get_not h
theorem put_has {K : κ → Value} {f : α → AV} {x : κ} {v : α} : ∀ {l : List (κ × α)}, hasM l x = true → (l.map (mpK K f)).set (posM l x) (K x, f v) = (putM l x v).map (mpK K f)
 | [], h => by simp [hasM] at h
 | p :: l, h => by
  simp only [hasM, posM, putM] at h ⊢
  cases hx : x == p.1 with
  | true => rfl
  | false => rw [hx] at h; simp only [cond_false, List.map_cons, List.set_cons_succ]; rw [put_has h]
theorem put_not {K : κ → Value} {f : α → AV} {x : κ} {v : α} : ∀ {l : List (κ × α)}, hasM l x = false → l.map (mpK K f) ++ [(K x, f v)] = (putM l x v).map (mpK K f)
 | [], _ => rfl
 | p :: l, h => by
  simp only [hasM, putM] at h ⊢
  cases hx : x == p.1 with
  | true => rw [hx] at h; simp at h
  | false => rw [hx] at h; simp only [cond_false, List.map_cons, List.cons_append]; rw [put_not h]
theorem pos_not {x : κ} : ∀ {l : List (κ × α)}, hasM l x = false → posM l x = l.length
 | [], _ => rfl
 | p :: l, h => by
  simp only [hasM, posM] at h ⊢
  cases hx : x == p.1 with
  | true => rw [hx] at h; simp at h
  | false => rw [hx] at h; simp only [cond_false, List.length_cons]; rw [pos_not h]
variable {P : Program} {H : List Blk} {t kt e : TypeId} {b : Nat} {K : κ → Value} {f : α → AV} {l : List (κ × α)} {x : κ} {A : AV}
theorem look_k {z : α} (hK : KeyK K) (hu : P.underlying t = some (.map kt e)) (hk : simpleKey P kt (K x) = true) (hz : zeroM P e = some (f z)) (hb : H[b]? = some (.map (l.map (mpK K f)))) (hA : toV A = some (K x)) :
  ORes.ofP (lookupA P H t (.mp b) A false) = some (.pure (f (getM z l x))) := by
 simp only [lookupA, hu, mapAt, hb, hk, hz, hA, findM_mpK hK (z := z)]
 cases h : hasM l x with
 | true => rfl
 | false => rw [get_not h]; rfl
theorem hasM_put {v : α} : ∀ {l : List (κ × α)}, hasM l x = true ∨ hasM l x = false → hasM (putM l x v) x = true
 | [], _ => by simp [putM, hasM]
 | p :: l, h => by
  simp only [hasM, putM] at h ⊢
  cases hx : x == p.1 with
  | true => simp [hasM]
  | false =>
   simp only [cond_false, hasM, hx]
   exact hasM_put (by cases hasM l x <;> simp)
theorem posM_put {v : α} : ∀ {l : List (κ × α)}, posM (putM l x v) x = posM l x
 | [] => by simp [putM, posM]
 | p :: l => by
  simp only [putM, posM]
  cases hx : x == p.1 with
  | true => simp [posM]
  | false => simp only [cond_false, posM, hx]; rw [posM_put]
theorem putM_put {v u : α} : ∀ {l : List (κ × α)}, putM (putM l x u) x v = putM l x v
 | [] => by simp [putM]
 | p :: l => by
  simp only [putM]
  cases hx : x == p.1 with
  | true => simp [putM]
  | false => simp only [cond_false, putM, hx]; rw [putM_put]
theorem at_pos {z : α} : ∀ {l : List (κ × α)}, hasM l x = true → (l.map (mpK K f))[posM l x]? = some (K x, f (getM z l x))
 | [], h => by simp [hasM] at h
 | p :: l, h => by
  simp only [hasM, posM, getM] at h ⊢
  cases hx : x == p.1 with
  | true => simp only [cond_true, List.map_cons, List.getElem?_cons_zero]; rw [eq_of_beq hx]; rfl
  | false => rw [hx] at h; simp only [cond_false, List.map_cons, List.getElem?_cons_succ]; exact at_pos h
theorem ent_k {z : α} (hK : KeyK K) (hu : P.underlying t = some (.map kt e)) (hk : simpleKey P kt (K x) = true) (hz : zeroM P e = some (f z)) (hb : H[b]? = some (.map (l.map (mpK K f)))) (hA : toV A = some (K x)) :
  opEntry P H t (.mp b) A = some (.eff (.tup [f (getM z l x), .at (.int .i64 ((posM l x : Nat) : Int))]) [(b, .map ((putM l x (getM z l x)).map (mpK K f)))]) := by
 simp only [opEntry, hu, mapAt, hb, hk, hz, hA, findM_mpK hK (z := z)]
 cases h : hasM l x with
 | true => simp only [cond_true, Nat.zero_add]; rw [put_has h]
 | false => simp only [cond_false]; rw [get_not h, put_not h, pos_not h, List.length_map]
theorem est_k {z v : α} (hb : H[b]? = some (.map ((putM l x (getM z l x)).map (mpK K f)))) :
  opEntryStore H (.mp b) (.at (.int .i64 ((posM l x : Nat) : Int))) (f v) = some (.eff .unk [(b, .map ((putM l x v).map (mpK K f)))]) := by
 have h1 : hasM (putM l x (getM z l x)) x = true := hasM_put (by cases hasM l x <;> simp)
 have h2 := at_pos (K := K) (f := f) (z := z) h1
 rw [posM_put] at h2
 have h3 := put_has (K := K) (f := f) (v := v) h1
 rw [posM_put, putM_put] at h3
 have h0 : decide ((0 : Int) ≤ ((posM l x : Nat) : Int)) = true := decide_eq_true (by omega)
 simp only [opEntryStore, mapAt, hb, intA, h0, Int.toNat_natCast, h2, h3]
end
section
variable {P : Program} {H : List Blk} {t kt e : TypeId} {b : Nat} {k : IntKind} {α : Type} {f : α → AV} {l : List (Int × α)} {x : Int}
end
theorem ids_mpK {κ α : Type} {K : κ → Value} {f : α → AV} (hf : ∀ a, idsOf (f a) = []) : ∀ l : List (κ × α), idsOfM (l.map (mpK K f)) = []
 | [] => rfl
 | p :: l => by
  simp only [List.map_cons, mpK, idsOfM, hf]
  exact ids_mpK hf l
theorem pKM {H : List Blk} {b : Nat} {l : List (Nat × Bool)} {κ α : Type} (K : κ → Value) (f : α → AV) (hf : ∀ x, idsOf (f x) = []) (e : List (κ × α)) (rest : pureK H l) (hb : H[b]? = some (.map (e.map (mpK K f))) := by kernel_rfl) : pureK H ((b, false) :: l) :=
 ⟨by rw [hb]; exact ids_mpK hf e, rest⟩
end Go.Eng

