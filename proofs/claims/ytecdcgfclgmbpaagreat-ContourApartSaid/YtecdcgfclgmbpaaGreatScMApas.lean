import Derived.Test.YtecdcgfclgmbpaaGreatSc11Apas
set_option linter.all false
namespace Go.Eng
open Go Go.RowKit
variable [Dr]
def bA (v : Bool) : AV := .at (.bool v)
def mpK {κ α : Type} (K : κ -> Value) (f : α -> AV) (p : κ × α) : Value × AV := (K p.1, f p.2)
section
variable {κ : Type} [DecidableEq κ] {α : Type}
def getM (z : α) : List (κ × α) -> κ -> α
 | [], _ => z
 | p :: l, x => bif x == p.1 then p.2 else getM z l x
def cD : List (κ × α) -> κ -> Bool
 | [], _ => false
 | p :: l, x => bif x == p.1 then true else cD l x
def AO : List (κ × α) -> κ -> Nat
 | [], _ => 0
 | p :: l, x => bif x == p.1 then 0 else AO l x + 1
def eJ : List (κ × α) -> κ -> α -> List (κ × α)
 | [], x, v => [(x, v)]
 | p :: l, x, v => bif x == p.1 then (x, v) :: l else p :: eJ l x v
def Dn (K : κ -> Value) : Prop := ∀ x y, kEq (K x) (K y) = some (x == y)
theorem qS {K : κ -> Value} (j : Dn K) {f : α -> AV} {z : α} {x : κ} : ∀ (l : List (κ × α)) (i : Nat), jX (K x) (l.map (mpK K f)) i = some (bif cD l x then some (i + AO l x, f (getM z l x)) else none)
 | [], _ => rfl
 | p :: l, i => by
  simp only [List.map_cons, mpK, jX, j x p.1, cD, AO, getM]
  cases h : x == p.1 with
  | true => rfl
  | false =>
   simp only [cond_false]
   have := qS j (f := f) (z := z) (x := x) l (i + 1)
   rw [this]
   cases cD l x <;> simp only [cond_true, cond_false]
   rw [show i + 1 + AO l x = i + (AO l x + 1) by omega]
theorem xX {z : α} {x : κ} : ∀ {l : List (κ × α)}, cD l x = false -> getM z l x = z
 | [], _ => rfl
 | p :: l, h => by
  simp only [cD, getM] at h ⊢
  cases hx : x == p.1 with
  | true => rw [hx] at h; simp at h
  | false => rw [hx] at h; exact xX h
theorem B0 {K : κ -> Value} {f : α -> AV} {x : κ} {v : α} : ∀ {l : List (κ × α)}, cD l x = true -> (l.map (mpK K f)).set (AO l x) (K x, f v) = (eJ l x v).map (mpK K f)
 | [], h => by simp [cD] at h
 | p :: l, h => by
  simp only [cD, AO, eJ] at h ⊢
  cases hx : x == p.1 with
  | true => rfl
  | false => rw [hx] at h; simp only [cond_false, List.map_cons, List.set_cons_succ]; rw [B0 h]
theorem BM {K : κ -> Value} {f : α -> AV} {x : κ} {v : α} : ∀ {l : List (κ × α)}, cD l x = false -> l.map (mpK K f) ++ [(K x, f v)] = (eJ l x v).map (mpK K f)
 | [], _ => rfl
 | p :: l, h => by
  simp only [cD, eJ] at h ⊢
  cases hx : x == p.1 with
  | true => rw [hx] at h; simp at h
  | false => rw [hx] at h; simp only [cond_false, List.map_cons, List.cons_append]; rw [BM h]
variable {P : Program} {H : List Blk} {t kt e : TypeId} {b : Nat} {K : κ -> Value} {f : α -> AV} {l : List (κ × α)} {x : κ} {A : AV}
theorem Bc {z : α} (j : Dn K) (hu : P.underlying t = some (.map kt e)) (m : iI P kt (K x) = true) (q : xg P e = some (f z)) (hb : H[b]? = some (.map (l.map (mpK K f)))) (C : toV A = some (K x)) :
  bs.ofP (eN P H t (.mp b) A false) = some (.pure (f (getM z l x))) := by
 simp only [eN, hu, jk, hb, m, q, C, qS j (z := z)]
 cases h : cD l x with
 | true => rfl
 | false => rw [xX h]; rfl
theorem E8 {z : α} (j : Dn K) (hu : P.underlying t = some (.map kt e)) (m : iI P kt (K x) = true) (q : xg P e = some (f z)) (hb : H[b]? = some (.map (l.map (mpK K f)))) (C : toV A = some (K x)) :
  bs.ofP (eN P H t (.mp b) A true) = some (.pure (.tup [f (getM z l x), .at (.bool (cD l x))])) := by
 simp only [eN, hu, jk, hb, m, q, C, qS j (z := z)]
 cases h : cD l x with
 | true => rfl
 | false => rw [xX h]; rfl
theorem Dd {v : α} (j : Dn K) (hu : P.underlying t = some (.map kt e)) (m : iI P kt (K x) = true) (hb : H[b]? = some (.map (l.map (mpK K f)))) (q : toV A = some (K x)) :
  gO P H t (.mp b) A (f v) = some (.eff .unk [(b, .map ((eJ l x v).map (mpK K f)))]) := by
 simp only [gO, hu, jk, hb, m, q, qS j (z := v)]
 cases h : cD l x with
 | true => simp only [cond_true, Nat.zero_add]; rw [B0 h]
 | false => simp only [cond_false]; rw [BM h]
end
def gA {α : Type} (c : α -> List AV) (x : α) : AV := .agg (c x)
section
variable {P : Program} {H : List Blk} {t kt e : TypeId} {b : Nat} {k : IntKind} {α : Type} {f : α -> AV} {l : List (Int × α)} {x : Int}
end
theorem fO {κ α : Type} {K : κ -> Value} {f : α -> AV} (j : ∀ a, mf (f a) = []) : ∀ l : List (κ × α), rT (l.map (mpK K f)) = []
 | [] => rfl
 | p :: l => by
  simp only [List.map_cons, mpK, rT, j]
  exact fO j l
theorem pKM {H : List Blk} {b : Nat} {l : List (Nat × Bool)} {κ α : Type} (K : κ -> Value) (f : α -> AV) (j : ∀ x, mf (f x) = []) (e : List (κ × α)) (rest : kh H l) (hb : H[b]? = some (.map (e.map (mpK K f))) := by kernel_rfl) : kh H ((b, false) :: l) :=
 ⟨by rw [hb]; exact fO j e, rest⟩
mutual
def pR : AV -> List Nat
 | .hp b _ => [b]
 | .agg cs => nT cs
 | .tup cs => nT cs
 | .fn _ j cs => nT j ++ nT cs
 | _ => []
def nT : List AV -> List Nat
 | [] => []
 | c :: cs => pR c ++ nT cs
end
mutual
theorem Rv.hps {w : World} {mu : Nat -> Prop} {π : List (Option PB)} {d : Nat} : (A : AV) -> (v : Value) -> Rv w mu π A v -> d ∈ pR A -> ∃ p, π[d]? = some (some p)
 | .hp b off, v, h, hd => by
  simp only [pR, List.mem_singleton] at hd
  subst hd
  obtain ⟨p, h1, _⟩ := h
  exact ⟨p, h1⟩
 | .agg cs, v, h, hd => by obtain ⟨vs, _, h2⟩ := h; exact RvL.hps cs _ h2 (by simpa only [pR] using hd)
 | .tup cs, v, h, hd => by obtain ⟨vs, _, h2⟩ := h; exact RvL.hps cs _ h2 (by simpa only [pR] using hd)
 | .fn f j cs, v, h, hd => by
  obtain ⟨a, c, _, h2, m⟩ := h
  simp only [pR, List.mem_append] at hd
  rcases hd with hd | hd
  · exact RvL.hps j _ h2 hd
  · exact RvL.hps cs _ m hd
 | .unk, _, _, hd => by simp [pR] at hd
 | .at _, _, _, hd => by simp [pR] at hd
 | .sl _ _ _, _, _, hd => by simp [pR] at hd
 | .pp _ _, _, _, hd => by simp [pR] at hd
 | .hs _ _ _ _, _, _, hd => by simp [pR] at hd
 | .mp _, _, _, hd => by simp [pR] at hd
theorem RvL.hps {w : World} {mu : Nat -> Prop} {π : List (Option PB)} {d : Nat} : (A : List AV) -> (v : List Value) -> RvL w mu π A v -> d ∈ nT A -> ∃ p, π[d]? = some (some p)
 | [], _, _, hd => by simp [nT] at hd
 | c :: cs, _, h, hd => by
  obtain ⟨v, vs, _, h1, h2⟩ := h
  simp only [nT, List.mem_append] at hd
  rcases hd with hd | hd
  · exact Rv.hps c v h1 hd
  · exact RvL.hps cs vs h2 hd
end
theorem F9 {H : List Blk} {i d : Nat} {x : Blk} (hd : d < H.length) (hi : d ≠ i) : (upd H i x)[d]? = H[d]? := by
 unfold upd
 split
 · rw [List.getElem?_set_ne (fun e => hi e.symm)]
 · rw [List.getElem?_append_left hd]
theorem uE {d : Nat} {x : Blk} {z : List (Nat × Blk)} : ∀ (m : List (Nat × Blk)) (H : List Blk), H[d]? = some x -> (∀ q ∈ m, q.1 ≠ d) -> aM H (m ++ (d, x) :: z) = aM H (m ++ z)
 | [], H, h, _ => by
  have C := (List.getElem?_eq_some_iff.1 h).1
  simp only [List.nil_append, aM]
  congr 1
  unfold upd
  rw [if_pos C]
  apply List.ext_getElem?
  intro j
  rw [List.getElem?_set]
  split
  · rename_i e; subst e; simp [C, h]; exact ((List.getElem?_eq_some_iff.1 h).2).symm
  · rfl
 | (i, y) :: m, H, h, D => by
  have C := (List.getElem?_eq_some_iff.1 h).1
  have hi : d ≠ i := fun e => D (i, y) (by simp) e.symm
  simp only [List.cons_append, aM]
  exact uE m _ (by rw [F9 C hi]; exact h) fun q hm => D q (by simp [hm])
theorem jb {P : Program} {f : FuncId} {args : List AV} {H : List Blk} {v : AV} {ws : List (Nat × Blk)} {rd : List Nat} {n : Nat} (d : Nat) (x : Blk) (m z : List (Nat × Blk)) (h : gz P f args H (.loc v ws rd n))
  (hw : ws = m ++ (d, x) :: z := by kernel_rfl) (J : H[d]? = some x := by kernel_rfl) (ha : (nT args).contains d = true := by kernel_rfl) (N : rd.contains d = true := by kernel_rfl)
  (h1 : (m ++ z).all (fun q => !Nat.beq q.1 d) = true := by kernel_rfl) : gz P f args H (.loc v (m ++ z) rd n) := by
 subst hw
 have O : ∀ q ∈ m ++ z, q.1 ≠ d := fun q hm e => by
  have := List.all_eq_true.1 h1 q hm
  rw [e] at this
  simp at this
 have T := (List.getElem?_eq_some_iff.1 J).1
 intro H' hlen D out B w π vs U hπ C
 have I : H'[d]? = some x := by rw [D d (by simpa using N) T]; exact J
 have e : aM H' (m ++ (d, x) :: z) = aM H' (m ++ z) := uE m H' I fun q hm => O q (by simp [hm])
 have := h H' hlen D out B w π vs U hπ C
 rw [e] at this
 refine this.mono ?_
 rintro ex w' ⟨u, π', rfl, g1, Y, g3, g4⟩
 refine ⟨u, π', rfl, g1, Y, g3, fun j M => ?_⟩
 by_cases E : j = d
 · subst E
   obtain ⟨p, hp⟩ := RvL.hps args vs C (by simpa using ha)
   rw [hp]; exact g1.pre _ _ hp
 · refine g4 j fun b hb => ?_
   simp only [List.mem_append, List.mem_cons, Prod.mk.injEq] at hb
   rcases hb with hb | ⟨hb, _⟩ | hb
   · exact M b (by simp [hb])
   · exact E hb
   · exact M b (by simp [hb])
end Go.Eng

