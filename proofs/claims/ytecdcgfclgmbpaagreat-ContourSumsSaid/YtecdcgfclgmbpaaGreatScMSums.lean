import Derived.Test.YtecdcgfclgmbpaaGreatSc11Sums
set_option linter.all false
namespace Go.Eng
open Go Go.RowKit
variable [Dr]
def bA (v : Bool) : AV := .at (.bool v)
def mpK {κ α : Type} (K : κ -> Value) (f : α -> AV) (p : κ × α) : Value × AV := (K p.1, f p.2)
section
variable {κ : Type} [DecidableEq κ] {α : Type}
def getM (z : α) : List (κ × α) -> κ -> α
 | [], _ => z
 | p :: l, x => bif x == p.1 then p.2 else getM z l x
def qk : List (κ × α) -> κ -> Bool
 | [], _ => false
 | p :: l, x => bif x == p.1 then true else qk l x
def zf : List (κ × α) -> κ -> Nat
 | [], _ => 0
 | p :: l, x => bif x == p.1 then 0 else zf l x + 1
def kq : List (κ × α) -> κ -> α -> List (κ × α)
 | [], x, v => [(x, v)]
 | p :: l, x, v => bif x == p.1 then (x, v) :: l else p :: kq l x v
def BB (K : κ -> Value) : Prop := ∀ x y, kEq (K x) (K y) = some (x == y)
theorem rD {K : κ -> Value} (hK : BB K) {f : α -> AV} {z : α} {x : κ} : ∀ (l : List (κ × α)) (i : Nat), lV (K x) (l.map (mpK K f)) i = some (bif qk l x then some (i + zf l x, f (getM z l x)) else none)
 | [], _ => rfl
 | p :: l, i => by
  simp only [List.map_cons, mpK, lV, hK x p.1, qk, zf, getM]
  cases h : x == p.1 with
  | true => rfl
  | false =>
   simp only [cond_false]
   have := rD hK (f := f) (z := z) (x := x) l (i + 1)
   rw [this]
   cases qk l x <;> simp only [cond_true, cond_false]
   rw [show i + 1 + zf l x = i + (zf l x + 1) by omega]
theorem xB {z : α} {x : κ} : ∀ {l : List (κ × α)}, qk l x = false -> getM z l x = z
 | [], _ => rfl
 | p :: l, h => by
  simp only [qk, getM] at h ⊢
  cases hx : x == p.1 with
  | true => rw [hx] at h; simp at h
  | false => rw [hx] at h; exact xB h
theorem An {K : κ -> Value} {f : α -> AV} {x : κ} {v : α} : ∀ {l : List (κ × α)}, qk l x = true -> (l.map (mpK K f)).set (zf l x) (K x, f v) = (kq l x v).map (mpK K f)
 | [], h => by simp [qk] at h
 | p :: l, h => by
  simp only [qk, zf, kq] at h ⊢
  cases hx : x == p.1 with
  | true => rfl
  | false => rw [hx] at h; simp only [cond_false, List.map_cons, List.set_cons_succ]; rw [An h]
theorem z7 {K : κ -> Value} {f : α -> AV} {x : κ} {v : α} : ∀ {l : List (κ × α)}, qk l x = false -> l.map (mpK K f) ++ [(K x, f v)] = (kq l x v).map (mpK K f)
 | [], _ => rfl
 | p :: l, h => by
  simp only [qk, kq] at h ⊢
  cases hx : x == p.1 with
  | true => rw [hx] at h; simp at h
  | false => rw [hx] at h; simp only [cond_false, List.map_cons, List.cons_append]; rw [z7 h]
variable {P : Program} {H : List Blk} {t kt e : TypeId} {b : Nat} {K : κ -> Value} {f : α -> AV} {l : List (κ × α)} {x : κ} {A : AV}
theorem zL {z : α} (hK : BB K) (hu : P.underlying t = some (.map kt e)) (hk : jB P kt (K x) = true) (hz : wY P e = some (f z)) (hb : H[b]? = some (.map (l.map (mpK K f)))) (hA : toV A = some (K x)) :
  bu.ofP (fy P H t (.mp b) A false) = some (.pure (f (getM z l x))) := by
 simp only [fy, hu, kp, hb, hk, hz, hA, rD hK (z := z)]
 cases h : qk l x with
 | true => rfl
 | false => rw [xB h]; rfl
theorem Dc {z : α} (hK : BB K) (hu : P.underlying t = some (.map kt e)) (hk : jB P kt (K x) = true) (hz : wY P e = some (f z)) (hb : H[b]? = some (.map (l.map (mpK K f)))) (hA : toV A = some (K x)) :
  bu.ofP (fy P H t (.mp b) A true) = some (.pure (.tup [f (getM z l x), .at (.bool (qk l x))])) := by
 simp only [fy, hu, kp, hb, hk, hz, hA, rD hK (z := z)]
 cases h : qk l x with
 | true => rfl
 | false => rw [xB h]; rfl
theorem A8 {v : α} (hK : BB K) (hu : P.underlying t = some (.map kt e)) (hk : jB P kt (K x) = true) (hb : H[b]? = some (.map (l.map (mpK K f)))) (hA : toV A = some (K x)) :
  iP P H t (.mp b) A (f v) = some (.eff .unk [(b, .map ((kq l x v).map (mpK K f)))]) := by
 simp only [iP, hu, kp, hb, hk, hA, rD hK (z := v)]
 cases h : qk l x with
 | true => simp only [cond_true, Nat.zero_add]; rw [An h]
 | false => simp only [cond_false]; rw [z7 h]
end
def gA {α : Type} (c : α -> List AV) (x : α) : AV := .agg (c x)
section
variable {P : Program} {H : List Blk} {t kt e : TypeId} {b : Nat} {k : IntKind} {α : Type} {f : α -> AV} {l : List (Int × α)} {x : Int}
end
theorem gO {κ α : Type} {K : κ -> Value} {f : α -> AV} (hf : ∀ a, pq (f a) = []) : ∀ l : List (κ × α), sz (l.map (mpK K f)) = []
 | [] => rfl
 | p :: l => by
  simp only [List.map_cons, mpK, sz, hf]
  exact gO hf l
theorem pKM {H : List Blk} {b : Nat} {l : List (Nat × Bool)} {κ α : Type} (K : κ -> Value) (f : α -> AV) (hf : ∀ x, pq (f x) = []) (e : List (κ × α)) (rest : mB H l) (hb : H[b]? = some (.map (e.map (mpK K f))) := by kernel_rfl) : mB H ((b, false) :: l) :=
 ⟨by rw [hb]; exact gO hf e, rest⟩
mutual
def qb : AV -> List Nat
 | .hp b _ => [b]
 | .agg cs => pC cs
 | .tup cs => pC cs
 | .fn _ fs cs => pC fs ++ pC cs
 | _ => []
def pC : List AV -> List Nat
 | [] => []
 | c :: cs => qb c ++ pC cs
end
mutual
theorem Rv.hps {w : World} {mu : Nat -> Prop} {π : List (Option PB)} {d : Nat} : (A : AV) -> (v : Value) -> Rv w mu π A v -> d ∈ qb A -> ∃ p, π[d]? = some (some p)
 | .hp b off, v, h, hd => by
  simp only [qb, List.mem_singleton] at hd
  subst hd
  obtain ⟨p, h1, _⟩ := h
  exact ⟨p, h1⟩
 | .agg cs, v, h, hd => by obtain ⟨vs, _, h2⟩ := h; exact RvL.hps cs _ h2 (by simpa only [qb] using hd)
 | .tup cs, v, h, hd => by obtain ⟨vs, _, h2⟩ := h; exact RvL.hps cs _ h2 (by simpa only [qb] using hd)
 | .fn f fs cs, v, h, hd => by
  obtain ⟨a, c, _, h2, h3⟩ := h
  simp only [qb, List.mem_append] at hd
  rcases hd with hd | hd
  · exact RvL.hps fs _ h2 hd
  · exact RvL.hps cs _ h3 hd
 | .unk, _, _, hd => by simp [qb] at hd
 | .at _, _, _, hd => by simp [qb] at hd
 | .sl _ _ _, _, _, hd => by simp [qb] at hd
 | .pp _ _, _, _, hd => by simp [qb] at hd
 | .hs _ _ _ _, _, _, hd => by simp [qb] at hd
 | .mp _, _, _, hd => by simp [qb] at hd
theorem RvL.hps {w : World} {mu : Nat -> Prop} {π : List (Option PB)} {d : Nat} : (A : List AV) -> (v : List Value) -> RvL w mu π A v -> d ∈ pC A -> ∃ p, π[d]? = some (some p)
 | [], _, _, hd => by simp [pC] at hd
 | c :: cs, _, h, hd => by
  obtain ⟨v, vs, _, h1, h2⟩ := h
  simp only [pC, List.mem_append] at hd
  rcases hd with hd | hd
  · exact Rv.hps c v h1 hd
  · exact RvL.hps cs vs h2 hd
end
theorem DX {H : List Blk} {i d : Nat} {x : Blk} (hd : d < H.length) (hi : d ≠ i) : (upd H i x)[d]? = H[d]? := by
 unfold upd
 split
 · rw [List.getElem?_set_ne (fun e => hi e.symm)]
 · rw [List.getElem?_append_left hd]
theorem uS {d : Nat} {x : Blk} {ws2 : List (Nat × Blk)} : ∀ (ws1 : List (Nat × Blk)) (H : List Blk), H[d]? = some x -> (∀ q ∈ ws1, q.1 ≠ d) -> aP H (ws1 ++ (d, x) :: ws2) = aP H (ws1 ++ ws2)
 | [], H, h, _ => by
  have hl := (List.getElem?_eq_some_iff.1 h).1
  simp only [List.nil_append, aP]
  congr 1
  unfold upd
  rw [if_pos hl]
  apply List.ext_getElem?
  intro j
  rw [List.getElem?_set]
  split
  · rename_i e; subst e; simp [hl, h]; exact ((List.getElem?_eq_some_iff.1 h).2).symm
  · rfl
 | (i, y) :: ws1, H, h, hq => by
  have hl := (List.getElem?_eq_some_iff.1 h).1
  have hi : d ≠ i := fun e => hq (i, y) (by simp) e.symm
  simp only [List.cons_append, aP]
  exact uS ws1 _ (by rw [DX hl hi]; exact h) fun q hm => hq q (by simp [hm])
theorem kR {P : Program} {f : FuncId} {args : List AV} {H : List Blk} {v : AV} {ws : List (Nat × Blk)} {rd : List Nat} {n : Nat} (d : Nat) (x : Blk) (ws1 ws2 : List (Nat × Blk)) (h : j2 P f args H (.loc v ws rd n))
  (hw : ws = ws1 ++ (d, x) :: ws2 := by kernel_rfl) (hH : H[d]? = some x := by kernel_rfl) (ha : (pC args).contains d = true := by kernel_rfl) (hr : rd.contains d = true := by kernel_rfl)
  (h1 : (ws1 ++ ws2).all (fun q => !Nat.beq q.1 d) = true := by kernel_rfl) : j2 P f args H (.loc v (ws1 ++ ws2) rd n) := by
 subst hw
 have hq : ∀ q ∈ ws1 ++ ws2, q.1 ≠ d := fun q hm e => by
  have := List.all_eq_true.1 h1 q hm
  rw [e] at this
  simp at this
 have hl := (List.getElem?_eq_some_iff.1 hH).1
 intro H' hlen hag out B w π vs hI hπ hargs
 have hd' : H'[d]? = some x := by rw [hag d (by simpa using hr) hl]; exact hH
 have e : aP H' (ws1 ++ (d, x) :: ws2) = aP H' (ws1 ++ ws2) := uS ws1 H' hd' fun q hm => hq q (by simp [hm])
 have := h H' hlen hag out B w π vs hI hπ hargs
 rw [e] at this
 refine this.mono ?_
 rintro ex w' ⟨u, π', rfl, g1, g2, g3, g4⟩
 refine ⟨u, π', rfl, g1, g2, g3, fun j hj => ?_⟩
 by_cases hjd : j = d
 · subst hjd
   obtain ⟨p, hp⟩ := RvL.hps args vs hargs (by simpa using ha)
   rw [hp]; exact g1.pre _ _ hp
 · refine g4 j fun b hb => ?_
   simp only [List.mem_append, List.mem_cons, Prod.mk.injEq] at hb
   rcases hb with hb | ⟨hb, _⟩ | hb
   · exact hj b (by simp [hb])
   · exact hjd hb
   · exact hj b (by simp [hb])
end Go.Eng

