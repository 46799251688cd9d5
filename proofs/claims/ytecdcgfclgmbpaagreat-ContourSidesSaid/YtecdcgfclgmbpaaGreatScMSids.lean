import Derived.Test.YtecdcgfclgmbpaaGreatSc11Sids
set_option linter.all false
namespace Go.Eng
open Go Go.RowKit
variable [Dr]
def bA (v : Bool) : AV := .at (.bool v)
def mpK {κ α : Type} (K : κ -> Value) (f : α -> AV) (p : κ × α) : Value × AV := (K p.1, f p.2)
section
variable {κ : Type} [DecidableEq κ] {α : Type}
def getM (z : α) : List (κ × α) -> κ -> α
 | [], _ => z
 | p :: l, x => bif x == p.1 then p.2 else getM z l x
def dB : List (κ × α) -> κ -> Bool
 | [], _ => false
 | p :: l, x => bif x == p.1 then true else dB l x
def zg : List (κ × α) -> κ -> Nat
 | [], _ => 0
 | p :: l, x => bif x == p.1 then 0 else zg l x + 1
def eE : List (κ × α) -> κ -> α -> List (κ × α)
 | [], x, v => [(x, v)]
 | p :: l, x, v => bif x == p.1 then (x, v) :: l else p :: eE l x v
def B4 (K : κ -> Value) : Prop := ∀ x y, kEq (K x) (K y) = some (x == y)
theorem qu {K : κ -> Value} (hK : B4 K) {f : α -> AV} {z : α} {x : κ} : ∀ (l : List (κ × α)) (i : Nat), jT (K x) (l.map (mpK K f)) i = some (bif dB l x then some (i + zg l x, f (getM z l x)) else none)
 | [], _ => rfl
 | p :: l, i => by
  simp only [List.map_cons, mpK, jT, hK x p.1, dB, zg, getM]
  cases h : x == p.1 with
  | true => rfl
  | false =>
   simp only [cond_false]
   have := qu hK (f := f) (z := z) (x := x) l (i + 1)
   rw [this]
   cases dB l x <;> simp only [cond_true, cond_false]
   rw [show i + 1 + zg l x = i + (zg l x + 1) by omega]
theorem wZ {z : α} {x : κ} : ∀ {l : List (κ × α)}, dB l x = false -> getM z l x = z
 | [], _ => rfl
 | p :: l, h => by
  simp only [dB, getM] at h ⊢
  cases hx : x == p.1 with
  | true => rw [hx] at h; simp at h
  | false => rw [hx] at h; exact wZ h
theorem AG {K : κ -> Value} {f : α -> AV} {x : κ} {v : α} : ∀ {l : List (κ × α)}, dB l x = true -> (l.map (mpK K f)).set (zg l x) (K x, f v) = (eE l x v).map (mpK K f)
 | [], h => by simp [dB] at h
 | p :: l, h => by
  simp only [dB, zg, eE] at h ⊢
  cases hx : x == p.1 with
  | true => rfl
  | false => rw [hx] at h; simp only [cond_false, List.map_cons, List.set_cons_succ]; rw [AG h]
theorem AU {K : κ -> Value} {f : α -> AV} {x : κ} {v : α} : ∀ {l : List (κ × α)}, dB l x = false -> l.map (mpK K f) ++ [(K x, f v)] = (eE l x v).map (mpK K f)
 | [], _ => rfl
 | p :: l, h => by
  simp only [dB, eE] at h ⊢
  cases hx : x == p.1 with
  | true => rw [hx] at h; simp at h
  | false => rw [hx] at h; simp only [cond_false, List.map_cons, List.cons_append]; rw [AU h]
variable {P : Program} {H : List Blk} {t kt e : TypeId} {b : Nat} {K : κ -> Value} {f : α -> AV} {l : List (κ × α)} {x : κ} {A : AV}
theorem zb {z : α} (hK : B4 K) (hu : P.underlying t = some (.map kt e)) (hk : ij P kt (K x) = true) (hz : wJ P e = some (f z)) (hb : H[b]? = some (.map (l.map (mpK K f)))) (hA : toV A = some (K x)) :
  bt.ofP (eN P H t (.mp b) A false) = some (.pure (f (getM z l x))) := by
 simp only [eN, hu, jk, hb, hk, hz, hA, qu hK (z := z)]
 cases h : dB l x with
 | true => rfl
 | false => rw [wZ h]; rfl
theorem Du {z : α} (hK : B4 K) (hu : P.underlying t = some (.map kt e)) (hk : ij P kt (K x) = true) (hz : wJ P e = some (f z)) (hb : H[b]? = some (.map (l.map (mpK K f)))) (hA : toV A = some (K x)) :
  bt.ofP (eN P H t (.mp b) A true) = some (.pure (.tup [f (getM z l x), .at (.bool (dB l x))])) := by
 simp only [eN, hu, jk, hb, hk, hz, hA, qu hK (z := z)]
 cases h : dB l x with
 | true => rfl
 | false => rw [wZ h]; rfl
theorem CY {v : α} (hK : B4 K) (hu : P.underlying t = some (.map kt e)) (hk : ij P kt (K x) = true) (hb : H[b]? = some (.map (l.map (mpK K f)))) (hA : toV A = some (K x)) :
  gu P H t (.mp b) A (f v) = some (.eff .unk [(b, .map ((eE l x v).map (mpK K f)))]) := by
 simp only [gu, hu, jk, hb, hk, hA, qu hK (z := v)]
 cases h : dB l x with
 | true => simp only [cond_true, Nat.zero_add]; rw [AG h]
 | false => simp only [cond_false]; rw [AU h]
end
def gA {α : Type} (c : α -> List AV) (x : α) : AV := .agg (c x)
section
variable {P : Program} {H : List Blk} {t kt e : TypeId} {b : Nat} {k : IntKind} {α : Type} {f : α -> AV} {l : List (Int × α)} {x : Int}
end
theorem fI {κ α : Type} {K : κ -> Value} {f : α -> AV} (hf : ∀ a, nR (f a) = []) : ∀ l : List (κ × α), rI (l.map (mpK K f)) = []
 | [] => rfl
 | p :: l => by
  simp only [List.map_cons, mpK, rI, hf]
  exact fI hf l
theorem pKM {H : List Blk} {b : Nat} {l : List (Nat × Bool)} {κ α : Type} (K : κ -> Value) (f : α -> AV) (hf : ∀ x, nR (f x) = []) (e : List (κ × α)) (rest : lj H l) (hb : H[b]? = some (.map (e.map (mpK K f))) := by kernel_rfl) : lj H ((b, false) :: l) :=
 ⟨by rw [hb]; exact fI hf e, rest⟩
mutual
def po : AV -> List Nat
 | .hp b _ => [b]
 | .agg cs => oM cs
 | .tup cs => oM cs
 | .fn _ fs cs => oM fs ++ oM cs
 | _ => []
def oM : List AV -> List Nat
 | [] => []
 | c :: cs => po c ++ oM cs
end
mutual
theorem Rv.hps {w : World} {mu : Nat -> Prop} {Z : List (Option PB)} {d : Nat} : (A : AV) -> (v : Value) -> Rv w mu Z A v -> d ∈ po A -> ∃ p, Z[d]? = some (some p)
 | .hp b off, v, h, hd => by
  simp only [po, List.mem_singleton] at hd
  subst hd
  obtain ⟨p, h1, _⟩ := h
  exact ⟨p, h1⟩
 | .agg cs, v, h, hd => by obtain ⟨vs, _, h2⟩ := h; exact RvL.hps cs _ h2 (by simpa only [po] using hd)
 | .tup cs, v, h, hd => by obtain ⟨vs, _, h2⟩ := h; exact RvL.hps cs _ h2 (by simpa only [po] using hd)
 | .fn f fs cs, v, h, hd => by
  obtain ⟨a, c, _, h2, h3⟩ := h
  simp only [po, List.mem_append] at hd
  rcases hd with hd | hd
  · exact RvL.hps fs _ h2 hd
  · exact RvL.hps cs _ h3 hd
 | .unk, _, _, hd => by simp [po] at hd
 | .at _, _, _, hd => by simp [po] at hd
 | .sl _ _ _, _, _, hd => by simp [po] at hd
 | .pp _ _, _, _, hd => by simp [po] at hd
 | .hs _ _ _ _, _, _, hd => by simp [po] at hd
 | .mp _, _, _, hd => by simp [po] at hd
theorem RvL.hps {w : World} {mu : Nat -> Prop} {Z : List (Option PB)} {d : Nat} : (A : List AV) -> (v : List Value) -> RvL w mu Z A v -> d ∈ oM A -> ∃ p, Z[d]? = some (some p)
 | [], _, _, hd => by simp [oM] at hd
 | c :: cs, _, h, hd => by
  obtain ⟨v, vs, _, h1, h2⟩ := h
  simp only [oM, List.mem_append] at hd
  rcases hd with hd | hd
  · exact Rv.hps c v h1 hd
  · exact RvL.hps cs vs h2 hd
end
theorem EU {H : List Blk} {i d : Nat} {x : Blk} (hd : d < H.length) (hi : d ≠ i) : (upd H i x)[d]? = H[d]? := by
 unfold upd
 split
 · rw [List.getElem?_set_ne (fun e => hi e.symm)]
 · rw [List.getElem?_append_left hd]
theorem tQ {d : Nat} {x : Blk} {ws2 : List (Nat × Blk)} : ∀ (ws1 : List (Nat × Blk)) (H : List Blk), H[d]? = some x -> (∀ q ∈ ws1, q.1 ≠ d) -> aP H (ws1 ++ (d, x) :: ws2) = aP H (ws1 ++ ws2)
 | [], H, h, _ => by
  have hl := (List.getElem?_eq_some_iff.1 h).1
  simp only [List.nil_append, aP]
  congr 1
  unfold upd
  rw [if_pos hl]
  apply List.ext_getElem?
  intro j
  rw [List.getElem?_set]
  split
  · rename_i e; subst e; simp [hl, h]; exact ((List.getElem?_eq_some_iff.1 h).2).symm
  · rfl
 | (i, y) :: ws1, H, h, hq => by
  have hl := (List.getElem?_eq_some_iff.1 h).1
  have hi : d ≠ i := fun e => hq (i, y) (by simp) e.symm
  simp only [List.cons_append, aP]
  exact tQ ws1 _ (by rw [EU hl hi]; exact h) fun q hm => hq q (by simp [hm])
theorem jO {P : Program} {f : FuncId} {args : List AV} {H : List Blk} {v : AV} {ws : List (Nat × Blk)} {rd : List Nat} {n : Nat} (d : Nat) (x : Blk) (ws1 ws2 : List (Nat × Blk)) (h : iN P f args H (.loc v ws rd n))
  (hw : ws = ws1 ++ (d, x) :: ws2 := by kernel_rfl) (hH : H[d]? = some x := by kernel_rfl) (ha : (oM args).contains d = true := by kernel_rfl) (hr : rd.contains d = true := by kernel_rfl)
  (h1 : (ws1 ++ ws2).all (fun q => !Nat.beq q.1 d) = true := by kernel_rfl) : iN P f args H (.loc v (ws1 ++ ws2) rd n) := by
 subst hw
 have hq : ∀ q ∈ ws1 ++ ws2, q.1 ≠ d := fun q hm e => by
  have := List.all_eq_true.1 h1 q hm
  rw [e] at this
  simp at this
 have hl := (List.getElem?_eq_some_iff.1 hH).1
 intro H' hlen hag out B w Z vs hI hπ hargs
 have hd' : H'[d]? = some x := by rw [hag d (by simpa using hr) hl]; exact hH
 have e : aP H' (ws1 ++ (d, x) :: ws2) = aP H' (ws1 ++ ws2) := tQ ws1 H' hd' fun q hm => hq q (by simp [hm])
 have := h H' hlen hag out B w Z vs hI hπ hargs
 rw [e] at this
 refine this.mono ?_
 rintro ex w' ⟨u, Z', rfl, g1, g2, g3, g4⟩
 refine ⟨u, Z', rfl, g1, g2, g3, fun j hj => ?_⟩
 by_cases hjd : j = d
 · subst hjd
   obtain ⟨p, hp⟩ := RvL.hps args vs hargs (by simpa using ha)
   rw [hp]; exact g1.pre _ _ hp
 · refine g4 j fun b hb => ?_
   simp only [List.mem_append, List.mem_cons, Prod.mk.injEq] at hb
   rcases hb with hb | ⟨hb, _⟩ | hb
   · exact hj b (by simp [hb])
   · exact hjd hb
   · exact hj b (by simp [hb])
end Go.Eng

