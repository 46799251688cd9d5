import Derived.Test.YtndmnfmpbcecaaaSc11hhfbglje
set_option linter.all false
namespace Go.Eng
open Go Go.RowKit
variable [Dr]
def iA (k : IntKind) (v : Int) : AV := .at (.int k v)
def mpK {κ α : Type} (K : κ → Value) (f : α → AV) (p : κ × α) : Value × AV := (K p.1, f p.2)
def mpc {α : Type} (k : IntKind) (f : α → AV) (p : Int × α) : Value × AV := (.int k p.1, f p.2)
section
variable {κ : Type} [DecidableEq κ] {α : Type}
def getM (z : α) : List (κ × α) → κ → α
 | [], _ => z
 | p :: l, x => bif x == p.1 then p.2 else getM z l x
def hasM : List (κ × α) → κ → Bool
 | [], _ => false
 | p :: l, x => bif x == p.1 then true else hasM l x
def posM : List (κ × α) → κ → Nat
 | [], _ => 0
 | p :: l, x => bif x == p.1 then 0 else posM l x + 1
def putM : List (κ × α) → κ → α → List (κ × α)
 | [], x, v => [(x, v)]
 | p :: l, x, v => bif x == p.1 then (x, v) :: l else p :: putM l x v
def KeyK (K : κ → Value) : Prop := ∀ x y, kEq (K x) (K y) = some (x == y)
theorem findM_mpK {K : κ → Value} (hK : KeyK K) {f : α → AV} {z : α} {x : κ} : ∀ (l : List (κ × α)) (i : Nat), findM (K x) (l.map (mpK K f)) i = some (bif hasM l x then some (i + posM l x, f (getM z l x)) else none)
 | [], _ => rfl
 | p :: l, i => by
  simp only [List.map_cons, mpK, findM, hK x p.1, hasM, posM, getM]
  cases h : x == p.1 with
  | true => rfl
  | false =>
   simp only [cond_false]
   have := findM_mpK hK (f := f) (z := z) (x := x) l (i + 1)
   rw [this]
   cases hasM l x <;> simp only [cond_true, cond_false]
   rw [show i + 1 + posM l x = i + (posM l x + 1) by omega]
theorem get_not {z : α} {x : κ} : ∀ {l : List (κ × α)}, hasM l x = false → getM z l x = z
 | [], _ => rfl
 | p :: l, h => by
  simp only [hasM, getM] at h ⊢
  cases hx : x == p.1 with
  | true => rw [hx] at h; simp at h
  | false => rw [hx] at h; exact get_not h
theorem put_has {K : κ → Value} {f : α → AV} {x : κ} {v : α} : ∀ {l : List (κ × α)}, hasM l x = true → (l.map (mpK K f)).set (posM l x) (K x, f v) = (putM l x v).map (mpK K f)
 | [], h => by simp [hasM] at h
 | p :: l, h => by
  simp only [hasM, posM, putM] at h ⊢
  cases hx : x == p.1 with
  | true => rfl
  | false => rw [hx] at h; simp only [cond_false, List.map_cons, List.set_cons_succ]; rw [put_has h]
theorem put_not {K : κ → Value} {f : α → AV} {x : κ} {v : α} : ∀ {l : List (κ × α)}, hasM l x = false → l.map (mpK K f) ++ [(K x, f v)] = (putM l x v).map (mpK K f)
 | [], _ => rfl
 | p :: l, h => by
  simp only [hasM, putM] at h ⊢
  cases hx : x == p.1 with
  | true => rw [hx] at h; simp at h
  | false => rw [hx] at h; simp only [cond_false, List.map_cons, List.cons_append]; rw [put_not h]
variable {P : Program} {H : List Blk} {t kt e : TypeId} {b : Nat} {K : κ → Value} {f : α → AV} {l : List (κ × α)} {x : κ} {A : AV}
theorem look_k {z : α} (hK : KeyK K) (hu : P.underlying t = some (.map kt e)) (hk : simpleKey P kt (K x) = true) (hz : zeroM P e = some (f z)) (hb : H[b]? = some (.map (l.map (mpK K f)))) (hA : toV A = some (K x)) :
  ORes.ofP (lookupA P H t (.mp b) A false) = some (.pure (f (getM z l x))) := by
 simp only [lookupA, hu, mapAt, hb, hk, hz, hA, findM_mpK hK (z := z)]
 cases h : hasM l x with
 | true => rfl
 | false => rw [get_not h]; rfl
theorem look_k2 {z : α} (hK : KeyK K) (hu : P.underlying t = some (.map kt e)) (hk : simpleKey P kt (K x) = true) (hz : zeroM P e = some (f z)) (hb : H[b]? = some (.map (l.map (mpK K f)))) (hA : toV A = some (K x)) :
  ORes.ofP (lookupA P H t (.mp b) A true) = some (.pure (.tup [f (getM z l x), .at (.bool (hasM l x))])) := by
 simp only [lookupA, hu, mapAt, hb, hk, hz, hA, findM_mpK hK (z := z)]
 cases h : hasM l x with
 | true => rfl
 | false => rw [get_not h]; rfl
theorem put_k {v : α} (hK : KeyK K) (hu : P.underlying t = some (.map kt e)) (hk : simpleKey P kt (K x) = true) (hb : H[b]? = some (.map (l.map (mpK K f)))) (hA : toV A = some (K x)) :
  opUpdate P H t (.mp b) A (f v) = some (.eff .unk [(b, .map ((putM l x v).map (mpK K f)))]) := by
 simp only [opUpdate, hu, mapAt, hb, hk, hA, findM_mpK hK (z := v)]
 cases h : hasM l x with
 | true => simp only [cond_true, Nat.zero_add]; rw [put_has h]
 | false => simp only [cond_false]; rw [put_not h]
end
theorem keyI (k : IntKind) : KeyK (fun x : Int => .int k x) := fun x y => by
 have hk : IntKind.beqA k k = true := by cases k <;> rfl
 simp only [kEq, hk]
section
variable {P : Program} {H : List Blk} {t kt e : TypeId} {b : Nat} {k : IntKind} {α : Type} {f : α → AV} {l : List (Int × α)} {x : Int}
theorem look_m2 {z : α} (hu : P.underlying t = some (.map kt e)) (hk : simpleKey P kt (.int k x) = true) (hz : zeroM P e = some (f z)) (hb : H[b]? = some (.map (l.map (mpc k f)))) :
  ORes.ofP (lookupA P H t (.mp b) (.at (.int k x)) true) = some (.pure (.tup [f (getM z l x), .at (.bool (hasM l x))])) := look_k2 (keyI k) hu hk hz hb rfl
theorem put_m {v : α} (hu : P.underlying t = some (.map kt e)) (hk : simpleKey P kt (.int k x) = true) (hb : H[b]? = some (.map (l.map (mpc k f)))) :
  opUpdate P H t (.mp b) (.at (.int k x)) (f v) = some (.eff .unk [(b, .map ((putM l x v).map (mpc k f)))]) := put_k (keyI k) hu hk hb rfl
end
theorem ids_mpK {κ α : Type} {K : κ → Value} {f : α → AV} (hf : ∀ a, idsOf (f a) = []) : ∀ l : List (κ × α), idsOfM (l.map (mpK K f)) = []
 | [] => rfl
 | p :: l => by
  simp only [List.map_cons, mpK, idsOfM, hf]
  exact ids_mpK hf l
theorem ids_mpc {α : Type} {k : IntKind} {f : α → AV} (hf : ∀ a, idsOf (f a) = []) (l : List (Int × α)) : idsOfM (l.map (mpc k f)) = [] := ids_mpK (K := fun x => .int k x) hf l
theorem pKM {H : List Blk} {b : Nat} {l : List (Nat × Bool)} {κ α : Type} (K : κ → Value) (f : α → AV) (hf : ∀ x, idsOf (f x) = []) (e : List (κ × α)) (rest : pureK H l) (hb : H[b]? = some (.map (e.map (mpK K f))) := by kernel_rfl) : pureK H ((b, false) :: l) :=
 ⟨by rw [hb]; exact ids_mpK hf e, rest⟩
theorem pKm {H : List Blk} {b : Nat} {l : List (Nat × Bool)} {α : Type} {k : IntKind} (f : α → AV) (hf : ∀ x, idsOf (f x) = []) (e : List (Int × α)) (rest : pureK H l) (hb : H[b]? = some (.map (e.map (mpc k f))) := by kernel_rfl) : pureK H ((b, false) :: l) :=
 ⟨by rw [hb]; exact ids_mpc hf e, rest⟩
mutual
def hpsOf : AV → List Nat
 | .hp b _ => [b]
 | .agg cs => hpsOfL cs
 | .tup cs => hpsOfL cs
 | .fn _ fs cs => hpsOfL fs ++ hpsOfL cs
 | _ => []
def hpsOfL : List AV → List Nat
 | [] => []
 | c :: cs => hpsOf c ++ hpsOfL cs
end
mutual
theorem Rv.hps {w : World} {mu : Nat → Prop} {π : List (Option PB)} {d : Nat} : (A : AV) → (v : Value) → Rv w mu π A v → d ∈ hpsOf A → ∃ p, π[d]? = some (some p)
 | .hp b off, v, h, hd => by
  simp only [hpsOf, List.mem_singleton] at hd
  subst hd
  obtain ⟨p, h1, _⟩ := h
  exact ⟨p, h1⟩
 | .agg cs, v, h, hd => by obtain ⟨vs, _, h2⟩ := h; exact RvL.hps cs _ h2 (by simpa only [hpsOf] using hd)
 | .tup cs, v, h, hd => by obtain ⟨vs, _, h2⟩ := h; exact RvL.hps cs _ h2 (by simpa only [hpsOf] using hd)
 | .fn f fs cs, v, h, hd => by
  obtain ⟨a, c, _, h2, h3⟩ := h
  simp only [hpsOf, List.mem_append] at hd
  rcases hd with hd | hd
  · exact RvL.hps fs _ h2 hd
  · exact RvL.hps cs _ h3 hd
 | .unk, _, _, hd => by simp [hpsOf] at hd
 | .at _, _, _, hd => by simp [hpsOf] at hd
 | .sl _ _ _, _, _, hd => by simp [hpsOf] at hd
 | .pp _ _, _, _, hd => by simp [hpsOf] at hd
 | .hs _ _ _ _, _, _, hd => by simp [hpsOf] at hd
 | .mp _, _, _, hd => by simp [hpsOf] at hd
theorem RvL.hps {w : World} {mu : Nat → Prop} {π : List (Option PB)} {d : Nat} : (A : List AV) → (v : List Value) → RvL w mu π A v → d ∈ hpsOfL A → ∃ p, π[d]? = some (some p)
 | [], _, _, hd => by simp [hpsOfL] at hd
 | c :: cs, _, h, hd => by
  obtain ⟨v, vs, _, h1, h2⟩ := h
  simp only [hpsOfL, List.mem_append] at hd
  rcases hd with hd | hd
  · exact Rv.hps c v h1 hd
  · exact RvL.hps cs vs h2 hd
end
theorem upd_ne {H : List Blk} {i d : Nat} {x : Blk} (hd : d < H.length) (hi : d ≠ i) : (upd H i x)[d]? = H[d]? := by
 unfold upd
 split
 · rw [List.getElem?_set_ne (fun e => hi e.symm)]
 · rw [List.getElem?_append_left hd]
theorem updAll_drop {d : Nat} {x : Blk} {ws2 : List (Nat × Blk)} : ∀ (ws1 : List (Nat × Blk)) (H : List Blk), H[d]? = some x → (∀ q ∈ ws1, q.1 ≠ d) → updAll H (ws1 ++ (d, x) :: ws2) = updAll H (ws1 ++ ws2)
 | [], H, h, _ => by
  have hl := (List.getElem?_eq_some_iff.1 h).1
  simp only [List.nil_append, updAll]
  congr 1
  unfold upd
  rw [if_pos hl]
  apply List.ext_getElem?
  intro j
  rw [List.getElem?_set]
  split
  · rename_i e; subst e; simp [hl, h]; exact ((List.getElem?_eq_some_iff.1 h).2).symm
  · rfl
 | (i, y) :: ws1, H, h, hq => by
  have hl := (List.getElem?_eq_some_iff.1 h).1
  have hi : d ≠ i := fun e => hq (i, y) (by simp) e.symm
  simp only [List.cons_append, updAll]
  exact updAll_drop ws1 _ (by rw [upd_ne hl hi]; exact h) fun q hm => hq q (by simp [hm])
theorem callOk_drop {P : Program} {f : FuncId} {args : List AV} {H : List Blk} {v : AV} {ws : List (Nat × Blk)} {rd : List Nat} {n : Nat} (d : Nat) (x : Blk) (ws1 ws2 : List (Nat × Blk)) (h : CallOk P f args H (.loc v ws rd n))
  (hw : ws = ws1 ++ (d, x) :: ws2 := by kernel_rfl) (hH : H[d]? = some x := by kernel_rfl) (ha : (hpsOfL args).contains d = true := by kernel_rfl) (hr : rd.contains d = true := by kernel_rfl)
  (h1 : (ws1 ++ ws2).all (fun q => !Nat.beq q.1 d) = true := by kernel_rfl) : CallOk P f args H (.loc v (ws1 ++ ws2) rd n) := by
 subst hw
 have hq : ∀ q ∈ ws1 ++ ws2, q.1 ≠ d := fun q hm e => by
  have := List.all_eq_true.1 h1 q hm
  rw [e] at this
  simp at this
 have hl := (List.getElem?_eq_some_iff.1 hH).1
 intro H' hlen hag out B w π vs hI hπ hargs
 have hd' : H'[d]? = some x := by rw [hag d (by simpa using hr) hl]; exact hH
 have e : updAll H' (ws1 ++ (d, x) :: ws2) = updAll H' (ws1 ++ ws2) := updAll_drop ws1 H' hd' fun q hm => hq q (by simp [hm])
 have := h H' hlen hag out B w π vs hI hπ hargs
 rw [e] at this
 refine this.mono ?_
 rintro ex w' ⟨u, π', rfl, g1, g2, g3, g4⟩
 refine ⟨u, π', rfl, g1, g2, g3, fun j hj => ?_⟩
 by_cases hjd : j = d
 · subst hjd
   obtain ⟨p, hp⟩ := RvL.hps args vs hargs (by simpa using ha)
   rw [hp]; exact g1.pre _ _ hp
 · refine g4 j fun b hb => ?_
   simp only [List.mem_append, List.mem_cons, Prod.mk.injEq] at hb
   rcases hb with hb | ⟨hb, _⟩ | hb
   · exact hj b (by simp [hb])
   · exact hjd hb
   · exact hj b (by simp [hb])
end Go.Eng

