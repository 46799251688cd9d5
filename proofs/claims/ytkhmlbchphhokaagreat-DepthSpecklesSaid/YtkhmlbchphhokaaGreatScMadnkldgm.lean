import Derived.Test.YtkhmlbchphhokaaGreatSc11cceflkkm
set_option linter.unusedSimpArgs false
set_option linter.unusedVariables false
namespace Go.Eng
open Go Go.RowKit
def iA (k : IntKind) (v : Int) : AV := .at (.int k v)
def bA (v : Bool) : AV := .at (.bool v)
def mpc {α : Type} (k : IntKind) (f : α → AV) (p : Int × α) : Value × AV := (.int k p.1, f p.2)
def getM {α : Type} (z : α) : List (Int × α) → Int → α
  | [], _ => z
  | p :: l, x => bif x == p.1 then p.2 else getM z l x
def hasM {α : Type} : List (Int × α) → Int → Bool
  | [], _ => false
  | p :: l, x => bif x == p.1 then true else hasM l x
def posM {α : Type} : List (Int × α) → Int → Nat
  | [], _ => 0
  | p :: l, x => bif x == p.1 then 0 else posM l x + 1
def putM {α : Type} : List (Int × α) → Int → α → List (Int × α)
  | [], x, v => [(x, v)]
  | p :: l, x, v => bif x == p.1 then (x, v) :: l else p :: putM l x v
theorem findM_mpc {α : Type} {k : IntKind} {f : α → AV} {z : α} {x : Int} : ∀ (l : List (Int × α)) (i : Nat), findM (.int k x) (l.map (mpc k f)) i = some (bif hasM l x then some (i + posM l x, f (getM z l x)) else none)
  | [], _ => rfl
  | p :: l, i => by
    have hk : IntKind.beqA k k = true := by cases k <;> rfl
    simp only [List.map_cons, mpc, findM, kEq, hk, hasM, posM, getM]
    cases h : x == p.1 with
    | true => rfl
    | false =>
      simp only [cond_false]
      have := findM_mpc (k := k) (f := f) (z := z) (x := x) l (i + 1)
      rw [this]
      cases hasM l x <;> simp only [cond_true, cond_false]
      rw [show i + 1 + posM l x = i + (posM l x + 1) by omega]
theorem get_not {α : Type} {z : α} {x : Int} : ∀ {l : List (Int × α)}, hasM l x = false → getM z l x = z
  | [], _ => rfl
  | p :: l, h => by
    simp only [hasM, getM] at h ⊢
    cases hx : x == p.1 with
    | true => rw [hx] at h; simp at h
    | false => rw [hx] at h; exact get_not h
theorem put_has {α : Type} {k : IntKind} {f : α → AV} {x : Int} {v : α} : ∀ {l : List (Int × α)}, hasM l x = true → (l.map (mpc k f)).set (posM l x) (.int k x, f v) = (putM l x v).map (mpc k f)
  | [], h => by simp [hasM] at h
  | p :: l, h => by
    simp only [hasM, posM, putM] at h ⊢
    cases hx : x == p.1 with
    | true => rfl
    | false => rw [hx] at h; simp only [cond_false, List.map_cons, List.set_cons_succ]; rw [put_has h]
theorem put_not {α : Type} {k : IntKind} {f : α → AV} {x : Int} {v : α} : ∀ {l : List (Int × α)}, hasM l x = false → l.map (mpc k f) ++ [(.int k x, f v)] = (putM l x v).map (mpc k f)
  | [], _ => rfl
  | p :: l, h => by
    simp only [hasM, putM] at h ⊢
    cases hx : x == p.1 with
    | true => rw [hx] at h; simp at h
    | false => rw [hx] at h; simp only [cond_false, List.map_cons, List.cons_append]; rw [put_not h]
section
variable {P : Program} {H : List Blk} {t kt e : TypeId} {b : Nat} {k : IntKind} {α : Type} {f : α → AV} {l : List (Int × α)} {x : Int}
theorem look_m {z : α} (hu : P.underlying t = some (.map kt e)) (hk : simpleKey P kt (.int k x) = true) (hz : zeroM P e = some (f z)) (hb : H[b]? = some (.map (l.map (mpc k f)))) :
    ORes.ofP (lookupA P H t (.mp b) (.at (.int k x)) false) = some (.pure (f (getM z l x))) := by
  simp only [lookupA, hu, mapAt, hb, hk, hz, findM_mpc (z := z)]
  cases h : hasM l x with
  | true => rfl
  | false => rw [get_not h]; rfl
theorem put_m {v : α} (hu : P.underlying t = some (.map kt e)) (hk : simpleKey P kt (.int k x) = true) (hb : H[b]? = some (.map (l.map (mpc k f)))) :
    opUpdate P H t (.mp b) (.at (.int k x)) (f v) = some (.eff .unk [(b, .map ((putM l x v).map (mpc k f)))]) := by
  simp only [opUpdate, hu, mapAt, hb, hk, findM_mpc (z := v)]
  cases h : hasM l x with
  | true => simp only [cond_true, Nat.zero_add]; rw [put_has h]
  | false => simp only [cond_false]; rw [put_not h]
end
theorem ids_mpc {α : Type} {k : IntKind} {f : α → AV} (hf : ∀ a, idsOf (f a) = []) : ∀ l : List (Int × α), idsOfM (l.map (mpc k f)) = []
  | [] => rfl
  | p :: l => by
    simp only [List.map_cons, mpc, idsOfM, hf]
    exact ids_mpc hf l
theorem pKm {H : List Blk} {b : Nat} {l : List (Nat × Bool)} {α : Type} {k : IntKind} (f : α → AV) (hf : ∀ x, idsOf (f x) = []) (e : List (Int × α)) (rest : pureK H l) (hb : H[b]? = some (.map (e.map (mpc k f))) := by kernel_rfl) : pureK H ((b, false) :: l) :=
  ⟨by rw [hb]; exact ids_mpc hf e, rest⟩
mutual
def hpsOf : AV → List Nat
  | .hp b _ => [b]
  | .agg cs => hpsOfL cs
  | .tup cs => hpsOfL cs
  | .fn _ fs cs => hpsOfL fs ++ hpsOfL cs
  | _ => []
def hpsOfL : List AV → List Nat
  | [] => []
  | c :: cs => hpsOf c ++ hpsOfL cs
end
mutual
theorem Rv.hps {w : World} {mu : Nat → Prop} {π : List (Option PB)} {d : Nat} : (A : AV) → (v : Value) → Rv w mu π A v → d ∈ hpsOf A → ∃ p, π[d]? = some (some p)
  | .hp b off, v, h, hd => by
    simp only [hpsOf, List.mem_singleton] at hd
    subst hd
    obtain ⟨p, h1, _⟩ := h
    exact ⟨p, h1⟩
  | .agg cs, v, h, hd => by obtain ⟨vs, _, h2⟩ := h; exact RvL.hps cs _ h2 (by simpa only [hpsOf] using hd)
  | .tup cs, v, h, hd => by obtain ⟨vs, _, h2⟩ := h; exact RvL.hps cs _ h2 (by simpa only [hpsOf] using hd)
  | .fn f fs cs, v, h, hd => by
    obtain ⟨a, c, _, h2, h3⟩ := h
    simp only [hpsOf, List.mem_append] at hd
    rcases hd with hd | hd
    · exact RvL.hps fs _ h2 hd
    · exact RvL.hps cs _ h3 hd
  | .unk, _, _, hd => by simp [hpsOf] at hd
  | .at _, _, _, hd => by simp [hpsOf] at hd
  | .sl _ _ _, _, _, hd => by simp [hpsOf] at hd
  | .pp _ _, _, _, hd => by simp [hpsOf] at hd
  | .hs _ _ _ _, _, _, hd => by simp [hpsOf] at hd
  | .mp _, _, _, hd => by simp [hpsOf] at hd
theorem RvL.hps {w : World} {mu : Nat → Prop} {π : List (Option PB)} {d : Nat} : (A : List AV) → (v : List Value) → RvL w mu π A v → d ∈ hpsOfL A → ∃ p, π[d]? = some (some p)
  | [], _, _, hd => by simp [hpsOfL] at hd
  | c :: cs, _, h, hd => by
    obtain ⟨v, vs, _, h1, h2⟩ := h
    simp only [hpsOfL, List.mem_append] at hd
    rcases hd with hd | hd
    · exact Rv.hps c v h1 hd
    · exact RvL.hps cs vs h2 hd
end
theorem upd_ne {H : List Blk} {i d : Nat} {x : Blk} (hd : d < H.length) (hi : d ≠ i) : (upd H i x)[d]? = H[d]? := by
  unfold upd
  split
  · rw [List.getElem?_set_ne (fun e => hi e.symm)]
  · rw [List.getElem?_append_left hd]
theorem updAll_drop {d : Nat} {x : Blk} {ws2 : List (Nat × Blk)} : ∀ (ws1 : List (Nat × Blk)) (H : List Blk), H[d]? = some x → (∀ q ∈ ws1, q.1 ≠ d) → updAll H (ws1 ++ (d, x) :: ws2) = updAll H (ws1 ++ ws2)
  | [], H, h, _ => by
    have hl := (List.getElem?_eq_some_iff.1 h).1
    simp only [List.nil_append, updAll]
    congr 1
    unfold upd
    rw [if_pos hl]
    apply List.ext_getElem?
    intro j
    rw [List.getElem?_set]
    split
    · rename_i e; subst e; simp [hl, h]; exact ((List.getElem?_eq_some_iff.1 h).2).symm
    · rfl
  | (i, y) :: ws1, H, h, hq => by
    have hl := (List.getElem?_eq_some_iff.1 h).1
    have hi : d ≠ i := fun e => hq (i, y) (by simp) e.symm
    simp only [List.cons_append, updAll]
    exact updAll_drop ws1 _ (by rw [upd_ne hl hi]; exact h) fun q hm => hq q (by simp [hm])
theorem callOk_drop {P : Program} {f : FuncId} {args : List AV} {H : List Blk} {v : AV} {ws : List (Nat × Blk)} {rd : List Nat} {n : Nat} (d : Nat) (x : Blk) (ws1 ws2 : List (Nat × Blk)) (h : CallOk P f args H (.loc v ws rd n))
    (hw : ws = ws1 ++ (d, x) :: ws2 := by kernel_rfl) (hH : H[d]? = some x := by kernel_rfl) (ha : (hpsOfL args).contains d = true := by kernel_rfl) (hr : rd.contains d = true := by kernel_rfl)
    (h1 : (ws1 ++ ws2).all (fun q => !Nat.beq q.1 d) = true := by kernel_rfl) : CallOk P f args H (.loc v (ws1 ++ ws2) rd n) := by
  subst hw
  have hq : ∀ q ∈ ws1 ++ ws2, q.1 ≠ d := fun q hm e => by
    have := List.all_eq_true.1 h1 q hm
    rw [e] at this
    simp at this
  have hl := (List.getElem?_eq_some_iff.1 hH).1
  intro H' hlen hag out B w π vs hI hπ hargs
  have hd' : H'[d]? = some x := by rw [hag d (by simpa using hr) hl]; exact hH
  have e : updAll H' (ws1 ++ (d, x) :: ws2) = updAll H' (ws1 ++ ws2) := updAll_drop ws1 H' hd' fun q hm => hq q (by simp [hm])
  have := h H' hlen hag out B w π vs hI hπ hargs
  rw [e] at this
  refine this.mono ?_
  rintro ex w' ⟨u, π', rfl, g1, g2, g3, g4⟩
  refine ⟨u, π', rfl, g1, g2, g3, fun j hj => ?_⟩
  by_cases hjd : j = d
  · subst hjd
    obtain ⟨p, hp⟩ := RvL.hps args vs hargs (by simpa using ha)
    rw [hp]; exact g1.pre _ _ hp
  · refine g4 j fun b hb => ?_
    simp only [List.mem_append, List.mem_cons, Prod.mk.injEq] at hb
    rcases hb with hb | ⟨hb, _⟩ | hb
    · exact hj b (by simp [hb])
    · exact hjd hb
    · exact hj b (by simp [hb])
end Go.Eng

