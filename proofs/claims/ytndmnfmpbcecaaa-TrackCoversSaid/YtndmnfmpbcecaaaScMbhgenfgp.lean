import Derived.Test.YtndmnfmpbcecaaaSc11imknaplf
set_option linter.all false
namespace Go.Eng
open Go Go.RowKit
variable [Dr]
section
variable {κ : Type} [DecidableEq κ] {α : Type}
variable {P : Program} {H : List Blk} {t kt e : TypeId} {b : Nat} {K : κ → Value} {f : α → AV} {l : List (κ × α)} {x : κ} {A : AV}
end
section
variable {P : Program} {H : List Blk} {t kt e : TypeId} {b : Nat} {k : IntKind} {α : Type} {f : α → AV} {l : List (Int × α)} {x : Int}
end
mutual
def hpsOf : AV → List Nat
 | .hp b _ => [b]
 | .agg cs => hpsOfL cs
 | .tup cs => hpsOfL cs
 | .fn _ fs cs => hpsOfL fs ++ hpsOfL cs
 | _ => []
def hpsOfL : List AV → List Nat
 | [] => []
 | c :: cs => hpsOf c ++ hpsOfL cs
end
mutual
theorem Rv.hps {w : World} {mu : Nat → Prop} {π : List (Option PB)} {d : Nat} : (A : AV) → (v : Value) → Rv w mu π A v → d ∈ hpsOf A → ∃ p, π[d]? = some (some p)
 | .hp b off, v, h, hd => by
  simp only [hpsOf, List.mem_singleton] at hd
  subst hd
  obtain ⟨p, h1, _⟩ := h
  exact ⟨p, h1⟩
 | .agg cs, v, h, hd => by obtain ⟨vs, _, h2⟩ := h; exact RvL.hps cs _ h2 (by simpa only [hpsOf] using hd)
 | .tup cs, v, h, hd => by obtain ⟨vs, _, h2⟩ := h; exact RvL.hps cs _ h2 (by simpa only [hpsOf] using hd)
 | .fn f fs cs, v, h, hd => by
  obtain ⟨a, c, _, h2, h3⟩ := h
  simp only [hpsOf, List.mem_append] at hd
  rcases hd with hd | hd
  · exact RvL.hps fs _ h2 hd
  · exact RvL.hps cs _ h3 hd
 | .unk, _, _, hd => by simp [hpsOf] at hd
 | .at _, _, _, hd => by simp [hpsOf] at hd
 | .sl _ _ _, _, _, hd => by simp [hpsOf] at hd
 | .pp _ _, _, _, hd => by simp [hpsOf] at hd
 | .hs _ _ _ _, _, _, hd => by simp [hpsOf] at hd
 | .mp _, _, _, hd => by simp [hpsOf] at hd
theorem RvL.hps {w : World} {mu : Nat → Prop} {π : List (Option PB)} {d : Nat} : (A : List AV) → (v : List Value) → RvL w mu π A v → d ∈ hpsOfL A → ∃ p, π[d]? = some (some p)
 | [], _, _, hd => by simp [hpsOfL] at hd
 | c :: cs, _, h, hd => by
  obtain ⟨v, vs, _, h1, h2⟩ := h
  simp only [hpsOfL, List.mem_append] at hd
  rcases hd with hd | hd
  · exact Rv.hps c v h1 hd
  · exact RvL.hps cs vs h2 hd
end
theorem upd_ne {H : List Blk} {i d : Nat} {x : Blk} (hd : d < H.length) (hi : d ≠ i) : (upd H i x)[d]? = H[d]? := by
 unfold upd
 split
 · rw [List.getElem?_set_ne (fun e => hi e.symm)]
 · rw [List.getElem?_append_left hd]
theorem updAll_drop {d : Nat} {x : Blk} {ws2 : List (Nat × Blk)} : ∀ (ws1 : List (Nat × Blk)) (H : List Blk), H[d]? = some x → (∀ q ∈ ws1, q.1 ≠ d) → updAll H (ws1 ++ (d, x) :: ws2) = updAll H (ws1 ++ ws2)
 | [], H, h, _ => by
  have hl := (List.getElem?_eq_some_iff.1 h).1
  simp only [List.nil_append, updAll]
  congr 1
  unfold upd
  rw [if_pos hl]
  apply List.ext_getElem?
  intro j
  rw [List.getElem?_set]
  split
  · rename_i e; subst e; simp [hl, h]; exact ((List.getElem?_eq_some_iff.1 h).2).symm
  · rfl
 | (i, y) :: ws1, H, h, hq => by
  have hl := (List.getElem?_eq_some_iff.1 h).1
  have hi : d ≠ i := fun e => hq (i, y) (by simp) e.symm
  simp only [List.cons_append, updAll]
  exact updAll_drop ws1 _ (by rw [upd_ne hl hi]; exact h) fun q hm => hq q (by simp [hm])
theorem callOk_drop {P : Program} {f : FuncId} {args : List AV} {H : List Blk} {v : AV} {ws : List (Nat × Blk)} {rd : List Nat} {n : Nat} (d : Nat) (x : Blk) (ws1 ws2 : List (Nat × Blk)) (h : CallOk P f args H (.loc v ws rd n))
  (hw : ws = ws1 ++ (d, x) :: ws2 := by kernel_rfl) (hH : H[d]? = some x := by kernel_rfl) (ha : (hpsOfL args).contains d = true := by kernel_rfl) (hr : rd.contains d = true := by kernel_rfl)
  (h1 : (ws1 ++ ws2).all (fun q => !Nat.beq q.1 d) = true := by kernel_rfl) : CallOk P f args H (.loc v (ws1 ++ ws2) rd n) := by
 subst hw
 have hq : ∀ q ∈ ws1 ++ ws2, q.1 ≠ d := fun q hm e => by
  have := List.all_eq_true.1 h1 q hm
  rw [e] at this
  simp at this
 have hl := (List.getElem?_eq_some_iff.1 hH).1
 intro H' hlen hag out B w π vs hI hπ hargs
 have hd' : H'[d]? = some x := by rw [hag d (by simpa using hr) hl]; exact hH
 have e : updAll H' (ws1 ++ (d, x) :: ws2) = updAll H' (ws1 ++ ws2) := updAll_drop ws1 H' hd' fun q hm => hq q (by simp [hm])
 have := h H' hlen hag out B w π vs hI hπ hargs
 rw [e] at this
 refine this.mono ?_
 rintro ex w' ⟨u, π', rfl, g1, g2, g3, g4⟩
 refine ⟨u, π', rfl, g1, g2, g3, fun j hj => ?_⟩
 by_cases hjd : j = d
 · subst hjd
   obtain ⟨p, hp⟩ := RvL.hps args vs hargs (by simpa using ha)
   rw [hp]; exact g1.pre _ _ hp
 · refine g4 j fun b hb => ?_
   simp only [List.mem_append, List.mem_cons, Prod.mk.injEq] at hb
   rcases hb with hb | ⟨hb, _⟩ | hb
   · exact hj b (by simp [hb])
   · exact hjd hb
   · exact hj b (by simp [hb])
end Go.Eng

