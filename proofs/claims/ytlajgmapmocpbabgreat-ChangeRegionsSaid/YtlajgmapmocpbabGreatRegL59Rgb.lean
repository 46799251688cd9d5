import Derived.Test.YtlajgmapmocpbabGreatRegL59Rga
set_option linter.unusedVariables false
set_option linter.unusedSimpArgs false
namespace Go.L
open Go Go.Eng
def Tx (w x q v : Nat) : Prop := match x with | 0 => v = q + 1 ∧ v % w ≠ 0 | 1 => q = v + 1 ∧ q % w ≠ 0 | 2 => v = q + w | _ => q = v + w
def dX (x : Nat) : Int := match x with | 0 => 1 | 1 => -1 | _ => 0
def dY (x : Nat) : Int := match x with | 2 => 1 | 3 => -1 | _ => 0
theorem dirs (x : Nat) (hx : x < 4) : (gt ([A2.mk 1 0, A2.mk (-1) 0, A2.mk 0 1, A2.mk 0 (-1)] : List (A2 Int)) (x : Int)).e0 = dX x ∧ (gt ([A2.mk 1 0, A2.mk (-1) 0, A2.mk 0 1, A2.mk 0 (-1)] : List (A2 Int)) (x : Int)).e1 = dY x := by
  rcases (show x = 0 ∨ x = 1 ∨ x = 2 ∨ x = 3 by omega) with rfl | rfl | rfl | rfl <;> exact ⟨rfl, rfl⟩
theorem dir_in {w h q x : Nat} (hw : 2 ≤ w) (hx : x < 4) (hq : q < w * h) {cx cy : Int} (ex : cx = ((q % w : Nat) : Int) + dX x) (ey : cy = ((q / w : Nat) : Int) + dY x) (h1 : 0 ≤ cx) (h2 : cx < w) (h3 : 0 ≤ cy) (h4 : cy < h) :
    ∃ v : Nat, cy * (w : Int) + cx = (v : Int) ∧ v < w * h ∧ Tx w x q v := by
  obtain ⟨nx, rfl⟩ : ∃ nx : Nat, cx = (nx : Int) := ⟨cx.toNat, by omega⟩
  obtain ⟨ny, rfl⟩ : ∃ ny : Nat, cy = (ny : Int) := ⟨cy.toNat, by omega⟩
  have hny : (ny + 1) * w ≤ h * w := Nat.mul_le_mul_right w (by omega)
  rw [Nat.succ_mul, Nat.mul_comm h w] at hny
  refine ⟨ny * w + nx, by push_cast; rfl, by omega, ?_⟩
  have hdiv := Nat.div_add_mod q w
  rw [Nat.mul_comm w (q / w)] at hdiv
  rcases (show x = 0 ∨ x = 1 ∨ x = 2 ∨ x = 3 by omega) with rfl | rfl | rfl | rfl
  · simp only [dX, dY] at ex ey
    have : ny = q / w := by omega
    subst this
    refine ⟨by omega, ?_⟩
    rw [Nat.mul_comm (q / w) w, Nat.mul_add_mod, Nat.mod_eq_of_lt (by omega)]; omega
  · simp only [dX, dY] at ex ey
    have : ny = q / w := by omega
    subst this
    exact ⟨by omega, by omega⟩
  · simp only [dX, dY] at ex ey
    have : ny = q / w + 1 := by omega
    subst this
    show _ = _
    rw [Nat.succ_mul]; omega
  · simp only [dX, dY] at ex ey
    have : q / w = ny + 1 := by omega
    rw [this, Nat.succ_mul] at hdiv
    show _ = _
    omega
theorem dir_out {w h q x v : Nat} (hw : 2 ≤ w) (hx : x < 4) (hq : q < w * h) (hv : v < w * h) (hT : Tx w x q v) {cx cy : Int} (ex : cx = ((q % w : Nat) : Int) + dX x) (ey : cy = ((q / w : Nat) : Int) + dY x) :
    0 ≤ cx ∧ cx < w ∧ 0 ≤ cy ∧ cy < h ∧ cy * (w : Int) + cx = (v : Int) := by
  have hdiv := Nat.div_add_mod q w
  have hmod := Nat.mod_lt q (show 0 < w by omega)
  have hqh : q / w < h := Nat.div_lt_of_lt_mul hq
  rw [Nat.mul_comm w (q / w)] at hdiv
  have hc : ((q / w : Nat) : Int) * (w : Int) = ((q / w * w : Nat) : Int) := (Int.natCast_mul _ _).symm
  have hm0 : Tx w x q v → x = 1 → q % w ≠ 0 := fun h e => by subst e; exact h.2
  have hm1 := hm0 hT
  generalize q / w = Q at *
  generalize q % w = M at *
  have hQ : (0 : Int) ≤ (Q : Int) := by omega
  rcases (show x = 0 ∨ x = 1 ∨ x = 2 ∨ x = 3 by omega) with rfl | rfl | rfl | rfl
  · simp only [dX, dY] at ex ey
    obtain ⟨e1, e2⟩ := hT
    have : M + 1 < w := by
      apply Classical.byContradiction
      intro hh
      apply e2
      have : M + 1 = w := by omega
      have e3 : v = (Q + 1) * w := by rw [Nat.succ_mul]; omega
      rw [e3, Nat.mul_mod_left]
    rw [Int.add_zero] at ey
    rw [ex, ey, hc]
    omega
  · simp only [dX, dY] at ex ey
    have e1 := hT.1
    have e2 := hm1 rfl
    rw [Int.add_zero] at ey
    rw [ex, ey, hc]
    omega
  · simp only [dX, dY] at ex ey
    have e1 : v = q + w := hT
    have h5 : Q + 1 < h := by
      apply Classical.byContradiction
      intro hh
      have : h * w ≤ (Q + 1) * w := Nat.mul_le_mul_right w (by omega)
      rw [Nat.succ_mul, Nat.mul_comm h w] at this
      omega
    rw [Int.add_zero] at ex
    rw [ex, ey, Int.add_mul, hc]
    omega
  · simp only [dX, dY] at ex ey
    have e1 : q = v + w := hT
    have h5 : 1 ≤ Q := by
      apply Classical.byContradiction
      intro hh
      have : Q = 0 := by omega
      rw [this] at hdiv
      omega
    rw [Int.add_zero] at ex
    rw [ex, ey, Int.add_mul, hc]
    omega
theorem ed_tx {vd : Nat → Int} {w m q v : Nat} : Ed vd w m q v ↔ q < m ∧ v < m ∧ vd q = vd v ∧ ∃ x, x < 4 ∧ Tx w x q v := by
  constructor
  · rintro ⟨h1, h2, h3, h4⟩
    refine ⟨h1, h2, h3, ?_⟩
    rcases h4 with h | h | h | h
    · exact ⟨0, by omega, h⟩
    · exact ⟨2, by omega, h⟩
    · exact ⟨1, by omega, h⟩
    · exact ⟨3, by omega, h⟩
  · rintro ⟨h1, h2, h3, x, hx, h4⟩
    refine ⟨h1, h2, h3, ?_⟩
    rcases (show x = 0 ∨ x = 1 ∨ x = 2 ∨ x = 3 by omega) with rfl | rfl | rfl | rfl
    · exact .inl h4
    · exact .inr (.inr (.inl h4))
    · exact .inr (.inl h4)
    · exact .inr (.inr (.inr h4))
theorem nodup_le {l : List Nat} {m : Nat} (hn : l.Nodup) (h : ∀ u ∈ l, u < m) : l.length ≤ m := by
  have hp : l.Perm ((List.range m).filter fun u => decide (u ∈ l)) := by
    rw [List.perm_ext_iff_of_nodup hn (List.nodup_range.filter _)]
    intro u
    rw [List.mem_filter, List.mem_range]
    exact ⟨fun hu => ⟨h u hu, decide_eq_true hu⟩, fun hu => of_decide_eq_true hu.2⟩
  rw [hp.length_eq]
  have := List.length_filter_le (fun u => decide (u ∈ l)) (List.range m)
  simpa using this
structure Fl (E : Nat → Nat → Prop) (m t : Nat) (d0 d : List Bool) (A O : List Nat) : Prop where
  len : d.length = m
  nd : (A ++ O).Nodup
  mem : ∀ u, u ∈ A ++ O → u < m ∧ Rc E t u
  st : t ∈ A ++ O
  dn : ∀ u, u < m → (d.getD u default = true ↔ d0.getD u default = true ∨ u ∈ A ++ O)
theorem Fl.push {E : Nat → Nat → Prop} {m t : Nat} {d0 d : List Bool} {A O : List Nat} (h : Fl E m t d0 d A O) {v : Nat} (hv : v < m) (hr : Rc E t v) (hd : d.getD v default = false) : Fl E m t d0 (d.set v true) A (O ++ [v]) := by
  have hvn : v ∉ A ++ O := fun hm => by
    have := (h.dn v hv).2 (.inr hm)
    rw [hd] at this; cases this
  have e : A ++ (O ++ [v]) = (A ++ O) ++ [v] := (List.append_assoc _ _ _).symm
  refine ⟨by simpa using h.len, ?_, ?_, ?_, ?_⟩
  · rw [e, List.nodup_append]
    refine ⟨h.nd, by simp, ?_⟩
    intro a ha b hb hab
    rw [List.mem_singleton] at hb
    subst hb hab
    exact hvn ha
  · intro u hu
    rw [e, List.mem_append, List.mem_singleton] at hu
    rcases hu with hu | rfl
    · exact h.mem u hu
    · exact ⟨hv, hr⟩
  · rw [e]; exact List.mem_append_left _ h.st
  · intro u hu
    rw [e, List.mem_append, List.mem_singleton]
    have := h.dn u hu
    simp only [List.getD, List.getElem?_set] at this ⊢
    by_cases h1 : v = u
    · subst h1
      have : v < d.length := by rw [h.len]; exact hv
      simp [this]
    · have h1' : ¬ u = v := fun e => h1 e.symm
      rw [if_neg h1]
      simp only [h1', or_false]
      exact this
end Go.L

