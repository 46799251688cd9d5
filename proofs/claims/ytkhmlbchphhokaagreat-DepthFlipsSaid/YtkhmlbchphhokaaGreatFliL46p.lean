import Derived.Test.YtkhmlbchphhokaaGreatFliL46c
import Derived.Test.YtkhmlbchphhokaaGreatFliLgr
set_option linter.all false
namespace Go.L
open Go Go.Eng
def Tx (w x q v : Nat) : Prop := match x with | 0 => q = v + 1 ∧ q % w ≠ 0 | 1 => v = q + 1 ∧ v % w ≠ 0 | 2 => q = v + w | _ => v = q + w
def dX (x : Nat) : Int := match x with | 0 => -1 | 1 => 1 | _ => 0
def dY (x : Nat) : Int := match x with | 2 => -1 | 3 => 1 | _ => 0
def nb4 (M Q : Int) : List (A2 Int) := [A2.mk (wrapF .i64 (M - 1)) Q, A2.mk (wrapF .i64 (M + 1)) Q, A2.mk M (wrapF .i64 (Q - 1)), A2.mk M (wrapF .i64 (Q + 1))]
theorem dirs {M Q : Int} (hM : 0 ≤ M ∧ M ≤ 64) (hQ : 0 ≤ Q ∧ Q ≤ 64) (x : Nat) (hx : x < 4) : (gt (nb4 M Q) (x : Int)).e0 = M + dX x ∧ (gt (nb4 M Q) (x : Int)).e1 = Q + dY x := by
 unfold nb4
 rw [wrap64_in (n := M - 1) (by omega) (by omega), wrap64_in (n := M + 1) (by omega) (by omega), wrap64_in (n := Q - 1) (by omega) (by omega), wrap64_in (n := Q + 1) (by omega) (by omega)]
 rcases (show x = 0 ∨ x = 1 ∨ x = 2 ∨ x = 3 by omega) with rfl | rfl | rfl | rfl
 · exact ⟨rfl, by show Q = Q + 0; omega⟩
 · exact ⟨rfl, by show Q = Q + 0; omega⟩
 · exact ⟨by show M = M + 0; omega, rfl⟩
 · exact ⟨by show M = M + 0; omega, rfl⟩
theorem d_bd (x : Nat) : (-1 ≤ dX x ∧ dX x ≤ 1) ∧ (-1 ≤ dY x ∧ dY x ≤ 1) := by
 unfold dX dY
 refine ⟨?_, ?_⟩ <;> (split <;> omega)
theorem tx_fun {w x q v v' : Nat} (hx : x < 4) (h : Tx w x q v) (h' : Tx w x q v') : v = v' := by
 rcases (show x = 0 ∨ x = 1 ∨ x = 2 ∨ x = 3 by omega) with rfl | rfl | rfl | rfl
 · have := h.1; have := h'.1; omega
 · have := h.1; have := h'.1; omega
 · have h : q = v + w := h
   have h' : q = v' + w := h'
   omega
 · have h : v = q + w := h
   have h' : v' = q + w := h'
   omega
theorem dir_in {w h q x : Nat} (hw : 1 ≤ w) (hx : x < 4) (hq : q < w * h) {cx cy : Int} (ex : cx = ((q % w : Nat) : Int) + dX x) (ey : cy = ((q / w : Nat) : Int) + dY x) (h1 : 0 ≤ cx) (h2 : cx < w) (h3 : 0 ≤ cy) (h4 : cy < h) :
  ∃ v : Nat, cy * (w : Int) + cx = (v : Int) ∧ v < w * h ∧ Tx w x q v := by
 obtain ⟨nx, rfl⟩ : ∃ nx : Nat, cx = (nx : Int) := ⟨cx.toNat, by omega⟩
 obtain ⟨ny, rfl⟩ : ∃ ny : Nat, cy = (ny : Int) := ⟨cy.toNat, by omega⟩
 have hny : (ny + 1) * w ≤ h * w := Nat.mul_le_mul_right w (by omega)
 rw [Nat.succ_mul, Nat.mul_comm h w] at hny
 refine ⟨ny * w + nx, by push_cast; rfl, by omega, ?_⟩
 have hdiv := Nat.div_add_mod q w
 rw [Nat.mul_comm w (q / w)] at hdiv
 rcases (show x = 0 ∨ x = 1 ∨ x = 2 ∨ x = 3 by omega) with rfl | rfl | rfl | rfl
 · simp only [dX, dY] at ex ey
   have : ny = q / w := by omega
   subst this
   exact ⟨by omega, by omega⟩
 · simp only [dX, dY] at ex ey
   have : ny = q / w := by omega
   subst this
   refine ⟨by omega, ?_⟩
   rw [Nat.mul_comm (q / w) w, Nat.mul_add_mod, Nat.mod_eq_of_lt (by omega)]; omega
 · simp only [dX, dY] at ex ey
   have : q / w = ny + 1 := by omega
   rw [this, Nat.succ_mul] at hdiv
   show _ = _
   omega
 · simp only [dX, dY] at ex ey
   have : ny = q / w + 1 := by omega
   subst this
   show _ = _
   rw [Nat.succ_mul]; omega
theorem dir_out {w h q x v : Nat} (hw : 1 ≤ w) (hx : x < 4) (hq : q < w * h) (hv : v < w * h) (hT : Tx w x q v) {cx cy : Int} (ex : cx = ((q % w : Nat) : Int) + dX x) (ey : cy = ((q / w : Nat) : Int) + dY x) :
  0 ≤ cx ∧ cx < w ∧ 0 ≤ cy ∧ cy < h ∧ cy * (w : Int) + cx = (v : Int) := by
 have key : (v / w : Nat) = cy ∧ (v % w : Nat) = cx := by
  have hdiv := Nat.div_add_mod q w
  have hmod := Nat.mod_lt q (show 0 < w by omega)
  have hdv := Nat.div_add_mod v w
  have hmv := Nat.mod_lt v (show 0 < w by omega)
  rcases (show x = 0 ∨ x = 1 ∨ x = 2 ∨ x = 3 by omega) with rfl | rfl | rfl | rfl
  · simp only [dX, dY] at ex ey
    obtain ⟨e1, e2⟩ := hT
    have hv2 : v = q % w - 1 + w * (q / w) := by omega
    have a : v / w = q / w := by rw [hv2, Nat.add_mul_div_left _ _ (by omega), Nat.div_eq_of_lt (by omega), Nat.zero_add]
    have b : v % w = q % w - 1 := by rw [hv2, Nat.add_mul_mod_self_left, Nat.mod_eq_of_lt (by omega)]
    omega
  · simp only [dX, dY] at ex ey
    obtain ⟨e1, e2⟩ := hT
    have hq2 : q = v % w - 1 + w * (v / w) := by omega
    have a : q / w = v / w := by rw [hq2, Nat.add_mul_div_left _ _ (by omega), Nat.div_eq_of_lt (by omega), Nat.zero_add]
    have b : q % w = v % w - 1 := by rw [hq2, Nat.add_mul_mod_self_left, Nat.mod_eq_of_lt (by omega)]
    omega
  · simp only [dX, dY] at ex ey
    have e : q = v + w := hT
    have a : q / w = v / w + 1 := by rw [e, Nat.add_div_right _ (by omega)]
    have b : q % w = v % w := by rw [e, Nat.add_mod_right]
    omega
  · simp only [dX, dY] at ex ey
    have e : v = q + w := hT
    have a : v / w = q / w + 1 := by rw [e, Nat.add_div_right _ (by omega)]
    have b : v % w = q % w := by rw [e, Nat.add_mod_right]
    omega
 have hvh : v / w < h := Nat.div_lt_of_lt_mul hv
 have hmv := Nat.mod_lt v (show 0 < w by omega)
 have hdv := Nat.div_add_mod v w
 obtain ⟨k1, k2⟩ := key
 generalize v / w = A at *
 generalize v % w = B at *
 refine ⟨by omega, by omega, by omega, by omega, ?_⟩
 rw [← k1, ← k2, ← Int.natCast_mul, Nat.mul_comm]
 omega
def nr (V : Nat → Int) (step : Int) (u v : Nat) : Prop := 0 ≤ V u ∧ 0 ≤ V v ∧ V u - V v ≤ step ∧ V v - V u ≤ step
theorem nr_symm {V : Nat → Int} {step : Int} {u v : Nat} (h : nr V step u v) : nr V step v u := ⟨h.2.1, h.1, h.2.2.2, h.2.2.1⟩
def Es (V : Nat → Int) (step : Int) (w m u v : Nat) : Prop := u < m ∧ v < m ∧ nr V step u v ∧ ∃ x, x < 4 ∧ Tx w x u v
theorem es_symm (V : Nat → Int) (step : Int) (w m : Nat) (u v : Nat) (h : Es V step w m u v) : Es V step w m v u := by
 obtain ⟨h1, h2, h3, x, hx, h4⟩ := h
 refine ⟨h2, h1, nr_symm h3, ?_⟩
 rcases (show x = 0 ∨ x = 1 ∨ x = 2 ∨ x = 3 by omega) with rfl | rfl | rfl | rfl
 · exact ⟨1, by omega, h4⟩
 · exact ⟨0, by omega, h4⟩
 · exact ⟨3, by omega, h4⟩
 · exact ⟨2, by omega, h4⟩
theorem es_pos {V : Nat → Int} {step : Int} {w m u v : Nat} (h : Rc (Es V step w m) u v) (hv : 0 ≤ V v) : 0 ≤ V u :=
 (h.symm (es_symm V step w m)).inv (P := fun x => 0 ≤ V x) (fun p q e _ => e.2.2.1.2.1) hv
noncomputable def cellsN (E : Nat → Nat → Prop) (m k : Nat) : List Nat := (List.range m).filter fun u => @decide (Rc E k u) (Classical.propDecidable _)
theorem mem_cellsN {E : Nat → Nat → Prop} {m k u : Nat} : u ∈ cellsN E m k ↔ u < m ∧ Rc E k u := by
 unfold cellsN; rw [List.mem_filter, List.mem_range]; simp only [decide_eq_true_eq]
noncomputable def cnt (E : Nat → Nat → Prop) (m k : Nat) : Int := ((cellsN E m k).length : Int)
theorem cellsN_eq {E : Nat → Nat → Prop} (hs : ∀ a b, E a b → E b a) {m t u : Nat} (h : Rc E t u) : cellsN E m u = cellsN E m t := by
 unfold cellsN
 apply List.filter_congr
 intro v _
 have : Rc E u v ↔ Rc E t v := ⟨fun k => h.trans k, fun k => (h.symm hs).trans k⟩
 exact decide_eq_decide.2 this
theorem cnt_of {E : Nat → Nat → Prop} {m t : Nat} {rs : List Nat} (hn : rs.Nodup) (h : ∀ u, u ∈ rs ↔ u < m ∧ Rc E t u) : (rs.length : Int) = cnt E m t := by
 unfold cnt
 congr 1
 refine List.Perm.length_eq ((List.perm_ext_iff_of_nodup hn (List.nodup_range.filter _)).2 fun u => ?_)
 exact (h u).trans (mem_cellsN (E := E)).symm
theorem nodup_le {l : List Nat} {m : Nat} (hn : l.Nodup) (h : ∀ u ∈ l, u < m) : l.length ≤ m := by
 have hp : l.Perm ((List.range m).filter fun u => decide (u ∈ l)) := by
  rw [List.perm_ext_iff_of_nodup hn (List.nodup_range.filter _)]
  intro u
  rw [List.mem_filter, List.mem_range]
  exact ⟨fun hu => ⟨h u hu, decide_eq_true hu⟩, fun hu => of_decide_eq_true hu.2⟩
 rw [hp.length_eq]
 have := List.length_filter_le (fun u => decide (u ∈ l)) (List.range m)
 simpa using this
structure Fl (E : Nat → Nat → Prop) (m t : Nat) (d0 d : List Bool) (A O : List Nat) : Prop where
 len : d.length = m
 nd : (A ++ O).Nodup
 mem : ∀ u, u ∈ A ++ O → u < m ∧ Rc E t u
 st : t ∈ A ++ O
 dn : ∀ u, u < m → (d.getD u default = true ↔ d0.getD u default = true ∨ u ∈ A ++ O)
theorem Fl.to {E : Nat → Nat → Prop} {m t : Nat} {d0 d : List Bool} {A O A' O' : List Nat} (h : Fl E m t d0 d A O) (e : A ++ O = A' ++ O') : Fl E m t d0 d A' O' :=
 ⟨h.len, e ▸ h.nd, e ▸ h.mem, e ▸ h.st, e ▸ h.dn⟩
theorem Fl.push {E : Nat → Nat → Prop} {m t : Nat} {d0 d : List Bool} {A O : List Nat} (h : Fl E m t d0 d A O) {v : Nat} (hv : v < m) (hr : Rc E t v) (hd : d.getD v default = false) : Fl E m t d0 (d.set v true) A (O ++ [v]) := by
 have hvn : v ∉ A ++ O := fun hm => by
  have := (h.dn v hv).2 (.inr hm)
  rw [hd] at this; cases this
 have e : A ++ (O ++ [v]) = (A ++ O) ++ [v] := (List.append_assoc _ _ _).symm
 refine ⟨by simpa using h.len, ?_, ?_, ?_, ?_⟩
 · rw [e, List.nodup_append]
   refine ⟨h.nd, by simp, ?_⟩
   intro a ha b hb hab
   rw [List.mem_singleton] at hb
   subst hb hab
   exact hvn ha
 · intro u hu
   rw [e, List.mem_append, List.mem_singleton] at hu
   rcases hu with hu | rfl
   · exact h.mem u hu
   · exact ⟨hv, hr⟩
 · rw [e, List.mem_append]; exact .inl h.st
 · intro u hu
   rw [e, List.mem_append, List.mem_singleton]
   simp only [List.getD, List.getElem?_set, h.len]
   by_cases h1 : v = u
   · subst h1; simp [hv]
   · have h1' : ¬ u = v := fun e => h1 e.symm
     have := h.dn u hu
     simp only [List.getD] at this
     simp only [h1, h1', if_false, or_false]
     exact this
noncomputable def spk (V : Nat → Int) (step least : Int) (w m u : Nat) : Int := if 0 ≤ V u ∧ least ≤ cnt (Es V step w m) m u then V u else -1
end Go.L

