import Derived.Test.YtdfhpiaapdbdpaaGreatParL52aB
set_option linter.all false
namespace Go.L
open Go Go.Eng
def cellT (W : Int) (j i : Nat) : List (A3 Int) := [A3.mk (wrapF .i64 ((wrapF .i64 ((j : Int) * W)) + (i : Int))) (wrapF .i64 ((wrapF .i64 ((wrapF .i64 ((j : Int) * W)) + (i : Int))) + 1)) (wrapF .i64 ((wrapF .i64 ((wrapF .i64 ((wrapF .i64 ((j : Int) * W)) + (i : Int))) + W)) + 1)), A3.mk (wrapF .i64 ((wrapF .i64 ((j : Int) * W)) + (i : Int))) (wrapF .i64 ((wrapF .i64 ((wrapF .i64 ((wrapF .i64 ((j : Int) * W)) + (i : Int))) + W)) + 1)) (wrapF .i64 ((wrapF .i64 ((wrapF .i64 ((j : Int) * W)) + (i : Int))) + W))]
def rowT (W : Int) (w j : Nat) : List (A3 Int) := (List.range w).flatMap (cellT W j)
def triT (W : Int) (w h : Nat) : List (A3 Int) := (List.range h).flatMap (rowT W w)
theorem row_succ {W : Int} {w j : Nat} : (List.range (w + 1)).flatMap (cellT W j) = (List.range w).flatMap (cellT W j) ++ cellT W j w := by rw [List.range_succ, List.flatMap_append]; simp
theorem tri_succ {W : Int} {w h : Nat} : triT W w (h + 1) = triT W w h ++ rowT W w h := by unfold triT; rw [List.range_succ, List.flatMap_append]; simp
theorem row_len {W : Int} {j : Nat} : ∀ w : Nat, ((List.range w).flatMap (cellT W j)).length = 2 * w
 | 0 => rfl
 | w + 1 => by rw [row_succ, List.length_append, row_len w]; simp [cellT]; omega
theorem tri_len {W : Int} {w : Nat} : ∀ h : Nat, (triT W w h).length = 2 * w * h
 | 0 => rfl
 | h + 1 => by rw [tri_succ, List.length_append, tri_len h, rowT, row_len, Nat.mul_succ]
def hasZ (Z : List Int) (t : A3 Int) : Bool := (gt Z t.e0 != -2147483648) && ((gt Z t.e1 != -2147483648) && (gt Z t.e2 != -2147483648))
theorem filter_take {L : List (A3 Int)} {p : A3 Int → Bool} {k : Nat} (h : k < L.length) : (L.take (k + 1)).filter p = (L.take k).filter p ++ (if p (L.getD k default) = true then [L.getD k default] else []) := by
 rw [List.take_add_one, List.getElem?_eq_getElem h, List.filter_append]
 have : L.getD k default = L[k] := by simp [List.getD, List.getElem?_eq_getElem h]
 rw [this]
 by_cases hp : p L[k] = true
 · simp [hp]
 · simp [hp]
theorem pick2 {Z : List Int} {L : List (A3 Int)} {n : Nat} (hn : 2 < n) (hL : L.length = 2) (out : List (A3 Int)) (ho : out.length ≤ 100000)
  (hr : ∀ k, k < 2 → inR (L.getD k default).e0 Z.length = true ∧ inR (L.getD k default).e1 Z.length = true ∧ inR (L.getD k default).e2 Z.length = true) :
  loopO (α := List (A3 Int) × Int) (β := List (A3 Int)) n (fun again129 (out_115, x_116) => (
   cdO (decide (x_116 < 2)) (gdO (inR x_116 L.length) (gdO (inR (gt L x_116).e0 Z.length) (cdO ((gt Z (gt L x_116).e0 : Int) != (-2147483648)) (gdO (inR (gt L x_116).e1 Z.length) (cdO ((gt Z (gt L x_116).e1 : Int) != (-2147483648)) (gdO (inR (gt L x_116).e2 Z.length) (cdO ((gt Z (gt L x_116).e2 : Int) != (-2147483648)) (
    gdO (decide ((out_115.length + 1) * 24 ≤ 140737488355328)) (gdO (decide (out_115.length + 1 ≤ 4611686018427387904)) (again129 (out_115 ++ [gt L x_116], wrapF .i64 (x_116 + 1))))) (again129 (out_115, wrapF .i64 (x_116 + 1))))) (again129 (out_115, wrapF .i64 (x_116 + 1))))) (again129 (out_115, wrapF .i64 (x_116 + 1)))))) (some out_115))) (out, 0) = some (out ++ L.filter (hasZ Z)) := by
 apply Ok.eq
 refine ok_rangeR (len := 2) (fun k c => c = out ++ (L.take k).filter (hasZ Z)) (by omega) (by omega) (by simp) ?_ ?_
 · rintro again k c hk rfl ih
   obtain ⟨r0, r1, r2⟩ := hr k hk
   have hft := filter_take (L := L) (p := hasZ Z) (k := k) (by omega)
   have hlt : (out ++ (L.take k).filter (hasZ Z)).length ≤ 100002 := by
    have := List.length_filter_le (hasZ Z) (L.take k)
    rw [List.length_take] at this
    rw [List.length_append]; omega
   rw [← gt_nat] at r0 r1 r2 hft
   have no : hasZ Z (gt L (k : Int)) = false → Ok (again (out ++ (L.take k).filter (hasZ Z), wrapF .i64 ((k : Int) + 1))) (fun o => o = out ++ L.filter (hasZ Z)) := fun h => ih _ (by rw [hft, h]; simp)
   refine Ok.cd (fun _ => ?_) (fun h => by have := of_decide_eq_false h; omega)
   refine Ok.gd (by rw [inR_nat]; exact decide_eq_true (by omega)) (Ok.gd r0 ?_)
   refine Ok.cd (fun h0 => ?_) (fun h => no (by unfold hasZ; rw [h]; rfl))
   refine Ok.gd r1 (Ok.cd (fun h1 => ?_) (fun h => no (by unfold hasZ; rw [h0, h]; rfl)))
   refine Ok.gd r2 (Ok.cd (fun h2 => ?_) (fun h => no (by unfold hasZ; rw [h0, h1, h]; rfl)))
   refine Ok.gd (decide_eq_true (by omega)) (Ok.gd (decide_eq_true (by omega)) (ih _ ?_))
   rw [hft, if_pos (by unfold hasZ; rw [h0, h1, h2]; rfl), List.append_assoc]
 · rintro again c rfl
   refine Ok.cd (fun h => by simp at h) (fun _ => ok_some.2 ?_)
   rw [List.take_of_length_le (by omega)]
structure Gd (g : api_Grid) (w h : Nat) : Prop where
 dim : Dim g
 W : g.Width = (w : Int)
 H : g.Height = (h : Int)
 w1 : 2 ≤ w ∧ w ≤ 64
 h1 : 2 ≤ h ∧ h ≤ 64
 m : g.Z.length = w * h
theorem gd_of {g : api_Grid} (h : gcode g = 0) : ∃ w h : Nat, Gd g w h := by
 obtain ⟨d, e, _⟩ := gc_zero h
 have := d.w; have := d.h
 have hW : g.Width = ((g.Width.toNat : Nat) : Int) := by omega
 have hH : g.Height = ((g.Height.toNat : Nat) : Int) := by omega
 refine ⟨g.Width.toNat, g.Height.toNat, d, hW, hH, by omega, by omega, ?_⟩
 have e2 : g.Width * g.Height = ((g.Width.toNat * g.Height.toNat : Nat) : Int) := by rw [Int.natCast_mul, ← hW, ← hH]
 omega
theorem cell_in {w h j i m : Nat} (hm : m = w * h) (hw : w ≤ 64) (hh : h ≤ 64) (hj : j < h - 1) (hi : i < w - 1) (k : Nat) (hk : k < 2) :
  inR ((cellT (w : Int) j i).getD k default).e0 m = true ∧ inR ((cellT (w : Int) j i).getD k default).e1 m = true ∧ inR ((cellT (w : Int) j i).getD k default).e2 m = true := by
 have h1 : (j + 2) * w ≤ h * w := Nat.mul_le_mul_right w (by omega)
 have h2 : h * w ≤ 64 * 64 := Nat.mul_le_mul hh hw
 rw [Nat.mul_comm h w, Nat.add_mul] at h1
 rw [Nat.mul_comm h w] at h2
 have e : ((j : Int) * (w : Int)) = ((j * w : Nat) : Int) := (Int.natCast_mul _ _).symm
 unfold cellT
 rw [e]
 generalize j * w = J at *
 generalize w * h = M at *
 rw [wrap64_in (n := (J : Int)) (by omega) (by omega), wrap64_in (n := (J : Int) + (i : Int)) (by omega) (by omega), wrap64_in (n := (J : Int) + (i : Int) + 1) (by omega) (by omega), wrap64_in (n := (J : Int) + (i : Int) + (w : Int)) (by omega) (by omega), wrap64_in (n := (J : Int) + (i : Int) + (w : Int) + 1) (by omega) (by omega)]
 simp only [inR_iff]
 rcases (show k = 0 ∨ k = 1 by omega) with rfl | rfl
 · show (0 ≤ (J : Int) + i ∧ (J : Int) + i < m) ∧ (0 ≤ (J : Int) + i + 1 ∧ (J : Int) + i + 1 < m) ∧ (0 ≤ (J : Int) + i + w + 1 ∧ (J : Int) + i + w + 1 < m)
   omega
 · show (0 ≤ (J : Int) + i ∧ (J : Int) + i < m) ∧ (0 ≤ (J : Int) + i + w + 1 ∧ (J : Int) + i + w + 1 < m) ∧ (0 ≤ (J : Int) + i + w ∧ (J : Int) + i + w < m)
   omega
def triF (g : api_Grid) (w h : Nat) : List (A3 Int) := (triT g.Width (w - 1) (h - 1)).filter (hasZ g.Z)
theorem tri_v {n : Nat} (hn : 200 < n) {g : api_Grid} {w h : Nat} (hg : Gd g w h) : volume_triangles n g = some (triF g w h) := by
 have hw := hg.w1; have hh := hg.h1
 have hH := hg.H; have hW := hg.W
 apply Ok.eq
 unfold volume_triangles
 rw [hH, wrap64_in (n := (h : Int) - 1) (by omega) (by omega), wrap64_in (n := g.Width - 1) (by omega) (by omega)]
 refine Ok.bd (R := fun o => o = triF g w h) ?_ (fun o ho => ok_some.2 ho)
 refine ok_rangeR (len := h - 1) (fun j c => c = (triT g.Width (w - 1) j).filter (hasZ g.Z)) (by omega) (by omega) rfl ?_ ?_
 · rintro again j c hj rfl ih
   have hjl := tri_len (W := g.Width) (w := w - 1) j
   have hjb : 2 * (w - 1) * j ≤ 2 * 63 * 63 := Nat.mul_le_mul (by omega) (by omega)
   refine Ok.cd (fun _ => ?_) (fun h => by have := of_decide_eq_false h; omega)
   refine Ok.bd (R := fun o => o = (triT g.Width (w - 1) (j + 1)).filter (hasZ g.Z)) ?_ (fun o ho => ih _ ho)
   refine ok_rangeR (len := w - 1) (fun i c => c = (triT g.Width (w - 1) j ++ (List.range i).flatMap (cellT g.Width j)).filter (hasZ g.Z)) (by omega) (by omega) (by simp) ?_ ?_
   · rintro again2 i c hi rfl ih2
     refine Ok.cd (fun _ => ?_) (fun h => by have := of_decide_eq_false h; omega)
     have hlen := List.length_filter_le (hasZ g.Z) (triT g.Width (w - 1) j ++ (List.range i).flatMap (cellT g.Width j))
     rw [List.length_append, hjl, row_len] at hlen
     refine Ok.bde (pick2 (L := cellT g.Width j i) (Z := g.Z) (by omega) rfl _ (by omega) (fun k hk => by rw [hW]; exact cell_in hg.m hw.2 hh.2 hj hi k hk)) ?_
     refine ih2 _ ?_
     rw [row_succ, ← List.append_assoc, List.filter_append (p := hasZ g.Z) (triT g.Width (w - 1) j ++ (List.range i).flatMap (cellT g.Width j))]
   · rintro again2 c rfl
     refine Ok.cd (fun h => by have := of_decide_eq_true h; omega) (fun _ => ok_some.2 ?_)
     rw [tri_succ]; rfl
 · rintro again c rfl
   exact Ok.cd (fun h => by have := of_decide_eq_true h; omega) (fun _ => ok_some.2 rfl)
theorem mem_tri {W : Int} {w : Nat} {t : A3 Int} : ∀ {h : Nat}, t ∈ triT W w h → ∃ j i k, j < h ∧ i < w ∧ k < 2 ∧ t = (cellT W j i).getD k default := by
 intro h ht
 unfold triT at ht
 obtain ⟨j, hj, ht⟩ := List.mem_flatMap.1 ht
 unfold rowT at ht
 obtain ⟨i, hi, ht⟩ := List.mem_flatMap.1 ht
 rw [List.mem_range] at hj hi
 obtain ⟨k, hk, e⟩ := List.getElem_of_mem ht
 refine ⟨j, i, k, hj, hi, hk, ?_⟩
 simp only [List.getD, List.getElem?_eq_getElem hk, Option.getD_some]; exact e.symm
theorem tri_in {g : api_Grid} {w h : Nat} (hg : Gd g w h) {t : A3 Int} (ht : t ∈ triT g.Width (w - 1) (h - 1)) : inR t.e0 g.Z.length = true ∧ inR t.e1 g.Z.length = true ∧ inR t.e2 g.Z.length = true := by
 obtain ⟨j, i, k, hj, hi, hk, rfl⟩ := mem_tri ht
 rw [hg.W]
 exact cell_in hg.m hg.w1.2 hg.h1.2 hj hi k hk
end Go.L

