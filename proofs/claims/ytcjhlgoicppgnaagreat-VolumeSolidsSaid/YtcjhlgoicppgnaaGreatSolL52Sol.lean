import Derived.Test.YtcjhlgoicppgnaaGreatSolL52a
set_option linter.all false
namespace Go.L
open Go Go.Eng
theorem min_ok {n : Nat} {s : List Int} (h0 : 0 < s.length) (hn : s.length < n) (hl : s.length ≤ 9223372036854775806) : Ok (slices_Min_int_int n s) fun _ => True := by
 unfold slices_Min_int_int
 refine Ok.gd (by simp; omega) (Ok.gd (by rw [inR_iff]; omega) (Ok.bd (R := fun _ => True) ?_ (fun _ _ => ok_some.2 trivial)))
 refine ok_loop (fun x : Int × Int => ∃ k : Nat, x.2 = (k : Int) ∧ k ≤ s.length) (fun x => s.length - x.2.toNat) ?_ n _ ⟨1, rfl, h0⟩ (by simp; omega)
 rintro again ⟨c, x⟩ ⟨k, hx, hk⟩ ih
 obtain rfl : x = (k : Int) := hx
 dsimp only at ih ⊢
 refine Ok.cd (fun h => ?_) (fun _ => ok_some.2 trivial)
 have h := of_decide_eq_true h
 refine Ok.gd (by rw [inR_nat]; exact decide_eq_true (by omega)) ?_
 rw [wrap64_in (by omega) (by omega)]
 refine ih _ ⟨k + 1, by simp, by omega⟩ ?_
 simp; omega
def spotE (g : api_Grid) (k : Int) (z : Int) : api_Spot := api_Spot.mk (wrapF .i64 (g.X0 + (wrapF .i64 ((k.tmod g.Width) * g.Step)))) (wrapF .i64 (g.Y0 + (wrapF .i64 ((wrapF .i64 (k.tdiv g.Width)) * g.Step)))) z
def topV (g : api_Grid) (k : Nat) : api_Spot := spotE g k (gt g.Z (k : Int))
def vertL (g : api_Grid) (base : Int) : List api_Spot := (List.range g.Z.length).map (topV g) ++ (List.range g.Z.length).map (fun k : Nat => spotE g (k : Int) base)
theorem tmod_nat {a b : Nat} : ((a : Int)).tmod (b : Int) = ((a % b : Nat) : Int) := by rw [Int.tmod_eq_emod_of_nonneg (by omega)]; rfl
def cellT (W : Int) (j i : Nat) : List (A3 Int) := [A3.mk (wrapF .i64 ((wrapF .i64 ((j : Int) * W)) + (i : Int))) (wrapF .i64 ((wrapF .i64 ((wrapF .i64 ((j : Int) * W)) + (i : Int))) + 1)) (wrapF .i64 ((wrapF .i64 ((wrapF .i64 ((wrapF .i64 ((j : Int) * W)) + (i : Int))) + W)) + 1)), A3.mk (wrapF .i64 ((wrapF .i64 ((j : Int) * W)) + (i : Int))) (wrapF .i64 ((wrapF .i64 ((wrapF .i64 ((wrapF .i64 ((j : Int) * W)) + (i : Int))) + W)) + 1)) (wrapF .i64 ((wrapF .i64 ((wrapF .i64 ((j : Int) * W)) + (i : Int))) + W))]
def rowT (W : Int) (w j : Nat) : List (A3 Int) := (List.range w).flatMap (cellT W j)
def triT (W : Int) (w h : Nat) : List (A3 Int) := (List.range h).flatMap (rowT W w)
theorem row_succ {W : Int} {w j : Nat} : (List.range (w + 1)).flatMap (cellT W j) = (List.range w).flatMap (cellT W j) ++ cellT W j w := by rw [List.range_succ, List.flatMap_append]; simp
theorem tri_succ {W : Int} {w h : Nat} : triT W w (h + 1) = triT W w h ++ rowT W w h := by unfold triT; rw [List.range_succ, List.flatMap_append]; simp
theorem row_len {W : Int} {j : Nat} : ∀ w : Nat, ((List.range w).flatMap (cellT W j)).length = 2 * w
 | 0 => rfl
 | w + 1 => by rw [row_succ, List.length_append, row_len w]; simp [cellT]; omega
theorem tri_len {W : Int} {w : Nat} : ∀ h : Nat, (triT W w h).length = 2 * w * h
 | 0 => rfl
 | h + 1 => by rw [tri_succ, List.length_append, tri_len h, rowT, row_len, Nat.mul_succ]
theorem pick2 {Z : List Int} {L : List (A3 Int)} {n : Nat} (hn : 2 < n) (hL : L.length = 2) (out : List (A3 Int)) (ho : out.length ≤ 100000)
  (hr : ∀ k, k < 2 → inR (L.getD k default).e0 Z.length = true ∧ inR (L.getD k default).e1 Z.length = true ∧ inR (L.getD k default).e2 Z.length = true) (hz : ∀ i, inR i Z.length = true → (gt Z i != -2147483648) = true) :
  loopO (α := List (A3 Int) × Int) (β := List (A3 Int)) n (fun again129 (out_115, x_116) => (
   cdO (decide (x_116 < 2)) (gdO (inR x_116 L.length) (gdO (inR (gt L x_116).e0 Z.length) (cdO ((gt Z (gt L x_116).e0 : Int) != (-2147483648)) (gdO (inR (gt L x_116).e1 Z.length) (cdO ((gt Z (gt L x_116).e1 : Int) != (-2147483648)) (gdO (inR (gt L x_116).e2 Z.length) (cdO ((gt Z (gt L x_116).e2 : Int) != (-2147483648)) (
    gdO (decide ((out_115.length + 1) * 24 ≤ 140737488355328)) (gdO (decide (out_115.length + 1 ≤ 4611686018427387904)) (again129 (out_115 ++ [gt L x_116], wrapF .i64 (x_116 + 1))))) (again129 (out_115, wrapF .i64 (x_116 + 1))))) (again129 (out_115, wrapF .i64 (x_116 + 1))))) (again129 (out_115, wrapF .i64 (x_116 + 1)))))) (some out_115))) (out, 0) = some (out ++ L) := by
 apply Ok.eq
 refine ok_rangeR (len := 2) (fun k c => c = out ++ L.take k) (by omega) (by omega) (by simp) ?_ ?_
 · rintro again k c hk rfl ih
   obtain ⟨r0, r1, r2⟩ := hr k hk
   have hlt : (out ++ L.take k).length ≤ 100002 := by simp; omega
   rw [← gt_nat] at r0 r1 r2
   refine Ok.cd (fun _ => ?_) (fun h => by have := of_decide_eq_false h; omega)
   refine Ok.gd (by rw [inR_nat]; exact decide_eq_true (by omega)) (Ok.gd r0 ?_)
   refine Ok.cd (fun _ => ?_) (fun h => by rw [hz _ r0] at h; cases h)
   refine Ok.gd r1 (Ok.cd (fun _ => ?_) (fun h => by rw [hz _ r1] at h; cases h))
   refine Ok.gd r2 (Ok.cd (fun _ => ?_) (fun h => by rw [hz _ r2] at h; cases h))
   refine Ok.gd (decide_eq_true (by omega)) (Ok.gd (decide_eq_true (by omega)) (ih _ ?_))
   rw [List.append_assoc, gt_nat]
   congr 1
   rw [List.take_add_one, List.getElem?_eq_getElem (by omega)]
   simp [List.getD, List.getElem?_eq_getElem (show k < L.length by omega)]
 · rintro again c rfl
   refine Ok.cd (fun h => by simp at h) (fun _ => ok_some.2 ?_)
   rw [List.take_of_length_le (by omega)]
structure Gd (g : api_Grid) (w h : Nat) : Prop where
 dim : Dim g
 W : g.Width = (w : Int)
 H : g.Height = (h : Int)
 w1 : 2 ≤ w ∧ w ≤ 64
 h1 : 2 ≤ h ∧ h ≤ 64
 m : g.Z.length = w * h
theorem gd_of {g : api_Grid} (h : gcode g = 0) : ∃ w h : Nat, Gd g w h := by
 obtain ⟨d, e, _⟩ := gc_zero h
 have := d.w; have := d.h
 have hW : g.Width = ((g.Width.toNat : Nat) : Int) := by omega
 have hH : g.Height = ((g.Height.toNat : Nat) : Int) := by omega
 refine ⟨g.Width.toNat, g.Height.toNat, d, hW, hH, by omega, by omega, ?_⟩
 have e2 : g.Width * g.Height = ((g.Width.toNat * g.Height.toNat : Nat) : Int) := by rw [Int.natCast_mul, ← hW, ← hH]
 omega
theorem cell_in {w h j i m : Nat} (hm : m = w * h) (hw : w ≤ 64) (hh : h ≤ 64) (hj : j < h - 1) (hi : i < w - 1) (k : Nat) (hk : k < 2) :
  inR ((cellT (w : Int) j i).getD k default).e0 m = true ∧ inR ((cellT (w : Int) j i).getD k default).e1 m = true ∧ inR ((cellT (w : Int) j i).getD k default).e2 m = true := by
 have h1 : (j + 2) * w ≤ h * w := Nat.mul_le_mul_right w (by omega)
 have h2 : h * w ≤ 64 * 64 := Nat.mul_le_mul hh hw
 rw [Nat.mul_comm h w, Nat.add_mul] at h1
 rw [Nat.mul_comm h w] at h2
 have e : ((j : Int) * (w : Int)) = ((j * w : Nat) : Int) := (Int.natCast_mul _ _).symm
 unfold cellT
 rw [e]
 generalize j * w = J at *
 generalize w * h = M at *
 rw [wrap64_in (n := (J : Int)) (by omega) (by omega), wrap64_in (n := (J : Int) + (i : Int)) (by omega) (by omega), wrap64_in (n := (J : Int) + (i : Int) + 1) (by omega) (by omega), wrap64_in (n := (J : Int) + (i : Int) + (w : Int)) (by omega) (by omega), wrap64_in (n := (J : Int) + (i : Int) + (w : Int) + 1) (by omega) (by omega)]
 simp only [inR_iff]
 rcases (show k = 0 ∨ k = 1 by omega) with rfl | rfl
 · show (0 ≤ (J : Int) + i ∧ (J : Int) + i < m) ∧ (0 ≤ (J : Int) + i + 1 ∧ (J : Int) + i + 1 < m) ∧ (0 ≤ (J : Int) + i + w + 1 ∧ (J : Int) + i + w + 1 < m)
   omega
 · show (0 ≤ (J : Int) + i ∧ (J : Int) + i < m) ∧ (0 ≤ (J : Int) + i + w + 1 ∧ (J : Int) + i + w + 1 < m) ∧ (0 ≤ (J : Int) + i + w ∧ (J : Int) + i + w < m)
   omega
theorem tri_v {n : Nat} (hn : 200 < n) {g : api_Grid} {w h : Nat} (hg : Gd g w h) (hz : ∀ i, inR i g.Z.length = true → (gt g.Z i != -2147483648) = true) : volume_triangles n g = some (triT g.Width (w - 1) (h - 1)) := by
 have hw := hg.w1; have hh := hg.h1
 have hH := hg.H; have hW := hg.W
 apply Ok.eq
 unfold volume_triangles
 rw [hH, wrap64_in (n := (h : Int) - 1) (by omega) (by omega), wrap64_in (n := g.Width - 1) (by omega) (by omega)]
 refine Ok.bd (R := fun o => o = triT g.Width (w - 1) (h - 1)) ?_ (fun o ho => ok_some.2 ho)
 refine ok_rangeR (len := h - 1) (fun j c => c = triT g.Width (w - 1) j) (by omega) (by omega) rfl ?_ ?_
 · rintro again j c hj rfl ih
   have hjl := tri_len (W := g.Width) (w := w - 1) j
   have hjb : 2 * (w - 1) * j ≤ 2 * 63 * 63 := Nat.mul_le_mul (by omega) (by omega)
   refine Ok.cd (fun _ => ?_) (fun h => by have := of_decide_eq_false h; omega)
   refine Ok.bd (R := fun o => o = triT g.Width (w - 1) (j + 1)) ?_ (fun o ho => ih _ ho)
   refine ok_rangeR (len := w - 1) (fun i c => c = triT g.Width (w - 1) j ++ (List.range i).flatMap (cellT g.Width j)) (by omega) (by omega) (by simp) ?_ ?_
   · rintro again2 i c hi rfl ih2
     refine Ok.cd (fun _ => ?_) (fun h => by have := of_decide_eq_false h; omega)
     refine Ok.bde (pick2 (L := cellT g.Width j i) (by omega) rfl _ (by rw [List.length_append, hjl, row_len]; omega) (fun k hk => by rw [hW]; exact cell_in hg.m hw.2 hh.2 hj hi k hk) hz) ?_
     refine ih2 _ ?_
     rw [row_succ, List.append_assoc]
   · rintro again2 c rfl
     refine Ok.cd (fun h => by have := of_decide_eq_true h; omega) (fun _ => ok_some.2 ?_)
     rw [tri_succ]; rfl
 · rintro again c rfl
   exact Ok.cd (fun h => by have := of_decide_eq_true h; omega) (fun _ => ok_some.2 rfl)
theorem gd2 {l m : List (A3 Int)} (h : l.length ≤ 100000) : (gdO (decide ((l.length + 2) * 24 ≤ 140737488355328)) (gdO (decide (l.length + 2 ≤ 4611686018427387904)) (some (l ++ m))) : Option (List (A3 Int))) = some (l ++ m) := by
 rw [decide_eq_true (show (l.length + 2) * 24 ≤ 140737488355328 by omega), decide_eq_true (show l.length + 2 ≤ 4611686018427387904 by omega)]; rfl
theorem vert_v {n : Nat} (hn : 2000 < n) {g : api_Grid} {w h : Nat} (hg : Gd g w h) (h256 : g.Z.length ≤ 256) (base : Int) {F : (List api_Spot × Int → Option (List api_Spot)) → List api_Spot × Int → Option (List api_Spot)}
  (hF : ∀ again c (k : Nat), k < 2 * g.Z.length → c.length ≤ 5000 → F again (c, (k : Int)) = again (c ++ [spotE g ((k % g.Z.length : Nat) : Int) (if k < g.Z.length then gt g.Z (k : Int) else base)], wrapF .i64 ((k : Int) + 1))) (hE : ∀ again c, F again (c, ((2 * g.Z.length : Nat) : Int)) = some c) : loopO n F ([], 0) = some (vertL g base) := by
 apply Ok.eq
 refine ok_rangeR (len := 2 * g.Z.length) (fun k c => c = (List.range k).map fun k : Nat => spotE g ((k % g.Z.length : Nat) : Int) (if k < g.Z.length then gt g.Z (k : Int) else base)) (by omega) (by omega) rfl ?_ ?_
 · rintro again k c hk rfl ih
   rw [hF again _ k hk (by simp; omega)]
   exact ih _ (by rw [List.range_succ, List.map_append]; rfl)
 · rintro again c rfl
   rw [hE]
   refine ok_some.2 ?_
   rw [Nat.two_mul, List.range_add, List.map_append, List.map_map]
   unfold vertL
   congr 1
   · refine List.map_congr_left fun k hk => ?_
     rw [List.mem_range] at hk
     rw [if_pos hk, Nat.mod_eq_of_lt hk]; rfl
   · refine List.map_congr_left fun k hk => ?_
     rw [List.mem_range] at hk
     show spotE g (((g.Z.length + k) % g.Z.length : Nat) : Int) (if g.Z.length + k < g.Z.length then _ else base) = _
     rw [if_neg (by omega), Nat.add_mod_left, Nat.mod_eq_of_lt hk]
def dblT (n : Int) (t : A3 Int) : List (A3 Int) := [t, A3.mk (wrapF .i64 (t.e0 + n)) (wrapF .i64 (t.e2 + n)) (wrapF .i64 (t.e1 + n))]
theorem dbl_len (n : Int) : ∀ l : List (A3 Int), (l.flatMap (dblT n)).length = 2 * l.length
 | [] => rfl
 | t :: l => by rw [List.flatMap_cons, List.length_append, dbl_len n l]; simp [dblT]; omega
theorem flat_take {α β : Type} [Inhabited α] (f : α → List β) {l : List α} {k : Nat} (h : k < l.length) : (l.take (k + 1)).flatMap f = (l.take k).flatMap f ++ f (l.getD k default) := by
 rw [List.take_add_one, List.getElem?_eq_getElem h, List.flatMap_append]
 simp [List.getD, List.getElem?_eq_getElem h]
theorem mul_le2 {w h m : Nat} (hm : m = w * h) : (w - 1) * (h - 1) ≤ m := by rw [hm]; exact Nat.mul_le_mul (by omega) (by omega)
theorem ltri_v {n : Nat} (hn : 200 < n) {g : api_Grid} {w h : Nat} (hg : Gd g w h) (V : List api_Spot) (N : Int) : fiduciallaw52_triangles_w_of_fiduciallaw52_solid_1 n g.Width g.Height V [] N = some ((triT g.Width (w - 1) (h - 1)).flatMap (dblT N)) := by
 have hw := hg.w1; have hh := hg.h1
 have hH := hg.H; have hW := hg.W
 apply Ok.eq
 unfold fiduciallaw52_triangles_w_of_fiduciallaw52_solid_1
 rw [hH, wrap64_in (n := (h : Int) - 1) (by omega) (by omega), wrap64_in (n := g.Width - 1) (by omega) (by omega)]
 refine Ok.bd (R := fun o => o = (triT g.Width (w - 1) (h - 1)).flatMap (dblT N)) ?_ (fun o ho => ok_some.2 ho)
 refine ok_rangeR (len := h - 1) (fun j c => c = (triT g.Width (w - 1) j).flatMap (dblT N)) (by omega) (by omega) rfl ?_ ?_
 · rintro again j c hj rfl ih
   have hjl := tri_len (W := g.Width) (w := w - 1) j
   have hjb : 2 * (w - 1) * j ≤ 2 * 63 * 63 := Nat.mul_le_mul (by omega) (by omega)
   refine Ok.cd (fun _ => ?_) (fun h => by have := of_decide_eq_false h; omega)
   refine Ok.bd (R := fun o => o = (triT g.Width (w - 1) (j + 1)).flatMap (dblT N)) ?_ (fun o ho => ih _ ho)
   refine ok_rangeR (len := w - 1) (fun i c => c = (triT g.Width (w - 1) j ++ (List.range i).flatMap (cellT g.Width j)).flatMap (dblT N)) (by omega) (by omega) (by simp) ?_ ?_
   · rintro again2 i c hi rfl ih2
     have hl : ((triT g.Width (w - 1) j ++ (List.range i).flatMap (cellT g.Width j)).flatMap (dblT N)).length ≤ 40000 := by rw [dbl_len, List.length_append, hjl, row_len]; omega
     refine Ok.cd (fun _ => ?_) (fun h => by have := of_decide_eq_false h; omega)
     unfold fiduciallaw52_solid_1_w
     refine Ok.bde (gd2 (by omega)) (Ok.bde (gd2 (by rw [List.length_append]; simp only [List.length_cons, List.length_nil]; omega)) (ih2 _ ?_))
     rw [row_succ, ← List.append_assoc, List.flatMap_append (xs := triT g.Width (w - 1) j ++ (List.range i).flatMap (cellT g.Width j)), List.append_assoc]
     rfl
   · rintro again2 c rfl
     refine Ok.cd (fun h => by have := of_decide_eq_true h; omega) (fun _ => ok_some.2 ?_)
     rw [tri_succ]; rfl
 · rintro again c rfl
   exact Ok.cd (fun h => by have := of_decide_eq_true h; omega) (fun _ => ok_some.2 rfl)
theorem dbl_v {n : Nat} {T : List (A3 Int)} (hT : T.length ≤ 4000) (hn : 4000 < n) (N : Int) : loopO (α := List (A3 Int) × Int) (β := List (A3 Int)) n (fun again99 (out_91, x_92) => (
      cdO (decide (x_92 < (T.length : Int))) (gdO (inR x_92 T.length) (gdO (decide ((out_91.length + 2) * 24 ≤ 140737488355328)) (gdO (decide (out_91.length + 2 ≤ 4611686018427387904)) (
       again99 (out_91 ++ [(gt T x_92), A3.mk (wrapF .i64 ((gt T x_92).e0 + N)) (wrapF .i64 ((gt T x_92).e2 + N)) (wrapF .i64 ((gt T x_92).e1 + N))], wrapF .i64 (x_92 + 1)))))) (some out_91))) ([], 0) = some (T.flatMap (dblT N)) := by
 apply Ok.eq
 refine ok_rangeR (len := T.length) (fun k c => c = (T.take k).flatMap (dblT N)) (by omega) (by omega) rfl ?_ ?_
 · rintro again k c hk rfl ih
   have hl : ((T.take k).flatMap (dblT N)).length ≤ 8000 := by rw [dbl_len, List.length_take]; omega
   refine Ok.cd (fun _ => ?_) (fun h => by have := of_decide_eq_false h; omega)
   refine Ok.gd (by rw [inR_nat]; exact decide_eq_true hk) (Ok.gd (decide_eq_true (by omega)) (Ok.gd (decide_eq_true (by omega)) (ih _ ?_)))
   rw [flat_take _ hk, gt_nat]; rfl
 · rintro again c rfl
   refine Ok.cd (fun h => by simp at h) (fun _ => ok_some.2 ?_)
   rw [List.take_length]
theorem eqSpot_v {n : Nat} {s : List api_Spot} (hn : s.length < n) (hl : s.length ≤ 9223372036854775806) : slices_Equal_fiducial_api_Spot_fiducial_api_Spot n s s = some true := by
 apply Ok.eq
 unfold slices_Equal_fiducial_api_Spot_fiducial_api_Spot
 refine Ok.cd (fun h => by simp at h) (fun _ => ?_)
 refine Ok.bd (R := fun o => match o with | .inl _ => True | .inr r => r = true) ?_ ?_
 · refine ok_range (len := s.length) (fun _ => True) hn hl trivial ?_ ?_
   · intro again k hk _ ih
     refine Ok.cd (fun _ => ?_) (fun h => by simp at h; omega)
     refine Ok.gd (by rw [inR_nat]; simpa using hk) (Ok.gd (by rw [inR_nat]; simpa using hk) ?_)
     exact Ok.cd (fun h => by simp at h) (fun _ => ih trivial)
   · intro again _
     exact Ok.cd (fun h => by simp at h) (fun _ => ok_some.2 trivial)
 · rintro (_ | r) h
   · exact ok_some.2 rfl
   · exact ok_some.2 h
theorem eqTri_v {n : Nat} {s : List (A3 Int)} (hn : s.length < n) (hl : s.length ≤ 9223372036854775806) : slices_Equal_3_int_3_int n s s = some true := by
 apply Ok.eq
 unfold slices_Equal_3_int_3_int
 refine Ok.cd (fun h => by simp at h) (fun _ => ?_)
 refine Ok.bd (R := fun o => match o with | .inl _ => True | .inr r => r = true) ?_ ?_
 · refine ok_range (len := s.length) (fun _ => True) hn hl trivial ?_ ?_
   · intro again k hk _ ih
     refine Ok.cd (fun _ => ?_) (fun h => by simp at h; omega)
     refine Ok.gd (by rw [inR_nat]; simpa using hk) (Ok.gd (by rw [inR_nat]; simpa using hk) ?_)
     exact Ok.cd (fun h => by simp at h) (fun _ => ih trivial)
   · intro again _
     exact Ok.cd (fun h => by simp at h) (fun _ => ok_some.2 trivial)
 · rintro (_ | r) h
   · exact ok_some.2 rfl
   · exact ok_some.2 h
theorem wall_ok {n : Nat} {a b c : Int} {V : List api_Spot} {l : List (A3 Int)} (h : l.length ≤ 100000) : Ok (volume_Solid_1_w n a b V l c) fun r => r.length = l.length + 2 := by
 unfold volume_Solid_1_w
 rw [gd2 h]
 exact ok_some.2 (by simp)
theorem both_v (g : api_Grid) (base : Int) : B2 (volume_Solid 5000 g base) (fiduciallaw52_solid 5000 g base) fun r => r.1.Vertices.length < 5000 ∧ r.1.Faces.length < 5000 := by
 unfold volume_Solid fiduciallaw52_solid
 refine B2.bde (tcheck_v (by omega) g) (lcheck_v (by omega) g) (B2.cd (fun _ => B2.some' ⟨by simp, by simp⟩) (fun h0 => B2.cd (fun _ => B2.some' ⟨by simp, by simp⟩) (fun h256 => ?_)))
 have h0 : gcode g = 0 := by simpa using h0
 have h256 : g.Z.length ≤ 256 := by have := of_decide_eq_false h256; omega
 refine B2.bde (has_v (by omega) (by omega)) (has_v (by omega) (by omega)) (B2.cd (fun _ => B2.some' ⟨by simp, by simp⟩) (fun hhas => ?_))
 refine B2.bde vfar_v rfar_v (B2.cd (fun _ => B2.some' ⟨by simp, by simp⟩) (fun hfar => ?_))
 obtain ⟨w, h, hg⟩ := gd_of h0
 have hw := hg.w1; have hh := hg.h1; have hH := hg.H; have hW := hg.W; have hm := hg.m
 have hm4 : 4 ≤ g.Z.length := by rw [hm]; exact Nat.mul_le_mul hw.1 hh.1
 obtain ⟨mz, hmz, _⟩ := min_ok (n := 5000) (s := g.Z) (by omega) (by omega) (by omega)
 refine B2.bde hmz hmz (B2.cd (fun _ => B2.some' ⟨by simp, by simp⟩) (fun hlow => ?_))
 have hz : ∀ i, inR i g.Z.length = true → (gt g.Z i != -2147483648) = true := by
  intro i hi
  have hi2 := inR_iff.1 hi
  obtain ⟨k, rfl⟩ : ∃ k : Nat, i = (k : Int) := ⟨i.toNat, by omega⟩
  have hk : k < g.Z.length := by omega
  have := List.any_eq_false.1 hhas (g.Z.getD k default) (by simp only [List.getD, List.getElem?_eq_getElem hk, Option.getD_some]; exact List.getElem_mem hk)
  rw [gt_nat]
  simp at this ⊢
  exact fun e => this e.symm
 have hN : ¬ ((g.Z.length : Nat) : Int) = 0 := by omega
 have hWn : ¬ g.Width = 0 := by omega
 have dN : (!decide (((g.Z.length : Nat) : Int) = 0)) = true := by simpa using hN
 have dW : (!decide (g.Width = 0)) = true := by simpa using hWn
 refine B2.bde (b := vertL g base) (vert_v (by omega) hg h256 base (fun again c k hk hc => ?_) (fun again c => ?_)) (Ok.eq ?_) ?_
 · dsimp only
   rw [wrap64_in (n := 2 * (g.Z.length : Int)) (by omega) (by omega), decide_eq_true (show (k : Int) < 2 * (g.Z.length : Int) by omega), dN, dW, tmod_nat, decide_eq_true (show (c.length + 1) * 24 ≤ 140737488355328 by omega), decide_eq_true (show c.length + 1 ≤ 4611686018427387904 by omega), inR_nat]
   by_cases hkm : k < g.Z.length
   · rw [decide_eq_true (show (k : Int) < (g.Z.length : Int) by omega), decide_eq_true hkm, if_pos hkm]; rfl
   · rw [decide_eq_false (show ¬ (k : Int) < (g.Z.length : Int) by omega), if_neg hkm]; rfl
 · dsimp only
   rw [wrap64_in (n := 2 * (g.Z.length : Int)) (by omega) (by omega), decide_eq_false (show ¬ ((2 * g.Z.length : Nat) : Int) < 2 * (g.Z.length : Int) by omega)]; rfl
 · refine ok_rangeR (len := 2) (fun x c => c = match x with | 0 => [] | 1 => (List.range g.Z.length).map (topV g) | _ => vertL g base) (by omega) (by omega) rfl ?_ ?_
   · rintro again x c hx rfl ih
     refine Ok.cd (fun _ => ?_) (fun h => by have := of_decide_eq_false h; omega)
     refine Ok.gd (by rw [inR_nat]; exact decide_eq_true (by simpa using hx)) ?_
     rcases (show x = 0 ∨ x = 1 by omega) with rfl | rfl
     · refine Ok.bd (R := fun o => o = (List.range g.Z.length).map (topV g)) ?_ (fun o ho => ih _ ho)
       refine ok_rangeR (len := g.Z.length) (fun k c => c = (List.range k).map (topV g)) (by omega) (by omega) (by simp) ?_ ?_
       · rintro again2 k c hk rfl ih2
         refine Ok.cd (fun _ => ?_) (fun h => by have := of_decide_eq_false h; omega)
         refine Ok.gd (by rw [inR_nat]; exact decide_eq_true hk) (Ok.bde (b := gt g.Z (k : Int)) rfl (Ok.gd dW (Ok.gd (decide_eq_true (by simp; omega)) (Ok.gd (decide_eq_true (by simp; omega)) (ih2 _ ?_)))))
         rw [List.range_succ, List.map_append]; rfl
       · rintro again2 c rfl
         exact Ok.cd (fun h => by have := of_decide_eq_true h; omega) (fun _ => ok_some.2 rfl)
     · refine Ok.bd (R := fun o => o = vertL g base) ?_ (fun o ho => ih _ ho)
       refine ok_rangeR (len := g.Z.length) (fun k c => c = (List.range g.Z.length).map (topV g) ++ (List.range k).map (fun k : Nat => spotE g (k : Int) base)) (by omega) (by omega) (by simp) ?_ ?_
       · rintro again2 k c hk rfl ih2
         refine Ok.cd (fun _ => ?_) (fun h => by have := of_decide_eq_false h; omega)
         refine Ok.gd (by rw [inR_nat]; exact decide_eq_true hk) (Ok.bde (b := base) rfl (Ok.gd dW (Ok.gd (decide_eq_true (by simp; omega)) (Ok.gd (decide_eq_true (by simp; omega)) (ih2 _ ?_)))))
         rw [List.range_succ, List.map_append, List.append_assoc]; rfl
       · rintro again2 c rfl
         exact Ok.cd (fun h => by have := of_decide_eq_true h; omega) (fun _ => ok_some.2 rfl)
   · rintro again c rfl
     exact Ok.cd (fun h => by simp at h) (fun _ => ok_some.2 rfl)
 have hTl : (triT g.Width (w - 1) (h - 1)).length ≤ 512 := by rw [tri_len]; have := mul_le2 hm; rw [Nat.mul_assoc]; omega
 have hV : (vertL g base).length ≤ 512 := by unfold vertL; simp; omega
 have step : ∀ {x y : Option (List (A3 Int))} {f : List (A3 Int) → Option (api_Mesh × Int)} {f' : List (A3 Int) → Option (api_Mesh × Int)} {Q : api_Mesh × Int → Prop} {b : List (A3 Int)}, x = some b → y = some b → B2 (f b) (f' b) Q → B2 (bdO x f) (bdO y f') Q := fun h1 h2 k => B2.bde h1 h2 k
 have e1 := tri_v (n := 5000) (by omega) hg hz
 have e2 := ltri_v (n := 5000) (by omega) hg (vertL g base) (g.Z.length : Int)
 rw [e1]
 show B2 (bdO (loopO (α := List (A3 Int) × Int) (β := List (A3 Int)) 5000 _ ([], 0)) _) _ _
 refine B2.bde (dbl_v (by omega) (by omega) _) e2 ?_
 have hFl : ((triT g.Width (w - 1) (h - 1)).flatMap (dblT (g.Z.length : Int))).length ≤ 1024 := by rw [dbl_len]; omega
 generalize (triT g.Width (w - 1) (h - 1)).flatMap (dblT (g.Z.length : Int)) = F0 at *
 generalize vertL g base = V at *
 refine B2.of ?_
 rw [wrap64_in (n := g.Width - 1) (by omega) (by omega), wrap64_in (n := g.Height - 1) (by omega) (by omega)]
 refine Ok.bd (R := fun o => o.length ≤ 1024 + 4 * 64) ?_ (fun F1 hF1 => Ok.bd (R := fun o => o.length ≤ 1024 + 4 * 64 + 4 * 64) ?_ (fun F2 hF2 => ok_some.2 ⟨by show V.length < 5000; omega, by show F2.length < 5000; omega⟩))
 · refine ok_rangeR (len := w - 1) (fun k c => c.length ≤ 1024 + 4 * k) (by omega) (by omega) (by omega) ?_ ?_
   · intro again k c hk hc ih
     refine Ok.cd (fun _ => ?_) (fun h => by have := of_decide_eq_false h; omega)
     exact Ok.bd (wall_ok (by omega)) fun r1 h1 => Ok.bd (wall_ok (by omega)) fun r2 h2 => ih _ (by omega)
   · intro again c hc
     exact Ok.cd (fun h => by have := of_decide_eq_true h; omega) (fun _ => ok_some.2 (by omega))
 · refine ok_rangeR (len := h - 1) (fun k c => c.length ≤ 1024 + 4 * 64 + 4 * k) (by omega) (by omega) (by omega) ?_ ?_
   · intro again k c hk hc ih
     refine Ok.cd (fun _ => ?_) (fun h => by have := of_decide_eq_false h; omega)
     exact Ok.bd (wall_ok (by omega)) fun r1 h1 => Ok.bd (wall_ok (by omega)) fun r2 h2 => ih _ (by omega)
   · intro again c hc
     exact Ok.cd (fun h => by have := of_decide_eq_true h; omega) (fun _ => ok_some.2 (by omega))
theorem solids_v (g : api_Grid) (base : Int) : fiduciallaw52_VolumeSolids 5000 g base = some true := by
 obtain ⟨r, h1, h2, h3, h4⟩ := both_v g base
 apply Ok.eq
 unfold fiduciallaw52_VolumeSolids
 refine Ok.bde known52_v (Ok.cd (fun h => by cases h) (fun _ => Ok.bd (R := fun o => o = .inl () ∨ o = .inr true) ?_ ?_))
 · unfold fiduciallaw52_few
   refine Ok.bde rfl (Ok.cd (fun _ => Ok.cd (fun _ => ok_some.2 (.inr rfl)) (fun _ => ok_some.2 (.inl rfl))) (fun _ => ok_some.2 (.inl rfl)))
 · rintro o (rfl | rfl)
   · dsimp only
     refine Ok.bde h1 (Ok.bde h2 (Ok.cd (fun _ => ?_) (fun h => by simp at h)))
     refine Ok.bde (eqSpot_v h3 (by omega)) (Ok.cd (fun _ => ?_) (fun h => by cases h))
     exact Ok.bde (eqTri_v h4 (by omega)) (ok_some.2 rfl)
   · exact ok_some.2 rfl
end Go.L

