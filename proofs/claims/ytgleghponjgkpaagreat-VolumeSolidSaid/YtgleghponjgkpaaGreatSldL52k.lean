import Derived.Test.YtgleghponjgkpaaGreatSldL01q
import Derived.Test.YtgleghponjgkpaaGreatSldL52mon
import Derived.Test.YtgleghponjgkpaaGreatSldL52mon
import Derived.Test.YtgleghponjgkpaaGreatSldL52mon
set_option linter.all false
namespace Go.L
open Go Go.Eng
def cellT (W : Int) (j i : Nat) : List (A3 Int) := [A3.mk (wrapF .i64 ((wrapF .i64 ((j : Int) * W)) + (i : Int))) (wrapF .i64 ((wrapF .i64 ((wrapF .i64 ((j : Int) * W)) + (i : Int))) + 1)) (wrapF .i64 ((wrapF .i64 ((wrapF .i64 ((wrapF .i64 ((j : Int) * W)) + (i : Int))) + W)) + 1)), A3.mk (wrapF .i64 ((wrapF .i64 ((j : Int) * W)) + (i : Int))) (wrapF .i64 ((wrapF .i64 ((wrapF .i64 ((wrapF .i64 ((j : Int) * W)) + (i : Int))) + W)) + 1)) (wrapF .i64 ((wrapF .i64 ((wrapF .i64 ((j : Int) * W)) + (i : Int))) + W))]
def rowT (W : Int) (w j : Nat) : List (A3 Int) := (List.range w).flatMap (cellT W j)
def triT (W : Int) (w h : Nat) : List (A3 Int) := (List.range h).flatMap (rowT W w)
theorem row_succ {W : Int} {w j : Nat} : (List.range (w + 1)).flatMap (cellT W j) = (List.range w).flatMap (cellT W j) ++ cellT W j w := by rw [List.range_succ, List.flatMap_append]; simp
theorem tri_succ {W : Int} {w h : Nat} : triT W w (h + 1) = triT W w h ++ rowT W w h := by unfold triT; rw [List.range_succ, List.flatMap_append]; simp
theorem row_len {W : Int} {j : Nat} : ∀ w : Nat, ((List.range w).flatMap (cellT W j)).length = 2 * w
 | 0 => rfl
 | w + 1 => by rw [row_succ, List.length_append, row_len w]; simp [cellT]; omega
theorem tri_len {W : Int} {w : Nat} : ∀ h : Nat, (triT W w h).length = 2 * w * h
 | 0 => rfl
 | h + 1 => by rw [tri_succ, List.length_append, tri_len h, rowT, row_len, Nat.mul_succ]
def hasZ (Z : List Int) (t : A3 Int) : Bool := (gt Z t.e0 != -2147483648) && ((gt Z t.e1 != -2147483648) && (gt Z t.e2 != -2147483648))
theorem filter_take {L : List (A3 Int)} {p : A3 Int → Bool} {k : Nat} (h : k < L.length) : (L.take (k + 1)).filter p = (L.take k).filter p ++ (if p (L.getD k default) = true then [L.getD k default] else []) := by
 rw [List.take_add_one, List.getElem?_eq_getElem h, List.filter_append]
 have : L.getD k default = L[k] := by simp [List.getD, List.getElem?_eq_getElem h]
 rw [this]
 by_cases hp : p L[k] = true
 · simp [hp]
 · simp [hp]
theorem pick2 {Z : List Int} {L : List (A3 Int)} {n : Nat} (hn : 2 < n) (hL : L.length = 2) (out : List (A3 Int)) (ho : out.length ≤ 100000)
  (hr : ∀ k, k < 2 → inR (L.getD k default).e0 Z.length = true ∧ inR (L.getD k default).e1 Z.length = true ∧ inR (L.getD k default).e2 Z.length = true) :
  loopO (α := List (A3 Int) × Int) (β := List (A3 Int)) n (fun again129 (out_115, x_116) => (
   cdO (decide (x_116 < 2)) (gdO (inR x_116 L.length) (gdO (inR (gt L x_116).e0 Z.length) (cdO ((gt Z (gt L x_116).e0 : Int) != (-2147483648)) (gdO (inR (gt L x_116).e1 Z.length) (cdO ((gt Z (gt L x_116).e1 : Int) != (-2147483648)) (gdO (inR (gt L x_116).e2 Z.length) (cdO ((gt Z (gt L x_116).e2 : Int) != (-2147483648)) (
    gdO (decide ((out_115.length + 1) * 24 ≤ 140737488355328)) (gdO (decide (out_115.length + 1 ≤ 4611686018427387904)) (again129 (out_115 ++ [gt L x_116], wrapF .i64 (x_116 + 1))))) (again129 (out_115, wrapF .i64 (x_116 + 1))))) (again129 (out_115, wrapF .i64 (x_116 + 1))))) (again129 (out_115, wrapF .i64 (x_116 + 1)))))) (some out_115))) (out, 0) = some (out ++ L.filter (hasZ Z)) := by
 apply Ok.eq
 refine ok_rangeR (len := 2) (fun k c => c = out ++ (L.take k).filter (hasZ Z)) (by omega) (by omega) (by simp) ?_ ?_
 · rintro again k c hk rfl ih
   obtain ⟨r0, r1, r2⟩ := hr k hk
   have hft := filter_take (L := L) (p := hasZ Z) (k := k) (by omega)
   have hlt : (out ++ (L.take k).filter (hasZ Z)).length ≤ 100002 := by
    have := List.length_filter_le (hasZ Z) (L.take k)
    rw [List.length_take] at this
    rw [List.length_append]; omega
   rw [← gt_nat] at r0 r1 r2 hft
   have no : hasZ Z (gt L (k : Int)) = false → Ok (again (out ++ (L.take k).filter (hasZ Z), wrapF .i64 ((k : Int) + 1))) (fun o => o = out ++ L.filter (hasZ Z)) := fun h => ih _ (by rw [hft, h]; simp)
   refine Ok.cd (fun _ => ?_) (fun h => by have := of_decide_eq_false h; omega)
   refine Ok.gd (by rw [inR_nat]; exact decide_eq_true (by omega)) (Ok.gd r0 ?_)
   refine Ok.cd (fun h0 => ?_) (fun h => no (by unfold hasZ; rw [h]; rfl))
   refine Ok.gd r1 (Ok.cd (fun h1 => ?_) (fun h => no (by unfold hasZ; rw [h0, h]; rfl)))
   refine Ok.gd r2 (Ok.cd (fun h2 => ?_) (fun h => no (by unfold hasZ; rw [h0, h1, h]; rfl)))
   refine Ok.gd (decide_eq_true (by omega)) (Ok.gd (decide_eq_true (by omega)) (ih _ ?_))
   rw [hft, if_pos (by unfold hasZ; rw [h0, h1, h2]; rfl), List.append_assoc]
 · rintro again c rfl
   refine Ok.cd (fun h => by simp at h) (fun _ => ok_some.2 ?_)
   rw [List.take_of_length_le (by omega)]
structure Gd (g : api_Grid) (w h : Nat) : Prop where
 dim : Dim g
 W : g.Width = (w : Int)
 H : g.Height = (h : Int)
 w1 : 2 ≤ w ∧ w ≤ 64
 h1 : 2 ≤ h ∧ h ≤ 64
 m : g.Z.length = w * h
theorem cell_in {w h j i m : Nat} (hm : m = w * h) (hw : w ≤ 64) (hh : h ≤ 64) (hj : j < h - 1) (hi : i < w - 1) (k : Nat) (hk : k < 2) :
  inR ((cellT (w : Int) j i).getD k default).e0 m = true ∧ inR ((cellT (w : Int) j i).getD k default).e1 m = true ∧ inR ((cellT (w : Int) j i).getD k default).e2 m = true := by
 have h1 : (j + 2) * w ≤ h * w := Nat.mul_le_mul_right w (by omega)
 have h2 : h * w ≤ 64 * 64 := Nat.mul_le_mul hh hw
 rw [Nat.mul_comm h w, Nat.add_mul] at h1
 rw [Nat.mul_comm h w] at h2
 have e : ((j : Int) * (w : Int)) = ((j * w : Nat) : Int) := (Int.natCast_mul _ _).symm
 unfold cellT
 rw [e]
 generalize j * w = J at *
 generalize w * h = M at *
 rw [wrap64_in (n := (J : Int)) (by omega) (by omega), wrap64_in (n := (J : Int) + (i : Int)) (by omega) (by omega), wrap64_in (n := (J : Int) + (i : Int) + 1) (by omega) (by omega), wrap64_in (n := (J : Int) + (i : Int) + (w : Int)) (by omega) (by omega), wrap64_in (n := (J : Int) + (i : Int) + (w : Int) + 1) (by omega) (by omega)]
 simp only [inR_iff]
 rcases (show k = 0 ∨ k = 1 by omega) with rfl | rfl
 · show (0 ≤ (J : Int) + i ∧ (J : Int) + i < m) ∧ (0 ≤ (J : Int) + i + 1 ∧ (J : Int) + i + 1 < m) ∧ (0 ≤ (J : Int) + i + w + 1 ∧ (J : Int) + i + w + 1 < m)
   omega
 · show (0 ≤ (J : Int) + i ∧ (J : Int) + i < m) ∧ (0 ≤ (J : Int) + i + w + 1 ∧ (J : Int) + i + w + 1 < m) ∧ (0 ≤ (J : Int) + i + w ∧ (J : Int) + i + w < m)
   omega
def triF (g : api_Grid) (w h : Nat) : List (A3 Int) := (triT g.Width (w - 1) (h - 1)).filter (hasZ g.Z)
theorem tri_v {n : Nat} (hn : 200 < n) {g : api_Grid} {w h : Nat} (hg : Gd g w h) : volume_triangles n g = some (triF g w h) := by
 have hw := hg.w1; have hh := hg.h1
 have hH := hg.H; have hW := hg.W
 apply Ok.eq
 unfold volume_triangles
 rw [hH, wrap64_in (n := (h : Int) - 1) (by omega) (by omega), wrap64_in (n := g.Width - 1) (by omega) (by omega)]
 refine Ok.bd (R := fun o => o = triF g w h) ?_ (fun o ho => ok_some.2 ho)
 refine ok_rangeR (len := h - 1) (fun j c => c = (triT g.Width (w - 1) j).filter (hasZ g.Z)) (by omega) (by omega) rfl ?_ ?_
 · rintro again j c hj rfl ih
   have hjl := tri_len (W := g.Width) (w := w - 1) j
   have hjb : 2 * (w - 1) * j ≤ 2 * 63 * 63 := Nat.mul_le_mul (by omega) (by omega)
   refine Ok.cd (fun _ => ?_) (fun h => by have := of_decide_eq_false h; omega)
   refine Ok.bd (R := fun o => o = (triT g.Width (w - 1) (j + 1)).filter (hasZ g.Z)) ?_ (fun o ho => ih _ ho)
   refine ok_rangeR (len := w - 1) (fun i c => c = (triT g.Width (w - 1) j ++ (List.range i).flatMap (cellT g.Width j)).filter (hasZ g.Z)) (by omega) (by omega) (by simp) ?_ ?_
   · rintro again2 i c hi rfl ih2
     refine Ok.cd (fun _ => ?_) (fun h => by have := of_decide_eq_false h; omega)
     have hlen := List.length_filter_le (hasZ g.Z) (triT g.Width (w - 1) j ++ (List.range i).flatMap (cellT g.Width j))
     rw [List.length_append, hjl, row_len] at hlen
     refine Ok.bde (pick2 (L := cellT g.Width j i) (Z := g.Z) (by omega) rfl _ (by omega) (fun k hk => by rw [hW]; exact cell_in hg.m hw.2 hh.2 hj hi k hk)) ?_
     refine ih2 _ ?_
     rw [row_succ, ← List.append_assoc, List.filter_append (p := hasZ g.Z) (triT g.Width (w - 1) j ++ (List.range i).flatMap (cellT g.Width j))]
   · rintro again2 c rfl
     refine Ok.cd (fun h => by have := of_decide_eq_true h; omega) (fun _ => ok_some.2 ?_)
     rw [tri_succ]; rfl
 · rintro again c rfl
   exact Ok.cd (fun h => by have := of_decide_eq_true h; omega) (fun _ => ok_some.2 rfl)
theorem mem_tri {W : Int} {w : Nat} {t : A3 Int} : ∀ {h : Nat}, t ∈ triT W w h → ∃ j i k, j < h ∧ i < w ∧ k < 2 ∧ t = (cellT W j i).getD k default := by
 intro h ht
 unfold triT at ht
 obtain ⟨j, hj, ht⟩ := List.mem_flatMap.1 ht
 unfold rowT at ht
 obtain ⟨i, hi, ht⟩ := List.mem_flatMap.1 ht
 rw [List.mem_range] at hj hi
 obtain ⟨k, hk, e⟩ := List.getElem_of_mem ht
 refine ⟨j, i, k, hj, hi, hk, ?_⟩
 simp only [List.getD, List.getElem?_eq_getElem hk, Option.getD_some]; exact e.symm
theorem tri_in {g : api_Grid} {w h : Nat} (hg : Gd g w h) {t : A3 Int} (ht : t ∈ triT g.Width (w - 1) (h - 1)) : inR t.e0 g.Z.length = true ∧ inR t.e1 g.Z.length = true ∧ inR t.e2 g.Z.length = true := by
 obtain ⟨j, i, k, hj, hi, hk, rfl⟩ := mem_tri ht
 rw [hg.W]
 exact cell_in hg.m hg.w1.2 hg.h1.2 hj hi k hk
end Go.L


set_option linter.all false
namespace Go.L
open Go Go.Eng
def totF (n : Nat) (l : List (A3 Int)) (f : Int → Option Int) : (Bool × List Int × Bool × List Int × Bool × List Int × Bool × List Int × Int → Option (Bool × List Int × Bool × List Int × Bool × List Int × Bool × List Int)) → Bool × List Int × Bool × List Int × Bool × List Int × Bool × List Int × Int → Option (Bool × List Int × Bool × List Int × Bool × List Int × Bool × List Int) := fun again106 (above_68, above_69, above_70, above_71, below_72, below_73, below_74, below_75, x_76) => (
  cdO (decide (x_76 < (l.length : Int))) (
   gdO (inR x_76 l.length) (
   bdO (f (gt l x_76).e0) fun v110 => (
   bdO (fraction_Whole n v110) fun v112 => (
   bdO (f (gt l x_76).e1) fun v114 => (
   bdO (fraction_Whole n v114) fun v116 => (
   bdO (f (gt l x_76).e2) fun v118 => (
   bdO (fraction_Whole n v118) fun v120 => (
   bdO (volume_Triangle n v112 v116 v120) fun v122 => (
   bdO (fraction_Add n (api_Rat.mk (api_Int.mk above_68 above_69) (api_Int.mk above_70 above_71)) v122.1) fun v124 => (
   bdO (fraction_Add n (api_Rat.mk (api_Int.mk below_72 below_73) (api_Int.mk below_74 below_75)) v122.2) fun v126 => (
   again106 (v124.Num.Negative, v124.Num.Groups, v124.Den.Negative, v124.Den.Groups, v126.Num.Negative, v126.Num.Groups, v126.Den.Negative, v126.Den.Groups, wrapF .i64 (x_76 + 1))
   )
   )
   )
   )
   )
   )
   )
   )
   )
   )
  ) (
   some ((above_68, above_69, above_70, above_71, below_72, below_73, below_74, below_75))
  )
 )
def totG (n : Nat) (step : Int) (l : List (A3 Int)) (f : Int → Option Int) : Option (api_Rat × api_Rat) :=
 bdO (fraction_Whole n 0) fun v1 => (
 bdO (fraction_Whole n 0) fun v3 => (
 bdO (loopO (α := Bool × List Int × Bool × List Int × Bool × List Int × Bool × List Int × Int) (β := Bool × List Int × Bool × List Int × Bool × List Int × Bool × List Int) n (totF n l f) (v1.Num.Negative, v1.Num.Groups, v1.Den.Negative, v1.Den.Groups, v3.Num.Negative, v3.Num.Groups, v3.Den.Negative, v3.Den.Groups, 0)) fun o128 => (
  match o128 with
  | (above_98, above_99, above_100, above_101, below_102, below_103, below_104, below_105) => (
   bdO (fraction_Whole n (wrapF .i64 ((wrapF .i64 (step * step)).tdiv 2))) fun v131 => (
   bdO (fraction_Mul n v131 (api_Rat.mk (api_Int.mk above_98 above_99) (api_Int.mk above_100 above_101))) fun v133 => (
   bdO (fraction_Mul n v131 (api_Rat.mk (api_Int.mk below_102 below_103) (api_Int.mk below_104 below_105))) fun v135 => (
   some ((v133, v135))
   )
   )
   )
  ))
 )
 )
theorem whole1_ok {v : Int} (h : -999999999 ≤ v ∧ v ≤ 999999999) : Ok (fraction_Whole 20000 v) fun z => Cq z (v : Rat) := by
 refine (qWhole_ok (by omega) (by omega) (by omega)).mono fun z hz => ?_
 have hz : Qx z (Rat.divInt v 1) 1 := QL.tight hz rfl (by omega) (by show -1000000000 < v; omega) (by show v < 1000000000; omega) (by show (1 : Int) < 1000000000; omega)
 rw [divInt_cast] at hz
 exact ⟨qValue_ok (by omega) (by omega) hz, Ok.of_eq (R.qValue_ok (by omega) (by omega) hz) hz⟩
def sumQ : List Rat → Rat
 | [] => 0
 | x :: l => x + sumQ l
theorem sumQ_append : ∀ l m : List Rat, sumQ (l ++ m) = sumQ l + sumQ m
 | [], m => by show sumQ m = 0 + sumQ m; grind
 | x :: l, m => by show x + sumQ (l ++ m) = x + sumQ l + sumQ m; rw [sumQ_append l m]; grind
noncomputable def xh (hh : Int → Int) (t : A3 Int) : Rat := XQ (hh t.e0 : Int) (hh t.e1 : Int) (hh t.e2 : Int)
noncomputable def yh (hh : Int → Int) (t : A3 Int) : Rat := YQ (hh t.e0 : Int) (hh t.e1 : Int) (hh t.e2 : Int)
theorem sum_take {p : A3 Int → Rat} {l : List (A3 Int)} {k : Nat} (h : k < l.length) : sumQ ((l.take (k + 1)).map p) = sumQ ((l.take k).map p) + p (l.getD k default) := by
 rw [List.take_add_one, List.getElem?_eq_getElem h, List.map_append, sumQ_append]
 have : l.getD k default = l[k] := by simp [List.getD, List.getElem?_eq_getElem h]
 rw [this]
 show _ + (p l[k] + 0) = _
 grind
def areaQ (step : Int) : Rat := Rat.divInt (step * step / 2) 1
theorem totG_val {step : Int} {l : List (A3 Int)} {f : Int → Option Int} {hh : Int → Int} (hl : l.length ≤ 50) (hs : 0 ≤ step ∧ step ≤ 65536)
  (hf : ∀ t ∈ l, (f t.e0 = some (hh t.e0) ∧ f t.e1 = some (hh t.e1) ∧ f t.e2 = some (hh t.e2)) ∧ (-4194304 ≤ hh t.e0 ∧ hh t.e0 ≤ 4194304) ∧ (-4194304 ≤ hh t.e1 ∧ hh t.e1 ≤ 4194304) ∧ (-4194304 ≤ hh t.e2 ∧ hh t.e2 ≤ 4194304)) :
  Ok (totG 20000 step l f) fun r => Qx r.1 (areaQ step * sumQ (l.map (xh hh))) 89 ∧ Qx r.2 (areaQ step * sumQ (l.map (yh hh))) 89 := by
 unfold totG
 refine Ok.bd (qWhole_ok (by omega) (by omega) (by omega)) fun u hu => Ok.bd (qWhole_ok (by omega) (by omega) (by omega)) fun v hv => ?_
 rw [whole_0] at hu hv
 refine Ok.bd (R := fun o => Qx (api_Rat.mk (api_Int.mk o.1 o.2.1) (api_Int.mk o.2.2.1 o.2.2.2.1)) (sumQ (l.map (xh hh))) 86 ∧ Qx (api_Rat.mk (api_Int.mk o.2.2.2.2.1 o.2.2.2.2.2.1) (api_Int.mk o.2.2.2.2.2.2.1 o.2.2.2.2.2.2.2)) (sumQ (l.map (yh hh))) 86) ?_ ?_
 · refine ok_rangeG (γ := Bool × List Int × Bool × List Int × Bool × List Int × Bool × List Int) (len := l.length) (fun c x => (c.1, c.2.1, c.2.2.1, c.2.2.2.1, c.2.2.2.2.1, c.2.2.2.2.2.1, c.2.2.2.2.2.2.1, c.2.2.2.2.2.2.2, x))
    (fun k o => (Qx (api_Rat.mk (api_Int.mk o.1 o.2.1) (api_Int.mk o.2.2.1 o.2.2.2.1)) (sumQ ((l.take k).map (xh hh))) 86 ∧ Bd (sumQ ((l.take k).map (xh hh))) k) ∧ Qx (api_Rat.mk (api_Int.mk o.2.2.2.2.1 o.2.2.2.2.2.1) (api_Int.mk o.2.2.2.2.2.2.1 o.2.2.2.2.2.2.2)) (sumQ ((l.take k).map (yh hh))) 86 ∧ Bd (sumQ ((l.take k).map (yh hh))) k) (by omega) (by omega)
    (c0 := (u.Num.Negative, u.Num.Groups, u.Den.Negative, u.Den.Groups, v.Num.Negative, v.Num.Groups, v.Den.Negative, v.Den.Groups)) ⟨⟨QL.mono hu (by omega), bd_zero⟩, QL.mono hv (by omega), bd_zero⟩ ?_ ?_
   · rintro again k ⟨c1, c2, c3, c4, c5, c6, c7, c8⟩ hk ⟨⟨hP, bP⟩, hQ, bQ⟩ ih
     dsimp only at hP hQ
     unfold totF
     dsimp only
     refine Ok.cd (fun _ => ?_) (fun h => by have := of_decide_eq_false h; omega)
     refine Ok.gd (by rw [inR_nat]; exact decide_eq_true hk) ?_
     obtain ⟨⟨e0, e1, e2⟩, hA, hB, hC⟩ := hf (gt l (k : Int)) (by rw [gt_nat]; simp only [List.getD, List.getElem?_eq_getElem hk, Option.getD_some]; exact List.getElem_mem hk)
     have ex := sum_take (p := xh hh) hk
     have ey := sum_take (p := yh hh) hk
     rw [← gt_nat] at ex ey
     refine Ok.bde e0 (Ok.bd (whole1_ok (by omega)) fun a ha => Ok.bde e1 (Ok.bd (whole1_ok (by omega)) fun b hb => Ok.bde e2 (Ok.bd (whole1_ok (by omega)) fun c hc => Ok.bd (tri_ok ha hb hc) ?_)))
     rintro w ⟨X, Y, hS, hX, hY⟩
     obtain ⟨bX, bY⟩ := sp_bd hA hB hC hS
     obtain ⟨x1, y1⟩ := xq_of hS
     refine Ok.bd (qAdd_ok (by omega) (by omega) hP hX) fun p hp => Ok.bd (qAdd_ok (by omega) (by omega) hQ hY) fun q hq => ?_
     have eX : sumQ ((l.take k).map (xh hh)) + X = sumQ ((l.take (k + 1)).map (xh hh)) := by rw [ex, x1]; rfl
     have eY : sumQ ((l.take k).map (yh hh)) + Y = sumQ ((l.take (k + 1)).map (yh hh)) := by rw [ey, y1]; rfl
     have b1 := bP.add bX
     have b2 := bQ.add bY
     rw [eX] at hp b1
     rw [eY] at hq b2
     exact ih (p.Num.Negative, p.Num.Groups, p.Den.Negative, p.Den.Groups, q.Num.Negative, q.Num.Groups, q.Den.Negative, q.Den.Groups) ⟨⟨b1.len (by omega) hp, b1⟩, b2.len (by omega) hq, b2⟩
   · rintro again ⟨c1, c2, c3, c4, c5, c6, c7, c8⟩ ⟨⟨hP, bP⟩, hQ, bQ⟩
     rw [List.take_length] at hP hQ
     unfold totF
     dsimp only
     exact Ok.cd (fun h => by have := of_decide_eq_true h; omega) (fun _ => ok_some.2 ⟨hP, hQ⟩)
 · rintro ⟨c1, c2, c3, c4, c5, c6, c7, c8⟩ ⟨hP, hQ⟩
   dsimp only at hP hQ ⊢
   have s1 := Int.mul_le_mul hs.2 hs.2 hs.1 (by omega)
   have s0 := Int.mul_nonneg hs.1 hs.1
   rw [wrap64_in (n := step * step) (by omega) (by omega), Int.tdiv_eq_ediv_of_nonneg s0, wrap64_in (by omega) (by omega)]
   exact Ok.bd (qWhole_ok (by omega) (by omega) (by omega)) fun w hw => Ok.bd (qMul_ok (by omega) (by omega) hw hP) fun p hp => Ok.bd (qMul_ok (by omega) (by omega) hw hQ) fun q hq => ok_some.2 ⟨hp, hq⟩
end Go.L


set_option linter.all false
namespace Go.L
open Go Go.Eng
def lvlT (g : api_Grid) (w h : Nat) (z : Int) : Option (api_Rat × api_Rat) := totG 20000 g.Step (triF g w h) (fun k => volume_Level_1 20000 k g.X0 g.Y0 g.Step g.Width g.Height g.Z z)
theorem level_v {g : api_Grid} {w h : Nat} {z : Int} (hc : gcode g = 0) (hg : Gd g w h) (hz : farE z = false) : volume_Level 20000 g z = bdO (lvlT g w h z) fun v => some (v.1, v.2, 0) := by
 unfold volume_Level
 rw [tcheck_v (by omega), hc, tri_v (by omega) hg, vfar_v, hz]
 rfl
theorem gz_bd {g : api_Grid} (hc : gcode g = 0) {i : Int} (hi : inR i g.Z.length = true) : gt g.Z i = -2147483648 ∨ (-1048576 ≤ gt g.Z i ∧ gt g.Z i ≤ 1048576) := by
 obtain ⟨_, _, ha⟩ := gc_zero hc
 have hi2 := inR_iff.1 hi
 obtain ⟨k, rfl⟩ : ∃ k : Nat, i = (k : Int) := ⟨i.toNat, by omega⟩
 have hk : k < g.Z.length := by omega
 have hm : g.Z.getD k default ∈ g.Z := by simp only [List.getD, List.getElem?_eq_getElem hk, Option.getD_some]; exact List.getElem_mem hk
 have := List.any_eq_false.1 ha _ hm
 rw [gt_nat]
 generalize g.Z.getD k default = v at *
 unfold badZ farE at this
 simp at this
 by_cases hv : v = -2147483648
 · exact .inl hv
 · have := this hv; exact .inr (by omega)
theorem has_at {Z : List Int} {t : A3 Int} (h : hasZ Z t = true) : gt Z t.e0 ≠ -2147483648 ∧ gt Z t.e1 ≠ -2147483648 ∧ gt Z t.e2 ≠ -2147483648 := by
 unfold hasZ at h
 simp only [Bool.and_eq_true, bne_iff_ne] at h
 exact h
theorem triF_len {g : api_Grid} {w h : Nat} (hg : Gd g w h) (h36 : g.Z.length ≤ 36) : (triF g w h).length ≤ 50 := by
 have h1 := List.length_filter_le (hasZ g.Z) (triT g.Width (w - 1) (h - 1))
 rw [tri_len] at h1
 have hw := hg.w1; have hh := hg.h1; have hm := hg.m
 obtain ⟨a, rfl⟩ : ∃ a, w = a + 1 := ⟨w - 1, by omega⟩
 obtain ⟨b, rfl⟩ : ∃ b, h = b + 1 := ⟨h - 1, by omega⟩
 simp only [Nat.add_sub_cancel] at h1
 rw [Nat.mul_assoc] at h1
 have e : (a + 1) * (b + 1) = a * b + a + b + 1 := by rw [Nat.add_mul, Nat.mul_add]; omega
 have hab : 4 * (a * b) ≤ (a + b) * (a + b) := by
  have := Int.mul_nonneg (a := (0 : Int)) (b := 0) (by omega) (by omega)
  rcases Nat.le_total a b with k | k
  · obtain ⟨c, rfl⟩ := Nat.le.dest k
    have : (a + (a + c)) * (a + (a + c)) = 4 * (a * (a + c)) + c * c := by grind
    omega
  · obtain ⟨c, rfl⟩ := Nat.le.dest k
    have : (b + c + b) * (b + c + b) = 4 * ((b + c) * b) + c * c := by grind
    omega
 have hs : ¬ 11 ≤ a + b → a * b ≤ 25 := fun k => by
  have : (a + b) * (a + b) ≤ 10 * 10 := Nat.mul_le_mul (by omega) (by omega)
  omega
 unfold triF
 simp only [Nat.add_sub_cancel]
 by_cases k : 11 ≤ a + b
 · omega
 · have := hs k; omega
theorem far_bd {z : Int} : farE z = false ↔ -1048576 ≤ z ∧ z ≤ 1048576 := by
 unfold farE
 rw [Bool.or_eq_false_iff, decide_eq_false_iff_not, decide_eq_false_iff_not]; omega
theorem lvl_val {g : api_Grid} {w h : Nat} {z : Int} (hc : gcode g = 0) (hg : Gd g w h) (h36 : g.Z.length ≤ 36) (hz : farE z = false) :
  Ok (lvlT g w h z) fun r => Qx r.1 (areaQ g.Step * sumQ ((triF g w h).map (xh fun k => gt g.Z k - z))) 89 ∧ Qx r.2 (areaQ g.Step * sumQ ((triF g w h).map (yh fun k => gt g.Z k - z))) 89 := by
 have hz := far_bd.1 hz
 refine totG_val (triF_len hg h36) (by have := hg.dim.s; omega) fun t ht => ?_
 obtain ⟨ht, hh⟩ := List.mem_filter.1 ht
 obtain ⟨i0, i1, i2⟩ := tri_in hg ht
 obtain ⟨n0, n1, n2⟩ := has_at hh
 have b0 := (gz_bd hc i0).resolve_left n0
 have b1 := (gz_bd hc i1).resolve_left n1
 have b2 := (gz_bd hc i2).resolve_left n2
 have e : ∀ k, inR k g.Z.length = true → -1048576 ≤ gt g.Z k ∧ gt g.Z k ≤ 1048576 → volume_Level_1 20000 k g.X0 g.Y0 g.Step g.Width g.Height g.Z z = some (gt g.Z k - z) := by
  intro k hk hb
  unfold volume_Level_1
  rw [hk, wrap64_in (by omega) (by omega)]; rfl
 exact ⟨⟨e _ i0 b0, e _ i1 b1, e _ i2 b2⟩, by omega, by omega, by omega⟩
end Go.L

