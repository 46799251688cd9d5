import Derived.Test.YtdfhpiaapdbdpaaGreatParL52g
import Derived.Test.YtdfhpiaapdbdpaaGreatParL52tB
import Derived.Test.YtdfhpiaapdbdpaaGreatParL52b
import Derived.Test.YtdfhpiaapdbdpaaGreatParL52mon
set_option linter.all false
namespace Go.L
open Go Go.Eng
def totF (n : Nat) (l : List (A3 Int)) (f : Int → Option Int) : (Bool × List Int × Bool × List Int × Bool × List Int × Bool × List Int × Int → Option (Bool × List Int × Bool × List Int × Bool × List Int × Bool × List Int)) → Bool × List Int × Bool × List Int × Bool × List Int × Bool × List Int × Int → Option (Bool × List Int × Bool × List Int × Bool × List Int × Bool × List Int) := fun again106 (above_68, above_69, above_70, above_71, below_72, below_73, below_74, below_75, x_76) => (
  cdO (decide (x_76 < (l.length : Int))) (
   gdO (inR x_76 l.length) (
   bdO (f (gt l x_76).e0) fun v110 => (
   bdO (fraction_Whole n v110) fun v112 => (
   bdO (f (gt l x_76).e1) fun v114 => (
   bdO (fraction_Whole n v114) fun v116 => (
   bdO (f (gt l x_76).e2) fun v118 => (
   bdO (fraction_Whole n v118) fun v120 => (
   bdO (volume_Triangle n v112 v116 v120) fun v122 => (
   bdO (fraction_Add n (api_Rat.mk (api_Int.mk above_68 above_69) (api_Int.mk above_70 above_71)) v122.1) fun v124 => (
   bdO (fraction_Add n (api_Rat.mk (api_Int.mk below_72 below_73) (api_Int.mk below_74 below_75)) v122.2) fun v126 => (
   again106 (v124.Num.Negative, v124.Num.Groups, v124.Den.Negative, v124.Den.Groups, v126.Num.Negative, v126.Num.Groups, v126.Den.Negative, v126.Den.Groups, wrapF .i64 (x_76 + 1))
   )
   )
   )
   )
   )
   )
   )
   )
   )
   )
  ) (
   some ((above_68, above_69, above_70, above_71, below_72, below_73, below_74, below_75))
  )
 )
def totG (n : Nat) (step : Int) (l : List (A3 Int)) (f : Int → Option Int) : Option (api_Rat × api_Rat) :=
 bdO (fraction_Whole n 0) fun v1 => (
 bdO (fraction_Whole n 0) fun v3 => (
 bdO (loopO (α := Bool × List Int × Bool × List Int × Bool × List Int × Bool × List Int × Int) (β := Bool × List Int × Bool × List Int × Bool × List Int × Bool × List Int) n (totF n l f) (v1.Num.Negative, v1.Num.Groups, v1.Den.Negative, v1.Den.Groups, v3.Num.Negative, v3.Num.Groups, v3.Den.Negative, v3.Den.Groups, 0)) fun o128 => (
  match o128 with
  | (above_98, above_99, above_100, above_101, below_102, below_103, below_104, below_105) => (
   bdO (fraction_Whole n (wrapF .i64 ((wrapF .i64 (step * step)).tdiv 2))) fun v131 => (
   bdO (fraction_Mul n v131 (api_Rat.mk (api_Int.mk above_98 above_99) (api_Int.mk above_100 above_101))) fun v133 => (
   bdO (fraction_Mul n v131 (api_Rat.mk (api_Int.mk below_102 below_103) (api_Int.mk below_104 below_105))) fun v135 => (
   some ((v133, v135))
   )
   )
   )
  ))
 )
 )
theorem whole1_ok {v : Int} (h : -999999999 ≤ v ∧ v ≤ 999999999) : Ok (fraction_Whole 20000 v) fun z => Cq z (v : Rat) := by
 refine (qWhole_ok (by omega) (by omega) (by omega)).mono fun z hz => ?_
 have hz : Qx z (Rat.divInt v 1) 1 := QL.tight hz rfl (by omega) (by show -1000000000 < v; omega) (by show v < 1000000000; omega) (by show (1 : Int) < 1000000000; omega)
 rw [divInt_cast] at hz
 exact ⟨qValue_ok (by omega) (by omega) hz, Ok.of_eq (R.qValue_ok (by omega) (by omega) hz) hz⟩
def sumQ : List Rat → Rat
 | [] => 0
 | x :: l => x + sumQ l
theorem sumQ_append : ∀ l m : List Rat, sumQ (l ++ m) = sumQ l + sumQ m
 | [], m => by show sumQ m = 0 + sumQ m; grind
 | x :: l, m => by show x + sumQ (l ++ m) = x + sumQ l + sumQ m; rw [sumQ_append l m]; grind
noncomputable def xh (hh : Int → Int) (t : A3 Int) : Rat := XQ (hh t.e0 : Int) (hh t.e1 : Int) (hh t.e2 : Int)
noncomputable def yh (hh : Int → Int) (t : A3 Int) : Rat := YQ (hh t.e0 : Int) (hh t.e1 : Int) (hh t.e2 : Int)
theorem sum_take {p : A3 Int → Rat} {l : List (A3 Int)} {k : Nat} (h : k < l.length) : sumQ ((l.take (k + 1)).map p) = sumQ ((l.take k).map p) + p (l.getD k default) := by
 rw [List.take_add_one, List.getElem?_eq_getElem h, List.map_append, sumQ_append]
 have : l.getD k default = l[k] := by simp [List.getD, List.getElem?_eq_getElem h]
 rw [this]
 show _ + (p l[k] + 0) = _
 grind
def areaQ (step : Int) : Rat := Rat.divInt (step * step / 2) 1
theorem totG_val {step : Int} {l : List (A3 Int)} {f : Int → Option Int} {hh : Int → Int} (hl : l.length ≤ 50) (hs : 0 ≤ step ∧ step ≤ 65536)
  (hf : ∀ t ∈ l, (f t.e0 = some (hh t.e0) ∧ f t.e1 = some (hh t.e1) ∧ f t.e2 = some (hh t.e2)) ∧ (-4194304 ≤ hh t.e0 ∧ hh t.e0 ≤ 4194304) ∧ (-4194304 ≤ hh t.e1 ∧ hh t.e1 ≤ 4194304) ∧ (-4194304 ≤ hh t.e2 ∧ hh t.e2 ≤ 4194304)) :
  Ok (totG 20000 step l f) fun r => Qx r.1 (areaQ step * sumQ (l.map (xh hh))) 89 ∧ Qx r.2 (areaQ step * sumQ (l.map (yh hh))) 89 := by
 unfold totG
 refine Ok.bd (qWhole_ok (by omega) (by omega) (by omega)) fun u hu => Ok.bd (qWhole_ok (by omega) (by omega) (by omega)) fun v hv => ?_
 rw [whole_0] at hu hv
 refine Ok.bd (R := fun o => Qx (api_Rat.mk (api_Int.mk o.1 o.2.1) (api_Int.mk o.2.2.1 o.2.2.2.1)) (sumQ (l.map (xh hh))) 86 ∧ Qx (api_Rat.mk (api_Int.mk o.2.2.2.2.1 o.2.2.2.2.2.1) (api_Int.mk o.2.2.2.2.2.2.1 o.2.2.2.2.2.2.2)) (sumQ (l.map (yh hh))) 86) ?_ ?_
 · refine ok_rangeG (γ := Bool × List Int × Bool × List Int × Bool × List Int × Bool × List Int) (len := l.length) (fun c x => (c.1, c.2.1, c.2.2.1, c.2.2.2.1, c.2.2.2.2.1, c.2.2.2.2.2.1, c.2.2.2.2.2.2.1, c.2.2.2.2.2.2.2, x))
    (fun k o => (Qx (api_Rat.mk (api_Int.mk o.1 o.2.1) (api_Int.mk o.2.2.1 o.2.2.2.1)) (sumQ ((l.take k).map (xh hh))) 86 ∧ Bd (sumQ ((l.take k).map (xh hh))) k) ∧ Qx (api_Rat.mk (api_Int.mk o.2.2.2.2.1 o.2.2.2.2.2.1) (api_Int.mk o.2.2.2.2.2.2.1 o.2.2.2.2.2.2.2)) (sumQ ((l.take k).map (yh hh))) 86 ∧ Bd (sumQ ((l.take k).map (yh hh))) k) (by omega) (by omega)
    (c0 := (u.Num.Negative, u.Num.Groups, u.Den.Negative, u.Den.Groups, v.Num.Negative, v.Num.Groups, v.Den.Negative, v.Den.Groups)) ⟨⟨QL.mono hu (by omega), bd_zero⟩, QL.mono hv (by omega), bd_zero⟩ ?_ ?_
   · rintro again k ⟨c1, c2, c3, c4, c5, c6, c7, c8⟩ hk ⟨⟨hP, bP⟩, hQ, bQ⟩ ih
     dsimp only at hP hQ
     unfold totF
     dsimp only
     refine Ok.cd (fun _ => ?_) (fun h => by have := of_decide_eq_false h; omega)
     refine Ok.gd (by rw [inR_nat]; exact decide_eq_true hk) ?_
     obtain ⟨⟨e0, e1, e2⟩, hA, hB, hC⟩ := hf (gt l (k : Int)) (by rw [gt_nat]; simp only [List.getD, List.getElem?_eq_getElem hk, Option.getD_some]; exact List.getElem_mem hk)
     have ex := sum_take (p := xh hh) hk
     have ey := sum_take (p := yh hh) hk
     rw [← gt_nat] at ex ey
     refine Ok.bde e0 (Ok.bd (whole1_ok (by omega)) fun a ha => Ok.bde e1 (Ok.bd (whole1_ok (by omega)) fun b hb => Ok.bde e2 (Ok.bd (whole1_ok (by omega)) fun c hc => Ok.bd (tri_ok ha hb hc) ?_)))
     rintro w ⟨X, Y, hS, hX, hY⟩
     obtain ⟨bX, bY⟩ := sp_bd hA hB hC hS
     obtain ⟨x1, y1⟩ := xq_of hS
     refine Ok.bd (qAdd_ok (by omega) (by omega) hP hX) fun p hp => Ok.bd (qAdd_ok (by omega) (by omega) hQ hY) fun q hq => ?_
     have eX : sumQ ((l.take k).map (xh hh)) + X = sumQ ((l.take (k + 1)).map (xh hh)) := by rw [ex, x1]; rfl
     have eY : sumQ ((l.take k).map (yh hh)) + Y = sumQ ((l.take (k + 1)).map (yh hh)) := by rw [ey, y1]; rfl
     have b1 := bP.add bX
     have b2 := bQ.add bY
     rw [eX] at hp b1
     rw [eY] at hq b2
     exact ih (p.Num.Negative, p.Num.Groups, p.Den.Negative, p.Den.Groups, q.Num.Negative, q.Num.Groups, q.Den.Negative, q.Den.Groups) ⟨⟨b1.len (by omega) hp, b1⟩, b2.len (by omega) hq, b2⟩
   · rintro again ⟨c1, c2, c3, c4, c5, c6, c7, c8⟩ ⟨⟨hP, bP⟩, hQ, bQ⟩
     rw [List.take_length] at hP hQ
     unfold totF
     dsimp only
     exact Ok.cd (fun h => by have := of_decide_eq_true h; omega) (fun _ => ok_some.2 ⟨hP, hQ⟩)
 · rintro ⟨c1, c2, c3, c4, c5, c6, c7, c8⟩ ⟨hP, hQ⟩
   dsimp only at hP hQ ⊢
   have s1 := Int.mul_le_mul hs.2 hs.2 hs.1 (by omega)
   have s0 := Int.mul_nonneg hs.1 hs.1
   rw [wrap64_in (n := step * step) (by omega) (by omega), Int.tdiv_eq_ediv_of_nonneg s0, wrap64_in (by omega) (by omega)]
   exact Ok.bd (qWhole_ok (by omega) (by omega) (by omega)) fun w hw => Ok.bd (qMul_ok (by omega) (by omega) hw hP) fun p hp => Ok.bd (qMul_ok (by omega) (by omega) hw hQ) fun q hq => ok_some.2 ⟨hp, hq⟩
theorem area_nonneg (step : Int) (h : 0 ≤ step) : 0 ≤ areaQ step := by
 have s0 := Int.mul_nonneg h h
 exact Rat.divInt_nonneg (by omega) (by omega)
theorem sumQ_mono {l : List (A3 Int)} {p q : A3 Int → Rat} (h : ∀ t ∈ l, p t ≤ q t) : sumQ (l.map p) ≤ sumQ (l.map q) := by
 induction l with
 | nil => exact Rat.le_refl
 | cons t l ih =>
  have h1 := h t (by simp)
  have h2 := ih fun t ht => h t (List.mem_cons_of_mem _ ht)
  show p t + sumQ (l.map p) ≤ q t + sumQ (l.map q)
  grind
end Go.L

