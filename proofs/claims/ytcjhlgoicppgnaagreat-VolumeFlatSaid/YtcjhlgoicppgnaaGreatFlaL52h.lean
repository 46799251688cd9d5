import Derived.Test.YtcjhlgoicppgnaaGreatFlaL52g
import Derived.Test.YtcjhlgoicppgnaaGreatFlaL52tB
import Derived.Test.YtcjhlgoicppgnaaGreatFlaL52b
set_option linter.all false
namespace Go.L
open Go Go.Eng
def totF (n : Nat) (l : List (A3 Int)) (f : Int → Option Int) : (Bool × List Int × Bool × List Int × Bool × List Int × Bool × List Int × Int → Option (Bool × List Int × Bool × List Int × Bool × List Int × Bool × List Int)) → Bool × List Int × Bool × List Int × Bool × List Int × Bool × List Int × Int → Option (Bool × List Int × Bool × List Int × Bool × List Int × Bool × List Int) := fun again106 (above_68, above_69, above_70, above_71, below_72, below_73, below_74, below_75, x_76) => (
  cdO (decide (x_76 < (l.length : Int))) (
   gdO (inR x_76 l.length) (
   bdO (f (gt l x_76).e0) fun v110 => (
   bdO (fraction_Whole n v110) fun v112 => (
   bdO (f (gt l x_76).e1) fun v114 => (
   bdO (fraction_Whole n v114) fun v116 => (
   bdO (f (gt l x_76).e2) fun v118 => (
   bdO (fraction_Whole n v118) fun v120 => (
   bdO (volume_Triangle n v112 v116 v120) fun v122 => (
   bdO (fraction_Add n (api_Rat.mk (api_Int.mk above_68 above_69) (api_Int.mk above_70 above_71)) v122.1) fun v124 => (
   bdO (fraction_Add n (api_Rat.mk (api_Int.mk below_72 below_73) (api_Int.mk below_74 below_75)) v122.2) fun v126 => (
   again106 (v124.Num.Negative, v124.Num.Groups, v124.Den.Negative, v124.Den.Groups, v126.Num.Negative, v126.Num.Groups, v126.Den.Negative, v126.Den.Groups, wrapF .i64 (x_76 + 1))
   )
   )
   )
   )
   )
   )
   )
   )
   )
   )
  ) (
   some ((above_68, above_69, above_70, above_71, below_72, below_73, below_74, below_75))
  )
 )
def totG (n : Nat) (step : Int) (l : List (A3 Int)) (f : Int → Option Int) : Option (api_Rat × api_Rat) :=
 bdO (fraction_Whole n 0) fun v1 => (
 bdO (fraction_Whole n 0) fun v3 => (
 bdO (loopO (α := Bool × List Int × Bool × List Int × Bool × List Int × Bool × List Int × Int) (β := Bool × List Int × Bool × List Int × Bool × List Int × Bool × List Int) n (totF n l f) (v1.Num.Negative, v1.Num.Groups, v1.Den.Negative, v1.Den.Groups, v3.Num.Negative, v3.Num.Groups, v3.Den.Negative, v3.Den.Groups, 0)) fun o128 => (
  match o128 with
  | (above_98, above_99, above_100, above_101, below_102, below_103, below_104, below_105) => (
   bdO (fraction_Whole n (wrapF .i64 ((wrapF .i64 (step * step)).tdiv 2))) fun v131 => (
   bdO (fraction_Mul n v131 (api_Rat.mk (api_Int.mk above_98 above_99) (api_Int.mk above_100 above_101))) fun v133 => (
   bdO (fraction_Mul n v131 (api_Rat.mk (api_Int.mk below_102 below_103) (api_Int.mk below_104 below_105))) fun v135 => (
   some ((v133, v135))
   )
   )
   )
  ))
 )
 )
theorem totF_congr {n : Nat} {l : List (A3 Int)} {f f' : Int → Option Int} (h : ∀ t ∈ l, f t.e0 = f' t.e0 ∧ f t.e1 = f' t.e1 ∧ f t.e2 = f' t.e2) : totF n l f = totF n l f' := by
 funext again s
 obtain ⟨s1, s2, s3, s4, s5, s6, s7, s8, x⟩ := s
 unfold totF
 dsimp only
 cases hx : inR x l.length with
 | false => rfl
 | true =>
  have hx2 := inR_iff.1 hx
  have hm : gt l x ∈ l := by
   obtain ⟨k, rfl⟩ : ∃ k : Nat, x = (k : Int) := ⟨x.toNat, by omega⟩
   have hk : k < l.length := by omega
   rw [gt_nat]
   simp only [List.getD, List.getElem?_eq_getElem hk, Option.getD_some]; exact List.getElem_mem hk
  obtain ⟨h0, h1, h2⟩ := h _ hm
  rw [h0, h1, h2]
theorem totG_congr {n : Nat} {step : Int} {l : List (A3 Int)} {f f' : Int → Option Int} (h : ∀ t ∈ l, f t.e0 = f' t.e0 ∧ f t.e1 = f' t.e1 ∧ f t.e2 = f' t.e2) : totG n step l f = totG n step l f' := by
 unfold totG
 rw [totF_congr h]
theorem whole1_ok {v : Int} (h : -999999999 ≤ v ∧ v ≤ 999999999) : Ok (fraction_Whole 20000 v) fun z => Cq z (v : Rat) := by
 refine (qWhole_ok (by omega) (by omega) (by omega)).mono fun z hz => ?_
 have hz : Qx z (Rat.divInt v 1) 1 := QL.tight hz rfl (by omega) (by show -1000000000 < v; omega) (by show v < 1000000000; omega) (by show (1 : Int) < 1000000000; omega)
 rw [divInt_cast] at hz
 exact ⟨qValue_ok (by omega) (by omega) hz, Ok.of_eq (R.qValue_ok (by omega) (by omega) hz) hz⟩
theorem totG_ok {step : Int} {l : List (A3 Int)} {f : Int → Option Int} (hl : l.length ≤ 50) (hs : 0 ≤ step ∧ step ≤ 65536)
  (hf : ∀ t ∈ l, ∃ A B C : Int, (f t.e0 = some A ∧ f t.e1 = some B ∧ f t.e2 = some C) ∧ (-2097152 ≤ A ∧ A ≤ 2097152) ∧ (-2097152 ≤ B ∧ B ≤ 2097152) ∧ (-2097152 ≤ C ∧ C ≤ 2097152)) : Ok (totG 20000 step l f) fun r => (∃ P, Qx r.1 P 89) ∧ ∃ Q, Qx r.2 Q 89 := by
 unfold totG
 refine Ok.bd (qWhole_ok (by omega) (by omega) (by omega)) fun u hu => Ok.bd (qWhole_ok (by omega) (by omega) (by omega)) fun v hv => ?_
 rw [whole_0] at hu hv
 refine Ok.bd (R := fun o => (∃ P, Qx (api_Rat.mk (api_Int.mk o.1 o.2.1) (api_Int.mk o.2.2.1 o.2.2.2.1)) P 86) ∧ ∃ Q, Qx (api_Rat.mk (api_Int.mk o.2.2.2.2.1 o.2.2.2.2.2.1) (api_Int.mk o.2.2.2.2.2.2.1 o.2.2.2.2.2.2.2)) Q 86) ?_ ?_
 · refine ok_rangeG (γ := Bool × List Int × Bool × List Int × Bool × List Int × Bool × List Int) (len := l.length) (fun c x => (c.1, c.2.1, c.2.2.1, c.2.2.2.1, c.2.2.2.2.1, c.2.2.2.2.2.1, c.2.2.2.2.2.2.1, c.2.2.2.2.2.2.2, x))
    (fun k o => (∃ P, Qx (api_Rat.mk (api_Int.mk o.1 o.2.1) (api_Int.mk o.2.2.1 o.2.2.2.1)) P 86 ∧ Bd P k) ∧ ∃ Q, Qx (api_Rat.mk (api_Int.mk o.2.2.2.2.1 o.2.2.2.2.2.1) (api_Int.mk o.2.2.2.2.2.2.1 o.2.2.2.2.2.2.2)) Q 86 ∧ Bd Q k) (by omega) (by omega)
    (c0 := (u.Num.Negative, u.Num.Groups, u.Den.Negative, u.Den.Groups, v.Num.Negative, v.Num.Groups, v.Den.Negative, v.Den.Groups)) ⟨⟨0, QL.mono hu (by omega), bd_zero⟩, ⟨0, QL.mono hv (by omega), bd_zero⟩⟩ ?_ ?_
   · rintro again k ⟨c1, c2, c3, c4, c5, c6, c7, c8⟩ hk ⟨⟨P, hP, bP⟩, ⟨Q, hQ, bQ⟩⟩ ih
     dsimp only at hP hQ
     unfold totF
     dsimp only
     refine Ok.cd (fun _ => ?_) (fun h => by have := of_decide_eq_false h; omega)
     refine Ok.gd (by rw [inR_nat]; exact decide_eq_true hk) ?_
     obtain ⟨A, B, C, ⟨e0, e1, e2⟩, hA, hB, hC⟩ := hf (gt l (k : Int)) (by rw [gt_nat]; simp only [List.getD, List.getElem?_eq_getElem hk, Option.getD_some]; exact List.getElem_mem hk)
     refine Ok.bde e0 (Ok.bd (whole1_ok (by omega)) fun a ha => Ok.bde e1 (Ok.bd (whole1_ok (by omega)) fun b hb => Ok.bde e2 (Ok.bd (whole1_ok (by omega)) fun c hc => Ok.bd (tri_ok ha hb hc) ?_)))
     rintro w ⟨X, Y, hS, hX, hY⟩
     obtain ⟨bX, bY⟩ := sp_bd hA hB hC hS
     refine Ok.bd (qAdd_ok (by omega) (by omega) hP hX) fun p hp => Ok.bd (qAdd_ok (by omega) (by omega) hQ hY) fun q hq => ?_
     refine ih (p.Num.Negative, p.Num.Groups, p.Den.Negative, p.Den.Groups, q.Num.Negative, q.Num.Groups, q.Den.Negative, q.Den.Groups) ⟨⟨P + X, (bP.add bX).len (by omega) hp, bP.add bX⟩, ⟨Q + Y, (bQ.add bY).len (by omega) hq, bQ.add bY⟩⟩
   · rintro again ⟨c1, c2, c3, c4, c5, c6, c7, c8⟩ ⟨⟨P, hP, bP⟩, ⟨Q, hQ, bQ⟩⟩
     unfold totF
     dsimp only
     exact Ok.cd (fun h => by have := of_decide_eq_true h; omega) (fun _ => ok_some.2 ⟨⟨P, hP⟩, ⟨Q, hQ⟩⟩)
 · rintro ⟨c1, c2, c3, c4, c5, c6, c7, c8⟩ ⟨⟨P, hP⟩, ⟨Q, hQ⟩⟩
   dsimp only at hP hQ ⊢
   have s1 := Int.mul_le_mul hs.2 hs.2 hs.1 (by omega)
   have s0 := Int.mul_nonneg hs.1 hs.1
   rw [wrap64_in (n := step * step) (by omega) (by omega), Int.tdiv_eq_ediv_of_nonneg s0, wrap64_in (by omega) (by omega)]
   refine Ok.bd (qWhole_ok (by omega) (by omega) (by omega)) fun w hw => Ok.bd (qMul_ok (by omega) (by omega) hw hP) fun p hp => Ok.bd (qMul_ok (by omega) (by omega) hw hQ) fun q hq => ok_some.2 ⟨⟨_, hp⟩, ⟨_, hq⟩⟩
end Go.L

