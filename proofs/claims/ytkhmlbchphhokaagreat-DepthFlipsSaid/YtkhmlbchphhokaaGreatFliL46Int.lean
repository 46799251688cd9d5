import Derived.Test.YtkhmlbchphhokaaGreatFliL46c
import Derived.Test.YtkhmlbchphhokaaGreatFliL02c
set_option linter.all false
namespace Go.L
open Go Go.Eng
theorem floor_eq {p q : Int} (hq : 0 < q) : (Rat.divInt p q).num / ((Rat.divInt p q).den : Int) = p / q := by
 rw [divInt_num hq, divInt_den hq]
 have hg := gZ_pos (v := p) (w := q) (by omega)
 have e1 := gZ_dvd_left p q
 have e2 := gZ_dvd_right p q
 generalize gZ p q = g at *
 generalize hP : p / g = P at *
 generalize hQ : q / g = Q at *
 rw [e1, e2, Int.mul_ediv_mul_of_pos_left _ _ (by omega)]
theorem vl_small {g : List Int} (h : Dig g) (hl : g.length ≤ 2) : g.reverse.foldl (fun s v => wrapF .u64 (wrapF .u64 (s * 1000000000) + wrapF .u64 v)) 0 = vl g := by
 rcases g with _ | ⟨a, _ | ⟨b, _ | ⟨c, l⟩⟩⟩
 · rfl
 · have ha := h a (by simp)
   simp only [List.reverse_cons, List.reverse_nil, List.nil_append, List.foldl, Int.zero_mul, vl]
   have z : wrapF .u64 0 = 0 := by decide
   rw [z, Int.zero_add, wrapU64_in (n := a) (by omega) (by omega), wrapU64_in (by omega) (by omega)]; omega
 · have ha := h a (by simp); have hb := h b (by simp)
   simp only [List.reverse_cons, List.reverse_nil, List.nil_append, List.cons_append, List.foldl, Int.zero_mul, vl]
   have z : wrapF .u64 0 = 0 := by decide
   rw [z, Int.zero_add, wrapU64_in (n := b) (by omega) (by omega), wrapU64_in (n := b) (by omega) (by omega), wrapU64_in (n := b * 1000000000) (by omega) (by omega), wrapU64_in (n := a) (by omega) (by omega), wrapU64_in (by omega) (by omega)]; omega
 · simp at hl
theorem small_v {n : Nat} (hn : 1000 ≤ n) {z : api_Int} {v : Int} (hz : isI z.Negative z.Groups v) (h0 : 0 ≤ v) (h1 : v < 1000000000000000000) : integer_Small n z = some (v, true) := by
 have hl : z.Groups.length ≤ 2 := isI_len hz (by rw [pB2]; omega) (by rw [pB2]; omega)
 have hd := hz.1.dig
 have hdig : digB z.Groups = true := List.all_eq_true.2 fun x hx => by have := hd x hx; simpa using this
 have hneg : z.Negative = false := by
  cases hng : z.Negative with
  | false => rfl
  | true =>
   have e := hz.2.2; rw [hng] at e; simp only [if_true] at e
   have hne := hz.2.1 hng
   have := can_pos hz.1 hne
   omega
 have hv : v = vl z.Groups := by have e := hz.2.2; rw [hneg] at e; simpa using e
 apply Ok.eq
 unfold integer_Small
 refine Ok.bde (groups_ok hn (by omega) hz) (Ok.gd (by simpa using hl) (Ok.gd hdig (ok_some.2 ?_)))
 unfold smallE
 rw [hneg, Bool.and_false, if_neg (by decide), vl_small hd hl, ← hv, wrap64_in (by omega) (by omega)]
theorem floor_small {n : Nat} (hn : 5000 ≤ n) {x : api_Rat} {r : Rat} {k : Nat} (hk : k ≤ 60) (hx : Qx x r k) (h0 : 0 ≤ r.num / (r.den : Int)) (h1 : r.num / (r.den : Int) < 1000000000000000000) :
  Ok (bdO (fraction_Floor n x) fun v => integer_Small n v) fun z => z = (r.num / (r.den : Int), true) := by
 have hden := den_pos r
 unfold fraction_Floor
 refine Ok.bd (R := fun v => isI v.Negative v.Groups (r.num / (r.den : Int))) ?_ (fun v hv => ⟨_, small_v (by omega) hv h0 h1, rfl⟩)
 refine Ok.bd (qValue_ok hn hk hx) fun y hy => ?_
 have l1 := hy.nl; have l2 := hy.dl
 refine Ok.bd (Divide_ok (by omega) hy.num hy.den (by omega) (by omega) (by omega)) fun z hz => ok_some.2 ?_
 obtain ⟨q, s, h2, h3, h4, h5, h6⟩ := hz
 have hq : r.num / (r.den : Int) = q := by
  have hs : 0 ≤ s ∧ s < (r.den : Int) := by omega
  rw [h4, Int.add_comm, Int.add_mul_ediv_right _ _ (by omega), Int.ediv_eq_zero_of_lt hs.1 hs.2, Int.zero_add]
 rw [hq]; exact h2
def lenC (F B : Int) : Int := if (F < 1 ∨ F > 1048576) ∨ (B < 1 ∨ B > 1048576) then 2 else 0
theorem optics_v {n : Nat} {F B : Int} : depth_optics n F B = some (lenC F B) := by
 unfold depth_optics lenC
 by_cases h1 : F < 1
 · simp [h1, cdO]
 by_cases h2 : F > 1048576
 · simp [h1, h2, cdO]
 by_cases h3 : B < 1
 · simp [h1, h2, h3, cdO]
 by_cases h4 : B > 1048576
 · simp [h1, h2, h3, h4, cdO]
 · have : ¬ ((F < 1 ∨ F > 1048576) ∨ (B < 1 ∨ B > 1048576)) := by omega
   rw [if_neg this]; simp [h1, h2, h3, h4, cdO]
theorem FB_bd {F B : Int} (hF : 1 ≤ F ∧ F ≤ 1048576) (hB : 1 ≤ B ∧ B ≤ 1048576) : 1 ≤ F * B ∧ F * B ≤ 1099511627776 := by
 have h1 := Int.mul_le_mul hF.2 hB.2 (by omega) (by omega)
 have h2 := Int.mul_le_mul hF.1 hB.1 (by omega) (by omega)
 omega
def dpV (F B v : Int) : Int := if v < 1 then -1 else mn ((2 * (F * B) + 64 * v) / (128 * v)) 1048576
def depL (f : api_Field) (F B : Int) : List Int := (List.range f.V.length).map (fun j => dpV F B (f.V.getD j default))
theorem half_sum {P v : Int} (hv : 1 ≤ v) : Rat.divInt P (64 * v) + Rat.divInt 1 2 = Rat.divInt (2 * P + 64 * v) (128 * v) := by
 rw [Rat.divInt_add_divInt _ _ (by omega) (by omega), Rat.divInt_eq_divInt_iff (by omega) (by omega)]
 grind
theorem depths_ok {n : Nat} (hn : 5000 ≤ n) {f : api_Field} (hf : OkF f) {F B : Int} (hF : 1 ≤ F ∧ F ≤ 1048576) (hB : 1 ≤ B ∧ B ≤ 1048576) : depth_Depths n f F B = some (api_Field.mk f.Width f.Height (depL f F B), 0) := by
 have ha := area46 hf.w hf.h
 have hlen := hf.len
 have hFB := FB_bd hF hB
 have hc : lenC F B = 0 := by unfold lenC; rw [if_neg (by omega)]
 apply Ok.eq
 unfold depth_Depths
 refine Ok.bde (check_v (by omega) (by omega)) ?_
 rw [okF_iff.2 hf]
 refine Ok.cd (fun h => by cases h) (fun _ => Ok.bde optics_v ?_)
 rw [hc]
 refine Ok.cd (fun h => by cases h) (fun _ => Ok.bde (blank_v (by omega) hf) (Ok.bd (qOf_ok hn (p := 1) (q := 2) (by omega) (by omega) (by omega) (by omega) (by omega)) fun half hhalf => ?_))
 refine Ok.bd (R := fun o => o = depL f F B) ?_ (fun o h => ok_some.2 (by rw [h]))
 refine ok_rangeR (len := f.V.length) (fun k c => c.length = f.V.length ∧ ∀ j, j < f.V.length → c.getD j default = if j < k then dpV F B (f.V.getD j default) else -1) (by omega) (by omega) ⟨by simp, fun j hj => by rw [getD_rep hj, if_neg (by omega)]⟩ ?_ ?_
 · rintro again k c hk ⟨hcl, hcv⟩ ih
   have hv := hf.v k hk
   refine Ok.cd (fun _ => ?_) (fun h => by simp at h; omega)
   refine Ok.gd (by rw [inR_nat]; simpa using hk) ?_
   rw [gt_nat]
   refine Ok.cd (fun h => ?_) (fun h => ?_)
   · replace h := of_decide_eq_true h
     refine ih _ ⟨hcl, fun j hj => ?_⟩
     rw [hcv j hj]
     by_cases hjk : j = k
     · subst hjk; rw [if_neg (by omega), if_pos (by omega)]; unfold dpV; rw [if_pos h]
     · by_cases h2 : j < k
       · rw [if_pos h2, if_pos (by omega)]
       · rw [if_neg h2, if_neg (by omega)]
   · replace h := of_decide_eq_false h
     generalize hd : f.V.getD k default = v at *
     rw [wrap64_in (n := F * B) (by omega) (by omega), wrap64_in (n := 64 * v) (by omega) (by omega)]
     refine Ok.bd (qOf_ok hn (by omega) (by omega) (by omega) (by omega) (by omega)) fun x hx => Ok.bd (qAdd_ok hn (j := 3) (k := 3) (by omega) hx.1 hhalf.1) fun s hs => ?_
     rw [half_sum (by omega)] at hs
     have he := floor_eq (p := 2 * (F * B) + 64 * v) (q := 128 * v) (by omega)
     have hq0 : 0 ≤ (2 * (F * B) + 64 * v) / (128 * v) := Int.ediv_nonneg (by omega) (by omega)
     have hq1 : (2 * (F * B) + 64 * v) / (128 * v) ≤ 2 * (F * B) + 64 * v := Int.ediv_le_self _ (by omega)
     obtain ⟨z, hz, hzv⟩ := floor_small hn (by omega) hs (by rw [he]; exact hq0) (by rw [he]; omega)
     cases hfl : fraction_Floor n s with
     | none => rw [hfl] at hz; cases hz
     | some u =>
      rw [hfl] at hz
      refine Ok.bde rfl (Ok.bde hz (Ok.gd (by rw [inR_nat]; simp; omega) ?_))
      rw [hzv, he]
      refine ih _ ⟨by simp [hcl], fun j hj => ?_⟩
      have et : ((k : Int)).toNat = k := Int.toNat_natCast _
      rw [et, getD_set (by omega)]
      by_cases hjk : j = k
      · subst hjk; rw [if_pos rfl, if_pos (by omega), hd]; unfold dpV; rw [if_neg h]
      · rw [if_neg hjk, hcv j hj]
        by_cases h2 : j < k
        · rw [if_pos h2, if_pos (by omega)]
        · rw [if_neg h2, if_neg (by omega)]
 · rintro again c ⟨hcl, hcv⟩
   refine Ok.cd (fun h => by simp at h) (fun _ => ok_some.2 ?_)
   exact list_at hcl fun j hj => by rw [hcv j hj, if_pos hj]
end Go.L

