import Derived.Test.YtdfhpiaapdbdpaaGreatParL52aB
import Derived.Test.YtdfhpiaapdbdpaaGreatParL02sB
import Derived.Test.YtdfhpiaapdbdpaaGreatParL52m
set_option linter.all false
namespace Go.L
open Go Go.Eng
theorem num_le {a : Rat} : a.num ≤ 0 ↔ a ≤ 0 := by
 have h := Rat.num_nonneg (q := -a)
 rw [Rat.neg_num] at h
 constructor
 · intro k; have := h.1 (by omega); grind
 · intro k; have := h.2 (by grind); omega
theorem sg_ge {a : Rat} : sgn a.num ≥ 0 ↔ 0 ≤ a := by
 have := sgn_cases a.num
 rw [← Rat.num_nonneg]; omega
theorem sg_le {a : Rat} : sgn a.num ≤ 0 ↔ a ≤ 0 := by
 have := sgn_cases a.num
 rw [← num_le]; omega
theorem qSgn_ok {n : Nat} {x : api_Rat} {a : Rat} {k : Nat} (hn : 20000 ≤ n) (hk : k ≤ 250) (hx : Qx x a k) : fraction_Sign n x = some (sgn a.num) := by
 apply Ok.eq
 unfold fraction_Sign
 refine Ok.bd (qValue_ok hn hk hx) fun v hv => ?_
 have n1 := hv.nl
 exact Ok.bde (Sign_ok (by omega) (by omega) hv.num) (ok_some.2 rfl)
theorem qCmp_ok {n : Nat} {x y : api_Rat} {a b : Rat} {j k : Nat} (hn : 20000 ≤ n) (hj : j ≤ 30) (hk : k ≤ 30) (hx : Qx x a j) (hy : Qx y b k) : Ok (fraction_Compare n x y) fun s => s < 0 ↔ a < b := by
 unfold fraction_Compare
 refine Ok.bd (qValue_ok hn (by omega) hx) fun v hv => Ok.bd (qValue_ok hn (by omega) hy) fun w hw => ?_
 have n1 := hv.nl; have n2 := hw.nl; have d1 := hv.dl; have d2 := hw.dl
 refine Ok.bd (Mul_ok (by omega) hv.num hw.den (by omega) (by omega)) fun p hp => Ok.bd (Mul_ok (by omega) hw.num hv.den (by omega) (by omega)) fun q hq => ?_
 have lp := isI_len_mul hv.num hw.den hp n1 d2
 have lq := isI_len_mul hw.num hv.den hq n2 d1
 refine Ok.bde (Compare_ok (by omega) hp hq (by omega) (by omega)) (ok_some.2 ?_)
 have := sgn_cases (a.num * (b.den : Int) - b.num * (a.den : Int))
 rw [Rat.lt_iff]; omega
theorem qDivide_ok {n : Nat} {x y : api_Rat} {a b : Rat} {j k : Nat} (hn : 20000 ≤ n) (hk : j + k ≤ 250) (hx : Qx x a j) (hy : Qx y b k) (hb : b ≠ 0) : Ok (fraction_Divide n x y) fun z => Qx z.1 (a / b) (j + k) := by
 unfold fraction_Divide
 refine Ok.bd (qValue_ok hn (by omega) hx) fun v hv => Ok.bd (qValue_ok hn (by omega) hy) fun w hw => ?_
 have n1 := hv.nl; have n2 := hw.nl; have d1 := hv.dl; have d2 := hw.dl
 have hb' := num_ne hb
 refine Ok.bde (Sign_ok (by omega) (by omega) hw.num) (Ok.cd (fun h => ?_) (fun _ => ?_))
 · have : sgn b.num = 0 := by simpa using h
   have := sgn_cases b.num
   omega
 refine Ok.bd (Mul_ok (by omega) hv.num hw.den (by omega) (by omega)) fun p hp => Ok.bd (Mul_ok (by omega) hv.den hw.num (by omega) (by omega)) fun q hq => ?_
 have lp := isI_len_mul hv.num hw.den hp n1 d2
 have lq := isI_len_mul hv.den hw.num hq d1 n2
 have hne : (a.den : Int) * b.num ≠ 0 := Int.mul_ne_zero (by have := den_pos a; omega) hb'
 refine Ok.bd (reduced_ok hn hk hp hq lp lq hne) fun z hz => ok_some.2 ?_
 rw [div_rat] at hz; exact hz
theorem whole_3 : Rat.divInt 3 1 = 3 := by rw [divInt_cast]; rfl
theorem whole_0 : Rat.divInt 0 1 = 0 := by rw [divInt_cast]; rfl
theorem third_v : Rat.divInt 1 3 = 1 / 3 := by rw [Rat.divInt_eq_div]; rfl
theorem peak_ok {n : Nat} {x y z : api_Rat} {p q r : Rat} (hn : 20000 ≤ n) (hx : Qx x p 1) (hy : Qx y q 1) (hz : Qx z r 1) (h1 : p - q ≠ 0) (h2 : p - r ≠ 0) : Ok (volume_peak n x y z) fun o => Qx o (tipQ p q r) 12 := by
 unfold volume_peak
 refine Ok.bd (qWhole_ok hn (by omega) (by omega)) fun w hw => Ok.bd (qSub_ok hn (by omega) hx hy) fun a ha => Ok.bd (qSub_ok hn (by omega) hx hz) fun b hb => ?_
 refine Ok.bd (qMul_ok hn (by omega) ha hb) fun c hc => Ok.bd (qMul_ok hn (by omega) hw hc) fun d hd => ?_
 refine Ok.bd (qMul_ok hn (by omega) hx hx) fun e he => Ok.bd (qMul_ok hn (by omega) hx he) fun f hf => ?_
 rw [whole_3] at hd
 have hne : (3 : Rat) * ((p - q) * (p - r)) ≠ 0 := by
  have : (p - q) * (p - r) ≠ 0 := by grind
  grind
 exact Ok.bd (qDivide_ok hn (by omega) hf hd hne) fun o ho => ok_some.2 ho
theorem ok_step {α β : Type} {n : Nat} {f : (α → Option β) → α → Option β} {a : α} {Q : β → Prop} (h : Ok (f (loopO n f) a) Q) : Ok (loopO (n + 1) f a) Q := h
def Srt3 (a b c : Rat) (l : List api_Rat) : Prop := ∃ p q s P R S, l = [p, q, s] ∧ Qx p P 1 ∧ Qx q R 1 ∧ Qx s S 1 ∧ P ≤ R ∧ R ≤ S ∧ ∀ X Y, Sp P R S X Y → Sp a b c X Y
theorem nlt {a b : Rat} (h : ¬ a < b) : b ≤ a := by grind
theorem ins_ok {x y z : api_Rat} {a b c : Rat} (hx : Qx x a 1) (hy : Qx y b 1) (hz : Qx z c 1) : Ok (slices_insertionSortCmpFunc_fiducial_api_Rat_w_of_fraction_Compare 20000 [x, y, z] 0 3) (Srt3 a b c) := by
 unfold slices_insertionSortCmpFunc_fiducial_api_Rat_w_of_fraction_Compare
 rw [wrap64_in (n := (0 : Int) + 1) (by omega) (by omega)]
 refine Ok.bd (R := Srt3 a b c) ?_ (fun r h => ok_some.2 h)
 refine ok_step (n := 19999) ?_
 refine Ok.cd (fun _ => ?_) (fun h => by simp at h)
 refine Ok.bd (R := fun l => ∃ p q P R, l = [p, q, z] ∧ Qx p P 1 ∧ Qx q R 1 ∧ P ≤ R ∧ ∀ X Y, Sp P R c X Y → Sp a b c X Y) ?_ ?_
 · refine ok_step (n := 19999) ?_
   refine Ok.cd (fun _ => ?_) (fun h => by simp at h)
   dsimp only
   rw [wrap64_in (n := (0 : Int) + 1 - 1) (by omega) (by omega)]
   refine Ok.gd rfl (Ok.gd rfl (Ok.bd (qCmp_ok (a := b) (b := a) (j := 1) (k := 1) (by omega) (by omega) (by omega) hy hx) fun s hs => Ok.cd (fun h => ?_) (fun h => ?_)))
   · have h := hs.1 (of_decide_eq_true h)
     refine ok_step (n := 19998) ?_
     refine Ok.cd (fun h => by simp at h) (fun _ => ok_some.2 ⟨y, x, b, a, rfl, hy, hx, Rat.le_of_lt h, fun X Y h => h.s12⟩)
   · have h := fun k => of_decide_eq_false h (hs.2 k)
     exact ok_some.2 ⟨x, y, a, b, rfl, hx, hy, nlt h, fun X Y h => h⟩
 · rintro l ⟨p, q, P, R, rfl, hp, hq, hPR, hSp⟩
   rw [wrap64_in (n := (0 : Int) + 1 + 1) (by omega) (by omega)]
   refine ok_step (n := 19998) ?_
   refine Ok.cd (fun _ => ?_) (fun h => by simp at h)
   refine Ok.bd (R := Srt3 a b c) ?_ ?_
   · refine ok_step (n := 19999) ?_
     refine Ok.cd (fun _ => ?_) (fun h => by simp at h)
     dsimp only
     rw [wrap64_in (n := (0 : Int) + 1 + 1 - 1) (by omega) (by omega)]
     refine Ok.gd rfl (Ok.gd rfl (Ok.bd (qCmp_ok (a := c) (b := R) (j := 1) (k := 1) (by omega) (by omega) (by omega) hz hq) fun s hs => Ok.cd (fun h => ?_) (fun h => ?_)))
     · have h1 := hs.1 (of_decide_eq_true h)
       refine ok_step (n := 19998) ?_
       refine Ok.cd (fun _ => ?_) (fun h => by simp at h)
       dsimp only
       rw [wrap64_in (n := (0 : Int) + 1 + 1 - 1 - 1) (by omega) (by omega)]
       refine Ok.gd rfl (Ok.gd rfl (Ok.bd (qCmp_ok (a := c) (b := P) (j := 1) (k := 1) (by omega) (by omega) (by omega) hz hp) fun s hs => Ok.cd (fun h => ?_) (fun h => ?_)))
       · have h2 := hs.1 (of_decide_eq_true h)
         refine ok_step (n := 19997) ?_
         exact Ok.cd (fun h => by simp at h) (fun _ => ok_some.2 ⟨z, p, q, c, P, R, rfl, hz, hp, hq, Rat.le_of_lt h2, hPR, fun X Y h => hSp X Y h.rot⟩)
       · have h2 := fun k => of_decide_eq_false h (hs.2 k)
         exact ok_some.2 ⟨p, z, q, P, c, R, rfl, hp, hz, hq, nlt h2, Rat.le_of_lt h1, fun X Y h => hSp X Y h.s23⟩
     · have h := fun k => of_decide_eq_false h (hs.2 k)
       exact ok_some.2 ⟨p, q, z, P, R, c, rfl, hp, hq, hz, hPR, nlt h, hSp⟩
   · intro l hl
     rw [wrap64_in (n := (0 : Int) + 1 + 1 + 1) (by omega) (by omega)]
     refine ok_step (n := 19997) ?_
     exact Ok.cd (fun h => by simp at h) (fun _ => ok_some.2 hl)
theorem sort3_ok {x y z : api_Rat} {a b c : Rat} (hx : Qx x a 1) (hy : Qx y b 1) (hz : Qx z c 1) : Ok (slices_SortFunc_fiducial_api_Rat_fiducial_api_Rat_w_of_fraction_Compare 20000 [x, y, z]) (Srt3 a b c) := by
 unfold slices_SortFunc_fiducial_api_Rat_fiducial_api_Rat_w_of_fraction_Compare
 refine Ok.bde (b := 2) (by kernel_rfl) (Ok.bd (R := Srt3 a b c) ?_ (fun r h => ok_some.2 h))
 unfold slices_pdqsortCmpFunc_fiducial_api_Rat_w_of_fraction_Compare
 refine Ok.bd (R := Srt3 a b c) ?_ (fun r h => ok_some.2 h)
 refine ok_step (n := 19999) ?_
 refine Ok.gd (by kernel_rfl) (Ok.bd (ins_ok hx hy hz) fun r h => ok_some.2 h)
theorem sum3_ok {p q s : api_Rat} {P R S : Rat} (hp : Qx p P 1) (hq : Qx q R 1) (hs : Qx s S 1) : Ok (fraction_Sum 20000 [p, q, s]) fun o => Qx o (0 + P + R + S) 9 := by
 unfold fraction_Sum
 refine Ok.bd (qWhole_ok (by omega) (by omega) (by omega)) fun w hw => ?_
 rw [whole_0] at hw
 refine Ok.bd (R := fun o => Qx (api_Rat.mk (api_Int.mk o.1 o.2.1) (api_Int.mk o.2.2.1 o.2.2.2)) (0 + P + R + S) 9) ?_ (fun o ho => ok_some.2 ho)
 refine ok_step (n := 19999) ?_
 refine Ok.cd (fun _ => ?_) (fun h => by simp at h)
 refine Ok.gd rfl (Ok.bd (qAdd_ok (j := 3) (k := 1) (by omega) (by omega) hw hp) fun u hu => ?_)
 rw [wrap64_in (n := (0 : Int) + 1) (by omega) (by omega)]
 refine ok_step (n := 19998) ?_
 refine Ok.cd (fun _ => ?_) (fun h => by simp at h)
 refine Ok.gd rfl (Ok.bd (qAdd_ok (j := 5) (k := 1) (by omega) (by omega) hu hq) fun v hv => ?_)
 rw [wrap64_in (n := (0 : Int) + 1 + 1) (by omega) (by omega)]
 refine ok_step (n := 19997) ?_
 refine Ok.cd (fun _ => ?_) (fun h => by simp at h)
 refine Ok.gd rfl (Ok.bd (qAdd_ok (j := 7) (k := 1) (by omega) (by omega) hv hs) fun t ht => ?_)
 rw [wrap64_in (n := (0 : Int) + 1 + 1 + 1) (by omega) (by omega)]
 refine ok_step (n := 19996) ?_
 exact Ok.cd (fun h => by simp at h) (fun _ => ok_some.2 ht)
structure Cq (x : api_Rat) (r : Rat) : Prop where
 p : Ok (fraction_Value 20000 x) fun z => Qx z r 1
 l : Ok (fiducialref02_Value 20000 x) fun z => Qx z r 1
theorem tri_ok {x y z : api_Rat} {a b c : Rat} (hx : Cq x a) (hy : Cq y b) (hz : Cq z c) : Ok (volume_Triangle 20000 x y z) fun o => ∃ X Y, Sp a b c X Y ∧ Qx o.1 X 25 ∧ Qx o.2 Y 25 := by
 unfold volume_Triangle
 refine Ok.bd hx.p fun x' hx' => Ok.bd hy.p fun y' hy' => Ok.bd hz.p fun z' hz' => Ok.bd (sort3_ok hx' hy' hz') ?_
 rintro l ⟨p, q, s, P, R, S, rfl, hp, hq, hs, h1, h2, hSp⟩
 refine Ok.gd rfl (Ok.bd (qOf_ok (by omega) (by omega) (by omega) (by omega) (by omega) (by omega)) fun t ht => Ok.bd (sum3_ok hp hq hs) fun u hu => ?_)
 have ht := ht.1
 refine Ok.bd (qMul_ok (by omega) (by omega) ht hu) fun m hm => ?_
 have em : Rat.divInt 1 3 * (0 + P + R + S) = meanQ P R S := by rw [third_v]; unfold meanQ; grind
 rw [em] at hm
 refine Ok.bd (qWhole_ok (by omega) (by omega) (by omega)) fun w hw => ?_
 rw [whole_0] at hw
 refine Ok.gd rfl (Ok.bde (qSgn_ok (k := 1) (by omega) (by omega) hp) (Ok.cd (fun h => ?_) (fun h => ?_)))
 · have h := sg_ge.1 (of_decide_eq_true h)
   exact ok_some.2 ⟨_, _, hSp _ _ (sp_all h (by grind) (by grind)), QL.mono hm (by omega), QL.mono hw (by omega)⟩
 have h0 := fun k => of_decide_eq_false h (sg_ge.2 k)
 refine Ok.gd rfl (Ok.bde (qSgn_ok (k := 1) (by omega) (by omega) hs) (Ok.cd (fun h => ?_) (fun h => ?_)))
 · have h := sg_le.1 (of_decide_eq_true h)
   refine Ok.bd (qNeg_ok (by omega) (by omega) hm) fun v hv => ok_some.2 ⟨_, _, hSp _ _ (sp_none (by grind) (by grind) h), QL.mono hw (by omega), QL.mono hv (by omega)⟩
 have h3 := fun k => of_decide_eq_false h (sg_le.2 k)
 refine Ok.gd rfl (Ok.bde (qSgn_ok (k := 1) (by omega) (by omega) hq) (Ok.cd (fun h => ?_) (fun h => ?_)))
 · have h := sg_le.1 (of_decide_eq_true h)
   refine Ok.bd (peak_ok (by omega) hs hp hq (by grind) (by grind)) fun v hv => Ok.bd (qSub_ok (by omega) (by omega) hv hm) fun k hk => ok_some.2 ⟨_, _, hSp _ _ (Sp.rot ?_), QL.mono hv (by omega), hk⟩
   have := sp_one (a := S) (b := P) (c := R) (by grind) (by grind) h
   have em2 : meanQ S P R = meanQ P R S := by unfold meanQ; grind
   rw [em2] at this; exact this
 · have h := fun k => of_decide_eq_false h (sg_le.2 k)
   refine Ok.bd (qNeg_ok (by omega) (by omega) hp) fun p' hp' => Ok.bd (qNeg_ok (by omega) (by omega) hq) fun q' hq' => Ok.bd (qNeg_ok (by omega) (by omega) hs) fun s' hs' => ?_
   refine Ok.bd (peak_ok (by omega) hp' hq' hs' (by grind) (by grind)) fun v hv => Ok.bd (qAdd_ok (by omega) (by omega) hv hm) fun k hk => ok_some.2 ⟨_, _, hSp _ _ ?_, hk, QL.mono hv (by omega)⟩
   exact sp_two (by grind) (by grind) (by grind)
end Go.L

