import Derived.Test.YtdfhpiaapdbdpaaGreatParL52k
set_option linter.all false
namespace Go.L
open Go Go.Eng
def sumN (n : Nat) (G : Nat → Rat) : Rat := sumQ ((List.range n).map G)
theorem sumN_succ (n : Nat) (G : Nat → Rat) : sumN (n + 1) G = sumN n G + G n := by
 unfold sumN
 rw [List.range_succ, List.map_append, sumQ_append]
 show _ + (G n + 0) = _
 grind
theorem sumN_congr {G H : Nat → Rat} : ∀ {n : Nat}, (∀ i, i < n → G i = H i) → sumN n G = sumN n H
 | 0, _ => rfl
 | n + 1, h => by rw [sumN_succ, sumN_succ, sumN_congr (n := n) (fun i hi => h i (by omega)), h n (by omega)]
theorem sumN_split (a : Nat) (G : Nat → Rat) : ∀ b, sumN (a + b) G = sumN a G + sumN b (fun i => G (a + i))
 | 0 => by show sumN a G = sumN a G + 0; grind
 | b + 1 => by rw [← Nat.add_assoc, sumN_succ, sumN_split a G b, sumN_succ]; grind
theorem sumN_add (A B : Nat → Rat) : ∀ n, sumN n (fun j => A j + B j) = sumN n A + sumN n B
 | 0 => by show (0 : Rat) = 0 + 0; grind
 | n + 1 => by rw [sumN_succ, sumN_succ, sumN_succ, sumN_add A B n]; grind
theorem sum_filter {p : A3 Int → Rat} {q : A3 Int → Bool} : ∀ l : List (A3 Int), sumQ ((l.filter q).map p) = sumQ (l.map fun t => if q t = true then p t else 0)
 | [] => rfl
 | t :: l => by
  have ih := sum_filter (p := p) (q := q) l
  show _ = (if q t = true then p t else 0) + sumQ (l.map fun t => if q t = true then p t else 0)
  by_cases h : q t = true
  · rw [List.filter_cons_of_pos h, if_pos h, ← ih]; rfl
  · rw [List.filter_cons_of_neg h, if_neg h, ih]; grind
theorem sum_flat {p : A3 Int → Rat} {f : Nat → List (A3 Int)} : ∀ n, sumQ (((List.range n).flatMap f).map p) = sumN n (fun i => sumQ ((f i).map p))
 | 0 => rfl
 | n + 1 => by
  rw [List.range_succ, List.flatMap_append, List.map_append, sumQ_append, sum_flat n, sumN_succ]
  simp
def qF (F : Rat → Rat → Rat → Rat) (z a b c : Int) : Rat := if (a != -2147483648) && ((b != -2147483648) && (c != -2147483648)) then F ((a - z : Int) : Rat) ((b - z : Int) : Rat) ((c - z : Int) : Rat) else 0
def cellS (F : Rat → Rat → Rat → Rat) (z : Int) (v : Nat → Nat → Int) (j i : Nat) : Rat := qF F z (v j i) (v j (i + 1)) (v (j + 1) (i + 1)) + qF F z (v j i) (v (j + 1) (i + 1)) (v (j + 1) i)
def vG (Z : List Int) (w j i : Nat) : Int := Z.getD (j * w + i) default
theorem cellT_v {w h j i : Nat} (hw : w ≤ 64) (hh : h ≤ 64) (hj : j < h - 1) (hi : i < w - 1) : cellT (w : Int) j i = [A3.mk ((j * w + i : Nat) : Int) ((j * w + (i + 1) : Nat) : Int) (((j + 1) * w + (i + 1) : Nat) : Int), A3.mk ((j * w + i : Nat) : Int) (((j + 1) * w + (i + 1) : Nat) : Int) (((j + 1) * w + i : Nat) : Int)] := by
 have h1 : (j + 2) * w ≤ 66 * 64 := Nat.mul_le_mul (by omega) hw
 have e : ((j : Int) * (w : Int)) = ((j * w : Nat) : Int) := (Int.natCast_mul _ _).symm
 have e2 : (j + 1) * w = j * w + w := Nat.succ_mul _ _
 rw [Nat.add_mul] at h1
 unfold cellT
 rw [e, e2]
 generalize j * w = J at *
 rw [wrap64_in (n := (J : Int)) (by omega) (by omega), wrap64_in (n := (J : Int) + (i : Int)) (by omega) (by omega), wrap64_in (n := (J : Int) + (i : Int) + 1) (by omega) (by omega), wrap64_in (n := (J : Int) + (i : Int) + (w : Int)) (by omega) (by omega), wrap64_in (n := (J : Int) + (i : Int) + (w : Int) + 1) (by omega) (by omega)]
 have a1 : (J : Int) + i = ((J + i : Nat) : Int) := by omega
 have a2 : (J : Int) + i + 1 = ((J + (i + 1) : Nat) : Int) := by omega
 have a3 : (J : Int) + i + w + 1 = ((J + w + (i + 1) : Nat) : Int) := by omega
 have a4 : (J : Int) + i + w = ((J + w + i : Nat) : Int) := by omega
 rw [a2, a3, a4, a1]
theorem grid_sum (F : Rat → Rat → Rat → Rat) {g : api_Grid} {w h : Nat} (hg : Gd g w h) (z : Int) :
  sumQ ((triF g w h).map fun t => F ((gt g.Z t.e0 - z : Int) : Rat) ((gt g.Z t.e1 - z : Int) : Rat) ((gt g.Z t.e2 - z : Int) : Rat)) = sumN (h - 1) (fun j => sumN (w - 1) (fun i => cellS F z (vG g.Z w) j i)) := by
 unfold triF
 rw [sum_filter]
 unfold triT
 rw [sum_flat]
 refine sumN_congr fun j hj => ?_
 unfold rowT
 rw [sum_flat]
 refine sumN_congr fun i hi => ?_
 rw [hg.W, cellT_v hg.w1.2 hg.h1.2 hj hi]
 show (if hasZ g.Z _ = true then _ else (0 : Rat)) + ((if hasZ g.Z _ = true then _ else (0 : Rat)) + 0) = cellS F z (vG g.Z w) j i
 unfold cellS qF hasZ vG
 simp only [gt_nat]
 grind
structure Part (Z Zp : List Int) (W h fr wp : Nat) : Prop where
 len : Zp.length = wp * h
 v : ∀ j i, j < h → i < wp → Zp.getD (j * wp + i) default = Z.getD (j * W + (fr + i)) default
theorem part_v {g : api_Grid} {w h : Nat} (hg : Gd g w h) {fr wp : Nat} (hf : fr + wp ≤ w) (h1 : 1 ≤ wp) : ∃ Zp, fiduciallaw52_VolumeParts_1 20000 (fr : Int) ((fr + wp - 1 : Nat) : Int) g.X0 g.Y0 g.Step g.Width g.Height g.Z = some (api_Grid.mk g.X0 g.Y0 g.Step (wp : Int) g.Height Zp) ∧ Part g.Z Zp w h fr wp := by
 have hw := hg.w1; have hh := hg.h1; have hm := hg.m
 have hmm : w * h ≤ 64 * 64 := Nat.mul_le_mul hw.2 hh.2
 suffices hk : Ok (fiduciallaw52_VolumeParts_1 20000 (fr : Int) ((fr + wp - 1 : Nat) : Int) g.X0 g.Y0 g.Step g.Width g.Height g.Z) fun r => ∃ Zp, r = api_Grid.mk g.X0 g.Y0 g.Step (wp : Int) g.Height Zp ∧ Part g.Z Zp w h fr wp by
  obtain ⟨r, e, Zp, rfl, hp⟩ := hk
  exact ⟨Zp, e, hp⟩
 unfold fiduciallaw52_VolumeParts_1
 rw [hg.W, hg.H]
 refine Ok.bd (R := fun Zp => Part g.Z Zp w h fr wp) ?_ (fun Zp hp => ok_some.2 ⟨Zp, ?_, hp⟩)
 rotate_left
 · rw [wrap64_in (n := ((fr + wp - 1 : Nat) : Int) - (fr : Int)) (by omega) (by omega), wrap64_in (by omega) (by omega)]
   congr 1
   omega
 refine ok_rangeR (len := h) (fun k c => c.length = wp * k ∧ ∀ j i, j < k → i < wp → c.getD (j * wp + i) default = g.Z.getD (j * w + (fr + i)) default) (by omega) (by omega) ⟨rfl, fun j i hj => by omega⟩ ?_ ?_
 · rintro again k c hk ⟨hl, hv⟩ ih
   have hkw : (k + 1) * w ≤ h * w := Nat.mul_le_mul_right w (by omega)
   rw [Nat.succ_mul, Nat.mul_comm h w] at hkw
   have hkp : wp * k ≤ 64 * 64 := Nat.mul_le_mul (by omega) (by omega)
   refine Ok.cd (fun _ => ?_) (fun h => by have := of_decide_eq_false h; omega)
   have e : ((k : Int) * (w : Int)) = ((k * w : Nat) : Int) := (Int.natCast_mul _ _).symm
   rw [e, wrap64_in (n := ((k * w : Nat) : Int)) (by omega) (by omega), wrap64_in (n := ((k * w : Nat) : Int) + (fr : Int)) (by omega) (by omega), wrap64_in (n := ((k * w : Nat) : Int) + ((fr + wp - 1 : Nat) : Int)) (by omega) (by omega), wrap64_in (n := ((k * w : Nat) : Int) + ((fr + wp - 1 : Nat) : Int) + 1) (by omega) (by omega)]
   have e1 : (((k * w : Nat) : Int) + (fr : Int)).toNat = k * w + fr := by omega
   have e2 : (((k * w : Nat) : Int) + ((fr + wp - 1 : Nat) : Int) + 1).toNat = k * w + fr + wp := by omega
   rw [e1, e2, show k * w + fr + wp - (k * w + fr) = wp by omega]
   have hs : ((g.Z.drop (k * w + fr)).take wp).length = wp := by rw [List.length_take, List.length_drop]; omega
   refine Ok.gd (by rw [inS_iff]; omega) (Ok.gd (by rw [hs]; exact decide_eq_true (by omega)) (Ok.gd (by rw [hs]; exact decide_eq_true (by omega)) (ih _ ⟨by rw [List.length_append, hs, hl, Nat.mul_succ], fun j i hj hi => ?_⟩)))
   have hji : j * wp ≤ k * wp := Nat.mul_le_mul_right wp (by omega)
   rw [Nat.mul_comm wp k] at hl
   by_cases hjk : j = k
   · subst hjk
     simp only [List.getD]
     rw [List.getElem?_append_right (by omega), hl, show j * wp + i - j * wp = i by omega, List.getElem?_take, if_pos hi, List.getElem?_drop, Nat.add_assoc]
   · have hj2 : (j + 1) * wp ≤ k * wp := Nat.mul_le_mul_right wp (by omega)
     rw [Nat.succ_mul] at hj2
     have := hv j i (by omega) hi
     simp only [List.getD] at this ⊢
     rw [List.getElem?_append_left (by omega)]; exact this
 · rintro again c ⟨hl, hv⟩
   exact Ok.cd (fun h => by have := of_decide_eq_true h; omega) (fun _ => ok_some.2 ⟨hl, hv⟩)
def partG (g : api_Grid) (wp : Nat) (Zp : List Int) : api_Grid := api_Grid.mk g.X0 g.Y0 g.Step (wp : Int) g.Height Zp
theorem gd_part {g : api_Grid} {w h fr wp : Nat} {Zp : List Int} (hg : Gd g w h) (hp : Part g.Z Zp w h fr wp) (h2 : 2 ≤ wp) (hf : fr + wp ≤ w) : Gd (partG g wp Zp) wp h :=
 have hw := hg.w1
 ⟨⟨by show 2 ≤ (wp : Int) ∧ (wp : Int) ≤ 64; omega, hg.dim.h, hg.dim.s, hg.dim.e, hg.dim.x, hg.dim.y⟩, rfl, hg.H, by omega, hg.h1, hp.len⟩
theorem gc_part {g : api_Grid} {w h fr wp : Nat} {Zp : List Int} (hc : gcode g = 0) (hg : Gd g w h) (hp : Part g.Z Zp w h fr wp) (h2 : 2 ≤ wp) (hf : fr + wp ≤ w) : gcode (partG g wp Zp) = 0 := by
 have hgp := gd_part hg hp h2 hf
 obtain ⟨_, _, ha⟩ := gc_zero hc
 unfold gcode
 rw [if_pos hgp.dim]
 show (if (Zp.length : Int) = (wp : Int) * g.Height then (if Zp.any badZ = true then (2 : Int) else 0) else 4) = 0
 rw [hg.H, hp.len, Int.natCast_mul, if_pos rfl, if_neg]
 rw [Bool.not_eq_true, List.any_eq_false]
 intro x hx
 obtain ⟨k, hk, rfl⟩ := List.getElem_of_mem hx
 rw [hp.len] at hk
 have hj : k / wp < h := Nat.div_lt_of_lt_mul hk
 have hi := Nat.mod_lt k (show 0 < wp by omega)
 have e := Nat.div_add_mod k wp
 have hv := hp.v (k / wp) (k % wp) hj hi
 rw [show k / wp * wp + k % wp = k by rw [Nat.mul_comm]; exact e] at hv
 have hjw : (k / wp + 1) * w ≤ h * w := Nat.mul_le_mul_right w hj
 rw [Nat.succ_mul, Nat.mul_comm h w, ← hg.m] at hjw
 have hin : k / wp * w + (fr + k % wp) < g.Z.length := by omega
 simp only [List.getD, List.getElem?_eq_getElem (show k < Zp.length by rw [hp.len]; exact hk), List.getElem?_eq_getElem hin, Option.getD_some] at hv
 rw [hv]
 exact List.any_eq_false.1 ha _ (List.getElem_mem hin)
theorem parts_sum (F : Rat → Rat → Rat → Rat) {Z Z1 Z2 : List Int} {w h cut : Nat} (z : Int) (h1 : 1 ≤ cut) (h2 : cut + 2 ≤ w) (hh : 2 ≤ h) (p1 : Part Z Z1 w h 0 (cut + 1)) (p2 : Part Z Z2 w h cut (w - cut)) :
  sumN (h - 1) (fun j => sumN (w - 1) (fun i => cellS F z (vG Z w) j i)) = sumN (h - 1) (fun j => sumN (cut + 1 - 1) (fun i => cellS F z (vG Z1 (cut + 1)) j i)) + sumN (h - 1) (fun j => sumN (w - cut - 1) (fun i => cellS F z (vG Z2 (w - cut)) j i)) := by
 rw [← sumN_add]
 refine sumN_congr fun j hj => ?_
 rw [show w - 1 = cut + (w - cut - 1) by omega, sumN_split, Nat.add_sub_cancel]
 have a : ∀ j i, j < h → i < cut + 1 → vG Z1 (cut + 1) j i = vG Z w j i := fun j i hj hi => by
  have := p1.v j i hj hi
  rw [Nat.zero_add] at this; exact this
 have b : ∀ j i, j < h → i < w - cut → vG Z2 (w - cut) j i = vG Z w j (cut + i) := fun j i hj hi => p2.v j i hj hi
 rw [sumN_congr (n := cut) (H := fun i => cellS F z (vG Z1 (cut + 1)) j i) (fun i hi => ?_), sumN_congr (n := w - cut - 1) (H := fun i => cellS F z (vG Z2 (w - cut)) j i) (fun i hi => ?_)]
 · unfold cellS
   rw [b j i (by omega) (by omega), b j (i + 1) (by omega) (by omega), b (j + 1) (i + 1) (by omega) (by omega), b (j + 1) i (by omega) (by omega)]
   rfl
 · unfold cellS
   rw [a j i (by omega) (by omega), a j (i + 1) (by omega) (by omega), a (j + 1) (i + 1) (by omega) (by omega), a (j + 1) i (by omega) (by omega)]
theorem qx_tight {x y : api_Rat} {a : Rat} {j k : Nat} (hx : Qx x a j) (hy : Qx y a k) : Qx y a j := ⟨hy.num, hy.den, by rw [← (isI_inj hx.num hy.num).2]; exact hx.nl, by rw [← (isI_inj hx.den hy.den).2]; exact hx.dl⟩
theorem same_two {x y : api_Rat} {a : Rat} (hx : Qx x a 89) (hy : Qx y a 89) : fiducialref02_SameRat 20000 x y = some true := by
 unfold fiducialref02_SameRat
 rw [R.qSame_ok (by omega) (by omega) hx hy]; rfl
theorem parts_v (g : api_Grid) (column rise : Int) (hcol : 0 ≤ column ∧ column ≤ 255) (hrise : 0 ≤ rise ∧ rise ≤ 255) : fiduciallaw52_VolumeParts 20000 g column rise = some true := by
 apply Ok.eq
 unfold fiduciallaw52_VolumeParts
 refine Ok.bde known52_v (Ok.cd (fun h => by cases h) (fun _ => ?_))
 unfold fiduciallaw52_few
 refine Ok.bde rfl (Ok.cd (fun _ => ok_some.2 rfl) (fun h36 => Ok.bde (lcheck_v (by omega) g) (Ok.cd (fun _ => ok_some.2 rfl) (fun hc => Ok.cd (fun _ => ok_some.2 rfl) (fun hw3 => ?_)))))
 have h36 : g.Z.length ≤ 36 := by
  have : decide ((g.Z.length : Int) ≤ 36) = true := by simpa using h36
  have := of_decide_eq_true this; omega
 have hc : gcode g = 0 := by simpa using hc
 obtain ⟨w, h, hg⟩ := gd_of hc
 have hw := hg.w1; have hh := hg.h1; have hW := hg.W
 have hw3 := of_decide_eq_false hw3
 have hw3 : 3 ≤ w := by omega
 rw [hW, wrap64_in (n := column) (by omega) (by omega), wrap64_in (n := (w : Int) - 2) (by omega) (by omega), wrap64_in (n := (w : Int) - 1) (by omega) (by omega)]
 refine Ok.gd (by simp; omega) ?_
 obtain ⟨cl, rfl⟩ : ∃ cl : Nat, column = (cl : Int) := ⟨column.toNat, by omega⟩
 have ew : (w : Int) - 2 = ((w - 2 : Nat) : Int) := by omega
 have em : ((cl : Int)).tmod ((w : Int) - 2) = ((cl % (w - 2) : Nat) : Int) := by rw [ew, Int.tmod_eq_emod_of_nonneg (by omega)]; rfl
 have hmod := Nat.mod_lt cl (show 0 < w - 2 by omega)
 rw [em, wrap64_in (n := 1 + ((cl % (w - 2) : Nat) : Int)) (by omega) (by omega), wrap64_in (n := rise) (by omega) (by omega), wrap64_in (n := 3 + rise) (by omega) (by omega)]
 obtain ⟨cut, hcut⟩ : ∃ cut : Nat, 1 + ((cl % (w - 2) : Nat) : Int) = (cut : Int) := ⟨1 + cl % (w - 2), by omega⟩
 rw [hcut]
 have c1 : 1 ≤ cut := by omega
 have c2 : cut + 2 ≤ w := by omega
 have f3 : farE 3 = false := far_bd.2 (by omega)
 have fr : farE (3 + rise) = false := far_bd.2 (by omega)
 obtain ⟨Z1, e1, p1⟩ := part_v hg (fr := 0) (wp := cut + 1) (by omega) (by omega)
 obtain ⟨Z2, e2, p2⟩ := part_v hg (fr := cut) (wp := w - cut) (by omega) (by omega)
 rw [show 0 + (cut + 1) - 1 = cut by omega] at e1
 rw [show ((cut + (w - cut) - 1 : Nat) : Int) = (w : Int) - 1 by omega] at e2
 have hg1 := gd_part hg p1 (by omega) (by omega)
 have hg2 := gd_part hg p2 (by omega) (by omega)
 have hc1 := gc_part hc hg p1 (by omega) (by omega)
 have hc2 := gc_part hc hg p2 (by omega) (by omega)
 have l1 : (partG g (cut + 1) Z1).Z.length ≤ 36 := by
  show Z1.length ≤ 36
  have : (cut + 1) * h ≤ w * h := Nat.mul_le_mul_right h (by omega)
  rw [p1.len]; have := hg.m; omega
 have l2 : (partG g (w - cut) Z2).Z.length ≤ 36 := by
  show Z2.length ≤ 36
  have : (w - cut) * h ≤ w * h := Nat.mul_le_mul_right h (by omega)
  rw [p2.len]; have := hg.m; omega
 obtain ⟨v, hv, v1, v2⟩ := lvl_val hc hg h36 f3
 obtain ⟨s, hs, s1, s2⟩ := lvl_val hc1 hg1 l1 f3
 obtain ⟨t, ht, t1, t2⟩ := lvl_val hc2 hg2 l2 f3
 obtain ⟨u, hu, u1, u2⟩ := lvl_val hc hg h36 fr
 have L0 : volume_Level 20000 g 3 = some (v.1, v.2, 0) := by rw [level_v hc hg f3, hv]; rfl
 have L1 : volume_Level 20000 (partG g (cut + 1) Z1) 3 = some (s.1, s.2, 0) := by rw [level_v hc1 hg1 f3, hs]; rfl
 have L2 : volume_Level 20000 (partG g (w - cut) Z2) 3 = some (t.1, t.2, 0) := by rw [level_v hc2 hg2 f3, ht]; rfl
 have L3 : volume_Level 20000 g (3 + rise) = some (u.1, u.2, 0) := by rw [level_v hc hg fr, hu]; rfl
 rw [hW] at e1 e2
 refine Ok.bde L0 (Ok.bde e1 (Ok.bde L1 (Ok.bde e2 (Ok.bde L2 (Ok.bde L3 (Ok.cd (fun _ => ?_) (fun h => absurd (show true = false from h) (by decide))))))))
 have ex : areaQ g.Step * sumQ ((triF (partG g (cut + 1) Z1) (cut + 1) h).map (xh fun k => gt Z1 k - 3)) + areaQ g.Step * sumQ ((triF (partG g (w - cut) Z2) (w - cut) h).map (xh fun k => gt Z2 k - 3)) = areaQ g.Step * sumQ ((triF g w h).map (xh fun k => gt g.Z k - 3)) := by
  have a := grid_sum XQ hg 3
  have b := grid_sum XQ hg1 3
  have c := grid_sum XQ hg2 3
  have d := parts_sum XQ 3 c1 c2 hh.1 p1 p2
  have eq : sumQ ((triF g w h).map (xh fun k => gt g.Z k - 3)) = sumQ ((triF (partG g (cut + 1) Z1) (cut + 1) h).map (xh fun k => gt Z1 k - 3)) + sumQ ((triF (partG g (w - cut) Z2) (w - cut) h).map (xh fun k => gt Z2 k - 3)) := a.trans (d.trans (by rw [show sumN (h - 1) (fun j => sumN (cut + 1 - 1) (fun i => cellS XQ 3 (vG Z1 (cut + 1)) j i)) = _ from b.symm, show sumN (h - 1) (fun j => sumN (w - cut - 1) (fun i => cellS XQ 3 (vG Z2 (w - cut)) j i)) = _ from c.symm]; rfl))
  rw [eq]; grind
 have ey : areaQ g.Step * sumQ ((triF (partG g (cut + 1) Z1) (cut + 1) h).map (yh fun k => gt Z1 k - 3)) + areaQ g.Step * sumQ ((triF (partG g (w - cut) Z2) (w - cut) h).map (yh fun k => gt Z2 k - 3)) = areaQ g.Step * sumQ ((triF g w h).map (yh fun k => gt g.Z k - 3)) := by
  have a := grid_sum YQ hg 3
  have b := grid_sum YQ hg1 3
  have c := grid_sum YQ hg2 3
  have d := parts_sum YQ 3 c1 c2 hh.1 p1 p2
  have eq : sumQ ((triF g w h).map (yh fun k => gt g.Z k - 3)) = sumQ ((triF (partG g (cut + 1) Z1) (cut + 1) h).map (yh fun k => gt Z1 k - 3)) + sumQ ((triF (partG g (w - cut) Z2) (w - cut) h).map (yh fun k => gt Z2 k - 3)) := a.trans (d.trans (by rw [show sumN (h - 1) (fun j => sumN (cut + 1 - 1) (fun i => cellS YQ 3 (vG Z1 (cut + 1)) j i)) = _ from b.symm, show sumN (h - 1) (fun j => sumN (w - cut - 1) (fun i => cellS YQ 3 (vG Z2 (w - cut)) j i)) = _ from c.symm]; rfl))
  rw [eq]; grind
 have kk := area_nonneg g.Step (by have := hg.dim.s; omega)
 have mul : ∀ {p q : Rat}, p ≤ q → areaQ g.Step * p ≤ areaQ g.Step * q := fun h => Rat.mul_le_mul_of_nonneg_left h kk
 refine Ok.bd (R.qAdd_ok (by omega) (by omega) s1 t1) fun p hp => ?_
 have hp : Qx p _ 179 := hp
 have hp : Qx p (areaQ g.Step * sumQ ((triF g w h).map (xh fun k => gt g.Z k - 3))) 179 := by rw [← ex]; exact hp
 refine Ok.bde (same_two v1 (qx_tight v1 hp)) (Ok.cd (fun _ => ?_) (fun h => by cases h))
 refine Ok.bd (R.qAdd_ok (by omega) (by omega) s2 t2) fun q hq => ?_
 have hq : Qx q _ 179 := hq
 have hq : Qx q (areaQ g.Step * sumQ ((triF g w h).map (yh fun k => gt g.Z k - 3))) 179 := by rw [← ey]; exact hq
 refine Ok.bde (same_two v2 (qx_tight v2 hq)) (Ok.cd (fun _ => ?_) (fun h => by cases h))
 have m1 : sumQ ((triF g w h).map (xh fun k => gt g.Z k - (3 + rise))) ≤ sumQ ((triF g w h).map (xh fun k => gt g.Z k - 3)) := sumQ_mono fun t ht =>
  xq_mono (Rat.intCast_le_intCast.2 (by dsimp only; omega)) (Rat.intCast_le_intCast.2 (by dsimp only; omega)) (Rat.intCast_le_intCast.2 (by dsimp only; omega))
 have m2 : sumQ ((triF g w h).map (yh fun k => gt g.Z k - 3)) ≤ sumQ ((triF g w h).map (yh fun k => gt g.Z k - (3 + rise))) := sumQ_mono fun t ht =>
  yq_mono (Rat.intCast_le_intCast.2 (by dsimp only; omega)) (Rat.intCast_le_intCast.2 (by dsimp only; omega)) (Rat.intCast_le_intCast.2 (by dsimp only; omega))
 have m1 := mul m1
 have m2 := mul m2
 refine Ok.bde (R.qCompare_ok (by omega) (by omega) u1 v1) (Ok.cd (fun _ => ?_) (fun h => absurd (sg_le.2 (by grind)) (of_decide_eq_false h)))
 exact Ok.bde (R.qCompare_ok (by omega) (by omega) u2 v2) (ok_some.2 (decide_eq_true (sg_ge.2 (by grind))))
theorem u8_of {a : Int} (h : (Lit.int .u8 a).wf = true) : 0 ≤ a ∧ a ≤ 255 := by
 simp [Lit.wf, IntKind.min, IntKind.max, IntKind.signed, IntKind.bits] at h
 exact h
end Go.L

