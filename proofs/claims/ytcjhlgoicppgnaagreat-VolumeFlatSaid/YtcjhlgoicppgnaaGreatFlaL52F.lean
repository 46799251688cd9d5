import Derived.Test.YtcjhlgoicppgnaaGreatFlaL52h
import Derived.Test.YtcjhlgoicppgnaaGreatFlaL52rep
set_option linter.all false
namespace Go.L
open Go Go.Eng
theorem same_v {x : api_Rat} {a : Rat} (hx : Qx x a 89) : fiducialref02_SameRat 20000 x x = some true := by
 unfold fiducialref02_SameRat
 rw [R.qSame_ok (by omega) (by omega) hx hx]; rfl
def lvlT (g : api_Grid) (w h : Nat) (z : Int) : Option (api_Rat × api_Rat) := totG 20000 g.Step (triF g w h) (fun k => volume_Level_1 20000 k g.X0 g.Y0 g.Step g.Width g.Height g.Z z)
theorem level_v {g : api_Grid} {w h : Nat} {z : Int} (hc : gcode g = 0) (hg : Gd g w h) (hz : farE z = false) : volume_Level 20000 g z = bdO (lvlT g w h z) fun v => some (v.1, v.2, 0) := by
 unfold volume_Level
 rw [tcheck_v (by omega), hc, tri_v (by omega) hg, vfar_v, hz]
 rfl
theorem level_no {g : api_Grid} {z : Int} (h : gcode g ≠ 0 ∨ farE z = true) : ∃ r, volume_Level 20000 g z = some r ∧ (r.2.2 != 0) = true := by
 unfold volume_Level
 rw [tcheck_v (by omega), vfar_v]
 by_cases hc : gcode g = 0
 · have hz := h.resolve_left fun k => k hc
   rw [hc, hz]
   exact ⟨_, rfl, rfl⟩
 · have e : (gcode g != 0) = true := by simpa using hc
   refine ⟨(api_Rat.mk (api_Int.mk false []) (api_Int.mk false []), api_Rat.mk (api_Int.mk false []) (api_Int.mk false []), gcode g), ?_, e⟩
   show cdO (gcode g != 0) _ _ = _
   rw [e]; rfl
theorem gz_bd {g : api_Grid} (hc : gcode g = 0) {i : Int} (hi : inR i g.Z.length = true) : gt g.Z i = -2147483648 ∨ (-1048576 ≤ gt g.Z i ∧ gt g.Z i ≤ 1048576) := by
 obtain ⟨_, _, ha⟩ := gc_zero hc
 have hi2 := inR_iff.1 hi
 obtain ⟨k, rfl⟩ : ∃ k : Nat, i = (k : Int) := ⟨i.toNat, by omega⟩
 have hk : k < g.Z.length := by omega
 have hm : g.Z.getD k default ∈ g.Z := by simp only [List.getD, List.getElem?_eq_getElem hk, Option.getD_some]; exact List.getElem_mem hk
 have := List.any_eq_false.1 ha _ hm
 rw [gt_nat]
 generalize g.Z.getD k default = v at *
 unfold badZ farE at this
 simp at this
 by_cases hv : v = -2147483648
 · exact .inl hv
 · have := this hv; exact .inr (by omega)
theorem has_at {Z : List Int} {t : A3 Int} (h : hasZ Z t = true) : gt Z t.e0 ≠ -2147483648 ∧ gt Z t.e1 ≠ -2147483648 ∧ gt Z t.e2 ≠ -2147483648 := by
 unfold hasZ at h
 simp only [Bool.and_eq_true, bne_iff_ne] at h
 exact h
theorem triF_len {g : api_Grid} {w h : Nat} (hg : Gd g w h) (h36 : g.Z.length ≤ 36) : (triF g w h).length ≤ 50 := by
 have h1 := List.length_filter_le (hasZ g.Z) (triT g.Width (w - 1) (h - 1))
 rw [tri_len] at h1
 have hw := hg.w1; have hh := hg.h1; have hm := hg.m
 obtain ⟨a, rfl⟩ : ∃ a, w = a + 1 := ⟨w - 1, by omega⟩
 obtain ⟨b, rfl⟩ : ∃ b, h = b + 1 := ⟨h - 1, by omega⟩
 simp only [Nat.add_sub_cancel] at h1
 rw [Nat.mul_assoc] at h1
 have e : (a + 1) * (b + 1) = a * b + a + b + 1 := by rw [Nat.add_mul, Nat.mul_add]; omega
 have hab : 4 * (a * b) ≤ (a + b) * (a + b) := by
  have := Int.mul_nonneg (a := (0 : Int)) (b := 0) (by omega) (by omega)
  rcases Nat.le_total a b with k | k
  · obtain ⟨c, rfl⟩ := Nat.le.dest k
    have : (a + (a + c)) * (a + (a + c)) = 4 * (a * (a + c)) + c * c := by grind
    omega
  · obtain ⟨c, rfl⟩ := Nat.le.dest k
    have : (b + c + b) * (b + c + b) = 4 * ((b + c) * b) + c * c := by grind
    omega
 have hs : ¬ 11 ≤ a + b → a * b ≤ 25 := fun k => by
  have : (a + b) * (a + b) ≤ 10 * 10 := Nat.mul_le_mul (by omega) (by omega)
  omega
 unfold triF
 simp only [Nat.add_sub_cancel]
 by_cases k : 11 ≤ a + b
 · omega
 · have := hs k; omega
theorem far_bd {z : Int} : farE z = false ↔ -1048576 ≤ z ∧ z ≤ 1048576 := by
 unfold farE
 rw [Bool.or_eq_false_iff, decide_eq_false_iff_not, decide_eq_false_iff_not]; omega
theorem lvl_ok {g : api_Grid} {w h : Nat} {z : Int} (hc : gcode g = 0) (hg : Gd g w h) (h36 : g.Z.length ≤ 36) (hz : farE z = false) : Ok (lvlT g w h z) fun r => (∃ P, Qx r.1 P 89) ∧ ∃ Q, Qx r.2 Q 89 := by
 have hz := far_bd.1 hz
 refine totG_ok (triF_len hg h36) (by have := hg.dim.s; omega) fun t ht => ?_
 obtain ⟨ht, hh⟩ := List.mem_filter.1 ht
 obtain ⟨i0, i1, i2⟩ := tri_in hg ht
 obtain ⟨n0, n1, n2⟩ := has_at hh
 have b0 := (gz_bd hc i0).resolve_left n0
 have b1 := (gz_bd hc i1).resolve_left n1
 have b2 := (gz_bd hc i2).resolve_left n2
 have e : ∀ k, inR k g.Z.length = true → -1048576 ≤ gt g.Z k ∧ gt g.Z k ≤ 1048576 → volume_Level_1 20000 k g.X0 g.Y0 g.Step g.Width g.Height g.Z z = some (gt g.Z k - z) := by
  intro k hk hb
  unfold volume_Level_1
  rw [hk, wrap64_in (by omega) (by omega)]; rfl
 exact ⟨_, _, _, ⟨e _ i0 b0, e _ i1 b1, e _ i2 b2⟩, by omega, by omega, by omega⟩
theorem eqT_iff {a b : A3 Int} : ((a.e0 : Int) == b.e0 && (((a.e1 : Int) == b.e1) && (((a.e2 : Int) == b.e2) && true))) = true ↔ a = b := by
 obtain ⟨a0, a1, a2⟩ := a
 obtain ⟨b0, b1, b2⟩ := b
 simp
theorem del_v {S B : List (A3 Int)} (h1 : S.length < 20000) (h2 : B.length < 20000) (h : ∀ t ∈ S, t ∈ B) : slices_DeleteFunc_3_int_3_int_of_volume_Between_1 20000 S B = some S := by
 have hb : ∀ t, volume_Between_1 20000 t B = some (!(B.any fun x => ((t.e0 : Int) == x.e0 && (((t.e1 : Int) == x.e1) && (((t.e2 : Int) == x.e2) && true))))) := by
  intro t
  unfold volume_Between_1 slices_Contains_3_int_3_int
  have : slices_Index_3_int_3_int 20000 B t = some (idxB (fun x => ((t.e0 : Int) == x.e0 && (((t.e1 : Int) == x.e1) && (((t.e2 : Int) == x.e2) && true)))) B) := loop_index (p := fun x : A3 Int => ((t.e0 : Int) == x.e0 && (((t.e1 : Int) == x.e1) && (((t.e2 : Int) == x.e2) && true)))) h2 (by omega)
  rw [this]
  show some (!decide (idxB _ B ≥ 0)) = _
  rw [idxB_ge]
 have hi : slices_IndexFunc_3_int_3_int_of_volume_Between_1 20000 S B = some (idxB (fun t => !(B.any fun x => ((t.e0 : Int) == x.e0 && (((t.e1 : Int) == x.e1) && (((t.e2 : Int) == x.e2) && true))))) S) := loop_indexF (fun t => hb t) h1 (by omega)
 have hn : idxB (fun t => !(B.any fun x => ((t.e0 : Int) == x.e0 && (((t.e1 : Int) == x.e1) && (((t.e2 : Int) == x.e2) && true))))) S = -1 := by
  clear hi
  induction S with
  | nil => rfl
  | cons t S ih =>
   have ih := ih (by simp at h1; omega) (fun t ht => h t (List.mem_cons_of_mem _ ht))
   have ht : (B.any fun x => ((t.e0 : Int) == x.e0 && (((t.e1 : Int) == x.e1) && (((t.e2 : Int) == x.e2) && true)))) = true := List.any_eq_true.2 ⟨t, h t (by simp), eqT_iff.2 rfl⟩
   unfold idxB
   rw [ih, ht]; rfl
 unfold slices_DeleteFunc_3_int_3_int_of_volume_Between_1
 rw [hi, hn]; rfl
def withZ (g : api_Grid) (Z : List Int) : api_Grid := api_Grid.mk g.X0 g.Y0 g.Step g.Width g.Height Z
theorem dim_with {g : api_Grid} {Z : List Int} : Dim (withZ g Z) ↔ Dim g := ⟨fun d => ⟨d.w, d.h, d.s, d.e, d.x, d.y⟩, fun d => ⟨d.w, d.h, d.s, d.e, d.x, d.y⟩⟩
theorem gd_with {g : api_Grid} {Z : List Int} {w h : Nat} (hg : Gd g w h) (hZ : Z.length = g.Z.length) : Gd (withZ g Z) w h := ⟨dim_with.2 hg.dim, hg.W, hg.H, hg.w1, hg.h1, by show Z.length = _; rw [hZ, hg.m]⟩
theorem gc_with {g : api_Grid} {Z : List Int} (hc : gcode g = 0) (hZ : Z.length = g.Z.length) (hb : Z.any badZ = false) : gcode (withZ g Z) = 0 := by
 obtain ⟨d, e, _⟩ := gc_zero hc
 unfold gcode
 rw [if_pos (dim_with.2 d)]
 show (if (Z.length : Int) = g.Width * g.Height then (if Z.any badZ = true then (2 : Int) else 0) else 4) = 0
 rw [if_pos (show (Z.length : Int) = g.Width * g.Height by rw [hZ]; exact e), if_neg (show ¬ Z.any badZ = true by rw [hb]; decide)]
theorem gt_rep {z : Int} {m : Nat} {k : Int} (h : inR k m = true) : gt (List.replicate m z) k = z := by
 have h2 := inR_iff.1 h
 obtain ⟨j, rfl⟩ : ∃ j : Nat, k = (j : Int) := ⟨k.toNat, by omega⟩
 rw [gt_nat]
 have : j < m := by omega
 simp [List.getD, this]
theorem between_v {g : api_Grid} {w h : Nat} {z : Int} (hc : gcode g = 0) (hg : Gd g w h) (h36 : g.Z.length ≤ 36) (hz : farE z = false) : volume_Between 20000 g (withZ g (List.replicate g.Z.length z)) = bdO (lvlT g w h z) fun v => some (v.1, v.2, 0) := by
 have hzb := far_bd.1 hz
 have hm4 : 4 ≤ g.Z.length := by rw [hg.m]; exact Nat.mul_le_mul hg.w1.1 hg.h1.1
 have hrl : (List.replicate g.Z.length z).length = g.Z.length := by simp
 have hgf := gd_with hg hrl
 have hcf : gcode (withZ g (List.replicate g.Z.length z)) = 0 := gc_with hc hrl (by
  rw [List.any_eq_false]
  intro x hx
  have := (List.mem_replicate.1 hx).2
  subst this
  unfold badZ
  rw [hz, Bool.and_false]; decide)
 have hchk : loopO (α := Int) (β := Sum (Unit) (api_Rat × api_Rat × Int)) 20000 (fun again25 x_18 => (
  cdO (decide (x_18 < 2)) (
   gdO (inR x_18 ([g, withZ g (List.replicate g.Z.length z)].length)) (
   bdO (terrain_Check 20000 (gt [g, withZ g (List.replicate g.Z.length z)] x_18)) fun v29 => (
   cdO ((v29 : Int) != 0) (
    some (Sum.inr ((api_Rat.mk (api_Int.mk false []) (api_Int.mk false []), api_Rat.mk (api_Int.mk false []) (api_Int.mk false []), v29)))
   ) (
    again25 (wrapF .i64 (x_18 + 1))
   )
   )
   )
  ) (
   some (Sum.inl ())
  )
 )) 0 = some (.inl ()) := by
  apply Ok.eq
  refine ok_step (n := 19999) (Ok.cd (fun _ => Ok.gd rfl (Ok.bde (b := 0) ?_ (Ok.cd (fun h => by cases h) (fun _ => ?_)))) (fun h => by simp at h))
  · show terrain_Check 20000 g = some 0
    rw [tcheck_v (by omega), hc]
  rw [wrap64_in (n := (0 : Int) + 1) (by omega) (by omega)]
  refine ok_step (n := 19998) (Ok.cd (fun _ => Ok.gd rfl (Ok.bde (b := 0) ?_ (Ok.cd (fun h => by cases h) (fun _ => ?_)))) (fun h => by simp at h))
  · show terrain_Check 20000 (withZ g (List.replicate g.Z.length z)) = some 0
    rw [tcheck_v (by omega), hcf]
  rw [wrap64_in (n := (0 : Int) + 1 + 1) (by omega) (by omega)]
  exact ok_step (n := 19997) (Ok.cd (fun h => by simp at h) (fun _ => ok_some.2 rfl))
 unfold volume_Between
 rw [hchk, tri_v (by omega) hg, tri_v (by omega) hgf]
 have b1 : ∀ x : Int, (x != x) = false := fun x => by simp
 show cdO (g.X0 != g.X0) _ (cdO (g.Y0 != g.Y0) _ (cdO (g.Step != g.Step) _ (cdO (g.Width != g.Width) _ (cdO (g.Height != g.Height) _ (bdO (slices_DeleteFunc_3_int_3_int_of_volume_Between_1 20000 (triF g w h) (triF (withZ g (List.replicate g.Z.length z)) w h)) _))))) = _
 rw [b1, b1, b1, b1, b1, del_v (by have := triF_len hg h36; omega) (by have := triF_len hgf (by show (List.replicate g.Z.length z).length ≤ 36; rw [hrl]; exact h36); omega) (fun t ht => ?_)]
 · show (bdO (totG 20000 g.Step (triF g w h) (fun k => volume_Between_2 20000 k g.X0 g.Y0 g.Step g.Width g.Height g.Z g.X0 g.Y0 g.Step g.Width g.Height (List.replicate g.Z.length z))) _) = _
   unfold lvlT
   rw [totG_congr (f' := fun k => volume_Level_1 20000 k g.X0 g.Y0 g.Step g.Width g.Height g.Z z) (fun t ht => ?_)]
   obtain ⟨ht, _⟩ := List.mem_filter.1 ht
   obtain ⟨i0, i1, i2⟩ := tri_in hg ht
   have e : ∀ k, inR k g.Z.length = true → volume_Between_2 20000 k g.X0 g.Y0 g.Step g.Width g.Height g.Z g.X0 g.Y0 g.Step g.Width g.Height (List.replicate g.Z.length z) = volume_Level_1 20000 k g.X0 g.Y0 g.Step g.Width g.Height g.Z z := by
    intro k hk
    unfold volume_Between_2 volume_Level_1
    rw [hrl, hk, gt_rep hk]; rfl
   exact ⟨e _ i0, e _ i1, e _ i2⟩
 · obtain ⟨ht, _⟩ := List.mem_filter.1 ht
   obtain ⟨i0, i1, i2⟩ := tri_in hg ht
   refine List.mem_filter.2 ⟨ht, ?_⟩
   show hasZ (List.replicate g.Z.length z) t = true
   unfold hasZ
   rw [gt_rep i0, gt_rep i1, gt_rep i2]
   have : (z != -2147483648) = true := by simp; omega
   rw [this]; rfl
def upL (Z : List Int) (r : Int) : List Int := Z.map fun v => if v = -2147483648 then v else wrapF .i64 (v + r)
theorem up_at {Z : List Int} {r k : Int} (h : inR k Z.length = true) : gt (upL Z r) k = if gt Z k = -2147483648 then gt Z k else wrapF .i64 (gt Z k + r) := by
 have h2 := inR_iff.1 h
 obtain ⟨j, rfl⟩ : ∃ j : Nat, k = (j : Int) := ⟨k.toNat, by omega⟩
 have hj : j < Z.length := by omega
 rw [gt_nat, gt_nat]
 unfold upL
 simp [List.getD, hj]
theorem getD_set3 {l : List Int} {i j : Nat} {v : Int} (hi : i < l.length) : (l.set i v).getD j default = if j = i then v else l.getD j default := by
 simp only [List.getD, List.getElem?_set]
 by_cases h : i = j
 · subst h; simp [hi]
 · have : ¬ j = i := fun e => h e.symm
   simp [h, this]
theorem raise_v {Z : List Int} {r : Int} (h : Z.length ≤ 36) : loopO (α := List Int × Int) (β := List Int) 20000 (fun again41 (up_34, x_35) => (
            cdO (decide (x_35 < (Z.length : Int))) (
             gdO (inR x_35 up_34.length) (
             cdO (((gt up_34 x_35) : Int) != (-2147483648)) (
              again41 (up_34.set x_35.toNat (wrapF .i64 ((gt up_34 x_35) + r)), wrapF .i64 (x_35 + 1))
             ) (
              again41 (up_34, wrapF .i64 (x_35 + 1))
             )
             )
            ) (
             some (up_34)
            )
 )) (Z, 0) = some (upL Z r) := by
 apply Ok.eq
 refine ok_rangeR (len := Z.length) (fun k c => c.length = Z.length ∧ ∀ j, j < Z.length → c.getD j default = if j < k then (if Z.getD j default = -2147483648 then Z.getD j default else wrapF .i64 (Z.getD j default + r)) else Z.getD j default) (by omega) (by omega) ⟨rfl, fun j hj => by rw [if_neg (by omega)]⟩ ?_ ?_
 · rintro again k c hk ⟨hl, hv⟩ ih
   have hvk := hv k hk
   rw [if_neg (by omega)] at hvk
   refine Ok.cd (fun _ => ?_) (fun h => by have := of_decide_eq_false h; omega)
   refine Ok.gd (by rw [inR_nat]; exact decide_eq_true (by omega)) ?_
   rw [gt_nat, hvk, Int.toNat_natCast]
   refine Ok.cd (fun hn => ih _ ⟨by simpa using hl, fun j hj => ?_⟩) (fun hn => ih _ ⟨hl, fun j hj => ?_⟩)
   · have hn : Z.getD k default ≠ -2147483648 := by simpa using hn
     rw [getD_set3 (by omega)]
     by_cases hjk : j = k
     · subst hjk; rw [if_pos rfl, if_pos (show j < j + 1 by omega), if_neg hn]
     · rw [if_neg hjk, hv j hj]
       by_cases h2 : j < k
       · rw [if_pos h2, if_pos (show j < k + 1 by omega)]
       · rw [if_neg h2, if_neg (show ¬ j < k + 1 by omega)]
   · have hn : Z.getD k default = -2147483648 := by simpa using hn
     rw [hv j hj]
     by_cases hjk : j = k
     · subst hjk; rw [if_neg (show ¬ j < j by omega), if_pos (show j < j + 1 by omega), if_pos hn]
     · by_cases h2 : j < k
       · rw [if_pos h2, if_pos (show j < k + 1 by omega)]
       · rw [if_neg h2, if_neg (show ¬ j < k + 1 by omega)]
 · rintro again c ⟨hl, hv⟩
   refine Ok.cd (fun h => by have := of_decide_eq_true h; omega) (fun _ => ok_some.2 ?_)
   apply List.ext_getElem
   · unfold upL; simp [hl]
   · intro i h1 h2
     have := hv i (by omega)
     rw [if_pos (by omega)] at this
     simp only [List.getD, List.getElem?_eq_getElem h1, List.getElem?_eq_getElem (show i < Z.length by omega), Option.getD_some] at this
     rw [this]
     simp only [upL, List.getElem_map]
theorem flat_v (g : api_Grid) (z rise : Int) (hr : -32768 ≤ rise ∧ rise ≤ 32767) : fiduciallaw52_VolumeFlat 20000 g z rise = some true := by
 apply Ok.eq
 unfold fiduciallaw52_VolumeFlat
 refine Ok.bde known52_v (Ok.cd (fun h => by cases h) (fun _ => ?_))
 unfold fiduciallaw52_few
 refine Ok.bde rfl (Ok.cd (fun _ => ok_some.2 rfl) (fun h36 => Ok.bde (lcheck_v (by omega) g) (Ok.cd (fun _ => ok_some.2 rfl) (fun hc => ?_))))
 have h36 : g.Z.length ≤ 36 := by
  have : decide ((g.Z.length : Int) ≤ 36) = true := by simpa using h36
  have := of_decide_eq_true this; omega
 have hc : gcode g = 0 := by simpa using hc
 obtain ⟨w, h, hg⟩ := gd_of hc
 have hm4 : 4 ≤ g.Z.length := by rw [hg.m]; exact Nat.mul_le_mul hg.w1.1 hg.h1.1
 refine Ok.bd (R := fun b => b = false → -524288 ≤ z ∧ z ≤ 524288) ?_ (fun b hb => Ok.cd (fun _ => ok_some.2 rfl) (fun hf => ?_))
 · unfold fiduciallaw52_far
   refine Ok.cd (fun _ => ok_some.2 (fun h => by cases h)) (fun h => ok_some.2 (fun h2 => ?_))
   rw [wrap64_in (n := 0 - 524288) (by omega) (by omega)] at h2
   have := of_decide_eq_false h; have := of_decide_eq_false h2; omega
 have hz := hb hf
 have hfz : farE z = false := far_bd.2 (by omega)
 refine Ok.bde (repeat_v (by omega) (by omega) (by omega)) ?_
 rw [Int.toNat_natCast]
 refine Ok.bde (b := g.Z) ?_ (Ok.bde (raise_v h36) ?_)
 · unfold slices_Clone_int_int_w
   rw [decide_eq_true (show (0 + g.Z.length) * 8 ≤ 140737488355328 by omega), decide_eq_true (show 0 + g.Z.length ≤ 4611686018427387904 by omega)]; rfl
 obtain ⟨v, hv, ⟨P, hP⟩, ⟨Q, hQ⟩⟩ := lvl_ok hc hg h36 hfz
 have hL : volume_Level 20000 g z = some (v.1, v.2, 0) := by rw [level_v hc hg hfz, hv]; rfl
 have hB : volume_Between 20000 g (api_Grid.mk g.X0 g.Y0 g.Step g.Width g.Height (List.replicate g.Z.length z)) = some (v.1, v.2, 0) := by
  have := between_v hc hg h36 hfz
  rw [hv] at this; exact this
 refine Ok.bde hL (Ok.bde hB (Ok.cd (fun h => by cases h) (fun _ => Ok.cd (fun h => by cases h) (fun _ => ?_))))
 refine Ok.bde (same_v hP) (Ok.cd (fun h => by cases h) (fun _ => Ok.bde (same_v hQ) (Ok.cd (fun h => by cases h) (fun _ => ?_))))
 have er : wrapF .i64 rise = rise := wrap64_in (by omega) (by omega)
 rw [er, wrap64_in (n := z + rise) (by omega) (by omega)]
 have hul : (upL g.Z rise).length = g.Z.length := by unfold upL; simp
 by_cases hok : gcode (withZ g (upL g.Z rise)) = 0 ∧ farE (z + rise) = false
 · obtain ⟨hcu, hfu⟩ := hok
   have hgu := gd_with hg hul
   have hat : ∀ k, inR k g.Z.length = true → gt (upL g.Z rise) k = if gt g.Z k = -2147483648 then gt g.Z k else gt g.Z k + rise := by
    intro k hk
    rw [up_at hk]
    rcases gz_bd hc hk with h1 | h1
    · rw [if_pos h1, if_pos h1]
    · rw [if_neg (by omega), if_neg (by omega), wrap64_in (by omega) (by omega)]
   have hne : ∀ k, inR k g.Z.length = true → (gt (upL g.Z rise) k != -2147483648) = (gt g.Z k != -2147483648) := by
    intro k hk
    rw [hat k hk]
    rcases gz_bd hc hk with h1 | h1
    · rw [if_pos h1]
    · rw [if_neg (by omega), bne_iff_ne.2 (show gt g.Z k + rise ≠ -2147483648 by omega), bne_iff_ne.2 (show gt g.Z k ≠ -2147483648 by omega)]
   have eT : triF (withZ g (upL g.Z rise)) w h = triF g w h := by
    unfold triF
    refine List.filter_congr fun t ht => ?_
    obtain ⟨i0, i1, i2⟩ := tri_in hg ht
    show hasZ (upL g.Z rise) t = hasZ g.Z t
    unfold hasZ
    rw [hne _ i0, hne _ i1, hne _ i2]
   have hU : volume_Level 20000 (withZ g (upL g.Z rise)) (z + rise) = some (v.1, v.2, 0) := by
    rw [level_v hcu hgu hfu]
    have : lvlT (withZ g (upL g.Z rise)) w h (z + rise) = lvlT g w h z := by
     unfold lvlT
     rw [eT]
     refine totG_congr fun t ht => ?_
     obtain ⟨ht, hh⟩ := List.mem_filter.1 ht
     obtain ⟨i0, i1, i2⟩ := tri_in hg ht
     obtain ⟨n0, n1, n2⟩ := has_at hh
     have e : ∀ k, inR k g.Z.length = true → gt g.Z k ≠ -2147483648 → volume_Level_1 20000 k g.X0 g.Y0 g.Step g.Width g.Height (upL g.Z rise) (z + rise) = volume_Level_1 20000 k g.X0 g.Y0 g.Step g.Width g.Height g.Z z := by
      intro k hk hn
      have hb := (gz_bd hc hk).resolve_left hn
      unfold volume_Level_1
      rw [hul, hk, hat k hk, if_neg hn, show gt g.Z k + rise - (z + rise) = gt g.Z k - z by omega]
     exact ⟨e _ i0 n0, e _ i1 n1, e _ i2 n2⟩
    rw [this, hv]; rfl
   refine Ok.bde hU (Ok.cd (fun h => by cases h) (fun _ => Ok.bde (same_v hP) (Ok.cd (fun _ => Ok.bde (same_v hQ) (ok_some.2 rfl)) (fun h => by cases h))))
 · obtain ⟨r, h1, h2⟩ := level_no (g := withZ g (upL g.Z rise)) (z := z + rise) (by
    by_cases k : gcode (withZ g (upL g.Z rise)) = 0
    · exact .inr (by cases hh : farE (z + rise) with | true => rfl | false => exact absurd ⟨k, hh⟩ hok)
    · exact .inl k)
   exact Ok.bde h1 (Ok.cd (fun _ => ok_some.2 rfl) (fun h => by rw [h2] at h; cases h))
theorem i16_of {a : Int} (h : (Lit.int .i16 a).wf = true) : -32768 ≤ a ∧ a ≤ 32767 := by
 simp [Lit.wf, IntKind.min, IntKind.max, IntKind.signed, IntKind.bits] at h
 exact h
end Go.L

