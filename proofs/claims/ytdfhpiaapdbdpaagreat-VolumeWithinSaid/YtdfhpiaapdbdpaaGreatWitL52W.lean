import Derived.Test.YtdfhpiaapdbdpaaGreatWitL52k
set_option linter.all false
namespace Go.L
open Go Go.Eng
theorem cmp_le {x y : api_Rat} {a b : Rat} (hx : Qx x a 89) (hy : Qx y b 89) (h : a ≤ b) : Ok (fiducialref02_Compare 20000 x y) fun s => s ≤ 0 :=
 Ok.of_eq (R.qCompare_ok (by omega) (by omega) hx hy) (sg_le.2 (by grind))
theorem in_ok {x l u : api_Rat} {a b c : Rat} (hx : Qx x b 89) (hl : Qx l a 89) (hu : Qx u c 89) (h1 : a ≤ b) (h2 : b ≤ c) : fiduciallaw52_VolumeWithin_1 20000 x (api_Range.mk l u) = some true := by
 apply Ok.eq
 unfold fiduciallaw52_VolumeWithin_1
 refine Ok.bd (cmp_le hl hx h1) fun s hs => Ok.cd (fun _ => Ok.bd (cmp_le hx hu h2) fun t ht => ok_some.2 (decide_eq_true ht)) (fun h => absurd hs (of_decide_eq_false h))
theorem banded_ok (g : api_Banded) : Ok (fiduciallaw52_banded 20000 g) fun b => b = true → gcode g.Grid = 0 ∧ g.Err.length = g.Grid.Z.length ∧ ∀ j, j < g.Err.length → 0 ≤ g.Err.getD j default ∧ g.Err.getD j default ≤ 1048576 := by
 unfold fiduciallaw52_banded
 refine Ok.bde (lcheck_v (by omega) g.Grid) (Ok.cd (fun _ => ok_some.2 (fun h => by cases h)) (fun hc => Ok.cd (fun _ => ok_some.2 (fun h => by cases h)) (fun hl => ?_)))
 have hc : gcode g.Grid = 0 := by simpa using hc
 have hl : g.Err.length = g.Grid.Z.length := by
  have : (g.Err.length : Int) = (g.Grid.Z.length : Int) := by simpa using hl
  omega
 obtain ⟨w, h, hg⟩ := gd_of hc
 have hm : g.Grid.Z.length ≤ 4096 := by rw [hg.m]; exact Nat.mul_le_mul hg.w1.2 hg.h1.2
 refine Ok.bd (R := fun o : Sum Unit Bool => match o with | .inl _ => ∀ j, j < g.Err.length → 0 ≤ g.Err.getD j default ∧ g.Err.getD j default ≤ 1048576 | .inr b => b = false) ?_ ?_
 · refine ok_range (len := g.Err.length) (fun k => ∀ j, j < k → 0 ≤ g.Err.getD j default ∧ g.Err.getD j default ≤ 1048576) (by omega) (by omega) (fun j hj => by omega) ?_ ?_
   · intro again k hk hP ih
     refine Ok.cd (fun _ => ?_) (fun h => by have := of_decide_eq_false h; omega)
     refine Ok.gd (by rw [inR_nat]; exact decide_eq_true hk) ?_
     rw [gt_nat]
     refine Ok.cd (fun _ => ok_some.2 rfl) (fun h1 => Ok.cd (fun _ => ok_some.2 rfl) (fun h2 => ih fun j hj => ?_))
     have h1 := of_decide_eq_false h1
     have h2 := of_decide_eq_false h2
     by_cases hjk : j = k
     · subst hjk; omega
     · exact hP j (by omega)
   · intro again hP
     exact Ok.cd (fun h => by have := of_decide_eq_true h; omega) (fun _ => ok_some.2 hP)
 · rintro (u | b) ho
   · exact ok_some.2 (fun _ => ⟨hc, hl, ho⟩)
   · have ho : b = false := ho
     subst ho
     exact ok_some.2 (fun h => by cases h)
theorem share_bd {e s : Int} (he : 0 ≤ e ∧ e ≤ 1048576) (hs : -128 ≤ s ∧ s ≤ 127) : -e ≤ (e * s).tdiv 128 ∧ (e * s).tdiv 128 ≤ e ∧ -134217728 ≤ e * s ∧ e * s ≤ 134217728 := by
 have h1 : e * s ≤ e * 127 := Int.mul_le_mul_of_nonneg_left hs.2 he.1
 have h2 : e * -128 ≤ e * s := Int.mul_le_mul_of_nonneg_left hs.1 he.1
 generalize e * s = q at *
 refine ⟨?_, ?_, by omega, by omega⟩
 · by_cases h : 0 ≤ q
   · have := Int.tdiv_nonneg h (show (0 : Int) ≤ 128 by omega); omega
   · have e1 : q.tdiv 128 = -((-q).tdiv 128) := by rw [Int.neg_tdiv, Int.neg_neg]
     rw [e1, Int.tdiv_eq_ediv_of_nonneg (by omega)]
     omega
 · by_cases h : 0 ≤ q
   · rw [Int.tdiv_eq_ediv_of_nonneg h]; omega
   · have e1 : q.tdiv 128 = -((-q).tdiv 128) := by rw [Int.neg_tdiv, Int.neg_neg]
     have := Int.tdiv_nonneg (show 0 ≤ -q by omega) (show (0 : Int) ≤ 128 by omega)
     omega
theorem getD_set4 {l : List Int} {i j : Nat} {v : Int} (hi : i < l.length) : (l.set i v).getD j default = if j = i then v else l.getD j default := by
 simp only [List.getD, List.getElem?_set]
 by_cases h : i = j
 · subst h; simp [hi]
 · have : ¬ j = i := fun e => h e.symm
   simp [h, this]
def InB (Z E Z' : List Int) : Prop := Z'.length = Z.length ∧ ∀ j, j < Z.length → (Z.getD j default = -2147483648 → Z'.getD j default = -2147483648) ∧ (Z.getD j default ≠ -2147483648 → Z.getD j default - E.getD j default ≤ Z'.getD j default ∧ Z'.getD j default ≤ Z.getD j default + E.getD j default)
theorem at_nat {l : List Int} {k : Int} (h : inR k l.length = true) : ∃ j : Nat, k = (j : Int) ∧ j < l.length := by
 have h2 := inR_iff.1 h
 exact ⟨k.toNat, by omega, by omega⟩
theorem within_v (g : api_Banded) (z : Int) (shares : List Int) (hs : ∀ a ∈ shares, -128 ≤ a ∧ a ≤ 127) : fiduciallaw52_VolumeWithin 20000 g z shares = some true := by
 apply Ok.eq
 unfold fiduciallaw52_VolumeWithin
 refine Ok.bde known52_v (Ok.cd (fun h => by cases h) (fun _ => ?_))
 unfold fiduciallaw52_few
 refine Ok.bde rfl (Ok.cd (fun _ => ok_some.2 rfl) (fun h36 => Ok.bd (banded_ok g) fun b hb => Ok.cd (fun _ => ok_some.2 rfl) (fun hbt => Ok.bde rfar_v (Ok.cd (fun _ => ok_some.2 rfl) (fun hfz => ?_)))))
 have h36 : g.Grid.Z.length ≤ 36 := by
  have : decide ((g.Grid.Z.length : Int) ≤ 36) = true := by simpa using h36
  have := of_decide_eq_true this; omega
 obtain ⟨hc, hlE, hE⟩ := hb (by simpa using hbt)
 obtain ⟨w, h, hg⟩ := gd_of hc
 have hz := far_bd.1 hfz
 have hm4 : 4 ≤ g.Grid.Z.length := by rw [hg.m]; exact Nat.mul_le_mul hg.w1.1 hg.h1.1
 have hZ : ∀ j, j < g.Grid.Z.length → g.Grid.Z.getD j default = -2147483648 ∨ (-1048576 ≤ g.Grid.Z.getD j default ∧ g.Grid.Z.getD j default ≤ 1048576) := fun j hj => by
  have := gz_bd hc (i := (j : Int)) (by rw [inR_nat]; exact decide_eq_true hj)
  rwa [gt_nat] at this
 refine Ok.bde (b := g.Grid.Z) ?_ (Ok.bd (R := InB g.Grid.Z g.Err) ?_ ?_)
 · unfold slices_Clone_int_int_w
   rw [decide_eq_true (show (0 + g.Grid.Z.length) * 8 ≤ 140737488355328 by omega), decide_eq_true (show 0 + g.Grid.Z.length ≤ 4611686018427387904 by omega)]; rfl
 · refine ok_rangeR (len := g.Grid.Z.length) (fun k c => InB g.Grid.Z g.Err c ∧ ∀ j, k ≤ j → c.getD j default = g.Grid.Z.getD j default) (by omega) (by omega) ⟨⟨rfl, fun j hj => ⟨fun h => h, fun _ => by have := hE j (by omega); omega⟩⟩, fun j _ => rfl⟩ ?_ ?_
   · rintro again k c hk ⟨⟨hl, hv⟩, hr⟩ ih
     refine Ok.cd (fun _ => ?_) (fun h => by have := of_decide_eq_false h; omega)
     refine Ok.gd (by rw [inR_nat]; exact decide_eq_true (by omega)) ?_
     rw [gt_nat, hr k (Nat.le_refl _)]
     refine Ok.cd (fun hn => Ok.cd (fun hks => ?_) (fun _ => ih _ ⟨⟨hl, hv⟩, fun j hj => hr j (by omega)⟩)) (fun _ => ih _ ⟨⟨hl, hv⟩, fun j hj => hr j (by omega)⟩)
     have hn : g.Grid.Z.getD k default ≠ -2147483648 := by simpa using hn
     have hks : k < shares.length := by have := of_decide_eq_true hks; omega
     refine Ok.gd (by rw [inR_nat]; exact decide_eq_true (by omega)) (Ok.gd (by rw [inR_nat]; exact decide_eq_true hks) ?_)
     rw [gt_nat, gt_nat, Int.toNat_natCast]
     have hsk := hs (shares.getD k default) (by simp only [List.getD, List.getElem?_eq_getElem hks, Option.getD_some]; exact List.getElem_mem hks)
     have hek := hE k (by omega)
     have hzk := (hZ k hk).resolve_left hn
     have hsb := share_bd hek hsk
     rw [wrap64_in (n := shares.getD k default) (by omega) (by omega), wrap64_in (n := g.Err.getD k default * shares.getD k default) (by omega) (by omega), wrap64_in (n := (g.Err.getD k default * shares.getD k default).tdiv 128) (by omega) (by omega), wrap64_in (by omega) (by omega)]
     refine ih _ ⟨⟨by simpa using hl, fun j hj => ?_⟩, fun j hj => ?_⟩
     · rw [getD_set4 (by omega)]
       by_cases hjk : j = k
       · subst hjk
         rw [if_pos rfl]
         exact ⟨fun h => absurd h hn, fun _ => by omega⟩
       · rw [if_neg hjk]; exact hv j hj
     · rw [getD_set4 (by omega), if_neg (show ¬ j = k by omega)]; exact hr j (by omega)
   · rintro again c ⟨hI, _⟩
     exact Ok.cd (fun h => by have := of_decide_eq_true h; omega) (fun _ => ok_some.2 hI)
 rintro Z' ⟨hl', hv'⟩
 refine Ok.bde (lcheck_v (by omega) (withZ g.Grid Z')) (Ok.cd (fun _ => ok_some.2 rfl) (fun hcu => ?_))
 have hcu : gcode (withZ g.Grid Z') = 0 := by simpa using hcu
 have hgu := gd_with hg hl'
 have hat : ∀ k, inR k g.Grid.Z.length = true → gt g.Grid.Z k ≠ -2147483648 → (0 ≤ gt g.Err k ∧ gt g.Err k ≤ 1048576) ∧ (gt g.Grid.Z k - gt g.Err k ≤ gt Z' k ∧ gt Z' k ≤ gt g.Grid.Z k + gt g.Err k) := by
  intro k hk hn
  obtain ⟨j, rfl, hj⟩ := at_nat hk
  rw [gt_nat] at hn
  rw [gt_nat, gt_nat, gt_nat]
  exact ⟨hE j (by omega), (hv' j hj).2 hn⟩
 have hne : ∀ k, inR k g.Grid.Z.length = true → (gt Z' k != -2147483648) = (gt g.Grid.Z k != -2147483648) := by
  intro k hk
  by_cases hn : gt g.Grid.Z k = -2147483648
  · obtain ⟨j, rfl, hj⟩ := at_nat hk
    rw [gt_nat] at hn
    rw [gt_nat, gt_nat, (hv' j hj).1 hn, hn]
  · have h1 := hat k hk hn
    have h2 := (gz_bd hc hk).resolve_left hn
    rw [bne_iff_ne.2 (show gt Z' k ≠ -2147483648 by omega), bne_iff_ne.2 hn]
 have eT : triF (withZ g.Grid Z') w h = triF g.Grid w h := by
  unfold triF
  refine List.filter_congr fun t ht => ?_
  obtain ⟨i0, i1, i2⟩ := tri_in hg ht
  show hasZ Z' t = hasZ g.Grid.Z t
  unfold hasZ
  rw [hne _ i0, hne _ i1, hne _ i2]
 have corner : ∀ t ∈ triF g.Grid w h, ∀ k, k = t.e0 ∨ k = t.e1 ∨ k = t.e2 → inR k g.Grid.Z.length = true ∧ (-1048576 ≤ gt g.Grid.Z k ∧ gt g.Grid.Z k ≤ 1048576) ∧ (0 ≤ gt g.Err k ∧ gt g.Err k ≤ 1048576) ∧ (gt g.Grid.Z k - gt g.Err k ≤ gt Z' k ∧ gt Z' k ≤ gt g.Grid.Z k + gt g.Err k) := by
  intro t ht k hk
  obtain ⟨ht, hh⟩ := List.mem_filter.1 ht
  obtain ⟨i0, i1, i2⟩ := tri_in hg ht
  obtain ⟨n0, n1, n2⟩ := has_at hh
  rcases hk with rfl | rfl | rfl
  · exact ⟨i0, (gz_bd hc i0).resolve_left n0, hat _ i0 n0⟩
  · exact ⟨i1, (gz_bd hc i1).resolve_left n1, hat _ i1 n1⟩
  · exact ⟨i2, (gz_bd hc i2).resolve_left n2, hat _ i2 n2⟩
 have step := hg.dim.s
 have hl50 := triF_len hg h36
 have low : Ok (totG 20000 g.Grid.Step (triF g.Grid w h) (fun k => volume_Bounds_2 20000 k g.Grid.X0 g.Grid.Y0 g.Grid.Step g.Grid.Width g.Grid.Height g.Grid.Z g.Err z)) fun r => Qx r.1 (areaQ g.Grid.Step * sumQ ((triF g.Grid w h).map (xh fun k => gt g.Grid.Z k - gt g.Err k - z))) 89 ∧ Qx r.2 (areaQ g.Grid.Step * sumQ ((triF g.Grid w h).map (yh fun k => gt g.Grid.Z k - gt g.Err k - z))) 89 := by
  refine totG_val hl50 (by omega) fun t ht => ?_
  have e : ∀ k, k = t.e0 ∨ k = t.e1 ∨ k = t.e2 → volume_Bounds_2 20000 k g.Grid.X0 g.Grid.Y0 g.Grid.Step g.Grid.Width g.Grid.Height g.Grid.Z g.Err z = some (gt g.Grid.Z k - gt g.Err k - z) ∧ -4194304 ≤ gt g.Grid.Z k - gt g.Err k - z ∧ gt g.Grid.Z k - gt g.Err k - z ≤ 4194304 := by
   intro k hk
   obtain ⟨i, b1, b2, b3⟩ := corner t ht k hk
   refine ⟨?_, by omega, by omega⟩
   unfold volume_Bounds_2
   rw [hlE, i, wrap64_in (n := gt g.Grid.Z k - gt g.Err k) (by omega) (by omega), wrap64_in (by omega) (by omega)]; rfl
  exact ⟨⟨(e _ (.inl rfl)).1, (e _ (.inr (.inl rfl))).1, (e _ (.inr (.inr rfl))).1⟩, (e _ (.inl rfl)).2, (e _ (.inr (.inl rfl))).2, (e _ (.inr (.inr rfl))).2⟩
 have high : Ok (totG 20000 g.Grid.Step (triF g.Grid w h) (fun k => volume_Bounds_3 20000 k g.Grid.X0 g.Grid.Y0 g.Grid.Step g.Grid.Width g.Grid.Height g.Grid.Z g.Err z)) fun r => Qx r.1 (areaQ g.Grid.Step * sumQ ((triF g.Grid w h).map (xh fun k => gt g.Grid.Z k + gt g.Err k - z))) 89 ∧ Qx r.2 (areaQ g.Grid.Step * sumQ ((triF g.Grid w h).map (yh fun k => gt g.Grid.Z k + gt g.Err k - z))) 89 := by
  refine totG_val hl50 (by omega) fun t ht => ?_
  have e : ∀ k, k = t.e0 ∨ k = t.e1 ∨ k = t.e2 → volume_Bounds_3 20000 k g.Grid.X0 g.Grid.Y0 g.Grid.Step g.Grid.Width g.Grid.Height g.Grid.Z g.Err z = some (gt g.Grid.Z k + gt g.Err k - z) ∧ -4194304 ≤ gt g.Grid.Z k + gt g.Err k - z ∧ gt g.Grid.Z k + gt g.Err k - z ≤ 4194304 := by
   intro k hk
   obtain ⟨i, b1, b2, b3⟩ := corner t ht k hk
   refine ⟨?_, by omega, by omega⟩
   unfold volume_Bounds_3
   rw [hlE, i, wrap64_in (n := gt g.Grid.Z k + gt g.Err k) (by omega) (by omega), wrap64_in (by omega) (by omega)]; rfl
  exact ⟨⟨(e _ (.inl rfl)).1, (e _ (.inr (.inl rfl))).1, (e _ (.inr (.inr rfl))).1⟩, (e _ (.inl rfl)).2, (e _ (.inr (.inl rfl))).2, (e _ (.inr (.inr rfl))).2⟩
 obtain ⟨lo, elo, lo1, lo2⟩ := low
 obtain ⟨hi, ehi, hi1, hi2⟩ := high
 have hB : volume_Bounds 20000 g z = some (api_Range.mk lo.1 hi.1, api_Range.mk hi.2 lo.2, 0) := by
  apply Ok.eq
  unfold volume_Bounds
  refine Ok.bde (tcheck_v (by omega) g.Grid) (Ok.cd (fun hh => by rw [hc] at hh; cases hh) (fun _ => Ok.cd (fun hh => by rw [hlE] at hh; simp at hh) (fun _ => ?_)))
  have hany : slices_ContainsFunc_int_int_of_volume_Bounds_1 20000 g.Err = some false := by
   unfold slices_ContainsFunc_int_int_of_volume_Bounds_1
   have hp : ∀ x, volume_Bounds_1 20000 x = some (decide (x < 0) || decide (x > 1048576)) := fun x => by
    unfold volume_Bounds_1; cases decide (x < 0) <;> rfl
   have : slices_IndexFunc_int_int_of_volume_Bounds_1 20000 g.Err = some (idxB (fun x => decide (x < 0) || decide (x > 1048576)) g.Err) := loop_indexF (fun x => hp x) (by omega) (by omega)
   rw [this]
   show some (decide (idxB _ g.Err ≥ 0)) = _
   rw [idxB_ge]
   congr 1
   rw [List.any_eq_false]
   intro x hx
   obtain ⟨j, hj, rfl⟩ := List.getElem_of_mem hx
   have := hE j hj
   simp only [List.getD, List.getElem?_eq_getElem hj, Option.getD_some] at this
   simp; omega
  refine Ok.bde hany (Ok.cd (fun h => by cases h) (fun _ => Ok.bde vfar_v ?_))
  rw [hfz]
  refine Ok.cd (fun h => by cases h) (fun _ => Ok.bde (tri_v (by omega) hg) ?_)
  exact Ok.bde (b := lo) elo (Ok.bde (b := hi) ehi (ok_some.2 rfl))
 obtain ⟨v, hv, v1, v2⟩ := lvl_val hcu hgu (by show Z'.length ≤ 36; omega) hfz
 have hL : volume_Level 20000 (withZ g.Grid Z') z = some (v.1, v.2, 0) := by rw [level_v hcu hgu hfz, hv]; rfl
 rw [eT] at v1 v2
 refine Ok.bde hB (Ok.bde hL (Ok.cd (fun _ => Ok.cd (fun _ => ?_) (fun h => by cases h)) (fun h => by cases h)))
 have kk := area_nonneg g.Grid.Step (by omega)
 have m1 : sumQ ((triF g.Grid w h).map (xh fun k => gt g.Grid.Z k - gt g.Err k - z)) ≤ sumQ ((triF g.Grid w h).map (xh fun k => gt Z' k - z)) := sumQ_mono fun t ht => by
  have c := corner t ht
  have := c _ (.inl rfl); have := c _ (.inr (.inl rfl)); have := c _ (.inr (.inr rfl))
  exact xq_mono (Rat.intCast_le_intCast.2 (by dsimp only; omega)) (Rat.intCast_le_intCast.2 (by dsimp only; omega)) (Rat.intCast_le_intCast.2 (by dsimp only; omega))
 have m2 : sumQ ((triF g.Grid w h).map (xh fun k => gt Z' k - z)) ≤ sumQ ((triF g.Grid w h).map (xh fun k => gt g.Grid.Z k + gt g.Err k - z)) := sumQ_mono fun t ht => by
  have c := corner t ht
  have := c _ (.inl rfl); have := c _ (.inr (.inl rfl)); have := c _ (.inr (.inr rfl))
  exact xq_mono (Rat.intCast_le_intCast.2 (by dsimp only; omega)) (Rat.intCast_le_intCast.2 (by dsimp only; omega)) (Rat.intCast_le_intCast.2 (by dsimp only; omega))
 have n1 : sumQ ((triF g.Grid w h).map (yh fun k => gt g.Grid.Z k + gt g.Err k - z)) ≤ sumQ ((triF g.Grid w h).map (yh fun k => gt Z' k - z)) := sumQ_mono fun t ht => by
  have c := corner t ht
  have := c _ (.inl rfl); have := c _ (.inr (.inl rfl)); have := c _ (.inr (.inr rfl))
  exact yq_mono (Rat.intCast_le_intCast.2 (by dsimp only; omega)) (Rat.intCast_le_intCast.2 (by dsimp only; omega)) (Rat.intCast_le_intCast.2 (by dsimp only; omega))
 have n2 : sumQ ((triF g.Grid w h).map (yh fun k => gt Z' k - z)) ≤ sumQ ((triF g.Grid w h).map (yh fun k => gt g.Grid.Z k - gt g.Err k - z)) := sumQ_mono fun t ht => by
  have c := corner t ht
  have := c _ (.inl rfl); have := c _ (.inr (.inl rfl)); have := c _ (.inr (.inr rfl))
  exact yq_mono (Rat.intCast_le_intCast.2 (by dsimp only; omega)) (Rat.intCast_le_intCast.2 (by dsimp only; omega)) (Rat.intCast_le_intCast.2 (by dsimp only; omega))
 have mul : ∀ {p q : Rat}, p ≤ q → areaQ g.Grid.Step * p ≤ areaQ g.Grid.Step * q := fun h => Rat.mul_le_mul_of_nonneg_left h kk
 refine Ok.bde (in_ok v1 lo1 hi1 (mul m1) (mul m2)) (Ok.cd (fun _ => ?_) (fun h => by cases h))
 exact Ok.bde (in_ok v2 hi2 lo2 (mul n1) (mul n2)) (ok_some.2 rfl)
theorem i8_of {a : Int} (h : (Lit.int .i8 a).wf = true) : -128 ≤ a ∧ a ≤ 127 := by
 simp [Lit.wf, IntKind.min, IntKind.max, IntKind.signed, IntKind.bits] at h
 exact h
end Go.L

