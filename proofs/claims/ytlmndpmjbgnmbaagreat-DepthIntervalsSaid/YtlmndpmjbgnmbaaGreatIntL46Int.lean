import Derived.Test.YtlmndpmjbgnmbaaGreatIntL46c
import Derived.Test.YtlmndpmjbgnmbaaGreatIntL02c
set_option linter.unusedVariables false
set_option linter.unusedSimpArgs false
namespace Go.L
open Go Go.Eng
theorem floor_eq {p q : Int} (hq : 0 < q) : (Rat.divInt p q).num / ((Rat.divInt p q).den : Int) = p / q := by
  rw [divInt_num hq, divInt_den hq]
  have hg := gZ_pos (v := p) (w := q) (by omega)
  have e1 := gZ_dvd_left p q
  have e2 := gZ_dvd_right p q
  generalize gZ p q = g at *
  generalize hP : p / g = P at *
  generalize hQ : q / g = Q at *
  rw [e1, e2, Int.mul_ediv_mul_of_pos_left _ _ (by omega)]
theorem vl_small {g : List Int} (h : Dig g) (hl : g.length ≤ 2) : g.reverse.foldl (fun s v => wrapF .u64 (wrapF .u64 (s * 1000000000) + wrapF .u64 v)) 0 = vl g := by
  rcases g with _ | ⟨a, _ | ⟨b, _ | ⟨c, l⟩⟩⟩
  · rfl
  · have ha := h a (by simp)
    simp only [List.reverse_cons, List.reverse_nil, List.nil_append, List.foldl, Int.zero_mul, vl]
    have z : wrapF .u64 0 = 0 := by decide
    rw [z, Int.zero_add, wrapU64_in (n := a) (by omega) (by omega), wrapU64_in (by omega) (by omega)]; omega
  · have ha := h a (by simp); have hb := h b (by simp)
    simp only [List.reverse_cons, List.reverse_nil, List.nil_append, List.cons_append, List.foldl, Int.zero_mul, vl]
    have z : wrapF .u64 0 = 0 := by decide
    rw [z, Int.zero_add, wrapU64_in (n := b) (by omega) (by omega), wrapU64_in (n := b) (by omega) (by omega), wrapU64_in (n := b * 1000000000) (by omega) (by omega), wrapU64_in (n := a) (by omega) (by omega), wrapU64_in (by omega) (by omega)]; omega
  · simp at hl
theorem small_v {n : Nat} (hn : 1000 ≤ n) {z : api_Int} {v : Int} (hz : isI z.Negative z.Groups v) (h0 : 0 ≤ v) (h1 : v < 1000000000000000000) : integer_Small n z = some (v, true) := by
  have hl : z.Groups.length ≤ 2 := isI_len hz (by rw [pB2]; omega) (by rw [pB2]; omega)
  have hd := hz.1.dig
  have hdig : digB z.Groups = true := List.all_eq_true.2 fun x hx => by have := hd x hx; simpa using this
  have hneg : z.Negative = false := by
    cases hng : z.Negative with
    | false => rfl
    | true =>
      have e := hz.2.2; rw [hng] at e; simp only [if_true] at e
      have hne := hz.2.1 hng
      have := can_pos hz.1 hne
      omega
  have hv : v = vl z.Groups := by have e := hz.2.2; rw [hneg] at e; simpa using e
  apply Ok.eq
  unfold integer_Small
  refine Ok.bde (groups_ok hn (by omega) hz) (Ok.gd (by simpa using hl) (Ok.gd hdig (ok_some.2 ?_)))
  unfold smallE
  rw [hneg, Bool.and_false, if_neg (by decide), vl_small hd hl, ← hv, wrap64_in (by omega) (by omega)]
theorem floor_small {n : Nat} (hn : 5000 ≤ n) {x : api_Rat} {r : Rat} {k : Nat} (hk : k ≤ 60) (hx : Qx x r k) (h0 : 0 ≤ r.num / (r.den : Int)) (h1 : r.num / (r.den : Int) < 1000000000000000000) :
    Ok (bdO (fraction_Floor n x) fun v => integer_Small n v) fun z => z = (r.num / (r.den : Int), true) := by
  have hden := den_pos r
  unfold fraction_Floor
  refine Ok.bd (R := fun v => isI v.Negative v.Groups (r.num / (r.den : Int))) ?_ (fun v hv => ⟨_, small_v (by omega) hv h0 h1, rfl⟩)
  refine Ok.bd (qValue_ok hn hk hx) fun y hy => ?_
  have l1 := hy.nl; have l2 := hy.dl
  refine Ok.bd (Divide_ok (by omega) hy.num hy.den (by omega) (by omega) (by omega)) fun z hz => ok_some.2 ?_
  obtain ⟨q, s, h2, h3, h4, h5, h6⟩ := hz
  have hq : r.num / (r.den : Int) = q := by
    have hs : 0 ≤ s ∧ s < (r.den : Int) := by omega
    rw [h4, Int.add_comm, Int.add_mul_ediv_right _ _ (by omega), Int.ediv_eq_zero_of_lt hs.1 hs.2, Int.zero_add]
  rw [hq]; exact h2
def lenC (F B : Int) : Int := if (F < 1 ∨ F > 1048576) ∨ (B < 1 ∨ B > 1048576) then 2 else 0
theorem optics_v {n : Nat} {F B : Int} : depth_optics n F B = some (lenC F B) := by
  unfold depth_optics lenC
  by_cases h1 : F < 1
  · simp [h1, cdO]
  by_cases h2 : F > 1048576
  · simp [h1, h2, cdO]
  by_cases h3 : B < 1
  · simp [h1, h2, h3, cdO]
  by_cases h4 : B > 1048576
  · simp [h1, h2, h3, h4, cdO]
  · have : ¬ ((F < 1 ∨ F > 1048576) ∨ (B < 1 ∨ B > 1048576)) := by omega
    rw [if_neg this]; simp [h1, h2, h3, h4, cdO]
theorem lengths_v {n : Nat} {F B : Int} : fiduciallaw46_lengths n F B = some (lenC F B) := by
  unfold fiduciallaw46_lengths lenC
  by_cases h1 : F < 1
  · simp [h1, cdO]
  by_cases h2 : F > 1048576
  · simp [h1, h2, cdO]
  by_cases h3 : B < 1
  · simp [h1, h2, h3, cdO]
  by_cases h4 : B > 1048576
  · simp [h1, h2, h3, h4, cdO]
  · have : ¬ ((F < 1 ∨ F > 1048576) ∨ (B < 1 ∨ B > 1048576)) := by omega
    rw [if_neg this]; simp [h1, h2, h3, h4, cdO]
theorem lenC_zero {F B : Int} (h : lenC F B = 0) : (1 ≤ F ∧ F ≤ 1048576) ∧ 1 ≤ B ∧ B ≤ 1048576 := by
  unfold lenC at h; split at h <;> omega
theorem FB_bd {F B : Int} (hF : 1 ≤ F ∧ F ≤ 1048576) (hB : 1 ≤ B ∧ B ≤ 1048576) : 1 ≤ F * B ∧ F * B ≤ 1099511627776 := by
  have h1 := Int.mul_le_mul hF.2 hB.2 (by omega) (by omega)
  have h2 := Int.mul_le_mul hF.1 hB.1 (by omega) (by omega)
  omega
def dpV (F B v : Int) : Int := if v < 1 then -1 else mn ((2 * (F * B) + 64 * v) / (128 * v)) 1048576
def depL (f : api_Field) (F B : Int) : List Int := (List.range f.V.length).map (fun j => dpV F B (f.V.getD j default))
theorem half_sum {P v : Int} (hv : 1 ≤ v) : Rat.divInt P (64 * v) + Rat.divInt 1 2 = Rat.divInt (2 * P + 64 * v) (128 * v) := by
  rw [Rat.divInt_add_divInt _ _ (by omega) (by omega), Rat.divInt_eq_divInt_iff (by omega) (by omega)]
  grind
theorem depths_ok {n : Nat} (hn : 5000 ≤ n) {f : api_Field} (hf : OkF f) {F B : Int} (hF : 1 ≤ F ∧ F ≤ 1048576) (hB : 1 ≤ B ∧ B ≤ 1048576) : depth_Depths n f F B = some (api_Field.mk f.Width f.Height (depL f F B), 0) := by
  have ha := area46 hf.w hf.h
  have hlen := hf.len
  have hFB := FB_bd hF hB
  have hc : lenC F B = 0 := by unfold lenC; rw [if_neg (by omega)]
  apply Ok.eq
  unfold depth_Depths
  refine Ok.bde (check_v (by omega) (by omega)) ?_
  rw [okF_iff.2 hf]
  refine Ok.cd (fun h => by cases h) (fun _ => Ok.bde optics_v ?_)
  rw [hc]
  refine Ok.cd (fun h => by cases h) (fun _ => Ok.bde (blank_v (by omega) hf) (Ok.bd (qOf_ok hn (p := 1) (q := 2) (by omega) (by omega) (by omega) (by omega) (by omega)) fun half hhalf => ?_))
  refine Ok.bd (R := fun o => o = depL f F B) ?_ (fun o h => ok_some.2 (by rw [h]))
  refine ok_rangeR (len := f.V.length) (fun k c => c.length = f.V.length ∧ ∀ j, j < f.V.length → c.getD j default = if j < k then dpV F B (f.V.getD j default) else -1) (by omega) (by omega) ⟨by simp, fun j hj => by rw [getD_rep hj, if_neg (by omega)]⟩ ?_ ?_
  · rintro again k c hk ⟨hcl, hcv⟩ ih
    have hv := hf.v k hk
    refine Ok.cd (fun _ => ?_) (fun h => by simp at h; omega)
    refine Ok.gd (by rw [inR_nat]; simpa using hk) ?_
    rw [gt_nat]
    refine Ok.cd (fun h => ?_) (fun h => ?_)
    · replace h := of_decide_eq_true h
      refine ih _ ⟨hcl, fun j hj => ?_⟩
      rw [hcv j hj]
      by_cases hjk : j = k
      · subst hjk; rw [if_neg (by omega), if_pos (by omega)]; unfold dpV; rw [if_pos h]
      · by_cases h2 : j < k
        · rw [if_pos h2, if_pos (by omega)]
        · rw [if_neg h2, if_neg (by omega)]
    · replace h := of_decide_eq_false h
      generalize hd : f.V.getD k default = v at *
      rw [wrap64_in (n := F * B) (by omega) (by omega), wrap64_in (n := 64 * v) (by omega) (by omega)]
      refine Ok.bd (qOf_ok hn (by omega) (by omega) (by omega) (by omega) (by omega)) fun x hx => Ok.bd (qAdd_ok hn (j := 3) (k := 3) (by omega) hx.1 hhalf.1) fun s hs => ?_
      rw [half_sum (by omega)] at hs
      have he := floor_eq (p := 2 * (F * B) + 64 * v) (q := 128 * v) (by omega)
      have hq0 : 0 ≤ (2 * (F * B) + 64 * v) / (128 * v) := Int.ediv_nonneg (by omega) (by omega)
      have hq1 : (2 * (F * B) + 64 * v) / (128 * v) ≤ 2 * (F * B) + 64 * v := Int.ediv_le_self _ (by omega)
      obtain ⟨z, hz, hzv⟩ := floor_small hn (by omega) hs (by rw [he]; exact hq0) (by rw [he]; omega)
      cases hfl : fraction_Floor n s with
      | none => rw [hfl] at hz; cases hz
      | some u =>
        rw [hfl] at hz
        refine Ok.bde rfl (Ok.bde hz (Ok.gd (by rw [inR_nat]; simp; omega) ?_))
        rw [hzv, he]
        refine ih _ ⟨by simp [hcl], fun j hj => ?_⟩
        have et : ((k : Int)).toNat = k := Int.toNat_natCast _
        rw [et, getD_set (by omega)]
        by_cases hjk : j = k
        · subst hjk; rw [if_pos rfl, if_pos (by omega), hd]; unfold dpV; rw [if_neg h]
        · rw [if_neg hjk, hcv j hj]
          by_cases h2 : j < k
          · rw [if_pos h2, if_pos (by omega)]
          · rw [if_neg h2, if_neg (by omega)]
  · rintro again c ⟨hcl, hcv⟩
    refine Ok.cd (fun h => by simp at h) (fun _ => ok_some.2 ?_)
    exact list_at hcl fun j hj => by rw [hcv j hj, if_pos hj]
theorem depths1_v {n : Nat} {f : api_Field} (hf : OkF f) {F B : Int} (hF : 1 ≤ F ∧ F ≤ 1048576) (hB : 1 ≤ B ∧ B ≤ 1048576) {x y : Nat} (hx : x < wN f) (hy : y < f.Height.toNat) : fiduciallaw46_Depths_1 n x y f.Width f.Height f.V F B = some (dpV F B (f.V.getD (y * wN f + x) default)) := by
  have hFB := FB_bd hF hB
  have hv := hf.v _ (place hf hx hy)
  have e2 : 2 * F * B = 2 * (F * B) := Int.mul_assoc _ _ _
  apply Ok.eq
  unfold fiduciallaw46_Depths_1
  rw [show api_Field.mk f.Width f.Height f.V = f from rfl]
  refine Ok.bde (at_v hf hx hy) ?_
  generalize f.V.getD (y * wN f + x) default = v at *
  refine Ok.cd (fun h => ?_) (fun h => ?_)
  · replace h := of_decide_eq_true h
    exact ok_some.2 (by unfold dpV; rw [if_pos h])
  · replace h := of_decide_eq_false h
    rw [wrap64_in (n := 2 * F) (by omega) (by omega), e2, wrap64_in (n := 2 * (F * B)) (by omega) (by omega), wrap64_in (n := 64 * v) (by omega) (by omega), wrap64_in (n := 128 * v) (by omega) (by omega), wrap64_in (n := 2 * (F * B) + 64 * v) (by omega) (by omega), Int.tdiv_eq_ediv_of_nonneg (by omega)]
    have hq0 : 0 ≤ (2 * (F * B) + 64 * v) / (128 * v) := Int.ediv_nonneg (by omega) (by omega)
    have hq1 : (2 * (F * B) + 64 * v) / (128 * v) ≤ 2 * (F * B) + 64 * v := Int.ediv_le_self _ (by omega)
    refine Ok.gd (by simp; omega) (ok_some.2 ?_)
    rw [wrap64_in (by omega) (by omega)]
    unfold dpV; rw [if_neg h]
theorem rdepths_v {n : Nat} (hn : 100 < n) {f : api_Field} (hf : OkF f) {F B : Int} (hF : 1 ≤ F ∧ F ≤ 1048576) (hB : 1 ≤ B ∧ B ≤ 1048576) : fiduciallaw46_Depths n f F B = some (api_Field.mk f.Width f.Height (depL f F B)) := by
  have hw := wN_eq hf
  have hH : ((f.Height.toNat : Nat) : Int) = f.Height := by have := hf.h; omega
  have hw64 := hf.w; have hh64 := hf.h
  unfold fiduciallaw46_Depths
  have : fiduciallaw46_Made_of_fiduciallaw46_Depths_1 n f f.Width f.Height f.V F B = some (api_Field.mk f.Width f.Height ((List.range (wN f * f.Height.toNat)).map (fun j => dpV F B (f.V.getD j default)))) :=
    loop_made (n := n) (f := fun x y => fiduciallaw46_Depths_1 n x y f.Width f.Height f.V F B) (g := fun j => dpV F B (f.V.getD j default)) (wN f) f.Height.toNat hw hH (by omega) (by omega) (by omega) (fun x y hx hy => depths1_v hf hF hB hx hy)
  rw [this, ← rows hf]; rfl
theorem depths_fail {n : Nat} {f : api_Field} {F B : Int} (hn : f.V.length < n) (hl : f.V.length ≤ 9223372036854775806) (h : okF f = false ∨ lenC F B ≠ 0) : depth_Depths n f F B = some (zeroF, if okF f = true then lenC F B else 1) := by
  unfold depth_Depths
  rw [check_v hn hl]
  cases hv : okF f with
  | false => rfl
  | true =>
    have hc : lenC F B ≠ 0 := by rcases h with h | h; rw [hv] at h; cases h; exact h
    have hb : (lenC F B != 0) = true := by simpa using hc
    rw [optics_v]
    show cdO (lenC F B != 0) _ _ = _
    rw [hb]; rfl
def zeroQ : api_Range := api_Range.mk (api_Rat.mk (api_Int.mk false []) (api_Int.mk false [])) (api_Rat.mk (api_Int.mk false []) (api_Int.mk false []))
theorem interval_ok {n : Nat} (hn : 5000 ≤ n) {F B d : Int} (hF : 1 ≤ F ∧ F ≤ 1048576) (hB : 1 ≤ B ∧ B ≤ 1048576) (hd : 1 ≤ d ∧ d ≤ 1048576) : Ok (depth_Interval n F B d) fun z => Qx z.1.Low (Rat.divInt (F * B) (32 * (2 * d + 1))) 3 ∧ Qx z.1.High (Rat.divInt (F * B) (32 * (2 * d - 1))) 3 ∧ z.2 = 0 := by
  have hFB := FB_bd hF hB
  have hc : lenC F B = 0 := by unfold lenC; rw [if_neg (by omega)]
  unfold depth_Interval
  refine Ok.bde optics_v ?_
  rw [hc]
  refine Ok.cd (fun h => by cases h) (fun _ => Ok.cd (fun h => absurd (of_decide_eq_true h) (by omega)) (fun _ => Ok.cd (fun h => absurd (of_decide_eq_true h) (by omega)) (fun _ => ?_)))
  rw [wrap64_in (n := F * B) (by omega) (by omega), wrap64_in (n := 2 * d) (by omega) (by omega), wrap64_in (n := 2 * d + 1) (by omega) (by omega), wrap64_in (n := 32 * (2 * d + 1)) (by omega) (by omega), wrap64_in (n := 2 * d - 1) (by omega) (by omega), wrap64_in (n := 32 * (2 * d - 1)) (by omega) (by omega)]
  exact Ok.bd (qOf_ok hn (by omega) (by omega) (by omega) (by omega) (by omega)) fun x hx => Ok.bd (qOf_ok hn (by omega) (by omega) (by omega) (by omega) (by omega)) fun y hy => ok_some.2 ⟨hx.1, hy.1, rfl⟩
def intC (F B d : Int) : Int := if lenC F B = 0 then (if d < 1 ∨ d > 1048576 then 15 else 0) else lenC F B
theorem interval_fail {n : Nat} {F B d : Int} (h : intC F B d ≠ 0) : depth_Interval n F B d = some (zeroQ, intC F B d) := by
  unfold depth_Interval
  rw [optics_v]
  unfold intC at h ⊢
  by_cases hc : lenC F B = 0
  · rw [if_pos hc] at h ⊢
    rw [hc]
    by_cases h1 : d < 1
    · have e : decide (d < 1) = true := by simpa using h1
      rw [if_pos (.inl h1), e]; rfl
    · by_cases h2 : d > 1048576
      · have e1 : decide (d < 1) = false := by simpa using h1
        have e2 : decide (d > 1048576) = true := by simpa using h2
        rw [if_pos (.inr h2), e1, e2]; rfl
      · rw [if_neg (by omega)] at h; exact absurd rfl h
  · rw [if_neg hc]
    have hb : (lenC F B != 0) = true := by simpa using hc
    show cdO (lenC F B != 0) _ _ = _
    rw [hb]; rfl
theorem quotient_ok {n : Nat} (hn : 5000 ≤ n) {F B s : Int} (hF : 1 ≤ F ∧ F ≤ 1048576) (hB : 1 ≤ B ∧ B ≤ 1048576) (hs : 1 ≤ s ∧ s ≤ 4194304) : Ok (fiduciallaw46_quotient n F B s) fun z => Qx z (Rat.divInt (F * B) (32 * s)) 3 := by
  have hFB := FB_bd hF hB
  unfold fiduciallaw46_quotient
  rw [wrap64_in (n := F * B) (by omega) (by omega), wrap64_in (n := 32 * s) (by omega) (by omega)]
  exact Ok.bd (R.qOf_ok hn (by omega) (by omega) (by omega) (by omega) (by omega)) fun x hx => ok_some.2 hx.1
theorem sgn_lt {p q s t : Int} (hq : 0 < q) (ht : 0 < t) (h : p * t < s * q) : sgn (Rat.divInt p q - Rat.divInt s t).num < 0 := by
  have h1 := sgn_le hq ht (Int.le_of_lt h)
  have hne : (Rat.divInt p q - Rat.divInt s t).num ≠ 0 := by
    intro h0
    have h2 := Rat.num_eq_zero.1 h0
    have h3 : Rat.divInt p q = Rat.divInt s t := by grind
    rw [Rat.divInt_eq_divInt_iff (by omega) (by omega)] at h3
    omega
  have := sgn_cases (Rat.divInt p q - Rat.divInt s t).num
  omega
theorem int_v (camera : A2 Int) (d : Int) (f : api_Field) : fiduciallaw46_DepthIntervals 5000 camera d f = some true := by
  obtain ⟨F, B⟩ := camera
  apply Ok.eq
  unfold fiduciallaw46_DepthIntervals
  dsimp only
  refine Ok.bde known46_v (Ok.cd (fun h => by cases h) (fun _ => Ok.bde (few_v (by omega)) (Ok.cd (fun _ => ok_some.2 rfl) (fun hfew => ?_))))
  have h80 := few_len (show fewF f = true by simpa using hfew)
  have hdep : Ok (bdO (depth_Depths 5000 f F B) fun v11 => bdO (α := Int) (cdO (!okF f) (some 1) (some (lenC F B))) fun other => fiduciallaw46_is_of_fiduciallaw46_DepthIntervals_1 5000 v11.1 v11.2 other f.Width f.Height f.V F B) (fun b => b = true) := by
    cases hv : okF f with
    | false =>
      refine Ok.bde (depths_fail (by omega) (by omega) (.inl hv)) ?_
      rw [hv]
      exact Ok.bde (b := 1) rfl (ok_some.2 rfl)
    | true =>
      have hf := okF_iff.1 hv
      by_cases hc : lenC F B = 0
      · obtain ⟨hF, hB⟩ := lenC_zero hc
        have hll : (depL f F B).length = f.V.length := by simp [depL]
        refine Ok.bde (depths_ok (by omega) hf hF hB) (Ok.bde (b := 0) (by rw [hc]; rfl) ?_)
        refine Ok.of_eq (a := true) ?_ rfl
        unfold fiduciallaw46_is_of_fiduciallaw46_DepthIntervals_1 fiduciallaw46_DepthIntervals_1
        rw [show api_Field.mk f.Width f.Height f.V = f from rfl, rdepths_v (by omega) hf hF hB]
        show bdO (fiduciallaw46_Same 5000 _ _) _ = _
        rw [same_self (by show (depL f F B).length < 5000; omega) (by show (depL f F B).length ≤ _; omega)]; rfl
      · have hb : (lenC F B != 0) = true := by simpa using hc
        refine Ok.bde (depths_fail (by omega) (by omega) (.inr hc)) (Ok.bde (b := lenC F B) rfl ?_)
        rw [if_pos hv]
        refine Ok.of_eq (a := true) ?_ rfl
        unfold fiduciallaw46_is_of_fiduciallaw46_DepthIntervals_1
        rw [hb]
        show cdO (lenC F B == lenC F B) _ _ = _
        rw [beq_self_eq_true]; rfl
  obtain ⟨b, hb, rfl⟩ := hdep
  have hint : ∃ z, depth_Interval 5000 F B d = some z := by
    by_cases hi : intC F B d = 0
    · have hc : lenC F B = 0 := by
        apply Classical.byContradiction; intro h; unfold intC at hi; rw [if_neg h] at hi; exact h hi
      obtain ⟨hF, hB⟩ := lenC_zero hc
      have hd : 1 ≤ d ∧ d ≤ 1048576 := by
        unfold intC at hi; rw [if_pos hc] at hi
        apply Classical.byContradiction; intro h; rw [if_pos (by omega)] at hi; omega
      obtain ⟨z, hz, _⟩ := interval_ok (n := 5000) (by decide) hF hB hd
      exact ⟨z, hz⟩
    · exact ⟨_, interval_fail hi⟩
  obtain ⟨zi, hzi⟩ := hint
  refine Ok.bde hzi ?_
  cases hD : depth_Depths 5000 f F B with
  | none => rw [hD] at hb; cases hb
  | some dd =>
  rw [hD] at hb
  refine Ok.bde rfl (Ok.bde lengths_v (Ok.bde (valid_v (by omega) (by omega)) ?_))
  cases hO : (cdO (!okF f) (some 1) (some (lenC F B)) : Option Int) with
  | none => rw [hO] at hb; cases hb
  | some oo =>
  rw [hO] at hb
  refine Ok.bde rfl (Ok.bde hb (Ok.cd (fun h => by cases h) (fun _ => ?_)))
  refine Ok.bd (R := fun w => w = intC F B d) ?_ ?_
  · unfold intC
    by_cases hc : lenC F B = 0
    · rw [if_pos hc, hc]
      refine Ok.cd (fun _ => Ok.cd (fun h1 => ?_) (fun h1 => Ok.cd (fun h2 => ?_) (fun h2 => ?_))) (fun h => by cases h)
      · exact ok_some.2 (by rw [if_pos (.inl (of_decide_eq_true h1))])
      · exact ok_some.2 (by rw [if_pos (.inr (of_decide_eq_true h2))])
      · exact ok_some.2 (by rw [if_neg]; have := of_decide_eq_false h1; have := of_decide_eq_false h2; omega)
    · rw [if_neg hc]
      exact Ok.cd (fun h => by simp at h; exact absurd h hc) (fun _ => ok_some.2 rfl)
  rintro w rfl
  by_cases hi : intC F B d = 0
  rotate_left
  · have hb2 : (intC F B d != 0) = true := by simpa using hi
    rw [interval_fail hi] at hzi
    cases hzi
    refine Ok.cd (fun _ => ?_) (fun h => by rw [hb2] at h; cases h)
    refine Ok.bde (b := true) ?_ (ok_some.2 rfl)
    show cdO (intC F B d == intC F B d) _ _ = _
    rw [beq_self_eq_true]; rfl
  have hc : lenC F B = 0 := by
    apply Classical.byContradiction; intro h; unfold intC at hi; rw [if_neg h] at hi; exact h hi
  obtain ⟨hF, hB⟩ := lenC_zero hc
  have hd : 1 ≤ d ∧ d ≤ 1048576 := by
    unfold intC at hi; rw [if_pos hc] at hi
    apply Classical.byContradiction; intro h; rw [if_pos (by omega)] at hi; omega
  have hFB := FB_bd hF hB
  obtain ⟨hlo, hhi, hz0⟩ := (interval_ok (n := 5000) (by decide) hF hB hd).get hzi
  rw [hi, hz0, wrap64_in (n := 2 * d) (by omega) (by omega), wrap64_in (n := 2 * d + 1) (by omega) (by omega), wrap64_in (n := 2 * d - 1) (by omega) (by omega)]
  refine Ok.cd (fun h => by cases h) (fun _ => Ok.cd (fun h => by cases h) (fun _ => ?_))
  refine Ok.bd (quotient_ok (by decide) hF hB (by omega)) fun q1 hq1 => Ok.bd (quotient_ok (by decide) hF hB (by omega)) fun q2 hq2 => ?_
  refine Ok.bde (b := true) (Ok.eq ?_) (Ok.cd (fun h => by cases h) (fun _ => ?_))
  · unfold fiducialref02_SameRange
    refine Ok.bde (R.qSame_ok (by decide) (by omega) hlo hq1) (Ok.cd (fun _ => Ok.bde (R.qSame_ok (by decide) (by omega) hhi hq2) (ok_some.2 rfl)) (fun h => by cases h))
  refine Ok.cd (fun _ => ok_some.2 rfl) (fun hne => ?_)
  have hne' : ¬ d = 1048576 := by simpa using hne
  rw [wrap64_in (n := d + 1) (by omega) (by omega)]
  refine Ok.bd (interval_ok (by decide) hF hB (d := d + 1) (by omega)) fun zj hzj => ?_
  obtain ⟨hjl, hjh, hj0⟩ := hzj
  rw [hj0]
  refine Ok.cd (fun _ => ?_) (fun h => by cases h)
  rw [show 2 * (d + 1) - 1 = 2 * d + 1 by omega] at hjh
  refine Ok.bde (R.qCompare_ok (by decide) (by omega) hjh hlo) ?_
  have s1 := sgn_le (p := F * B) (q := 32 * (2 * d + 1)) (s := F * B) (t := 32 * (2 * d + 1)) (by omega) (by omega) (Int.le_refl _)
  refine Ok.cd (fun _ => ?_) (fun h => absurd s1 (of_decide_eq_false h))
  refine Ok.bde (R.qCompare_ok (by decide) (by omega) hjl hlo) (ok_some.2 ?_)
  have s2 := sgn_lt (p := F * B) (q := 32 * (2 * (d + 1) + 1)) (s := F * B) (t := 32 * (2 * d + 1)) (by omega) (by omega) (Int.mul_lt_mul_of_pos_left (by omega) (by omega))
  simpa using s2
end Go.L

