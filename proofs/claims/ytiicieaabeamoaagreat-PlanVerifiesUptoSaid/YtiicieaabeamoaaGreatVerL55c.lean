import Derived.Test.YtiicieaabeamoaaGreatVerL55x
import Derived.Test.YtiicieaabeamoaaGreatVerL55z
import Derived.Test.YtiicieaabeamoaaGreatVerL55x
import Derived.Test.YtiicieaabeamoaaGreatVerL55x
set_option linter.all false
namespace Go.L
open Go Go.Eng
theorem insC_rq {u : Int} {κ : api_Rat → Int} {x : Int} (hx : κ (rq u x) = x) : ∀ (ms : List Int), (∀ m ∈ ms, κ (rq u m) = m) → insC (ltK κ) (rq u x) (ms.map (rq u)) = (insZ x ms).map (rq u)
 | [], _ => rfl
 | y :: ms, h => by
  have hy := h y (by simp)
  have ih := insC_rq hx ms fun m hm => h m (by simp [hm])
  rw [List.map_cons]
  unfold insC insZ
  by_cases k : x ≤ y
  · rw [if_pos k, if_neg (by rw [decide_eq_true_iff, hy, hx]; omega)]; rfl
  · rw [if_neg k, if_pos (by rw [decide_eq_true_iff, hy, hx]; omega), ih]; rfl
theorem isrtC_rq {u : Int} {κ : api_Rat → Int} : ∀ (ms : List Int), (∀ m ∈ ms, κ (rq u m) = m) → isrtC (ltK κ) (ms.map (rq u)) = (isrt ms).map (rq u)
 | [], _ => rfl
 | y :: ms, h => by
  rw [List.map_cons]
  unfold isrtC isrt
  rw [isrtC_rq ms fun m hm => h m (by simp [hm])]
  exact insC_rq (h y (by simp)) _ fun m hm => h m (by simp [mem_isrt.1 hm])
open Classical in
noncomputable def kapU (u : Int) (x : api_Rat) : Int := if h : ∃ m, Fit u m ∧ x = rq u m then h.choose else 0
theorem kapU_rq {u m : Int} (h : Fit u m) : kapU u (rq u m) = m := by
 have e : ∃ m', Fit u m' ∧ rq u m = rq u m' := ⟨m, h, rfl⟩
 unfold kapU; rw [dif_pos e]
 exact (rq_inj h e.choose_spec.1 e.choose_spec.2).symm
theorem sort_rq {n : Nat} (hn : 5000 ≤ n) {u : Int} {ms : List Int} (hl : ms.length ≤ 1000) (h : ∀ m ∈ ms, Fit u m) : slices_SortFunc_fiducial_api_Rat_fiducial_api_Rat_w_of_fiducialref02_Compare n (ms.map (rq u)) = some ((isrt ms).map (rq u)) := by
 unfold slices_SortFunc_fiducial_api_Rat_fiducial_api_Rat_w_of_fiducialref02_Compare
 have e : decide ((ms.map (rq u)).length < 4611686018427387904) = true := decide_eq_true (by rw [List.length_map]; omega)
 rw [e]
 show sortC _ _ = _
 rw [sortC_key (κ := kapU u), isrtC_rq ms fun m hm => kapU_rq (h m hm)]
 · intro x y hx hy
   obtain ⟨a, ha, rfl⟩ := List.mem_map.1 hx
   obtain ⟨b, hb, rfl⟩ := List.mem_map.1 hy
   refine ⟨_, cmp_rq hn (h a ha) (h b hb), ?_⟩
   rw [kapU_rq (h a ha), kapU_rq (h b hb)]
   have := sgn_cases (a - b)
   omega
 · intro x y hx hy e
   obtain ⟨a, ha, rfl⟩ := List.mem_map.1 hx
   obtain ⟨b, hb, rfl⟩ := List.mem_map.1 hy
   rw [kapU_rq (h a ha), kapU_rq (h b hb)] at e
   rw [e]
theorem map_at55 {u : Int} {ms : List Int} {k : Nat} (hk : k < ms.length) : (ms.map (rq u)).getD k default = rq u (ms.getD k default) := by
 simp [List.getD, List.getElem?_eq_getElem hk]
theorem kpG_rq {u : Int} {ms : List Int} (h : ∀ m ∈ ms, Fit u m) : ∀ t, t ≤ ms.length → kpG (fun x y => decide (x = y)) (ms.map (rq u)) t = (kpZ ms t).map (rq u)
 | 0, _ => rfl
 | t + 1, ht => by
  rw [kpG, kpZ, kpG_rq h t (by omega), map_at55 (by omega), map_at55 (by omega)]
  have h1 := h _ (memAt (l := ms) (k := t) (by omega))
  have h2 := h _ (memAt (l := ms) (k := t - 1) (by omega))
  by_cases k : t = 0 ∨ ms.getD t default ≠ ms.getD (t - 1) default
  · rw [if_pos k, if_pos ?_, List.map_append]; rfl
    rcases k with k | k
    · exact .inl k
    · exact .inr (decide_eq_false fun e => k (rq_inj h1 h2 e))
  · rw [if_neg k, if_neg ?_]
    rintro (e | e)
    · exact k (.inl e)
    · have e := of_decide_eq_false e
      exact k (.inr fun e' => e (by rw [e']))
theorem compact_rq {n : Nat} (hn : 5000 ≤ n) {u : Int} {ms : List Int} (hl : ms.length ≤ 1000) (h : ∀ m ∈ ms, Fit u m) : slices_CompactFunc_fiducial_api_Rat_fiducial_api_Rat_w_of_fiducialref02_Same n (ms.map (rq u)) = some ((kpZ ms ms.length).map (rq u)) := by
 have e := compactG (n := n) (s := ms.map (rq u)) (z := api_Rat.mk (api_Int.mk false []) (api_Int.mk false [])) (f := fiducialref02_Same n) (E := fun x y => decide (x = y)) (by
  intro x hx y hy
  obtain ⟨a, ha, rfl⟩ := List.mem_map.1 hx
  obtain ⟨b, hb, rfl⟩ := List.mem_map.1 hy
  rw [same_rq hn (h a ha) (h b hb)]
  congr 1
  rw [decide_eq_decide]
  exact ⟨fun e => by rw [e], fun e => rq_inj (h a ha) (h b hb) e⟩) (by rw [List.length_map]; omega) (by omega)
 have e2 : kpG (fun x y => decide (x = y)) (ms.map (rq u)) (ms.map (rq u)).length = (kpZ ms ms.length).map (rq u) := by rw [List.length_map]; exact kpG_rq h _ (Nat.le_refl _)
 unfold slices_CompactFunc_fiducial_api_Rat_fiducial_api_Rat_w_of_fiducialref02_Same
 refine Eq.trans ?_ (e.trans (congrArg some e2))
 kernel_rfl
def ilvZ (C : List Int) : Nat → List Int
 | 0 => []
 | k + 1 => (if 0 < k then ilvZ C k ++ [(C.getD (k - 1) default + C.getD k default) / 2] else ilvZ C k) ++ [C.getD k default]
theorem mids_len (C : List Int) : (midsZ C).length = C.length - 1 := by simp [midsZ]
theorem mids_at {C : List Int} {k : Nat} (hk : k < C.length - 1) : (midsZ C).getD k default = (C.getD k default + C.getD (k + 1) default) / 2 := by
 unfold midsZ
 simp [List.getD, hk]
theorem ilv_perm {C : List Int} : ∀ k, k ≤ C.length → (ilvZ C k).Perm (C.take k ++ (midsZ C).take (k - 1))
 | 0, _ => by simp [ilvZ]
 | k + 1, hk => by
  have ih := ilv_perm (C := C) k (by omega)
  rw [ilvZ, takeS (by omega), Nat.add_sub_cancel]
  by_cases h : 0 < k
  · rw [if_pos h]
    have e : k = k - 1 + 1 := by omega
    have em : (midsZ C).take k = (midsZ C).take (k - 1) ++ [(C.getD (k - 1) default + C.getD k default) / 2] := by
     rw [e, takeS (by rw [mids_len]; omega), mids_at (by omega), Nat.add_sub_cancel]
    rw [em]
    refine (List.Perm.append_right _ (List.Perm.append_right _ ih)).trans ?_
    rw [List.append_assoc, List.append_assoc, List.append_assoc]
    refine List.Perm.append_left _ ?_
    rw [← List.append_assoc]
    exact List.perm_append_comm
  · have : k = 0 := by omega
    subst this
    simp [ilvZ]
theorem ilv_pw {C : List Int} (hC : C.Pairwise fun a b => a < b) : ∀ k, k ≤ C.length → (ilvZ C k).Pairwise (fun a b => a ≤ b) ∧ (0 < k → ∀ x ∈ ilvZ C k, x ≤ C.getD (k - 1) default)
 | 0, _ => ⟨.nil, by omega⟩
 | k + 1, hk => by
  obtain ⟨h1, h2⟩ := ilv_pw hC k (by omega)
  rw [ilvZ, Nat.add_sub_cancel]
  by_cases h : 0 < k
  · rw [if_pos h]
    have hlt : C.getD (k - 1) default ≤ C.getD k default := pwAt (hC.imp fun h => by omega) (k - 1) k (by omega) (by omega)
    have h2 := h2 h
    refine ⟨List.pairwise_append.2 ⟨List.pairwise_append.2 ⟨h1, by simp, fun a ha b hb => ?_⟩, by simp, fun a ha b hb => ?_⟩, fun _ x hx => ?_⟩
    · have := h2 a ha
      obtain rfl := List.mem_singleton.1 hb
      omega
    · obtain rfl := List.mem_singleton.1 hb
      rcases List.mem_append.1 ha with ha | ha
      · have := h2 a ha; omega
      · obtain rfl := List.mem_singleton.1 ha
        omega
    · rcases List.mem_append.1 hx with hx | hx
      · rcases List.mem_append.1 hx with hx | hx
        · have := h2 x hx; omega
        · obtain rfl := List.mem_singleton.1 hx
          omega
      · obtain rfl := List.mem_singleton.1 hx
        exact Int.le_refl _
  · have : k = 0 := by omega
    subst this
    simp [ilvZ]
theorem axM_ilv (N u z : Int) (xs : List Int) : axM N u z xs = ilvZ (mk1 N u z xs) (mk1 N u z xs).length := by
 have hp := ilv_perm (C := mk1 N u z xs) _ (Nat.le_refl _)
 rw [List.take_length, List.take_of_length_le (by rw [mids_len]; exact Nat.le_refl _)] at hp
 unfold axM
 refine List.Perm.eq_of_pairwise (le := fun a b => a ≤ b) (fun a b _ _ h1 h2 => by omega) (isrt_le _) (ilv_pw (mk1_ok N u z xs).1 _ (Nat.le_refl _)).1 ?_
 exact (isrt_perm _).trans hp.symm
theorem mk0_even {N F z : Int} {xs : List Int} {m : Int} (hm : m ∈ mk0 N (4 * F) z xs) : ∃ h, m = 2 * h := by
 unfold mk0 at hm
 rcases List.mem_append.1 hm with hm | hm
 · simp at hm
   rcases hm with hm | hm
   · exact ⟨0, by omega⟩
   · exact ⟨N * (2 * F), by rw [hm]; grind⟩
 · obtain ⟨x, _, hx⟩ := List.mem_flatMap.1 hm
   have := (List.mem_filter.1 hx).1
   unfold bnd at this
   simp at this
   rcases this with this | this
   · exact ⟨x * (2 * F) - z, by rw [this]; grind⟩
   · exact ⟨x * (2 * F) + z, by rw [this]; grind⟩
theorem AxIn.fit {N F z : Int} {xs : List Int} (h : AxIn N F z xs) {m : Int} (h0 : -8796093022208 ≤ m) (h1 : m ≤ 8796093022208) : Fit (4 * F) m := by
 have := h.f
 exact ⟨by omega, by omega⟩
theorem sgnU {u m : Int} (hu : 0 < u) : sgn (Rat.divInt m u).num = sgn m := by
 have := sgn_sub (p := m) (q := u) (s := 0) (t := 1) hu (by omega)
 rw [Rat.zero_divInt, Rat.sub_eq_add_neg, show -(0 : Rat) = 0 from rfl, Rat.add_zero] at this
 rw [this, Int.mul_one, Int.zero_mul, Int.sub_zero]
theorem cand_ok {n : Nat} (hn : 5000 ≤ n) {N F z : Int} {xs : List Int} (h : AxIn N F z xs) {len : api_Rat} (hlen : R.Qx len (Rat.divInt z F) 3) : fiduciallaw55_candidates n N xs len = some ((axM N (4 * F) z xs).map (rq (4 * F))) := by
 have hN := h.n; have hF := h.f; have hz := h.z; have hl := h.l; have hnu := h.nu
 have l0 := mk0_len N (4 * F) z xs
 have l1 := mk1_len N (4 * F) z xs
 have p1 := mk1_pos N (4 * F) z xs
 have in0 : ∀ m ∈ mk0 N (4 * F) z xs, Fit (4 * F) m := fun m hm => by have := mk0_in (by omega) hm; exact h.fit (by omega) (by omega)
 have in1 : ∀ m ∈ mk1 N (4 * F) z xs, Fit (4 * F) m := fun m hm => in0 m (((mk1_ok ..).2 m).1 hm)
 have ev1 : ∀ m ∈ mk1 N (4 * F) z xs, ∃ e, m = 2 * e := fun m hm => mk0_even (((mk1_ok ..).2 m).1 hm)
 have bd1 : ∀ m ∈ mk1 N (4 * F) z xs, 0 ≤ m ∧ m ≤ N * (4 * F) := fun m hm => mk0_in (by omega) (((mk1_ok ..).2 m).1 hm)
 apply Ok.eq
 unfold fiduciallaw55_candidates
 refine Ok.bd (R.qOf_ok hn (by omega) (by omega) (by omega) (by omega) (by omega)) fun hf hhf => ?_
 have hhf := hhf.1
 refine Ok.bd (R.qWhole_ok hn (by omega) (by omega)) fun v3 h3 => Ok.bd (R.qWhole_ok hn (by omega) (by omega)) fun v5 h5 => ?_
 have e3 : v3 = rq (4 * F) 0 := QU.eq (by
  unfold QU; rw [Rat.zero_divInt]; rw [Rat.zero_divInt] at h3; exact h3) (h.fit (by omega) (by omega))
 have e5 : v5 = rq (4 * F) (N * (4 * F)) := QU.eq (by
  unfold QU
  have : Rat.divInt N 1 = Rat.divInt (N * (4 * F)) (4 * F) := by
   rw [Rat.divInt_eq_divInt_iff (by omega) (by omega)]; grind
  rw [← this]; exact h5) (h.fit (by omega) (by omega))
 subst e3 e5
 refine Ok.bd (R := fun o => o = (mk0 N (4 * F) z xs).map (rq (4 * F))) ?_ ?_
 · refine ok_rangeR (len := xs.length) (fun k (c : List api_Rat) => c = (mk0 N (4 * F) z (xs.take k)).map (rq (4 * F))) (by omega) (by omega) (by simp [mk0]) ?_ ?_
   · rintro again k c hk rfl ih
     refine Ok.cd (fun _ => Ok.gd (by rw [inR_nat]; simpa using hk) ?_) (fun h => by simp at h; omega)
     have hx := h.xu (memAt hk)
     have hxr := h.x _ (memAt hk)
     have lk := mk0_len N (4 * F) z (xs.take k)
     have ltk : (xs.take k).length = k := by rw [List.length_take]; omega
     rw [gt_nat]
     generalize hX : xs.getD k default = X at hx hxr
     have hend : mk0 N (4 * F) z (xs.take (k + 1)) = mk0 N (4 * F) z (xs.take k) ++ (bnd (4 * F) z X).filter (fltB N (4 * F)) := by
      unfold mk0
      rw [takeS hk, List.flatMap_append, List.append_assoc]
      congr 2
      simp only [List.flatMap_cons, List.flatMap_nil, List.append_nil]
      rw [hX]
     refine Ok.bd (R := fun o => o = (mk0 N (4 * F) z (xs.take (k + 1))).map (rq (4 * F))) ?_ (fun o ho => ih _ ho)
     rw [hend]
     refine ok_rangeR (len := 2) (fun j (c : List api_Rat) => c = (mk0 N (4 * F) z (xs.take k) ++ ((bnd (4 * F) z X).take j).filter (fltB N (4 * F))).map (rq (4 * F))) (by omega) (by omega) (by simp) ?_ ?_
     · rintro again2 j c hj rfl ih2
       have lf := List.length_filter_le (fltB N (4 * F)) ((bnd (4 * F) z X).take j)
       have lt2 : ((bnd (4 * F) z X).take j).length ≤ 2 := by rw [List.length_take]; omega
       refine Ok.cd (fun _ => Ok.gd (by rw [inR_nat]; simp; omega) ?_) (fun h => by simp at h; omega)
       obtain ⟨sg, m, hsg, hm, hsgb, hmv⟩ : ∃ sg m : Int, gt [((-1) : Int), (1 : Int)] (j : Int) = sg ∧ (bnd (4 * F) z X).getD j default = m ∧ (-1 ≤ sg ∧ sg ≤ 1) ∧ m = X * (4 * F) + sg * (2 * z) := by
        match j, hj with
        | 0, _ => exact ⟨-1, _, rfl, rfl, by omega, by show X * (4 * F) - 2 * z = _; omega⟩
        | 1, _ => exact ⟨1, _, rfl, rfl, by omega, by show X * (4 * F) + 2 * z = _; omega⟩
        | j + 2, hj => omega
       rw [hsg]
       have hsz : -(2 * z) ≤ sg * (2 * z) ∧ sg * (2 * z) ≤ 2 * z := by
        rcases (by omega : sg = -1 ∨ sg = 0 ∨ sg = 1) with e | e | e <;> rw [e] <;> constructor <;> omega
       have hs : ((bnd (4 * F) z X).take (j + 1)).filter (fltB N (4 * F)) = ((bnd (4 * F) z X).take j).filter (fltB N (4 * F)) ++ [m].filter (fltB N (4 * F)) := by
        rw [takeS (show j < (bnd (4 * F) z X).length from hj), List.filter_append, hm]
       refine Ok.bd (R.qWhole_ok hn (by omega) (by omega)) fun w1 q1 => Ok.bd (R.qWhole_ok hn (by omega) (by omega)) fun w2 q2 => ?_
       refine Ok.bd (R.qMul_ok hn (j := 3) (k := 3) (by omega) hhf q2) fun w3 q3 => Ok.bd (R.qMul_ok hn (j := 6) (k := 3) (by omega) q3 hlen) fun w4 q4 => Ok.bd (R.qAdd_ok hn (j := 3) (k := 9) (by omega) q1 q4) fun w5 q5 => ?_
       have ev : Rat.divInt X 1 + Rat.divInt 1 2 * Rat.divInt sg 1 * Rat.divInt z F = Rat.divInt m (4 * F) := by
        rw [Rat.divInt_mul_divInt, Rat.divInt_mul_divInt, Rat.divInt_add_divInt _ _ (by omega) (by omega), Rat.divInt_eq_divInt_iff (by omega) (by omega), hmv]
        grind
       have q5 := tight3 q5 ev (by omega) (by omega) (by omega) (by omega)
       have hfm : Fit (4 * F) m := h.fit (by omega) (by omega)
       have e5 : w5 = rq (4 * F) m := QU.eq q5 hfm
       subst e5
       refine Ok.bde (R.qSign_ok hn (by omega) q5) ?_
       rw [sgnU (by omega)]
       have hsm := sgn_cases m
       refine Ok.cd (fun k1 => ?_) (fun k1 => ?_)
       · have k1 := of_decide_eq_true k1
         refine Ok.bd (R.qWhole_ok hn (by omega) (by omega)) fun w6 q6 => ?_
         refine Ok.bde (R.qCompare_ok hn (j := 3) (k := 3) (by omega) q5 q6) ?_
         rw [sgn_sub (by omega) (by omega)]
         have hsc := sgn_cases (m * 1 - N * (4 * F))
         refine Ok.cd (fun k2 => ?_) (fun k2 => ?_)
         · have k2 := of_decide_eq_true k2
           refine Ok.gd (decide_eq_true (by rw [List.length_map, List.length_append]; omega)) (Ok.gd (decide_eq_true (by rw [List.length_map, List.length_append]; omega)) (ih2 _ ?_))
           rw [hs, List.filter_cons_of_pos (by unfold fltB; rw [decide_eq_true (show m > 0 by omega), decide_eq_true (show m < N * (4 * F) by omega)]; rfl), List.filter_nil, ← List.append_assoc, List.map_append (l₂ := [m])]; rfl
         · have k2 := of_decide_eq_false k2
           refine ih2 _ ?_
           rw [hs, List.filter_cons_of_neg (by unfold fltB; rw [decide_eq_false (show ¬ m < N * (4 * F) by omega)]; simp), List.filter_nil, List.append_nil]
       · have k1 := of_decide_eq_false k1
         refine ih2 _ ?_
         rw [hs, List.filter_cons_of_neg (by unfold fltB; rw [decide_eq_false (show ¬ m > 0 by omega)]; simp), List.filter_nil, List.append_nil]
     · rintro again2 c rfl
       refine Ok.cd (fun h => by simp at h) (fun _ => ok_some.2 ?_)
       rw [show (bnd (4 * F) z X).take 2 = bnd (4 * F) z X from rfl]
   · rintro again c rfl
     exact Ok.cd (fun h => by simp at h) (fun _ => ok_some.2 (by rw [List.take_length]))
 · rintro o rfl
   refine Ok.bde (sort_rq hn (by omega) in0) (Ok.gd (by simp [len_isrt]) ?_)
   refine Ok.bde (b := (mk1 N (4 * F) z xs).map (rq (4 * F))) (compact_rq hn (by rw [len_isrt]; omega) fun m hm => in0 m (mem_isrt.1 hm)) ?_
   rw [axM_ilv]
   generalize mk1 N (4 * F) z xs = C at *
   refine Ok.bd (R := fun o => o = (ilvZ C C.length).map (rq (4 * F))) ?_ (fun o ho => ok_some.2 ho)
   rw [List.length_map]
   have il : ∀ k, (ilvZ C k).length ≤ 2 * k := by
    intro k
    induction k with
    | zero => simp [ilvZ]
    | succ k ih => rw [ilvZ]; split <;> simp <;> omega
   refine ok_rangeR (len := C.length) (fun k (c : List api_Rat) => c = (ilvZ C k).map (rq (4 * F))) (by omega) (by omega) rfl ?_ ?_
   · rintro again k c hk rfl ih
     have ilk := il k
     refine Ok.cd (fun _ => Ok.gd (by rw [inR_nat]; simpa using hk) ?_) (fun h => by simp at h; omega)
     have step := ih ((ilvZ C (k + 1)).map (rq (4 * F))) rfl
     rw [ilvZ] at step
     refine Ok.cd (fun h0 => ?_) (fun h0 => ?_)
     · have h0 : 0 < k := by have := of_decide_eq_true h0; omega
       rw [if_pos h0] at step
       have ek : ((k : Int) - 1) = ((k - 1 : Nat) : Int) := by omega
       rw [wrap64_in (n := (k : Int) - 1) (by omega) (by omega), ek, inR_nat, gt_nat, gt_nat, map_at55 hk, map_at55 (show k - 1 < C.length by omega)]
       refine Ok.gd (decide_eq_true (by omega)) ?_
       have m1 := memAt (l := C) (k := k - 1) (by omega)
       have m2 := memAt hk
       generalize hA : C.getD (k - 1) default = A at *
       generalize hB : C.getD k default = B at *
       obtain ⟨a, ea⟩ := ev1 A m1
       obtain ⟨b, eb⟩ := ev1 B m2
       have bA := bd1 A m1; have bB := bd1 B m2
       refine Ok.bd (R.qAdd_ok hn (j := 3) (k := 3) (by omega) (rq_ok (in1 A m1)) (rq_ok (in1 B m2))) fun w1 q1 => Ok.bd (R.qMul_ok hn (j := 3) (k := 7) (by omega) hhf q1) fun w2 q2 => ?_
       have ev : Rat.divInt 1 2 * (Rat.divInt A (4 * F) + Rat.divInt B (4 * F)) = Rat.divInt ((A + B) / 2) (4 * F) := by
        have e2 : (A + B) / 2 = a + b := by omega
        have hFF := Int.mul_pos (show 0 < 4 * F by omega) (show 0 < 4 * F by omega)
        rw [Rat.divInt_add_divInt _ _ (by omega) (by omega), Rat.divInt_mul_divInt, Rat.divInt_eq_divInt_iff (by omega) (by omega), e2, ea, eb]
        grind
       have q2 := tight3 q2 ev (by omega) (by omega) (by omega) (by omega)
       have e2 : w2 = rq (4 * F) ((A + B) / 2) := QU.eq q2 (h.fit (by omega) (by omega))
       subst e2
       rw [List.map_append, List.map_append] at step
       refine Ok.gd (decide_eq_true (by rw [List.length_map]; omega)) (Ok.gd (decide_eq_true (by rw [List.length_map]; omega)) (Ok.gd (decide_eq_true (by rw [List.length_append, List.length_map]; simp; omega)) (Ok.gd (decide_eq_true (by rw [List.length_append, List.length_map]; simp; omega)) step)))
     · have h0 : ¬ 0 < k := by have := of_decide_eq_false h0; omega
       rw [if_neg h0, List.map_append] at step
       rw [gt_nat, map_at55 hk]
       exact Ok.gd (decide_eq_true (by rw [List.length_map]; omega)) (Ok.gd (decide_eq_true (by rw [List.length_map]; omega)) step)
   · rintro again c rfl
     exact Ok.cd (fun h => by simp at h) (fun _ => ok_some.2 rfl)
end Go.L

