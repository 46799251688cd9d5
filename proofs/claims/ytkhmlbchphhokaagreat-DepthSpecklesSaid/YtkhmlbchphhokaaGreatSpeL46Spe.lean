import Derived.Test.YtkhmlbchphhokaaGreatSpeL46r
set_option linter.unusedVariables false
set_option linter.unusedSimpArgs false
namespace Go.L
open Go Go.Eng
theorem getM_put {α : Type} {z v : α} : ∀ (l : List (Int × α)) (x y : Int), getM z (putM l x v) y = if y = x then v else getM z l y
  | [], x, y => by
    simp only [putM, getM]
    by_cases h : y = x
    · simp [h]
    · have : (y == x) = false := by simpa using h
      rw [this, if_neg h]; rfl
  | p :: l, x, y => by
    simp only [putM]
    cases hx : x == p.1 with
    | true =>
      have hx : x = p.1 := by simpa using hx
      simp only [cond_true, getM]
      by_cases h : y = x
      · simp [h]
      · have h1 : (y == x) = false := by simpa using h
        have h2 : (y == p.1) = false := by rw [← hx]; exact h1
        rw [h1, h2, if_neg h]; rfl
    | false =>
      have hx : x ≠ p.1 := by simpa using hx
      simp only [cond_false, getM]
      cases hy : y == p.1 with
      | true =>
        have hy : y = p.1 := by simpa using hy
        rw [if_neg (fun e : y = x => hx (e ▸ hy))]; rfl
      | false =>
        simp only [cond_false]
        exact getM_put l x y
def cntI (l : List Int) (k : Nat) (z : Int) : Int := (((List.range k).filter fun j => l.getD j default == z).length : Int)
theorem cntI_succ (l : List Int) (k : Nat) (z : Int) : cntI l (k + 1) z = if l.getD k default = z then cntI l k z + 1 else cntI l k z := by
  unfold cntI
  rw [List.range_succ, List.filter_append, List.length_append]
  by_cases h : l.getD k default = z
  · rw [if_pos h]
    have : (l.getD k default == z) = true := by simpa using h
    simp only [List.filter_cons, this, if_true, List.filter_nil, List.length_singleton]
    omega
  · rw [if_neg h]
    have : (l.getD k default == z) = false := by simpa using h
    simp only [List.filter_cons, this, Bool.false_eq_true, if_false, List.filter_nil, List.length_nil]
    omega
theorem cntI_bd (l : List Int) (k : Nat) (z : Int) : 0 ≤ cntI l k z ∧ cntI l k z ≤ k := by
  unfold cntI
  have := List.length_filter_le (fun j => l.getD j default == z) (List.range k)
  rw [List.length_range] at this
  omega
theorem cntI_cnt {V : Nat → Int} {step : Int} {w m : Nat} {l : List Int} (hl : Lb V (Es V step w m) m l) (he : ∀ u v, Es V step w m u v → labS V m l u = labS V m l v) {u : Nat} (hu : u < m) (hv : 0 ≤ V u) :
    cntI l m (l.getD u default) = cnt (Es V step w m) m u := by
  have hs := es_symm V step w m
  unfold cntI cnt cellsN
  congr 2
  apply List.filter_congr
  intro j hj
  have hj : j < m := List.mem_range.1 hj
  rw [Bool.eq_iff_iff]
  simp only [beq_iff_eq, decide_eq_true_eq]
  rw [← labS_in (V := V) hu hv]
  have hnn : ∀ x, 0 ≤ labS V m l x := fun x => by obtain ⟨i, hi, _⟩ := hl.lg x; omega
  constructor
  · intro h
    have hvj : 0 ≤ V j := by
      apply Classical.byContradiction
      intro hn
      have := hl.neg j hj (by omega)
      have := hnn u
      omega
    rw [← labS_in (V := V) hj hvj] at h
    obtain ⟨a, a1, a2, _⟩ := hl.lg j
    obtain ⟨b, b1, b2, _⟩ := hl.lg u
    have : a = b := by omega
    subst this
    exact b2.trans (a2.symm hs)
  · intro h
    have hvj : 0 ≤ V j := es_pos (h.symm hs) hv
    rw [← labS_in (V := V) hj hvj]
    exact h.inv (P := fun x => labS V m l x = labS V m l u) (fun p q e hp => by rw [← he p q e]; exact hp) rfl
theorem of_bd {x : Option (List Int)} {W H : Int} {L : List Int} (h : bdO x (fun o => some (api_Field.mk W H o)) = some (api_Field.mk W H L)) : x = some L := by
  cases x with
  | none => cases h
  | some a => simp only [bdO, Option.some.injEq, api_Field.mk.injEq, true_and] at h; rw [h]
theorem speckled_v {n : Nat} (hn : 4999 < n) {f : api_Field} (hf : OkF f) (h64 : f.V.length ≤ 64) {step : Int} (least : Int) :
    fiduciallaw46_speckled n f step least = some (api_Field.mk f.Width f.Height (spkL f step least)) := by
  have hW := wN_eq hf
  have hH : ((f.Height.toNat : Nat) : Int) = f.Height := by have := hf.h; omega
  have hw64 := hf.w
  have hh64 := hf.h
  apply Ok.eq
  unfold fiduciallaw46_speckled
  refine Ok.bd (labels_v hn hf h64) ?_
  rintro l ⟨hl, he⟩
  have hll := hl.len
  refine Ok.bd (R := fun c => ∀ z, getM 0 c z = cntI l f.V.length z) ?_ ?_
  · refine ok_rangeR (len := f.V.length) (fun k (c : List (Int × Int)) => ∀ z, getM 0 c z = cntI l k z) (by omega) (by omega) (fun z => by simp [getM, cntI]) ?_ ?_
    · rintro again k c hk hP ih
      dsimp only
      rw [hll]
      refine Ok.cd (fun _ => ?_) (fun h => by have := of_decide_eq_false h; omega)
      refine Ok.gd (by rw [inR_nat]; exact decide_eq_true hk) ?_
      rw [gt_nat]
      refine ih _ (fun z => ?_)
      have hb := cntI_bd l k (l.getD k default)
      rw [getM_put, hP, wrap64_in (by omega) (by omega), cntI_succ, hP]
      by_cases h : l.getD k default = z
      · rw [if_pos h, if_pos h.symm, h]
      · rw [if_neg h, if_neg (fun e => h e.symm)]
    · rintro again c hP
      dsimp only
      rw [hll]
      exact Ok.cd (fun h => by have := of_decide_eq_true h; omega) (fun _ => ok_some.2 hP)
  · intro c hc
    have hr := rows hf
    have hX := of_bd (loop_made (n := n) (f := fun x y => fiduciallaw46_speckled_1_w n x y l f.Width f.Height f.V c least) (g := spk (vF f) step least (wN f) f.V.length) (wN f) f.Height.toNat hW hH (by omega) (by omega) (by omega) (fun x y hx hy => by
      show fiduciallaw46_speckled_1_w n x y l f.Width f.Height f.V c least = some (spk (vF f) step least (wN f) f.V.length (y * wN f + x))
      have hp := place hf hx hy
      have hy64 : y ≤ 64 := by omega
      have hb : y * wN f ≤ 64 * 64 := Nat.mul_le_mul hy64 (by omega)
      unfold fiduciallaw46_speckled_1_w
      have ek : wrapF .i64 ((wrapF .i64 ((y : Int) * f.Width)) + (x : Int)) = ((y * wN f + x : Nat) : Int) := by
        rw [← hW, ← Int.natCast_mul, wrap64_in (n := ((y * wN f : Nat) : Int)) (by omega) (by omega), wrap64_in (by omega) (by omega)]; rfl
      rw [ek]
      have hat := at_v (n := n) hf hx hy
      rw [show api_Field.mk f.Width f.Height f.V = f from rfl, hat]
      generalize y * wN f + x = K at *
      have ei : inR ((K : Nat) : Int) l.length = true := by rw [inR_nat, hll]; exact decide_eq_true hp
      rw [ei, gt_nat, hc]
      have hval := hf.v K hp
      unfold spk
      by_cases hv : 0 ≤ vF f K
      · have hlab := labS_in (V := vF f) (l := l) hp hv
        obtain ⟨i, hi, _⟩ := hl.lg K
        rw [hlab] at hi
        have hneg : decide (l.getD K default < 0) = false := decide_eq_false (by omega)
        rw [hneg, cntI_cnt hl he hp hv]
        by_cases hs : least ≤ cnt (Es (vF f) step (wN f) f.V.length) f.V.length K
        · rw [if_pos ⟨hv, hs⟩, decide_eq_false (by omega)]; rfl
        · rw [if_neg (fun e => hs e.2), decide_eq_true (by omega)]; rfl
      · have := hl.neg K hp (by omega)
        have hneg : decide (l.getD K default < 0) = true := decide_eq_true (by omega)
        rw [hneg, if_neg (fun e => hv e.1)]; rfl))
    refine Ok.bde (b := (f.Width, f.Height, spkL f step least)) ?_ (ok_some.2 rfl)
    unfold fiduciallaw46_Made_w_of_fiduciallaw46_speckled_1 spkL
    rw [hr]
    rw [hr] at hX
    show bdO _ (fun out => some (f.Width, f.Height, out)) = _
    exact congrArg (fun o => bdO o fun out => some (f.Width, f.Height, out)) hX
theorem spk_good {f : api_Field} (hf : OkF f) (step least : Int) : OkF (api_Field.mk f.Width f.Height (spkL f step least)) := by
  refine ⟨hf.w, hf.h, by simp [spkL]; exact hf.len, fun j hj => ?_⟩
  have hj' : j < f.V.length := by simpa [spkL] using hj
  show -1 ≤ (spkL f step least).getD j default ∧ (spkL f step least).getD j default ≤ 1048576
  unfold spkL
  rw [map_at hj']
  have hv : -1 ≤ vF f j ∧ vF f j ≤ 1048576 := hf.v j hj'
  unfold spk
  split <;> omega
theorem es_cong {V V' : Nat → Int} {step : Int} {w m : Nat} (h : ∀ u, u < m → V u = V' u) : Es V step w m = Es V' step w m := by
  funext u v
  apply propext
  unfold Es nr
  constructor
  · rintro ⟨h1, h2, h3, h4⟩
    rw [h u h1, h v h2] at h3
    exact ⟨h1, h2, h3, h4⟩
  · rintro ⟨h1, h2, h3, h4⟩
    rw [← h u h1, ← h v h2] at h3
    exact ⟨h1, h2, h3, h4⟩
theorem spkL_twice {f : api_Field} (step least : Int) : spkL (api_Field.mk f.Width f.Height (spkL f step least)) step least = spkL f step least := by
  have hll : (spkL f step least).length = f.V.length := by simp [spkL]
  show (List.range (spkL f step least).length).map (spk (vF (api_Field.mk f.Width f.Height (spkL f step least))) step least (wN f) (spkL f step least).length) = _
  rw [hll]
  have hV : ∀ u, u < f.V.length → vF (api_Field.mk f.Width f.Height (spkL f step least)) u = spk (vF f) step least (wN f) f.V.length u := fun u hu => by
    show (spkL f step least).getD u default = _
    unfold spkL
    rw [map_at hu]
  refine List.map_congr_left fun j hj => ?_
  have hj : j < f.V.length := by simpa using hj
  have := spk_twice (vF f) step least (wN f) f.V.length j
  unfold spk at this ⊢
  rw [es_cong hV]
  have e := hV j hj
  unfold spk at e
  rw [e]
  exact this
theorem spe_fail1 {n : Nat} {f : api_Field} {step least : Int} (hn : f.V.length < n) (hl : f.V.length ≤ 9223372036854775806) (hf : okF f = false) : depth_Speckles n f step least = some (zeroF, 1) := by
  unfold depth_Speckles; rw [check_v hn hl, hf]; rfl
theorem spe_fail2 {n : Nat} {f : api_Field} {step least : Int} (hn : f.V.length < n) (hl : f.V.length ≤ 9223372036854775806) (hf : okF f = true) (hL : step < 0) : depth_Speckles n f step least = some (zeroF, 2) := by
  have : decide (step < 0) = true := by simpa using hL
  unfold depth_Speckles; rw [check_v hn hl, hf, this]; rfl
theorem few_64 {f : api_Field} (h : fewF f = true) (hf : OkF f) : f.V.length ≤ 64 := by
  unfold fewF at h
  rw [okF_iff.2 hf] at h
  simp at h
  have h1 := hf.w; have h2 := hf.h; have h3 := hf.len
  have : f.Width * f.Height ≤ 8 * 8 := Int.mul_le_mul h.2.1 h.2.2 (by omega) (by omega)
  omega
theorem spe_v (f : api_Field) (step least : Int) : fiduciallaw46_DepthSpeckles 5000 f step least = some true := by
  apply Ok.eq
  unfold fiduciallaw46_DepthSpeckles
  refine Ok.bde known46_v (Ok.cd (fun h => by cases h) (fun _ => Ok.bde (few_v (by omega)) (Ok.cd (fun _ => ok_some.2 rfl) (fun hfew => ?_))))
  have hfew : fewF f = true := by simpa using hfew
  have h80 := few_len hfew
  cases hv : okF f with
  | false =>
    refine Ok.bde (spe_fail1 (by omega) (by omega) hv) (Ok.bde (valid_v (by omega) (by omega)) ?_)
    rw [hv]
    refine Ok.bde (b := 1) rfl (Ok.bde (b := true) rfl ?_)
    exact Ok.cd (fun h => by cases h) (fun _ => Ok.cd (fun _ => ok_some.2 rfl) (fun h => by cases h))
  | true =>
    have hf := okF_iff.1 hv
    have h64 := few_64 hfew hf
    by_cases hL : step < 0
    · have hd : decide (step < 0) = true := by simpa using hL
      refine Ok.bde (spe_fail2 (by omega) (by omega) hv hL) (Ok.bde (valid_v (by omega) (by omega)) ?_)
      rw [hv]
      refine Ok.bde (b := 2) (by rw [hd]; rfl) (Ok.bde (b := true) rfl ?_)
      exact Ok.cd (fun h => by cases h) (fun _ => Ok.cd (fun _ => ok_some.2 rfl) (fun h => by cases h))
    · have hd : decide (step < 0) = false := by simpa using hL
      have hll : (spkL f step least).length = f.V.length := by simp [spkL]
      refine Ok.bde (speckles_ok (by omega) hf h80 (by omega) least) (Ok.bde (valid_v (by omega) (by omega)) ?_)
      rw [hv]
      refine Ok.bde (b := 0) (by rw [hd]; rfl) (Ok.bde (b := true) ?_ ?_)
      · unfold fiduciallaw46_is_of_fiduciallaw46_DepthSpeckles_1 fiduciallaw46_DepthSpeckles_1
        rw [show api_Field.mk f.Width f.Height f.V = f from rfl, speckled_v (by omega) hf h64]
        show bdO (fiduciallaw46_Same 5000 _ _) _ = _
        rw [same_self (by show (spkL f step least).length < 5000; omega) (by show (spkL f step least).length ≤ _; omega)]; rfl
      · refine Ok.cd (fun h => by cases h) (fun _ => Ok.cd (fun h => by cases h) (fun _ => ?_))
        refine Ok.bde (speckles_ok (by omega) (spk_good hf step least) (by show (spkL f step least).length ≤ 80; omega) (by omega) least) (Ok.cd (fun _ => ?_) (fun h => by cases h))
        rw [show (api_Field.mk (api_Field.mk f.Width f.Height (spkL f step least)).Width (api_Field.mk f.Width f.Height (spkL f step least)).Height (spkL (api_Field.mk f.Width f.Height (spkL f step least)) step least)) = api_Field.mk f.Width f.Height (spkL f step least) from by rw [spkL_twice]]
        exact Ok.bde (same_self (by show (spkL f step least).length < 5000; omega) (by show (spkL f step least).length ≤ _; omega)) (ok_some.2 rfl)
end Go.L

