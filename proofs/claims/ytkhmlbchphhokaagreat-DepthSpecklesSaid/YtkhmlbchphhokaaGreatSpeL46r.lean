import Derived.Test.YtkhmlbchphhokaaGreatSpeL46q
import Derived.Test.YtkhmlbchphhokaaGreatScMadnkldgm
set_option linter.unusedVariables false
set_option linter.unusedSimpArgs false
namespace Go.L
open Go Go.Eng
theorem sumZ_lt {f g : Nat → Int} {a : Nat} : ∀ {k : Nat}, (∀ j, j < k → f j ≤ g j) → a < k → f a < g a → sumZ f k < sumZ g k
  | 0, _, h, _ => by omega
  | k + 1, h, ha, hlt => by
    simp only [sumZ]
    by_cases hak : a = k
    · subst hak
      have := sumZ_le (k := a) (fun j hj => h j (by omega))
      omega
    · have := sumZ_lt (k := k) (fun j hj => h j (by omega)) (by omega) hlt
      have := h k (by omega)
      omega
def labS (V : Nat → Int) (m : Nat) (l : List Int) (u : Nat) : Int := if u < m ∧ 0 ≤ V u then l.getD u default else (u : Int)
theorem labS_in {V : Nat → Int} {m : Nat} {l : List Int} {u : Nat} (h : u < m) (hv : 0 ≤ V u) : labS V m l u = l.getD u default := by unfold labS; rw [if_pos ⟨h, hv⟩]
theorem labS_op {V : Nat → Int} {m : Nat} {l : List Int} (hl : l.length = m) {k n : Nat} (hk : k < m) (hn : n < m) (hvk : 0 ≤ V k) (hvn : 0 ≤ V n) {c : Int} (hc : c = mn (l.getD k default) (l.getD n default)) : labS V m ((l.set k c).set n c) = op2 (labS V m l) k n := by
  funext u
  unfold op2
  rw [labS_in hk hvk, labS_in hn hvn, ← hc]
  unfold labS
  by_cases hu : u < m ∧ 0 ≤ V u
  · rw [if_pos hu, if_pos hu, getD_set (by simp; omega), getD_set (by omega)]
    by_cases h1 : u = n
    · rw [if_pos h1, if_pos (.inr h1)]
    · by_cases h2 : u = k
      · rw [if_neg h1, if_pos h2, if_pos (.inl h2)]
      · rw [if_neg h1, if_neg h2, if_neg (fun h => h.elim h2 h1)]
  · rw [if_neg hu, if_neg hu, if_neg]
    rintro (rfl | rfl)
    · exact hu ⟨hk, hvk⟩
    · exact hu ⟨hn, hvn⟩
structure Lb (V : Nat → Int) (E : Nat → Nat → Prop) (m : Nat) (l : List Int) : Prop where
  len : l.length = m
  neg : ∀ u, u < m → V u < 0 → l.getD u default = -1
  lg : Lg E (labS V m l)
def Dn (E : Nat → Nat → Prop) (w K x : Nat) (u v : Nat) : Prop := E u v ∧ (u < K ∧ ((v = u + 1 ∧ v % w ≠ 0) ∨ v = u + w) ∨ u = K ∧ (1 ≤ x ∧ v = u + 1 ∧ v % w ≠ 0 ∨ 2 ≤ x ∧ v = u + w))
structure Rd (V : Nat → Int) (E : Nat → Nat → Prop) (w m : Nat) (l : List Int) (K x : Nat) (c : List Int × Bool) : Prop where
  lb : Lb V E m c.1
  no : c.2 = false → c.1 = l ∧ ∀ u v, Dn E w K x u v → labS V m l u = labS V m l v
  yes : c.2 = true → sumZ (labS V m c.1) m < sumZ (labS V m l) m
theorem Rd.to {V : Nat → Int} {E : Nat → Nat → Prop} {w m : Nat} {l : List Int} {K x K' x' : Nat} {c : List Int × Bool} (h : Rd V E w m l K x c) (hd : ∀ u v, Dn E w K' x' u v → Dn E w K x u v) : Rd V E w m l K' x' c :=
  ⟨h.lb, fun e => ⟨(h.no e).1, fun u v k => (h.no e).2 u v (hd u v k)⟩, h.yes⟩
theorem labels_v {n : Nat} (hn : 4999 < n) {f : api_Field} (hf : OkF f) (h64 : f.V.length ≤ 64) {step : Int} :
    Ok (fiduciallaw46_labels n f step) fun l => Lb (vF f) (Es (vF f) step (wN f) f.V.length) f.V.length l ∧ ∀ u v, Es (vF f) step (wN f) f.V.length u v → labS (vF f) f.V.length l u = labS (vF f) f.V.length l v := by
  have hW := wN_eq hf
  have hWp := wN_pos hf
  have hw64 := hf.w
  have hh64 := hf.h
  obtain ⟨h, hh⟩ : ∃ h : Nat, (h : Int) = f.Height := ⟨f.Height.toNat, by omega⟩
  have hmw : f.V.length = h * wN f := by
    have := rows hf
    rw [this, ← hh, Int.toNat_natCast, Nat.mul_comm]
  have hval := hf.v
  unfold fiduciallaw46_labels
  generalize hm : f.V.length = m at *
  generalize wN f = w at *
  have hs := es_symm (vF f) step w m
  have hEd : ∀ q v, Es (vF f) step w m q v ↔ q < m ∧ v < m ∧ nr (vF f) step q v ∧ ∃ x, x < 4 ∧ Tx w x q v := fun q v => Iff.rfl
  generalize Es (vF f) step w m = E at *
  have hVv : ∀ u, f.V.getD u default = vF f u := fun u => rfl
  refine Ok.gd (decide_eq_true (by omega)) (Ok.gd (decide_eq_true (by omega)) (Ok.gd (decide_eq_true (by omega)) ?_))
  refine Ok.bd (R := fun l => l.length = m ∧ ∀ j, j < m → l.getD j default = if vF f j < 0 then -1 else (j : Int)) ?_ ?_
  · refine ok_rangeR (len := m) (fun k (l : List Int) => l.length = m ∧ ∀ j, j < k → l.getD j default = if vF f j < 0 then -1 else (j : Int)) (by omega) (by omega) ⟨by simp, fun j hj => by omega⟩ ?_ ?_
    · rintro again k l hk ⟨hl, hv⟩ ih
      dsimp only
      refine Ok.cd (fun _ => ?_) (fun h => by have := of_decide_eq_false h; simp at this; omega)
      refine Ok.gd (by rw [inR_nat, hl]; exact decide_eq_true hk) (Ok.gd (by rw [inR_nat]; exact decide_eq_true hk) ?_)
      rw [gt_nat, hVv, Int.toNat_natCast]
      refine Ok.cd (fun h1 => ?_) (fun h1 => ?_)
      · have h1 := of_decide_eq_true h1
        refine ih _ ⟨by simpa using hl, fun j hj => ?_⟩
        rw [getD_set (by simp; omega), getD_set (by omega)]
        by_cases hjk : j = k
        · subst hjk; rw [if_pos rfl, if_pos h1]
        · rw [if_neg hjk, if_neg hjk]; exact hv j (by omega)
      · have h1 := of_decide_eq_false h1
        refine ih _ ⟨by simpa using hl, fun j hj => ?_⟩
        rw [getD_set (by omega)]
        by_cases hjk : j = k
        · subst hjk; rw [if_pos rfl, if_neg h1]
        · rw [if_neg hjk]; exact hv j (by omega)
    · rintro again l h
      dsimp only
      exact Ok.cd (fun h => by have := of_decide_eq_true h; simp at this) (fun _ => ok_some.2 h)
  rintro l0 ⟨hl0, hv0⟩
  have lab0 : ∀ u, labS (vF f) m l0 u = (u : Int) := fun u => by
    unfold labS; split
    · rename_i hu; rw [hv0 u hu.1, if_neg (by omega)]
    · rfl
  have lb0 : Lb (vF f) E m l0 := ⟨hl0, fun u hu hv => by rw [hv0 u hu, if_pos hv], fun u => ⟨u, lab0 u, .refl u, Nat.le_refl _⟩⟩
  have hnn : ∀ l, Lb (vF f) E m l → 0 ≤ sumZ (labS (vF f) m l) m := by
    intro l hl
    have := sumZ_le (f := fun _ => 0) (g := labS (vF f) m l) (k := m) (fun j _ => by obtain ⟨i, hi, _⟩ := hl.lg j; show (0 : Int) ≤ _; omega)
    have z : ∀ k, sumZ (fun _ => (0 : Int)) k = 0 := by intro k; induction k with | zero => rfl | succ k ih => simp [sumZ, ih]
    rw [z] at this; exact this
  refine Ok.bd (R := fun l => Lb (vF f) E m l ∧ ∀ u v, E u v → labS (vF f) m l u = labS (vF f) m l v) ?_ (fun l hl => ok_some.2 hl)
  refine ok_loop (fun s : List Int × Bool => Lb (vF f) E m s.1 ∧ (s.2 = false → ∀ u v, E u v → labS (vF f) m s.1 u = labS (vF f) m s.1 v)) (fun s => if s.2 = true then (sumZ (labS (vF f) m s.1) m).toNat + 1 else 0) ?_ n _ ⟨lb0, fun h => by cases h⟩ ?_
  rotate_left
  · dsimp only
    rw [if_pos rfl]
    have := (sumZ_bound (f := labS (vF f) m l0) (B := 64) (k := m) (fun j hj => by rw [lab0]; omega)).2
    have : ((m : Nat) : Int) * 64 ≤ 64 * 64 := by omega
    omega
  rintro again ⟨l, c⟩ ⟨hlb, hcf⟩ ih
  dsimp only at hlb hcf ih ⊢
  refine Ok.cd (fun hc => ?_) (fun hc => ok_some.2 ⟨hlb, hcf hc⟩)
  subst hc
  refine Ok.bd (R := fun c => Rd (vF f) E w m l m 0 c) ?_ ?_
  rotate_left
  · rintro ⟨l', c'⟩ hr
    dsimp only
    refine ih (l', c') ⟨hr.lb, fun h => ?_⟩ ?_
    · obtain ⟨e, hd⟩ := hr.no h
      dsimp only at e
      subst e
      dsimp only
      have key : ∀ u v, E u v → (v = u + 1 ∧ v % w ≠ 0 ∨ v = u + w) → labS (vF f) m l' u = labS (vF f) m l' v := fun u v he h => hd u v ⟨he, .inl ⟨((hEd u v).1 he).1, h⟩⟩
      intro u v he
      obtain ⟨e1, e2, e3, x, hx, e4⟩ := (hEd u v).1 he
      rcases (show x = 0 ∨ x = 1 ∨ x = 2 ∨ x = 3 by omega) with rfl | rfl | rfl | rfl
      · exact (key v u (hs u v he) (.inl e4)).symm
      · exact key u v he (.inl e4)
      · exact (key v u (hs u v he) (.inr e4)).symm
      · exact key u v he (.inr e4)
    · dsimp only
      rw [if_pos rfl]
      cases c' with
      | false => rw [if_neg (by simp)]; omega
      | true =>
        have := hr.yes rfl
        have := hnn l' hr.lb
        dsimp only at *
        rw [if_pos rfl]; omega
  have start : Rd (vF f) E w m l (0 * w) 0 (l, false) := ⟨hlb, fun _ => ⟨rfl, fun u v hd => by
    rcases hd.2 with h | h
    · omega
    · omega⟩, fun h => by cases h⟩
  refine ok_rangeG (γ := List Int × Bool) (len := h) (fun c k => (c.1, c.2, k)) (fun y c => Rd (vF f) E w m l (y * w) 0 c) (by omega) (by omega) (c0 := (l, false)) start ?_ ?_
  rotate_left
  · rintro again2 c hr
    dsimp only at hr ⊢
    rw [← hmw] at hr
    exact Ok.cd (fun h => by have := of_decide_eq_true h; omega) (fun _ => ok_some.2 hr)
  rintro again2 y c hy hr ih2
  dsimp only
  refine Ok.cd (fun _ => ?_) (fun h => by have := of_decide_eq_false h; omega)
  have hyh : (y + 1) * w ≤ h * w := Nat.mul_le_mul_right w hy
  rw [← hmw, Nat.succ_mul] at hyh
  refine Ok.bd (R := fun c => Rd (vF f) E w m l (y * w + w) 0 c) ?_ ?_
  rotate_left
  · rintro ⟨l', c'⟩ hr
    exact ih2 (l', c') (by rw [Nat.succ_mul]; exact hr)
  refine ok_rangeG (γ := List Int × Bool) (len := w) (fun c k => (c.1, c.2, k)) (fun x c => Rd (vF f) E w m l (y * w + x) 0 c) (by omega) (by omega) (c0 := c) hr ?_ ?_
  rotate_left
  · rintro again3 c hr
    dsimp only
    exact Ok.cd (fun h => by have := of_decide_eq_true h; omega) (fun _ => ok_some.2 hr)
  rintro again3 x c3 hx hr3 ih3
  dsimp only
  refine Ok.cd (fun _ => ?_) (fun h => by have := of_decide_eq_false h; omega)
  refine Ok.bd (R := fun c => Rd (vF f) E w m l (y * w + x) 2 c) ?_ ?_
  rotate_left
  · rintro ⟨l', c'⟩ hr
    refine ih3 (l', c') (hr.to fun u v hd => ⟨hd.1, ?_⟩)
    rcases hd.2 with ⟨h1, h2⟩ | ⟨h1, h2⟩
    · by_cases hu : u < y * w + x
      · exact .inl ⟨hu, h2⟩
      · refine .inr ⟨by omega, ?_⟩
        rcases h2 with h2 | h2
        · exact .inl ⟨by omega, h2⟩
        · exact .inr ⟨by omega, h2⟩
    · omega
  refine ok_rangeG (γ := List Int × Bool) (len := 2) (fun c k => (c.1, c.2, k)) (fun d c => Rd (vF f) E w m l (y * w + x) d c) (by omega) (by omega) (c0 := c3) hr3 ?_ ?_
  rotate_left
  · rintro again4 c hr
    dsimp only
    exact Ok.cd (fun h => by have := of_decide_eq_true h; omega) (fun _ => ok_some.2 hr)
  rintro again4 d ⟨l4, c4⟩ hd hr4 ih4
  dsimp only
  refine Ok.cd (fun _ => ?_) (fun h => by have := of_decide_eq_false h; omega)
  obtain ⟨px, py, e0, e1, hp⟩ : ∃ px py : Nat, (gt [A2.mk (wrapF .i64 ((x : Int) + 1)) (y : Int), A2.mk (x : Int) (wrapF .i64 ((y : Int) + 1))] (d : Int)).e0 = (px : Int) ∧ (gt [A2.mk (wrapF .i64 ((x : Int) + 1)) (y : Int), A2.mk (x : Int) (wrapF .i64 ((y : Int) + 1))] (d : Int)).e1 = (py : Int) ∧ ((d = 0 ∧ px = x + 1 ∧ py = y) ∨ (d = 1 ∧ px = x ∧ py = y + 1)) := by
    have g0 : ∀ A B : A2 Int, gt [A, B] ((0 : Nat) : Int) = A := fun _ _ => rfl
    have g1 : ∀ A B : A2 Int, gt [A, B] ((1 : Nat) : Int) = B := fun _ _ => rfl
    rcases (show d = 0 ∨ d = 1 by omega) with rfl | rfl
    · exact ⟨x + 1, y, by rw [g0]; rw [wrap64_in (by omega) (by omega)]; rfl, by rw [g0], .inl ⟨rfl, rfl, rfl⟩⟩
    · exact ⟨x, y + 1, by rw [g1], by rw [g1]; rw [wrap64_in (by omega) (by omega)]; rfl, .inr ⟨rfl, rfl, rfl⟩⟩
  refine Ok.gd (by rw [inR_nat]; exact decide_eq_true hd) ?_
  rw [e0, e1]
  clear e0 e1
  have wr : ∀ a b : Nat, a ≤ 100 → b ≤ 100 → wrapF .i64 ((wrapF .i64 ((a : Int) * f.Width)) + (b : Int)) = ((a * w + b : Nat) : Int) := by
    intro a b ha hb
    have : a * w ≤ 100 * 64 := Nat.mul_le_mul ha (by omega)
    rw [← hW, ← Int.natCast_mul, wrap64_in (n := ((a * w : Nat) : Int)) (by omega) (by omega), wrap64_in (by omega) (by omega)]; rfl
  rw [wr y x (by omega) (by omega), wr py px (by omega) (by omega)]
  have stay : (E (y * w + x) (py * w + px) → (d = 0 → px < w) → c4 = false → labS (vF f) m l (y * w + x) = labS (vF f) m l (py * w + px)) → Ok (again4 (l4, c4, wrapF .i64 ((d : Int) + 1))) (fun c => Rd (vF f) E w m l (y * w + x) 2 c) := by
    intro hst
    refine ih4 (l4, c4) ⟨hr4.lb, fun hc => ⟨(hr4.no hc).1, fun u v hdn => ?_⟩, hr4.yes⟩
    by_cases hold : Dn E w (y * w + x) d u v
    · exact (hr4.no hc).2 u v hold
    · have hu : u = y * w + x := by
        rcases hdn.2 with h | h
        · exact (hold ⟨hdn.1, .inl h⟩).elim
        · exact h.1
      subst hu
      have hv : v = py * w + px ∧ (d = 0 → px < w) := by
        rcases hdn.2 with h | ⟨_, h⟩
        · omega
        · rcases hp with ⟨rfl, rfl, rfl⟩ | ⟨rfl, rfl, rfl⟩
          · rcases h with ⟨_, h1, h2⟩ | h
            · refine ⟨by omega, fun _ => ?_⟩
              apply Classical.byContradiction
              intro hge
              have : x + 1 = w := by omega
              apply h2
              rw [h1, Nat.add_assoc, this, Nat.add_mod_right, Nat.mul_mod_left]
            · omega
          · rcases h with ⟨_, h1, h2⟩ | ⟨_, h⟩
            · exact (hold ⟨hdn.1, .inr ⟨rfl, .inl ⟨by omega, h1, h2⟩⟩⟩).elim
            · exact ⟨by rw [h, Nat.succ_mul]; omega, fun h => by omega⟩
      rw [hv.1]
      exact hst (by rw [← hv.1]; exact hdn.1) hv.2 hc
  refine Ok.cd (fun h1 => ?_) (fun h1 => ?_)
  · have h1 := of_decide_eq_true h1
    refine stay fun _ hpx _ => ?_
    rcases hp with ⟨h, _⟩ | ⟨_, h, _⟩
    · have := hpx h; omega
    · omega
  have h1 := of_decide_eq_false h1
  refine Ok.cd (fun h2 => ?_) (fun h2 => ?_)
  · have h2 := of_decide_eq_true h2
    refine stay fun he _ _ => ?_
    have := ((hEd _ _).1 he).2.1
    have : h * w ≤ py * w := Nat.mul_le_mul_right w (by omega)
    omega
  have h2 := of_decide_eq_false h2
  have hKm : y * w + x < m := by omega
  have hNm : py * w + px < m := by
    have : (py + 1) * w ≤ h * w := Nat.mul_le_mul_right w (by omega)
    rw [← hmw, Nat.succ_mul] at this
    omega
  have hTx : ∃ z, z < 4 ∧ Tx w z (y * w + x) (py * w + px) := by
    rcases hp with ⟨_, rfl, rfl⟩ | ⟨_, rfl, rfl⟩
    · refine ⟨1, by omega, by omega, ?_⟩
      rw [place_mod (by omega)]; omega
    · exact ⟨3, by omega, by show _ = _; rw [Nat.succ_mul]; omega⟩
  have hKN : y * w + x ≤ py * w + px := by
    rcases hp with ⟨_, rfl, rfl⟩ | ⟨_, rfl, rfl⟩
    · omega
    · rw [Nat.succ_mul]; omega
  generalize y * w + x = K at *
  generalize py * w + px = N at *
  have l4l := hr4.lb.len
  dsimp only at l4l
  refine Ok.gd (by rw [inR_nat]; exact decide_eq_true hKm) ?_
  rw [gt_nat, hVv]
  refine Ok.cd (fun h3 => ?_) (fun h3 => stay fun he _ _ => by have := of_decide_eq_false h3; have := ((hEd _ _).1 he).2.2.1.1; omega)
  have h3 := of_decide_eq_true h3
  refine Ok.gd (by rw [inR_nat]; exact decide_eq_true hNm) ?_
  rw [gt_nat, hVv]
  refine Ok.cd (fun h4 => ?_) (fun h4 => stay fun he _ _ => by have := of_decide_eq_false h4; have := ((hEd _ _).1 he).2.2.1.2.1; omega)
  have h4 := of_decide_eq_true h4
  have b1 := hval K (by omega)
  have b2 := hval N (by omega)
  rw [hVv] at b1 b2
  rw [wrap64_in (n := vF f K - vF f N) (by omega) (by omega), wrap64_in (n := vF f N - vF f K) (by omega) (by omega)]
  refine Ok.cd (fun h5 => ?_) (fun h5 => stay fun he _ _ => (of_decide_eq_false h5 (mx_le_iff.2 ((hEd _ _).1 he).2.2.1.2.2)).elim)
  have h5 := mx_le_iff.1 (of_decide_eq_true h5)
  have he : E K N := (hEd K N).2 ⟨hKm, hNm, ⟨h3, h4, h5.1, h5.2⟩, hTx⟩
  refine Ok.gd (by rw [inR_nat, l4l]; exact decide_eq_true hKm) (Ok.gd (by rw [inR_nat, l4l]; exact decide_eq_true hNm) ?_)
  rw [gt_nat, gt_nat]
  refine Ok.cd (fun h6 => ?_) (fun h6 => stay fun _ _ hc => ?_)
  · have h6 : l4.getD K default ≠ l4.getD N default := by simpa using h6
    rw [Int.toNat_natCast, Int.toNat_natCast]
    have hop := labS_op (V := vF f) (m := m) l4l hKm hNm h3 h4 rfl
    have lgn := ((Pr.start hr4.lb.lg).op hs he hKN).lg
    dsimp only at lgn
    have a1 := labS_in (V := vF f) (l := l4) hKm h3
    have a2 := labS_in (V := vF f) (l := l4) hNm h4
    have hle : sumZ (labS (vF f) m l4) m ≤ sumZ (labS (vF f) m l) m := by
      cases c4 with
      | false => rw [show l4 = l from (hr4.no rfl).1]; exact Int.le_refl _
      | true => exact Int.le_of_lt (hr4.yes rfl)
    have hlt : sumZ (op2 (labS (vF f) m l4) K N) m < sumZ (labS (vF f) m l4) m := by
      have hmn := mn_min (labS (vF f) m l4 K) (labS (vF f) m l4 N)
      have pw : ∀ j, j < m → op2 (labS (vF f) m l4) K N j ≤ labS (vF f) m l4 j := by
        intro j _
        unfold op2
        split
        · rename_i hj
          rcases hj with rfl | rfl
          · omega
          · omega
        · exact Int.le_refl _
      rw [a1, a2] at hmn
      by_cases hk : l4.getD K default < l4.getD N default
      · refine sumZ_lt (a := N) pw hNm ?_
        unfold op2; rw [if_pos (.inr rfl), a1, a2]; omega
      · refine sumZ_lt (a := K) pw hKm ?_
        unfold op2; rw [if_pos (.inl rfl), a1, a2]; omega
    refine ih4 (_, true) ⟨⟨by simpa using l4l, fun u hu hv => ?_, by rw [hop]; exact lgn⟩, (fun h => by cases h), fun _ => by dsimp only; rw [hop]; omega⟩
    dsimp only
    rw [getD_set (by simp; omega), getD_set (by omega), if_neg (fun e => by subst e; omega), if_neg (fun e => by subst e; omega)]
    exact hr4.lb.neg u hu hv
  · have h6 : l4.getD K default = l4.getD N default := by simpa using h6
    have e := (hr4.no hc).1
    dsimp only at e
    rw [← e, labS_in hKm h3, labS_in hNm h4, h6]
end Go.L

