import Derived.Test.YtkhmlbchphhokaaGreatFliL46c
set_option linter.all false
namespace Go.L
open Go Go.Eng
def nx (p : Nat → Bool) : Nat → Nat → Nat
 | u, 0 => u
 | u, k + 1 => bif p u then u else nx p (u + 1) k
theorem nx_spec (p : Nat → Bool) : ∀ (k u : Nat), (u ≤ nx p u k ∧ nx p u k ≤ u + k) ∧ (∀ t, u ≤ t → t < nx p u k → p t = false) ∧ (nx p u k < u + k → p (nx p u k) = true)
 | 0, u => ⟨⟨Nat.le_refl _, Nat.le_refl _⟩, fun t h1 h2 => by simp only [nx] at h2; omega, fun h => by simp only [nx] at h; omega⟩
 | k + 1, u => by
  obtain ⟨ih1, ih2, ih3⟩ := nx_spec p k (u + 1)
  unfold nx
  cases hp : p u with
  | true => exact ⟨⟨by simp, by simp⟩, fun t h1 h2 => by simp at h2; omega, fun _ => hp⟩
  | false =>
   simp only [cond_false]
   refine ⟨by omega, fun t h1 h2 => ?_, fun h => ih3 (by omega)⟩
   by_cases ht : t = u
   · rw [ht]; exact hp
   · exact ih2 t (by omega) h2
theorem nx_eq {p : Nat → Bool} {k u b : Nat} (h1 : u ≤ b) (h2 : b ≤ u + k) (h3 : ∀ t, u ≤ t → t < b → p t = false) (h4 : b < u + k → p b = true) : nx p u k = b := by
 obtain ⟨⟨g1, g2⟩, g3, g4⟩ := nx_spec p k u
 rcases Nat.lt_trichotomy (nx p u k) b with h | h | h
 · have e1 := g4 (by omega)
   rw [h3 _ g1 h] at e1; cases e1
 · exact h
 · have e1 := h4 (by omega)
   rw [g3 b h1 h] at e1; cases e1
theorem bst_no {p : Nat → Bool} {m t : Nat} (h1 : bst p m < t) (h2 : t < m) : p t = false := by
 cases h : p t with
 | false => rfl
 | true => have := bst_ge h2 h; omega
theorem bst_eq {p : Nat → Bool} {m : Nat} {a : Int} (h0 : -1 ≤ a) (h1 : a < m) (h2 : ∀ t : Nat, a < t → t < m → p t = false) (h3 : 0 ≤ a → p a.toNat = true) : bst p m = a := by
 have g1 := bst_lt p m
 rcases Int.lt_trichotomy (bst p m) a with h | h | h
 · have e := bst_no (p := p) (m := m) (t := a.toNat) (by omega) (by omega)
   rw [h3 (by omega)] at e; cases e
 · exact h
 · have e := bst_at (p := p) (m := m) (by omega)
   rw [h2 (bst p m).toNat (by omega) (by omega)] at e; cases e
def pK (r : Nat → Int) (u : Nat) : Bool := decide (0 ≤ r u)
def nxt (r : Nat → Int) (w u : Nat) : Nat := nx (pK r) u (w - u)
def lst (r : Nat → Int) (u : Nat) : Int := bst (pK r) u
def fR (r : Nat → Int) (w : Nat) (L : Int) (u : Nat) : Int :=
 if 0 ≤ r u then r u else if lst r u < 0 ∨ nxt r w u ≥ w ∨ (nxt r w u : Int) - lst r u - 1 > L then -1 else mn (r (lst r u).toNat) (r (nxt r w u))
theorem nxt_spec (r : Nat → Int) {w u : Nat} (hu : u < w) : (u ≤ nxt r w u ∧ nxt r w u ≤ w) ∧ (∀ t, u ≤ t → t < nxt r w u → r t < 0) ∧ (nxt r w u < w → 0 ≤ r (nxt r w u)) := by
 obtain ⟨⟨g1, g2⟩, g3, g4⟩ := nx_spec (pK r) (w - u) u
 refine ⟨⟨g1, by unfold nxt; omega⟩, fun t h1 h2 => ?_, fun h => ?_⟩
 · have := g3 t h1 h2
   unfold pK at this; simpa using this
 · exact of_decide_eq_true (g4 (by unfold nxt at h; omega))
theorem lst_spec (r : Nat → Int) (u : Nat) : (-1 ≤ lst r u ∧ lst r u < u) ∧ (∀ t : Nat, lst r u < t → t < u → r t < 0) ∧ (0 ≤ lst r u → 0 ≤ r (lst r u).toNat) := by
 refine ⟨bst_lt _ _, fun t h1 h2 => ?_, fun h => ?_⟩
 · have := bst_no h1 h2
   unfold pK at this; simpa using this
 · exact of_decide_eq_true (bst_at (p := pK r) (m := u) h)
theorem nxt_eq {r : Nat → Int} {w u b : Nat} (hu : u < w) (h1 : u ≤ b) (h2 : b ≤ w) (h3 : ∀ t, u ≤ t → t < b → r t < 0) (h4 : b < w → 0 ≤ r b) : nxt r w u = b :=
 nx_eq h1 (by omega) (fun t p q => by unfold pK; simpa using h3 t p q) (fun h => by unfold pK; simpa using h4 (by omega))
theorem lst_eq {r : Nat → Int} {u : Nat} {a : Int} (h0 : -1 ≤ a) (h1 : a < u) (h2 : ∀ t : Nat, a < t → t < u → r t < 0) (h3 : 0 ≤ a → 0 ≤ r a.toNat) : lst r u = a :=
 bst_eq h0 h1 (fun t p q => by unfold pK; simpa using h2 t p q) (fun h => by unfold pK; simpa using h3 h)
def rowF (f : api_Field) (y u : Nat) : Int := f.V.getD (y * wN f + u) default
def fS (f : api_Field) (L : Int) (y u : Nat) : Int := fR (rowF f y) (wN f) L u
def fillL (f : api_Field) (L : Int) : List Int := (List.range f.V.length).map (fun j => fS f L (j / wN f) (j % wN f))
theorem place_div {w x y : Nat} (hx : x < w) : (y * w + x) / w = y := by
 rw [Nat.add_comm, Nat.add_mul_div_right _ _ (by omega), Nat.div_eq_of_lt hx, Nat.zero_add]
theorem place_inj {w x y x' y' : Nat} (hx : x < w) (hx' : x' < w) (h : y * w + x = y' * w + x') : y = y' ∧ x = x' := by
 have h1 := place_div (y := y) hx; have h2 := place_div (y := y') hx'
 have h3 := place_mod (y := y) hx; have h4 := place_mod (y := y') hx'
 rw [h] at h1 h3
 exact ⟨h1.symm.trans h2, h3.symm.trans h4⟩
def fP (r : Nat → Int) (w : Nat) (L : Int) (k u : Nat) : Int := if nxt r w u < k then fR r w L u else r u
theorem fP_stay {r : Nat → Int} {w k u : Nat} {L : Int} (hu : u < w) (hk : k < w) (h : r k < 0) : fP r w L (k + 1) u = fP r w L k u := by
 unfold fP
 have hs := nxt_spec r hu
 by_cases h1 : nxt r w u < k
 · rw [if_pos h1, if_pos (by omega)]
 · rw [if_neg h1, if_neg]
   intro h2
   have e : nxt r w u = k := by omega
   have := hs.2.2 (by omega)
   rw [e] at this; omega
theorem fP_go {r : Nat → Int} {w k u : Nat} {L : Int} (hr1 : ∀ t, t < w → -1 ≤ r t) (hu : u < w) (hk : k < w) (h : 0 ≤ r k) :
  fP r w L (k + 1) u = if lst r k < u ∧ u < k ∧ 0 ≤ lst r k ∧ (k : Int) - lst r k - 1 ≤ L then mn (r (lst r k).toNat) (r k) else fP r w L k u := by
 have hs := nxt_spec r hu
 have hl := lst_spec r k
 by_cases hin : lst r k < u ∧ u < k
 · have e : nxt r w u = k := nxt_eq hu (by omega) (by omega) (fun t p q => hl.2.1 t (by omega) q) (fun _ => h)
   have e2 : lst r u = lst r k := lst_eq hl.1.1 (by omega) (fun t p q => hl.2.1 t p (by omega)) hl.2.2
   have hru := hl.2.1 u hin.1 hin.2
   have hm1 := hr1 u hu
   unfold fP
   rw [if_pos (show nxt r w u < k + 1 by omega), if_neg (show ¬ nxt r w u < k by omega)]
   unfold fR
   rw [if_neg (by omega), e, e2]
   by_cases hc : 0 ≤ lst r k ∧ (k : Int) - lst r k - 1 ≤ L
   · rw [if_neg (by omega), if_pos ⟨hin.1, hin.2, hc.1, hc.2⟩]
   · rw [if_pos (by omega), if_neg (by omega)]; omega
 · rw [if_neg (by omega)]
   unfold fP
   by_cases h1 : nxt r w u < k
   · rw [if_pos h1, if_pos (by omega)]
   · rw [if_neg h1]
     split
     · have e : nxt r w u = k := by omega
       have hku : k = u := by
        apply Classical.byContradiction; intro hne
        have : (u : Int) ≤ lst r k := by omega
        have h2 := hl.2.2 (by omega)
        have := hs.2.1 (lst r k).toNat (by omega) (by omega)
        omega
       subst hku
       unfold fR; rw [if_pos h]
     · rfl
theorem lst_succ {r : Nat → Int} {k : Nat} : lst r (k + 1) = if 0 ≤ r k then (k : Int) else lst r k := by
 unfold lst
 rw [bst]
 unfold pK
 by_cases h : 0 ≤ r k
 · rw [if_pos h, decide_eq_true h]; rfl
 · rw [if_neg h, decide_eq_false h]; rfl
theorem fP_known {r : Nat → Int} {w k u : Nat} {L : Int} (h : 0 ≤ r u) : fP r w L k u = r u := by
 unfold fP; split
 · unfold fR; rw [if_pos h]
 · rfl
theorem fP_end {r : Nat → Int} {w u : Nat} {L : Int} (hr1 : ∀ t, t < w → -1 ≤ r t) (hu : u < w) : fP r w L w u = fR r w L u := by
 have hs := nxt_spec r hu
 unfold fP
 split
 · rfl
 · rename_i h
   by_cases hk : 0 ≤ r u
   · unfold fR; rw [if_pos hk]
   · unfold fR
     rw [if_neg hk, if_pos (.inr (.inl (by omega)))]
     have := hr1 u hu; omega
theorem clone_v {n : Nat} {s : List Int} (h : s.length ≤ 5000) : slices_Clone_int_int_w n s = some s := by
 unfold slices_Clone_int_int_w
 have h1 : decide ((0 + s.length) * 8 ≤ 140737488355328) = true := by simp; omega
 have h2 : decide (0 + s.length ≤ 4611686018427387904) = true := by simp; omega
 rw [h1, h2]; rfl
def mid (f : api_Field) (L : Int) (Y : Nat) (q : Nat → Int) (F : List Int) : Prop := F.length = f.V.length ∧ ∀ y u, y < f.Height.toNat → u < wN f → F.getD (y * wN f + u) default = if y < Y then fS f L y u else if y = Y then q u else rowF f y u
theorem w64_nat' {k : Nat} (h : k ≤ 4000000000) : wrapF .i64 ((k : Int) + 1) = ((k + 1 : Nat) : Int) := by rw [wrap64_in (by omega) (by omega)]; omega
theorem row_wraps {f : api_Field} (hf : OkF f) {y : Nat} (hy : y < f.Height.toNat) : y * wN f + wN f ≤ f.V.length ∧ wrapF .i64 ((y : Int) * f.Width) = ((y * wN f : Nat) : Int) ∧ wrapF .i64 ((wrapF .i64 ((y : Int) + 1)) * f.Width) = ((y * wN f + wN f : Nat) : Int) := by
 have ha := area46 hf.w hf.h
 have hlen := hf.len
 have hw := wN_eq hf
 have hh := hf.h
 have hyh : y * wN f + wN f ≤ f.V.length := by
  rw [rows hf, Nat.mul_comm (wN f), ← Nat.succ_mul]; exact Nat.mul_le_mul_right _ hy
 have e1 : (y : Int) * f.Width = ((y * wN f : Nat) : Int) := by rw [← hw]; exact (Int.natCast_mul _ _).symm
 have e2 : ((y : Int) + 1) * f.Width = ((y * wN f + wN f : Nat) : Int) := by rw [Int.add_mul, e1, Int.one_mul, ← hw]; omega
 refine ⟨hyh, ?_, ?_⟩
 · rw [e1, wrap64_in (by omega) (by omega)]
 · rw [wrap64_in (n := (y : Int) + 1) (by omega) (by omega), e2, wrap64_in (by omega) (by omega)]
theorem row_nats {a b m : Nat} (h : a + b ≤ m) : (((a : Nat) : Int)).toNat = a ∧ (((a + b : Nat) : Int)).toNat = a + b ∧ a + b - a = b ∧ inS (a : Int) ((a + b : Nat) : Int) m = true := by
 refine ⟨by omega, by omega, by omega, ?_⟩
 rw [inS_iff]; omega
theorem fill_ok {n : Nat} (hn : 4096 < n) {f : api_Field} (hf : OkF f) {L : Int} (hL : 0 ≤ L) : depth_Fill n f L = some (api_Field.mk f.Width f.Height (fillL f L), 0) := by
 have ha := area46 hf.w hf.h
 have hlen := hf.len
 have hw := wN_eq hf
 have hH : ((f.Height.toNat : Nat) : Int) = f.Height := by have := hf.h; omega
 have hw64 := hf.w; have hh64 := hf.h
 have hwp := wN_pos hf
 have hrows := rows hf
 have hr1 : ∀ y u, y < f.Height.toNat → u < wN f → -1 ≤ rowF f y u ∧ rowF f y u ≤ 1048576 := fun y u hy hu => hf.v _ (place hf hu hy)
 apply Ok.eq
 unfold depth_Fill
 refine Ok.bde (check_v (by omega) (by omega)) ?_
 rw [okF_iff.2 hf]
 refine Ok.cd (fun h => by cases h) (fun _ => Ok.cd (fun h => absurd (of_decide_eq_true h) (by omega)) (fun _ => Ok.bde (clone_v (by omega)) ?_))
 refine Ok.bd (R := fun o => o = fillL f L) ?_ (fun o h => ok_some.2 (by rw [h]))
 refine ok_rangeR (len := f.Height.toNat) (fun y F => mid f L y (rowF f y) F) (by omega) (by omega) ⟨rfl, fun y u hy hu => by
  rw [if_neg (by omega)]
  split
  · rename_i h; subst h; rfl
  · rfl⟩ ?_ ?_
 · rintro again y F hy ⟨hFl, hF⟩ ih
   obtain ⟨hyh, e1, e2⟩ := row_wraps hf hy
   have hrow := hr1 y
   refine Ok.cd (fun hq0 => ?_) (fun h => by have := of_decide_eq_false h; omega)
   clear hq0
   dsimp only
   rw [e1, e2]
   clear e1 e2
   obtain ⟨t1, t2, t3, t4⟩ := row_nats (a := y * wN f) (b := wN f) (m := F.length) (by omega)
   rw [t1, t2, t3]
   refine Ok.gd t4 ?_
   refine Ok.bd (R := fun F => mid f L y (fR (rowF f y) (wN f) L) F) ?_ ?_
   · refine ok_rangeG (len := wN f) (fun (c : List Int × Int) x => (c.1, c.2, x)) (fun k c => c.2 = lst (rowF f y) k ∧ mid f L y (fP (rowF f y) (wN f) L k) c.1) (by omega) (by omega) (c0 := (F, -1)) ⟨rfl, hFl, fun y' u hy' hu => ?_⟩ ?_ ?_
     · rw [hF y' u hy' hu]
       split
       · rfl
       · split
         · show rowF f y u = fP (rowF f y) (wN f) L 0 u
           unfold fP; rw [if_neg (by omega)]
         · rfl
     · rintro again2 k ⟨G, last⟩ hk ⟨hlast, hGl, hG⟩ ih2
       obtain rfl : last = lst (rowF f y) k := hlast
       simp only at hGl hG
       have hls := lst_spec (rowF f y) k
       have hp := place hf hk hy
       have e3 : ((k : Int)).toNat = k := by omega
       refine Ok.cd (fun _ => ?_) (fun h => by have h2 := of_decide_eq_false h; dsimp only at h2; omega)
       refine Ok.gd (by rw [inR_nat]; simpa using hk) ?_
       dsimp only
       rw [e3]
       refine Ok.gd (by rw [inR_nat]; simp; omega) ?_
       rw [gt_nat]
       have hGk : G.getD (y * wN f + k) default = rowF f y k := by
        rw [hG y k hy hk, if_neg (by omega), if_pos rfl]
        unfold fP
        have := (nxt_spec (rowF f y) hk).1.1
        rw [if_neg (by omega)]
       rw [hGk]
       have hvk := hrow k hy hk
       refine Ok.cd (fun h => ?_) (fun h => ?_)
       · replace h := of_decide_eq_true h
         refine ih2 (G, lst (rowF f y) k) ⟨by rw [lst_succ, if_neg (by omega)], hGl, fun y' u hy' hu => ?_⟩
         rw [hG y' u hy' hu, fP_stay hu hk h]
       · replace h := of_decide_eq_false h
         have hlk : lst (rowF f y) (k + 1) = k := by rw [lst_succ, if_pos (by omega)]
         have stay : ¬ (0 ≤ lst (rowF f y) k ∧ (k : Int) - lst (rowF f y) k - 1 ≤ L) → mid f L y (fP (rowF f y) (wN f) L (k + 1)) G := fun hno => ⟨hGl, fun y' u hy' hu => by
          have e := fP_go (L := L) (fun t ht => (hrow t hy ht).1) hu hk (by omega)
          rw [if_neg (by omega)] at e
          rw [hG y' u hy' hu, e]⟩
         refine Ok.cd (fun h1 => Ok.cd (fun h2 => ?_) (fun h2 => ?_)) (fun h1 => ?_)
         · replace h1 := of_decide_eq_true h1
           replace h2 := of_decide_eq_true h2
           rw [wrap64_in (n := (k : Int) - _) (by omega) (by omega), wrap64_in (by omega) (by omega)] at h2
           obtain ⟨a, hae⟩ : ∃ a : Nat, lst (rowF f y) k = (a : Int) := ⟨(lst (rowF f y) k).toNat, by omega⟩
           rw [hae] at h1 h2 hls ⊢
           have hak : a < k := by omega
           have hva : 0 ≤ rowF f y a := by have := hls.2.2 (by omega); simpa using this
           have eaN : ((a : Int)).toNat = a := by omega
           have w1 : wrapF .i64 ((a : Int) + 1) = ((a + 1 : Nat) : Int) := by rw [wrap64_in (by omega) (by omega)]; omega
           rw [w1]
           clear w1
           have ea : G.getD (y * wN f + a) default = rowF f y a := by
            rw [hG y a hy (by omega), if_neg (by omega), if_pos rfl, fP_known hva]
           refine Ok.bd (R := fun F' => mid f L y (fP (rowF f y) (wN f) L (k + 1)) F') ?_ ?_
           · have key : ∀ (m kk : Nat) (G' : List Int), k - kk < m → a < kk → kk ≤ k → (G'.length = f.V.length ∧ ∀ y' u, y' < f.Height.toNat → u < wN f → G'.getD (y' * wN f + u) default = if y' = y ∧ a < u ∧ u < kk then mn (rowF f y a) (rowF f y k) else G.getD (y' * wN f + u) default) →
               Ok (loopO m (fun again130 (s : List Int × Int) => match s with | (f_121, k_122) => cdO (decide (k_122 < (k : Int))) (gdO (inR (a : Int) (wN f)) (gdO (inR ((y * wN f + ((a : Int)).toNat : Nat) : Int) f_121.length) (gdO (inR k_122 (wN f)) (gdO (inR ((y * wN f + k_122.toNat : Nat) : Int) f_121.length) (again130 (f_121.set (((y * wN f + k_122.toNat : Nat) : Int)).toNat (mn (rowF f y k) (gt f_121 ((y * wN f + ((a : Int)).toNat : Nat) : Int))), wrapF .i64 (k_122 + 1))))))) (some f_121)) (G', (kk : Int)))
                (fun F' => mid f L y (fP (rowF f y) (wN f) L (k + 1)) F') := by
              intro m
              induction m with
              | zero => intro kk G' hm; omega
              | succ m ihm =>
               rintro kk G' hm hak' hkk ⟨hl', hG'⟩
               rw [loop_step]
               refine Ok.cd (fun hlt => ?_) (fun hge => ?_)
               · replace hlt := of_decide_eq_true hlt
                 have ekk : ((kk : Int)).toNat = kk := by omega
                 rw [eaN, ekk]
                 have pa := place hf (x := a) (y := y) (by omega) hy
                 have pk := place hf (x := kk) (y := y) (by omega) hy
                 refine Ok.gd (by rw [inR_nat]; simp; omega) (Ok.gd (by rw [inR_nat]; simp; omega) (Ok.gd (by rw [inR_nat]; simp; omega) (Ok.gd (by rw [inR_nat]; simp; omega) ?_)))
                 rw [gt_nat]
                 have eat : G'.getD (y * wN f + a) default = rowF f y a := by rw [hG' y a hy (by omega), if_neg (by omega), ea]
                 have et : (((y * wN f + kk : Nat) : Int)).toNat = y * wN f + kk := Int.toNat_natCast _
                 have w2 := w64_nat' (k := kk) (by omega)
                 rw [eat, w2, et]
                 clear w2
                 refine ihm (kk + 1) _ (by omega) (by omega) (by omega) ⟨by simp [hl'], fun y' u hy' hu => ?_⟩
                 rw [getD_set (by omega)]
                 by_cases hjk : y' * wN f + u = y * wN f + kk
                 · obtain ⟨rfl, rfl⟩ := place_inj hu (by omega) hjk
                   rw [if_pos rfl, if_pos (by omega), mn_eq, mn_eq]; omega
                 · rw [if_neg hjk, hG' y' u hy' hu]
                   by_cases hc : y' = y ∧ a < u ∧ u < kk
                   · rw [if_pos hc, if_pos (by omega)]
                   · rw [if_neg hc, if_neg]
                     rintro ⟨rfl, h3, h4⟩
                     exact hjk (by rw [show u = kk by omega])
               · replace hge := of_decide_eq_false hge
                 obtain rfl : kk = k := by omega
                 refine ok_some.2 ⟨hl', fun y' u hy' hu => ?_⟩
                 have e := fP_go (r := rowF f y) (L := L) (u := u) (fun t ht => (hrow t hy ht).1) hu hk (by omega)
                 rw [hae] at e
                 rw [hG' y' u hy' hu, hG y' u hy' hu]
                 by_cases hc : y' = y
                 · subst hc
                   by_cases h3 : a < u ∧ u < kk
                   · rw [if_pos ⟨rfl, h3⟩]
                     rw [if_pos (by omega), eaN] at e
                     simp only [Nat.lt_irrefl, if_false, if_true]
                     rw [e]
                   · rw [if_neg (fun h => h3 h.2)]
                     rw [if_neg (by omega)] at e
                     simp only [Nat.lt_irrefl, if_false, if_true]
                     rw [e]
                 · rw [if_neg (fun h => hc h.1), if_neg hc, if_neg hc]
             exact key n (a + 1) G (by omega) (by omega) (by omega) ⟨hGl, fun y' u hy' hu => by rw [if_neg (by omega)]⟩
           · intro F' hF'
             exact ih2 (F', (k : Int)) ⟨hlk.symm, hF'⟩
         · replace h2 := of_decide_eq_false h2
           rw [wrap64_in (n := (k : Int) - _) (by omega) (by omega), wrap64_in (by omega) (by omega)] at h2
           exact ih2 (G, (k : Int)) ⟨hlk.symm, stay (fun h => h2 h.2)⟩
         · replace h1 := of_decide_eq_false h1
           exact ih2 (G, (k : Int)) ⟨hlk.symm, stay (fun h => h1 h.1)⟩
     · rintro again2 ⟨G, last⟩ ⟨hlast, hGl, hG⟩
       refine Ok.cd (fun h => by have h2 := of_decide_eq_true h; dsimp only at h2; omega) (fun _ => ok_some.2 ⟨hGl, fun y' u hy' hu => ?_⟩)
       simp only at hG
       rw [hG y' u hy' hu, fP_end (fun t ht => (hrow t hy ht).1) hu]
   · rintro G ⟨hGl, hG⟩
     refine ih G ⟨hGl, fun y' u hy' hu => ?_⟩
     rw [hG y' u hy' hu]
     by_cases h1 : y' < y
     · rw [if_pos h1, if_pos (by omega)]
     · by_cases h2 : y' = y
       · subst h2; rw [if_neg h1, if_pos rfl, if_pos (by omega)]; rfl
       · rw [if_neg h1, if_neg h2, if_neg (by omega)]
         split
         · rename_i h3; subst h3; rfl
         · rfl
 · rintro again F ⟨hFl, hF⟩
   refine Ok.cd (fun h => by have := of_decide_eq_true h; omega) (fun _ => ok_some.2 ?_)
   refine list_at hFl fun j hj => ?_
   have hm := Nat.mod_lt j hwp
   have hd : j / wN f < f.Height.toNat := Nat.div_lt_of_lt_mul (by rw [← hrows]; exact hj)
   have e := Nat.div_add_mod j (wN f)
   rw [Nat.mul_comm] at e
   have := hF (j / wN f) (j % wN f) hd hm
   rw [e, if_pos hd] at this
   exact this
theorem fill_good {f : api_Field} (hf : OkF f) (L : Int) : OkF (api_Field.mk f.Width f.Height (fillL f L)) := by
 have hwp := wN_pos hf
 refine ⟨hf.w, hf.h, by simp [fillL]; exact hf.len, fun j hj => ?_⟩
 have hj' : j < f.V.length := by simpa [fillL] using hj
 show -1 ≤ (fillL f L).getD j default ∧ (fillL f L).getD j default ≤ 1048576
 unfold fillL
 rw [map_at hj']
 have hm := Nat.mod_lt j hwp
 have hd : j / wN f < f.Height.toNat := Nat.div_lt_of_lt_mul (by rw [← rows hf]; exact hj')
 have hr : ∀ u, u < wN f → -1 ≤ rowF f (j / wN f) u ∧ rowF f (j / wN f) u ≤ 1048576 := fun u hu => hf.v _ (place hf hu hd)
 unfold fS fR
 have h0 := hr _ hm
 have hl := lst_spec (rowF f (j / wN f)) (j % wN f)
 have hx := nxt_spec (rowF f (j / wN f)) hm
 split
 · omega
 · split
   · omega
   · have h1 := hr (lst (rowF f (j / wN f)) (j % wN f)).toNat (by omega)
     have h2 := hr (nxt (rowF f (j / wN f)) (wN f) (j % wN f)) (by omega)
     unfold mn; split <;> omega
end Go.L

