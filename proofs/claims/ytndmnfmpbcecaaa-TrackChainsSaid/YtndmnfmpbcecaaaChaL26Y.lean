import Derived.Test.YtndmnfmpbcecaaaChaL26N
set_option linter.all false
namespace Go.L
open Go Go.Eng
theorem sortM3_v {n : Nat} (hn : 5 < n) {l : Mks} (hl : l.length ≤ 100000) (hv : ∀ m ∈ l, okM m) : slices_SortFunc_fiducial_api_Mark_fiducial_api_Mark_w_of_fiduciallaw26_mark n l = some (isrtC (ltK kM) l) := by
 unfold slices_SortFunc_fiducial_api_Mark_fiducial_api_Mark_w_of_fiduciallaw26_mark
 rw [decide_eq_true (show l.length < 4611686018427387904 by omega)]
 exact sortC_key (κ := kM) (fun x y hx hy => ⟨cM x y, mark26_v hn x y, (cM_key (hv x hx) (hv y hy)).1⟩) (fun x y hx hy h => kM_inj (hv x hx) (hv y hy) h)
theorem sortL3_v {n : Nat} (hn : 5 < n) {l : List Mks} (hl : l.length ≤ 100000) (hv : ∀ u ∈ l, ∀ m ∈ u, okM m) (h0 : ∀ u ∈ l, u ≠ []) (hd : ∀ u ∈ l, ∀ w ∈ l, kM (hd26 u) = kM (hd26 w) → u = w) :
  slices_SortFunc_fiducial_api_Mark_fiducial_api_Mark_w_of_fiduciallaw26_Chained_1 n l = some (isrtC (ltK fun u => kM (hd26 u)) l) := by
 unfold slices_SortFunc_fiducial_api_Mark_fiducial_api_Mark_w_of_fiduciallaw26_Chained_1
 rw [decide_eq_true (show l.length < 4611686018427387904 by omega)]
 refine sortC_key (κ := fun u => kM (hd26 u)) (fun x y hx hy => ⟨cM (hd26 x) (hd26 y), ?_, (cM_key (hv x hx _ (hd_mem (h0 x hx))) (hv y hy _ (hd_mem (h0 y hy)))).1⟩) (fun x y hx hy h => hd x hx y hy h)
 have p0 : ∀ u ∈ l, inR 0 u.length = true := fun u hu => by
  have := inR_nat (k := 0) (len := u.length)
  rw [show ((0 : Nat) : Int) = 0 from rfl] at this
  rw [this]
  have := List.length_pos_iff.2 (h0 u hu)
  exact decide_eq_true this
 unfold fiduciallaw26_Chained_1
 rw [p0 x hx, p0 y hy]
 show bdO (fiduciallaw26_mark n (hd26 x) (hd26 y)) _ = _
 rw [mark26_v hn]; rfl
theorem marks_ord {l : Tis} (hv : ∀ t ∈ l, okT t) (m : api_Mark) : marks26 (ordT l) m ↔ marks26 l m := by
 have h := (ordT_ok hv).2.1
 exact ⟨fun ⟨t, ht, e⟩ => ⟨t, (h t).1 ht, e⟩, fun ⟨t, ht, e⟩ => ⟨t, (h t).2 ht, e⟩⟩
theorem chained2_v {n : Nat} (hn : 1024 < n) {l : Tis} (hl : l.length ≤ 30) (hv : ∀ t ∈ l, okT t) : Ok (fiduciallaw26_Chained n l) (fun o => Canon (rel26 (ordT l)) (marks26 l) o) := by
 unfold fiduciallaw26_Chained
 refine Ok.bd (all_v hn hl hv) ?_
 rintro T ⟨hP, hT, hu⟩
 have hV : ∀ m, marks26 l m → okM m := fun m h => marks_ok hv h
 have hE := rel26_eqv (ordT l)
 have hC := hP.canon hE hV
 refine Ok.bd (R := fun o => o = (T.filter fun u => decide (2 ≤ u.length)).map (isrtC (ltK kM))) ?_ ?_
 · refine ok_rangeG (len := T.length) (fun (c : List Mks × List (Option Mks)) x => (c.1, c.2, x)) (fun k c => c.1 = ((T.take k).filter fun u => decide (2 ≤ u.length)).map (isrtC (ltK kM)) ∧ c.2.length = T.length ∧ ∀ j : Nat, k ≤ j → j < T.length → gt c.2 (j : Int) = some (gt T (j : Int))) (by omega) (by omega) (c0 := ([], T.map some)) ⟨rfl, by simp, fun j _ hj => by rw [gt_nat, gt_nat]; simp [List.getD, List.getElem?_eq_getElem hj]⟩ ?_ ?_
   · rintro again k ⟨out, g⟩ hk ⟨h1, h2, h3⟩ ih
     dsimp only at h1 h2 h3 ⊢
     subst h1
     have hko := h3 k (Nat.le_refl _) hk
     have htT : gt T (k : Int) ∈ T := by rw [gtE hk]; exact List.getElem_mem hk
     have h60 := hu _ htT
     have hlen : (((T.take k).filter fun u => decide (2 ≤ u.length)).map (isrtC (ltK kM))).length ≤ 60 := by
      rw [List.length_map]
      refine Nat.le_trans (List.length_filter_le _ _) ?_
      rw [List.length_take]; omega
     have htk : T.take (k + 1) = T.take k ++ [gt T (k : Int)] := by rw [List.take_add_one, List.getElem?_eq_getElem hk, gtE hk]; rfl
     have keep : ∀ (z : Option Mks) (j : Nat), k + 1 ≤ j → j < T.length → gt (g.set k z) (j : Int) = some (gt T (j : Int)) := fun z j hj hjl => by
      rw [gt_set26 (by omega), if_neg (by omega)]
      exact h3 j (by omega) hjl
     refine Ok.cd (fun _ => ?_) (fun h => by have := of_decide_eq_false h; omega)
     refine Ok.gd (by rw [inR_nat]; exact decide_eq_true (by omega)) (Ok.gd (by rw [hko]; rfl) ?_)
     simp only [hko, Option.getD_some, Int.toNat_natCast]
     refine Ok.cd (fun h => ?_) (fun h => ?_)
     · have h : 2 ≤ (gt T (k : Int)).length := by have := of_decide_eq_true h; omega
       refine Ok.bde (sortM3_v (by omega) (by omega) (fun m hm => hV m (hP.val _ htT m hm))) (Ok.gd (decide_eq_true len_isrtC) (Ok.gd (decide_eq_true (by omega)) (Ok.gd (decide_eq_true (by omega)) ?_)))
       refine ih (_, _) ⟨?_, by rw [List.length_set]; exact h2, keep none⟩
       rw [htk, List.filter_append, List.map_append]
       simp [List.filter_cons, h]
     · have h : ¬ 2 ≤ (gt T (k : Int)).length := by have := of_decide_eq_false h; omega
       refine ih (_, _) ⟨?_, by rw [List.length_set]; exact h2, keep _⟩
       rw [htk, List.filter_append, List.map_append]
       simp [List.filter_cons, h]
   · rintro again ⟨out, g⟩ ⟨h1, h2, h3⟩
     dsimp only at h1 h2 h3 ⊢
     subst h1
     refine Ok.cd (fun h => by have := of_decide_eq_true h; omega) (fun _ => ok_some.2 ?_)
     rw [List.take_length]
 · rintro o rfl
   have hmem : ∀ u, u ∈ (T.filter fun u => decide (2 ≤ u.length)).map (isrtC (ltK kM)) ↔ u ∈ isrtC (ltK fun u => kM (hd26 u)) ((T.filter fun u => decide (2 ≤ u.length)).map (isrtC (ltK kM))) := fun u => mem_isrtC.symm
   refine Ok.bde (sortL3_v (by omega) (by
     rw [List.length_map]
     exact Nat.le_trans (List.length_filter_le _ _) (by omega)) (fun u hu m h => hV m (hC.val u ((hmem u).1 hu) m h)) (fun u hu e => by have := hC.two u ((hmem u).1 hu); rw [e] at this; simp at this) (fun u hu w hw e => ?_)) (Ok.gd (decide_eq_true len_isrtC) (ok_some.2 hC))
   rcases pw_or hC.ord ((hmem u).1 hu) ((hmem w).1 hw) with k | k | k
   · exact k
   · have := k.1; omega
   · have := k.1; omega
end Go.L


set_option linter.all false
namespace Go.L
open Go Go.Eng
theorem all_eq : fiduciallaw26_all = fiduciallaw26_all_w := rfl
theorem refused2_v {n : Nat} (hn : 1024 < n) {l : Tis} (hl : l.length ≤ 30) (hv : ∀ t ∈ l, okT t) : Ok (fiduciallaw26_refused n l) (fun o => o.Pairwise (fun a b => kT a < kT b) ∧ (∀ t, t ∈ o ↔ t ∈ l ∧ ¬ rel26 (ordT l) t.A t.B) ∧ o.length ≤ 30) := by
 unfold fiduciallaw26_refused
 rw [all_eq]
 refine Ok.bd (all_v hn hl hv) ?_
 rintro T ⟨hP, hT, hu⟩
 have hE := rel26_eqv (ordT l)
 have hrm : ∀ m m', rel26 (ordT l) m m' → m = m' ∨ (marks26 l m ∧ marks26 l m') := fun m m' h => by
  rcases rel26_marks h with h | ⟨h1, h2⟩
  · exact .inl h
  · exact .inr ⟨(marks_ord hv _).1 h1, (marks_ord hv _).1 h2⟩
 have hw : ∀ t ∈ l, (whr T t.A = whr T t.B ↔ rel26 (ordT l) t.A t.B) := fun t ht => by
  obtain ⟨i, e1, hi, hA⟩ := hP.at hE (m := t.A) ⟨t, ht, .inl rfl⟩
  obtain ⟨j, e2, hj, hB⟩ := hP.at hE (m := t.B) ⟨t, ht, .inr rfl⟩
  rw [e1, e2]
  constructor
  · intro e
    have : i = j := by omega
    subst this
    exact hP.rel _ (by rw [gtE hi]; exact List.getElem_mem hi) _ hA _ hB
  · intro hr
    have := hP.cls hE hrm hi hA hr
    by_cases e : i = j
    · rw [e]
    · exact (hP.sepI (fun h => hE.symm h) hi hj e this hB (hE.refl _)).elim
 refine Ok.bd (R := fun o => o = l.filter fun t => whr T t.A != whr T t.B) ?_ ?_
 · refine ok_rangeR (len := l.length) (fun k o => o = (l.take k).filter fun t => whr T t.A != whr T t.B) (by omega) (by omega) rfl ?_ ?_
   · rintro again k o hk rfl ih
     dsimp only
     have hlen : ((l.take k).filter fun t => whr T t.A != whr T t.B).length ≤ 30 := by
      have := List.length_filter_le (fun t => whr T t.A != whr T t.B) (l.take k)
      rw [List.length_take] at this
      omega
     have htk : l.take (k + 1) = l.take k ++ [gt l (k : Int)] := by rw [List.take_add_one, List.getElem?_eq_getElem hk, gtE hk]; rfl
     rw [htk, List.filter_append] at ih
     refine Ok.cd (fun _ => ?_) (fun h => by have := of_decide_eq_false h; omega)
     refine Ok.gd (by rw [inR_nat]; exact decide_eq_true hk) ?_
     refine Ok.bde (where_v hn hT hu) (Ok.bde (where_v hn hT hu) ?_)
     refine Ok.cd (fun h => Ok.gd (decide_eq_true (by omega)) (Ok.gd (decide_eq_true (by omega)) (ih _ ?_))) (fun h => ih _ ?_)
     · rw [List.filter_cons, h]; rfl
     · rw [List.filter_cons, h]; simp
   · rintro again o rfl
     refine Ok.cd (fun h => by have := of_decide_eq_true h; omega) (fun _ => ok_some.2 ?_)
     rw [List.take_length]
 · rintro o rfl
   have hlen : (l.filter fun t => whr T t.A != whr T t.B).length ≤ 30 := by
    have := List.length_filter_le (fun t => whr T t.A != whr T t.B) l
    omega
   have hvo : ∀ t ∈ l.filter (fun t => whr T t.A != whr T t.B), okT t := fun t ht => hv t (List.mem_filter.1 ht).1
   have hmem : ∀ t, t ∈ l.filter (fun t => whr T t.A != whr T t.B) ↔ t ∈ l ∧ ¬ rel26 (ordT l) t.A t.B := fun t => by
    rw [List.mem_filter]
    constructor
    · rintro ⟨h1, h2⟩
      exact ⟨h1, fun hr => by rw [(hw t h1).2 hr] at h2; simp at h2⟩
    · rintro ⟨h1, h2⟩
      exact ⟨h1, by simpa using fun e => h2 ((hw t h1).1 e)⟩
   generalize (l.filter fun t => whr T t.A != whr T t.B) = o at *
   refine Ok.bde (sortT2_v (by omega) (by omega) hvo) (Ok.gd (decide_eq_true len_isrtC) ?_)
   refine Ok.bde (compactT_v hn (by rw [len_isrtC]; omega)) (ok_some.2 ?_)
   rw [len_isrtC]
   obtain ⟨a1, a2, a3⟩ := ordT_ok hvo
   exact ⟨a1, fun t => (a2 t).trans (hmem t), Nat.le_trans a3 hlen⟩
theorem tieEq2_v {n : Nat} {s : Tis} (hn : s.length < n) (hl : s.length ≤ 9223372036854775806) : slices_Equal_fiducial_api_Tie_fiducial_api_Tie n s s = some true := by
 unfold slices_Equal_fiducial_api_Tie_fiducial_api_Tie
 rw [show (((s.length : Int) : Int) != (s.length : Int)) = false by simp]
 exact loop_same (f := fun x y => some (eqT x y)) (fun x _ => congrArg some (eqT_iff.2 rfl)) hn hl
theorem few26_v {n : Nat} (l : Tis) : Ok (fiduciallaw26_few n l) (fun b => b = true → l.length ≤ 30 ∨ (256 < l.length ∧ l.length ≤ 300)) := by
 unfold fiduciallaw26_few
 refine Ok.cd (fun h => ok_some.2 fun _ => .inl (by have := of_decide_eq_true h; omega)) (fun _ => ?_)
 exact Ok.cd (fun h => ok_some.2 fun g => .inr ⟨by have := of_decide_eq_true h; omega, by have := of_decide_eq_true g; omega⟩) (fun _ => ok_some.2 fun h => by cases h)
theorem chains_v (l : Tis) : fiduciallaw26_TrackChains 5000 l = some true := by
 apply Ok.eq
 unfold fiduciallaw26_TrackChains
 refine Ok.bde rfl (Ok.cd (fun h => by cases h) (fun _ => ?_))
 refine Ok.bd (few26_v l) (fun b hb => Ok.cd (fun _ => ok_some.2 rfl) (fun hb1 => ?_))
 have hl := hb (by simpa using hb1)
 by_cases hc : codeT l = 0
 · obtain ⟨h256, hv⟩ := codeT_ok.1 hc
   have h30 : l.length ≤ 30 := by omega
   refine Ok.bd (chain_v (by omega) hc) ?_
   rintro ⟨ts, c1⟩ ⟨e1, hC⟩
   refine Ok.bd (refused_v (by omega) hc) ?_
   rintro ⟨rf, c2⟩ ⟨e2, q1, q2, q3⟩
   dsimp only at e1 e2 hC q1 q2 q3 ⊢
   subst e1; subst e2
   refine Ok.bde (checked_v (by omega)) (Ok.bde (check26_v (by omega)) ?_)
   rw [hc]
   refine Ok.cd (fun h => by cases h) (fun _ => Ok.cd (fun h => by cases h) (fun _ => Ok.cd (fun h => by cases h) (fun _ => Ok.cd (fun h => by cases h) (fun _ => ?_))))
   refine Ok.bd (chained2_v (by omega) h30 hv) (fun o hO => ?_)
   have hsy : ∀ {x y}, rel26 (ordT l) x y → rel26 (ordT l) y x := fun h => (rel26_eqv _).symm h
   have et : o = ts := hO.unique hC (fun m => (marks_ord hv m).symm) (fun _ _ _ _ => Iff.rfl) hsy hsy
   subst et
   have hv2 : ∀ t ∈ ordT l, okT t := fun t ht => hv t (((ordT_ok hv).2.1 t).1 ht)
   have hsl := (ordT_ok hv).2.2
   obtain ⟨len1, len2⟩ := canon_len hv2 hC
   refine Ok.bde (same26_v (by omega) (by omega) (fun t ht => by have := len1 t ht; omega)) (Ok.cd (fun _ => ?_) (fun h => by cases h))
   refine Ok.bd (refused2_v (by omega) h30 hv) ?_
   rintro r ⟨r1, r2, r3⟩
   have er : r = rf := pw_unique r1 q1 fun t => by rw [r2, q2, (ordT_ok hv).2.1]
   subst er
   exact Ok.bde (tieEq2_v (by omega) (by omega)) (ok_some.2 rfl)
 · refine Ok.bde (chain_c (by omega) hc) (Ok.bde (refused_c (by omega) hc) (Ok.bde (checked_v (by omega)) (Ok.bde (check26_v (by omega)) ?_)))
   dsimp only
   refine Ok.cd (fun h => by simp at h) (fun _ => Ok.cd (fun h => by simp at h) (fun _ => Ok.cd (fun h => by simp at h) (fun _ => ?_)))
   refine Ok.cd (fun _ => ?_) (fun h => by simp at h; exact (hc h).elim)
   exact Ok.cd (fun _ => ok_some.2 rfl) (fun h => by simp at h)
end Go.L

