import Derived.Test.YtndmnfmpbcecaaaChkL26N
set_option linter.all false
namespace Go.L
open Go Go.Eng
theorem sortM3_v {n : Nat} (hn : 5 < n) {l : Mks} (hl : l.length ≤ 100000) (hv : ∀ m ∈ l, okM m) : slices_SortFunc_fiducial_api_Mark_fiducial_api_Mark_w_of_fiduciallaw26_mark n l = some (isrtC (ltK kM) l) := by
 unfold slices_SortFunc_fiducial_api_Mark_fiducial_api_Mark_w_of_fiduciallaw26_mark
 rw [decide_eq_true (show l.length < 4611686018427387904 by omega)]
 exact sortC_key (κ := kM) (fun x y hx hy => ⟨cM x y, mark26_v hn x y, (cM_key (hv x hx) (hv y hy)).1⟩) (fun x y hx hy h => kM_inj (hv x hx) (hv y hy) h)
theorem sortL3_v {n : Nat} (hn : 5 < n) {l : List Mks} (hl : l.length ≤ 100000) (hv : ∀ u ∈ l, ∀ m ∈ u, okM m) (h0 : ∀ u ∈ l, u ≠ []) (hd : ∀ u ∈ l, ∀ w ∈ l, kM (hd26 u) = kM (hd26 w) → u = w) :
  slices_SortFunc_fiducial_api_Mark_fiducial_api_Mark_w_of_fiduciallaw26_Chained_1 n l = some (isrtC (ltK fun u => kM (hd26 u)) l) := by
 unfold slices_SortFunc_fiducial_api_Mark_fiducial_api_Mark_w_of_fiduciallaw26_Chained_1
 rw [decide_eq_true (show l.length < 4611686018427387904 by omega)]
 refine sortC_key (κ := fun u => kM (hd26 u)) (fun x y hx hy => ⟨cM (hd26 x) (hd26 y), ?_, (cM_key (hv x hx _ (hd_mem (h0 x hx))) (hv y hy _ (hd_mem (h0 y hy)))).1⟩) (fun x y hx hy h => hd x hx y hy h)
 have p0 : ∀ u ∈ l, inR 0 u.length = true := fun u hu => by
  have := inR_nat (k := 0) (len := u.length)
  rw [show ((0 : Nat) : Int) = 0 from rfl] at this
  rw [this]
  have := List.length_pos_iff.2 (h0 u hu)
  exact decide_eq_true this
 unfold fiduciallaw26_Chained_1
 rw [p0 x hx, p0 y hy]
 show bdO (fiduciallaw26_mark n (hd26 x) (hd26 y)) _ = _
 rw [mark26_v hn]; rfl
theorem marks_ord {l : Tis} (hv : ∀ t ∈ l, okT t) (m : api_Mark) : marks26 (ordT l) m ↔ marks26 l m := by
 have h := (ordT_ok hv).2.1
 exact ⟨fun ⟨t, ht, e⟩ => ⟨t, (h t).1 ht, e⟩, fun ⟨t, ht, e⟩ => ⟨t, (h t).2 ht, e⟩⟩
theorem chained2_v {n : Nat} (hn : 1024 < n) {l : Tis} (hl : l.length ≤ 30) (hv : ∀ t ∈ l, okT t) : Ok (fiduciallaw26_Chained n l) (fun o => Canon (rel26 (ordT l)) (marks26 l) o) := by
 unfold fiduciallaw26_Chained
 refine Ok.bd (all_v hn hl hv) ?_
 rintro T ⟨hP, hT, hu⟩
 have hV : ∀ m, marks26 l m → okM m := fun m h => marks_ok hv h
 have hE := rel26_eqv (ordT l)
 have hC := hP.canon hE hV
 refine Ok.bd (R := fun o => o = (T.filter fun u => decide (2 ≤ u.length)).map (isrtC (ltK kM))) ?_ ?_
 · refine ok_rangeG (len := T.length) (fun (c : List Mks × List (Option Mks)) x => (c.1, c.2, x)) (fun k c => c.1 = ((T.take k).filter fun u => decide (2 ≤ u.length)).map (isrtC (ltK kM)) ∧ c.2.length = T.length ∧ ∀ j : Nat, k ≤ j → j < T.length → gt c.2 (j : Int) = some (gt T (j : Int))) (by omega) (by omega) (c0 := ([], T.map some)) ⟨rfl, by simp, fun j _ hj => by rw [gt_nat, gt_nat]; simp [List.getD, List.getElem?_eq_getElem hj]⟩ ?_ ?_
   · rintro again k ⟨out, g⟩ hk ⟨h1, h2, h3⟩ ih
     dsimp only at h1 h2 h3 ⊢
     subst h1
     have hko := h3 k (Nat.le_refl _) hk
     have htT : gt T (k : Int) ∈ T := by rw [gtE hk]; exact List.getElem_mem hk
     have h60 := hu _ htT
     have hlen : (((T.take k).filter fun u => decide (2 ≤ u.length)).map (isrtC (ltK kM))).length ≤ 60 := by
      rw [List.length_map]
      refine Nat.le_trans (List.length_filter_le _ _) ?_
      rw [List.length_take]; omega
     have htk : T.take (k + 1) = T.take k ++ [gt T (k : Int)] := by rw [List.take_add_one, List.getElem?_eq_getElem hk, gtE hk]; rfl
     have keep : ∀ (z : Option Mks) (j : Nat), k + 1 ≤ j → j < T.length → gt (g.set k z) (j : Int) = some (gt T (j : Int)) := fun z j hj hjl => by
      rw [gt_set26 (by omega), if_neg (by omega)]
      exact h3 j (by omega) hjl
     refine Ok.cd (fun _ => ?_) (fun h => by have := of_decide_eq_false h; omega)
     refine Ok.gd (by rw [inR_nat]; exact decide_eq_true (by omega)) (Ok.gd (by rw [hko]; rfl) ?_)
     simp only [hko, Option.getD_some, Int.toNat_natCast]
     refine Ok.cd (fun h => ?_) (fun h => ?_)
     · have h : 2 ≤ (gt T (k : Int)).length := by have := of_decide_eq_true h; omega
       refine Ok.bde (sortM3_v (by omega) (by omega) (fun m hm => hV m (hP.val _ htT m hm))) (Ok.gd (decide_eq_true len_isrtC) (Ok.gd (decide_eq_true (by omega)) (Ok.gd (decide_eq_true (by omega)) ?_)))
       refine ih (_, _) ⟨?_, by rw [List.length_set]; exact h2, keep none⟩
       rw [htk, List.filter_append, List.map_append]
       simp [List.filter_cons, h]
     · have h : ¬ 2 ≤ (gt T (k : Int)).length := by have := of_decide_eq_false h; omega
       refine ih (_, _) ⟨?_, by rw [List.length_set]; exact h2, keep _⟩
       rw [htk, List.filter_append, List.map_append]
       simp [List.filter_cons, h]
   · rintro again ⟨out, g⟩ ⟨h1, h2, h3⟩
     dsimp only at h1 h2 h3 ⊢
     subst h1
     refine Ok.cd (fun h => by have := of_decide_eq_true h; omega) (fun _ => ok_some.2 ?_)
     rw [List.take_length]
 · rintro o rfl
   have hmem : ∀ u, u ∈ (T.filter fun u => decide (2 ≤ u.length)).map (isrtC (ltK kM)) ↔ u ∈ isrtC (ltK fun u => kM (hd26 u)) ((T.filter fun u => decide (2 ≤ u.length)).map (isrtC (ltK kM))) := fun u => mem_isrtC.symm
   refine Ok.bde (sortL3_v (by omega) (by
     rw [List.length_map]
     exact Nat.le_trans (List.length_filter_le _ _) (by omega)) (fun u hu m h => hV m (hC.val u ((hmem u).1 hu) m h)) (fun u hu e => by have := hC.two u ((hmem u).1 hu); rw [e] at this; simp at this) (fun u hu w hw e => ?_)) (Ok.gd (decide_eq_true len_isrtC) (ok_some.2 hC))
   rcases pw_or hC.ord ((hmem u).1 hu) ((hmem w).1 hw) with k | k | k
   · exact k
   · have := k.1; omega
   · have := k.1; omega
end Go.L


set_option linter.all false
namespace Go.L
open Go Go.Eng
theorem few26_v {n : Nat} (l : Tis) : Ok (fiduciallaw26_few n l) (fun b => b = true → l.length ≤ 30 ∨ (256 < l.length ∧ l.length ≤ 300)) := by
 unfold fiduciallaw26_few
 refine Ok.cd (fun h => ok_some.2 fun _ => .inl (by have := of_decide_eq_true h; omega)) (fun _ => ?_)
 exact Ok.cd (fun h => ok_some.2 fun g => .inr ⟨by have := of_decide_eq_true h; omega, by have := of_decide_eq_true g; omega⟩) (fun _ => ok_some.2 fun h => by cases h)
theorem equalT_v {n : Nat} {s t : List Mks} (hn : s.length < n) (hl : s.length ≤ 9223372036854775806) (hm : ∀ t ∈ s, t.length < n ∧ t.length ≤ 9223372036854775806) : Ok (slices_EqualFunc_fiducial_api_Mark_fiducial_api_Mark_fiducial_api_Mark_fiducial_api_Mark_of_track_CheckTracks_1 n s t) (fun b => b = true ↔ s = t) := by
 unfold slices_EqualFunc_fiducial_api_Mark_fiducial_api_Mark_fiducial_api_Mark_fiducial_api_Mark_of_track_CheckTracks_1
 refine Ok.cd (fun h => ok_some.2 ⟨fun e => (by cases e), fun e => (by subst e; simp at h)⟩) (fun h => ?_)
 have he : s.length = t.length := by
  have : (s.length : Int) = (t.length : Int) := by simpa using h
  omega
 refine loop_two (f := track_CheckTracks_1 n) he (fun k hk => ?_) hn hl
 have := hm _ (gt_in hk)
 unfold track_CheckTracks_1
 obtain ⟨b, h1, h2⟩ := marksEq2_v (t := gt t (k : Int)) this.1 this.2
 exact ⟨b, by rw [h1]; rfl, h2⟩
theorem checks_v (l : Tis) (tracks : List Mks) : fiduciallaw26_TrackChecks 5000 l tracks = some true := by
 apply Ok.eq
 unfold fiduciallaw26_TrackChecks
 refine Ok.bde rfl (Ok.cd (fun h => by cases h) (fun _ => ?_))
 refine Ok.bd (few26_v l) (fun b hb => Ok.cd (fun _ => ok_some.2 rfl) (fun hb1 => ?_))
 have hl := hb (by simpa using hb1)
 obtain ⟨b2, e2, hb2⟩ := short_v (n := 5000) (by omega) tracks
 refine Ok.bde e2 (Ok.cd (fun _ => ok_some.2 rfl) (fun hb3 => ?_))
 obtain ⟨t1, t2⟩ := hb2 (by simpa using hb3)
 refine Ok.bde (checked_v (by omega)) ?_
 by_cases hc : codeT l = 0
 · obtain ⟨h256, hv⟩ := codeT_ok.1 hc
   have h30 : l.length ≤ 30 := by omega
   rw [hc]
   refine Ok.cd (fun _ => ?_) (fun h => by cases h)
   refine Ok.bd (chained2_v (by omega) h30 hv) (fun o hO => ?_)
   have hv2 : ∀ t ∈ ordT l, okT t := fun t ht => hv t (((ordT_ok hv).2.1 t).1 ht)
   have hsl := (ordT_ok hv).2.2
   have hsy : ∀ {x y}, rel26 (ordT l) x y → rel26 (ordT l) y x := fun h => (rel26_eqv _).symm h
   have ck : Ok (track_CheckTracks 5000 l tracks) (fun r => (o = tracks → r = 0) ∧ (o ≠ tracks → r = 12)) := by
    unfold track_CheckTracks
    refine Ok.bd (chain_v (by omega) hc) ?_
    rintro ⟨ts, c1⟩ ⟨e1, hC⟩
    dsimp only at e1 hC ⊢
    subst e1
    have et : o = ts := hO.unique hC (fun m => (marks_ord hv m).symm) (fun _ _ _ _ => Iff.rfl) hsy hsy
    subst et
    refine Ok.cd (fun h => by cases h) (fun _ => ?_)
    refine Ok.bd (equalT_v (by omega) (by omega) (fun t ht => by have := t2 t ht; omega)) (fun b hb => ?_)
    refine Ok.cd (fun h => ok_some.2 ⟨fun e => ?_, fun _ => rfl⟩) (fun h => ok_some.2 ⟨fun _ => rfl, fun e => ?_⟩)
    · rw [hb.2 e.symm] at h; cases h
    · exact (e (hb.1 (by simpa using h)).symm).elim
   have hC : Canon (rel26 (ordT l)) (marks26 (ordT l)) o := by
    have e : marks26 (ordT l) = marks26 l := by funext m; exact propext (marks_ord hv m)
    rw [e]; exact hO
   obtain ⟨len1, len2⟩ := canon_len hv2 hC
   refine Ok.bd (same26_two (t := tracks) (by omega) (by omega) (fun t ht => by have := len1 t ht; omega)) (fun b hb => ?_)
   refine Ok.cd (fun h => ?_) (fun h => ?_)
   · have hne : o ≠ tracks := fun e => by rw [hb.2 e] at h; cases h
     exact Ok.bd ck (fun r hr => by rw [hr.2 hne]; exact ok_some.2 rfl)
   · have he : o = tracks := hb.1 (by simpa using h)
     exact Ok.bd ck (fun r hr => by rw [hr.1 he]; exact ok_some.2 rfl)
 · refine Ok.cd (fun h => by simp at h; exact (hc h).elim) (fun _ => ?_)
   have ck : track_CheckTracks 5000 l tracks = some (codeT l) := by
    apply Ok.eq
    unfold track_CheckTracks
    refine Ok.bde (chain_c (by omega) hc) ?_
    exact Ok.cd (fun _ => ok_some.2 rfl) (fun h => by simp at h; exact (hc h).elim)
   exact Ok.bde ck (ok_some.2 (by simp))
end Go.L

