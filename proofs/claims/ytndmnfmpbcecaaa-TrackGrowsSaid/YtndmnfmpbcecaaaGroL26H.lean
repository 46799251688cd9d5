import Derived.Test.YtndmnfmpbcecaaaGroL26G
set_option linter.all false
namespace Go.L
open Go Go.Eng
theorem codeT_ok {l : Tis} : codeT l = 0 ↔ l.length ≤ 256 ∧ ∀ t ∈ l, okT t := by
 unfold codeT
 split
 · exact ⟨fun h => (by cases h), fun h => by omega⟩
 · rw [codeL_ok]; exact ⟨fun h => ⟨by omega, h⟩, fun h => h.2⟩
def has26 (t : api_Tie) (u : Mks) : Bool := decide (t.A ∈ u) || decide (t.B ∈ u)
theorem ordT_more {l : Tis} {t : api_Tie} (hv : ∀ x ∈ l, okT x) (ht : okT t) (hc : ∀ x ∈ l, x.Cost < t.Cost) : ordT (l ++ [t]) = ordT l ++ [t] := by
 obtain ⟨a1, a2, _⟩ := ordT_ok hv
 have hv' : ∀ x ∈ l ++ [t], okT x := fun x hx => by
  rcases List.mem_append.1 hx with h | h
  · exact hv x h
  · simp at h; rw [h]; exact ht
 obtain ⟨b1, b2, _⟩ := ordT_ok hv'
 refine pw_unique b1 ?_ fun x => ?_
 · rw [List.pairwise_append]
   refine ⟨a1, List.pairwise_singleton _ _, fun x hx y hy => ?_⟩
   rw [List.mem_singleton] at hy; subst hy
   have hx := (a2 x).1 hx
   have k := hc x hx
   have o1 := hv x hx
   have r1 := kM_range o1.1
   have r2 := kM_range o1.2.1
   have r3 := kM_range ht.1
   have r4 := kM_range ht.2.1
   unfold kT
   omega
 · rw [b2, List.mem_append, List.mem_append, a2]
theorem cheap_v {n : Nat} {l : Tis} {c c' c'' c''' c4 : Int} (hn : l.length < n) (hl : l.length ≤ 1000000) : slices_ContainsFunc_fiducial_api_Tie_fiducial_api_Tie_of_fiduciallaw26_TrackGrows_1 n l c c' c'' c''' c4 = some (l.any fun t => decide (t.Cost ≥ c4)) := by
 unfold slices_ContainsFunc_fiducial_api_Tie_fiducial_api_Tie_of_fiduciallaw26_TrackGrows_1 slices_IndexFunc_fiducial_api_Tie_fiducial_api_Tie_of_fiduciallaw26_TrackGrows_1
 have := loop_index (p := fun t : api_Tie => decide (t.Cost ≥ c4)) (s := l) (n := n) hn (by omega)
 refine (congrArg (fun o => bdO o fun v1 => some (decide (v1 ≥ 0))) this).trans ?_
 show some (decide (idxB (fun t : api_Tie => decide (t.Cost ≥ c4)) l ≥ 0)) = _
 rw [idxB_ge]
theorem sortM2_v {n : Nat} (hn : 5 < n) {l : Mks} (hl : l.length ≤ 100000) (hv : ∀ m ∈ l, okM m) : slices_SortFunc_fiducial_api_Mark_fiducial_api_Mark_w_of_fiduciallaw26_mark n l = some (isrtC (ltK kM) l) := by
 unfold slices_SortFunc_fiducial_api_Mark_fiducial_api_Mark_w_of_fiduciallaw26_mark
 rw [decide_eq_true (show l.length < 4611686018427387904 by omega)]
 exact sortC_key (κ := kM) (fun x y hx hy => ⟨cM x y, mark26_v hn x y, (cM_key (hv x hx) (hv y hy)).1⟩) (fun x y hx hy h => kM_inj (hv x hx) (hv y hy) h)
theorem sortL_v {n : Nat} (hn : 5 < n) {l : List Mks} (hl : l.length ≤ 100000) (hv : ∀ u ∈ l, ∀ m ∈ u, okM m) (h0 : ∀ u ∈ l, u ≠ []) (hd : ∀ u ∈ l, ∀ w ∈ l, kM (hd26 u) = kM (hd26 w) → u = w) :
  slices_SortFunc_fiducial_api_Mark_fiducial_api_Mark_w_of_fiduciallaw26_TrackGrows_2 n l = some (isrtC (ltK fun u => kM (hd26 u)) l) := by
 unfold slices_SortFunc_fiducial_api_Mark_fiducial_api_Mark_w_of_fiduciallaw26_TrackGrows_2
 rw [decide_eq_true (show l.length < 4611686018427387904 by omega)]
 refine sortC_key (κ := fun u => kM (hd26 u)) (fun x y hx hy => ⟨cM (hd26 x) (hd26 y), ?_, (cM_key (hv x hx _ (hd_mem (h0 x hx))) (hv y hy _ (hd_mem (h0 y hy)))).1⟩) (fun x y hx hy h => hd x hx y hy h)
 have p0 : ∀ u ∈ l, inR 0 u.length = true := fun u hu => by
  have := inR_nat (k := 0) (len := u.length)
  rw [show ((0 : Nat) : Int) = 0 from rfl] at this
  rw [this]
  have := List.length_pos_iff.2 (h0 u hu)
  exact decide_eq_true this
 unfold fiduciallaw26_TrackGrows_2
 rw [p0 x hx, p0 y hy]
 show bdO (fiduciallaw26_mark n (hd26 x) (hd26 y)) _ = _
 rw [mark26_v hn]; rfl
theorem canon_any {E : RelM} {V : api_Mark → Prop} {ts : List Mks} {t : api_Tie} (hC : Canon E V ts) (hm : ∀ m m', E m m' → m = m' ∨ (V m ∧ V m')) (c : clash E t.A t.B) : Canon (stp26 E t) (fun m => V m ∨ m = t.A ∨ m = t.B) ts := by
 refine ⟨hC.two, hC.srt, fun u hu m h => .inl (hC.val u hu m h), fun u hu m h m' h' => .inl (hC.rel u hu m h m' h'), fun m m' v v' hne hr => ?_, hC.ord.imp fun {a b} h => ⟨h.1, fun x hx y hy hr => h.2 x hx y hy ((stp26_stay c _ _).1 hr)⟩⟩
 have hr := (stp26_stay c _ _).1 hr
 rcases hm _ _ hr with e | ⟨v1, v2⟩
 · exact (hne e).elim
 · exact hC.all m m' v1 v2 hne hr
def add1 (J : Mks) (m : api_Mark) : Mks := if m ∈ J then J else J ++ [m]
theorem mem_add1 {J : Mks} {m x : api_Mark} : x ∈ add1 J m ↔ x ∈ J ∨ x = m := by
 unfold add1
 split
 · rename_i h
   exact ⟨.inl, fun k => k.elim id fun k => (by rw [k]; exact h)⟩
 · rw [List.mem_append, List.mem_singleton]
theorem nodup_add1 {J : Mks} {m : api_Mark} (h : J.Nodup) : (add1 J m).Nodup := by
 unfold add1
 split
 · exact h
 · rename_i k
   rw [List.nodup_append]
   exact ⟨h, by simp, fun a ha b hb => by rw [List.mem_singleton] at hb; subst hb; rintro rfl; exact k ha⟩
theorem len_add1 {J : Mks} {m : api_Mark} : (add1 J m).length ≤ J.length + 1 := by
 unfold add1; split <;> simp
theorem nodup_flat : ∀ {L : List Mks}, (∀ u ∈ L, u.Nodup) → L.Pairwise (fun a b => ∀ x ∈ a, x ∉ b) → L.flatten.Nodup
 | [], _, _ => by simp
 | u :: L, h, hp => by
  obtain ⟨p1, p2⟩ := List.pairwise_cons.1 hp
  rw [List.flatten_cons, List.nodup_append]
  refine ⟨h u (by simp), nodup_flat (fun w hw => h w (by simp [hw])) p2, fun a ha b hb e => ?_⟩
  subst e
  obtain ⟨w, hw, k⟩ := List.mem_flatten.1 hb
  exact p1 w hw _ ha k
theorem len_flat : ∀ {L : List Mks} {c : Nat}, (∀ u ∈ L, u.length ≤ c) → L.flatten.length ≤ L.length * c
 | [], _, _ => by simp
 | u :: L, c, h => by
  have h1 := h u (by simp)
  have h2 := len_flat (L := L) (c := c) fun w hw => h w (by simp [hw])
  rw [List.flatten_cons, List.length_append, List.length_cons, Nat.succ_mul]
  omega
theorem grows_v (l : Tis) (more : api_Tie) : fiduciallaw26_TrackGrows 5000 l more = some true := by
 apply Ok.eq
 unfold fiduciallaw26_TrackGrows
 refine Ok.bde rfl (Ok.cd (fun h => by cases h) (fun _ => ?_))
 have hmin : mn (l.length : Int) 30 = ((min l.length 30 : Nat) : Int) := by unfold mn; split <;> omega
 have ep : (l.drop (0 : Int).toNat).take ((mn (l.length : Int) 30).toNat - (0 : Int).toNat) = l.take 30 := by
  rw [hmin]
  show (l.drop 0).take (min l.length 30 - 0) = _
  rw [List.drop_zero, Nat.sub_zero]
  by_cases h : l.length ≤ 30
  · rw [Nat.min_eq_left h, List.take_of_length_le (Nat.le_refl _), List.take_of_length_le h]
  · rw [Nat.min_eq_right (by omega)]
 refine Ok.gd (by rw [hmin]; unfold inS; simp; omega) ?_
 rw [ep]
 have h30 : (l.take 30).length ≤ 30 := by rw [List.length_take]; omega
 refine Ok.bde (cloneT_v (by omega)) (Ok.gd (decide_eq_true (by omega)) (Ok.gd (decide_eq_true (by omega)) ?_))
 refine Ok.cd (fun _ => ok_some.2 rfl) (fun hl => ?_)
 have hl : l.length ≤ 30 := by have := of_decide_eq_false hl; omega
 rw [List.take_of_length_le hl]
 refine Ok.bde (check26_v (by omega)) (Ok.cd (fun _ => ok_some.2 rfl) (fun hc => ?_))
 have hc : codeT (l ++ [more]) = 0 := by simpa using hc
 obtain ⟨_, hv'⟩ := codeT_ok.1 hc
 have hv : ∀ t ∈ l, okT t := fun t ht => hv' t (by simp [ht])
 have hm : okT more := hv' more (by simp)
 refine Ok.bde (cheap_v (by omega) (by omega)) (Ok.cd (fun _ => ok_some.2 rfl) (fun hch => ?_))
 have hch : ∀ x ∈ l, x.Cost < more.Cost := fun x hx => by
  have := (List.any_eq_false.1 hch) x hx
  have : ¬ x.Cost ≥ more.Cost := fun h => this (decide_eq_true h)
  omega
 have hcl : codeT l = 0 := codeT_ok.2 ⟨by omega, hv⟩
 refine Ok.bd (chain_v (by omega) hcl) ?_
 rintro ⟨ts, c1⟩ ⟨e1, hC⟩
 refine Ok.bd (chain_v (by omega) hc) ?_
 rintro ⟨ts', c2⟩ ⟨e2, hC'⟩
 dsimp only at e1 e2 hC hC' ⊢
 subst e1; subst e2
 refine Ok.cd (fun h => by cases h) (fun _ => Ok.cd (fun h => by cases h) (fun _ => ?_))
 have hv2 : ∀ t ∈ ordT l, okT t := fun t ht => hv t (((ordT_ok hv).2.1 t).1 ht)
 have hv2' : ∀ t ∈ ordT (l ++ [more]), okT t := fun t ht => hv' t (((ordT_ok hv').2.1 t).1 ht)
 have hsl := (ordT_ok hv).2.2
 have hsl' := (ordT_ok hv').2.2
 obtain ⟨len1, len2⟩ := canon_len hv2 hC
 obtain ⟨len1', len2'⟩ := canon_len hv2' hC'
 have len2' : ts'.length ≤ 62 := by rw [List.length_append] at hsl'; simp at hsl'; omega
 rw [ordT_more hv hm hch] at hC'
 generalize ordT l = S at *
 have hE := rel26_eqv S
 have hrm : ∀ m m', rel26 S m m' → m = m' ∨ (marks26 S m ∧ marks26 S m') := fun m m' h => rel26_marks h
 have hok : ∀ m, marks26 S m → okM m := fun m h => marks_ok hv2 h
 rw [rel26_snoc] at hC'
 have hV : ∀ m, (marks26 (S ++ [more]) m ↔ (marks26 S m ∨ m = more.A ∨ m = more.B)) := fun m => by
  constructor
  · rintro ⟨t, ht, h⟩
    rcases List.mem_append.1 ht with ht | ht
    · exact .inl ⟨t, ht, h⟩
    · simp at ht; subst ht; exact .inr h
  · rintro (⟨t, ht, h⟩ | h)
    · exact ⟨t, by simp [ht], h⟩
    · exact ⟨more, by simp, h⟩
 have hsy : ∀ {x y}, stp26 (rel26 S) more x y → stp26 (rel26 S) more y x := fun h => (hE.stp more).symm h
 have hes : ∀ {x y}, rel26 S x y → rel26 S y x := fun h => hE.symm h
 refine Ok.bd (same26_two (t := ts') (by omega) (by omega) (fun t ht => by have := len1 t ht; omega)) (fun b hb => ?_)
 refine Ok.cd (fun _ => ok_some.2 rfl) (fun hb0 => ?_)
 have hne : ts ≠ ts' := fun e => by rw [hb.2 e] at hb0; cases hb0
 have nc : ¬ clash (rel26 S) more.A more.B := fun c => hne ((canon_any hC hrm c).unique hC' (fun m => (hV m).symm) (fun _ _ _ _ => Iff.rfl) hsy hsy)
 have disj : ts.Pairwise (fun a b => ∀ x ∈ a, x ∉ b) := hC.ord.imp fun {a b} h x hx hy => h.2 x hx x hy (hE.refl x)
 refine Ok.bd (R := fun o => o = ((ts.filter (has26 more)).flatten, ts.filter fun u => !(has26 more u))) ?_ ?_
 · refine ok_rangeG (len := ts.length) (fun (c : Mks × List Mks) x => (c.1, c.2, x)) (fun k c => c = (((ts.take k).filter (has26 more)).flatten, (ts.take k).filter fun u => !(has26 more u))) (by omega) (by omega) (c0 := ([], [])) (by simp) ?_ ?_
   · rintro again k c hk rfl ih
     dsimp only
     have hkt := gt_in hk
     have hlk := len1 _ hkt
     have htk : ts.take (k + 1) = ts.take k ++ [gt ts (k : Int)] := by rw [List.take_add_one, List.getElem?_eq_getElem hk, gt_nat]; simp [List.getD, List.getElem?_eq_getElem hk]
     have hb1 : ((ts.take k).filter (has26 more)).flatten.length ≤ 3840 := by
      have h1 := len_flat (L := (ts.take k).filter (has26 more)) (c := 64) fun u hu => len1 u (List.mem_of_mem_take (List.mem_filter.1 hu).1)
      have h2 : ((ts.take k).filter (has26 more)).length ≤ 60 := by
       have := List.length_filter_le (has26 more) (ts.take k)
       rw [List.length_take] at this
       omega
      omega
     have hb2 : ((ts.take k).filter fun u => !(has26 more u)).length ≤ 60 := by
      have := List.length_filter_le (fun u => !(has26 more u)) (ts.take k)
      rw [List.length_take] at this
      omega
     refine Ok.cd (fun _ => ?_) (fun h => by have := of_decide_eq_false h; omega)
     refine Ok.gd (by rw [inR_nat]; exact decide_eq_true hk) ?_
     have nx : ∀ c', c' = (((ts.take (k + 1)).filter (has26 more)).flatten, (ts.take (k + 1)).filter fun u => !(has26 more u)) → Ok (again (c'.1, c'.2, wrapF .i64 ((k : Int) + 1))) _ := ih
     rw [htk, List.filter_append, List.filter_append, List.flatten_append] at nx
     refine Ok.bde (containsM_v (by omega) (by omega)) (Ok.cd (fun hA => ?_) (fun hA => ?_))
     · refine Ok.gd (decide_eq_true (by omega)) (Ok.gd (decide_eq_true (by omega)) ?_)
       have e : has26 more (gt ts (k : Int)) = true := by unfold has26; rw [hA]; rfl
       refine nx (_, _) ?_
       simp [List.filter_cons, e]
     · refine Ok.bde (containsM_v (by omega) (by omega)) (Ok.cd (fun hB => ?_) (fun hB => ?_))
       · refine Ok.gd (decide_eq_true (by omega)) (Ok.gd (decide_eq_true (by omega)) ?_)
         have e : has26 more (gt ts (k : Int)) = true := by unfold has26; rw [hB]; simp
         refine nx (_, _) ?_
         simp [List.filter_cons, e]
       · refine Ok.gd (decide_eq_true (by omega)) (Ok.gd (decide_eq_true (by omega)) ?_)
         have e : has26 more (gt ts (k : Int)) = false := by unfold has26; rw [hA, hB]; rfl
         refine nx (_, _) ?_
         simp [List.filter_cons, e]
   · rintro again c rfl
     dsimp only
     refine Ok.cd (fun h => by have := of_decide_eq_true h; omega) (fun _ => ok_some.2 ?_)
     rw [List.take_length]
 · rintro o rfl
   dsimp only
   have hfl : ((ts.filter (has26 more)).flatten).length ≤ 3840 := by
    have h1 := len_flat (L := ts.filter (has26 more)) (c := 64) fun u hu => len1 u (List.mem_filter.1 hu).1
    have := List.length_filter_le (has26 more) ts
    omega
   have hfn : ((ts.filter (has26 more)).flatten).Nodup := nodup_flat (fun u hu => (hC.srt u (List.mem_filter.1 hu).1).imp fun h e => by rw [e] at h; omega) (disj.filter _)
   have hfm : ∀ m, m ∈ (ts.filter (has26 more)).flatten ↔ ∃ u ∈ ts, m ∈ u ∧ (more.A ∈ u ∨ more.B ∈ u) := fun m => by
    rw [List.mem_flatten]
    constructor
    · rintro ⟨u, hu, h⟩
      obtain ⟨g1, g2⟩ := List.mem_filter.1 hu
      exact ⟨u, g1, h, by simpa [has26] using g2⟩
    · rintro ⟨u, hu, h, g⟩
      exact ⟨u, List.mem_filter.2 ⟨hu, by simpa [has26] using g⟩, h⟩
   have hrl : (ts.filter fun u => !(has26 more u)).length ≤ 60 := by
    have := List.length_filter_le (fun u => !(has26 more u)) ts
    omega
   generalize (ts.filter (has26 more)).flatten = F at *
   refine Ok.bd (R := fun o => o = add1 (add1 F more.A) more.B) ?_ ?_
   · refine ok_rangeR (len := 2) (fun k c => (k = 0 → c = F) ∧ (k = 1 → c = add1 F more.A) ∧ (k = 2 → c = add1 (add1 F more.A) more.B)) (by omega) (by omega) ⟨fun _ => rfl, by omega, by omega⟩ ?_ ?_
     · rintro again k c hk ⟨h0, h1, h2⟩ ih
       dsimp only
       have hlen : c.length ≤ 3841 := by
        match k, hk with
        | 0, _ => rw [h0 rfl]; omega
        | 1, _ => rw [h1 rfl]; have := len_add1 (J := F) (m := more.A); omega
       refine Ok.cd (fun _ => ?_) (fun h => by have := of_decide_eq_false h; omega)
       refine Ok.gd (by show inR (k : Int) 2 = true; rw [inR_nat]; exact decide_eq_true hk) ?_
       refine Ok.bde (containsM_v (by omega) (by omega)) ?_
       have nx : Ok (again (add1 c (gt [more.A, more.B] (k : Int)), wrapF .i64 ((k : Int) + 1))) (fun o => o = add1 (add1 F more.A) more.B) := by
        refine ih _ ?_
        match k, hk with
        | 0, _ => rw [h0 rfl]; exact ⟨by omega, fun _ => rfl, by omega⟩
        | 1, _ => rw [h1 rfl]; exact ⟨by omega, by omega, fun _ => rfl⟩
       refine Ok.cd (fun h => ?_) (fun h => ?_)
       · have h : gt [more.A, more.B] (k : Int) ∉ c := by simpa using h
         rw [add1, if_neg h] at nx
         exact Ok.gd (decide_eq_true (by omega)) (Ok.gd (decide_eq_true (by omega)) nx)
       · have h : gt [more.A, more.B] (k : Int) ∈ c := by simpa using h
         rw [add1, if_pos h] at nx
         exact nx
     · rintro again c ⟨h0, h1, h2⟩
       exact Ok.cd (fun h => by have := of_decide_eq_true h; omega) (fun _ => ok_some.2 (h2 rfl))
   · rintro o rfl
     have hJm : ∀ m, m ∈ add1 (add1 F more.A) more.B ↔ (∃ u ∈ ts, m ∈ u ∧ (more.A ∈ u ∨ more.B ∈ u)) ∨ m = more.A ∨ m = more.B := fun m => by
      rw [mem_add1, mem_add1, hfm, or_assoc]
     have hJn : (add1 (add1 F more.A) more.B).Nodup := nodup_add1 (nodup_add1 hfn)
     have hJl : (add1 (add1 F more.A) more.B).length ≤ 3842 := by
      have h1 := len_add1 (J := F) (m := more.A)
      have h2 := len_add1 (J := add1 F more.A) (m := more.B)
      omega
     generalize add1 (add1 F more.A) more.B = J at *
     have hJo : ∀ m ∈ J, okM m := fun m h => by
      rcases (hJm m).1 h with ⟨u, hu, k, _⟩ | k | k
      · exact hok m (hC.val u hu m k)
      · rw [k]; exact hm.1
      · rw [k]; exact hm.2.1
     refine Ok.bde (sortM2_v (by omega) (by omega) hJo) ?_
     refine Ok.gd (decide_eq_true len_isrtC) (Ok.gd (decide_eq_true (by omega)) (Ok.gd (decide_eq_true (by omega)) ?_))
     have hK := canon_join (J := isrtC (ltK kM) J) hE hC hok hm.1 hm.2.1 hm.2.2.2 hrm nc (fun m => by rw [mem_isrtC, hJm]) (pw_isrtC (by
      refine List.Pairwise.imp_of_mem (R := fun a b => a ≠ b) (fun {a b} ha hb h e => h (kM_inj (hJo a ha) (hJo b hb) e)) hJn))
     have heq := hK.unique hC' (fun m => (hV m).symm) (fun _ _ _ _ => Iff.rfl) hsy hsy
     have hfe : (ts.filter fun u => !(has26 more u)) = ts.filter fun u => !(decide (more.A ∈ u) || decide (more.B ∈ u)) := rfl
     rw [hfe]
     have hmem : ∀ u, u ∈ (ts.filter fun u => !(decide (more.A ∈ u) || decide (more.B ∈ u))) ++ [isrtC (ltK kM) J] ↔ u ∈ ts' := fun u => by rw [← heq, mem_isrtC]
     refine Ok.bde (sortL_v (by omega) (by rw [List.length_append, ← hfe]; show _ + 1 ≤ _; omega) (fun u hu m h => ?_) (fun u hu e => ?_) (fun u hu w hw e => ?_)) ?_
     · rcases (hV m).1 (hC'.val u ((hmem u).1 hu) m h) with k | k | k
       · exact hok m k
       · rw [k]; exact hm.1
       · rw [k]; exact hm.2.1
     · have := hC'.two u ((hmem u).1 hu); rw [e] at this; simp at this
     · rcases pw_or hC'.ord ((hmem u).1 hu) ((hmem w).1 hw) with k | k | k
       · exact k
       · have := k.1; omega
       · have := k.1; omega
     · rw [heq]
       refine Ok.gd (decide_eq_true (by rw [← heq, len_isrtC])) ?_
       exact Ok.bde (same26_v (by omega) (by omega) (fun t ht => by have := len1' t ht; omega)) (ok_some.2 rfl)
end Go.L

