import Derived.Test.YtndmnfmpbcecaaaSouL26w
set_option linter.all false
namespace Go.L
open Go Go.Eng
def eqM (x y : api_Mark) : Bool := (((x.Image : Int) == y.Image) && (((x.Feature : Int) == y.Feature) && true))
theorem eqM_iff {x y : api_Mark} : eqM x y = true ↔ x = y := by
 obtain ⟨a, b⟩ := x
 obtain ⟨c, d⟩ := y
 simp [eqM]
theorem any_eqM {s : Mks} {m : api_Mark} : (s.any fun x => eqM m x) = decide (m ∈ s) := by
 rw [Bool.eq_iff_iff, List.any_eq_true, decide_eq_true_iff]
 constructor
 · rintro ⟨x, hx, e⟩; rw [eqM_iff.1 e]; exact hx
 · intro h; exact ⟨m, h, eqM_iff.2 rfl⟩
theorem containsM_v {n : Nat} {s : Mks} {m : api_Mark} (hn : s.length < n) (hl : s.length ≤ 1000000) : slices_Contains_fiducial_api_Mark_fiducial_api_Mark n s m = some (decide (m ∈ s)) := by
 unfold slices_Contains_fiducial_api_Mark_fiducial_api_Mark slices_Index_fiducial_api_Mark_fiducial_api_Mark
 have := loop_index (p := fun x : api_Mark => eqM m x) (s := s) (n := n) hn (by omega)
 refine (congrArg (fun o => bdO o fun v1 => some (decide (v1 ≥ 0))) this).trans ?_
 show some (decide (idxB (fun x : api_Mark => eqM m x) s ≥ 0)) = _
 rw [idxB_ge, any_eqM]
theorem any_eqT {s : Tis} {m : api_Tie} : (s.any fun x => eqT m x) = decide (m ∈ s) := by
 rw [Bool.eq_iff_iff, List.any_eq_true, decide_eq_true_iff]
 constructor
 · rintro ⟨x, hx, e⟩; rw [eqT_iff.1 e]; exact hx
 · intro h; exact ⟨m, h, eqT_iff.2 rfl⟩
theorem containsT_v {n : Nat} {s : Tis} {m : api_Tie} (hn : s.length < n) (hl : s.length ≤ 1000000) : slices_Contains_fiducial_api_Tie_fiducial_api_Tie n s m = some (decide (m ∈ s)) := by
 unfold slices_Contains_fiducial_api_Tie_fiducial_api_Tie slices_Index_fiducial_api_Tie_fiducial_api_Tie
 have := loop_index (p := fun x : api_Tie => eqT m x) (s := s) (n := n) hn (by omega)
 refine (congrArg (fun o => bdO o fun v1 => some (decide (v1 ≥ 0))) this).trans ?_
 show some (decide (idxB (fun x : api_Tie => eqT m x) s ≥ 0)) = _
 rw [idxB_ge, any_eqT]
theorem foldl_mono {L : Tis} : ∀ {E : RelM} {m m' : api_Mark}, E m m' → (L.foldl stp26 E) m m' := by
 induction L with
 | nil => intro E m m' h; exact h
 | cons t L ih => intro E m m' h; exact ih (.inl h)
theorem rel26_take {S : Tis} (k : Nat) {m m' : api_Mark} (h : rel26 (S.take k) m m') : rel26 S m m' := by
 have e : rel26 S = (S.drop k).foldl stp26 (rel26 (S.take k)) := by
  unfold rel26; rw [← List.foldl_append, List.take_append_drop]
 rw [e]; exact foldl_mono h
theorem rel26_conn {S : Tis} {x K : api_Mark → Prop} (hx : ∀ m m', x m → rel26 S m m' → x m') (hK : ∀ t ∈ S, x t.A → x t.B → (K t.A ↔ K t.B)) : ∀ m m', x m → rel26 S m m' → (K m ↔ K m') := by
 have key : ∀ k, k ≤ S.length → ∀ m m', x m → rel26 (S.take k) m m' → (K m ↔ K m') := by
  intro k
  induction k with
  | zero => intro _ m m' _ h; have : m = m' := h; rw [this]
  | succ k ih =>
   intro hk m m' hm h
   have hk' : k < S.length := by omega
   have ets : S.take (k + 1) = S.take k ++ [S[k]] := by rw [List.take_add_one, List.getElem?_eq_getElem hk']; rfl
   have htS : S[k] ∈ S := List.getElem_mem hk'
   have hq := rel26_eqv (S.take k)
   have hqS := rel26_eqv S
   have up : ∀ a b, rel26 (S.take k) a b → rel26 S a b := fun a b h => rel26_take k h
   have h0 := h
   rw [ets, rel26_snoc] at h
   have joinAB : ¬ clash (rel26 (S.take k)) S[k].A S[k].B → rel26 S S[k].A S[k].B := fun hc => by
    refine rel26_take (k + 1) ?_
    rw [ets, rel26_snoc]
    exact .inr ⟨hc, .inl ⟨hq.refl _, hq.refl _⟩⟩
   rcases h with h | ⟨hc, ⟨g1, g2⟩ | ⟨g1, g2⟩⟩
   · exact ih (by omega) m m' hm h
   · have xA := hx _ _ hm (up _ _ g1)
     have xB := hx _ _ xA (joinAB hc)
     exact (ih (by omega) m _ hm g1).trans ((hK _ htS xA xB).trans (ih (by omega) _ _ xB (hq.symm g2)))
   · have xB := hx _ _ hm (up _ _ g1)
     have xA := hx _ _ xB (hqS.symm (joinAB hc))
     exact (ih (by omega) m _ hm g1).trans ((hK _ htS xA xB).symm.trans (ih (by omega) _ _ xA (hq.symm g2)))
 intro m m' hm h
 exact key S.length (Nat.le_refl _) m m' hm (by rw [List.take_length]; exact h)
def cnt26 (x R : Mks) : Nat := (x.filter fun m => decide (m ∈ R)).length
theorem cnt_le {x R : Mks} : cnt26 x R ≤ x.length := List.length_filter_le _ _
theorem cnt_lt {x R : Mks} {a b : api_Mark} (ha : a ∈ x) (hr : a ∉ R) (hab : a = b ∨ True) : cnt26 x R < cnt26 x (R ++ [a, b]) ∨ False := by
 left
 unfold cnt26
 have mono : ∀ y : Mks, (y.filter fun m => decide (m ∈ R)).length ≤ (y.filter fun m => decide (m ∈ R ++ [a, b])).length := by
  intro y
  induction y with
  | nil => exact Nat.le_refl _
  | cons z y ih =>
   rw [List.filter_cons, List.filter_cons]
   by_cases h : z ∈ R
   · rw [if_pos (decide_eq_true h), if_pos (decide_eq_true (List.mem_append_left _ h))]; simpa using ih
   · rw [if_neg (by simpa using h)]
     split
     · simp only [List.length_cons]; omega
     · exact ih
 obtain ⟨y1, y2, rfl⟩ := List.append_of_mem ha
 rw [List.filter_append, List.filter_append, List.length_append, List.length_append, List.filter_cons, List.filter_cons, if_neg (by simpa using hr), if_pos (decide_eq_true (by simp))]
 have := mono y1
 have := mono y2
 simp only [List.length_cons]; omega
theorem cnt_lt' {x R : Mks} {a b : api_Mark} (hb : b ∈ x) (hr : b ∉ R) : cnt26 x R < cnt26 x (R ++ [a, b]) := by
 have h := (cnt_lt (a := b) (b := a) hb hr (.inr trivial)).resolve_right id
 have e : cnt26 x (R ++ [b, a]) = cnt26 x (R ++ [a, b]) := by
  unfold cnt26
  congr 1
  refine List.filter_congr fun z _ => ?_
  rw [decide_eq_decide]
  simp only [List.mem_append, List.mem_cons, List.not_mem_nil, or_false]
  constructor
  · rintro (h | h | h)
    · exact .inl h
    · exact .inr (.inr h)
    · exact .inr (.inl h)
  · rintro (h | h | h)
    · exact .inl h
    · exact .inr (.inr h)
    · exact .inr (.inl h)
 omega
theorem cnt_all {x R : Mks} (h : x.length ≤ cnt26 x R) : ∀ m ∈ x, m ∈ R := by
 intro m hm
 have e : x.filter (fun m => decide (m ∈ R)) = x := List.filter_eq_self.2 (fun a ha => by
  have hl : (x.filter fun m => decide (m ∈ R)).length = x.length := Nat.le_antisymm cnt_le h
  have := List.length_filter_eq_length_iff.1 hl a ha
  exact this)
 rw [← e, List.mem_filter] at hm
 exact of_decide_eq_true hm.2
theorem reach_v {n : Nat} (hn : 1024 < n) {l : Tis} (hl : l.length ≤ 30) {x : Mks} (hxl : x.length ≤ 100) (hx0 : 0 < x.length)
  (conn : ∀ R : Mks, hd26 x ∈ R → (∀ t ∈ l, t.A ∈ x → t.B ∈ x → (t.A ∈ R ↔ t.B ∈ R)) → ∀ m ∈ x, m ∈ R) :
  Ok (loopO (α := List api_Mark × Int) (β := List api_Mark) n (fun again540 (reached_496, x_497) => (
                      cdO (decide (x_497 < (x.length : Int))) (
                       bdO (loopO (α := List api_Mark × Int) (β := List api_Mark) n (fun again562 (reached_543, x_544) => (
                        cdO (decide (x_544 < (l.length : Int))) (
                         gdO (inR x_544 l.length) (
                         bdO (slices_Contains_fiducial_api_Mark_fiducial_api_Mark n reached_543 (gt l x_544).A) fun v566 => (
                         bdO (slices_Contains_fiducial_api_Mark_fiducial_api_Mark n reached_543 (gt l x_544).B) fun v568 => (
                         cdO (v566 != v568) (
                          bdO (slices_Contains_fiducial_api_Mark_fiducial_api_Mark n x (gt l x_544).A) fun v571 => (
                          cdO v571 (
                           bdO (slices_Contains_fiducial_api_Mark_fiducial_api_Mark n x (gt l x_544).B) fun v574 => (
                           cdO v574 (
                            gdO (decide ((reached_543.length + 2) * 16 ≤ 140737488355328)) (
                            gdO (decide (reached_543.length + 2 ≤ 4611686018427387904)) (
                            again562 (reached_543 ++ [(gt l x_544).A, (gt l x_544).B], wrapF .i64 (x_544 + 1))
                            )
                            )
                           ) (
                            again562 (reached_543, wrapF .i64 (x_544 + 1))
                           )
                           )
                          ) (
                           again562 (reached_543, wrapF .i64 (x_544 + 1))
                          )
                          )
                         ) (
                          again562 (reached_543, wrapF .i64 (x_544 + 1))
                         )
                         )
                         )
                         )
                        ) (
                         some (reached_543)
                        )
                       )) (reached_496, 0)) fun reached_561 => (
                        again540 (reached_561, wrapF .i64 (x_497 + 1))
                       )
                      ) (
                       some (reached_496)
                      )
   )) ([(gt x 0)], 0)) (fun R => (∀ m ∈ x, m ∈ R) ∧ R.length ≤ 300) := by
 have h0 : gt x 0 = hd26 x := by
  have := gt_nat (l := x) (k := 0)
  exact this
 rw [h0]
 have hhd : hd26 x ∈ x := hd_mem (by intro e; rw [e] at hx0; cases hx0)
 refine ok_rangeR (len := x.length) (fun i R => hd26 x ∈ R ∧ R.length ≤ 2 * cnt26 x R ∧ (i + 1 ≤ cnt26 x R ∨ x.length ≤ cnt26 x R)) (by omega) (by omega) ⟨by simp, ?_, ?_⟩ ?_ ?_
 · have : 0 < cnt26 x [hd26 x] := by
    unfold cnt26
    exact List.length_pos_of_mem (List.mem_filter.2 ⟨hhd, by simp⟩)
   simp; omega
 · have : 0 < cnt26 x [hd26 x] := by
    unfold cnt26
    exact List.length_pos_of_mem (List.mem_filter.2 ⟨hhd, by simp⟩)
   omega
 · rintro again i R hi ⟨r1, r2, r3⟩ ih
   refine Ok.cd (fun _ => ?_) (fun h => by have := of_decide_eq_false h; omega)
   refine Ok.bd (R := fun R' => hd26 x ∈ R' ∧ R'.length ≤ 2 * cnt26 x R' ∧ (cnt26 x R < cnt26 x R' ∨ (R' = R ∧ ∀ t ∈ l, t.A ∈ x → t.B ∈ x → (t.A ∈ R ↔ t.B ∈ R)))) ?_ ?_
   · refine ok_rangeR (len := l.length) (fun j R' => hd26 x ∈ R' ∧ R'.length ≤ 2 * cnt26 x R' ∧ (cnt26 x R < cnt26 x R' ∨ (R' = R ∧ ∀ t ∈ l.take j, t.A ∈ x → t.B ∈ x → (t.A ∈ R ↔ t.B ∈ R)))) (by omega) (by omega) ⟨r1, r2, .inr ⟨rfl, by simp⟩⟩ ?_ ?_
     · rintro again2 j R' hj ⟨p1, p2, p3⟩ ih2
       refine Ok.cd (fun _ => ?_) (fun h => by have := of_decide_eq_false h; omega)
       refine Ok.gd (by rw [inR_nat]; exact decide_eq_true hj) ?_
       have et : gt l (j : Int) = l[j] := by rw [gt_nat]; simp [List.getD, List.getElem?_eq_getElem hj]
       have ets : l.take (j + 1) = l.take j ++ [gt l (j : Int)] := by rw [List.take_add_one, List.getElem?_eq_getElem hj, et]; rfl
       rw [ets] at ih2
       have hcl := cnt_le (x := x) (R := R')
       generalize gt l (j : Int) = t at *
       have stay : (t.A ∈ x → t.B ∈ x → (t.A ∈ R' ↔ t.B ∈ R')) → Ok (again2 (R', wrapF .i64 ((j : Int) + 1))) (fun R' => hd26 x ∈ R' ∧ R'.length ≤ 2 * cnt26 x R' ∧ (cnt26 x R < cnt26 x R' ∨ (R' = R ∧ ∀ t ∈ l, t.A ∈ x → t.B ∈ x → (t.A ∈ R ↔ t.B ∈ R)))) := fun hs => by
        refine ih2 _ ⟨p1, p2, ?_⟩
        rcases p3 with p3 | ⟨rfl, p3⟩
        · exact .inl p3
        · refine .inr ⟨rfl, fun s hs' => ?_⟩
          rcases List.mem_append.1 hs' with h | h
          · exact p3 s h
          · simp at h; subst h; exact hs
       refine Ok.bde (containsM_v (by omega) (by omega)) (Ok.bde (containsM_v (by omega) (by omega)) ?_)
       refine Ok.cd (fun hne => ?_) (fun he => ?_)
       · refine Ok.bde (containsM_v (by omega) (by omega)) ?_
         refine Ok.cd (fun hA => ?_) (fun hA => stay fun h => ((of_decide_eq_false hA) h).elim)
         refine Ok.bde (containsM_v (by omega) (by omega)) ?_
         refine Ok.cd (fun hB => ?_) (fun hB => stay fun _ h => ((of_decide_eq_false hB) h).elim)
         have hA := of_decide_eq_true hA
         have hB := of_decide_eq_true hB
         have hgrow : cnt26 x R' < cnt26 x (R' ++ [t.A, t.B]) := by
          by_cases a : t.A ∈ R'
          · refine cnt_lt' hB fun b => ?_
            rw [decide_eq_true a, decide_eq_true b] at hne; cases hne
          · exact (cnt_lt hA a (.inr trivial)).resolve_right id
         refine Ok.gd (decide_eq_true (by omega)) (Ok.gd (decide_eq_true (by omega)) (ih2 _ ⟨by simp [p1], by rw [List.length_append]; show R'.length + 2 ≤ _; omega, .inl ?_⟩))
         rcases p3 with p3 | ⟨rfl, _⟩
         · omega
         · exact hgrow
       · refine stay fun _ _ => ?_
         have : decide (t.A ∈ R') = decide (t.B ∈ R') := by simpa using he
         exact decide_eq_decide.1 this
     · rintro again2 R' hP
       refine Ok.cd (fun h => by have := of_decide_eq_true h; omega) (fun _ => ok_some.2 ?_)
       rwa [List.take_length] at hP
   · rintro R' ⟨p1, p2, p3⟩
     refine ih _ ⟨p1, p2, ?_⟩
     rcases p3 with p3 | ⟨rfl, p3⟩
     · rcases r3 with r3 | r3
       · exact .inl (by omega)
       · exact .inr (by omega)
     · right
       have hall := conn R' p1 p3
       unfold cnt26
       rw [List.filter_eq_self.2 (fun a ha => decide_eq_true (hall a ha))]
       exact Nat.le_refl _
 · rintro again R ⟨r1, r2, r3⟩
   have hcl := cnt_le (x := x) (R := R)
   refine Ok.cd (fun h => by have := of_decide_eq_true h; omega) (fun _ => ok_some.2 ⟨?_, by omega⟩)
   rcases r3 with r3 | r3
   · omega
   · exact cnt_all r3
theorem notIn_v {n : Nat} {s R : Mks} (hs : s.length < n) (hs2 : s.length ≤ 1000) (hR : R.length < n) (hR2 : R.length ≤ 1000) : slices_ContainsFunc_fiducial_api_Mark_fiducial_api_Mark_of_fiduciallaw26_TrackSound_1 n s R = some (s.any fun m => !decide (m ∈ R)) := by
 unfold slices_ContainsFunc_fiducial_api_Mark_fiducial_api_Mark_of_fiduciallaw26_TrackSound_1 slices_IndexFunc_fiducial_api_Mark_fiducial_api_Mark_of_fiduciallaw26_TrackSound_1
 have := loop_indexF (f := fun m => fiduciallaw26_TrackSound_1 n m R) (p := fun m : api_Mark => !decide (m ∈ R)) (s := s) (n := n) (fun m => by
  unfold fiduciallaw26_TrackSound_1
  rw [containsM_v hR (by omega)]; rfl) hs (by omega)
 refine (congrArg (fun o => bdO o fun v1 => some (decide (v1 ≥ 0))) this).trans ?_
 show some (decide (idxB (fun m : api_Mark => !decide (m ∈ R)) s ≥ 0)) = _
 rw [idxB_ge]
structure At26 (ts : List Mks) (at' : List (api_Mark × Int)) (k : Nat) : Prop where
 has : ∀ m, hasM at' m = true ↔ ∃ i, i < k ∧ m ∈ gt ts (i : Int)
 pos : ∀ i m, i < k → m ∈ gt ts (i : Int) → getM 0 at' m = (i : Int)
theorem hasM_put26 {at' : List (api_Mark × Int)} {m : api_Mark} {v : Int} (h : hasM at' m = false) (y : api_Mark) : hasM (putM at' m v) y = true ↔ y = m ∨ hasM at' y = true := by
 rw [putM_new h, hasM_iff, hasM_iff]
 constructor
 · rintro ⟨q, hq, e⟩
   rcases List.mem_append.1 hq with hq | hq
   · exact .inr ⟨q, hq, e⟩
   · simp at hq; subst hq; exact .inl e.symm
 · rintro (rfl | ⟨q, hq, e⟩)
   · exact ⟨(y, v), by simp, rfl⟩
   · exact ⟨q, by simp [hq], e⟩
theorem sound_v (l : Tis) : fiduciallaw26_TrackSound 5000 l = some true := by
 apply Ok.eq
 unfold fiduciallaw26_TrackSound
 refine Ok.bde rfl (Ok.cd (fun h => by cases h) (fun _ => ?_))
 refine Ok.cd (fun _ => ok_some.2 rfl) (fun hl => ?_)
 have hl : l.length ≤ 30 := by have := of_decide_eq_false hl; omega
 refine Ok.bde (check26_v (by omega)) ?_
 refine Ok.cd (fun _ => ok_some.2 rfl) (fun hc => ?_)
 have hc : codeT l = 0 := by simpa using hc
 have hv : ∀ t ∈ l, okT t := by
  unfold codeT at hc
  rw [if_neg (by omega)] at hc
  exact codeL_ok.1 hc
 obtain ⟨s1, s2, s3⟩ := ordT_ok hv
 refine Ok.bd (chain_v (by omega) hc) ?_
 rintro ⟨ts, c1⟩ ⟨e1, hC⟩
 refine Ok.bd (refused_v (by omega) hc) ?_
 rintro ⟨rf, c2⟩ ⟨e2, q1, q2, q3⟩
 dsimp only at e1 e2 hC q1 q2 q3 ⊢
 subst e1; subst e2
 refine Ok.cd (fun h => by cases h) (fun _ => Ok.cd (fun h => by cases h) (fun _ => ?_))
 generalize ordT l = S at *
 have hq := rel26_eqv S
 have hsym : ∀ {x y}, rel26 S x y → rel26 S y x := fun h => hq.symm h
 have hvS : ∀ t ∈ S, okT t := fun t ht => hv t ((s2 t).1 ht)
 have hlen : ∀ t ∈ ts, t.length ≤ 64 := fun t ht => by
  have hr : (t.map fun m => m.Image.toNat).Nodup := by
   refine List.Pairwise.map (R := fun a b => a ∈ t ∧ b ∈ t ∧ kM a < kM b) _ ?_ ?_
   · rintro a b ⟨ha, hb, hab⟩ e
     have oa := marks_ok hvS (hC.val t ht a ha)
     have ob := marks_ok hvS (hC.val t ht b hb)
     have := hq.inj (hC.rel t ht a ha b hb) (by have := oa.1; have := ob.1; omega)
     rw [this] at hab; omega
   · exact (hC.srt t ht).imp_of_mem fun ha hb h => ⟨ha, hb, h⟩
  have := nodup_le hr (b := List.range 64) (fun x hx => by
   obtain ⟨m, hm, rfl⟩ := List.mem_map.1 hx
   have := (marks_ok hvS (hC.val t ht m hm)).1
   exact List.mem_range.2 (by omega))
  simpa using this
 have hts : ts.length ≤ 60 := by
  have hn : (ts.map hd26).Nodup := by
   refine List.Pairwise.map (R := fun a b => kM (hd26 a) < kM (hd26 b)) _ (fun a b h e => by rw [e] at h; omega) (hC.ord.imp fun h => h.1)
  have hsub : ∀ x ∈ ts.map hd26, x ∈ S.map (·.A) ++ S.map (·.B) := fun x hx => by
   obtain ⟨t, ht, rfl⟩ := List.mem_map.1 hx
   have hne : t ≠ [] := by intro e; have := hC.two t ht; rw [e] at this; simp at this
   obtain ⟨y, hy, h | h⟩ := hC.val t ht _ (hd_mem hne)
   · rw [h]; exact List.mem_append_left _ (List.mem_map.2 ⟨y, hy, rfl⟩)
   · rw [h]; exact List.mem_append_right _ (List.mem_map.2 ⟨y, hy, rfl⟩)
  have gen : ∀ {a b : Mks}, a.Nodup → (∀ x ∈ a, x ∈ b) → a.length ≤ b.length := by
   intro a
   induction a with
   | nil => intro b _ _; exact Nat.zero_le _
   | cons x a ih =>
    intro b h hs
    obtain ⟨h1, h2⟩ := List.nodup_cons.1 h
    have hx := hs x (by simp)
    have := ih (b := b.erase x) h2 fun y hy => by
     have hne : y ≠ x := by rintro rfl; exact h1 hy
     exact (List.mem_erase_of_ne hne).2 (hs y (by simp [hy]))
    rw [List.length_erase_of_mem hx] at this
    have := List.length_pos_of_mem hx
    simp only [List.length_cons]; omega
  have := gen hn hsub
  simp at this; omega
 have disj : ∀ i j m, i < ts.length → j < ts.length → m ∈ gt ts (i : Int) → m ∈ gt ts (j : Int) → i = j := fun i j m hi hj h1 h2 => by
  have e := hC.one hsym (gt_in hi) (gt_in hj) h1 h2
  have hn : (ts.map hd26).Nodup := by
   refine List.Pairwise.map (R := fun a b => kM (hd26 a) < kM (hd26 b)) _ (fun a b h e => by rw [e] at h; omega) (hC.ord.imp fun h => h.1)
  have e1 : gt ts (i : Int) = ts[i] := by rw [gt_nat]; simp [List.getD, List.getElem?_eq_getElem hi]
  have e2 : gt ts (j : Int) = ts[j] := by rw [gt_nat]; simp [List.getD, List.getElem?_eq_getElem hj]
  rw [e1, e2] at e
  have : (ts.map hd26)[i]'(by simpa using hi) = (ts.map hd26)[j]'(by simpa using hj) := by simp [e]
  exact (List.getElem_inj hn).1 this
 refine Ok.bd (R := fun o => ∃ at', o = Sum.inl at' ∧ At26 ts at' ts.length) ?_ ?_
 · refine ok_rangeR (len := ts.length) (fun k at' => At26 ts at' k) (by omega) (by omega) ⟨fun m => ⟨fun h => (by cases h), fun ⟨i, hi, _⟩ => (by omega)⟩, fun i m hi => (by omega)⟩ ?_ ?_
   · rintro again k at' hk hA ih
     dsimp only
     have hkt := gt_in hk
     have h2 := hC.two _ hkt
     have h64 := hlen _ hkt
     refine Ok.cd (fun _ => ?_) (fun h => by have := of_decide_eq_false h; omega)
     refine Ok.gd (by rw [inR_nat]; exact decide_eq_true hk) ?_
     refine Ok.cd (fun h => by have := of_decide_eq_true h; omega) (fun _ => ?_)
     have hnx := ih
     have hd := disj
     have hsrt := hC.srt _ hkt
     have hval := hC.val _ hkt
     have hrel := hC.rel _ hkt
     have hclosed : ∀ m m', m ∈ gt ts (k : Int) → rel26 S m m' → m' ∈ gt ts (k : Int) := fun m m' hm hr => by
      by_cases e : m = m'
      · rw [← e]; exact hm
      · have vm := hval m hm
        have vm' : marks26 S m' := by
         have : ∀ L : Tis, ∀ E : RelM, (∀ a b, E a b → a = b ∨ (marks26 S a ∧ marks26 S b)) → (∀ t ∈ L, t ∈ S) → ∀ a b, (L.foldl stp26 E) a b → a = b ∨ (marks26 S a ∧ marks26 S b) := by
          intro L
          induction L with
          | nil => intro E hE _ a b h; exact hE a b h
          | cons t L ih =>
           intro E hE hL a b h
           refine ih _ ?_ (fun s hs => hL s (by simp [hs])) a b h
           have mA : marks26 S t.A := ⟨t, hL t (by simp), .inl rfl⟩
           have mB : marks26 S t.B := ⟨t, hL t (by simp), .inr rfl⟩
           have inM : ∀ a b, E a b → marks26 S b → marks26 S a := fun a b h hb => by
            rcases hE a b h with e | ⟨g, _⟩
            · rw [e]; exact hb
            · exact g
           rintro a b (g | ⟨_, ⟨g1, g2⟩ | ⟨g1, g2⟩⟩)
           · exact hE a b g
           · exact .inr ⟨inM _ _ g1 mA, inM _ _ g2 mB⟩
           · exact .inr ⟨inM _ _ g1 mB, inM _ _ g2 mA⟩
         rcases this S Eq (fun a b h => .inl h) (fun _ h => h) m m' hr with e' | ⟨_, h⟩
         · exact (e e').elim
         · exact h
        obtain ⟨t', k1, k2, k3⟩ := hC.all m m' vm vm' e hr
        rw [hC.one hsym hkt k1 hm k2]; exact k3
     refine Ok.bd (R := fun o => ∃ a', o = Sum.inl a' ∧ At26 ts a' (k + 1)) ?_ ?_
     · refine ok_rangeR (len := (gt ts (k : Int)).length) (fun j a' => (∀ m, hasM a' m = true ↔ (∃ i, i < k ∧ m ∈ gt ts (i : Int)) ∨ m ∈ (gt ts (k : Int)).take j) ∧ (∀ i m, i < k → m ∈ gt ts (i : Int) → getM 0 a' m = (i : Int)) ∧ ∀ m ∈ (gt ts (k : Int)).take j, getM 0 a' m = (k : Int)) (by omega) (by omega) ⟨fun m => by rw [hA.has]; simp, hA.pos, fun m hm => by simp at hm⟩ ?_ ?_
       · rintro again2 j a' hj ⟨p1, p2, p3⟩ ih2
         dsimp only
         refine Ok.cd (fun _ => ?_) (fun h => by have := of_decide_eq_false h; omega)
         refine Ok.gd (by rw [inR_nat]; exact decide_eq_true hj) ?_
         have em : gt (gt ts (k : Int)) (j : Int) = (gt ts (k : Int))[j] := by rw [gt_nat]; simp [List.getD, List.getElem?_eq_getElem hj]
         have hmin : gt (gt ts (k : Int)) (j : Int) ∈ gt ts (k : Int) := by rw [em]; exact List.getElem_mem hj
         have htk : (gt ts (k : Int)).take (j + 1) = (gt ts (k : Int)).take j ++ [gt (gt ts (k : Int)) (j : Int)] := by rw [List.take_add_one, List.getElem?_eq_getElem hj, em]; rfl
         have hbig : ∀ x ∈ (gt ts (k : Int)).take j, kM x < kM (gt (gt ts (k : Int)) (j : Int)) := fun x hx => by
          obtain ⟨i, hi, rfl⟩ := List.getElem_of_mem hx
          rw [List.length_take] at hi
          rw [List.getElem_take, em]
          exact List.pairwise_iff_getElem.1 hsrt i j (by omega) hj (by omega)
         have hnot : hasM a' (gt (gt ts (k : Int)) (j : Int)) = false := by
          cases hh : hasM a' (gt (gt ts (k : Int)) (j : Int)) with
          | false => rfl
          | true =>
           rcases (p1 _).1 hh with ⟨i, hi, h⟩ | h
           · have := disj i k _ (by omega) hk h hmin; omega
           · have := hbig _ h; omega
         refine Ok.cd (fun h => by rw [hnot] at h; cases h) (fun _ => ?_)
         have next : Ok (again2 (putM a' (gt (gt ts (k : Int)) (j : Int)) (k : Int), wrapF .i64 ((j : Int) + 1))) (fun o => ∃ a', o = Sum.inl a' ∧ At26 ts a' (k + 1)) := by
          refine ih2 _ ⟨fun m => ?_, fun i m hi hm => ?_, fun m hm => ?_⟩
          · rw [hasM_put26 hnot, p1, htk, List.mem_append, List.mem_singleton]
            constructor
            · rintro (h | h | h)
              · exact .inr (.inr h)
              · exact .inl h
              · exact .inr (.inl h)
            · rintro (h | h | h)
              · exact .inr (.inl h)
              · exact .inr (.inr h)
              · exact .inl h
          · rw [getM_put, if_neg]
            · exact p2 i m hi hm
            · rintro rfl
              have := disj i k _ (by omega) hk hm hmin; omega
          · rw [getM_put]
            by_cases e : m = gt (gt ts (k : Int)) (j : Int)
            · rw [if_pos e]
            · rw [if_neg e]
              rw [htk] at hm
              rcases List.mem_append.1 hm with hm | hm
              · exact p3 m hm
              · simp at hm; exact (e hm).elim
         refine Ok.cd (fun hj0 => ?_) (fun _ => next)
         have hj0 : 0 < j := by have := of_decide_eq_true hj0; omega
         have ek : ((j : Int) - 1) = ((j - 1 : Nat) : Int) := by omega
         rw [wrap64_in (n := (j : Int) - 1) (by omega) (by omega), ek]
         refine Ok.gd (by rw [inR_nat]; exact decide_eq_true (by omega)) ?_
         refine Ok.cd (fun hge => ?_) (fun _ => next)
         exfalso
         have hge := of_decide_eq_true hge
         have hj1 : j - 1 < (gt ts (k : Int)).length := by omega
         have e1 : gt (gt ts (k : Int)) ((j - 1 : Nat) : Int) = (gt ts (k : Int))[j - 1] := by rw [gt_nat]; simp [List.getD, List.getElem?_eq_getElem hj1]
         have hm1 : gt (gt ts (k : Int)) ((j - 1 : Nat) : Int) ∈ gt ts (k : Int) := by rw [e1]; exact List.getElem_mem hj1
         have hlt : kM (gt (gt ts (k : Int)) ((j - 1 : Nat) : Int)) < kM (gt (gt ts (k : Int)) (j : Int)) := by
          rw [e1, em]; exact List.pairwise_iff_getElem.1 hsrt (j - 1) j hj1 hj (by omega)
         have o1 := marks_ok hvS (hval _ hm1)
         have o2 := marks_ok hvS (hval _ hmin)
         have hne : (gt (gt ts (k : Int)) ((j - 1 : Nat) : Int)).Image ≠ (gt (gt ts (k : Int)) (j : Int)).Image := fun e => by
          have := hq.inj (hrel _ hm1 _ hmin) e
          rw [this] at hlt; omega
         simp only [kM, okM] at hlt o1 o2
         omega
       · rintro again2 a' ⟨p1, p2, p3⟩
         refine Ok.cd (fun h => by have := of_decide_eq_true h; omega) (fun _ => ok_some.2 ⟨a', rfl, fun m => ?_, fun i m hi hm => ?_⟩)
         · rw [p1, List.take_length]
           constructor
           · rintro (⟨i, hi, h⟩ | h)
             · exact ⟨i, by omega, h⟩
             · exact ⟨k, by omega, h⟩
           · rintro ⟨i, hi, h⟩
             by_cases e : i = k
             · subst e; exact .inr h
             · exact .inl ⟨i, by omega, h⟩
         · by_cases e : i = k
           · subst e; exact p3 m (by rw [List.take_length]; exact hm)
           · exact p2 i m (by omega) hm
     · rintro o ⟨a', rfl, hA'⟩
       refine Ok.gd (by have := inR_nat (k := 0) (len := (gt ts (k : Int)).length); rw [show ((0 : Nat) : Int) = 0 from rfl] at this; rw [this]; exact decide_eq_true (by omega)) ?_
       have hhd : hd26 (gt ts (k : Int)) ∈ gt ts (k : Int) := hd_mem (by intro e; rw [e] at h2; simp at h2)
       refine Ok.bd (reach_v (by omega) hl (by omega) (by omega) (fun R hR hcr m hm => ?_)) ?_
       · exact (rel26_conn (x := fun m => m ∈ gt ts (k : Int)) (K := fun m => m ∈ R) hclosed (fun t ht hA hB => hcr t ((s2 t).1 ht) hA hB) _ m hhd (hrel _ hhd m hm)).1 hR
       · rintro R ⟨hall, hRl⟩
         refine Ok.bde (notIn_v (by omega) (by omega) (by omega) (by omega)) ?_
         have : ((gt ts (k : Int)).any fun m => !decide (m ∈ R)) = false := by
          rw [List.any_eq_false]
          intro m hm
          rw [decide_eq_true (hall m hm)]; simp
         rw [this]
         exact Ok.cd (fun h => by cases h) (fun _ => ih _ hA')
   · rintro again at' hA
     exact Ok.cd (fun h => by have := of_decide_eq_true h; omega) (fun _ => ok_some.2 ⟨at', rfl, hA⟩)
 · rintro o ⟨at', rfl, hA⟩
   refine Ok.bd (R := fun o => o = Sum.inl ()) ?_ (by rintro o rfl; exact ok_some.2 rfl)
   refine ok_range (len := l.length) (fun _ => True) (by omega) (by omega) trivial ?_ ?_
   · intro again k hk _ ih
     refine Ok.cd (fun _ => ?_) (fun h => by have := of_decide_eq_false h; omega)
     refine Ok.gd (by rw [inR_nat]; exact decide_eq_true hk) ?_
     have htl : gt l (k : Int) ∈ l := by rw [gt_nat]; simp only [List.getD, List.getElem?_eq_getElem hk, Option.getD_some]; exact List.getElem_mem hk
     have ih := ih trivial
     generalize gt l (k : Int) = t at *
     have htS := (s2 t).2 htl
     refine Ok.bde (containsT_v (by omega) (by omega)) ?_
     have hrf : (t ∈ rf) ↔ ¬ rel26 S t.A t.B := by rw [q2]; exact ⟨fun h => h.2, fun h => ⟨htS, h⟩⟩
     have hneq : t.A ≠ t.B := fun e => by have := (hv t htl).2.2.2; rw [e] at this; omega
     have mA : marks26 S t.A := ⟨t, htS, .inl rfl⟩
     have mB : marks26 S t.B := ⟨t, htS, .inr rfl⟩
     have same : ∀ i j, i < ts.length → j < ts.length → t.A ∈ gt ts (i : Int) → t.B ∈ gt ts (j : Int) → (rel26 S t.A t.B ↔ i = j) := fun i j hi hj h1 h2 => by
      constructor
      · intro hr
        obtain ⟨t', k1, k2, k3⟩ := hC.all _ _ mA mB hneq hr
        have e1 := hC.one hsym k1 (gt_in hi) k2 h1
        rw [e1] at k3
        exact disj i j _ hi hj k3 h2
      · rintro rfl
        exact hC.rel _ (gt_in hi) _ h1 _ h2
     have some' : rel26 S t.A t.B → ∃ i, i < ts.length ∧ t.A ∈ gt ts (i : Int) ∧ t.B ∈ gt ts (i : Int) := fun hr => by
      obtain ⟨t', k1, k2, k3⟩ := hC.all _ _ mA mB hneq hr
      obtain ⟨i, hi, rfl⟩ := List.getElem_of_mem k1
      have e1 : gt ts (i : Int) = ts[i] := by rw [gt_nat]; simp [List.getD, List.getElem?_eq_getElem hi]
      exact ⟨i, hi, by rw [e1]; exact k2, by rw [e1]; exact k3⟩
     have no : (¬ (∃ i, i < ts.length ∧ t.A ∈ gt ts (i : Int)) ∨ ¬ (∃ i, i < ts.length ∧ t.B ∈ gt ts (i : Int))) → (decide (t ∈ rf) == false) = false := fun h => by
      have : ¬ rel26 S t.A t.B := fun hr => by
       obtain ⟨i, hi, h1, h2⟩ := some' hr
       rcases h with h | h
       · exact h ⟨i, hi, h1⟩
       · exact h ⟨i, hi, h2⟩
      rw [decide_eq_true (hrf.2 this)]; rfl
     refine Ok.cd (fun hin => ?_) (fun hin => ?_)
     · refine Ok.cd (fun hon => ?_) (fun hon => ?_)
       · obtain ⟨i, hi, h1⟩ := (hA.has _).1 hin
         obtain ⟨j, hj, h2⟩ := (hA.has _).1 hon
         rw [hA.pos i _ hi h1, hA.pos j _ hj h2]
         have hs := same i j hi hj h1 h2
         have : (decide (t ∈ rf) == (((i : Int) : Int) == (j : Int))) = false := by
          by_cases e : i = j
          · subst e
            rw [decide_eq_false (fun h => (hrf.1 h) (hs.2 rfl))]; simp
          · rw [decide_eq_true (hrf.2 fun h => e (hs.1 h))]
            have : ((i : Int) == (j : Int)) = false := by simpa using fun h : (i : Int) = j => e (by omega)
            rw [this]; rfl
         rw [this]
         exact Ok.cd (fun h => by cases h) (fun _ => ih)
       · rw [no (.inr fun h => by rw [(hA.has _).2 h] at hon; cases hon)]
         exact Ok.cd (fun h => by cases h) (fun _ => ih)
     · rw [no (.inl fun h => by rw [(hA.has _).2 h] at hin; cases hin)]
       exact Ok.cd (fun h => by cases h) (fun _ => ih)
   · intro again _
     exact Ok.cd (fun h => by have := of_decide_eq_true h; omega) (fun _ => ok_some.2 rfl)
end Go.L

