import Derived.Test.YtndmnfmpbcecaaaChkL26P
set_option linter.all false
namespace Go.L
open Go Go.Eng
theorem codeT_ok {l : Tis} : codeT l = 0 ↔ l.length ≤ 256 ∧ ∀ t ∈ l, okT t := by
 unfold codeT
 split
 · exact ⟨fun h => (by cases h), fun h => by omega⟩
 · rw [codeL_ok]; exact ⟨fun h => ⟨by omega, h⟩, fun h => h.2⟩
theorem checked_v {n : Nat} (hn : 300 < n) {l : Tis} : fiduciallaw26_Checked n l = some (codeT l) := by
 apply Ok.eq
 unfold fiduciallaw26_Checked codeT
 refine Ok.cd (fun h => ok_some.2 ?_) (fun h => ?_)
 · rw [if_pos (by have := of_decide_eq_true h; omega)]
 · have hl : l.length ≤ 256 := by have := of_decide_eq_false h; omega
   rw [if_neg (by omega)]
   refine Ok.bd (R := fun o => o = if codeL l = 0 then Sum.inl () else Sum.inr (codeL l)) ?_ ?_
   · refine ok_range (len := l.length) (fun k => ∀ j, j < k → codeTie (l.getD j default) = 0) (by omega) (by omega) (fun j hj => by omega) ?_ ?_
     · intro again k hk hP ih
       refine Ok.cd (fun _ => ?_) (fun h => by have := of_decide_eq_false h; omega)
       refine Ok.gd (by rw [inR_nat]; exact decide_eq_true hk) ?_
       rw [gt_nat]
       have bad : ∀ c, codeTie (l.getD k default) = c → c ≠ 0 → (Sum.inr c : Sum Unit Int) = if codeL l = 0 then Sum.inl () else Sum.inr (codeL l) := fun c h0 h => by
        have e := codeL_at hP hk (by rw [h0]; exact h)
        rw [e, h0, if_neg h]
       have nx : codeTie (l.getD k default) = 0 → Ok (again (wrapF .i64 ((k : Int) + 1))) (fun o => o = if codeL l = 0 then Sum.inl () else Sum.inr (codeL l)) := fun h0 => ih fun j hj => by
        by_cases e : j < k
        · exact hP j e
        · obtain rfl : j = k := by omega
          exact h0
       generalize l.getD k default = t at *
       unfold codeTie at bad nx
       refine Ok.bd (R := fun o => (badMk t.A = true ∨ badMk t.B = true) ∧ o = Sum.inr 2 ∨ (badMk t.A = false ∧ badMk t.B = false) ∧ o = Sum.inl ()) ?_ ?_
       · refine ok_range (len := 2) (fun k => (1 ≤ k → badMk t.A = false) ∧ (2 ≤ k → badMk t.B = false)) (by omega) (by omega) ⟨by omega, by omega⟩ ?_ ?_
         · rintro again2 q hq ⟨p1, p2⟩ ih2
           refine Ok.cd (fun _ => ?_) (fun h => by have := of_decide_eq_false h; omega)
           refine Ok.gd (by show inR (q : Int) 2 = true; rw [inR_nat]; exact decide_eq_true hq) ?_
           have key : ∀ m : api_Mark, gt [t.A, t.B] (q : Int) = m → (badMk m = true → badMk t.A = true ∨ badMk t.B = true) → (badMk m = false → Ok (again2 (wrapF .i64 ((q : Int) + 1))) (fun o => (badMk t.A = true ∨ badMk t.B = true) ∧ o = Sum.inr 2 ∨ (badMk t.A = false ∧ badMk t.B = false) ∧ o = Sum.inl ())) →
             Ok (cdO (decide ((gt [t.A, t.B] (q : Int)).Image < 0)) (some (Sum.inr 2)) (cdO (decide ((gt [t.A, t.B] (q : Int)).Image ≥ 64)) (some (Sum.inr 2)) (cdO (decide ((gt [t.A, t.B] (q : Int)).Feature < 0)) (some (Sum.inr 2)) (cdO (decide ((gt [t.A, t.B] (q : Int)).Feature > 4095)) (some (Sum.inr 2)) (again2 (wrapF .i64 ((q : Int) + 1))))))) (fun o => (badMk t.A = true ∨ badMk t.B = true) ∧ o = Sum.inr 2 ∨ (badMk t.A = false ∧ badMk t.B = false) ∧ o = Sum.inl ()) := by
            rintro m rfl hb hg
            unfold badMk at hb hg
            refine Ok.cd (fun h => ok_some.2 (.inl ⟨hb (by simp [h]), rfl⟩)) (fun h1 => ?_)
            refine Ok.cd (fun h => ok_some.2 (.inl ⟨hb (by simp [h]), rfl⟩)) (fun h2 => ?_)
            refine Ok.cd (fun h => ok_some.2 (.inl ⟨hb (by simp [h]), rfl⟩)) (fun h3 => ?_)
            refine Ok.cd (fun h => ok_some.2 (.inl ⟨hb (by simp [h]), rfl⟩)) (fun h4 => ?_)
            exact hg (by rw [h1, h2, h3, h4]; rfl)
           match q, hq with
           | 0, _ => exact key t.A rfl .inl (fun h => ih2 ⟨fun _ => h, by omega⟩)
           | 1, _ => exact key t.B rfl .inr (fun h => ih2 ⟨fun _ => p1 (by omega), fun _ => h⟩)
         · rintro again2 ⟨p1, p2⟩
           exact Ok.cd (fun h => by have := of_decide_eq_true h; omega) (fun _ => ok_some.2 (.inr ⟨⟨p1 (by omega), p2 (by omega)⟩, rfl⟩))
       · rintro o (⟨hb, rfl⟩ | ⟨⟨h1, h2⟩, rfl⟩)
         · refine ok_some.2 (bad 2 (by rw [if_pos (by rcases hb with h | h; exact .inl h; exact .inr (.inl h))]) (by omega))
         · refine Ok.cd (fun h => ok_some.2 (bad 2 (by rw [if_pos (.inr (.inr (.inl (of_decide_eq_true h))))]) (by omega))) (fun h3 => ?_)
           refine Ok.cd (fun h => ok_some.2 (bad 2 (by rw [if_pos (.inr (.inr (.inr (of_decide_eq_true h))))]) (by omega))) (fun h4 => ?_)
           have hno : ¬ (badMk t.A = true ∨ badMk t.B = true ∨ t.Cost < 0 ∨ t.Cost > 1048576) := by
            rw [h1, h2]; have := of_decide_eq_false h3; have := of_decide_eq_false h4; simp; omega
           refine Ok.cd (fun h => ok_some.2 (bad 5 (by rw [if_neg hno, if_pos (of_decide_eq_true h)]) (by omega))) (fun h5 => ?_)
           exact nx (by rw [if_neg hno, if_neg (of_decide_eq_false h5)])
     · intro again hP
       refine Ok.cd (fun h => by have := of_decide_eq_true h; omega) (fun _ => ok_some.2 ?_)
       rw [if_pos (codeL_all hP)]
   · rintro o rfl
     by_cases h0 : codeL l = 0
     · rw [if_pos h0, h0]; exact ok_some.2 rfl
     · rw [if_neg h0]; exact ok_some.2 rfl
theorem loop_indexM {γ : Type} [Inhabited γ] {n : Nat} {s : List γ} {f : γ → Option Bool} {p : γ → Bool} (hf : ∀ x ∈ s, f x = some (p x)) (hn : s.length < n) (hl : s.length ≤ 9223372036854775806) :
  bdO (loopO (α := Int) (β := Sum (Unit) (Int)) n (fun again x => cdO (decide (x < (s.length : Int))) (gdO (inR x s.length) (bdO (f (gt s x)) fun v => (cdO v (some (Sum.inr (x))) (again (wrapF .i64 (x + 1)))))) (some (Sum.inl ()))) 0) (fun o => match o with | .inl _ => some (-1) | .inr r0 => some r0) = some (idxB p s) := by
 apply Ok.eq
 refine Ok.bd (R := fun o => match o with | .inl _ => idxB p s = -1 | .inr r => r = idxB p s) ?_ ?_
 · refine ok_range (len := s.length) (fun k => ∀ j, j < k → p (s.getD j default) = false) hn hl (by intro j hj; omega) ?_ ?_
   · intro again k hk hP ih
     refine Ok.cd (fun _ => ?_) (fun h => ?_)
     · refine Ok.gd (by rw [inR_nat]; simpa using hk) ?_
       rw [gt_nat, hf _ (memG hk)]
       refine Ok.cd (fun h => ?_) (fun h => ?_)
       · exact ok_some.2 (idxB_at p s k hk hP h).symm
       · exact ih fun j hj => by
          by_cases hjk : j = k
          · rw [hjk]; exact h
          · exact hP j (by omega)
     · simp at h; omega
   · intro again hP
     refine Ok.cd (fun h => ?_) (fun _ => ?_)
     · simp at h
     · exact ok_some.2 (idxB_none p s hP)
 · rintro (_ | r) h
   · simp only at h; rw [h]; exact ok_some.2 rfl
   · simp only at h; rw [h]; exact ok_some.2 rfl
abbrev whr (T : List Mks) (m : api_Mark) : Int := idxB (fun u : Mks => decide (m ∈ u)) T
theorem where_v {n : Nat} {T : List Mks} {m : api_Mark} (hn : 1024 < n) (hT : T.length ≤ 60) (hu : ∀ u ∈ T, u.length ≤ 60) : fiduciallaw26_where n T m = some (whr T m) := by
 unfold fiduciallaw26_where slices_IndexFunc_fiducial_api_Mark_fiducial_api_Mark_of_fiduciallaw26_where_1
 have := loop_indexM (n := n) (s := T) (f := fun u => fiduciallaw26_where_1 n u m.Image m.Feature) (p := fun u => decide (m ∈ u)) (fun u hx => by
  unfold fiduciallaw26_where_1
  rw [containsM_v (by have := hu u hx; omega) (by have := hu u hx; omega)]; rfl) (by omega) (by omega)
 exact (congrArg (fun o => bdO o fun v1 => some v1) this).trans rfl
theorem idxB_spec {γ : Type} [Inhabited γ] {p : γ → Bool} : ∀ {s : List γ} {x : γ}, x ∈ s → p x = true → ∃ i : Nat, idxB p s = (i : Int) ∧ i < s.length ∧ p (gt s (i : Int)) = true
 | [], _, h, _ => by cases h
 | y :: s, x, h, hp => by
  unfold idxB
  cases hy : p y with
  | true => exact ⟨0, rfl, by simp, hy⟩
  | false =>
   rcases List.mem_cons.1 h with rfl | h
   · rw [hy] at hp; cases hp
   · obtain ⟨i, h1, h2, h3⟩ := idxB_spec h hp
     rw [h1]
     refine ⟨i + 1, ?_, by simp; omega, ?_⟩
     · rw [show decide ((i : Int) ≥ 0) = true by simp]; show (i : Int) + 1 = _; omega
     · rw [gt_nat] at h3 ⊢; simpa using h3
theorem Part.at {E : RelM} {V : api_Mark → Prop} {T : List Mks} (hE : Eqv E) (hP : Part E V T) {m : api_Mark} (hm : V m) : ∃ i : Nat, whr T m = (i : Int) ∧ i < T.length ∧ m ∈ gt T (i : Int) := by
 obtain ⟨u, hu, h, _⟩ := hP.all m m hm hm (hE.refl m)
 obtain ⟨i, h1, h2, h3⟩ := idxB_spec (p := fun u : Mks => decide (m ∈ u)) hu (decide_eq_true h)
 exact ⟨i, h1, h2, of_decide_eq_true h3⟩
theorem images_w_v {n : Nat} {t : Mks} (hn : t.length < n) (hl : t.length ≤ 1000000) : fiduciallaw26_images_w n t = some (t.map (·.Image)) := by
 apply Ok.eq
 unfold fiduciallaw26_images_w
 refine Ok.bd (R := fun o => o = t.map (·.Image)) ?_ (fun o ho => ok_some.2 ho)
 refine ok_rangeR (len := t.length) (fun k o => o = (t.take k).map (·.Image)) hn (by omega) rfl ?_ ?_
 · rintro again k o hk rfl ih
   have e : (t.take (k + 1)).map (·.Image) = (t.take k).map (·.Image) ++ [(gt t (k : Int)).Image] := by
    rw [List.take_add_one, List.getElem?_eq_getElem hk, List.map_append, gt_nat]
    simp [List.getD, List.getElem?_eq_getElem hk]
   refine Ok.cd (fun _ => ?_) (fun h => by have := of_decide_eq_false h; omega)
   refine Ok.gd (by rw [inR_nat]; exact decide_eq_true hk) ?_
   have hlen : ((t.take k).map (·.Image)).length ≤ k := by rw [List.length_map, List.length_take]; omega
   exact Ok.gd (decide_eq_true (by omega)) (Ok.gd (decide_eq_true (by omega)) (ih _ e.symm))
 · rintro again o rfl
   refine Ok.cd (fun h => by have := of_decide_eq_true h; omega) (fun _ => ok_some.2 ?_)
   rw [List.take_length]
theorem meet_v {n : Nat} {T : List Mks} {j : Nat} {a : List Int} (hn : 1024 < n) (hj : j < T.length) (hu : ∀ u ∈ T, u.length ≤ 60) (ha : a.length ≤ 60) :
  slices_ContainsFunc_int_int_of_fiduciallaw26_all_1 n a T (j : Int) = some (a.any fun x => ((gt T (j : Int)).map (·.Image)).contains x) := by
 have hg := hu _ (show gt T (j : Int) ∈ T by rw [gtE hj]; exact List.getElem_mem hj)
 unfold slices_ContainsFunc_int_int_of_fiduciallaw26_all_1 slices_IndexFunc_int_int_of_fiduciallaw26_all_1
 have := loop_indexM (n := n) (s := a) (f := fun x => fiduciallaw26_all_1 n x T (j : Int)) (p := fun x => ((gt T (j : Int)).map (·.Image)).contains x) (fun x _ => by
  unfold fiduciallaw26_all_1
  rw [show inR (j : Int) T.length = true by rw [inR_nat]; exact decide_eq_true hj]
  rw [images_v (by omega) (by omega)]
  show bdO (slices_Contains_int_int n _ x) _ = _
  rw [contains_v (by rw [List.length_map]; omega) (by rw [List.length_map]; omega)]; rfl) (by omega) (by omega)
 refine (congrArg (fun o => bdO o fun v1 => some (decide (v1 ≥ 0))) this).trans ?_
 show some (decide (idxB (fun x => ((gt T (j : Int)).map (·.Image)).contains x) a ≥ 0)) = _
 rw [idxB_ge]
theorem nodup_leM : ∀ {a b : Mks}, a.Nodup → (∀ x ∈ a, x ∈ b) → a.length ≤ b.length
 | [], _, _, _ => Nat.zero_le _
 | x :: a, b, h, hs => by
  obtain ⟨h1, h2⟩ := List.nodup_cons.1 h
  have hx := hs x (by simp)
  have := nodup_leM (b := b.erase x) h2 fun y hy => by
   have hne : y ≠ x := by rintro rfl; exact h1 hy
   exact (List.mem_erase_of_ne hne).2 (hs y (by simp [hy]))
  rw [List.length_erase_of_mem hx] at this
  have := List.length_pos_of_mem hx
  simp only [List.length_cons]; omega
theorem marks_in {l : Tis} {m : api_Mark} (h : marks26 l m) : m ∈ l.map (·.A) ++ l.map (·.B) := by
 obtain ⟨t, ht, rfl | rfl⟩ := h
 · exact List.mem_append_left _ (List.mem_map.2 ⟨t, ht, rfl⟩)
 · exact List.mem_append_right _ (List.mem_map.2 ⟨t, ht, rfl⟩)
theorem marks_len {l : Tis} {u : Mks} (hl : l.length ≤ 30) (h : u.Nodup) (hv : ∀ m ∈ u, marks26 l m) : u.length ≤ 60 := by
 have := nodup_leM h (fun x hx => marks_in (hv x hx))
 simp at this; omega
theorem or3_v {n : Nat} (hn : 5 < n) (x y z : Int) : cmp_Or_int n [x, y, z] = some (if x ≠ 0 then x else if y ≠ 0 then y else z) := by
 apply Ok.eq
 unfold cmp_Or_int
 refine Ok.bd (R := fun o => o = if x ≠ 0 then Sum.inr x else if y ≠ 0 then Sum.inr y else if z ≠ 0 then Sum.inr z else Sum.inl ()) ?_ ?_
 · have l3 : ([x, y, z] : List Int).length = 3 := rfl
   refine ok_range (len := 3) (fun k => (1 ≤ k → x = 0) ∧ (2 ≤ k → y = 0) ∧ (3 ≤ k → z = 0)) (by omega) (by omega) ⟨by omega, by omega, by omega⟩ ?_ ?_
   · rintro again k hk ⟨h1, h2, h3⟩ ih
     rw [l3]
     refine Ok.cd (fun _ => ?_) (fun h => by have := of_decide_eq_false h; omega)
     refine Ok.gd (by rw [inR_nat]; exact decide_eq_true hk) ?_
     match k, hk with
     | 0, _ =>
      show Ok (cdO (x != 0) (some (Sum.inr x)) (again (wrapF .i64 (((0 : Nat) : Int) + 1)))) _
      refine Ok.cd (fun h => ok_some.2 ?_) (fun h => ih ⟨fun _ => by simpa using h, by omega, by omega⟩)
      rw [if_pos (by simpa using h)]
     | 1, _ =>
      show Ok (cdO (y != 0) (some (Sum.inr y)) (again (wrapF .i64 (((1 : Nat) : Int) + 1)))) _
      have e := h1 (by omega)
      refine Ok.cd (fun h => ok_some.2 ?_) (fun h => ih ⟨fun _ => e, fun _ => by simpa using h, by omega⟩)
      rw [if_neg (by omega), if_pos (by simpa using h)]
     | 2, _ =>
      show Ok (cdO (z != 0) (some (Sum.inr z)) (again (wrapF .i64 (((2 : Nat) : Int) + 1)))) _
      have e := h1 (by omega)
      have e2 := h2 (by omega)
      refine Ok.cd (fun h => ok_some.2 ?_) (fun h => ih ⟨fun _ => e, fun _ => e2, fun _ => by simpa using h⟩)
      rw [if_neg (by omega), if_neg (by omega), if_pos (by simpa using h)]
   · rintro again ⟨h1, h2, h3⟩
     rw [l3]
     refine Ok.cd (fun h => by have := of_decide_eq_true h; omega) (fun _ => ok_some.2 ?_)
     rw [if_neg (by have := h1 (by omega); omega), if_neg (by have := h2 (by omega); omega), if_neg (by have := h3 (by omega); omega)]
 · rintro o rfl
   by_cases h : x = 0
   · by_cases g : y = 0
     · by_cases f : z = 0
       · simp [h, g, f, ok_some]
       · simp [h, g, f, ok_some]
     · simp [h, g, ok_some]
   · simp [h, ok_some]
theorem orderT_v {n : Nat} (hn : 5 < n) {a b : api_Tie} (ha : okT a) (hb : okT b) : ∃ c, fiduciallaw26_order n a b = some c ∧ (c < 0 ↔ kT a < kT b) := by
 unfold fiduciallaw26_order
 rw [cmpI_v, mark26_v hn, mark26_v hn]
 refine ⟨if (if a.Cost < b.Cost then (-1 : Int) else if a.Cost > b.Cost then 1 else 0) ≠ 0 then (if a.Cost < b.Cost then (-1 : Int) else if a.Cost > b.Cost then 1 else 0) else if cM a.A b.A ≠ 0 then cM a.A b.A else cM a.B b.B, ?_, ?_⟩
 · show bdO (cmp_Or_int n [_, _, _]) _ = _
   rw [or3_v hn]; rfl
 · have k1 := cM_key ha.1 hb.1
   have k2 := cM_key ha.2.1 hb.2.1
   have a1 := kM_range ha.1
   have a2 := kM_range ha.2.1
   have a3 := kM_range hb.1
   have a4 := kM_range hb.2.1
   unfold kT
   generalize cM a.A b.A = u at *
   generalize cM a.B b.B = v at *
   generalize kM a.A = p at *
   generalize kM a.B = q at *
   generalize kM b.A = r at *
   generalize kM b.B = s at *
   by_cases h1 : a.Cost < b.Cost
   · rw [if_pos h1]; simp; omega
   · rw [if_neg h1]
     by_cases h2 : a.Cost > b.Cost
     · rw [if_pos h2]; simp; omega
     · rw [if_neg h2]
       have : a.Cost = b.Cost := by omega
       simp only [ne_eq, not_true_eq_false, if_false]
       split <;> omega
theorem sortT2_v {n : Nat} (hn : 5 < n) {l : Tis} (hl : l.length ≤ 1024) (hv : ∀ t ∈ l, okT t) : slices_SortFunc_fiducial_api_Tie_fiducial_api_Tie_w_of_fiduciallaw26_order n l = some (isrtC (ltK kT) l) := by
 unfold slices_SortFunc_fiducial_api_Tie_fiducial_api_Tie_w_of_fiduciallaw26_order
 rw [decide_eq_true (show l.length < 4611686018427387904 by omega)]
 exact sortC_key (κ := kT) (fun x y hx hy => orderT_v hn (hv x hx) (hv y hy)) (fun x y hx hy h => kT_inj (hv x hx) (hv y hy) h)
end Go.L


set_option linter.all false
namespace Go.L
open Go Go.Eng
theorem gt2 {γ : Type} [Inhabited γ] {x y : γ} : gt [x, y] ((0 : Nat) : Int) = x ∧ gt [x, y] ((1 : Nat) : Int) = y := ⟨rfl, rfl⟩
theorem mem_sing {M : Mks} {m : api_Mark} : (∃ u ∈ M.map (fun x => ([x] : Mks)), m ∈ u) ↔ m ∈ M := by
 constructor
 · rintro ⟨u, hu, h⟩
   obtain ⟨x, hx, rfl⟩ := List.mem_map.1 hu
   rw [List.mem_singleton] at h; rw [h]; exact hx
 · exact fun h => ⟨[m], List.mem_map.2 ⟨m, h, rfl⟩, by simp⟩
theorem part0 {V : api_Mark → Prop} {M : Mks} (hn : M.Nodup) (hV : ∀ m, m ∈ M ↔ V m) : Part Eq V (M.map fun x => ([x] : Mks)) := by
 refine ⟨fun u hu => ?_, fun u hu m h => ?_, fun u hu m h m' h' => ?_, fun m m' v v' e => ?_, ?_⟩
 · obtain ⟨x, hx, rfl⟩ := List.mem_map.1 hu; simp
 · obtain ⟨x, hx, rfl⟩ := List.mem_map.1 hu
   rw [List.mem_singleton] at h; rw [h]; exact (hV x).1 hx
 · obtain ⟨x, hx, rfl⟩ := List.mem_map.1 hu
   rw [List.mem_singleton] at h h'; rw [h, h']
 · subst e
   exact ⟨[m], List.mem_map.2 ⟨m, (hV m).2 v, rfl⟩, by simp, by simp⟩
 · rw [List.pairwise_map]
   exact hn.imp fun {a b} h x hx y hy e => by
    rw [List.mem_singleton] at hx hy
    subst hx; subst hy; exact h e
theorem strikeL_v {n j : Nat} {T : List Mks} {y : Mks} (h : j < T.length) (h2 : T.length ≤ 1000) : slices_Delete_fiducial_api_Mark_fiducial_api_Mark_w n T y (j : Int) (wrapF .i64 ((j : Int) + 1)) = some (T.take j ++ T.drop (j + 1)) := by
 unfold slices_Delete_fiducial_api_Mark_fiducial_api_Mark_w
 rw [wrap64_in (n := (j : Int) + 1) (by omega) (by omega)]
 rw [decide_eq_true (show (0 : Int) ≤ (j : Int) by omega), decide_eq_true (show (j : Int) + 1 = (j : Int) + 1 from rfl), decide_eq_true (show (j : Int) + 1 ≤ (T.length : Int) by omega)]
 rw [show ((j : Int) + 1).toNat = j + 1 by omega, show ((j : Int)).toNat = j by omega]
 rfl
theorem set_same26 {γ : Type} [Inhabited γ] {T : List γ} {i : Nat} (h : i < T.length) : T.set i (gt T (i : Int)) = T := by
 rw [gtE h, List.set_getElem_self]
theorem all_v {n : Nat} (hn : 1024 < n) {l : Tis} (hl : l.length ≤ 30) (hv : ∀ t ∈ l, okT t) : Ok (fiduciallaw26_all_w n l) (fun T => Part (rel26 (ordT l)) (marks26 l) T ∧ T.length ≤ 60 ∧ ∀ u ∈ T, u.length ≤ 60) := by
 unfold fiduciallaw26_all_w
 refine Ok.bd (R := fun T => ∃ M : Mks, T = M.map (fun x => ([x] : Mks)) ∧ M.Nodup ∧ ∀ m, m ∈ M ↔ marks26 l m) ?_ ?_
 · refine ok_rangeR (len := l.length) (fun k (T : List Mks) => ∃ M : Mks, T = M.map (fun x => ([x] : Mks)) ∧ M.Nodup ∧ ∀ m, m ∈ M ↔ marks26 (l.take k) m) (by omega) (by omega) ⟨[], rfl, by simp, fun m => ⟨fun h => (by cases h), fun ⟨t, h, _⟩ => (by simp at h)⟩⟩ ?_ ?_
   · rintro again k T hk ⟨M, rfl, hM, hm⟩ ih
     dsimp only
     refine Ok.cd (fun _ => ?_) (fun h => by have := of_decide_eq_false h; omega)
     refine Ok.gd (by rw [inR_nat]; exact decide_eq_true hk) ?_
     have htl : gt l (k : Int) ∈ l := by rw [gtE hk]; exact List.getElem_mem hk
     have htk : l.take (k + 1) = l.take k ++ [gt l (k : Int)] := by rw [List.take_add_one, List.getElem?_eq_getElem hk, gtE hk]; rfl
     have hmk : ∀ m, marks26 (l.take (k + 1)) m ↔ marks26 (l.take k) m ∨ m = (gt l (k : Int)).A ∨ m = (gt l (k : Int)).B := fun m => by
      rw [htk]
      constructor
      · rintro ⟨t, ht, h⟩
        rcases List.mem_append.1 ht with ht | ht
        · exact .inl ⟨t, ht, h⟩
        · simp at ht; subst ht; exact .inr h
      · rintro (⟨t, ht, h⟩ | h)
        · exact ⟨t, by simp [ht], h⟩
        · exact ⟨_, by simp, h⟩
     have hsub : ∀ m, marks26 (l.take k) m ∨ m = (gt l (k : Int)).A ∨ m = (gt l (k : Int)).B → marks26 l m := fun m h => by
      rcases h with ⟨t, ht, h⟩ | h
      · exact ⟨t, List.mem_of_mem_take ht, h⟩
      · exact ⟨_, htl, h⟩
     generalize gt l (k : Int) = t at *
     refine Ok.bd (R := fun T => ∃ M : Mks, T = M.map (fun x => ([x] : Mks)) ∧ M.Nodup ∧ ∀ m, m ∈ M ↔ marks26 (l.take (k + 1)) m) ?_ (fun T hT => ih _ hT)
     refine ok_rangeR (len := 2) (fun q (T : List Mks) => ∃ M : Mks, T = M.map (fun x => ([x] : Mks)) ∧ M.Nodup ∧ ∀ m, m ∈ M ↔ marks26 (l.take k) m ∨ (1 ≤ q ∧ m = t.A) ∨ (2 ≤ q ∧ m = t.B)) (by omega) (by omega) ⟨M, rfl, hM, fun m => by rw [hm]; exact ⟨.inl, fun h => by rcases h with h | h | h; exact h; omega; omega⟩⟩ ?_ ?_
     · rintro again2 q T hq ⟨M, rfl, hM, hm⟩ ih2
       dsimp only
       have hMs : ∀ m ∈ M, marks26 l m := fun m h => hsub m (by rcases (hm m).1 h with h | ⟨_, h⟩ | ⟨_, h⟩; exact .inl h; exact .inr (.inl h); exact .inr (.inr h))
       have hM60 := marks_len hl hM hMs
       have hT60 : (M.map fun x => ([x] : Mks)).length ≤ 60 := by rw [List.length_map]; exact hM60
       refine Ok.cd (fun _ => ?_) (fun h => by have := of_decide_eq_false h; omega)
       refine Ok.gd (by show inR (q : Int) 2 = true; rw [inR_nat]; exact decide_eq_true hq) ?_
       refine Ok.bde (where_v hn hT60 (fun u hu => by obtain ⟨x, _, rfl⟩ := List.mem_map.1 hu; simp)) ?_
       have hge : whr (M.map fun x => ([x] : Mks)) (gt [t.A, t.B] (q : Int)) ≥ 0 ↔ gt [t.A, t.B] (q : Int) ∈ M := by
        rw [← decide_eq_true_iff (p := whr _ _ ≥ 0), idxB_ge, List.any_eq_true, ← mem_sing]
        exact ⟨fun ⟨u, h1, h2⟩ => ⟨u, h1, of_decide_eq_true h2⟩, fun ⟨u, h1, h2⟩ => ⟨u, h1, decide_eq_true h2⟩⟩
       have next : ∀ M' : Mks, M'.Nodup → (∀ m, m ∈ M' ↔ m ∈ M ∨ m = gt [t.A, t.B] (q : Int)) → Ok (again2 (M'.map (fun x => ([x] : Mks)), wrapF .i64 ((q : Int) + 1))) (fun T => ∃ M : Mks, T = M.map (fun x => ([x] : Mks)) ∧ M.Nodup ∧ ∀ m, m ∈ M ↔ marks26 (l.take (k + 1)) m) := fun M' h1 h2 => by
        refine ih2 _ ⟨M', rfl, h1, fun m => ?_⟩
        rw [h2, hm]
        match q, hq with
        | 0, _ =>
         rw [gt2.1]
         constructor
         · rintro ((h | h | h) | h)
           · exact .inl h
           · omega
           · omega
           · exact .inr (.inl ⟨by omega, h⟩)
         · rintro (h | h | h)
           · exact .inl (.inl h)
           · exact .inr h.2
           · omega
        | 1, _ =>
         rw [gt2.2]
         constructor
         · rintro ((h | h | h) | h)
           · exact .inl h
           · exact .inr (.inl ⟨by omega, h.2⟩)
           · omega
           · exact .inr (.inr ⟨by omega, h⟩)
         · rintro (h | h | h)
           · exact .inl (.inl h)
           · exact .inl (.inr (.inl ⟨by omega, h.2⟩))
           · exact .inr h.2
       refine Ok.cd (fun h => ?_) (fun h => ?_)
       · have hno : gt [t.A, t.B] (q : Int) ∉ M := fun hin => by
          have := hge.2 hin; have := of_decide_eq_true h; omega
         refine Ok.gd (decide_eq_true (by omega)) (Ok.gd (decide_eq_true (by omega)) ?_)
         have := next (M ++ [gt [t.A, t.B] (q : Int)]) (by rw [List.nodup_append]; exact ⟨hM, by simp, fun a ha b hb e => by rw [List.mem_singleton] at hb; subst hb; subst e; exact hno ha⟩) (fun m => by rw [List.mem_append, List.mem_singleton])
         rw [List.map_append] at this
         exact this
       · have hin : gt [t.A, t.B] (q : Int) ∈ M := hge.1 (by have := of_decide_eq_false h; omega)
         exact next M hM (fun m => ⟨.inl, fun h => h.elim id fun h => by rw [h]; exact hin⟩)
     · rintro again2 T ⟨M, rfl, hM, hm⟩
       refine Ok.cd (fun h => by have := of_decide_eq_true h; omega) (fun _ => ok_some.2 ⟨M, rfl, hM, fun m => ?_⟩)
       rw [hm, hmk]
       constructor
       · rintro (h | h | h)
         · exact .inl h
         · exact .inr (.inl h.2)
         · exact .inr (.inr h.2)
       · rintro (h | h | h)
         · exact .inl h
         · exact .inr (.inl ⟨by omega, h⟩)
         · exact .inr (.inr ⟨by omega, h⟩)
   · rintro again T ⟨M, rfl, hM, hm⟩
     refine Ok.cd (fun h => by have := of_decide_eq_true h; omega) (fun _ => ok_some.2 ⟨M, rfl, hM, fun m => ?_⟩)
     rw [hm, List.take_length]
 · rintro T0 ⟨M, rfl, hM, hm⟩
   have hM60 := marks_len hl hM (fun m h => (hm m).1 h)
   refine Ok.bde (cloneT_v (by omega)) (Ok.bde (sortT2_v (by omega) (by omega) hv) (Ok.gd (decide_eq_true len_isrtC) ?_))
   rw [rel_sorted]
   have hsm : ∀ t, t ∈ isrtC (ltK kT) l ↔ t ∈ l := fun t => mem_isrtC
   have hsl : (isrtC (ltK kT) l).length = l.length := len_isrtC
   refine Ok.bd (R := fun T => Part (rel26 (isrtC (ltK kT) l)) (marks26 l) T ∧ T.length ≤ 60) ?_ (fun T hT => ok_some.2 ⟨hT.1, hT.2, fun u hu => marks_len (by omega) (hT.1.nd u hu) (hT.1.val u hu)⟩)
   generalize isrtC (ltK kT) l = S at *
   refine ok_rangeR (len := l.length) (fun k (T : List Mks) => Part (rel26 (S.take k)) (marks26 l) T ∧ T.length ≤ 60) (by omega) (by omega) ⟨part0 hM hm, by rw [List.length_map]; exact hM60⟩ ?_ ?_
   · rintro again k T hk ⟨hP, hT⟩ ih
     dsimp only
     have hu60 : ∀ u ∈ T, u.length ≤ 60 := fun u hu => marks_len (by omega) (hP.nd u hu) (hP.val u hu)
     have hk : k < S.length := by omega
     refine Ok.cd (fun _ => ?_) (fun h => by have := of_decide_eq_false h; omega)
     refine Ok.gd (by rw [inR_nat]; exact decide_eq_true hk) ?_
     have htS : gt S (k : Int) ∈ S := by rw [gtE hk]; exact List.getElem_mem hk
     have htl := (hsm _).1 htS
     have htk : S.take (k + 1) = S.take k ++ [gt S (k : Int)] := by rw [List.take_add_one, List.getElem?_eq_getElem hk, gtE hk]; rfl
     rw [htk, rel26_snoc] at ih
     have hE := rel26_eqv (S.take k)
     have hrm : ∀ m m', rel26 (S.take k) m m' → m = m' ∨ (marks26 l m ∧ marks26 l m') := fun m m' h => by
      rcases rel26_marks h with h | ⟨⟨t, h1, h2⟩, ⟨t', h3, h4⟩⟩
      · exact .inl h
      · exact .inr ⟨⟨t, (hsm t).1 (List.mem_of_mem_take h1), h2⟩, ⟨t', (hsm t').1 (List.mem_of_mem_take h3), h4⟩⟩
     generalize rel26 (S.take k) = E at *
     generalize gt S (k : Int) = t at *
     refine Ok.bde (where_v hn hT hu60) (Ok.bde (where_v hn hT hu60) ?_)
     obtain ⟨i, e1, hi, hA⟩ := hP.at hE (m := t.A) ⟨t, htl, .inl rfl⟩
     obtain ⟨j, e2, hj, hB⟩ := hP.at hE (m := t.B) ⟨t, htl, .inr rfl⟩
     rw [e1, e2]
     refine Ok.cd (fun heq => ?_) (fun heq => ?_)
     · have : i = j := by have : (i : Int) = (j : Int) := by simpa using heq
                          omega
       subst this
       refine ih _ ⟨hP.stay ⟨t.B, t.B, hP.rel _ (by rw [gtE hi]; exact List.getElem_mem hi) _ hA _ hB, hE.refl _, rfl⟩, hT⟩
     · have hij : i ≠ j := by rintro rfl; simp at heq
       have hgi := hu60 _ (show gt T (i : Int) ∈ T by rw [gtE hi]; exact List.getElem_mem hi)
       have hgj := hu60 _ (show gt T (j : Int) ∈ T by rw [gtE hj]; exact List.getElem_mem hj)
       refine Ok.gd (by rw [inR_nat]; exact decide_eq_true hi) ?_
       refine Ok.bde (images_w_v (by omega) (by omega)) (Ok.bde (meet_v hn hj hu60 (by rw [List.length_map]; exact hgi)) ?_)
       have hcl := hP.clash hE hrm hi hj hA hB
       have hany : (((gt T (i : Int)).map (·.Image)).any fun x => ((gt T (j : Int)).map (·.Image)).contains x) = true ↔ clash E t.A t.B := by
        rw [hcl, List.any_eq_true]
        constructor
        · rintro ⟨x, hx, h⟩
          obtain ⟨m, hm, rfl⟩ := List.mem_map.1 hx
          rw [List.contains_iff_mem] at h
          obtain ⟨m', hm', e⟩ := List.mem_map.1 h
          exact ⟨m, hm, m', hm', e.symm⟩
        · rintro ⟨m, hm, m', hm', e⟩
          exact ⟨m.Image, List.mem_map.2 ⟨m, hm, rfl⟩, by rw [List.contains_iff_mem]; exact List.mem_map.2 ⟨m', hm', e.symm⟩⟩
       simp only [Int.toNat_natCast, set_same26 hi]
       refine Ok.cd (fun h => ih _ ⟨hP.stay (hany.1 h), hT⟩) (fun h => ?_)
       have nc : ¬ clash E t.A t.B := fun c => by rw [hany.2 c] at h; cases h
       refine Ok.gd (by rw [inR_nat]; exact decide_eq_true hi) (Ok.gd (by rw [inR_nat]; exact decide_eq_true hj) (Ok.gd (by rw [inR_nat]; exact decide_eq_true hj) (Ok.gd (decide_eq_true (by omega)) (Ok.gd (decide_eq_true (by omega)) (Ok.gd (decide_eq_true (by omega)) ?_)))))
       refine Ok.bde (strikeL_v (by rw [List.length_set]; exact hj) (by rw [List.length_set]; omega)) ?_
       refine ih _ ⟨hP.join hE hrm hi hj hij hA hB nc, ?_⟩
       rw [List.length_append, List.length_take, List.length_drop, List.length_set]; omega
   · rintro again T ⟨hP, hT⟩
     refine Ok.cd (fun h => by have := of_decide_eq_true h; omega) (fun _ => ok_some.2 ⟨?_, hT⟩)
     rwa [List.take_of_length_le (by omega)] at hP
end Go.L

