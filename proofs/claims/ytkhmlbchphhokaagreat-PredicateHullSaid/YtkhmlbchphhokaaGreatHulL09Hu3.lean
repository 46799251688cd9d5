import Derived.Test.YtkhmlbchphhokaaGreatHulL09Hu2
set_option linter.all false
namespace Go.L
open Go Go.Eng
theorem orin {a b c : api_Pix} (ha : In a) (hb : In b) (hc : In c) : orientZ a b c = sgn (crossZ a b c) := by
 unfold orientZ; rw [ha, hb, hc]; rfl
theorem bein {a b c : api_Pix} (ha : In a) (hb : In b) (hc : In c) : betwB a b c = onB a b c := by
 unfold betwB; rw [ha, hb, hc]; rfl
theorem first_ok {n : Nat} {l : List api_Pix} {k : Nat} (hk : k < l.length) (hn : k < n) (hl : l.length ≤ 1024) : Ok (fiducialref09_first n l k) fun r => r = (k : Int) ↔ Fs l k := by
 unfold fiducialref09_first
 refine Ok.bd (R := fun o => match o with | .inl _ => Fs l k | .inr r => r ≠ (k : Int) ∧ ¬ Fs l k) ?_ ?_
 · refine ok_range (len := k) (fun t => ∀ y : Int, 0 ≤ y → y < t → gt l y ≠ gt l k) hn (by omega) (by intro y h1 h2; omega) ?_ ?_
   · intro again t ht hP ih
     refine Ok.cd (fun _ => ?_) (fun h => by have := of_decide_eq_false h; omega)
     refine Ok.gd (by rw [inR_nat]; simp; omega) (Ok.gd (by rw [inR_nat]; simpa using hk) ?_)
     refine Ok.cd (fun h => ok_some.2 ?_) (fun h => ih ?_)
     · have h : gt l (t : Int) = gt l (k : Int) := ptE_iff.1 h
       exact ⟨by omega, fun hf => hf.2 t (by omega) (by omega) h⟩
     · intro y h1 h2
       by_cases hy : y = t
       · subst hy
         intro e
         have h : ptE (gt l (t : Int)) (gt l (k : Int)) = false := h
         rw [e, ptE_iff.2 rfl] at h; cases h
       · exact hP y h1 (by omega)
   · intro again hP
     refine Ok.cd (fun h => by have := of_decide_eq_true h; omega) (fun _ => ok_some.2 ⟨by omega, hP⟩)
 · intro o ho
   cases o with
   | inl _ => exact ok_some.2 ⟨fun _ => ho, fun _ => rfl⟩
   | inr r => exact ok_some.2 ⟨fun h => absurd h ho.1, fun h => absurd h ho.2⟩
theorem on_iff {a b c : api_Pix} : onB a b c = true ↔ crossZ a b c = 0 ∧ dotZ c a b ≤ 0 := by unfold onB; simp
theorem next_v {n : Nat} (hn : 1100 < n) {l : List api_Pix} (hI : AllIn l) (hl : l.length ≤ 1000) {i j : Int} (he : Edge (gt l) 4194304 1 (ordr l) i j) : fiducialref09_next n l i = some j := by
 have hF := fun x => ord_mem (l := l) (x := x) (by omega) hI
 have fi := (hF i).1 he.ma
 have fj := (hF j).1 he.mb
 have hij : i ≠ j := fun h => he.ne (by rw [h])
 have pi := hI.at fi.1.1 fi.1.2
 have pj := hI.at fj.1.1 fj.1.2
 apply Ok.eq
 unfold fiducialref09_next
 refine Ok.bd (R := fun o => o = j) ?_ (fun o ho => ok_some.2 ho)
 refine ok_rangeR (len := l.length) (fun k (at_ : Int) => (at_ = i ∨ (Fs l at_ ∧ at_ ≠ i)) ∧ (j < k → at_ = j)) (by omega) (by omega) ⟨.inl rfl, fun h => by have := fj.1.1; omega⟩ ?_ ?_
 · rintro again k a hk ⟨hP, hQ⟩ ih
   refine Ok.cd (fun _ => ?_) (fun h => by simp at h; omega)
   refine Ok.bd (first_ok hk (by omega) (by omega)) fun r hr => ?_
   have skip : (k : Int) ≠ j → Ok (again (a, wrapF .i64 ((k : Int) + 1))) (· = j) := fun hkj => ih _ ⟨hP, fun h => hQ (by omega)⟩
   refine Ok.cd (fun h => ?_) (fun h => ?_)
   · have hnf : ¬ Fs l k := fun hf => by have := hr.2 hf; subst this; simp at h
     exact skip fun e => hnf (e ▸ fj)
   · have hf : Fs l k := hr.1 (by simpa using h)
     refine Ok.cd (fun h => ?_) (fun h => ?_)
     · have h := beq_iff_eq.1 h
       exact skip fun e => hij (h ▸ e)
     · have hki : (k : Int) ≠ i := beq_eq_false_iff_ne.1 h
       refine Ok.cd (fun h => ?_) (fun h => ?_)
       · have ha := beq_iff_eq.1 h
         refine ih _ ⟨.inr ⟨hf, hki⟩, fun h => ?_⟩
         by_cases hkj : (k : Int) = j
         · exact hkj
         · have := hQ (by omega); exact absurd (ha.symm.trans this) hij
       · have hai : a ≠ i := beq_eq_false_iff_ne.1 h
         obtain ⟨fa, _⟩ := hP.resolve_left hai
         have pa := hI.at fa.1.1 fa.1.2
         have pk := hI.at hf.1.1 hf.1.2
         refine Ok.gd (inR_iff.2 fi.1) (Ok.gd (inR_iff.2 fa.1) (Ok.gd (by rw [inR_nat]; simpa using hk) ?_))
         refine Ok.bde (rorient_v (by omega) _ _ _) ?_
         rw [orin pi pa pk]
         have sc := sgn_cases (crossZ (gt l i) (gt l a) (gt l k))
         have take : ((k : Int) = j ∨ a ≠ j) → Ok (again ((k : Int), wrapF .i64 ((k : Int) + 1))) (· = j) := fun ht => ih _ ⟨.inr ⟨hf, hki⟩, fun h => by
          by_cases hkj : (k : Int) = j
          · exact hkj
          · have := hQ (by omega); exact absurd this (ht.resolve_left hkj)⟩
         have keep : ((k : Int) ≠ j ∨ a = j) → Ok (again (a, wrapF .i64 ((k : Int) + 1))) (· = j) := fun ht => by
          by_cases hkj : (k : Int) = j
          · have haj := ht.resolve_left (fun h => h hkj)
            exact ih _ ⟨.inr ⟨fa, hai⟩, fun _ => haj⟩
          · exact skip hkj
         by_cases haj : a = j
         · subst haj
           by_cases hkj : (k : Int) = a
           · refine Ok.cd (fun _ => take (.inl hkj)) fun _ => Ok.cd (fun _ => Ok.bde (rbetween_v (by omega) _ _ _) (Ok.cd (fun _ => take (.inl hkj)) (fun _ => keep (.inr rfl)))) (fun _ => keep (.inr rfl))
           · have q := he.out k ((hF k).2 hf) hki hkj
             refine Ok.cd (fun h => ?_) fun _ => Ok.cd (fun h => ?_) (fun _ => keep (.inr rfl))
             · have := of_decide_eq_true h; omega
             · have h0 := beq_iff_eq.1 h
               refine Ok.bde (rbetween_v (by omega) _ _ _) ?_
               rw [bein pi pk pa]
               refine Ok.cd (fun h => ?_) (fun _ => keep (.inr rfl))
               have hz : crossZ (gt l i) (gt l a) (gt l k) = 0 := by omega
               have hz2 : crossZ (gt l i) (gt l k) (gt l a) = 0 := by
                have : crossZ (gt l i) (gt l k) (gt l a) = -crossZ (gt l i) (gt l a) (gt l k) := by unfold crossZ; grind
                omega
               have hd := (on_iff.1 h).2
               have := (lf_dot (A := 4194304) (B := 1) hz2 he.ne).1 (by
                rcases q with q | ⟨_, q | q⟩
                · omega
                · exact Int.mul_pos_of_neg_of_neg (by omega) (by omega)
                · exact Int.mul_pos (by omega) (by omega))
               omega
         · by_cases hkj : (k : Int) = j
           · have q := he.out a ((hF a).2 fa) hai haj
             rw [hkj] at sc ⊢
             have esw : crossZ (gt l i) (gt l a) (gt l j) = -crossZ (gt l i) (gt l j) (gt l a) := by unfold crossZ; grind
             have take' : Ok (again (j, wrapF .i64 (j + 1))) (· = j) := by have := take (.inl hkj); rwa [hkj] at this
             refine Ok.cd (fun _ => take') fun h1 => Ok.cd (fun h0 => ?_) (fun h0 => ?_)
             · refine Ok.bde (rbetween_v (by omega) _ _ _) ?_
               rw [bein pi pj pa]
               refine Ok.cd (fun _ => take') (fun h => ?_)
               have h0 := beq_iff_eq.1 h0
               have hz : crossZ (gt l i) (gt l j) (gt l a) = 0 := by omega
               rcases q with q | ⟨_, q⟩
               · omega
               · have hne : lf 4194304 1 (gt l i) ≠ lf 4194304 1 (gt l a) := by omega
                 have hd := (lf_dot (A := 4194304) (B := 1) hz hne).2 (by
                  rcases q with q | q
                  · exact Int.mul_neg_of_neg_of_pos (by omega) (by omega)
                  · exact Int.mul_neg_of_pos_of_neg (by omega) (by omega))
                 have : onB (gt l i) (gt l j) (gt l a) = true := on_iff.2 ⟨hz, by omega⟩
                 rw [this] at h; cases h
             · have h1 := of_decide_eq_false h1
               have h0 := beq_eq_false_iff_ne.1 h0
               rcases q with q | q <;> omega
           · refine Ok.cd (fun _ => take (.inr haj)) fun _ => Ok.cd (fun _ => Ok.bde (rbetween_v (by omega) _ _ _) (Ok.cd (fun _ => take (.inr haj)) (fun _ => keep (.inl hkj)))) (fun _ => keep (.inl hkj))
 · rintro again a ⟨hP, hQ⟩
   refine Ok.cd (fun h => by simp at h) (fun _ => ok_some.2 (hQ (by have := fj.1.2; omega)))
theorem next_one {n : Nat} {l : List api_Pix} (hn : 1100 < n) (hl : l.length ≤ 1000) {i : Int} (h1 : ∀ k : Int, Fs l k → k = i) : fiducialref09_next n l i = some i := by
 apply Ok.eq
 unfold fiducialref09_next
 refine Ok.bd (R := fun o => o = i) ?_ (fun o ho => ok_some.2 ho)
 refine ok_rangeR (len := l.length) (fun k (at_ : Int) => at_ = i) (by omega) (by omega) rfl ?_ ?_
 · rintro again k a hk rfl ih
   refine Ok.cd (fun _ => ?_) (fun h => by simp at h; omega)
   refine Ok.bd (first_ok hk (by omega) (by omega)) fun r hr => ?_
   refine Ok.cd (fun h => ih _ rfl) (fun h => ?_)
   have hf : Fs l k := hr.1 (by simpa using h)
   exact Ok.cd (fun _ => ih _ rfl) (fun h => absurd (h1 _ hf) (beq_eq_false_iff_ne.1 h))
 · rintro again a rfl
   exact Ok.cd (fun h => by simp at h) (fun _ => ok_some.2 rfl)
structure HullOk (l : List api_Pix) (h : List Int) : Prop where
 pos : 0 < h.length
 mem : ∀ k, k < h.length → 0 ≤ h.getD k default ∧ h.getD k default < l.length
 edge : 1 < h.length → ∀ k, k < h.length → Edge (gt l) 4194304 1 (ordr l) (h.getD k default) (h.getD ((k + 1) % h.length) default)
 apart : 2 < h.length → ∀ k, k < h.length → h.getD k default ≠ h.getD ((k + 2) % h.length) default
 one : h.length = 1 → ∀ x, x ∈ ordr l → x = h.getD 0 default
 st : Fs l (h.getD 0 default)
 min : ∀ x, x ∈ ordr l → lfP (gt l (h.getD 0 default)) ≤ lfP (gt l x)
 away : ∀ k, 0 < k → k < h.length → h.getD k default ≠ h.getD 0 default
 len : h.length ≤ 2 * l.length
theorem hull_ok {l : List api_Pix} (h0 : 0 < l.length) (hl : l.length ≤ 1000) (hI : AllIn l) : HullOk l (hullL l) := by
 have hpo := ord_pos h0
 have hlo := ord_len l
 have hF := fun x => ord_mem (l := l) (x := x) (by omega) hI
 have hpw := pw_ord (l := l) (by omega) hI
 unfold hullL
 by_cases h1 : (ordr l).length = 1
 · rw [if_pos h1]
   obtain ⟨a, ha⟩ : ∃ a, ordr l = [a] := by
    match h : ordr l with
    | [] => rw [h] at h1; cases h1
    | [a] => exact ⟨a, rfl⟩
    | a :: b :: r => rw [h] at h1; simp at h1
   have fa : Fs l a := (hF a).1 (by rw [ha]; simp)
   rw [ha]
   refine ⟨by simp, fun k hk => ?_, fun h => by simp at h, fun h => by simp at h, fun _ x hx => by rw [ha] at hx; simpa using hx, fa, fun x hx => ?_, fun k h0 hk => by simp at hk; omega, by simp; omega⟩
   · have : k = 0 := by simp at hk; omega
     subst this; exact fa.1
   · obtain rfl : x = a := by simpa [ha] using hx
     exact Int.le_refl _
 · rw [if_neg h1]
   obtain ⟨p0, hp0⟩ : ∃ p0, (ordr l).head? = some p0 := by
    match h : ordr l with
    | [] => rw [h] at hpo; cases hpo
    | a :: r => exact ⟨a, rfl⟩
   have w := hull_around (g := gt l) (A := 4194304) (B := 1) hpw hp0 (by omega)
   have hm0 : p0 ∈ ordr l := List.mem_of_head? hp0
   have hmin : ∀ x, x ∈ ordr l → lf 4194304 1 (gt l p0) ≤ lf 4194304 1 (gt l x) := by
    intro x hx
    match h : ordr l, hp0, hx, hpw with
    | a :: r, hp0, hx, hpw =>
     obtain rfl : a = p0 := by simpa using hp0
     rcases List.mem_cons.1 hx with hx | hx
     · subst hx; exact Int.le_refl _
     · exact Int.le_of_lt ((List.pairwise_cons.1 hpw).1 x hx)
   have h1l := sideC_len (g := gt l) (ordr l) []
   have h2l := sideC_len (g := gt l) (ordr l).reverse []
   have hle : (hullC (gt l) (ordr l)).length ≤ 2 * l.length := by
    unfold hullC
    simp only [List.length_append, List.length_take, List.length_reverse, List.length_nil] at *
    omega
   generalize hullC (gt l) (ordr l) = h at *
   refine ⟨by have := w.two; omega, fun k hk => ((hF _).1 (w.edge k hk).ma).1, fun _ => w.edge, fun h3 k hk => w.apart hm0 hmin h3 hk, fun h => by have := w.two; omega, by rw [w.st]; exact (hF p0).1 hm0, by rw [w.st]; exact hmin, by rw [w.st]; exact w.away, hle⟩
theorem rhull_v {n : Nat} (hn : 2100 < n) {l : List api_Pix} (h0 : 0 < l.length) (hl : l.length ≤ 1000) (hI : AllIn l) : fiducialref09_Hull n l = some (hullL l, 0) := by
 have w := hull_ok h0 hl hI
 have hF := fun x => ord_mem (l := l) (x := x) (by omega) hI
 generalize hullL l = h at *
 apply Ok.eq
 unfold fiducialref09_Hull
 have hb : l.any badP = false := by rw [List.any_eq_false]; intro p hp; have := hI p hp; unfold In at this; rw [this]; decide
 refine Ok.cd (fun h => by have := beq_iff_eq.1 h; omega) (fun _ => ?_)
 refine Ok.cd (fun h => by have := of_decide_eq_true h; omega) (fun _ => ?_)
 refine Ok.bde (all_v (by omega) (by omega)) ?_
 rw [hb]
 refine Ok.cd (fun h => by simp at h) (fun _ => ?_)
 refine Ok.bd (R := fun s => s = h.getD 0 default) ?_ ?_
 · refine ok_rangeR (len := l.length) (fun k (s : Int) => (0 ≤ s ∧ s < l.length) ∧ (∀ y : Int, 0 ≤ y → y < k → lfP (gt l s) ≤ lfP (gt l y)) ∧ (∀ y : Int, 0 ≤ y → y < s → lfP (gt l s) < lfP (gt l y))) (by omega) (by omega) ⟨⟨by omega, by omega⟩, fun y h1 h2 => by omega, fun y h1 h2 => by omega⟩ ?_ ?_
   · rintro again k s hk ⟨h1, h2, h3⟩ ih
     refine Ok.cd (fun _ => ?_) (fun h => by simp at h; omega)
     refine Ok.gd (by rw [inR_nat]; simpa using hk) (Ok.gd (inR_iff.2 h1) ?_)
     refine Ok.bde (before_v (hI.at (by omega) (by omega)) (hI.at h1.1 h1.2)) ?_
     refine Ok.cd (fun h => ?_) (fun h => ?_)
     · have h := of_decide_eq_true h
       refine ih _ ⟨⟨by omega, by omega⟩, fun y y0 y1 => ?_, fun y y0 y1 => ?_⟩
       · by_cases e : y = k
         · subst e; exact Int.le_refl _
         · have := h2 y y0 (by omega); omega
       · have := h2 y y0 (by omega); omega
     · have h := of_decide_eq_false h
       refine ih _ ⟨h1, fun y y0 y1 => ?_, h3⟩
       by_cases e : y = k
       · subst e; omega
       · exact h2 y y0 (by omega)
   · rintro again s ⟨h1, h2, h3⟩
     refine Ok.cd (fun h => by simp at h) (fun _ => ok_some.2 ?_)
     have fs : Fs l s := ⟨h1, fun y y0 y1 e => by have := h3 y y0 y1; rw [e] at this; omega⟩
     have m1 := w.min s ((hF s).2 fs)
     have m2 := h2 (h.getD 0 default) w.st.1.1 (by have := w.st.1.2; omega)
     have e := lfP_inj (hI.at h1.1 h1.2) (hI.at w.st.1.1 w.st.1.2) (by omega)
     rcases Int.lt_trichotomy s (h.getD 0 default) with q | q | q
     · exact absurd e (w.st.2 s h1.1 q)
     · exact q
     · exact absurd e.symm (fs.2 _ w.st.1.1 q)
 · rintro s rfl
   have hlen := w.len
   have hst := w.st.1
   by_cases h1 : h.length = 1
   · have e : h = [h.getD 0 default] := by
      match h, h1 with
      | [a], _ => rfl
     refine Ok.bde (next_one (by omega) (by omega) (fun k hk => w.one h1 k ((hF k).2 hk))) ?_
     refine Ok.bd (R := fun o => o = h) ?_ (fun o ho => ok_some.2 (by rw [ho]))
     obtain ⟨m, rfl⟩ : ∃ m, n = m + 1 := ⟨n - 1, by omega⟩
     rw [loop_stepH]
     refine Ok.cd (fun h => by simp at h) (fun _ => ok_some.2 e.symm)
   · have h2 : 1 < h.length := by have := w.pos; omega
     have nx : ∀ k, k < h.length → fiducialref09_next n l (h.getD k default) = some (h.getD ((k + 1) % h.length) default) := fun k hk => next_v (by omega) hI hl (w.edge h2 k hk)
     refine Ok.bde (nx 0 (by omega)) ?_
     refine Ok.bd (R := fun o => o = h) ?_ (fun o ho => ok_some.2 (by rw [ho]))
     refine ok_loop (fun s : List Int × Int => ∃ t : Nat, 1 ≤ t ∧ t ≤ h.length ∧ s.1 = h.take t ∧ s.2 = h.getD (t % h.length) default) (fun s => h.length - s.1.length) ?_ n _ ⟨1, by omega, by omega, ?_, by rw [Nat.zero_add]⟩ (by show h.length - 1 < n; omega)
     · rintro again ⟨o, i⟩ ⟨t, t1, t2, ho, hi⟩ ih
       dsimp only at ho hi
       subst ho hi
       dsimp only
       refine Ok.cd (fun hne => ?_) (fun he => ?_)
       · have hlt : t < h.length := by
          rcases Nat.lt_or_ge t h.length with q | q
          · exact q
          · have : t = h.length := by omega
            subst this; rw [Nat.mod_self] at hne; simp at hne
         rw [Nat.mod_eq_of_lt hlt]
         have hl2 : (h.take t).length = t := by rw [List.length_take]; omega
         refine Ok.gd (decide_eq_true (by omega)) (Ok.gd (decide_eq_true (by omega)) ?_)
         refine Ok.bde (nx t hlt) ?_
         refine ih _ ⟨t + 1, by omega, by omega, ?_, rfl⟩ ?_
         · exact (take_succ_at hlt).symm
         · show h.length - (h.take t ++ [h.getD t default]).length < h.length - (h.take t).length
           rw [List.length_append, hl2, List.length_singleton]; omega
       · have ht : t = h.length := by
          rcases Nat.lt_or_ge t h.length with q | q
          · rw [Nat.mod_eq_of_lt q] at he
            exact absurd (by simpa using he) (w.away t (by omega) q)
          · omega
         refine ok_some.2 ?_
         show h.take t = h
         rw [ht, List.take_length]
     · show [h.getD 0 default] = h.take 1
       rw [show (1 : Nat) = 0 + 1 from rfl, take_succ_at (by omega)]; rfl
theorem equal_v9 {n : Nat} {s : List Int} (hn : s.length < n) (hl : s.length ≤ 9223372036854775806) : slices_Equal_int_int n s s = some true := by
 apply Ok.eq
 unfold slices_Equal_int_int
 refine Ok.cd (fun h => by simp at h) (fun _ => ?_)
 refine Ok.bd (R := fun o => match o with | .inl _ => True | .inr r => False) ?_ (fun o ho => by cases o with | inl _ => exact ok_some.2 rfl | inr r => cases ho)
 refine ok_range (len := s.length) (fun _ => True) hn hl trivial ?_ ?_
 · intro again k hk _ ih
   refine Ok.cd (fun _ => ?_) (fun h => by simp at h; omega)
   refine Ok.gd (by rw [inR_nat]; simpa using hk) (Ok.gd (by rw [inR_nat]; simpa using hk) ?_)
   refine Ok.cd (fun h => by simp at h) (fun _ => ih trivial)
 · intro again _
   exact Ok.cd (fun h => by simp at h) (fun _ => ok_some.2 trivial)
theorem bad_hull {n : Nat} (hn : 2100 < n) {l : List api_Pix} (h0 : 0 < l.length) (hl : l.length ≤ 1000) (hb : l.any badP = true) : predicate_Hull n l = some ([], 2) ∧ fiducialref09_Hull n l = some ([], 2) := by
 constructor
 · apply Ok.eq
   unfold predicate_Hull
   refine Ok.cd (fun h => by have := beq_iff_eq.1 h; omega) (fun _ => ?_)
   refine Ok.cd (fun h => by have := of_decide_eq_true h; omega) (fun _ => ?_)
   refine Ok.bde (check_v (by omega) (by omega) (by omega)) ?_
   rw [hb]
   exact Ok.cd (fun _ => ok_some.2 rfl) (fun h => by cases h)
 · apply Ok.eq
   unfold fiducialref09_Hull
   refine Ok.cd (fun h => by have := beq_iff_eq.1 h; omega) (fun _ => ?_)
   refine Ok.cd (fun h => by have := of_decide_eq_true h; omega) (fun _ => ?_)
   refine Ok.bde (all_v (by omega) (by omega)) ?_
   rw [hb]
   exact Ok.cd (fun _ => ok_some.2 rfl) (fun h => by cases h)
theorem least_of {l : List api_Pix} : ∀ (m : Nat) (x : Int), x.toNat ≤ m → 0 ≤ x → x < l.length → ∃ y, Fs l y ∧ gt l y = gt l x
 | 0, x, hm, h0, h1 => ⟨x, ⟨⟨h0, h1⟩, fun y y0 y1 => by omega⟩, rfl⟩
 | m + 1, x, hm, h0, h1 => by
  by_cases h : ∃ y, 0 ≤ y ∧ y < x ∧ gt l y = gt l x
  · obtain ⟨y, y0, y1, e⟩ := h
    obtain ⟨z, hz, ez⟩ := least_of (l := l) m y (by omega) y0 (by omega)
    exact ⟨z, hz, ez.trans e⟩
  · exact ⟨x, ⟨⟨h0, h1⟩, fun y y0 y1 e => h ⟨y, y0, y1, e⟩⟩, rfl⟩
theorem tm (a b : Nat) : ((a : Int)).tmod (b : Int) = ((a % b : Nat) : Int) := rfl
theorem hull_law (l : List api_Pix) : fiduciallaw09_PredicateHull 5000 l = some true := by
 apply Ok.eq
 unfold fiduciallaw09_PredicateHull
 refine Ok.bde known09_v ?_
 refine Ok.cd (fun h => by cases h) (fun _ => ?_)
 refine Ok.cd (fun _ => ok_some.2 rfl) (fun h40 => ?_)
 have h40 : l.length ≤ 40 := by have := of_decide_eq_false h40; omega
 by_cases h0 : l.length = 0
 · have : l = [] := List.length_eq_zero_iff.1 h0
   subst this
   exact Ok.of_eq (a := true) (by rfl) rfl
 cases hb : l.any badP with
 | true =>
  obtain ⟨e1, e2⟩ := bad_hull (n := 5000) (by omega) (by omega) (by omega) hb
  refine Ok.bde e1 (Ok.bde e2 ?_)
  refine Ok.cd (fun h => by simp at h) (fun _ => ?_)
  refine Ok.bde (equal_v9 (by simp) (by simp)) ?_
  refine Ok.cd (fun h => by cases h) (fun _ => ?_)
  exact Ok.of_eq (a := true) (by rfl) rfl
 | false =>
  have hI : AllIn l := fun p hp => by
   have := List.any_eq_false.1 hb p hp
   simpa [In] using this
  have w := hull_ok (by omega) (by omega) hI
  have hF := fun x => ord_mem (l := l) (x := x) (by omega) hI
  refine Ok.bde (hull_v (by omega) (by omega) (by omega) hI) (Ok.bde (rhull_v (by omega) (by omega) (by omega) hI) ?_)
  generalize hullL l = h at w
  dsimp only
  have hlen := w.len
  refine Ok.cd (fun h => by simp at h) (fun _ => ?_)
  refine Ok.bde (equal_v9 (by omega) (by omega)) ?_
  refine Ok.cd (fun h => by cases h) (fun _ => ?_)
  refine Ok.bd (R := fun o => match o with | .inl _ => True | .inr r => r = true) ?_ (fun o ho => by cases o with | inl _ => exact ok_some.2 rfl | inr r => exact ok_some.2 ho)
  refine ok_range (len := h.length) (fun _ => True) (by omega) (by omega) trivial ?_ ?_
  · intro again k hk _ ih
    have hpos := w.pos
    refine Ok.cd (fun _ => ?_) (fun h => by simp at h; omega)
    have e1 : wrapF .i64 ((k : Int) + 1) = ((k + 1 : Nat) : Int) := by rw [wrap64_in (by omega) (by omega)]; omega
    have e2 : wrapF .i64 ((k : Int) + 2) = ((k + 2 : Nat) : Int) := by rw [wrap64_in (by omega) (by omega)]; omega
    rw [e1, e2, tm, tm, inR_nat, inR_nat, inR_nat, gt_nat, gt_nat, gt_nat]
    rw [e1] at ih
    clear e1 e2
    have m1 : (k + 1) % h.length < h.length := Nat.mod_lt _ hpos
    have m2 : (k + 2) % h.length < h.length := Nat.mod_lt _ hpos
    have r0 := w.mem k hk
    have r1 := w.mem _ m1
    have r2 := w.mem _ m2
    refine Ok.gd (decide_eq_true hk) (Ok.gd (inR_iff.2 r0) (Ok.gd (by rw [decide_eq_false (by omega)]; rfl) (Ok.gd (decide_eq_true m1) (Ok.gd (inR_iff.2 r1) ?_))))
    refine Ok.bd (R := fun o => match o with | .inl _ => True | .inr r => False) ?_ ?_
    · refine ok_range (len := l.length) (fun _ => True) (by omega) (by omega) trivial ?_ ?_
      · intro again2 x hx _ ih2
        refine Ok.cd (fun _ => ?_) (fun h => by simp at h; omega)
        refine Ok.gd (by rw [inR_nat]; simpa using hx) ?_
        refine Ok.cd (fun hgt => ?_) (fun _ => ih2 trivial)
        have h2 : 1 < h.length := by have := of_decide_eq_true hgt; omega
        refine Ok.bde (rorient_v (by omega) _ _ _) ?_
        refine Ok.cd (fun hneg => ?_) (fun _ => ih2 trivial)
        exfalso
        have hneg := of_decide_eq_true hneg
        rw [orin (hI.at r0.1 r0.2) (hI.at r1.1 r1.2) (hI.at (by omega) (by omega))] at hneg
        have sc := sgn_cases (crossZ (gt l (h.getD k default)) (gt l (h.getD ((k + 1) % h.length) default)) (gt l (x : Int)))
        obtain ⟨y, fy, ey⟩ := least_of (l := l) x x (by omega) (by omega) (by omega)
        rw [← ey] at sc hneg
        have ed := w.edge h2 k hk
        have hnn : 0 ≤ crossZ (gt l (h.getD k default)) (gt l (h.getD ((k + 1) % h.length) default)) (gt l y) := by
         by_cases ya : y = h.getD k default
         · rw [ya, (cross_same _ _).1]; exact Int.le_refl 0
         · by_cases yb : y = h.getD ((k + 1) % h.length) default
           · rw [yb, (cross_same _ _).2]; exact Int.le_refl 0
           · rcases ed.out y ((hF y).2 fy) ya yb with q | q <;> omega
        omega
      · intro again2 _
        exact Ok.cd (fun h => by simp at h) (fun _ => ok_some.2 trivial)
    · intro o ho
      cases o with
      | inr r => cases ho
      | inl _ =>
       refine Ok.cd (fun h3 => ?_) (fun _ => ih trivial)
       have h3 : 2 < h.length := by have := of_decide_eq_true h3; omega
       refine Ok.gd (decide_eq_true m2) (Ok.gd (inR_iff.2 r2) ?_)
       refine Ok.bde (rorient_v (by omega) _ _ _) ?_
       rw [orin (hI.at r0.1 r0.2) (hI.at r1.1 r1.2) (hI.at r2.1 r2.2)]
       have ed1 := w.edge (by omega) k hk
       have ed2 := w.edge (by omega) _ m1
       have em : ((k + 1) % h.length + 1) % h.length = (k + 2) % h.length := by rw [Nat.mod_add_mod]
       rw [em] at ed2
       have := left_turn (p0 := 0) ed1 ed2 (w.apart h3 k hk)
       have sc := sgn_cases (crossZ (gt l (h.getD k default)) (gt l (h.getD ((k + 1) % h.length) default)) (gt l (h.getD ((k + 2) % h.length) default)))
       have e1 : sgn (crossZ (gt l (h.getD k default)) (gt l (h.getD ((k + 1) % h.length) default)) (gt l (h.getD ((k + 2) % h.length) default))) = 1 := by omega
       rw [e1]
       exact Ok.cd (fun h => by simp at h) (fun _ => ih trivial)
  · intro again _
    exact Ok.cd (fun h => by simp at h) (fun _ => ok_some.2 trivial)
end Go.L

