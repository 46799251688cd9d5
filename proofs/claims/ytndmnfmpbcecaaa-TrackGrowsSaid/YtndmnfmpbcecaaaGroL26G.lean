import Derived.Test.YtndmnfmpbcecaaaGroL26S
set_option linter.all false
namespace Go.L
open Go Go.Eng
theorem rel26_marks {S : Tis} {m m' : api_Mark} (h : rel26 S m m') : m = m' ∨ (marks26 S m ∧ marks26 S m') := by
 have : ∀ L : Tis, ∀ E : RelM, (∀ a b, E a b → a = b ∨ (marks26 S a ∧ marks26 S b)) → (∀ t ∈ L, t ∈ S) → ∀ a b, (L.foldl stp26 E) a b → a = b ∨ (marks26 S a ∧ marks26 S b) := by
  intro L
  induction L with
  | nil => intro E hE _ a b h; exact hE a b h
  | cons t L ih =>
   intro E hE hL a b h
   refine ih _ ?_ (fun s hs => hL s (by simp [hs])) a b h
   have mA : marks26 S t.A := ⟨t, hL t (by simp), .inl rfl⟩
   have mB : marks26 S t.B := ⟨t, hL t (by simp), .inr rfl⟩
   have inM : ∀ a b, E a b → marks26 S b → marks26 S a := fun a b h hb => by
    rcases hE a b h with e | ⟨g, _⟩
    · rw [e]; exact hb
    · exact g
   rintro a b (g | ⟨_, ⟨g1, g2⟩ | ⟨g1, g2⟩⟩)
   · exact hE a b g
   · exact .inr ⟨inM _ _ g1 mA, inM _ _ g2 mB⟩
   · exact .inr ⟨inM _ _ g1 mB, inM _ _ g2 mA⟩
 exact this S Eq (fun a b h => .inl h) (fun _ h => h) m m' h
theorem canon_len {S : Tis} {ts : List Mks} (hvS : ∀ t ∈ S, okT t) (hC : Canon (rel26 S) (marks26 S) ts) : (∀ t ∈ ts, t.length ≤ 64) ∧ ts.length ≤ 2 * S.length := by
 have hq := rel26_eqv S
 have hlen : ∀ t ∈ ts, t.length ≤ 64 := fun t ht => by
  have hr : (t.map fun m => m.Image.toNat).Nodup := by
   refine List.Pairwise.map (R := fun a b => a ∈ t ∧ b ∈ t ∧ kM a < kM b) _ ?_ ?_
   · rintro a b ⟨ha, hb, hab⟩ e
     have oa := marks_ok hvS (hC.val t ht a ha)
     have ob := marks_ok hvS (hC.val t ht b hb)
     have := hq.inj (hC.rel t ht a ha b hb) (by have := oa.1; have := ob.1; omega)
     rw [this] at hab; omega
   · exact (hC.srt t ht).imp_of_mem fun ha hb h => ⟨ha, hb, h⟩
  have := nodup_le hr (b := List.range 64) (fun x hx => by
   obtain ⟨m, hm, rfl⟩ := List.mem_map.1 hx
   have := (marks_ok hvS (hC.val t ht m hm)).1
   exact List.mem_range.2 (by omega))
  simpa using this
 have hts : ts.length ≤ 2 * S.length := by
  have hn : (ts.map hd26).Nodup := by
   refine List.Pairwise.map (R := fun a b => kM (hd26 a) < kM (hd26 b)) _ (fun a b h e => by rw [e] at h; omega) (hC.ord.imp fun h => h.1)
  have hsub : ∀ x ∈ ts.map hd26, x ∈ S.map (·.A) ++ S.map (·.B) := fun x hx => by
   obtain ⟨t, ht, rfl⟩ := List.mem_map.1 hx
   have hne : t ≠ [] := by intro e; have := hC.two t ht; rw [e] at this; simp at this
   obtain ⟨y, hy, h | h⟩ := hC.val t ht _ (hd_mem hne)
   · rw [h]; exact List.mem_append_left _ (List.mem_map.2 ⟨y, hy, rfl⟩)
   · rw [h]; exact List.mem_append_right _ (List.mem_map.2 ⟨y, hy, rfl⟩)
  have gen : ∀ {a b : Mks}, a.Nodup → (∀ x ∈ a, x ∈ b) → a.length ≤ b.length := by
   intro a
   induction a with
   | nil => intro b _ _; exact Nat.zero_le _
   | cons x a ih =>
    intro b h hs
    obtain ⟨h1, h2⟩ := List.nodup_cons.1 h
    have hx := hs x (by simp)
    have := ih (b := b.erase x) h2 fun y hy => by
     have hne : y ≠ x := by rintro rfl; exact h1 hy
     exact (List.mem_erase_of_ne hne).2 (hs y (by simp [hy]))
    rw [List.length_erase_of_mem hx] at this
    have := List.length_pos_of_mem hx
    simp only [List.length_cons]; omega
  have := gen hn hsub
  simp at this; omega
 exact ⟨hlen, hts⟩
theorem loop_two {γ : Type} [Inhabited γ] {n : Nat} {s t : List γ} {f : γ → γ → Option Bool} (he : s.length = t.length) (hf : ∀ k : Nat, k < s.length → ∃ b, f (gt s k) (gt t k) = some b ∧ (b = true ↔ gt s k = gt t k)) (hn : s.length < n) (hl : s.length ≤ 9223372036854775806) :
  Ok (bdO (loopO (α := Int) (β := Sum (Unit) (Bool)) n (fun again x => cdO (decide (x < (s.length : Int))) (gdO (inR x s.length) (gdO (inR x t.length) (bdO (f (gt s x) (gt t x)) fun v => (cdO (!v) (some (Sum.inr (false))) (again (wrapF .i64 (x + 1))))))) (some (Sum.inl ()))) 0) (fun o => match o with | .inl _ => some true | .inr r0 => some r0)) (fun b => b = true ↔ s = t) := by
 refine Ok.bd (R := fun o => (o = Sum.inl () ∧ s = t) ∨ (o = Sum.inr false ∧ s ≠ t)) ?_ ?_
 · refine ok_range (len := s.length) (fun k => ∀ j : Nat, j < k → gt s (j : Int) = gt t (j : Int)) hn hl (fun j h => by omega) ?_ ?_
   · intro again k hk h ih
     refine Ok.cd (fun _ => ?_) (fun h => by have := of_decide_eq_false h; omega)
     refine Ok.gd (by rw [inR_nat]; exact decide_eq_true hk) (Ok.gd (by rw [inR_nat]; exact decide_eq_true (by omega)) ?_)
     obtain ⟨b, h1, h2⟩ := hf k hk
     refine Ok.bde h1 (Ok.cd (fun hb => ok_some.2 (.inr ⟨rfl, fun e => ?_⟩)) (fun hb => ih fun j hj => ?_))
     · subst e
       rw [h2.2 rfl] at hb; cases hb
     · by_cases e : j = k
       · subst e; exact h2.1 (by simpa using hb)
       · exact h j (by omega)
   · intro again h
     refine Ok.cd (fun h => by have := of_decide_eq_true h; omega) (fun _ => ok_some.2 (.inl ⟨rfl, ?_⟩))
     refine List.ext_getElem he fun i h1 h2 => ?_
     have := h i h1
     rw [gt_nat, gt_nat] at this
     simpa [List.getD, List.getElem?_eq_getElem h1, List.getElem?_eq_getElem h2] using this
 · rintro o (⟨rfl, h⟩ | ⟨rfl, h⟩)
   · exact ok_some.2 ⟨fun _ => h, fun _ => rfl⟩
   · exact ok_some.2 ⟨fun e => (by cases e), fun e => (h e).elim⟩
theorem marksEq2_v {n : Nat} {s t : Mks} (hn : s.length < n) (hl : s.length ≤ 9223372036854775806) : Ok (slices_Equal_fiducial_api_Mark_fiducial_api_Mark n s t) (fun b => b = true ↔ s = t) := by
 unfold slices_Equal_fiducial_api_Mark_fiducial_api_Mark
 refine Ok.cd (fun h => ok_some.2 ⟨fun e => (by cases e), fun e => (by subst e; simp at h)⟩) (fun h => ?_)
 have he : s.length = t.length := by
  have : (s.length : Int) = (t.length : Int) := by simpa using h
  omega
 exact loop_two (f := fun x y => some (eqM x y)) he (fun k hk => ⟨_, rfl, eqM_iff⟩) hn hl
theorem same26_two {n : Nat} {s t : List Mks} (hn : s.length < n) (hl : s.length ≤ 9223372036854775806) (hm : ∀ t ∈ s, t.length < n ∧ t.length ≤ 9223372036854775806) : Ok (fiduciallaw26_Same n s t) (fun b => b = true ↔ s = t) := by
 unfold fiduciallaw26_Same slices_EqualFunc_fiducial_api_Mark_fiducial_api_Mark_fiducial_api_Mark_fiducial_api_Mark_of_fiduciallaw26_Same_1
 refine Ok.bd (R := fun b => b = true ↔ s = t) ?_ (fun b h => ok_some.2 h)
 refine Ok.cd (fun h => ok_some.2 ⟨fun e => (by cases e), fun e => (by subst e; simp at h)⟩) (fun h => ?_)
 have he : s.length = t.length := by
  have : (s.length : Int) = (t.length : Int) := by simpa using h
  omega
 refine loop_two (f := fiduciallaw26_Same_1 n) he (fun k hk => ?_) hn hl
 have := hm _ (gt_in hk)
 unfold fiduciallaw26_Same_1
 obtain ⟨b, h1, h2⟩ := marksEq2_v (t := gt t (k : Int)) this.1 this.2
 exact ⟨b, by rw [h1]; rfl, h2⟩
end Go.L


set_option linter.all false
namespace Go.L
open Go Go.Eng
theorem or_v {n : Nat} (hn : 5 < n) (x y : Int) : cmp_Or_int n [x, y] = some (if x = 0 then y else x) := by
 apply Ok.eq
 unfold cmp_Or_int
 refine Ok.bd (R := fun o => o = if x = 0 then (if y = 0 then Sum.inl () else Sum.inr y) else Sum.inr x) ?_ ?_
 · have l2 : ∀ x y : Int, ([x, y] : List Int).length = 2 := fun _ _ => rfl
   refine ok_range (len := 2) (fun k => (1 ≤ k → x = 0) ∧ (2 ≤ k → y = 0)) (by omega) (by omega) ⟨by omega, by omega⟩ ?_ ?_
   · rintro again k hk ⟨h1, h2⟩ ih
     rw [l2]
     refine Ok.cd (fun _ => ?_) (fun h => by have := of_decide_eq_false h; omega)
     refine Ok.gd (by rw [inR_nat]; exact decide_eq_true hk) ?_
     match k, hk with
     | 0, _ =>
      show Ok (cdO (x != 0) (some (Sum.inr x)) (again (wrapF .i64 (((0 : Nat) : Int) + 1)))) _
      refine Ok.cd (fun h => ok_some.2 ?_) (fun h => ih ⟨fun _ => by simpa using h, by omega⟩)
      rw [if_neg (by simpa using h)]
     | 1, _ =>
      show Ok (cdO (y != 0) (some (Sum.inr y)) (again (wrapF .i64 (((1 : Nat) : Int) + 1)))) _
      have e := h1 (by omega)
      refine Ok.cd (fun h => ok_some.2 ?_) (fun h => ih ⟨fun _ => e, fun _ => by simpa using h⟩)
      rw [if_pos e, if_neg (by simpa using h)]
   · rintro again ⟨h1, h2⟩
     rw [l2]
     refine Ok.cd (fun h => by have := of_decide_eq_true h; omega) (fun _ => ok_some.2 ?_)
     rw [if_pos (h1 (by omega)), if_pos (h2 (by omega))]
 · rintro o rfl
   by_cases h : x = 0
   · rw [if_pos h, if_pos h]
     by_cases g : y = 0
     · rw [if_pos g, g]; exact ok_some.2 rfl
     · rw [if_neg g]; exact ok_some.2 rfl
   · rw [if_neg h, if_neg h]; exact ok_some.2 rfl
theorem mark26_v {n : Nat} (hn : 5 < n) (a b : api_Mark) : fiduciallaw26_mark n a b = some (cM a b) := by
 unfold fiduciallaw26_mark
 rw [cmpI_v, cmpI_v]
 show bdO (cmp_Or_int n [_, _]) _ = _
 rw [or_v hn]
 show some _ = _
 congr 1
 unfold cM
 split <;> split <;> simp_all <;> omega
theorem canon_join {E : RelM} {V : api_Mark → Prop} {ts : List Mks} {t : api_Tie} (hE : Eqv E) (hC : Canon E V ts) (hV : ∀ m, V m → okM m) (hA : okM t.A) (hB : okM t.B) (hne : t.A.Image < t.B.Image)
  (hm : ∀ m m', E m m' → m = m' ∨ (V m ∧ V m')) (nc : ¬ clash E t.A t.B) {J : Mks} (hJ : ∀ m, m ∈ J ↔ (∃ u ∈ ts, m ∈ u ∧ (t.A ∈ u ∨ t.B ∈ u)) ∨ m = t.A ∨ m = t.B) (hs : J.Pairwise (fun a b => kM a < kM b)) :
  Canon (stp26 E t) (fun m => V m ∨ m = t.A ∨ m = t.B) (isrtC (ltK fun u => kM (hd26 u)) ((ts.filter fun u => !(decide (t.A ∈ u) || decide (t.B ∈ u))) ++ [J])) := by
 have hEs := hE.stp t
 have hsy : ∀ {x y}, E x y → E y x := fun h => hE.symm h
 have same : ∀ {u x y}, u ∈ ts → x ∈ u → E x y → y ∈ u := fun {u x y} hu hx hxy => by
  rcases hm x y hxy with rfl | ⟨vx, vy⟩
  · exact hx
  · by_cases e : x = y
    · subst e; exact hx
    · obtain ⟨w, hw, g1, g2⟩ := hC.all x y vx vy e hxy
      rw [hC.one hsy hu hw hx g1]; exact g2
 have nab : ¬ E t.A t.B := fun h => nc ⟨t.B, t.B, h, hE.refl _, rfl⟩
 have hJE : ∀ m, m ∈ J ↔ E t.A m ∨ E t.B m := fun m => by
  rw [hJ]
  constructor
  · rintro (⟨u, hu, h1, h2 | h2⟩ | rfl | rfl)
    · exact .inl (hC.rel u hu _ h2 _ h1)
    · exact .inr (hC.rel u hu _ h2 _ h1)
    · exact .inl (hE.refl _)
    · exact .inr (hE.refl _)
  · rintro (h | h)
    · by_cases e : t.A = m
      · exact .inr (.inl e.symm)
      · rcases hm _ _ h with h' | ⟨v1, v2⟩
        · exact (e h').elim
        · obtain ⟨u, hu, g1, g2⟩ := hC.all _ _ v1 v2 e h
          exact .inl ⟨u, hu, g2, .inl g1⟩
    · by_cases e : t.B = m
      · exact .inr (.inr e.symm)
      · rcases hm _ _ h with h' | ⟨v1, v2⟩
        · exact (e h').elim
        · obtain ⟨u, hu, g1, g2⟩ := hC.all _ _ v1 v2 e h
          exact .inl ⟨u, hu, g2, .inr g1⟩
 have hAJ : t.A ∈ J := (hJ _).2 (.inr (.inl rfl))
 have hBJ : t.B ∈ J := (hJ _).2 (.inr (.inr rfl))
 have hAB : t.A ≠ t.B := fun e => by rw [e] at hne; omega
 have hL : ∀ u, u ∈ isrtC (ltK fun u => kM (hd26 u)) ((ts.filter fun u => !(decide (t.A ∈ u) || decide (t.B ∈ u))) ++ [J]) ↔ (u ∈ ts ∧ t.A ∉ u ∧ t.B ∉ u) ∨ u = J := fun u => by
  rw [mem_isrtC, List.mem_append, List.mem_singleton, List.mem_filter]
  simp
 have hout : ∀ {u x}, u ∈ ts → t.A ∉ u → t.B ∉ u → x ∈ u → ¬ E x t.A ∧ ¬ E x t.B := fun {u x} hu h1 h2 hx => ⟨fun h => h1 (same hu hx h), fun h => h2 (same hu hx h)⟩
 have hJ2 : 2 ≤ J.length := by
  match J, hAJ, hBJ with
  | [x], h1, h2 => simp at h1 h2; exact (hAB (h1.trans h2.symm)).elim
  | x :: y :: J, _, _ => simp
 have two : ∀ u ∈ isrtC (ltK fun u => kM (hd26 u)) ((ts.filter fun u => !(decide (t.A ∈ u) || decide (t.B ∈ u))) ++ [J]), 2 ≤ u.length := fun u hu => by
  rcases (hL u).1 hu with ⟨h, _⟩ | rfl
  · exact hC.two u h
  · exact hJ2
 have hD : ((ts.filter fun u => !(decide (t.A ∈ u) || decide (t.B ∈ u))) ++ [J]).Pairwise (fun a b => ∀ x ∈ a, ∀ y ∈ b, ¬ stp26 E t x y) := by
  rw [List.pairwise_append]
  have hmf : ∀ u, u ∈ ts.filter (fun u => !(decide (t.A ∈ u) || decide (t.B ∈ u))) → u ∈ ts ∧ t.A ∉ u ∧ t.B ∉ u := fun u hu => by
   obtain ⟨h1, h2⟩ := List.mem_filter.1 hu
   exact ⟨h1, by simpa using h2⟩
  refine ⟨?_, List.pairwise_singleton _ _, fun a ha b hb x hx y hy hr => ?_⟩
  · refine (hC.ord.filter _).imp_of_mem fun {a b} ha hb h x hx y hy hr => ?_
    obtain ⟨g1, g2, g3⟩ := hmf a ha
    have := hout g1 g2 g3 hx
    rcases hr with hr | ⟨_, ⟨k, _⟩ | ⟨k, _⟩⟩
    · exact h.2 x hx y hy hr
    · exact this.1 k
    · exact this.2 k
  · obtain ⟨g1, g2, g3⟩ := hmf a ha
    have := hout g1 g2 g3 hx
    rw [List.mem_singleton] at hb; subst hb
    rcases hr with hr | ⟨_, ⟨k, _⟩ | ⟨k, _⟩⟩
    · rcases (hJE y).1 hy with k | k
      · exact this.1 (hE.trans hr (hE.symm k))
      · exact this.2 (hE.trans hr (hE.symm k))
    · exact this.1 k
    · exact this.2 k
 have hnn : ∀ u ∈ (ts.filter fun u => !(decide (t.A ∈ u) || decide (t.B ∈ u))) ++ [J], u ≠ [] := fun u hu e => by
  have := two u (mem_isrtC.2 hu); rw [e] at this; simp at this
 refine ⟨two, fun u hu => ?_, fun u hu m h => ?_, fun u hu m h m' h' => ?_, fun m m' vm vm' hne' hr => ?_, ?_⟩
 · rcases (hL u).1 hu with ⟨h, _⟩ | rfl
   · exact hC.srt u h
   · exact hs
 · rcases (hL u).1 hu with ⟨g, _⟩ | rfl
   · exact .inl (hC.val u g m h)
   · rcases (hJ m).1 h with ⟨w, hw, k, _⟩ | k
     · exact .inl (hC.val w hw m k)
     · exact .inr k
 · rcases (hL u).1 hu with ⟨g, _⟩ | rfl
   · exact .inl (hC.rel u g m h m' h')
   · rcases (hJE m).1 h with a | a <;> rcases (hJE m').1 h' with b | b
     · exact .inl (hE.trans (hE.symm a) b)
     · exact .inr ⟨nc, .inl ⟨hE.symm a, hE.symm b⟩⟩
     · exact .inr ⟨nc, .inr ⟨hE.symm a, hE.symm b⟩⟩
     · exact .inl (hE.trans (hE.symm a) b)
 · rcases hr with hr | ⟨_, ⟨g1, g2⟩ | ⟨g1, g2⟩⟩
   · rcases hm _ _ hr with e | ⟨v1, v2⟩
     · exact (hne' e).elim
     · obtain ⟨u, hu, k1, k2⟩ := hC.all m m' v1 v2 hne' hr
       by_cases ha : t.A ∈ u ∨ t.B ∈ u
       · exact ⟨J, (hL J).2 (.inr rfl), (hJ m).2 (.inl ⟨u, hu, k1, ha⟩), (hJ m').2 (.inl ⟨u, hu, k2, ha⟩)⟩
       · exact ⟨u, (hL u).2 (.inl ⟨hu, fun h => ha (.inl h), fun h => ha (.inr h)⟩), k1, k2⟩
   · exact ⟨J, (hL J).2 (.inr rfl), (hJE m).2 (.inl (hE.symm g1)), (hJE m').2 (.inr (hE.symm g2))⟩
   · exact ⟨J, (hL J).2 (.inr rfl), (hJE m).2 (.inr (hE.symm g1)), (hJE m').2 (.inl (hE.symm g2))⟩
 · have hk : (isrtC (ltK fun u => kM (hd26 u)) ((ts.filter fun u => !(decide (t.A ∈ u) || decide (t.B ∈ u))) ++ [J])).Pairwise (fun a b => kM (hd26 a) < kM (hd26 b)) := by
    refine pw_isrtC (hD.imp_of_mem fun {a b} ha hb h e => ?_)
    have h1 := hd_mem (hnn a ha)
    have h2 := hd_mem (hnn b hb)
    have oka : ∀ {u}, u ∈ (ts.filter fun u => !(decide (t.A ∈ u) || decide (t.B ∈ u))) ++ [J] → ∀ m ∈ u, okM m := fun {u} hu m hm' => by
     rcases (hL u).1 (mem_isrtC.2 hu) with ⟨g, _⟩ | rfl
     · exact hV m (hC.val u g m hm')
     · rcases (hJ m).1 hm' with ⟨w, hw, k, _⟩ | k | k
       · exact hV m (hC.val w hw m k)
       · rw [k]; exact hA
       · rw [k]; exact hB
    have := kM_inj (oka ha _ h1) (oka hb _ h2) e
    exact h _ h1 _ h2 (by rw [this]; exact hEs.refl _)
   refine hk.imp_of_mem fun {a b} ha hb h => ⟨h, ?_⟩
   rcases pw_or hD (mem_isrtC.1 ha) (mem_isrtC.1 hb) with e | e | e
   · rw [e] at h; omega
   · exact e
   · exact fun x hx y hy hr => e y hy x hx (hEs.symm hr)
end Go.L

