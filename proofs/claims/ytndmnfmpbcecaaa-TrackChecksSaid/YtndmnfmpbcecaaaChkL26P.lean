import Derived.Test.YtndmnfmpbcecaaaChkL26S
set_option linter.all false
namespace Go.L
open Go Go.Eng
theorem rel26_marks {S : Tis} {m m' : api_Mark} (h : rel26 S m m') : m = m' ∨ (marks26 S m ∧ marks26 S m') := by
 have : ∀ L : Tis, ∀ E : RelM, (∀ a b, E a b → a = b ∨ (marks26 S a ∧ marks26 S b)) → (∀ t ∈ L, t ∈ S) → ∀ a b, (L.foldl stp26 E) a b → a = b ∨ (marks26 S a ∧ marks26 S b) := by
  intro L
  induction L with
  | nil => intro E hE _ a b h; exact hE a b h
  | cons t L ih =>
   intro E hE hL a b h
   refine ih _ ?_ (fun s hs => hL s (by simp [hs])) a b h
   have mA : marks26 S t.A := ⟨t, hL t (by simp), .inl rfl⟩
   have mB : marks26 S t.B := ⟨t, hL t (by simp), .inr rfl⟩
   have inM : ∀ a b, E a b → marks26 S b → marks26 S a := fun a b h hb => by
    rcases hE a b h with e | ⟨g, _⟩
    · rw [e]; exact hb
    · exact g
   rintro a b (g | ⟨_, ⟨g1, g2⟩ | ⟨g1, g2⟩⟩)
   · exact hE a b g
   · exact .inr ⟨inM _ _ g1 mA, inM _ _ g2 mB⟩
   · exact .inr ⟨inM _ _ g1 mB, inM _ _ g2 mA⟩
 exact this S Eq (fun a b h => .inl h) (fun _ h => h) m m' h
theorem canon_len {S : Tis} {ts : List Mks} (hvS : ∀ t ∈ S, okT t) (hC : Canon (rel26 S) (marks26 S) ts) : (∀ t ∈ ts, t.length ≤ 64) ∧ ts.length ≤ 2 * S.length := by
 have hq := rel26_eqv S
 have hlen : ∀ t ∈ ts, t.length ≤ 64 := fun t ht => by
  have hr : (t.map fun m => m.Image.toNat).Nodup := by
   refine List.Pairwise.map (R := fun a b => a ∈ t ∧ b ∈ t ∧ kM a < kM b) _ ?_ ?_
   · rintro a b ⟨ha, hb, hab⟩ e
     have oa := marks_ok hvS (hC.val t ht a ha)
     have ob := marks_ok hvS (hC.val t ht b hb)
     have := hq.inj (hC.rel t ht a ha b hb) (by have := oa.1; have := ob.1; omega)
     rw [this] at hab; omega
   · exact (hC.srt t ht).imp_of_mem fun ha hb h => ⟨ha, hb, h⟩
  have := nodup_le hr (b := List.range 64) (fun x hx => by
   obtain ⟨m, hm, rfl⟩ := List.mem_map.1 hx
   have := (marks_ok hvS (hC.val t ht m hm)).1
   exact List.mem_range.2 (by omega))
  simpa using this
 have hts : ts.length ≤ 2 * S.length := by
  have hn : (ts.map hd26).Nodup := by
   refine List.Pairwise.map (R := fun a b => kM (hd26 a) < kM (hd26 b)) _ (fun a b h e => by rw [e] at h; omega) (hC.ord.imp fun h => h.1)
  have hsub : ∀ x ∈ ts.map hd26, x ∈ S.map (·.A) ++ S.map (·.B) := fun x hx => by
   obtain ⟨t, ht, rfl⟩ := List.mem_map.1 hx
   have hne : t ≠ [] := by intro e; have := hC.two t ht; rw [e] at this; simp at this
   obtain ⟨y, hy, h | h⟩ := hC.val t ht _ (hd_mem hne)
   · rw [h]; exact List.mem_append_left _ (List.mem_map.2 ⟨y, hy, rfl⟩)
   · rw [h]; exact List.mem_append_right _ (List.mem_map.2 ⟨y, hy, rfl⟩)
  have gen : ∀ {a b : Mks}, a.Nodup → (∀ x ∈ a, x ∈ b) → a.length ≤ b.length := by
   intro a
   induction a with
   | nil => intro b _ _; exact Nat.zero_le _
   | cons x a ih =>
    intro b h hs
    obtain ⟨h1, h2⟩ := List.nodup_cons.1 h
    have hx := hs x (by simp)
    have := ih (b := b.erase x) h2 fun y hy => by
     have hne : y ≠ x := by rintro rfl; exact h1 hy
     exact (List.mem_erase_of_ne hne).2 (hs y (by simp [hy]))
    rw [List.length_erase_of_mem hx] at this
    have := List.length_pos_of_mem hx
    simp only [List.length_cons]; omega
  have := gen hn hsub
  simp at this; omega
 exact ⟨hlen, hts⟩
theorem loop_two {γ : Type} [Inhabited γ] {n : Nat} {s t : List γ} {f : γ → γ → Option Bool} (he : s.length = t.length) (hf : ∀ k : Nat, k < s.length → ∃ b, f (gt s k) (gt t k) = some b ∧ (b = true ↔ gt s k = gt t k)) (hn : s.length < n) (hl : s.length ≤ 9223372036854775806) :
  Ok (bdO (loopO (α := Int) (β := Sum (Unit) (Bool)) n (fun again x => cdO (decide (x < (s.length : Int))) (gdO (inR x s.length) (gdO (inR x t.length) (bdO (f (gt s x) (gt t x)) fun v => (cdO (!v) (some (Sum.inr (false))) (again (wrapF .i64 (x + 1))))))) (some (Sum.inl ()))) 0) (fun o => match o with | .inl _ => some true | .inr r0 => some r0)) (fun b => b = true ↔ s = t) := by
 refine Ok.bd (R := fun o => (o = Sum.inl () ∧ s = t) ∨ (o = Sum.inr false ∧ s ≠ t)) ?_ ?_
 · refine ok_range (len := s.length) (fun k => ∀ j : Nat, j < k → gt s (j : Int) = gt t (j : Int)) hn hl (fun j h => by omega) ?_ ?_
   · intro again k hk h ih
     refine Ok.cd (fun _ => ?_) (fun h => by have := of_decide_eq_false h; omega)
     refine Ok.gd (by rw [inR_nat]; exact decide_eq_true hk) (Ok.gd (by rw [inR_nat]; exact decide_eq_true (by omega)) ?_)
     obtain ⟨b, h1, h2⟩ := hf k hk
     refine Ok.bde h1 (Ok.cd (fun hb => ok_some.2 (.inr ⟨rfl, fun e => ?_⟩)) (fun hb => ih fun j hj => ?_))
     · subst e
       rw [h2.2 rfl] at hb; cases hb
     · by_cases e : j = k
       · subst e; exact h2.1 (by simpa using hb)
       · exact h j (by omega)
   · intro again h
     refine Ok.cd (fun h => by have := of_decide_eq_true h; omega) (fun _ => ok_some.2 (.inl ⟨rfl, ?_⟩))
     refine List.ext_getElem he fun i h1 h2 => ?_
     have := h i h1
     rw [gt_nat, gt_nat] at this
     simpa [List.getD, List.getElem?_eq_getElem h1, List.getElem?_eq_getElem h2] using this
 · rintro o (⟨rfl, h⟩ | ⟨rfl, h⟩)
   · exact ok_some.2 ⟨fun _ => h, fun _ => rfl⟩
   · exact ok_some.2 ⟨fun e => (by cases e), fun e => (h e).elim⟩
theorem marksEq2_v {n : Nat} {s t : Mks} (hn : s.length < n) (hl : s.length ≤ 9223372036854775806) : Ok (slices_Equal_fiducial_api_Mark_fiducial_api_Mark n s t) (fun b => b = true ↔ s = t) := by
 unfold slices_Equal_fiducial_api_Mark_fiducial_api_Mark
 refine Ok.cd (fun h => ok_some.2 ⟨fun e => (by cases e), fun e => (by subst e; simp at h)⟩) (fun h => ?_)
 have he : s.length = t.length := by
  have : (s.length : Int) = (t.length : Int) := by simpa using h
  omega
 exact loop_two (f := fun x y => some (eqM x y)) he (fun k hk => ⟨_, rfl, eqM_iff⟩) hn hl
theorem same26_two {n : Nat} {s t : List Mks} (hn : s.length < n) (hl : s.length ≤ 9223372036854775806) (hm : ∀ t ∈ s, t.length < n ∧ t.length ≤ 9223372036854775806) : Ok (fiduciallaw26_Same n s t) (fun b => b = true ↔ s = t) := by
 unfold fiduciallaw26_Same slices_EqualFunc_fiducial_api_Mark_fiducial_api_Mark_fiducial_api_Mark_fiducial_api_Mark_of_fiduciallaw26_Same_1
 refine Ok.bd (R := fun b => b = true ↔ s = t) ?_ (fun b h => ok_some.2 h)
 refine Ok.cd (fun h => ok_some.2 ⟨fun e => (by cases e), fun e => (by subst e; simp at h)⟩) (fun h => ?_)
 have he : s.length = t.length := by
  have : (s.length : Int) = (t.length : Int) := by simpa using h
  omega
 refine loop_two (f := fiduciallaw26_Same_1 n) he (fun k hk => ?_) hn hl
 have := hm _ (gt_in hk)
 unfold fiduciallaw26_Same_1
 obtain ⟨b, h1, h2⟩ := marksEq2_v (t := gt t (k : Int)) this.1 this.2
 exact ⟨b, by rw [h1]; rfl, h2⟩
end Go.L


set_option linter.all false
namespace Go.L
open Go Go.Eng
theorem or_v {n : Nat} (hn : 5 < n) (x y : Int) : cmp_Or_int n [x, y] = some (if x = 0 then y else x) := by
 apply Ok.eq
 unfold cmp_Or_int
 refine Ok.bd (R := fun o => o = if x = 0 then (if y = 0 then Sum.inl () else Sum.inr y) else Sum.inr x) ?_ ?_
 · have l2 : ∀ x y : Int, ([x, y] : List Int).length = 2 := fun _ _ => rfl
   refine ok_range (len := 2) (fun k => (1 ≤ k → x = 0) ∧ (2 ≤ k → y = 0)) (by omega) (by omega) ⟨by omega, by omega⟩ ?_ ?_
   · rintro again k hk ⟨h1, h2⟩ ih
     rw [l2]
     refine Ok.cd (fun _ => ?_) (fun h => by have := of_decide_eq_false h; omega)
     refine Ok.gd (by rw [inR_nat]; exact decide_eq_true hk) ?_
     match k, hk with
     | 0, _ =>
      show Ok (cdO (x != 0) (some (Sum.inr x)) (again (wrapF .i64 (((0 : Nat) : Int) + 1)))) _
      refine Ok.cd (fun h => ok_some.2 ?_) (fun h => ih ⟨fun _ => by simpa using h, by omega⟩)
      rw [if_neg (by simpa using h)]
     | 1, _ =>
      show Ok (cdO (y != 0) (some (Sum.inr y)) (again (wrapF .i64 (((1 : Nat) : Int) + 1)))) _
      have e := h1 (by omega)
      refine Ok.cd (fun h => ok_some.2 ?_) (fun h => ih ⟨fun _ => e, fun _ => by simpa using h⟩)
      rw [if_pos e, if_neg (by simpa using h)]
   · rintro again ⟨h1, h2⟩
     rw [l2]
     refine Ok.cd (fun h => by have := of_decide_eq_true h; omega) (fun _ => ok_some.2 ?_)
     rw [if_pos (h1 (by omega)), if_pos (h2 (by omega))]
 · rintro o rfl
   by_cases h : x = 0
   · rw [if_pos h, if_pos h]
     by_cases g : y = 0
     · rw [if_pos g, g]; exact ok_some.2 rfl
     · rw [if_neg g]; exact ok_some.2 rfl
   · rw [if_neg h, if_neg h]; exact ok_some.2 rfl
theorem mark26_v {n : Nat} (hn : 5 < n) (a b : api_Mark) : fiduciallaw26_mark n a b = some (cM a b) := by
 unfold fiduciallaw26_mark
 rw [cmpI_v, cmpI_v]
 show bdO (cmp_Or_int n [_, _]) _ = _
 rw [or_v hn]
 show some _ = _
 congr 1
 unfold cM
 split <;> split <;> simp_all <;> omega
end Go.L


set_option linter.all false
namespace Go.L
open Go Go.Eng
structure Part (E : RelM) (V : api_Mark → Prop) (T : List Mks) : Prop where
 nd : ∀ u ∈ T, u.Nodup
 val : ∀ u ∈ T, ∀ m ∈ u, V m
 rel : ∀ u ∈ T, ∀ m ∈ u, ∀ m' ∈ u, E m m'
 all : ∀ m m', V m → V m' → E m m' → ∃ u ∈ T, m ∈ u ∧ m' ∈ u
 sep : T.Pairwise (fun a b => ∀ x ∈ a, ∀ y ∈ b, ¬ E x y)
theorem mem_gt {γ : Type} [Inhabited γ] {T : List γ} {u : γ} (h : u ∈ T) : ∃ k : Nat, k < T.length ∧ u = gt T (k : Int) := by
 obtain ⟨k, hk, rfl⟩ := List.getElem_of_mem h
 exact ⟨k, hk, by rw [gt_nat]; simp [List.getD, List.getElem?_eq_getElem hk]⟩
theorem gtE {γ : Type} [Inhabited γ] {T : List γ} {k : Nat} (h : k < T.length) : gt T (k : Int) = T[k] := by rw [gt_nat]; simp [List.getD, List.getElem?_eq_getElem h]
theorem Part.sepI {E : RelM} {V : api_Mark → Prop} {T : List Mks} (hP : Part E V T) (hs : ∀ {x y}, E x y → E y x) {a b : Nat} (ha : a < T.length) (hb : b < T.length) (hne : a ≠ b) {x y : api_Mark} (hx : x ∈ gt T (a : Int)) (hy : y ∈ gt T (b : Int)) : ¬ E x y := by
 rw [gtE ha] at hx
 rw [gtE hb] at hy
 have h := List.pairwise_iff_getElem.1 hP.sep
 rcases Nat.lt_or_gt_of_ne hne with g | g
 · exact h a b ha hb g x hx y hy
 · exact fun hr => h b a hb ha g y hy x hx (hs hr)
theorem Part.stay {E : RelM} {V : api_Mark → Prop} {T : List Mks} (hP : Part E V T) {t : api_Tie} (c : clash E t.A t.B) : Part (stp26 E t) V T :=
 ⟨hP.nd, hP.val, fun u hu m h m' h' => .inl (hP.rel u hu m h m' h'), fun m m' v v' hr => hP.all m m' v v' ((stp26_stay c _ _).1 hr), hP.sep.imp fun h x hx y hy hr => h x hx y hy ((stp26_stay c _ _).1 hr)⟩
theorem Part.cls {E : RelM} {V : api_Mark → Prop} {T : List Mks} (hE : Eqv E) (hP : Part E V T) (hm : ∀ m m', E m m' → m = m' ∨ (V m ∧ V m')) {i : Nat} (hi : i < T.length) {a m : api_Mark} (ha : a ∈ gt T (i : Int)) (hr : E a m) : m ∈ gt T (i : Int) := by
 rcases hm _ _ hr with rfl | ⟨va, vm⟩
 · exact ha
 · obtain ⟨u, hu, h1, h2⟩ := hP.all a m va vm hr
   obtain ⟨k, hk, rfl⟩ := mem_gt hu
   by_cases e : k = i
   · subst e; exact h2
   · exact (hP.sepI (fun h => hE.symm h) hk hi e h1 ha (hE.refl a)).elim
theorem Part.clash {E : RelM} {V : api_Mark → Prop} {T : List Mks} (hE : Eqv E) (hP : Part E V T) (hm : ∀ m m', E m m' → m = m' ∨ (V m ∧ V m')) {i j : Nat} (hi : i < T.length) (hj : j < T.length) {a b : api_Mark} (ha : a ∈ gt T (i : Int)) (hb : b ∈ gt T (j : Int)) :
  Go.L.clash E a b ↔ ∃ m ∈ gt T (i : Int), ∃ m' ∈ gt T (j : Int), m.Image = m'.Image := by
 constructor
 · rintro ⟨m, m', h1, h2, h3⟩
   exact ⟨m, hP.cls hE hm hi ha h1, m', hP.cls hE hm hj hb h2, h3⟩
 · rintro ⟨m, h1, m', h2, h3⟩
   exact ⟨m, m', hP.rel _ (by rw [gtE hi]; exact List.getElem_mem hi) _ ha _ h1, hP.rel _ (by rw [gtE hj]; exact List.getElem_mem hj) _ hb _ h2, h3⟩
theorem Part.join {E : RelM} {V : api_Mark → Prop} {T : List Mks} {t : api_Tie} {i j : Nat} (hE : Eqv E) (hP : Part E V T) (hm : ∀ m m', E m m' → m = m' ∨ (V m ∧ V m')) (hi : i < T.length) (hj : j < T.length) (hij : i ≠ j)
  (hA : t.A ∈ gt T (i : Int)) (hB : t.B ∈ gt T (j : Int)) (nc : ¬ Go.L.clash E t.A t.B) :
  Part (stp26 E t) V ((T.set i (gt T (i : Int) ++ gt T (j : Int))).take j ++ (T.set i (gt T (i : Int) ++ gt T (j : Int))).drop (j + 1)) := by
 have hs : ∀ {x y}, E x y → E y x := fun h => hE.symm h
 have hti : gt T (i : Int) ∈ T := by rw [gtE hi]; exact List.getElem_mem hi
 have htj : gt T (j : Int) ∈ T := by rw [gtE hj]; exact List.getElem_mem hj
 have sp := fun {a b : Nat} (ha : a < T.length) (hb : b < T.length) (hne : a ≠ b) {x y : api_Mark} (hx : x ∈ gt T (a : Int)) (hy : y ∈ gt T (b : Int)) => hP.sepI hs ha hb hne hx hy
 rw [← List.eraseIdx_eq_take_drop_succ]
 have hmem : ∀ u, u ∈ (T.set i (gt T (i : Int) ++ gt T (j : Int))).eraseIdx j ↔ u = gt T (i : Int) ++ gt T (j : Int) ∨ ∃ k, k < T.length ∧ k ≠ i ∧ k ≠ j ∧ u = gt T (k : Int) := fun u => by
  rw [List.mem_eraseIdx_iff_getElem]
  constructor
  · rintro ⟨k, hk, hne, rfl⟩
    rw [List.length_set] at hk
    rw [List.getElem_set]
    by_cases e : i = k
    · rw [if_pos e]; exact .inl rfl
    · rw [if_neg e]; exact .inr ⟨k, hk, fun h => e h.symm, hne, (gtE hk).symm⟩
  · rintro (rfl | ⟨k, hk, h1, h2, rfl⟩)
    · exact ⟨i, by rw [List.length_set]; exact hi, hij, by rw [List.getElem_set, if_pos rfl]⟩
    · exact ⟨k, by rw [List.length_set]; exact hk, h2, by rw [List.getElem_set, if_neg (fun h => h1 h.symm), gtE hk]⟩
 have inX : ∀ {m}, m ∈ gt T (i : Int) ++ gt T (j : Int) ↔ m ∈ gt T (i : Int) ∨ m ∈ gt T (j : Int) := fun {m} => List.mem_append
 have out1 : ∀ {k x}, k < T.length → k ≠ i → k ≠ j → x ∈ gt T (k : Int) → ¬ E x t.A ∧ ¬ E x t.B := fun hk h1 h2 hx => ⟨sp hk hi h1 hx hA, sp hk hj h2 hx hB⟩
 have D1 : ∀ {a b x y}, a < T.length → b < T.length → a ≠ b → a ≠ i → a ≠ j → x ∈ gt T (a : Int) → y ∈ gt T (b : Int) → ¬ stp26 E t x y := by
  intro a b x y ha hb hne h1 h2 hx hy hr
  have o := out1 ha h1 h2 hx
  rcases hr with hr | ⟨_, ⟨k, _⟩ | ⟨k, _⟩⟩
  · exact sp ha hb hne hx hy hr
  · exact o.1 k
  · exact o.2 k
 have hEs := hE.stp t
 refine ⟨fun u hu => ?_, fun u hu m h => ?_, fun u hu m h m' h' => ?_, fun m m' v v' hr => ?_, ?_⟩
 · rcases (hmem u).1 hu with rfl | ⟨k, hk, _, _, rfl⟩
   · rw [List.nodup_append]
     exact ⟨hP.nd _ hti, hP.nd _ htj, fun a ha b hb e => sp hi hj hij ha hb (by rw [e]; exact hE.refl _)⟩
   · exact hP.nd _ (by rw [gtE hk]; exact List.getElem_mem hk)
 · rcases (hmem u).1 hu with rfl | ⟨k, hk, _, _, rfl⟩
   · rcases inX.1 h with h | h
     · exact hP.val _ hti m h
     · exact hP.val _ htj m h
   · exact hP.val _ (by rw [gtE hk]; exact List.getElem_mem hk) m h
 · rcases (hmem u).1 hu with rfl | ⟨k, hk, _, _, rfl⟩
   · rcases inX.1 h with h | h <;> rcases inX.1 h' with h' | h'
     · exact .inl (hP.rel _ hti _ h _ h')
     · exact .inr ⟨nc, .inl ⟨hP.rel _ hti _ h _ hA, hP.rel _ htj _ h' _ hB⟩⟩
     · exact .inr ⟨nc, .inr ⟨hP.rel _ htj _ h _ hB, hP.rel _ hti _ h' _ hA⟩⟩
     · exact .inl (hP.rel _ htj _ h _ h')
   · exact .inl (hP.rel _ (by rw [gtE hk]; exact List.getElem_mem hk) _ h _ h')
 · have X := (hmem _).2 (.inl rfl)
   rcases hr with hr | ⟨_, ⟨h1, h2⟩ | ⟨h1, h2⟩⟩
   · obtain ⟨u, hu, g1, g2⟩ := hP.all m m' v v' hr
     obtain ⟨k, hk, rfl⟩ := mem_gt hu
     by_cases e1 : k = i
     · subst e1; exact ⟨_, X, inX.2 (.inl g1), inX.2 (.inl g2)⟩
     · by_cases e2 : k = j
       · subst e2; exact ⟨_, X, inX.2 (.inr g1), inX.2 (.inr g2)⟩
       · exact ⟨_, (hmem _).2 (.inr ⟨k, hk, e1, e2, rfl⟩), g1, g2⟩
   · exact ⟨_, X, inX.2 (.inl (hP.cls hE hm hi hA (hs h1))), inX.2 (.inr (hP.cls hE hm hj hB (hs h2)))⟩
   · exact ⟨_, X, inX.2 (.inr (hP.cls hE hm hj hB (hs h1))), inX.2 (.inl (hP.cls hE hm hi hA (hs h2)))⟩
 · have e : (T.set i (gt T (i : Int) ++ gt T (j : Int))).eraseIdx j = ((T.set i (gt T (i : Int) ++ gt T (j : Int))).set j []).eraseIdx j := by rw [List.eraseIdx_set_eq]
   rw [e]
   refine List.Pairwise.sublist (List.eraseIdx_sublist _ _) (List.pairwise_iff_getElem.2 fun a b ha hb hab x hx y hy hr => ?_)
   rw [List.length_set, List.length_set] at ha hb
   rw [List.getElem_set] at hx hy
   by_cases aj : j = a
   · rw [if_pos aj] at hx; cases hx
   rw [if_neg aj, List.getElem_set] at hx
   by_cases bj : j = b
   · rw [if_pos bj] at hy; cases hy
   rw [if_neg bj, List.getElem_set] at hy
   by_cases ai : i = a
   · rw [if_pos ai] at hx
     rw [if_neg (by omega), ← gtE hb] at hy
     rcases inX.1 hx with hx | hx
     · exact D1 hb hi (by omega) (by omega) (by omega) hy hx (hEs.symm hr)
     · exact D1 hb hj (by omega) (by omega) (by omega) hy hx (hEs.symm hr)
   · rw [if_neg ai, ← gtE ha] at hx
     by_cases bi : i = b
     · rw [if_pos bi] at hy
       rcases inX.1 hy with hy | hy
       · exact D1 ha hi (by omega) (by omega) (by omega) hx hy hr
       · exact D1 ha hj (by omega) (by omega) (by omega) hx hy hr
     · rw [if_neg bi, ← gtE hb] at hy
       exact D1 ha hb (by omega) (by omega) (by omega) hx hy hr
theorem Part.canon {E : RelM} {V : api_Mark → Prop} {T : List Mks} (hE : Eqv E) (hP : Part E V T) (hV : ∀ m, V m → okM m) :
  Canon E V (isrtC (ltK fun u => kM (hd26 u)) ((T.filter fun u => decide (2 ≤ u.length)).map (isrtC (ltK kM)))) := by
 have hs : ∀ {x y}, E x y → E y x := fun h => hE.symm h
 have hL : ∀ u, u ∈ isrtC (ltK fun u => kM (hd26 u)) ((T.filter fun u => decide (2 ≤ u.length)).map (isrtC (ltK kM))) ↔ ∃ w ∈ T, 2 ≤ w.length ∧ u = isrtC (ltK kM) w := fun u => by
  rw [mem_isrtC, List.mem_map]
  constructor
  · rintro ⟨w, hw, rfl⟩
    obtain ⟨h1, h2⟩ := List.mem_filter.1 hw
    exact ⟨w, h1, of_decide_eq_true h2, rfl⟩
  · rintro ⟨w, h1, h2, rfl⟩
    exact ⟨w, List.mem_filter.2 ⟨h1, decide_eq_true h2⟩, rfl⟩
 have hD : ((T.filter fun u => decide (2 ≤ u.length)).map (isrtC (ltK kM))).Pairwise (fun a b => ∀ x ∈ a, ∀ y ∈ b, ¬ E x y) := by
  rw [List.pairwise_map]
  exact (hP.sep.filter _).imp fun h x hx y hy => h x (mem_isrtC.1 hx) y (mem_isrtC.1 hy)
 have two : ∀ u ∈ (T.filter fun u => decide (2 ≤ u.length)).map (isrtC (ltK kM)), 2 ≤ u.length := fun u hu => by
  obtain ⟨w, h1, h2, rfl⟩ := (hL u).1 (mem_isrtC.2 hu)
  rw [len_isrtC]; exact h2
 have hn : ∀ u ∈ (T.filter fun u => decide (2 ≤ u.length)).map (isrtC (ltK kM)), u ≠ [] := fun u hu e => by have := two u hu; rw [e] at this; simp at this
 have ok : ∀ u ∈ (T.filter fun u => decide (2 ≤ u.length)).map (isrtC (ltK kM)), ∀ m ∈ u, okM m := fun u hu m h => by
  obtain ⟨w, h1, h2, rfl⟩ := (hL u).1 (mem_isrtC.2 hu)
  exact hV m (hP.val w h1 m (mem_isrtC.1 h))
 refine ⟨fun u hu => two u (mem_isrtC.1 hu), fun u hu => ?_, fun u hu m h => ?_, fun u hu m h m' h' => ?_, fun m m' v v' hne hr => ?_, ?_⟩
 · obtain ⟨w, h1, h2, rfl⟩ := (hL u).1 hu
   exact pw_isrtC (List.Pairwise.imp_of_mem (R := fun a b => a ≠ b) (fun {a b} ha hb h e => h (kM_inj (hV a (hP.val w h1 a ha)) (hV b (hP.val w h1 b hb)) e)) (hP.nd w h1))
 · obtain ⟨w, h1, h2, rfl⟩ := (hL u).1 hu
   exact hP.val w h1 m (mem_isrtC.1 h)
 · obtain ⟨w, h1, h2, rfl⟩ := (hL u).1 hu
   exact hP.rel w h1 m (mem_isrtC.1 h) m' (mem_isrtC.1 h')
 · obtain ⟨w, hw, g1, g2⟩ := hP.all m m' v v' hr
   have h2 : 2 ≤ w.length := by
    match w, g1, g2 with
    | [x], h1, h2 => simp at h1 h2; exact (hne (h1.trans h2.symm)).elim
    | x :: y :: w, _, _ => simp
   exact ⟨_, (hL _).2 ⟨w, hw, h2, rfl⟩, mem_isrtC.2 g1, mem_isrtC.2 g2⟩
 · have hk : (isrtC (ltK fun u => kM (hd26 u)) ((T.filter fun u => decide (2 ≤ u.length)).map (isrtC (ltK kM)))).Pairwise (fun a b => kM (hd26 a) < kM (hd26 b)) := by
    refine pw_isrtC (hD.imp_of_mem fun {a b} ha hb h e => ?_)
    have h1 := hd_mem (hn a ha)
    have h2 := hd_mem (hn b hb)
    have := kM_inj (ok a ha _ h1) (ok b hb _ h2) e
    exact h _ h1 _ h2 (by rw [this]; exact hE.refl _)
   refine hk.imp_of_mem fun {a b} ha hb h => ⟨h, ?_⟩
   rcases pw_or hD (mem_isrtC.1 ha) (mem_isrtC.1 hb) with e | e | e
   · rw [e] at h; omega
   · exact e
   · exact fun x hx y hy hr => e y hy x hx (hs hr)
theorem stp_twice {E : RelM} (hE : Eqv E) (t : api_Tie) : stp26 (stp26 E t) t = stp26 E t := by
 have hEs := hE.stp t
 have c : clash (stp26 E t) t.A t.B := by
  by_cases h : clash E t.A t.B
  · obtain ⟨m, m', h1, h2, h3⟩ := h
    exact ⟨m, m', .inl h1, .inl h2, h3⟩
  · exact ⟨t.B, t.B, .inr ⟨h, .inl ⟨hE.refl _, hE.refl _⟩⟩, hEs.refl _, rfl⟩
 funext x y
 exact propext (stp26_stay c x y)
theorem fold_kp {s : Tis} : ∀ t, t ≤ s.length → rel26 (kpG eqT s t) = rel26 (s.take t)
 | 0, _ => rfl
 | t + 1, h => by
  have ih := fold_kp (s := s) t (by omega)
  have htk : s.take (t + 1) = s.take t ++ [s.getD t default] := takeG (by omega)
  unfold kpG
  rw [htk, rel26_snoc]
  split
  · rw [rel26_snoc, ih]
  · rename_i hn
    rw [ih]
    have h0 : t ≠ 0 := fun e => hn (.inl e)
    have he : eqT (s.getD t default) (s.getD (t - 1) default) = true := by
     cases hh : eqT (s.getD t default) (s.getD (t - 1) default) with
     | true => rfl
     | false => exact (hn (.inr hh)).elim
    have he := eqT_iff.1 he
    have htk' : s.take t = s.take (t - 1) ++ [s.getD (t - 1) default] := by
     have := takeG (s := s) (k := t - 1) (by omega)
     rwa [show t - 1 + 1 = t by omega] at this
    rw [htk', rel26_snoc, he, stp_twice (rel26_eqv _)]
theorem rel_sorted {l : Tis} : rel26 (ordT l) = rel26 (isrtC (ltK kT) l) := by
 unfold ordT
 rw [fold_kp _ (by rw [len_isrtC]; exact Nat.le_refl _), List.take_of_length_le (by rw [len_isrtC]; exact Nat.le_refl _)]
end Go.L

