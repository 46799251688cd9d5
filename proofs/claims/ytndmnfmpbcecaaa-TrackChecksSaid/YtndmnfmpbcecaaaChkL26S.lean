import Derived.Test.YtndmnfmpbcecaaaChkL26h
import Derived.Test.YtndmnfmpbcecaaaChkL26C
set_option linter.all false
namespace Go.L
open Go Go.Eng
def hd26 (t : Mks) : api_Mark := t.getD 0 default
structure Canon (R : RelM) (V : api_Mark → Prop) (ts : List Mks) : Prop where
 two : ∀ t ∈ ts, 2 ≤ t.length
 srt : ∀ t ∈ ts, t.Pairwise (fun a b => kM a < kM b)
 val : ∀ t ∈ ts, ∀ m ∈ t, V m
 rel : ∀ t ∈ ts, ∀ m ∈ t, ∀ m' ∈ t, R m m'
 all : ∀ m m', V m → V m' → m ≠ m' → R m m' → ∃ t ∈ ts, m ∈ t ∧ m' ∈ t
 ord : ts.Pairwise (fun a b => kM (hd26 a) < kM (hd26 b) ∧ ∀ x ∈ a, ∀ y ∈ b, ¬ R x y)
theorem pw_or {γ : Type} {P : γ → γ → Prop} {l : List γ} (h : l.Pairwise P) {a b : γ} (ha : a ∈ l) (hb : b ∈ l) : a = b ∨ P a b ∨ P b a := by
 obtain ⟨i, hi, rfl⟩ := List.getElem_of_mem ha
 obtain ⟨j, hj, rfl⟩ := List.getElem_of_mem hb
 rw [List.pairwise_iff_getElem] at h
 rcases Nat.lt_trichotomy i j with e | e | e
 · exact .inr (.inl (h i j hi hj e))
 · subst e; exact .inl rfl
 · exact .inr (.inr (h j i hj hi e))
theorem Canon.one {R : RelM} {V : api_Mark → Prop} {ts : List Mks} (h : Canon R V ts) (hs : ∀ {x y}, R x y → R y x) {a b : Mks} (ha : a ∈ ts) (hb : b ∈ ts) {m : api_Mark} (h1 : m ∈ a) (h2 : m ∈ b) : a = b := by
 have hr := h.rel a ha m h1 m h1
 rcases pw_or h.ord ha hb with e | e | e
 · exact e
 · exact (e.2 m h1 m h2 hr).elim
 · exact (e.2 m h2 m h1 hr).elim
theorem two_of {t : Mks} (h : 2 ≤ t.length) (hs : t.Pairwise (fun a b => kM a < kM b)) : ∃ m m', m ∈ t ∧ m' ∈ t ∧ m ≠ m' := by
 match t, h, hs with
 | a :: b :: t, _, hs =>
  refine ⟨a, b, by simp, by simp, fun e => ?_⟩
  have := (List.pairwise_cons.1 hs).1 b (by simp)
  rw [e] at this; omega
theorem Canon.unique {R R' : RelM} {V V' : api_Mark → Prop} {ts ts' : List Mks} (h : Canon R V ts) (h' : Canon R' V' ts') (hV : ∀ m, V m ↔ V' m) (hR : ∀ m m', V m → V m' → (R m m' ↔ R' m m')) (hs : ∀ {x y}, R x y → R y x) (hs' : ∀ {x y}, R' x y → R' y x) : ts = ts' := by
 have key : ∀ {R R' : RelM} {V V' : api_Mark → Prop} {ts ts' : List Mks} (h : Canon R V ts) (h' : Canon R' V' ts') (hV : ∀ m, V m ↔ V' m) (hR : ∀ m m', V m → V m' → (R m m' ↔ R' m m')) (hs : ∀ {x y}, R x y → R y x) (hs' : ∀ {x y}, R' x y → R' y x) (t : Mks), t ∈ ts → t ∈ ts' := by
  intro R R' V V' ts ts' h h' hV hR hs hs' t ht
  obtain ⟨m, m', hm, hm', hne⟩ := two_of (h.two t ht) (h.srt t ht)
  have vm := h.val t ht m hm
  obtain ⟨t', ht', g1, g2⟩ := h'.all m m' ((hV m).1 vm) ((hV m').1 (h.val t ht m' hm')) hne ((hR m m' vm (h.val t ht m' hm')).1 (h.rel t ht m hm m' hm'))
  have e : t = t' := by
   refine pw_unique (h.srt t ht) (h'.srt t' ht') fun x => ⟨fun hx => ?_, fun hx => ?_⟩
   · by_cases ex : m = x
     · rw [← ex]; exact g1
     · have vx := h.val t ht x hx
       obtain ⟨t2, k1, k2, k3⟩ := h'.all m x ((hV m).1 vm) ((hV x).1 vx) ex ((hR m x vm vx).1 (h.rel t ht m hm x hx))
       rw [h'.one hs' ht' k1 g1 k2]; exact k3
   · by_cases ex : m = x
     · rw [← ex]; exact hm
     · have vx := (hV x).2 (h'.val t' ht' x hx)
       obtain ⟨t2, k1, k2, k3⟩ := h.all m x vm vx ex ((hR m x vm vx).2 (h'.rel t' ht' m g1 x hx))
       rw [h.one hs ht k1 hm k2]; exact k3
  rw [e]; exact ht'
 refine pw_unique (κ := fun t => kM (hd26 t)) (h.ord.imp fun h => h.1) (h'.ord.imp fun h => h.1) fun t => ⟨key h h' hV hR hs hs' t, key h' h (fun m => (hV m).symm) (fun m m' v v' => (hR m m' ((hV m).2 v) ((hV m').2 v')).symm) hs' hs t⟩
theorem hd_app {t : Mks} {m : api_Mark} (h : t ≠ []) : hd26 (t ++ [m]) = hd26 t := by
 cases t with
 | nil => exact (h rfl).elim
 | cons a t => rfl
theorem hd_mem {t : Mks} (h : t ≠ []) : hd26 t ∈ t := by
 cases t with
 | nil => exact (h rfl).elim
 | cons a t => exact List.mem_cons_self ..
theorem gt_app {γ : Type} [Inhabited γ] {l : List γ} {x : γ} {k : Nat} : gt (l ++ [x]) (k : Int) = if k < l.length then gt l (k : Int) else if k = l.length then x else default := by
 rw [gt_nat, gt_nat, getD_app]
theorem gt_set26 {γ : Type} [Inhabited γ] {l : List γ} {j k : Nat} {x : γ} (h : k < l.length) : gt (l.set k x) (j : Int) = if j = k then x else gt l (j : Int) := by
 rw [gt_nat, gt_nat]
 by_cases e : j = k
 · subst e; rw [if_pos rfl]; simp [List.getD, h]
 · rw [if_neg e]; simp [List.getD, List.getElem?_set_ne (fun h => e h.symm)]
theorem cloneM_v {n : Nat} {s : Mks} (hl : s.length ≤ 1024) : slices_Clone_fiducial_api_Mark_fiducial_api_Mark n s = some s := by
 unfold slices_Clone_fiducial_api_Mark_fiducial_api_Mark
 rw [decide_eq_true (show (0 + s.length) * 16 ≤ 140737488355328 by omega), decide_eq_true (show 0 + s.length ≤ 4611686018427387904 by omega)]; rfl
theorem cloneM2_v {n : Nat} {s : Mks} (hl : s.length ≤ 1024) : slices_Clone_fiducial_api_Mark_fiducial_api_Mark_w_2 n s = some s := by
 unfold slices_Clone_fiducial_api_Mark_fiducial_api_Mark_w_2
 rw [decide_eq_true (show (0 + s.length) * 16 ≤ 140737488355328 by omega), decide_eq_true (show 0 + s.length ≤ 4611686018427387904 by omega)]; rfl
theorem prune2_v {n : Nat} (hn : 1024 < n) {l : List Mks} (h1 : l.length ≤ 1024) (h2 : ∀ t ∈ l, t.length ≤ 1024) (a : Int) : track_Prune n l a = some (long l a l.length) := by
 apply Ok.eq
 unfold track_Prune
 refine Ok.bd (R := fun o => o = long l a l.length) ?_ (fun o ho => ok_some.2 ho)
 refine ok_rangeR (len := l.length) (fun k o => o = long l a k) (by omega) (by omega) rfl ?_ ?_
 · rintro again k o hk rfl ih
   have hm := h2 _ (gt_in hk)
   have hl := long_len (l := l) (a := a) (k := k)
   rw [long_succ hk] at ih
   generalize long l a k = o at *
   refine Ok.cd (fun _ => ?_) (fun h => by have := of_decide_eq_false h; omega)
   refine Ok.gd (by rw [inR_nat]; exact decide_eq_true hk) ?_
   generalize gt l (k : Int) = t at *
   refine Ok.cd (fun h => ?_) (fun h => ?_)
   · rw [if_pos h] at ih
     exact Ok.bde (cloneM_v (by omega)) (Ok.gd (decide_eq_true (by omega)) (Ok.gd (decide_eq_true (by omega)) (ih _ rfl)))
   · rw [if_neg (by rw [h]; simp), List.append_nil] at ih
     exact ih _ rfl
 · rintro again o rfl
   exact Ok.cd (fun h => by have := of_decide_eq_true h; omega) (fun _ => ok_some.2 rfl)
theorem find26_v2 {n : Nat} {c0 : Tis} {num : List (api_Mark × Int)} {M : Mks} {p img : List Int} {r τ : Nat → Nat} {T k : Nat} (hn : T < n) (hM : M.Nodup) (hnum : num = numO M) (h : UF p r τ T M.length) (hk : k < M.length) :
  Ok (fiducial_track_chains_find_w_2 n c0 num M p img (M.getD k default)) (fun o => UF o.1 r τ T M.length ∧ o.2 = (r k : Int)) := by
 unfold fiducial_track_chains_find_w_2
 rw [hnum, get_numO hM hk]
 refine Ok.bd (find_loop h hk hn) ?_
 rintro ⟨a, b⟩ ho
 exact ok_some.2 ho
theorem sortM_v {n : Nat} (hn : 5 < n) {l : Mks} (hl : l.length ≤ 1024) (hv : ∀ m ∈ l, okM m) : slices_SortFunc_fiducial_api_Mark_fiducial_api_Mark_w_of_track_compareMarks n l = some (isrtC (ltK kM) l) := by
 unfold slices_SortFunc_fiducial_api_Mark_fiducial_api_Mark_w_of_track_compareMarks
 rw [decide_eq_true (show l.length < 4611686018427387904 by omega)]
 exact sortC_key (κ := kM) (fun x y hx hy => ⟨cM x y, cmpM_v hn x y, (cM_key (hv x hx) (hv y hy)).1⟩) (fun x y hx hy h => kM_inj (hv x hx) (hv y hy) h)
theorem long_filter {l : List Mks} {a : Int} : long l a l.length = l.filter fun t => decide ((t.length : Int) ≥ a) := by unfold long; rw [List.take_length]
theorem nodup_le : ∀ {a b : List Nat}, a.Nodup → (∀ x ∈ a, x ∈ b) → a.length ≤ b.length
 | [], _, _, _ => Nat.zero_le _
 | x :: a, b, h, hs => by
  obtain ⟨h1, h2⟩ := List.nodup_cons.1 h
  have hx := hs x (by simp)
  have := nodup_le (b := b.erase x) h2 fun y hy => by
   have hne : y ≠ x := by rintro rfl; exact h1 hy
   exact (List.mem_erase_of_ne hne).2 (hs y (by simp [hy]))
  rw [List.length_erase_of_mem hx] at this
  have := List.length_pos_of_mem hx
  simp only [List.length_cons]; omega
structure Gr (sm : Mks) (lab : api_Mark → Nat) (rs : List Nat) (at' : List (Int × Int)) (al : List Mks) (j : Nat) : Prop where
 nd : rs.Nodup
 len : al.length = rs.length
 has : ∀ x : Nat, hasM at' (x : Int) = true ↔ x ∈ rs
 pos : ∀ i, i < rs.length → getM 0 at' ((rs.getD i 0 : Nat) : Int) = (i : Int)
 row : ∀ i, i < rs.length → gt al (i : Int) = (sm.take j).filter (fun m => decide (lab m = rs.getD i 0))
 met : ∀ m ∈ sm.take j, lab m ∈ rs
 some' : ∀ i, i < rs.length → gt al (i : Int) ≠ []
 ord : ∀ i i', i < i' → i' < rs.length → kM (hd26 (gt al (i : Int))) < kM (hd26 (gt al (i' : Int)))
theorem getD_appN {l : List Nat} {x : Nat} {k : Nat} : (l ++ [x]).getD k 0 = if k < l.length then l.getD k 0 else if k = l.length then x else 0 := getD_app (γ := Nat)
theorem mem26 {l : List Nat} {x : Nat} : x ∈ l ↔ ∃ i, i < l.length ∧ l.getD i 0 = x := by
 constructor
 · intro h
   obtain ⟨k, hk, e⟩ := List.getElem_of_mem h
   exact ⟨k, hk, by simp [List.getD, List.getElem?_eq_getElem hk, e]⟩
 · rintro ⟨k, hk, rfl⟩
   simp only [List.getD, List.getElem?_eq_getElem hk, Option.getD_some]; exact List.getElem_mem hk
theorem tracks_v {n : Nat} (hn : 1024 < n) {c0 : Tis} {E : RelM} {num : List (api_Mark × Int)} {M : Mks} {p img : List Int} {T : Nat} (h : St26 E num M p img T) (hT : T < n) (hM : M.length ≤ 1000) :
  Ok (fiducial_track_chains_tracks_w n c0 num M p img) (fun o => Canon E (· ∈ M) o.2) := by
 unfold fiducial_track_chains_tracks_w
 obtain ⟨h1, h2, h3, h4, h5, h6, r, τ, hU, hR, hB⟩ := h
 refine Ok.bde (cloneM2_v (by omega)) (Ok.bde (sortM_v (by omega) (by omega) h3) ?_)
 have hsl : (isrtC (ltK kM) M).length = M.length := len_isrtC
 refine Ok.gd (decide_eq_true hsl) ?_
 have hms : ∀ m, m ∈ isrtC (ltK kM) M ↔ m ∈ M := fun m => mem_isrtC
 have hps : (isrtC (ltK kM) M).Pairwise (fun a b => kM a < kM b) := pw_isrtC (by
  have : M.Pairwise (fun a b => a ≠ b) := h2
  exact this.imp_of_mem fun ha hb hne e => hne (kM_inj (h3 _ ha) (h3 _ hb) e))
 generalize isrtC (ltK kM) M = sm at *
 have hidx : ∀ m : api_Mark, ∃ k : Nat, m ∈ M → k < M.length ∧ M.getD k default = m := fun m => by
  by_cases hm : m ∈ M
  · obtain ⟨k, hk⟩ := memD.1 hm; exact ⟨k, fun _ => hk⟩
  · exact ⟨0, fun h => (hm h).elim⟩
 obtain ⟨ix, hix⟩ := Classical.axiomOfChoice hidx
 obtain ⟨lab, hlab⟩ : ∃ lab : api_Mark → Nat, lab = fun m => r (ix m) := ⟨_, rfl⟩
 have hE : ∀ m m', m ∈ M → m' ∈ M → (lab m = lab m' ↔ E m m') := fun m m' hm hm' => by
  obtain ⟨a1, a2⟩ := hix m hm
  obtain ⟨b1, b2⟩ := hix m' hm'
  rw [hlab]
  have := hR (ix m) (ix m') a1 b1
  rw [a2, b2] at this; exact this
 refine Ok.bd (R := fun o => ∃ rs at', Gr sm lab rs at' o.2 sm.length) ?_ ?_
 · rw [← hsl]
   refine ok_rangeG (γ := List Int × List (Int × Int) × List Mks) (len := sm.length) (fun c x => (c.1, c.2.1, c.2.2, x)) (fun j c => UF c.1 r τ T M.length ∧ ∃ rs, Gr sm lab rs c.2.1 c.2.2 j) (by omega) (by omega) (c0 := (p, [], [])) ⟨hU, [], ⟨List.nodup_nil, rfl, fun x => (by simp [hasM]), fun i hi => (by cases hi), fun i hi => (by cases hi), fun m hm => (by simp at hm), fun i hi => (by cases hi), fun i i' _ hi => (by cases hi)⟩⟩ ?_ ?_
   · rintro again j ⟨c, at', al⟩ hj ⟨hUc, rs, hG⟩ ih
     dsimp only at hUc hG ⊢
     refine Ok.cd (fun _ => ?_) (fun h => by have := of_decide_eq_false h; omega)
     refine Ok.gd (by rw [inR_nat]; exact decide_eq_true hj) ?_
     have em : gt sm (j : Int) = sm[j] := by rw [gt_nat]; simp [List.getD, List.getElem?_eq_getElem hj]
     have hmm : gt sm (j : Int) ∈ M := by rw [← hms, em]; exact List.getElem_mem hj
     have htk : sm.take (j + 1) = sm.take j ++ [gt sm (j : Int)] := by rw [List.take_add_one, List.getElem?_eq_getElem hj, em]; rfl
     have hbig : ∀ x ∈ sm.take j, kM x < kM (gt sm (j : Int)) := fun x hx => by
      obtain ⟨i, hi, rfl⟩ := List.getElem_of_mem hx
      rw [List.length_take] at hi
      rw [List.getElem_take, em]
      exact List.pairwise_iff_getElem.1 hps i j (by omega) hj (by omega)
     generalize gt sm (j : Int) = m at *
     obtain ⟨i1, i2⟩ := hix m hmm
     have f1 := find26_v2 (n := n) (c0 := c0) (img := img) hT h2 h1 hUc i1
     rw [i2] at f1
     refine Ok.bd f1 ?_
     rintro ⟨c1, v⟩ ⟨hU1, e1⟩
     dsimp only at hU1 e1 ⊢
     have hl : r (ix m) = lab m := by rw [hlab]
     rw [hl] at e1
     subst e1
     have hal : al.length ≤ M.length := by
      rw [hG.len]
      have hsub : ∀ x ∈ rs, x ∈ List.range M.length := fun x hx => by
       obtain ⟨i, hi, rfl⟩ := mem26.1 hx
       have hne := hG.some' i hi
       rw [hG.row i hi] at hne
       obtain ⟨y, hy⟩ := List.exists_mem_of_ne_nil _ hne
       rw [List.mem_filter] at hy
       have hyM : y ∈ M := (hms y).1 (List.mem_of_mem_take hy.1)
       have := of_decide_eq_true hy.2
       rw [← this, hlab]
       exact List.mem_range.2 (hU.root _ (hix y hyM).1).1
      have := nodup_le hG.nd hsub
      simpa using this
     have hrl : ∀ i, i < rs.length → (gt al (i : Int)).length ≤ sm.length := fun i hi => by
      rw [hG.row i hi]
      refine Nat.le_trans (List.length_filter_le _ _) ?_
      rw [List.length_take]; omega
     have hln := hG.len
     have hrow : ∀ i, i < rs.length → (sm.take (j + 1)).filter (fun x => decide (lab x = rs.getD i 0)) = gt al (i : Int) ++ (if lab m = rs.getD i 0 then [m] else []) := fun i hi => by
      rw [htk, List.filter_append, hG.row i hi]
      congr 1
      by_cases e : lab m = rs.getD i 0
      · rw [if_pos e, List.filter_cons, if_pos (decide_eq_true e)]; rfl
      · rw [if_neg e, List.filter_cons, if_neg (by simpa using e)]; rfl
     refine Ok.cd (fun hno => ?_) (fun hyes => ?_)
     · have hx : lab m ∉ rs := fun hx => by rw [(hG.has _).2 hx] at hno; cases hno
       have hnh : hasM at' ((lab m : Nat) : Int) = false := by
        cases hh : hasM at' ((lab m : Nat) : Int) with
        | false => rfl
        | true => exact (hx ((hG.has _).1 hh)).elim
       have e0 : gt (al ++ [([] : Mks)]) (al.length : Int) = [] := by rw [gt_app, if_neg (by omega), if_pos rfl]
       refine Ok.gd (decide_eq_true (by omega)) (Ok.gd (decide_eq_true (by omega)) (Ok.gd (by rw [inR_nat]; exact decide_eq_true (by simp)) ?_))
       rw [e0]
       refine Ok.gd (by decide) (Ok.gd (by decide) ?_)
       have e1 : (al ++ [([] : Mks)]).set ((al.length : Int)).toNat (([] : Mks) ++ [m]) = al ++ [[m]] := by
        rw [Int.toNat_natCast, List.set_append_right _ _ (Nat.le_refl _), Nat.sub_self]; rfl
       rw [e1]
       have hemp : (sm.take j).filter (fun x => decide (lab x = lab m)) = [] := by
        rw [List.filter_eq_nil_iff]
        intro x hxs e
        exact hx (by have := hG.met x hxs; rwa [of_decide_eq_true e] at this)
       have gl : ∀ i, i < rs.length → (rs ++ [lab m]).getD i 0 = rs.getD i 0 := fun i hi => by rw [getD_appN, if_pos hi]
       have gx : (rs ++ [lab m]).getD rs.length 0 = lab m := by rw [getD_appN, if_neg (by omega), if_pos rfl]
       have ga : ∀ i, i < rs.length → gt (al ++ [[m]]) (i : Int) = gt al (i : Int) := fun i hi => by rw [gt_app, if_pos (by omega)]
       have gb : gt (al ++ [[m]]) (rs.length : Int) = [m] := by rw [← hln, gt_app, if_neg (by omega), if_pos rfl]
       refine ih (_, _, _) ⟨hU1, rs ++ [lab m], ⟨?_, by simp [hln], fun x => ?_, fun i hi => ?_, fun i hi => ?_, fun x hxs => ?_, fun i hi => ?_, fun i i' hii hi' => ?_⟩⟩
       · rw [List.nodup_append]
         exact ⟨hG.nd, by simp, fun a ha b hb => by simp at hb; subst hb; exact fun e => hx (e ▸ ha)⟩
       · dsimp only
         rw [putM_new hnh, hasM_iff, List.mem_append, List.mem_singleton, ← hG.has x, hasM_iff]
         constructor
         · rintro ⟨q, hq, e⟩
           rcases List.mem_append.1 hq with hq | hq
           · exact .inl ⟨q, hq, e⟩
           · simp at hq; subst hq
             have e : ((lab m : Nat) : Int) = x := e
             exact .inr (by omega)
         · rintro (⟨q, hq, e⟩ | rfl)
           · exact ⟨q, by simp [hq], e⟩
           · exact ⟨_, List.mem_append_right _ (List.mem_singleton_self _), rfl⟩
       · dsimp only
         rw [getM_put]
         by_cases e : i = rs.length
         · subst e
           rw [gx, if_pos rfl, hln]
         · have hi2 : i < rs.length := by simp at hi; omega
           rw [gl i hi2, if_neg]
           · exact hG.pos i hi2
           · intro e
             exact hx (mem26.2 ⟨i, hi2, by omega⟩)
       · dsimp only
         by_cases e : i = rs.length
         · subst e
           rw [gx, gb, htk, List.filter_append, hemp, List.filter_cons, if_pos (decide_eq_true rfl)]; rfl
         · have hi2 : i < rs.length := by simp at hi; omega
           rw [gl i hi2, ga i hi2, hrow i hi2, if_neg, List.append_nil]
           exact fun e => hx (mem26.2 ⟨i, hi2, e.symm⟩)
       · rw [htk] at hxs
         rcases List.mem_append.1 hxs with hxs | hxs
         · exact List.mem_append_left _ (hG.met x hxs)
         · simp at hxs; subst hxs; simp
       · dsimp only
         by_cases e : i = rs.length
         · subst e; rw [gb]; simp
         · have hi2 : i < rs.length := by simp at hi; omega
           rw [ga i hi2]; exact hG.some' i hi2
       · dsimp only
         have hi1 : i < rs.length := by simp at hi'; omega
         rw [ga i hi1]
         by_cases e : i' = rs.length
         · subst e
           rw [gb]
           have hne := hG.some' i hi1
           have := hd_mem hne
           rw [hG.row i hi1, List.mem_filter] at this
           have := hbig _ this.1
           rw [← hG.row i hi1] at this
           exact this
         · have hi2 : i' < rs.length := by simp at hi'; omega
           rw [ga i' hi2]; exact hG.ord i i' hii hi2
     · have hx : lab m ∈ rs := (hG.has _).1 (by simpa using hyes)
       obtain ⟨i0, hi0, e0⟩ := mem26.1 hx
       have hp0 := hG.pos i0 hi0
       rw [e0] at hp0
       rw [hp0]
       have hr0 := hrl i0 hi0
       have hi0a : i0 < al.length := by omega
       refine Ok.gd (by rw [inR_nat]; exact decide_eq_true hi0a) (Ok.gd (decide_eq_true (by omega)) (Ok.gd (decide_eq_true (by omega)) ?_))
       rw [Int.toNat_natCast]
       have inj : ∀ i, i < rs.length → (lab m = rs.getD i 0 ↔ i = i0) := fun i hi => by
        constructor
        · intro e
          rw [← e0] at e
          simp only [List.getD, List.getElem?_eq_getElem hi, List.getElem?_eq_getElem hi0, Option.getD_some] at e
          exact ((List.getElem_inj hG.nd).1 e).symm
        · rintro rfl; exact e0.symm
       have hhd : ∀ i, i < rs.length → hd26 (gt (al.set i0 (gt al (i0 : Int) ++ [m])) (i : Int)) = hd26 (gt al (i : Int)) := fun i hi => by
        rw [gt_set26 hi0a]
        by_cases e : i = i0
        · subst e; rw [if_pos rfl, hd_app (hG.some' i hi)]
        · rw [if_neg e]
       refine ih (_, _, _) ⟨hU1, rs, ⟨hG.nd, by rw [List.length_set]; exact hln, hG.has, hG.pos, fun i hi => ?_, fun x hxs => ?_, fun i hi => ?_, fun i i' hii hi' => ?_⟩⟩
       · dsimp only
         rw [gt_set26 hi0a, hrow i hi]
         by_cases e : i = i0
         · subst e; rw [if_pos rfl, if_pos ((inj i hi).2 rfl)]
         · rw [if_neg e, if_neg (fun h => e ((inj i hi).1 h)), List.append_nil]
       · rw [htk] at hxs
         rcases List.mem_append.1 hxs with hxs | hxs
         · exact hG.met x hxs
         · simp at hxs; subst hxs; exact hx
       · dsimp only
         rw [gt_set26 hi0a]
         by_cases e : i = i0
         · rw [if_pos e]; simp
         · rw [if_neg e]; exact hG.some' i hi
       · dsimp only
         rw [hhd i (by omega), hhd i' hi']; exact hG.ord i i' hii hi'
   · rintro again ⟨c, at', al⟩ ⟨hUc, rs, hG⟩
     exact Ok.cd (fun h => by have := of_decide_eq_true h; omega) (fun _ => ok_some.2 ⟨rs, at', hG⟩)
 · rintro ⟨c, al⟩ ⟨rs, at', hG⟩
   dsimp only at hG ⊢
   have hrow : ∀ i, i < rs.length → gt al (i : Int) = sm.filter (fun m => decide (lab m = rs.getD i 0)) := fun i hi => by rw [hG.row i hi, List.take_length]
   have hat : ∀ t, t ∈ al ↔ ∃ i, i < rs.length ∧ t = gt al (i : Int) := fun t => by
    rw [← hG.len]
    constructor
    · intro h
      obtain ⟨i, hi, rfl⟩ := List.getElem_of_mem h
      exact ⟨i, hi, by rw [gt_nat]; simp [List.getD, List.getElem?_eq_getElem hi]⟩
    · rintro ⟨i, hi, rfl⟩; exact gt_in hi
   have hal : al.length ≤ M.length := by
    rw [hG.len]
    have hsub : ∀ x ∈ rs, x ∈ List.range M.length := fun x hx => by
     obtain ⟨i, hi, rfl⟩ := mem26.1 hx
     have hne := hG.some' i hi
     rw [hrow i hi] at hne
     obtain ⟨y, hy⟩ := List.exists_mem_of_ne_nil _ hne
     rw [List.mem_filter] at hy
     have hyM : y ∈ M := (hms y).1 hy.1
     have := of_decide_eq_true hy.2
     rw [← this, hlab]
     exact List.mem_range.2 (hU.root _ (hix y hyM).1).1
    have := nodup_le hG.nd hsub
    simpa using this
   refine Ok.bde (prune2_v hn (by omega) (fun t ht => ?_) 2) (ok_some.2 ?_)
   · obtain ⟨i, hi, rfl⟩ := (hat t).1 ht
     rw [hrow i hi]
     have := List.length_filter_le (fun m => decide (lab m = rs.getD i 0)) sm
     omega
   · rw [long_filter]
     have hmem : ∀ t, t ∈ (al.filter fun t => decide ((t.length : Int) ≥ 2)) ↔ 2 ≤ t.length ∧ ∃ i, i < rs.length ∧ t = gt al (i : Int) := fun t => by
      rw [List.mem_filter, hat]
      constructor
      · rintro ⟨a, b⟩; exact ⟨by have := of_decide_eq_true b; omega, a⟩
      · rintro ⟨a, b⟩; exact ⟨b, decide_eq_true (by omega)⟩
     have hin : ∀ i m, i < rs.length → (m ∈ gt al (i : Int) ↔ m ∈ M ∧ lab m = rs.getD i 0) := fun i m hi => by
      rw [hrow i hi, List.mem_filter, hms, decide_eq_true_iff]
     refine ⟨fun t ht => ((hmem t).1 ht).1, fun t ht => ?_, fun t ht m hm => ?_, fun t ht m hm m' hm' => ?_, fun m m' hm hm' hne he => ?_, ?_⟩
     · obtain ⟨_, i, hi, rfl⟩ := (hmem t).1 ht
       rw [hrow i hi]; exact hps.filter _
     · obtain ⟨_, i, hi, rfl⟩ := (hmem t).1 ht
       exact ((hin i m hi).1 hm).1
     · obtain ⟨_, i, hi, rfl⟩ := (hmem t).1 ht
       obtain ⟨a1, a2⟩ := (hin i m hi).1 hm
       obtain ⟨b1, b2⟩ := (hin i m' hi).1 hm'
       exact (hE m m' a1 b1).1 (a2.trans b2.symm)
     · have hl : lab m ∈ rs := hG.met m (by rw [List.take_length]; exact (hms m).2 hm)
       obtain ⟨i, hi, e⟩ := mem26.1 hl
       have g1 := (hin i m hi).2 ⟨hm, e.symm⟩
       have g2 := (hin i m' hi).2 ⟨hm', ((hE m m' hm hm').2 he).symm.trans e.symm⟩
       refine ⟨gt al (i : Int), (hmem _).2 ⟨?_, i, hi, rfl⟩, g1, g2⟩
       generalize gt al (i : Int) = t at g1 g2
       match t, g1, g2 with
       | [x], g1, g2 => simp at g1 g2; exact (hne (g1.trans g2.symm)).elim
       | x :: y :: t, _, _ => simp
     · refine List.Pairwise.filter _ ?_
       rw [List.pairwise_iff_getElem]
       intro i i' hi hi' hii
       have ei : al[i] = gt al (i : Int) := by rw [gt_nat]; simp [List.getD, List.getElem?_eq_getElem hi]
       have ei' : al[i'] = gt al (i' : Int) := by rw [gt_nat]; simp [List.getD, List.getElem?_eq_getElem hi']
       rw [ei, ei']
       have hln := hG.len
       refine ⟨hG.ord i i' hii (by omega), fun x hx y hy he => ?_⟩
       obtain ⟨a1, a2⟩ := (hin i x (by omega)).1 hx
       obtain ⟨b1, b2⟩ := (hin i' y (by omega)).1 hy
       have := (hE x y a1 b1).2 he
       rw [a2, b2] at this
       have hi2 : i < rs.length := by omega
       have hi2' : i' < rs.length := by omega
       simp only [List.getD, List.getElem?_eq_getElem hi2, List.getElem?_eq_getElem hi2', Option.getD_some] at this
       have := (List.getElem_inj hG.nd).1 this
       omega
end Go.L


set_option linter.all false
namespace Go.L
open Go Go.Eng
theorem marks_ok {S : Tis} (h : ∀ t ∈ S, okT t) {m : api_Mark} (hm : marks26 S m) : okM m := by
 obtain ⟨t, ht, rfl | rfl⟩ := hm
 · exact (h t ht).1
 · exact (h t ht).2.1
theorem chain_v {n : Nat} (hn : 1024 < n) {l : Tis} (hc : codeT l = 0) :
  Ok (track_Chain n l) (fun o => o.2 = 0 ∧ Canon (rel26 (ordT l)) (marks26 (ordT l)) o.1) := by
 have hl : l.length ≤ 256 := by
  unfold codeT at hc
  split at hc
  · omega
  · omega
 have hv : ∀ t ∈ l, okT t := by
  unfold codeT at hc
  rw [if_neg (by omega)] at hc
  exact codeL_ok.1 hc
 obtain ⟨s1, s2, s3⟩ := ordT_ok hv
 unfold track_Chain
 refine Ok.bde (check26_v (by omega)) ?_
 rw [hc]
 refine Ok.cd (fun h => by cases h) (fun _ => ?_)
 refine Ok.bd (chained_v hn hl hv) ?_
 rintro ⟨S, num, M, p, img⟩ ⟨e, hS, hm, hml⟩
 dsimp only at e hS hm hml ⊢
 refine Ok.bd (tracks_v hn hS (by omega) (by omega)) ?_
 rintro ⟨c, ts⟩ hC
 refine ok_some.2 ⟨rfl, ?_⟩
 dsimp only at hC ⊢
 have e : (· ∈ M) = marks26 (ordT l) := by funext m; exact propext (hm m)
 rwa [e] at hC
theorem chain_c {n : Nat} (hn : 1024 < n) {l : Tis} (hc : codeT l ≠ 0) : track_Chain n l = some ([], codeT l) := by
 apply Ok.eq
 unfold track_Chain
 refine Ok.bde (check26_v (by omega)) ?_
 exact Ok.cd (fun _ => ok_some.2 rfl) (fun h => by simp at h; exact (hc h).elim)
end Go.L


set_option linter.all false
namespace Go.L
open Go Go.Eng
def eqM (x y : api_Mark) : Bool := (((x.Image : Int) == y.Image) && (((x.Feature : Int) == y.Feature) && true))
theorem eqM_iff {x y : api_Mark} : eqM x y = true ↔ x = y := by
 obtain ⟨a, b⟩ := x
 obtain ⟨c, d⟩ := y
 simp [eqM]
theorem any_eqM {s : Mks} {m : api_Mark} : (s.any fun x => eqM m x) = decide (m ∈ s) := by
 rw [Bool.eq_iff_iff, List.any_eq_true, decide_eq_true_iff]
 constructor
 · rintro ⟨x, hx, e⟩; rw [eqM_iff.1 e]; exact hx
 · intro h; exact ⟨m, h, eqM_iff.2 rfl⟩
theorem containsM_v {n : Nat} {s : Mks} {m : api_Mark} (hn : s.length < n) (hl : s.length ≤ 1000000) : slices_Contains_fiducial_api_Mark_fiducial_api_Mark n s m = some (decide (m ∈ s)) := by
 unfold slices_Contains_fiducial_api_Mark_fiducial_api_Mark slices_Index_fiducial_api_Mark_fiducial_api_Mark
 have := loop_index (p := fun x : api_Mark => eqM m x) (s := s) (n := n) hn (by omega)
 refine (congrArg (fun o => bdO o fun v1 => some (decide (v1 ≥ 0))) this).trans ?_
 show some (decide (idxB (fun x : api_Mark => eqM m x) s ≥ 0)) = _
 rw [idxB_ge, any_eqM]
end Go.L

