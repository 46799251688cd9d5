import Derived.Test.YtcbndffjeidgbaaComLD
import Derived.Test.YtcbndffjeidgbaaPl6allbkkpg
set_option linter.all false
namespace Go.L
open Go Go.Eng
theorem loop_same {γ : Type} [Inhabited γ] {n : Nat} {s : List γ} {f : γ → γ → Option Bool} (hf : ∀ x ∈ s, f x x = some true) (hn : s.length < n) (hl : s.length ≤ 9223372036854775806) :
  bdO (loopO (α := Int) (β := Sum (Unit) (Bool)) n (fun again x => cdO (decide (x < (s.length : Int))) (gdO (inR x s.length) (gdO (inR x s.length) (bdO (f (gt s x) (gt s x)) fun v => (cdO (!v) (some (Sum.inr (false))) (again (wrapF .i64 (x + 1))))))) (some (Sum.inl ()))) 0) (fun o => match o with | .inl _ => some true | .inr r0 => some r0) = some true := by
 apply Ok.eq
 refine Ok.bd (R := fun o => o = Sum.inl ()) ?_ (by rintro o rfl; exact ok_some.2 rfl)
 refine ok_range (len := s.length) (fun _ => True) hn hl trivial ?_ ?_
 · intro again k hk _ ih
   have hm : gt s (k : Int) ∈ s := by rw [gt_nat]; simp only [List.getD, List.getElem?_eq_getElem hk, Option.getD_some]; exact List.getElem_mem hk
   refine Ok.cd (fun _ => ?_) (fun h => by have := of_decide_eq_false h; omega)
   refine Ok.gd (by rw [inR_nat]; exact decide_eq_true hk) (Ok.gd (by rw [inR_nat]; exact decide_eq_true hk) ?_)
   exact Ok.bde (hf _ hm) (Ok.cd (fun h => by cases h) (fun _ => ih trivial))
 · intro again _
   exact Ok.cd (fun h => by have := of_decide_eq_true h; omega) (fun _ => ok_some.2 rfl)
abbrev Mks := List api_Mark
def seen (t : Mks) (a : Int) : Bool := t.any fun m => m.Image == a
theorem marksEq_v {n : Nat} {s : Mks} (hn : s.length < n) (hl : s.length ≤ 9223372036854775806) : slices_Equal_fiducial_api_Mark_fiducial_api_Mark n s s = some true := by
 unfold slices_Equal_fiducial_api_Mark_fiducial_api_Mark
 rw [show (((s.length : Int) : Int) != (s.length : Int)) = false by simp]
 exact loop_same (f := fun x y => some ((x.Image == y.Image) && ((x.Feature == y.Feature) && true))) (fun x _ => by simp) hn hl
theorem same26_v {n : Nat} {l : List Mks} (hn : l.length < n) (hl : l.length ≤ 9223372036854775806) (hm : ∀ t ∈ l, t.length < n ∧ t.length ≤ 9223372036854775806) : fiduciallaw26_Same n l l = some true := by
 unfold fiduciallaw26_Same slices_EqualFunc_fiducial_api_Mark_fiducial_api_Mark_fiducial_api_Mark_fiducial_api_Mark_of_fiduciallaw26_Same_1
 rw [show (((l.length : Int) : Int) != (l.length : Int)) = false by simp]
 have := loop_same (f := fiduciallaw26_Same_1 n) (s := l) (n := n) (fun x hx => by
  unfold fiduciallaw26_Same_1
  rw [marksEq_v (hm x hx).1 (hm x hx).2]; rfl) hn hl
 show bdO (bdO _ _) _ = _
 exact (congrArg (fun o => bdO o fun v1 => some v1) this).trans rfl
theorem sees_v {n : Nat} {t : Mks} {a : Int} (hn : t.length < n) (hl : t.length ≤ 9223372036854775806) : track_sees n t a = some (seen t a) := by
 unfold track_sees slices_ContainsFunc_fiducial_api_Mark_fiducial_api_Mark_of_track_sees_1 slices_IndexFunc_fiducial_api_Mark_fiducial_api_Mark_of_track_sees_1
 have := loop_indexF (f := fun m => track_sees_1 n m a) (p := fun m : api_Mark => m.Image == a) (s := t) (n := n) (fun _ => rfl) hn hl
 refine (congrArg (fun o => bdO (bdO o fun v1 => some (decide (v1 ≥ 0))) fun v1 => some v1) this).trans ?_
 show some (decide (idxB (fun m : api_Mark => m.Image == a) t ≥ 0)) = _
 rw [idxB_ge]; rfl
theorem images_v {n : Nat} {t : Mks} (hn : t.length < n) (hl : t.length ≤ 1000000) : fiduciallaw26_images n t = some (t.map (·.Image)) := by
 apply Ok.eq
 unfold fiduciallaw26_images
 refine Ok.bd (R := fun o => o = t.map (·.Image)) ?_ (fun o ho => ok_some.2 ho)
 refine ok_rangeR (len := t.length) (fun k o => o = (t.take k).map (·.Image)) hn (by omega) rfl ?_ ?_
 · rintro again k o hk rfl ih
   have e : (t.take (k + 1)).map (·.Image) = (t.take k).map (·.Image) ++ [(gt t (k : Int)).Image] := by
    rw [List.take_add_one, List.getElem?_eq_getElem hk, List.map_append, gt_nat]
    simp [List.getD, List.getElem?_eq_getElem hk]
   refine Ok.cd (fun _ => ?_) (fun h => by have := of_decide_eq_false h; omega)
   refine Ok.gd (by rw [inR_nat]; exact decide_eq_true hk) ?_
   have hlen : ((t.take k).map (·.Image)).length ≤ k := by rw [List.length_map, List.length_take]; omega
   exact Ok.gd (decide_eq_true (by omega)) (Ok.gd (decide_eq_true (by omega)) (ih _ e.symm))
 · rintro again o rfl
   refine Ok.cd (fun h => by have := of_decide_eq_true h; omega) (fun _ => ok_some.2 ?_)
   rw [List.take_length]
theorem contains_v {n : Nat} {s : List Int} {a : Int} (hn : s.length < n) (hl : s.length ≤ 9223372036854775806) : slices_Contains_int_int n s a = some (s.contains a) := by
 unfold slices_Contains_int_int slices_Index_int_int
 have := loop_indexF (f := fun x : Int => some (a == x)) (p := fun x => a == x) (s := s) (n := n) (fun _ => rfl) hn hl
 refine (congrArg (fun o => bdO o fun v1 => some (decide (v1 ≥ 0))) this).trans ?_
 show some (decide (idxB (fun x => a == x) s ≥ 0)) = _
 rw [idxB_ge, List.any_beq]
theorem seen_images {t : Mks} {a : Int} : (t.map (·.Image)).contains a = seen t a := by
 unfold seen
 rw [← List.any_beq, List.any_map]
 congr 1
 funext m
 show (a == m.Image) = (m.Image == a)
 rw [BEq.comm]
def shortB (l : List Mks) : Prop := l.length ≤ 300 ∧ ∀ t ∈ l, t.length ≤ 20
theorem short_v {n : Nat} (hn : 300 < n) (l : List Mks) : ∃ b, fiduciallaw26_short n l = some b ∧ (b = true → shortB l) := by
 unfold fiduciallaw26_short
 have key : l.length ≤ 300 → ∃ b, (bdO (slices_ContainsFunc_fiducial_api_Mark_fiducial_api_Mark_of_fiduciallaw26_short_1 n l) fun v2 => some (!v2)) = some b ∧ (b = true → shortB l) := by
  intro h
  unfold slices_ContainsFunc_fiducial_api_Mark_fiducial_api_Mark_of_fiduciallaw26_short_1 slices_IndexFunc_fiducial_api_Mark_fiducial_api_Mark_of_fiduciallaw26_short_1
  have := loop_indexF (f := fiduciallaw26_short_1 n) (p := fun t : Mks => decide ((t.length : Int) > 20)) (s := l) (n := n) (fun _ => rfl) (by omega) (by omega)
  refine ⟨!(l.any fun t => decide ((t.length : Int) > 20)), ?_, fun hb => ⟨h, fun t ht => ?_⟩⟩
  · refine (congrArg (fun o => bdO (bdO o fun v1 => some (decide (v1 ≥ 0))) fun v2 => some (!v2)) this).trans ?_
    show some (!decide (idxB (fun t : Mks => decide ((t.length : Int) > 20)) l ≥ 0)) = _
    rw [idxB_ge]
  · have hb : (l.any fun t => decide ((t.length : Int) > 20)) = false := by simpa using hb
    have := List.any_eq_false.1 hb t ht
    have : ¬ (t.length : Int) > 20 := by simpa using this
    omega
 by_cases h1 : l.length ≤ 20
 · rw [decide_eq_true (show (l.length : Int) ≤ 20 by omega)]
   exact key (by omega)
 · rw [decide_eq_false (show ¬ (l.length : Int) ≤ 20 by omega)]
   by_cases h2 : l.length > 256
   · rw [decide_eq_true (show (l.length : Int) > 256 by omega)]
     by_cases h3 : l.length ≤ 300
     · rw [decide_eq_true (show (l.length : Int) ≤ 300 by omega)]
       exact key h3
     · rw [decide_eq_false (show ¬ (l.length : Int) ≤ 300 by omega)]
       exact ⟨false, rfl, fun h => by cases h⟩
   · rw [decide_eq_false (show ¬ (l.length : Int) > 256 by omega)]
     exact ⟨false, rfl, fun h => by cases h⟩
end Go.L


set_option linter.all false
namespace Go.L
open Go Go.Eng
def both (l : List Mks) (a b : Int) (k : Nat) : List Int := ((List.range k).filter fun i => seen (l.getD i default) a && seen (l.getD i default) b).map fun i : Nat => (i : Int)
theorem both_succ (l : List Mks) (a b : Int) (k : Nat) : both l a b (k + 1) = both l a b k ++ (if (seen (gt l (k : Int)) a && seen (gt l (k : Int)) b) = true then [(k : Int)] else []) := by
 unfold both
 rw [List.range_succ, List.filter_append, List.map_append, gt_nat]
 congr 1
 by_cases h : (seen (l.getD k default) a && seen (l.getD k default) b) = true
 · rw [if_pos h, List.filter_cons, if_pos h]; rfl
 · rw [if_neg h, List.filter_cons, if_neg h]; rfl
theorem both_len (l : List Mks) (a b : Int) (k : Nat) : (both l a b k).length ≤ k := by
 unfold both
 rw [List.length_map]
 have := List.length_filter_le (fun i => seen (l.getD i default) a && seen (l.getD i default) b) (List.range k)
 rw [List.length_range] at this; exact this
def long (l : List Mks) (a : Int) (k : Nat) : List Mks := (l.take k).filter fun t => decide ((t.length : Int) ≥ a)
theorem long_succ {l : List Mks} {a : Int} {k : Nat} (hk : k < l.length) : long l a (k + 1) = long l a k ++ (if decide (((gt l (k : Int)).length : Int) ≥ a) = true then [gt l (k : Int)] else []) := by
 unfold long
 have e : gt l (k : Int) = l[k] := by rw [gt_nat]; simp [List.getD, List.getElem?_eq_getElem hk]
 rw [List.take_add_one, List.getElem?_eq_getElem hk, List.filter_append, e]
 congr 1
 show List.filter _ [l[k]] = _
 rw [List.filter_cons]
 split <;> rfl
theorem long_len {l : List Mks} {a : Int} {k : Nat} : (long l a k).length ≤ k := by
 unfold long
 have := List.length_filter_le (fun t : Mks => decide ((t.length : Int) ≥ a)) (l.take k)
 rw [List.length_take] at this; omega
theorem gt_in {l : List Mks} {k : Nat} (h : k < l.length) : gt l (k : Int) ∈ l := by
 rw [gt_nat]; simp only [List.getD, List.getElem?_eq_getElem h, Option.getD_some]; exact List.getElem_mem h
theorem common_v {n : Nat} (hn : 300 < n) {l : List Mks} (hs : shortB l) (a b : Int) : track_Common n l a b = some (both l a b l.length) := by
 apply Ok.eq
 unfold track_Common
 obtain ⟨h1, h2⟩ := hs
 refine Ok.bd (R := fun o => o = both l a b l.length) ?_ (fun o ho => ok_some.2 ho)
 refine ok_rangeR (len := l.length) (fun k o => o = both l a b k) (by omega) (by omega) rfl ?_ ?_
 · rintro again k o hk rfl ih
   have hm := h2 _ (gt_in hk)
   have hl := both_len l a b k
   rw [both_succ] at ih
   generalize both l a b k = o at *
   refine Ok.cd (fun _ => ?_) (fun h => by have := of_decide_eq_false h; omega)
   refine Ok.gd (by rw [inR_nat]; exact decide_eq_true hk) ?_
   generalize gt l (k : Int) = t at *
   refine Ok.bde (sees_v (by omega) (by omega)) ?_
   cases ha : seen t a with
   | false =>
    rw [ha, if_neg (by simp), List.append_nil] at ih
    exact Ok.cd (fun h => by cases h) (fun _ => ih _ rfl)
   | true =>
    refine Ok.cd (fun _ => Ok.bde (sees_v (by omega) (by omega)) ?_) (fun h => by cases h)
    cases hb : seen t b with
    | false =>
     rw [ha, hb, if_neg (by simp), List.append_nil] at ih
     exact Ok.cd (fun h => by cases h) (fun _ => ih _ rfl)
    | true =>
     rw [ha, hb, if_pos (show (true && true) = true from rfl)] at ih
     exact Ok.cd (fun _ => Ok.gd (decide_eq_true (by omega)) (Ok.gd (decide_eq_true (by omega)) (ih _ rfl))) (fun h => by cases h)
 · rintro again o rfl
   exact Ok.cd (fun h => by have := of_decide_eq_true h; omega) (fun _ => ok_some.2 rfl)
theorem prune_v {n : Nat} (hn : 300 < n) {l : List Mks} (hs : shortB l) (a : Int) : track_Prune n l a = some (long l a l.length) := by
 apply Ok.eq
 unfold track_Prune
 obtain ⟨h1, h2⟩ := hs
 refine Ok.bd (R := fun o => o = long l a l.length) ?_ (fun o ho => ok_some.2 ho)
 refine ok_rangeR (len := l.length) (fun k o => o = long l a k) (by omega) (by omega) rfl ?_ ?_
 · rintro again k o hk rfl ih
   have hm := h2 _ (gt_in hk)
   have hl := long_len (l := l) (a := a) (k := k)
   rw [long_succ hk] at ih
   generalize long l a k = o at *
   refine Ok.cd (fun _ => ?_) (fun h => by have := of_decide_eq_false h; omega)
   refine Ok.gd (by rw [inR_nat]; exact decide_eq_true hk) ?_
   generalize gt l (k : Int) = t at *
   refine Ok.cd (fun h => ?_) (fun h => ?_)
   · rw [if_pos h] at ih
     have hc : slices_Clone_fiducial_api_Mark_fiducial_api_Mark n t = some t := by
      unfold slices_Clone_fiducial_api_Mark_fiducial_api_Mark
      rw [decide_eq_true (show (0 + t.length) * 16 ≤ 140737488355328 by omega), decide_eq_true (show 0 + t.length ≤ 4611686018427387904 by omega)]; rfl
     exact Ok.bde hc (Ok.gd (decide_eq_true (by omega)) (Ok.gd (decide_eq_true (by omega)) (ih _ rfl)))
   · rw [if_neg (by rw [h]; simp), List.append_nil] at ih
     exact ih _ rfl
 · rintro again o rfl
   exact Ok.cd (fun h => by have := of_decide_eq_true h; omega) (fun _ => ok_some.2 rfl)
theorem intsEq_v {n : Nat} {s : List Int} (hn : s.length < n) (hl : s.length ≤ 9223372036854775806) : slices_Equal_int_int n s s = some true := by
 unfold slices_Equal_int_int
 rw [show (((s.length : Int) : Int) != (s.length : Int)) = false by simp]
 have := loop_same (f := fun x y : Int => some (!(x != y))) (s := s) (n := n) (fun x _ => by simp) hn hl
 have e : ∀ b : Bool, (!!b) = b := Bool.not_not
 simp only [bdO] at this
 simp only [e] at this
 exact this
theorem commons_v (l : List Mks) (a b : Int) : fiduciallaw26_TrackCommon 5000 l a b = some true := by
 apply Ok.eq
 unfold fiduciallaw26_TrackCommon
 refine Ok.bde rfl (Ok.cd (fun h => by cases h) (fun _ => ?_))
 obtain ⟨sb, es, hs⟩ := short_v (n := 5000) (by omega) l
 refine Ok.bde es (Ok.cd (fun _ => ok_some.2 rfl) (fun hb => ?_))
 have hs := hs (by simpa using hb)
 obtain ⟨h1, h2⟩ := hs
 refine Ok.bd (R := fun o => o = (both l a b l.length, long l a l.length)) ?_ ?_
 · refine ok_rangeG (γ := List Int × List Mks) (len := l.length) (fun c x => (c.1, c.2, x)) (fun k c => c = (both l a b k, long l a k)) (by omega) (by omega) (c0 := ([], [])) rfl ?_ ?_
   · rintro again k c hk rfl ih
     have hm := h2 _ (gt_in hk)
     have hl1 := both_len l a b k
     have hl2 := long_len (l := l) (a := a) (k := k)
     rw [both_succ, long_succ hk] at ih
     dsimp only
     generalize both l a b k = o at *
     generalize long l a k = g at *
     refine Ok.cd (fun _ => ?_) (fun h => by have := of_decide_eq_false h; omega)
     refine Ok.gd (by rw [inR_nat]; exact decide_eq_true hk) ?_
     generalize gt l (k : Int) = t at *
     have im : fiduciallaw26_images 5000 t = some (t.map (·.Image)) := images_v (by omega) (by omega)
     have co : ∀ x, slices_Contains_int_int 5000 (t.map (·.Image)) x = some (seen t x) := fun x => by rw [contains_v (by rw [List.length_map]; omega) (by rw [List.length_map]; omega), seen_images]
     refine Ok.bd (R := fun q => q = o ++ (if (seen t a && seen t b) = true then [(k : Int)] else [])) ?_ ?_
     · refine Ok.bde im (Ok.bde (co a) ?_)
       cases ha : seen t a with
       | false => exact Ok.cd (fun h => by cases h) (fun _ => ok_some.2 (by simp))
       | true =>
        refine Ok.cd (fun _ => Ok.bde im (Ok.bde (co b) ?_)) (fun h => by cases h)
        cases hb : seen t b with
        | false => exact Ok.cd (fun h => by cases h) (fun _ => ok_some.2 (by simp))
        | true => exact Ok.cd (fun _ => Ok.gd (decide_eq_true (by omega)) (Ok.gd (decide_eq_true (by omega)) (ok_some.2 (by simp)))) (fun h => by cases h)
     · rintro q hq
       rw [← hq] at ih
       refine Ok.cd (fun h => ?_) (fun h => ?_)
       · rw [if_pos h] at ih
         exact Ok.gd (decide_eq_true (by omega)) (Ok.gd (decide_eq_true (by omega)) (ih (_, _) rfl))
       · rw [if_neg (by rw [h]; simp), List.append_nil] at ih
         exact ih (_, _) rfl
   · rintro again c rfl
     exact Ok.cd (fun h => by have := of_decide_eq_true h; omega) (fun _ => ok_some.2 rfl)
 · rintro o rfl
   have hl1 := both_len l a b l.length
   have hl2 := long_len (l := l) (a := a) (k := l.length)
   refine Ok.bde (common_v (by omega) ⟨h1, h2⟩ a b) (Ok.bde (intsEq_v (by omega) (by omega)) (Ok.cd (fun _ => ?_) (fun h => by cases h)))
   refine Ok.bde (prune_v (by omega) ⟨h1, h2⟩ a) (Ok.bde (same26_v (by omega) (by omega) fun t ht => ?_) (ok_some.2 rfl))
   have := h2 t (by unfold long at ht; exact List.mem_of_mem_take (List.mem_filter.1 ht).1)
   omega
end Go.L

