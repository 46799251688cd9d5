import Derived.Test.YtndmnfmpbcecaaaCovLD
import Derived.Test.YtndmnfmpbcecaaaPl6apbbncmk
set_option linter.all false
namespace Go.L
open Go Go.Eng
abbrev Mks := List api_Mark
def seen (t : Mks) (a : Int) : Bool := t.any fun m => m.Image == a
theorem sees_v {n : Nat} {t : Mks} {a : Int} (hn : t.length < n) (hl : t.length ≤ 9223372036854775806) : track_sees n t a = some (seen t a) := by
 unfold track_sees slices_ContainsFunc_fiducial_api_Mark_fiducial_api_Mark_of_track_sees_1 slices_IndexFunc_fiducial_api_Mark_fiducial_api_Mark_of_track_sees_1
 have := loop_indexF (f := fun m => track_sees_1 n m a) (p := fun m : api_Mark => m.Image == a) (s := t) (n := n) (fun _ => rfl) hn hl
 refine (congrArg (fun o => bdO (bdO o fun v1 => some (decide (v1 ≥ 0))) fun v1 => some v1) this).trans ?_
 show some (decide (idxB (fun m : api_Mark => m.Image == a) t ≥ 0)) = _
 rw [idxB_ge]; rfl
theorem images_v {n : Nat} {t : Mks} (hn : t.length < n) (hl : t.length ≤ 1000000) : fiduciallaw26_images n t = some (t.map (·.Image)) := by
 apply Ok.eq
 unfold fiduciallaw26_images
 refine Ok.bd (R := fun o => o = t.map (·.Image)) ?_ (fun o ho => ok_some.2 ho)
 refine ok_rangeR (len := t.length) (fun k o => o = (t.take k).map (·.Image)) hn (by omega) rfl ?_ ?_
 · rintro again k o hk rfl ih
   have e : (t.take (k + 1)).map (·.Image) = (t.take k).map (·.Image) ++ [(gt t (k : Int)).Image] := by
    rw [List.take_add_one, List.getElem?_eq_getElem hk, List.map_append, gt_nat]
    simp [List.getD, List.getElem?_eq_getElem hk]
   refine Ok.cd (fun _ => ?_) (fun h => by have := of_decide_eq_false h; omega)
   refine Ok.gd (by rw [inR_nat]; exact decide_eq_true hk) ?_
   have hlen : ((t.take k).map (·.Image)).length ≤ k := by rw [List.length_map, List.length_take]; omega
   exact Ok.gd (decide_eq_true (by omega)) (Ok.gd (decide_eq_true (by omega)) (ih _ e.symm))
 · rintro again o rfl
   refine Ok.cd (fun h => by have := of_decide_eq_true h; omega) (fun _ => ok_some.2 ?_)
   rw [List.take_length]
theorem contains_v {n : Nat} {s : List Int} {a : Int} (hn : s.length < n) (hl : s.length ≤ 9223372036854775806) : slices_Contains_int_int n s a = some (s.contains a) := by
 unfold slices_Contains_int_int slices_Index_int_int
 have := loop_indexF (f := fun x : Int => some (a == x)) (p := fun x => a == x) (s := s) (n := n) (fun _ => rfl) hn hl
 refine (congrArg (fun o => bdO o fun v1 => some (decide (v1 ≥ 0))) this).trans ?_
 show some (decide (idxB (fun x => a == x) s ≥ 0)) = _
 rw [idxB_ge, List.any_beq]
theorem seen_images {t : Mks} {a : Int} : (t.map (·.Image)).contains a = seen t a := by
 unfold seen
 rw [← List.any_beq, List.any_map]
 congr 1
 funext m
 show (a == m.Image) = (m.Image == a)
 rw [BEq.comm]
def shortB (l : List Mks) : Prop := l.length ≤ 300 ∧ ∀ t ∈ l, t.length ≤ 20
theorem short_v {n : Nat} (hn : 300 < n) (l : List Mks) : ∃ b, fiduciallaw26_short n l = some b ∧ (b = true → shortB l) := by
 unfold fiduciallaw26_short
 have key : l.length ≤ 300 → ∃ b, (bdO (slices_ContainsFunc_fiducial_api_Mark_fiducial_api_Mark_of_fiduciallaw26_short_1 n l) fun v2 => some (!v2)) = some b ∧ (b = true → shortB l) := by
  intro h
  unfold slices_ContainsFunc_fiducial_api_Mark_fiducial_api_Mark_of_fiduciallaw26_short_1 slices_IndexFunc_fiducial_api_Mark_fiducial_api_Mark_of_fiduciallaw26_short_1
  have := loop_indexF (f := fiduciallaw26_short_1 n) (p := fun t : Mks => decide ((t.length : Int) > 20)) (s := l) (n := n) (fun _ => rfl) (by omega) (by omega)
  refine ⟨!(l.any fun t => decide ((t.length : Int) > 20)), ?_, fun hb => ⟨h, fun t ht => ?_⟩⟩
  · refine (congrArg (fun o => bdO (bdO o fun v1 => some (decide (v1 ≥ 0))) fun v2 => some (!v2)) this).trans ?_
    show some (!decide (idxB (fun t : Mks => decide ((t.length : Int) > 20)) l ≥ 0)) = _
    rw [idxB_ge]
  · have hb : (l.any fun t => decide ((t.length : Int) > 20)) = false := by simpa using hb
    have := List.any_eq_false.1 hb t ht
    have : ¬ (t.length : Int) > 20 := by simpa using this
    omega
 by_cases h1 : l.length ≤ 20
 · rw [decide_eq_true (show (l.length : Int) ≤ 20 by omega)]
   exact key (by omega)
 · rw [decide_eq_false (show ¬ (l.length : Int) ≤ 20 by omega)]
   by_cases h2 : l.length > 256
   · rw [decide_eq_true (show (l.length : Int) > 256 by omega)]
     by_cases h3 : l.length ≤ 300
     · rw [decide_eq_true (show (l.length : Int) ≤ 300 by omega)]
       exact key h3
     · rw [decide_eq_false (show ¬ (l.length : Int) ≤ 300 by omega)]
       exact ⟨false, rfl, fun h => by cases h⟩
   · rw [decide_eq_false (show ¬ (l.length : Int) > 256 by omega)]
     exact ⟨false, rfl, fun h => by cases h⟩
end Go.L


set_option linter.all false
namespace Go.L
open Go Go.Eng
def both (l : List Mks) (a b : Int) (k : Nat) : List Int := ((List.range k).filter fun i => seen (l.getD i default) a && seen (l.getD i default) b).map fun i : Nat => (i : Int)
theorem both_succ (l : List Mks) (a b : Int) (k : Nat) : both l a b (k + 1) = both l a b k ++ (if (seen (gt l (k : Int)) a && seen (gt l (k : Int)) b) = true then [(k : Int)] else []) := by
 unfold both
 rw [List.range_succ, List.filter_append, List.map_append, gt_nat]
 congr 1
 by_cases h : (seen (l.getD k default) a && seen (l.getD k default) b) = true
 · rw [if_pos h, List.filter_cons, if_pos h]; rfl
 · rw [if_neg h, List.filter_cons, if_neg h]; rfl
theorem both_len (l : List Mks) (a b : Int) (k : Nat) : (both l a b k).length ≤ k := by
 unfold both
 rw [List.length_map]
 have := List.length_filter_le (fun i => seen (l.getD i default) a && seen (l.getD i default) b) (List.range k)
 rw [List.length_range] at this; exact this
theorem gt_in {l : List Mks} {k : Nat} (h : k < l.length) : gt l (k : Int) ∈ l := by
 rw [gt_nat]; simp only [List.getD, List.getElem?_eq_getElem h, Option.getD_some]; exact List.getElem_mem h
theorem common_v {n : Nat} (hn : 300 < n) {l : List Mks} (hs : shortB l) (a b : Int) : track_Common n l a b = some (both l a b l.length) := by
 apply Ok.eq
 unfold track_Common
 obtain ⟨h1, h2⟩ := hs
 refine Ok.bd (R := fun o => o = both l a b l.length) ?_ (fun o ho => ok_some.2 ho)
 refine ok_rangeR (len := l.length) (fun k o => o = both l a b k) (by omega) (by omega) rfl ?_ ?_
 · rintro again k o hk rfl ih
   have hm := h2 _ (gt_in hk)
   have hl := both_len l a b k
   rw [both_succ] at ih
   generalize both l a b k = o at *
   refine Ok.cd (fun _ => ?_) (fun h => by have := of_decide_eq_false h; omega)
   refine Ok.gd (by rw [inR_nat]; exact decide_eq_true hk) ?_
   generalize gt l (k : Int) = t at *
   refine Ok.bde (sees_v (by omega) (by omega)) ?_
   cases ha : seen t a with
   | false =>
    rw [ha, if_neg (by simp), List.append_nil] at ih
    exact Ok.cd (fun h => by cases h) (fun _ => ih _ rfl)
   | true =>
    refine Ok.cd (fun _ => Ok.bde (sees_v (by omega) (by omega)) ?_) (fun h => by cases h)
    cases hb : seen t b with
    | false =>
     rw [ha, hb, if_neg (by simp), List.append_nil] at ih
     exact Ok.cd (fun h => by cases h) (fun _ => ih _ rfl)
    | true =>
     rw [ha, hb, if_pos (show (true && true) = true from rfl)] at ih
     exact Ok.cd (fun _ => Ok.gd (decide_eq_true (by omega)) (Ok.gd (decide_eq_true (by omega)) (ih _ rfl))) (fun h => by cases h)
 · rintro again o rfl
   exact Ok.cd (fun h => by have := of_decide_eq_true h; omega) (fun _ => ok_some.2 rfl)
end Go.L


set_option linter.all false
namespace Go.L
open Go Go.Eng
theorem gt_set {γ : Type} [Inhabited γ] {l : List γ} {j k : Nat} {x : γ} (h : k < l.length) : gt (l.set k x) (j : Int) = if j = k then x else gt l (j : Int) := by
 rw [gt_nat, gt_nat]
 by_cases e : j = k
 · subst e; rw [if_pos rfl]; simp [List.getD, h]
 · rw [if_neg e]; simp [List.getD, List.getElem?_set_ne (fun h => e h.symm)]
def badM (m : Int) (t : Mks) : Bool := t.any fun x => decide (x.Image < 0) || decide (x.Image ≥ m)
def code26 (l : List Mks) (m : Int) : Int := if m < 1 ∨ m > 64 ∨ l.length > 256 then 3 else if l.any (badM m) = true then 2 else 0
def cell26 (l : List Mks) (a b : Nat) : Int := ((both l (a : Int) (b : Int) l.length).length : Int)
def isTab (l : List Mks) (M : Nat) (g : List (List Int)) : Prop := g.length = M ∧ ∀ a, a < M → (gt g (a : Int)).length = M ∧ ∀ b, b < M → gt (gt g (a : Int)) (b : Int) = cell26 l a b
theorem cover_v {n : Nat} (hn : 300 < n) {l : List Mks} (hs : shortB l) (m : Int) :
  Ok (track_Cover n l m) fun r => (code26 l m ≠ 0 → r = ([], code26 l m)) ∧ (code26 l m = 0 → r.2 = 0 ∧ 1 ≤ m ∧ m ≤ 64 ∧ isTab l m.toNat r.1) := by
 have hs0 := hs
 obtain ⟨h1, h2⟩ := hs
 unfold track_Cover
 have three : (m < 1 ∨ m > 64 ∨ l.length > 256) → (code26 l m ≠ 0 → (([], 3) : List (List Int) × Int) = ([], code26 l m)) ∧ (code26 l m = 0 → (([], 3) : List (List Int) × Int).2 = 0 ∧ 1 ≤ m ∧ m ≤ 64 ∧ isTab l m.toNat ([], (3 : Int)).1) := by
  intro h
  have e : code26 l m = 3 := by unfold code26; rw [if_pos h]
  rw [e]
  exact ⟨fun _ => rfl, fun h => by omega⟩
 refine Ok.cd (fun h => ok_some.2 (three (.inl (of_decide_eq_true h)))) (fun g1 => ?_)
 refine Ok.cd (fun h => ok_some.2 (three (.inr (.inl (of_decide_eq_true h))))) (fun g2 => ?_)
 refine Ok.cd (fun h => ok_some.2 (three (.inr (.inr (by have := of_decide_eq_true h; omega))))) (fun g3 => ?_)
 have g1 := of_decide_eq_false g1
 have g2 := of_decide_eq_false g2
 have g3 := of_decide_eq_false g3
 have hc : code26 l m = if l.any (badM m) = true then 2 else 0 := by unfold code26; rw [if_neg (by omega)]
 refine Ok.bd (R := fun o => o = if l.any (badM m) = true then Sum.inr ([], 2) else Sum.inl ()) ?_ ?_
 · refine ok_range (len := l.length) (fun k => ∀ j, j < k → badM m (l.getD j default) = false) (by omega) (by omega) (fun j hj => by omega) ?_ ?_
   · intro again k hk hP ih
     have hm := h2 _ (gt_in hk)
     refine Ok.cd (fun _ => ?_) (fun h => by have := of_decide_eq_false h; omega)
     refine Ok.gd (by rw [inR_nat]; exact decide_eq_true hk) ?_
     have et : gt l (k : Int) = l.getD k default := gt_nat
     generalize ht : gt l (k : Int) = t at *
     refine Ok.bd (R := fun o => o = if badM m t = true then Sum.inr ([], 2) else Sum.inl ()) ?_ ?_
     · refine ok_range (len := t.length) (fun i => ∀ j, j < i → (decide ((t.getD j default).Image < 0) || decide ((t.getD j default).Image ≥ m)) = false) (by omega) (by omega) (fun j hj => by omega) ?_ ?_
       · intro again2 i hi hP2 ih2
         refine Ok.cd (fun _ => ?_) (fun h => by have := of_decide_eq_false h; omega)
         refine Ok.gd (by rw [inR_nat]; exact decide_eq_true hi) ?_
         rw [gt_nat]
         have bad : (decide ((t.getD i default).Image < 0) || decide ((t.getD i default).Image ≥ m)) = true → badM m t = true := fun h => any_of_at (p := fun x : api_Mark => decide (x.Image < 0) || decide (x.Image ≥ m)) hi h
         refine Ok.cd (fun h => ok_some.2 ?_) (fun h => Ok.cd (fun h' => ok_some.2 ?_) (fun h' => ih2 fun j hj => ?_))
         · rw [if_pos (bad (by rw [h]; rfl))]
         · rw [if_pos (bad (by rw [h']; simp))]
         · by_cases e : j < i
           · exact hP2 j e
           · obtain rfl : j = i := by omega
             rw [h, h']; rfl
       · intro again2 hP2
         refine Ok.cd (fun h => by have := of_decide_eq_true h; omega) (fun _ => ok_some.2 ?_)
         have : badM m t = false := any_false_iff.2 hP2
         rw [this]; rfl
     · rintro o rfl
       cases hb : badM m t with
       | true =>
        rw [if_pos rfl]
        refine ok_some.2 ?_
        rw [if_pos (any_of_at hk (by rw [← et]; exact hb))]
       | false =>
        rw [if_neg (by simp)]
        refine ih fun j hj => ?_
        by_cases e : j < k
        · exact hP j e
        · obtain rfl : j = k := by omega
          rw [← et]; exact hb
   · intro again hP
     refine Ok.cd (fun h => by have := of_decide_eq_true h; omega) (fun _ => ok_some.2 ?_)
     have : l.any (badM m) = false := any_false_iff.2 hP
     rw [this]; rfl
 · rintro o rfl
   cases hb : l.any (badM m) with
   | true =>
    rw [if_pos rfl]
    refine ok_some.2 ?_
    rw [hc, hb, if_pos rfl]
    exact ⟨fun _ => rfl, fun h => by omega⟩
   | false =>
    rw [if_neg (by simp)]
    have hc0 : code26 l m = 0 := by rw [hc, hb]; rfl
    obtain ⟨M, rfl⟩ : ∃ M : Nat, m = (M : Int) := ⟨m.toNat, by omega⟩
    refine Ok.gd (decide_eq_true (by omega)) (Ok.gd (decide_eq_true (by omega)) (Ok.gd (decide_eq_true (by omega)) ?_))
    refine Ok.bd (R := fun o => isTab l M o) ?_ (fun o ho => ok_some.2 ⟨fun h => (h hc0).elim, fun _ => ⟨rfl, by omega, by omega, by simpa using ho⟩⟩)
    have hr : (List.replicate ((M : Int)).toNat ([] : List Int)).length = M := by simp
    have hz : (List.replicate ((M : Int)).toNat ((0 : Int) : Int)).length = M := by simp
    refine ok_rangeR (len := M) (fun k o => o.length = M ∧ ∀ a, a < k → (gt o (a : Int)).length = M ∧ ∀ b, b < M → gt (gt o (a : Int)) (b : Int) = cell26 l a b) (by omega) (by omega) ⟨hr, fun a ha => by omega⟩ ?_ ?_
    · rintro again k o hk ⟨o1, o2⟩ ih
      rw [hr]
      refine Ok.cd (fun _ => ?_) (fun h => by have := of_decide_eq_false h; omega)
      have hko : k < o.length := by omega
      refine Ok.gd (decide_eq_true (by omega)) (Ok.gd (by rw [inR_nat]; exact decide_eq_true hko) ?_)
      simp only [Int.toNat_natCast] at hz ⊢
      have e0 : gt (o.set k (List.replicate M (0 : Int))) (k : Int) = List.replicate M (0 : Int) := by rw [gt_set hko, if_pos rfl]
      have e1 : (o.set k (List.replicate M (0 : Int))).set k (List.replicate M (0 : Int)) = o.set k (List.replicate M (0 : Int)) := List.set_set ..
      refine Ok.gd (by rw [inR_nat, List.length_set]; exact decide_eq_true hko) ?_
      simp only [e0, e1, hz]
      refine Ok.bd (R := fun g => g.length = M ∧ ∀ a, a < k + 1 → (gt g (a : Int)).length = M ∧ ∀ b, b < M → gt (gt g (a : Int)) (b : Int) = cell26 l a b) ?_ (fun g hg => ih g hg)
      refine ok_rangeR (len := M) (fun j g => g.length = M ∧ (∀ a, a < k → (gt g (a : Int)).length = M ∧ ∀ b, b < M → gt (gt g (a : Int)) (b : Int) = cell26 l a b) ∧ (gt g (k : Int)).length = M ∧ ∀ b, b < j → gt (gt g (k : Int)) (b : Int) = cell26 l k b) (by omega) (by omega) ⟨by rw [List.length_set]; exact o1, fun a ha => by rw [gt_set hko, if_neg (by omega)]; exact o2 a ha, by rw [e0]; exact hz, fun b hb => by omega⟩ ?_ ?_
      · rintro again2 j g hj ⟨p1, p2, p3, p4⟩ ih2
        refine Ok.cd (fun _ => ?_) (fun h => by have := of_decide_eq_false h; omega)
        have hkg : k < g.length := by omega
        refine Ok.gd (by rw [inR_nat]; exact decide_eq_true hkg) ?_
        refine Ok.bde (common_v hn hs0 _ _) ?_
        refine Ok.gd (by rw [inR_nat, p3]; exact decide_eq_true hj) ?_
        simp only [Int.toNat_natCast]
        refine ih2 _ ⟨by rw [List.length_set]; exact p1, fun a ha => by rw [gt_set hkg, if_neg (by omega)]; exact p2 a ha, by rw [gt_set hkg, if_pos rfl, List.length_set]; exact p3, fun b hb => ?_⟩
        rw [gt_set hkg, if_pos rfl, gt_set (by omega)]
        by_cases e : b = j
        · subst e; rw [if_pos rfl]; rfl
        · rw [if_neg e]; exact p4 b (by omega)
      · rintro again2 g ⟨p1, p2, p3, p4⟩
        refine Ok.cd (fun h => by have := of_decide_eq_true h; omega) (fun _ => ok_some.2 ⟨p1, fun a ha => ?_⟩)
        by_cases e : a = k
        · subst e; exact ⟨p3, p4⟩
        · exact p2 a (by omega)
    · rintro again o ⟨o1, o2⟩
      rw [hr]
      exact Ok.cd (fun h => by have := of_decide_eq_true h; omega) (fun _ => ok_some.2 ⟨o1, o2⟩)
theorem bads_v {n : Nat} {t : Mks} {m : Int} (hn : t.length < n) (hl : t.length ≤ 9223372036854775806) : slices_ContainsFunc_fiducial_api_Mark_fiducial_api_Mark_of_fiduciallaw26_TrackCovers_1 n t m = some (badM m t) := by
 unfold slices_ContainsFunc_fiducial_api_Mark_fiducial_api_Mark_of_fiduciallaw26_TrackCovers_1 slices_IndexFunc_fiducial_api_Mark_fiducial_api_Mark_of_fiduciallaw26_TrackCovers_1
 have := loop_indexF (f := fun x => fiduciallaw26_TrackCovers_1 n x m) (p := fun x : api_Mark => decide (x.Image < 0) || decide (x.Image ≥ m)) (s := t) (n := n) (fun x => by
  show cdO _ _ _ = _
  cases h : decide (x.Image < 0) <;> rfl) hn hl
 refine (congrArg (fun o => bdO o fun v1 => some (decide (v1 ≥ 0))) this).trans ?_
 show some (decide (idxB (fun x : api_Mark => decide (x.Image < 0) || decide (x.Image ≥ m)) t ≥ 0)) = _
 rw [idxB_ge]; rfl
theorem covers_v (l : List Mks) (m : Int) : fiduciallaw26_TrackCovers 5000 l m = some true := by
 apply Ok.eq
 unfold fiduciallaw26_TrackCovers
 refine Ok.bde rfl (Ok.cd (fun h => by cases h) (fun _ => ?_))
 obtain ⟨sb, es, hs⟩ := short_v (n := 5000) (by omega) l
 refine Ok.bde es (Ok.cd (fun _ => ok_some.2 rfl) (fun hb => ?_))
 have hs := hs (by simpa using hb)
 have hs0 := hs
 obtain ⟨h1, h2⟩ := hs
 refine Ok.bd (cover_v (by omega) hs0 m) ?_
 rintro ⟨g, c⟩ ⟨q1, q2⟩
 refine Ok.bd (R := fun o => o = code26 l m) ?_ ?_
 · have three : (m < 1 ∨ m > 64 ∨ l.length > 256) → 3 = code26 l m := by
    intro h; unfold code26; rw [if_pos h]
   refine Ok.cd (fun h => ok_some.2 (three (.inl (of_decide_eq_true h)))) (fun g1 => ?_)
   refine Ok.cd (fun h => ok_some.2 (three (.inr (.inl (of_decide_eq_true h))))) (fun g2 => ?_)
   refine Ok.cd (fun h => ok_some.2 (three (.inr (.inr (by have := of_decide_eq_true h; omega))))) (fun g3 => ?_)
   have g1 := of_decide_eq_false g1
   have g2 := of_decide_eq_false g2
   have g3 := of_decide_eq_false g3
   have hc : code26 l m = if l.any (badM m) = true then 2 else 0 := by unfold code26; rw [if_neg (by omega)]
   refine Ok.bd (R := fun o => o = code26 l m) ?_ (fun o ho => ok_some.2 ho)
   refine ok_rangeR (len := l.length) (fun k o => o = if (l.take k).any (badM m) = true then 2 else 0) (by omega) (by omega) rfl ?_ ?_
   · rintro again k o hk rfl ih
     have hm := h2 _ (gt_in hk)
     refine Ok.cd (fun _ => ?_) (fun h => by have := of_decide_eq_false h; omega)
     refine Ok.gd (by rw [inR_nat]; exact decide_eq_true hk) ?_
     have et : gt l (k : Int) = l[k] := by rw [gt_nat]; simp [List.getD, List.getElem?_eq_getElem hk]
     have hs : (l.take (k + 1)).any (badM m) = ((l.take k).any (badM m) || badM m (gt l (k : Int))) := by
      rw [List.take_add_one, List.getElem?_eq_getElem hk, List.any_append, et]; simp
     rw [hs] at ih
     generalize gt l (k : Int) = t at *
     refine Ok.bde (bads_v (by omega) (by omega)) ?_
     cases hb : badM m t with
     | true => exact Ok.cd (fun _ => ih _ (by rw [hb, Bool.or_true]; rfl)) (fun h => by cases h)
     | false => exact Ok.cd (fun h => by cases h) (fun _ => ih _ (by rw [hb, Bool.or_false]))
   · rintro again o rfl
     refine Ok.cd (fun h => by have := of_decide_eq_true h; omega) (fun _ => ok_some.2 ?_)
     rw [List.take_length, hc]
 · rintro o rfl
   dsimp only
   by_cases hc : code26 l m = 0
   · obtain ⟨c0, m1, m2, t1, t2⟩ := q2 hc
     dsimp only at c0 t1 t2
     subst c0
     rw [hc]
     refine Ok.cd (fun h => by cases h) (fun _ => ?_)
     refine Ok.cd (fun h => by cases h) (fun _ => ?_)
     obtain ⟨M, rfl⟩ : ∃ M : Nat, m = (M : Int) := ⟨m.toNat, by omega⟩
     simp only [Int.toNat_natCast] at t1 t2
     rw [t1]
     refine Ok.cd (fun h => by simp at h) (fun _ => ?_)
     refine Ok.bd (R := fun o => o = Sum.inl ()) ?_ (by rintro o rfl; exact ok_some.2 rfl)
     refine ok_range (len := M) (fun _ => True) (by omega) (by omega) trivial ?_ ?_
     · intro again a ha _ ih
       obtain ⟨r1, r2⟩ := t2 a ha
       refine Ok.cd (fun _ => ?_) (fun h => by have := of_decide_eq_false h; omega)
       refine Ok.gd (by rw [inR_nat]; exact decide_eq_true ha) ?_
       rw [r1]
       refine Ok.cd (fun h => by simp at h) (fun _ => ?_)
       refine Ok.bd (R := fun o => o = Sum.inl ()) ?_ (by rintro o rfl; exact ih trivial)
       refine ok_range (len := M) (fun _ => True) (by omega) (by omega) trivial ?_ ?_
       · intro again2 b hb _ ih2
         refine Ok.cd (fun _ => ?_) (fun h => by have := of_decide_eq_false h; omega)
         refine Ok.bd (R := fun o => o = cell26 l a b) ?_ ?_
         · refine ok_rangeR (len := l.length) (fun k o => o = ((both l (a : Int) (b : Int) k).length : Int)) (by omega) (by omega) rfl ?_ ?_
           · rintro again3 k o hk rfl ih3
             have hm := h2 _ (gt_in hk)
             have hl := both_len l (a : Int) (b : Int) k
             rw [both_succ] at ih3
             generalize both l (a : Int) (b : Int) k = o at *
             refine Ok.cd (fun _ => ?_) (fun h => by have := of_decide_eq_false h; omega)
             refine Ok.gd (by rw [inR_nat]; exact decide_eq_true hk) ?_
             generalize gt l (k : Int) = t at *
             have im : fiduciallaw26_images 5000 t = some (t.map (·.Image)) := images_v (by omega) (by omega)
             have co : ∀ x, slices_Contains_int_int 5000 (t.map (·.Image)) x = some (seen t x) := fun x => by rw [contains_v (by rw [List.length_map]; omega) (by rw [List.length_map]; omega), seen_images]
             refine Ok.bde im (Ok.bde (co a) ?_)
             cases hsa : seen t (a : Int) with
             | false => exact Ok.cd (fun h => by cases h) (fun _ => ih3 _ (by rw [hsa]; simp))
             | true =>
              refine Ok.cd (fun _ => Ok.bde im (Ok.bde (co b) ?_)) (fun h => by cases h)
              cases hsb : seen t (b : Int) with
              | false => exact Ok.cd (fun h => by cases h) (fun _ => ih3 _ (by rw [hsa, hsb]; simp))
              | true =>
               refine Ok.cd (fun _ => ?_) (fun h => by cases h)
               rw [wrap64_in (by omega) (by omega)]
               exact ih3 _ (by rw [hsa, hsb]; simp)
           · rintro again3 o rfl
             exact Ok.cd (fun h => by have := of_decide_eq_true h; omega) (fun _ => ok_some.2 rfl)
         · rintro o rfl
           refine Ok.gd (by rw [inR_nat]; exact decide_eq_true hb) ?_
           rw [r2 b hb]
           exact Ok.cd (fun h => by simp at h) (fun _ => ih2 trivial)
       · intro again2 _
         exact Ok.cd (fun h => by have := of_decide_eq_true h; omega) (fun _ => ok_some.2 rfl)
     · intro again _
       exact Ok.cd (fun h => by have := of_decide_eq_true h; omega) (fun _ => ok_some.2 rfl)
   · have := q1 hc
     injection this with e1 e2
     subst e1; subst e2
     refine Ok.cd (fun _ => ?_) (fun h => by simp at h; exact (hc h).elim)
     refine Ok.bd (R := fun o => o = true) ?_ (fun o ho => ok_some.2 ho)
     exact Ok.cd (fun _ => ok_some.2 rfl) (fun h => by simp at h)
end Go.L

