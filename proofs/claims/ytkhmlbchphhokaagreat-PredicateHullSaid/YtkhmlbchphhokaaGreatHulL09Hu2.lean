import Derived.Test.YtkhmlbchphhokaaGreatHulL09Hul
set_option linter.all false
namespace Go.L
open Go Go.Eng
theorem loop_stepH {α β : Type} (n : Nat) (f : (α → Option β) → α → Option β) (a : α) : loopO (n + 1) f a = f (loopO n f) a := rfl
theorem popC_mem {g : Int → api_Pix} {c : Int} : ∀ (R : List Int) x, x ∈ popC g c R → x ∈ R
 | [], x, h => by simpa [popC] using h
 | [b], x, h => by simpa [popC] using h
 | b :: a :: r, x, h => by
  unfold popC at h
  split at h
  · exact List.mem_cons_of_mem _ (popC_mem (a :: r) x h)
  · exact h
theorem popC_len {g : Int → api_Pix} {c : Int} : ∀ (R : List Int), (popC g c R).length ≤ R.length
 | [] => by simp [popC]
 | [b] => by simp [popC]
 | b :: a :: r => by
  unfold popC
  split
  · have := popC_len (g := g) (c := c) (a :: r); simp at this ⊢; omega
  · exact Nat.le_refl _
theorem sideC_append {g : Int → api_Pix} {c : Int} : ∀ (l R : List Int), sideC g R (l ++ [c]) = c :: popC g c (sideC g R l)
 | [], R => rfl
 | a :: l, R => sideC_append l (a :: popC g a R)
theorem sideC_mem {g : Int → api_Pix} : ∀ (l R : List Int) x, x ∈ sideC g R l → x ∈ R ∨ x ∈ l
 | [], R, x, h => .inl h
 | a :: l, R, x, h => by
  rcases sideC_mem l _ x h with h | h
  · rcases List.mem_cons.1 h with h | h
    · exact .inr (by simp [h])
    · exact .inl (popC_mem _ _ h)
  · exact .inr (List.mem_cons_of_mem _ h)
theorem sideC_len {g : Int → api_Pix} : ∀ (l R : List Int), (sideC g R l).length ≤ R.length + l.length
 | [], R => Nat.le_refl _
 | a :: l, R => by
  have h1 := sideC_len (g := g) l (a :: popC g a R)
  have h2 := popC_len (g := g) (c := a) R
  rw [sideC]; simp at h1 ⊢; omega
theorem sideC_pos {g : Int → api_Pix} {l : List Int} (h : l ≠ []) : 0 < (sideC g [] l).length := by
 rcases List.eq_nil_or_concat l with e | ⟨l', c, e⟩
 · exact absurd e h
 · rw [e, List.concat_eq_append, sideC_append]; simp
theorem pop_v {l : List api_Pix} (hI : AllIn l) {c : Int} (hc : 0 ≤ c ∧ c < l.length) {n0 : Nat} : ∀ (R : List Int) (n : Nat), R.length < n → R.length ≤ 1024 → (∀ y, y ∈ R → 0 ≤ y ∧ y < l.length) →
  loopO (α := List Int) (β := List Int) n (fun again118 out_106 =>
    cdO (decide ((out_106.length : Int) > 1)) (
     gdO (inR (wrapF .i64 ((out_106.length : Int) - 2)) out_106.length) (
     gdO (inR (gt out_106 (wrapF .i64 ((out_106.length : Int) - 2))) l.length) (
     gdO (inR (wrapF .i64 ((out_106.length : Int) - 1)) out_106.length) (
     gdO (inR (gt out_106 (wrapF .i64 ((out_106.length : Int) - 1))) l.length) (
     gdO (inR c l.length) (
     bdO (predicate_cross n0 (gt l (gt out_106 (wrapF .i64 ((out_106.length : Int) - 2)))) (gt l (gt out_106 (wrapF .i64 ((out_106.length : Int) - 1)))) (gt l c)) fun v125 => (
     cdO (decide (v125 ≤ 0)) (
      gdO (inS 0 (wrapF .i64 ((out_106.length : Int) - 1)) out_106.length) (
      again118 (out_106.take (wrapF .i64 ((out_106.length : Int) - 1)).toNat))) (
      some (out_106)))))))))
    (some (out_106))) R.reverse = some (popC (gt l) c R).reverse
 | R, 0, h, _, _ => by omega
 | [], n + 1, h, _, _ => by
  rw [loop_stepH]; simp [popC, cdO]
 | [b], n + 1, h, _, _ => by
  rw [loop_stepH]; simp [popC, cdO]
 | b :: a :: r, n + 1, h, hR, hm => by
  rw [loop_stepH]
  have hlen : (b :: a :: r).reverse.length = r.length + 2 := by simp
  have hga : (b :: a :: r).reverse.getD r.length default = a := by
   rw [getD_rev (by simp; omega)]; simp
  have hgb : (b :: a :: r).reverse.getD (r.length + 1) default = b := by
   rw [getD_rev (by simp)]; simp
  have ht : (b :: a :: r).reverse.take (r.length + 1) = (a :: r).reverse := by
   rw [List.reverse_cons (a := b), List.take_append_of_le_length (by simp), List.take_of_length_le (by simp)]
  generalize (b :: a :: r).reverse = o at hlen hga hgb ht
  have hlr : r.length ≤ 1022 := by simp at hR; omega
  have e1 : wrapF .i64 ((o.length : Int) - 2) = (r.length : Int) := by rw [wrap64_in (by omega) (by omega)]; omega
  have e2 : wrapF .i64 ((o.length : Int) - 1) = ((r.length + 1 : Nat) : Int) := by rw [wrap64_in (by omega) (by omega)]; omega
  have hma := hm a (by simp)
  have hmb := hm b (by simp)
  rw [e1, e2, inR_nat, inR_nat, gt_nat, gt_nat, hga, hgb]
  clear e1 e2
  apply Ok.eq
  refine Ok.cd (fun _ => ?_) (fun h => by have := of_decide_eq_false h; omega)
  refine Ok.gd (decide_eq_true (by omega)) (Ok.gd (inR_iff.2 hma) (Ok.gd (decide_eq_true (by omega)) (Ok.gd (inR_iff.2 hmb) (Ok.gd (inR_iff.2 hc) ?_))))
  refine Ok.bde (cross_v (hI.at hma.1 hma.2) (hI.at hmb.1 hmb.2) (hI.at hc.1 hc.2)) ?_
  unfold popC
  refine Ok.cd (fun h => ?_) (fun h => ?_)
  · rw [if_pos (of_decide_eq_true h)]
    refine Ok.gd (by rw [inS_iff]; omega) ?_
    have en : (((r.length + 1 : Nat) : Int)).toNat = r.length + 1 := by omega
    rw [en, ht]
    exact Ok.of_eq (pop_v hI hc (a :: r) n (by simp at *; omega) (by simp at *; omega) fun y hy => hm y (List.mem_cons_of_mem _ hy)) rfl
  · rw [if_neg (of_decide_eq_false h)]
    refine ok_some.2 ?_
    rw [← List.take_append_drop (r.length + 1) o, ht]
    have : o.drop (r.length + 1) = [b] := by
     apply List.ext_getElem?
     intro i
     cases i with
     | zero =>
      rw [List.getElem?_drop]
      have := List.getElem?_eq_getElem (l := o) (i := r.length + 1) (by omega)
      simp only [List.getD, this] at hgb
      simp [this]; simpa using hgb
     | succ i => rw [List.getElem?_drop, List.getElem?_eq_none (by omega)]; simp
    rw [this]; simp
theorem side_v {n : Nat} (hn : 1100 < n) {l : List api_Pix} (hI : AllIn l) {p : List Int} (hp : p ≠ []) (hl : p.length ≤ 1000) (hm : ∀ y, y ∈ p → 0 ≤ y ∧ y < l.length) :
  predicate_Hull_3_w n p l = some ((sideC (gt l) [] p).reverse.take ((sideC (gt l) [] p).length - 1)) := by
 have hpos := sideC_pos (g := gt l) hp
 have hle := sideC_len (g := gt l) p []
 apply Ok.eq
 unfold predicate_Hull_3_w
 refine Ok.bd (R := fun o => o = (sideC (gt l) [] p).reverse) ?_ (fun o ho => ?_)
 · refine ok_rangeR (len := p.length) (fun k (out : List Int) => out = (sideC (gt l) [] (p.take k)).reverse) (by omega) (by omega) rfl ?_ ?_
   · rintro again k out hk rfl ih
     refine Ok.cd (fun _ => ?_) (fun h => by simp at h; omega)
     refine Ok.gd (by rw [inR_nat]; simpa using hk) ?_
     have hlk := sideC_len (g := gt l) (p.take k) []
     rw [List.length_take] at hlk
     have hc := hm _ (mem_at hk)
     rw [gt_nat]
     refine Ok.bde (pop_v hI hc (sideC (gt l) [] (p.take k)) n (by simp at hlk; omega) (by simp at hlk; omega) fun y hy => ?_) ?_
     · rcases sideC_mem _ _ y hy with h | h
       · cases h
       · exact hm y (List.mem_of_mem_take h)
     · have hpl := popC_len (g := gt l) (c := p.getD k default) (sideC (gt l) [] (p.take k))
       refine Ok.gd (decide_eq_true (by simp at *; omega)) (Ok.gd (decide_eq_true (by simp at *; omega)) ?_)
       refine ih _ ?_
       rw [take_succ_at hk, sideC_append]; simp
   · rintro again out rfl
     refine Ok.cd (fun h => by simp at h) (fun _ => ok_some.2 ?_)
     rw [List.take_length]
 · subst ho
   rw [List.length_reverse]
   have e : wrapF .i64 (((sideC (gt l) [] p).length : Int) - 1) = (((sideC (gt l) [] p).length - 1 : Nat) : Int) := by rw [wrap64_in (by simp at hle; omega) (by simp at hle; omega)]; omega
   rw [e]
   clear e
   refine Ok.gd (by rw [inS_iff]; omega) (ok_some.2 ?_)
   congr 1
def hullL (l : List api_Pix) : List Int := if (ordr l).length = 1 then ordr l else hullC (gt l) (ordr l)
theorem hull_v {n : Nat} (hn : 1100 < n) {l : List api_Pix} (h0 : 0 < l.length) (hl : l.length ≤ 1000) (hI : AllIn l) : predicate_Hull n l = some (hullL l, 0) := by
 apply Ok.eq
 unfold predicate_Hull
 have hb : l.any badP = false := by rw [List.any_eq_false]; intro p hp; have := hI p hp; unfold In at this; rw [this]; decide
 refine Ok.cd (fun h => by have := beq_iff_eq.1 h; omega) (fun _ => ?_)
 refine Ok.cd (fun h => by have := of_decide_eq_true h; omega) (fun _ => ?_)
 refine Ok.bde (check_v (by omega) (by omega) (by omega)) ?_
 rw [hb]
 refine Ok.cd (fun h => by simp at h) (fun _ => ?_)
 refine Ok.gd (decide_eq_true (by omega)) (Ok.gd (decide_eq_true (by omega)) (Ok.gd (decide_eq_true (by omega)) ?_))
 refine Ok.bde (ints_v l.length (by omega) (by omega)) ?_
 refine Ok.bde (sort_v (by omega) (by omega) hI) ?_
 have hsl := srtd_len l
 refine Ok.gd (by rw [hsl]; unfold intsN; simp) ?_
 have hc := compact_v (n := n) (l := l) (s := srtd l) (by omega) (by omega) (fun x hx => mem_srtd.1 hx)
 rw [hsl] at hc
 refine Ok.bde hc ?_
 show Ok (cdO ((((ordr l).length : Int) : Int) == 1) _ _) _
 change Ok (cdO ((((ordr l).length : Int) : Int) == 1) (some (ordr l, 0)) (bdO (predicate_Hull_3_w n (ordr l) l) fun v26 => (bdO (slices_Reverse_int_int_w_2 n (ordr l)) fun v28 => (gdO (decide (v28.length = (ordr l).length)) (bdO (predicate_Hull_3_w n v28 l) fun v31 => (gdO (decide ((v26.length + v31.length) * 8 ≤ 140737488355328)) (gdO (decide (v26.length + v31.length ≤ 4611686018427387904)) (some ((v26 ++ v31, 0)))))))))) _
 have hlo := ord_len l
 have hpo := ord_pos h0
 have hmo : ∀ y, y ∈ ordr l → 0 ≤ y ∧ y < l.length := fun y hy => ((ord_mem (by omega) hI).1 hy).1
 unfold hullL
 refine Ok.cd (fun h => ?_) (fun h => ?_)
 · rw [if_pos (by have := beq_iff_eq.1 h; omega)]; exact ok_some.2 rfl
 · rw [if_neg (by have := beq_eq_false_iff_ne.1 h; omega)]
   have hne : ordr l ≠ [] := fun e => by rw [e] at hpo; cases hpo
   refine Ok.bde (side_v hn hI hne (by omega) hmo) ?_
   refine Ok.bde (reverse_v (by omega) (by omega)) ?_
   refine Ok.gd (by simp) ?_
   refine Ok.bde (side_v hn hI (by simpa using hne) (by simpa using (by omega : (ordr l).length ≤ 1000)) fun y hy => hmo y (List.mem_reverse.1 hy)) ?_
   have h1 := sideC_len (g := gt l) (ordr l) []
   have h2 := sideC_len (g := gt l) (ordr l).reverse []
   simp only [List.length_nil, List.length_reverse] at h1 h2
   refine Ok.gd (decide_eq_true ?_) (Ok.gd (decide_eq_true ?_) (ok_some.2 rfl))
   · simp only [List.length_take, List.length_reverse]; omega
   · simp only [List.length_take, List.length_reverse]; omega
end Go.L

