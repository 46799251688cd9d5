import Derived.Test.YtiicieaabeamoaaGreatPasL55m
set_option linter.all false
namespace Go.L
open Go Go.Eng
def fsz (x : api_Flight) : Nat := (1 + (((x.Strips.map fun z => ((z.map fun z => (1 + (1 + 0))).sum + 1)).sum + 1) + 0))
def pts (f : api_Flight) : List api_Pix := f.Strips.flatten
theorem sum_two (l : List api_Pix) : (l.map fun _ => (1 + (1 + 0))).sum = 2 * l.length := by
 induction l with
 | nil => rfl
 | cons x l ih => rw [List.map_cons, List.sum_cons, ih, List.length_cons]; omega
theorem sum_strips (ls : List (List api_Pix)) : ls.length + 2 * ls.flatten.length ≤ (ls.map fun z => ((z.map fun z => (1 + (1 + 0))).sum + 1)).sum := by
 induction ls with
 | nil => simp
 | cons l ls ih => rw [List.map_cons, List.sum_cons, sum_two, List.flatten_cons, List.length_append, List.length_cons]; omega
theorem pts_small {f : api_Flight} (h : fsz f ≤ 1048576) : (pts f).length ≤ 1048576 ∧ f.Strips.length ≤ 1048576 := by
 have := sum_strips f.Strips
 unfold fsz at h; unfold pts; omega
theorem flat_take_succ (ls : List (List api_Pix)) {k : Nat} (hk : k < ls.length) : (ls.take (k + 1)).flatten = (ls.take k).flatten ++ ls.getD k default := by
 rw [take_succ_getD hk, List.flatten_append]; simp
theorem flat_take_le (ls : List (List api_Pix)) (k : Nat) : (ls.take k).flatten.length ≤ ls.flatten.length := by
 have : ls.flatten = (ls.take k).flatten ++ (ls.drop k).flatten := by rw [← List.flatten_append, List.take_append_drop]
 rw [this, List.length_append]; omega
theorem strip_le (ls : List (List api_Pix)) {k : Nat} (hk : k < ls.length) : (ls.take k).flatten.length + (ls.getD k default).length ≤ ls.flatten.length := by
 have := flat_take_le ls (k + 1)
 rw [flat_take_succ ls hk, List.length_append] at this; exact this
theorem positions_v {n : Nat} {f : api_Flight} (hn : f.Strips.length < n) (h : fsz f ≤ 1048576) : fiduciallaw55_positions n f = some (pts f) := by
 obtain ⟨b1, b2⟩ := pts_small h
 apply Ok.eq
 unfold fiduciallaw55_positions
 refine Ok.bd (R := fun o => o = pts f) ?_ (fun o ho => ok_some.2 ho)
 refine ok_rangeR (len := f.Strips.length) (fun k (c : List api_Pix) => c = (f.Strips.take k).flatten) hn (by omega) rfl ?_ ?_
 · rintro again k c hk rfl ih
   have hs := strip_le f.Strips hk
   unfold pts at b1
   refine Ok.cd (fun _ => Ok.gd (by rw [inR_nat]; simpa using hk) ?_) (fun h => by simp at h; omega)
   rw [gt_nat]
   refine Ok.gd (decide_eq_true (by omega)) (Ok.gd (decide_eq_true (by omega)) (ih _ ?_))
   rw [flat_take_succ f.Strips hk]
 · rintro again c rfl
   exact Ok.cd (fun h => by simp at h) (fun _ => ok_some.2 (by rw [List.take_length]; rfl))
theorem few_v {n : Nat} {f : api_Flight} (hn : 100 ≤ n) (h : fsz f ≤ 1048576) (m : Int) : fiduciallaw55_few n f m = some (decide (f.Strips.length ≤ 20 ∧ ((pts f).length : Int) ≤ m)) := by
 unfold fiduciallaw55_few
 by_cases h1 : f.Strips.length ≤ 20
 · have : decide ((f.Strips.length : Int) ≤ 20) = true := by simp; omega
   rw [this, positions_v (by omega) h]
   show some _ = some _
   congr 1; apply decide_eq_decide.2; omega
 · have : decide ((f.Strips.length : Int) ≤ 20) = false := by simp; omega
   rw [this]
   show some _ = some _
   congr 1; symm; rw [decide_eq_false_iff_not]; omega
def badP (p : api_Pix) : Bool := far p.X || far p.Y
def fcode (f : api_Flight) : Int := if far f.Height || (pts f).any badP then 2 else if (pts f).length > 256 then 3 else 0
theorem flat_any (ls : List (List api_Pix)) (p : api_Pix → Bool) : (∀ k, k < ls.length → (ls.getD k default).any p = false) → ls.flatten.any p = false := by
 intro h
 rw [List.any_eq_false]
 intro x hx
 obtain ⟨l, hl, hxl⟩ := List.mem_flatten.1 hx
 obtain ⟨k, hk, rfl⟩ := List.getElem_of_mem hl
 have := h k hk
 rw [getD_eq hk, List.any_eq_false] at this
 exact this x hxl
theorem flat_any_t (ls : List (List api_Pix)) (p : api_Pix → Bool) {k : Nat} (hk : k < ls.length) (h : (ls.getD k default).any p = true) : ls.flatten.any p = true := by
 rw [getD_eq hk] at h
 obtain ⟨x, hx, hp⟩ := List.any_eq_true.1 h
 exact List.any_eq_true.2 ⟨x, List.mem_flatten.2 ⟨_, List.getElem_mem hk, hx⟩, hp⟩
theorem w64n {k : Nat} (h : k ≤ 100000000) : wrapF .i64 ((k : Int) + 1) = ((k + 1 : Nat) : Int) := by rw [wrap64_in (by omega) (by omega)]; omega
theorem checkFlight_v {n : Nat} {f : api_Flight} (hn : 1000 ≤ n) (h1 : f.Strips.length ≤ 20) (h2 : (pts f).length ≤ 300) : plan_checkFlight n f = some (fcode f) := by
 apply Ok.eq
 unfold plan_checkFlight fcode
 refine Ok.bde (within_v ..) (Ok.cd (fun h => ok_some.2 ?_) (fun hh => ?_))
 · rw [far_t.2 (not_dec h)]; rfl
 rw [far_f.2 (dec_of hh), Bool.false_or]
 clear hh
 unfold pts at *
 refine Ok.bd (R := fun o => match o with | .inl v => v = (f.Strips.flatten.length : Int) ∧ f.Strips.flatten.any badP = false | .inr r => r = 2 ∧ f.Strips.flatten.any badP = true) ?_ ?_
 · refine ok_rangeR (len := f.Strips.length) (fun k (c : Int) => c = ((f.Strips.take k).flatten.length : Int) ∧ ∀ j, j < k → (f.Strips.getD j default).any badP = false) (by omega) (by omega) ⟨by simp, fun j hj => by omega⟩ ?_ ?_
   · rintro again k c hk ⟨rfl, hall⟩ ih
     have hs := strip_le f.Strips hk
     refine Ok.cd (fun _ => Ok.gd (by rw [inR_nat]; simpa using hk) ?_) (fun h => by simp at h; omega)
     rw [gt_nat]
     have hst := flat_take_succ f.Strips hk
     have hft := fun h => flat_any_t f.Strips badP hk h
     generalize hl0 : f.Strips.getD k default = l at *
     refine Ok.bd (R := fun o => match o with | .inl v => v = (((f.Strips.take k).flatten.length + l.length : Nat) : Int) ∧ l.any badP = false | .inr r => r = 2 ∧ l.any badP = true) ?_ ?_
     · refine ok_rangeR (len := l.length) (fun j (c : Int) => c = (((f.Strips.take k).flatten.length + j : Nat) : Int) ∧ ∀ i, i < j → badP (l.getD i default) = false) (by omega) (by omega) ⟨by simp, fun j hj => by omega⟩ ?_ ?_
       · rintro again2 j c hj ⟨rfl, hP⟩ ih2
         refine Ok.cd (fun _ => Ok.gd (by rw [inR_nat]; simpa using hj) ?_) (fun h => by simp at h; omega)
         rw [gt_nat]
         have hbad : badP (l.getD j default) = true → (2 : Int) = 2 ∧ l.any badP = true := fun h => ⟨rfl, any_of_at hj h⟩
         refine Ok.bde (within_v ..) (Ok.cd (fun h => ok_some.2 (hbad ?_)) (fun g1 => ?_))
         · unfold badP; rw [far_t.2 (not_dec h)]; rfl
         refine Ok.bde (within_v ..) (Ok.cd (fun h => ok_some.2 (hbad ?_)) (fun g2 => ?_))
         · unfold badP; rw [far_t.2 (not_dec h)]; simp
         refine ih2 _ ⟨w64n (by omega), fun i hi => ?_⟩
         by_cases hij : i = j
         · subst hij; unfold badP; rw [far_f.2 (dec_of g1), far_f.2 (dec_of g2)]; rfl
         · exact hP i (by omega)
       · rintro again2 c ⟨rfl, hP⟩
         exact Ok.cd (fun h => by simp at h) (fun _ => ok_some.2 ⟨rfl, any_false_iff.2 hP⟩)
     · rintro (v | r) hv
       · obtain ⟨rfl, hl⟩ := hv
         refine ih _ ⟨by rw [hst, List.length_append], fun j hj => ?_⟩
         by_cases hjk : j = k
         · subst hjk; rw [hl0]; exact hl
         · exact hall j (by omega)
       · exact ok_some.2 ⟨hv.1, hft hv.2⟩
   · rintro again c ⟨rfl, hall⟩
     exact Ok.cd (fun h => by simp at h) (fun _ => ok_some.2 ⟨by rw [List.take_length], flat_any _ _ hall⟩)
 · rintro (v | r) hv
   · obtain ⟨rfl, hv⟩ := hv
     rw [hv]
     refine Ok.cd (fun h => ok_some.2 ?_) (fun h => ok_some.2 ?_)
     · have := of_decide_eq_true h
       rw [if_neg (by simp), if_pos (by omega)]
     · have := of_decide_eq_false h
       rw [if_neg (by simp), if_neg (by omega)]
   · obtain ⟨rfl, hv⟩ := hv
     exact ok_some.2 (by rw [hv]; rfl)
end Go.L

