import Derived.Test.YtndahnebnggdmaaGreatConLD
import Derived.Test.YtndahnebnggdmaaGreatPl6jpodfgob
import Derived.KernelRfl
import Derived.Test.YtndahnebnggdmaaGreatConL02s
import Derived.Test.YtndahnebnggdmaaGreatConL01s
import Derived.Test.YtndahnebnggdmaaGreatConL02s
import Derived.Test.YtndahnebnggdmaaGreatConL02s
import Derived.Test.YtndahnebnggdmaaGreatPl2pkcjgaif
import Derived.Test.YtndahnebnggdmaaGreatSc10idcakkmj
set_option linter.all false
namespace Go.L
open Go Go.Eng
theorem known55_v : fiduciallaw55_known 5000 = some true := by kernel_rfl
structure OkS (s : api_Survey) : Prop where
 w : 1 ≤ s.Width ∧ s.Width ≤ 1048576
 h : 1 ≤ s.Height ∧ s.Height ≤ 1048576
 lo : -1048576 ≤ s.Low ∧ s.Low ≤ 1048576
 hi : -1048576 ≤ s.High ∧ s.High ≤ 1048576
 ac : 1 ≤ s.Across ∧ s.Across ≤ 1048576
 al : 1 ≤ s.Along ∧ s.Along ≤ 1048576
 fo : 1 ≤ s.Focal ∧ s.Focal ≤ 1048576
 ov : 0 ≤ s.Overlap ∧ s.Overlap ≤ 95
 si : 0 ≤ s.Sidelap ∧ s.Sidelap ≤ 95
 vi : 1 ≤ s.Views ∧ s.Views ≤ 16
open Classical in
noncomputable def chk (s : api_Survey) : Int := if OkS s then (if s.Low > s.High then 5 else 0) else 2
theorem chk_bad {s : api_Survey} (h : ¬ OkS s) : chk s = 2 := if_neg h
theorem chk_ord {s : api_Survey} (h : OkS s) (k : s.Low > s.High) : chk s = 5 := by unfold chk; rw [if_pos h, if_pos k]
theorem chk_good {s : api_Survey} (h : OkS s) (k : s.Low ≤ s.High) : chk s = 0 := by unfold chk; rw [if_pos h, if_neg (by omega)]
theorem chk_zero {s : api_Survey} (h : chk s = 0) : OkS s ∧ s.Low ≤ s.High := by
 unfold chk at h
 split at h
 · rename_i k
   split at h
   · cases h
   · exact ⟨k, by omega⟩
 · cases h
theorem check1_v (n : Nat) (a m : Int) : plan_Check_1 n a m = some (decide (1 ≤ a ∧ a ≤ m)) := by
 unfold plan_Check_1
 by_cases h : a ≥ 1
 · have : decide (a ≥ 1) = true := by simpa using h
   rw [this]; show some _ = _; congr 1; apply decide_eq_decide.2; omega
 · have : decide (a ≥ 1) = false := by simpa using h
   rw [this]; show some _ = _; congr 1; symm; rw [decide_eq_false_iff_not]; omega
theorem check2_v (n : Nat) (a : Int) : plan_Check_2 n a = some (decide (0 ≤ a ∧ a ≤ 95)) := by
 unfold plan_Check_2
 by_cases h : a ≥ 0
 · have : decide (a ≥ 0) = true := by simpa using h
   rw [this]; show some _ = _; congr 1; apply decide_eq_decide.2; omega
 · have : decide (a ≥ 0) = false := by simpa using h
   rw [this]; show some _ = _; congr 1; symm; rw [decide_eq_false_iff_not]; omega
def near (a : Int) : Prop := -1048576 ≤ a ∧ a ≤ 1048576
instance (a : Int) : Decidable (near a) := inferInstanceAs (Decidable (_ ∧ _))
theorem within_v (n : Nat) (a : Int) : plan_within n a = some (decide (near a)) := by
 unfold plan_within
 by_cases h : a ≥ -1048576
 · have : decide (a ≥ -1048576) = true := by simpa using h
   rw [this]; show some _ = _; congr 1; apply decide_eq_decide.2; unfold near; omega
 · have : decide (a ≥ -1048576) = false := by simpa using h
   rw [this]; show some _ = _; congr 1; symm; rw [decide_eq_false_iff_not]; unfold near; omega
theorem not_dec {p : Prop} [Decidable p] (h : (!decide p) = true) : ¬ p := by simpa using h
theorem dec_of {p : Prop} [Decidable p] (h : (!decide p) = false) : p := by simpa using h
theorem check_v (n : Nat) (s : api_Survey) : plan_Check n s = some (chk s) := by
 apply Ok.eq
 unfold plan_Check
 refine Ok.bde (check1_v ..) (Ok.cd (fun h => ok_some.2 (chk_bad fun k => not_dec h k.w).symm) (fun h1 => ?_))
 refine Ok.bde (check1_v ..) (Ok.cd (fun h => ok_some.2 (chk_bad fun k => not_dec h k.h).symm) (fun h2 => ?_))
 refine Ok.bde (within_v ..) (Ok.cd (fun h => ok_some.2 (chk_bad fun k => not_dec h k.lo).symm) (fun h3 => ?_))
 refine Ok.bde (within_v ..) (Ok.cd (fun h => ok_some.2 (chk_bad fun k => not_dec h k.hi).symm) (fun h4 => ?_))
 refine Ok.bde (check1_v ..) (Ok.cd (fun h => ok_some.2 (chk_bad fun k => not_dec h k.ac).symm) (fun h5 => ?_))
 refine Ok.bde (check1_v ..) (Ok.cd (fun h => ok_some.2 (chk_bad fun k => not_dec h k.al).symm) (fun h6 => ?_))
 refine Ok.bde (check1_v ..) (Ok.cd (fun h => ok_some.2 (chk_bad fun k => not_dec h k.fo).symm) (fun h7 => ?_))
 refine Ok.bde (check2_v ..) (Ok.cd (fun h => ok_some.2 (chk_bad fun k => not_dec h k.ov).symm) (fun h8 => ?_))
 refine Ok.bde (check2_v ..) (Ok.cd (fun h => ok_some.2 (chk_bad fun k => not_dec h k.si).symm) (fun h9 => ?_))
 refine Ok.bde (check1_v ..) (Ok.cd (fun h => ok_some.2 (chk_bad fun k => not_dec h k.vi).symm) (fun h10 => ?_))
 have ok : OkS s := ⟨dec_of h1, dec_of h2, dec_of h3, dec_of h4, dec_of h5, dec_of h6, dec_of h7, dec_of h8, dec_of h9, dec_of h10⟩
 exact Ok.cd (fun h => ok_some.2 (chk_ord ok (of_decide_eq_true h)).symm) (fun h => ok_some.2 (chk_good ok (by have := of_decide_eq_false h; omega)).symm)
def far (a : Int) : Bool := !decide (near a)
theorem far_t {a : Int} : far a = true ↔ ¬ near a := by unfold far; rw [Bool.not_eq_true', decide_eq_false_iff_not]
theorem far_f {a : Int} : far a = false ↔ near a := by unfold far; rw [Bool.not_eq_false', decide_eq_true_eq]
theorem out_v {n : Nat} {l : List Int} (hn : l.length < n) (hl : l.length ≤ 9223372036854775806) : fiduciallaw55_out n l = some (l.any far) := by
 apply Ok.eq
 unfold fiduciallaw55_out
 refine Ok.bd (R := fun o => match o with | .inl _ => l.any far = false | .inr r => r = l.any far) ?_ ?_
 · refine ok_range (len := l.length) (fun k => ∀ j, j < k → far (l.getD j default) = false) hn hl (by intro j hj; omega) ?_ ?_
   · intro again k hk hP ih
     refine Ok.cd (fun _ => Ok.gd (by rw [inR_nat]; simpa using hk) ?_) (fun h => by simp at h; omega)
     rw [gt_nat]
     have bad : far (l.getD k default) = true → (true = l.any far) := fun h => (any_of_at hk h).symm
     refine Ok.cd (fun h => ok_some.2 (bad ?_)) (fun h1 => Ok.cd (fun h => ok_some.2 (bad ?_)) (fun h2 => ih fun j hj => ?_))
     · have := of_decide_eq_true h; rw [far_t]; unfold near; omega
     · have := of_decide_eq_true h; rw [far_t]; unfold near; omega
     · by_cases hjk : j = k
       · subst hjk
         have := of_decide_eq_false h1; have := of_decide_eq_false h2
         rw [far_f]; unfold near; omega
       · exact hP j (by omega)
   · intro again hP
     exact Ok.cd (fun h => by simp at h) (fun _ => ok_some.2 (any_false_iff.2 hP))
 · rintro (_ | r) h
   · exact ok_some.2 h.symm
   · exact ok_some.2 h
theorem rcheck_v {n : Nat} (hn : 100 < n) (s : api_Survey) : fiduciallaw55_check n s = some (chk s) := by
 apply Ok.eq
 unfold fiduciallaw55_check
 refine Ok.cd (fun h => ok_some.2 (chk_bad fun k => by have := of_decide_eq_true h; have := k.w; omega).symm) (fun h1 => ?_)
 refine Ok.cd (fun h => ok_some.2 (chk_bad fun k => by have := of_decide_eq_true h; have := k.h; omega).symm) (fun h2 => ?_)
 refine Ok.bde (out_v (by simp; omega) (by simp)) (Ok.cd (fun h => ok_some.2 (chk_bad fun k => ?_).symm) (fun h3 => ?_))
 · have := k.w; have := k.h; have := k.lo; have := k.hi; have := k.ac; have := k.al
   simp only [List.any_cons, List.any_nil, Bool.or_eq_true, far_t, Bool.false_eq_true, or_false, near] at h
   omega
 simp only [List.any_cons, List.any_nil, Bool.or_eq_false_iff, far_f, and_true, near] at h3
 refine Ok.cd (fun h => ok_some.2 (chk_bad fun k => by have := of_decide_eq_true h; have := k.ac; omega).symm) (fun h4 => ?_)
 refine Ok.cd (fun h => ok_some.2 (chk_bad fun k => by have := of_decide_eq_true h; have := k.al; omega).symm) (fun h5 => ?_)
 refine Ok.cd (fun h => ok_some.2 (chk_bad fun k => by have := of_decide_eq_true h; have := k.fo; omega).symm) (fun h6 => ?_)
 refine Ok.cd (fun h => ok_some.2 (chk_bad fun k => by have := of_decide_eq_true h; have := k.fo; omega).symm) (fun h7 => ?_)
 refine Ok.cd (fun h => ok_some.2 (chk_bad fun k => by have := of_decide_eq_true h; have := k.ov; omega).symm) (fun h8 => ?_)
 refine Ok.cd (fun h => ok_some.2 (chk_bad fun k => by have := of_decide_eq_true h; have := k.ov; omega).symm) (fun h9 => ?_)
 refine Ok.cd (fun h => ok_some.2 (chk_bad fun k => by have := of_decide_eq_true h; have := k.si; omega).symm) (fun h10 => ?_)
 refine Ok.cd (fun h => ok_some.2 (chk_bad fun k => by have := of_decide_eq_true h; have := k.si; omega).symm) (fun h11 => ?_)
 refine Ok.cd (fun h => ok_some.2 (chk_bad fun k => by have := of_decide_eq_true h; have := k.vi; omega).symm) (fun h12 => ?_)
 refine Ok.cd (fun h => ok_some.2 (chk_bad fun k => by have := of_decide_eq_true h; have := k.vi; omega).symm) (fun h13 => ?_)
 have e1 := of_decide_eq_false h1; have e2 := of_decide_eq_false h2; have e4 := of_decide_eq_false h4; have e5 := of_decide_eq_false h5
 have e6 := of_decide_eq_false h6; have e7 := of_decide_eq_false h7; have e8 := of_decide_eq_false h8; have e9 := of_decide_eq_false h9
 have e10 := of_decide_eq_false h10; have e11 := of_decide_eq_false h11; have e12 := of_decide_eq_false h12; have e13 := of_decide_eq_false h13
 clear h1 h2 h4 h5 h6 h7 h8 h9 h10 h11 h12 h13
 have ok : OkS s := ⟨by omega, by omega, by omega, by omega, by omega, by omega, by omega, by omega, by omega, by omega⟩
 exact Ok.cd (fun h => ok_some.2 (chk_ord ok (of_decide_eq_true h)).symm) (fun h => ok_some.2 (chk_good ok (by have := of_decide_eq_false h; omega)).symm)
theorem prod_in {a b : Int} (ha : 0 ≤ a ∧ a ≤ 2097152) (hb : 1 ≤ b ∧ b ≤ 1048576) : 0 ≤ a * b ∧ a * b ≤ 2199023255552 := by
 have h1 := Int.mul_le_mul ha.2 hb.2 (by omega) (by omega)
 have h2 := Int.mul_nonneg ha.1 (by omega : 0 ≤ b)
 omega
end Go.L


set_option linter.all false
namespace Go.L
open Go Go.Eng
theorem rise_in {s : api_Survey} (ok : OkS s) {height ground a : Int} (h1 : near height) (h2 : near ground) (hg : ¬ height ≤ ground) (ha : 1 ≤ a ∧ a ≤ 1048576) :
  wrapF .i64 (a * wrapF .i64 (height - ground)) = a * (height - ground) ∧ 1 ≤ a * (height - ground) ∧ a * (height - ground) ≤ 2199023255552 := by
 unfold near at h1 h2
 have e := wrap64_in (n := height - ground) (by omega) (by omega)
 have p := prod_in (a := height - ground) (b := a) (by omega) ha
 rw [Int.mul_comm] at p
 have q := Int.mul_le_mul ha.1 (show 1 ≤ height - ground by omega) (by omega) (by omega)
 rw [e, wrap64_in (by omega) (by omega)]
 exact ⟨rfl, by omega, by omega⟩
end Go.L


set_option linter.all false
namespace Go.L
open Go Go.Eng
end Go.L


set_option linter.all false
namespace Go.L
open Go Go.Eng
theorem getD_eq {α : Type} [Inhabited α] {l : List α} {k : Nat} (h : k < l.length) : l.getD k default = l[k] := by simp [List.getD, h]
theorem take_succ_getD {α : Type} [Inhabited α] {l : List α} {k : Nat} (h : k < l.length) : l.take (k + 1) = l.take k ++ [l.getD k default] := by
 rw [getD_eq h, List.take_succ_eq_append_getElem h]
end Go.L


set_option linter.all false
namespace Go.L
open Go Go.Eng
def fsz (x : api_Flight) : Nat := (1 + (((x.Strips.map fun z => ((z.map fun z => (1 + (1 + 0))).sum + 1)).sum + 1) + 0))
def pts (f : api_Flight) : List api_Pix := f.Strips.flatten
theorem sum_two (l : List api_Pix) : (l.map fun _ => (1 + (1 + 0))).sum = 2 * l.length := by
 induction l with
 | nil => rfl
 | cons x l ih => rw [List.map_cons, List.sum_cons, ih, List.length_cons]; omega
theorem sum_strips (ls : List (List api_Pix)) : ls.length + 2 * ls.flatten.length ≤ (ls.map fun z => ((z.map fun z => (1 + (1 + 0))).sum + 1)).sum := by
 induction ls with
 | nil => simp
 | cons l ls ih => rw [List.map_cons, List.sum_cons, sum_two, List.flatten_cons, List.length_append, List.length_cons]; omega
theorem pts_small {f : api_Flight} (h : fsz f ≤ 1048576) : (pts f).length ≤ 1048576 ∧ f.Strips.length ≤ 1048576 := by
 have := sum_strips f.Strips
 unfold fsz at h; unfold pts; omega
theorem flat_take_succ (ls : List (List api_Pix)) {k : Nat} (hk : k < ls.length) : (ls.take (k + 1)).flatten = (ls.take k).flatten ++ ls.getD k default := by
 rw [take_succ_getD hk, List.flatten_append]; simp
theorem flat_take_le (ls : List (List api_Pix)) (k : Nat) : (ls.take k).flatten.length ≤ ls.flatten.length := by
 have : ls.flatten = (ls.take k).flatten ++ (ls.drop k).flatten := by rw [← List.flatten_append, List.take_append_drop]
 rw [this, List.length_append]; omega
theorem strip_le (ls : List (List api_Pix)) {k : Nat} (hk : k < ls.length) : (ls.take k).flatten.length + (ls.getD k default).length ≤ ls.flatten.length := by
 have := flat_take_le ls (k + 1)
 rw [flat_take_succ ls hk, List.length_append] at this; exact this
theorem positions_v {n : Nat} {f : api_Flight} (hn : f.Strips.length < n) (h : fsz f ≤ 1048576) : fiduciallaw55_positions n f = some (pts f) := by
 obtain ⟨b1, b2⟩ := pts_small h
 apply Ok.eq
 unfold fiduciallaw55_positions
 refine Ok.bd (R := fun o => o = pts f) ?_ (fun o ho => ok_some.2 ho)
 refine ok_rangeR (len := f.Strips.length) (fun k (c : List api_Pix) => c = (f.Strips.take k).flatten) hn (by omega) rfl ?_ ?_
 · rintro again k c hk rfl ih
   have hs := strip_le f.Strips hk
   unfold pts at b1
   refine Ok.cd (fun _ => Ok.gd (by rw [inR_nat]; simpa using hk) ?_) (fun h => by simp at h; omega)
   rw [gt_nat]
   refine Ok.gd (decide_eq_true (by omega)) (Ok.gd (decide_eq_true (by omega)) (ih _ ?_))
   rw [flat_take_succ f.Strips hk]
 · rintro again c rfl
   exact Ok.cd (fun h => by simp at h) (fun _ => ok_some.2 (by rw [List.take_length]; rfl))
theorem few_v {n : Nat} {f : api_Flight} (hn : 100 ≤ n) (h : fsz f ≤ 1048576) (m : Int) : fiduciallaw55_few n f m = some (decide (f.Strips.length ≤ 20 ∧ ((pts f).length : Int) ≤ m)) := by
 unfold fiduciallaw55_few
 by_cases h1 : f.Strips.length ≤ 20
 · have : decide ((f.Strips.length : Int) ≤ 20) = true := by simp; omega
   rw [this, positions_v (by omega) h]
   show some _ = some _
   congr 1; apply decide_eq_decide.2; omega
 · have : decide ((f.Strips.length : Int) ≤ 20) = false := by simp; omega
   rw [this]
   show some _ = some _
   congr 1; symm; rw [decide_eq_false_iff_not]; omega
def badP (p : api_Pix) : Bool := far p.X || far p.Y
def fcode (f : api_Flight) : Int := if far f.Height || (pts f).any badP then 2 else if (pts f).length > 256 then 3 else 0
theorem flat_any (ls : List (List api_Pix)) (p : api_Pix → Bool) : (∀ k, k < ls.length → (ls.getD k default).any p = false) → ls.flatten.any p = false := by
 intro h
 rw [List.any_eq_false]
 intro x hx
 obtain ⟨l, hl, hxl⟩ := List.mem_flatten.1 hx
 obtain ⟨k, hk, rfl⟩ := List.getElem_of_mem hl
 have := h k hk
 rw [getD_eq hk, List.any_eq_false] at this
 exact this x hxl
theorem flat_any_t (ls : List (List api_Pix)) (p : api_Pix → Bool) {k : Nat} (hk : k < ls.length) (h : (ls.getD k default).any p = true) : ls.flatten.any p = true := by
 rw [getD_eq hk] at h
 obtain ⟨x, hx, hp⟩ := List.any_eq_true.1 h
 exact List.any_eq_true.2 ⟨x, List.mem_flatten.2 ⟨_, List.getElem_mem hk, hx⟩, hp⟩
theorem w64n {k : Nat} (h : k ≤ 100000000) : wrapF .i64 ((k : Int) + 1) = ((k + 1 : Nat) : Int) := by rw [wrap64_in (by omega) (by omega)]; omega
theorem checkFlight_v {n : Nat} {f : api_Flight} (hn : 1000 ≤ n) (h1 : f.Strips.length ≤ 20) (h2 : (pts f).length ≤ 300) : plan_checkFlight n f = some (fcode f) := by
 apply Ok.eq
 unfold plan_checkFlight fcode
 refine Ok.bde (within_v ..) (Ok.cd (fun h => ok_some.2 ?_) (fun hh => ?_))
 · rw [far_t.2 (not_dec h)]; rfl
 rw [far_f.2 (dec_of hh), Bool.false_or]
 clear hh
 unfold pts at *
 refine Ok.bd (R := fun o => match o with | .inl v => v = (f.Strips.flatten.length : Int) ∧ f.Strips.flatten.any badP = false | .inr r => r = 2 ∧ f.Strips.flatten.any badP = true) ?_ ?_
 · refine ok_rangeR (len := f.Strips.length) (fun k (c : Int) => c = ((f.Strips.take k).flatten.length : Int) ∧ ∀ j, j < k → (f.Strips.getD j default).any badP = false) (by omega) (by omega) ⟨by simp, fun j hj => by omega⟩ ?_ ?_
   · rintro again k c hk ⟨rfl, hall⟩ ih
     have hs := strip_le f.Strips hk
     refine Ok.cd (fun _ => Ok.gd (by rw [inR_nat]; simpa using hk) ?_) (fun h => by simp at h; omega)
     rw [gt_nat]
     have hst := flat_take_succ f.Strips hk
     have hft := fun h => flat_any_t f.Strips badP hk h
     generalize hl0 : f.Strips.getD k default = l at *
     refine Ok.bd (R := fun o => match o with | .inl v => v = (((f.Strips.take k).flatten.length + l.length : Nat) : Int) ∧ l.any badP = false | .inr r => r = 2 ∧ l.any badP = true) ?_ ?_
     · refine ok_rangeR (len := l.length) (fun j (c : Int) => c = (((f.Strips.take k).flatten.length + j : Nat) : Int) ∧ ∀ i, i < j → badP (l.getD i default) = false) (by omega) (by omega) ⟨by simp, fun j hj => by omega⟩ ?_ ?_
       · rintro again2 j c hj ⟨rfl, hP⟩ ih2
         refine Ok.cd (fun _ => Ok.gd (by rw [inR_nat]; simpa using hj) ?_) (fun h => by simp at h; omega)
         rw [gt_nat]
         have hbad : badP (l.getD j default) = true → (2 : Int) = 2 ∧ l.any badP = true := fun h => ⟨rfl, any_of_at hj h⟩
         refine Ok.bde (within_v ..) (Ok.cd (fun h => ok_some.2 (hbad ?_)) (fun g1 => ?_))
         · unfold badP; rw [far_t.2 (not_dec h)]; rfl
         refine Ok.bde (within_v ..) (Ok.cd (fun h => ok_some.2 (hbad ?_)) (fun g2 => ?_))
         · unfold badP; rw [far_t.2 (not_dec h)]; simp
         refine ih2 _ ⟨w64n (by omega), fun i hi => ?_⟩
         by_cases hij : i = j
         · subst hij; unfold badP; rw [far_f.2 (dec_of g1), far_f.2 (dec_of g2)]; rfl
         · exact hP i (by omega)
       · rintro again2 c ⟨rfl, hP⟩
         exact Ok.cd (fun h => by simp at h) (fun _ => ok_some.2 ⟨rfl, any_false_iff.2 hP⟩)
     · rintro (v | r) hv
       · obtain ⟨rfl, hl⟩ := hv
         refine ih _ ⟨by rw [hst, List.length_append], fun j hj => ?_⟩
         by_cases hjk : j = k
         · subst hjk; rw [hl0]; exact hl
         · exact hall j (by omega)
       · exact ok_some.2 ⟨hv.1, hft hv.2⟩
   · rintro again c ⟨rfl, hall⟩
     exact Ok.cd (fun h => by simp at h) (fun _ => ok_some.2 ⟨by rw [List.take_length], flat_any _ _ hall⟩)
 · rintro (v | r) hv
   · obtain ⟨rfl, hv⟩ := hv
     rw [hv]
     refine Ok.cd (fun h => ok_some.2 ?_) (fun h => ok_some.2 ?_)
     · have := of_decide_eq_true h
       rw [if_neg (by simp), if_pos (by omega)]
     · have := of_decide_eq_false h
       rw [if_neg (by simp), if_neg (by omega)]
   · obtain ⟨rfl, hv⟩ := hv
     exact ok_some.2 (by rw [hv]; rfl)
theorem flight_v {n : Nat} {f : api_Flight} (hn : 1000 ≤ n) (h1 : f.Strips.length ≤ 20) (h2 : (pts f).length ≤ 300) : fiduciallaw55_flight n f = some (fcode f) := by
 apply Ok.eq
 unfold fiduciallaw55_flight fcode
 refine Ok.bde (out_v (by simp; omega) (by simp)) ?_
 have e1 : [f.Height].any far = far f.Height := by simp
 rw [e1]
 unfold pts at *
 generalize far f.Height = b0
 refine Ok.bd (R := fun o => o = ((f.Strips.flatten.length : Int), b0 || f.Strips.flatten.any badP)) ?_ ?_
 · refine ok_rangeG (σ := Int × Bool × Int) (fun (c : Int × Bool) x => (c.1, c.2, x)) (len := f.Strips.length) (fun k (c : Int × Bool) => c.1 = ((f.Strips.take k).flatten.length : Int) ∧ c.2 = (b0 || (f.Strips.take k).flatten.any badP)) (by omega) (by omega) (c0 := (0, b0)) ⟨by simp, by simp⟩ ?_ ?_
   · rintro again k ⟨c, b⟩ hk ⟨e1, e2⟩ ih
     simp only at e1 e2
     subst e1 e2
     have hs := strip_le f.Strips hk
     refine Ok.cd (fun _ => Ok.gd (by rw [inR_nat]; simpa using hk) ?_) (fun h => by simp at h; omega)
     rw [gt_nat]
     have hst := flat_take_succ f.Strips hk
     generalize f.Strips.getD k default = l at *
     generalize hb1 : (b0 || (f.Strips.take k).flatten.any badP) = b1 at *
     refine Ok.bd (R := fun o => o = ((((f.Strips.take k).flatten.length + l.length : Nat) : Int), b1 || l.any badP)) ?_ ?_
     · refine ok_rangeG (σ := Int × Bool × Int) (fun (c : Int × Bool) x => (c.1, c.2, x)) (len := l.length) (fun j (c : Int × Bool) => c.1 = (((f.Strips.take k).flatten.length + j : Nat) : Int) ∧ c.2 = (b1 || (l.take j).any badP)) (by omega) (by omega) (c0 := (((f.Strips.take k).flatten.length : Int), b1)) ⟨by simp, by simp⟩ ?_ ?_
       · rintro again2 j ⟨c, b⟩ hj ⟨e1, e2⟩ ih2
         simp only at e1 e2
         subst e1 e2
         refine Ok.cd (fun _ => Ok.gd (by rw [inR_nat]; simpa using hj) ?_) (fun h => by simp at h; omega)
         rw [gt_nat]
         have ht : (l.take (j + 1)).any badP = ((l.take j).any badP || badP (l.getD j default)) := by rw [take_succ_getD hj, List.any_append]; simp
         rw [w64n (k := (f.Strips.take k).flatten.length + j) (by omega)]
         refine Ok.cd (fun h => ?_) (fun h => ?_)
         · refine ih2 ((((f.Strips.take k).flatten.length + j + 1 : Nat) : Int), true) ⟨rfl, ?_⟩
           dsimp only at h ⊢
           rw [ht, ← Bool.or_assoc, h]; rfl
         · refine Ok.bde (out_v (by simp; omega) (by simp)) ?_
           refine ih2 ((((f.Strips.take k).flatten.length + j + 1 : Nat) : Int), [(l.getD j default).X, (l.getD j default).Y].any far) ⟨rfl, ?_⟩
           dsimp only at h ⊢
           rw [ht, ← Bool.or_assoc, h]; unfold badP; rw [List.any_cons, List.any_cons, List.any_nil, Bool.or_false, Bool.false_or]
       · rintro again2 ⟨c, b⟩ ⟨e1, e2⟩
         simp only at e1 e2
         subst e1 e2
         exact Ok.cd (fun h => by simp at h) (fun _ => ok_some.2 (by rw [List.take_length]))
     · rintro o rfl
       refine ih (_, _) ⟨by rw [hst, List.length_append], ?_⟩
       simp only
       rw [hst, List.any_append, ← Bool.or_assoc, hb1]
       cases b1 <;> rfl
   · rintro again ⟨c, b⟩ ⟨e1, e2⟩
     simp only at e1 e2
     subst e1 e2
     exact Ok.cd (fun h => by simp at h) (fun _ => ok_some.2 (by rw [List.take_length]))
 · rintro o rfl
   refine Ok.cd (fun h => ok_some.2 (by rw [h]; rfl)) (fun h => ?_)
   rw [h]
   refine Ok.cd (fun h => ok_some.2 ?_) (fun h => ok_some.2 ?_)
   · have := of_decide_eq_true h
     rw [if_neg Bool.false_ne_true, if_pos (by omega)]
   · have := of_decide_eq_false h
     rw [if_neg Bool.false_ne_true, if_neg (by omega)]
end Go.L


set_option linter.all false
namespace Go.L
open Go Go.Eng
noncomputable def rcode (s : api_Survey) (f : api_Flight) (ground : Int) : Int :=
 if chk s ≠ 0 then chk s else if fcode f ≠ 0 then fcode f else if far ground then 2 else if f.Height ≤ ground then 20 else 0
theorem rasked_v {n : Nat} (hn : 1000 ≤ n) {s : api_Survey} {f : api_Flight} (h1 : f.Strips.length ≤ 20) (h2 : (pts f).length ≤ 300) (ground : Int) : fiduciallaw55_asked n s f ground = some (rcode s f ground) := by
 apply Ok.eq
 unfold fiduciallaw55_asked rcode
 refine Ok.bde (rcheck_v (by omega) s) (Ok.cd (fun h => ok_some.2 ?_) (fun h => ?_))
 · rw [if_pos (by simpa using h)]
 rw [if_neg (by simpa using h)]
 refine Ok.bde (flight_v hn h1 h2) (Ok.cd (fun h => ok_some.2 ?_) (fun h => ?_))
 · rw [if_pos (by simpa using h)]
 rw [if_neg (by simpa using h)]
 refine Ok.bde (out_v (by simp; omega) (by simp)) ?_
 rw [show [ground].any far = far ground by simp]
 refine Ok.cd (fun h => ok_some.2 ?_) (fun h => ?_)
 · rw [if_pos h]
 rw [if_neg (by rw [h]; decide)]
 exact Ok.cd (fun h => ok_some.2 (by rw [if_pos (of_decide_eq_true h)])) (fun h => ok_some.2 (by rw [if_neg (of_decide_eq_false h)]))
end Go.L


set_option linter.all false
namespace Go.L
open Go Go.Eng
end Go.L


set_option linter.all false
namespace Go.L
open Go Go.Eng
end Go.L


set_option linter.all false
namespace Go.L
open Go Go.Eng
end Go.L


set_option linter.all false
namespace Go.L
open Go Go.Eng
end Go.L


set_option linter.all false
namespace Go.L
open Go Go.Eng
theorem askedT_v {n : Nat} (hn : 1000 ≤ n) {s : api_Survey} {f : api_Flight} (h1 : f.Strips.length ≤ 20) (h2 : (pts f).length ≤ 300) (ground : Int) : plan_asked n s f ground true = some (rcode s f ground) := by
 apply Ok.eq
 unfold plan_asked rcode
 refine Ok.bde (check_v n s) (Ok.cd (fun h => ok_some.2 ?_) (fun h => ?_))
 · rw [if_pos (by simpa using h)]
 rw [if_neg (by simpa using h)]
 refine Ok.bde (checkFlight_v hn h1 h2) (Ok.cd (fun h => ok_some.2 ?_) (fun h => ?_))
 · rw [if_pos (by simpa using h)]
 rw [if_neg (by simpa using h)]
 refine Ok.bde (within_v ..) (Ok.cd (fun h => ok_some.2 ?_) (fun h => ?_))
 · rw [if_pos (far_t.2 (not_dec h))]
 rw [if_neg (by rw [far_f.2 (dec_of h)]; decide)]
 refine Ok.cd (fun h => by cases h) (fun _ => ?_)
 exact Ok.cd (fun h => ok_some.2 (by rw [if_pos (of_decide_eq_true h)])) (fun h => ok_some.2 (by rw [if_neg (of_decide_eq_false h)]))
theorem growP_v {n : Nat} {k : Nat} (hk : k ≤ 1000) : slices_Grow_fiducial_api_Pix_fiducial_api_Pix_w n (k : Int) = some [] := by
 apply Ok.eq
 unfold slices_Grow_fiducial_api_Pix_fiducial_api_Pix_w
 rw [Int.sub_zero, wrap64_in (by omega) (by omega)]
 refine Ok.gd (by rw [decide_eq_false (by omega)]; rfl) (Ok.cd (fun h => ?_) (fun _ => ok_some.2 rfl))
 have h := of_decide_eq_true h
 refine Ok.gd (decide_eq_true (by omega)) (Ok.gd (decide_eq_true (by omega)) (Ok.gd (decide_eq_true (by omega)) (Ok.gd (by rw [inS_iff]; omega) (ok_some.2 ?_))))
 rfl
theorem concatP_v {n : Nat} (hn : 1000 ≤ n) {ls : List (List api_Pix)} (h1 : ls.length ≤ 20) (h2 : ls.flatten.length ≤ 300) : slices_Concat_fiducial_api_Pix_fiducial_api_Pix n ls = some ls.flatten := by
 apply Ok.eq
 unfold slices_Concat_fiducial_api_Pix_fiducial_api_Pix
 refine Ok.bd (R := fun o => o = ((ls.flatten.length : Nat) : Int)) ?_ ?_
 · refine ok_rangeR (len := ls.length) (fun k (c : Int) => c = (((ls.take k).flatten.length : Nat) : Int)) (by omega) (by omega) rfl ?_ ?_
   · rintro again k c hk rfl ih
     have hs := strip_le ls hk
     refine Ok.cd (fun _ => Ok.gd (by rw [inR_nat]; simpa using hk) ?_) (fun h => by simp at h; omega)
     rw [gt_nat, wrap64_in (n := (((ls.take k).flatten.length : Nat) : Int) + ((ls.getD k default).length : Int)) (by omega) (by omega)]
     refine Ok.gd (by rw [decide_eq_false (by omega)]; rfl) (ih _ ?_)
     rw [flat_take_succ ls hk, List.length_append]; omega
   · rintro again c rfl
     exact Ok.cd (fun h => by simp at h) (fun _ => ok_some.2 (by rw [List.take_length]))
 · rintro o rfl
   refine Ok.bde (growP_v (by omega)) ?_
   refine Ok.bd (R := fun o => o = ls.flatten) ?_ (fun o ho => ok_some.2 ho)
   refine ok_rangeR (len := ls.length) (fun k (c : List api_Pix) => c = (ls.take k).flatten) (by omega) (by omega) rfl ?_ ?_
   · rintro again k c hk rfl ih
     have hs := strip_le ls hk
     refine Ok.cd (fun _ => Ok.gd (by rw [inR_nat]; simpa using hk) ?_) (fun h => by simp at h; omega)
     rw [gt_nat]
     refine Ok.gd (decide_eq_true (by omega)) (Ok.gd (decide_eq_true (by omega)) (ih _ ?_))
     rw [flat_take_succ ls hk]
   · rintro again c rfl
     exact Ok.cd (fun h => by simp at h) (fun _ => ok_some.2 (by rw [List.take_length]))
end Go.L

