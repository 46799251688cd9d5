import Derived.Test.YtiicieaabeamoaaGreatPasL55b
import Derived.Test.YtiicieaabeamoaaGreatPasL55f
import Derived.Test.YtiicieaabeamoaaGreatPasL02s
set_option linter.all false
namespace Go.L
open Go Go.Eng
def noP (l : List api_Pix) : Bool := ((l.length : Int) == 0)
theorem any_a {n : Nat} {s : List (List api_Pix)} (hn : s.length < n) (hl : s.length ≤ 9223372036854775806) : slices_ContainsFunc_fiducial_api_Pix_fiducial_api_Pix_of_plan_asked_1 n s = some (s.any noP) := by
 unfold slices_ContainsFunc_fiducial_api_Pix_fiducial_api_Pix_of_plan_asked_1
 have : slices_IndexFunc_fiducial_api_Pix_fiducial_api_Pix_of_plan_asked_1 n s = some (idxB noP s) := loop_indexF (f := plan_asked_1 n) (fun x => rfl) hn hl
 rw [this]; show some (decide (idxB noP s ≥ 0)) = _; rw [idxB_ge]
def stp (t d : Int) : Int := mx (mx t d) (wrapF .i64 (0 - d))
def topF (t : Int) (l : List Int) : Int := l.foldl stp t
def dX (l : List api_Pix) (j : Nat) : Int := wrapF .i64 ((l.getD j default).X - (l.getD (j - 1) default).X)
def stD (l : List api_Pix) (k : Nat) : List Int := (List.range (k - 1)).map fun j => dX l (j + 1)
def xsL (ls : List (List api_Pix)) : Nat → List Int
 | 0 => []
 | k + 1 => xsL ls k ++ stD (ls.getD k default) (ls.getD k default).length
def dY (ls : List (List api_Pix)) (k : Nat) : Int := wrapF .i64 (((ls.getD k default).getD 0 default).Y - ((ls.getD (k - 1) default).getD 0 default).Y)
def ysL (ls : List (List api_Pix)) : Nat → List Int
 | 0 => []
 | k + 1 => ysL ls k ++ (if 0 < k then [dY ls k] else [])
theorem stD_succ (l : List api_Pix) {k : Nat} (hk : 1 ≤ k) : stD l (k + 1) = stD l k ++ [dX l k] := by
 unfold stD
 rw [show k + 1 - 1 = (k - 1) + 1 by omega, List.range_succ, List.map_append]
 simp only [List.map_cons, List.map_nil, show k - 1 + 1 = k by omega]
theorem topF_snoc (t : Int) (l : List Int) (d : Int) : topF t (l ++ [d]) = stp (topF t l) d := by unfold topF; rw [List.foldl_append]; rfl
theorem topF_app (t : Int) (l l' : List Int) : topF t (l ++ l') = topF (topF t l) l' := by unfold topF; rw [List.foldl_append]
def Sm (d : Int) : Prop := -2097152 ≤ d ∧ d ≤ 2097152
theorem topF_in : ∀ (l : List Int) (t : Int), 0 ≤ t ∧ t ≤ 2097152 → (∀ d ∈ l, Sm d) → 0 ≤ topF t l ∧ topF t l ≤ 2097152
 | [], t, ht, _ => ht
 | d :: l, t, ht, h => by
  have hd := h d (by simp)
  unfold Sm at hd
  show 0 ≤ topF (stp t d) l ∧ topF (stp t d) l ≤ 2097152
  refine topF_in l _ ?_ (fun x hx => h x (by simp [hx]))
  unfold stp
  rw [mx_eq, mx_eq, wrap64_in (by omega) (by omega)]
  omega
def Near (ls : List (List api_Pix)) : Prop := ∀ k j, k < ls.length → j < (ls.getD k default).length → near ((ls.getD k default).getD j default).X ∧ near ((ls.getD k default).getD j default).Y
theorem near_of {ls : List (List api_Pix)} (h : ls.flatten.any badP = false) : Near ls := by
 intro k j hk hj
 have hm : (ls.getD k default).getD j default ∈ ls.flatten := by
  refine List.mem_flatten.2 ⟨ls.getD k default, by rw [getD_eq hk]; exact List.getElem_mem hk, ?_⟩
  rw [getD_eq hj]; exact List.getElem_mem hj
 have := List.any_eq_false.1 h _ hm
 unfold badP at this
 simp only [Bool.or_eq_true, not_or, Bool.not_eq_true] at this
 exact ⟨far_f.1 this.1, far_f.1 this.2⟩
theorem xsL_sm {ls : List (List api_Pix)} (h : Near ls) : ∀ k, k ≤ ls.length → ∀ d ∈ xsL ls k, Sm d
 | 0, _, d, hd => by cases hd
 | k + 1, hk, d, hd => by
  rw [xsL] at hd
  rcases List.mem_append.1 hd with hd | hd
  · exact xsL_sm h k (by omega) d hd
  · obtain ⟨j, hj, rfl⟩ := List.mem_map.1 hd
    rw [List.mem_range] at hj
    have h1 := (h k (j + 1) (by omega) (by omega)).1
    have h2 := (h k j (by omega) (by omega)).1
    unfold near at h1 h2
    unfold Sm dX
    rw [show j + 1 - 1 = j by omega, wrap64_in (by omega) (by omega)]; omega
theorem ysL_sm {ls : List (List api_Pix)} (h : Near ls) (hne : ∀ k, k < ls.length → 0 < (ls.getD k default).length) : ∀ k, k ≤ ls.length → ∀ d ∈ ysL ls k, Sm d
 | 0, _, d, hd => by cases hd
 | k + 1, hk, d, hd => by
  rw [ysL] at hd
  rcases List.mem_append.1 hd with hd | hd
  · exact ysL_sm h hne k (by omega) d hd
  · split at hd
    · rename_i h0
      obtain rfl := List.mem_singleton.1 hd
      have h1 := (h k 0 (by omega) (hne k (by omega))).2
      have h2 := (h (k - 1) 0 (by omega) (hne (k - 1) (by omega))).2
      unfold near at h1 h2
      unfold Sm dY
      rw [wrap64_in (by omega) (by omega)]; omega
    · cases hd
theorem gt0 {α : Type} [Inhabited α] (l : List α) : gt l 0 = l.getD 0 default := rfl
noncomputable def acode (s : api_Survey) (f : api_Flight) (ground : Int) : Int :=
 if chk s ≠ 0 then chk s else if fcode f ≠ 0 then fcode f else if far ground then 2 else if f.Strips.length = 0 ∨ f.Strips.any noP = true then 6 else if f.Height ≤ ground then 20 else 0
theorem asked_v {n : Nat} (hn : 1000 ≤ n) {s : api_Survey} {f : api_Flight} (h1 : f.Strips.length ≤ 20) (h2 : (pts f).length ≤ 300) (ground : Int) : plan_asked n s f ground false = some (acode s f ground) := by
 apply Ok.eq
 unfold plan_asked acode
 refine Ok.bde (check_v n s) (Ok.cd (fun h => ok_some.2 ?_) (fun h => ?_))
 · rw [if_pos (by simpa using h)]
 rw [if_neg (by simpa using h)]
 refine Ok.bde (checkFlight_v hn h1 h2) (Ok.cd (fun h => ok_some.2 ?_) (fun h => ?_))
 · rw [if_pos (by simpa using h)]
 rw [if_neg (by simpa using h)]
 refine Ok.bde (within_v ..) (Ok.cd (fun h => ok_some.2 ?_) (fun h => ?_))
 · rw [if_pos (far_t.2 (not_dec h))]
 rw [if_neg (by rw [far_f.2 (dec_of h)]; decide)]
 refine Ok.cd (fun _ => ?_) (fun h => by cases h)
 refine Ok.cd (fun h => ok_some.2 ?_) (fun h3 => ?_)
 · rw [if_pos (.inl (by have : (f.Strips.length : Int) = 0 := by simpa using h
                        omega))]
 have h3 : f.Strips.length ≠ 0 := by have : ¬ (f.Strips.length : Int) = 0 := by simpa using h3
                                     omega
 refine Ok.bde (any_a (by omega) (by omega)) (Ok.cd (fun h => ok_some.2 ?_) (fun h4 => ?_))
 · rw [if_pos (.inr h)]
 rw [if_neg (by rw [h4]; simp; intro e; exact h3 (by rw [e]; rfl))]
 exact Ok.cd (fun h => ok_some.2 (by rw [if_pos (of_decide_eq_true h)])) (fun h => ok_some.2 (by rw [if_neg (of_decide_eq_false h)]))
noncomputable def rcode (s : api_Survey) (f : api_Flight) (ground : Int) : Int :=
 if chk s ≠ 0 then chk s else if fcode f ≠ 0 then fcode f else if far ground then 2 else if f.Height ≤ ground then 20 else 0
end Go.L

