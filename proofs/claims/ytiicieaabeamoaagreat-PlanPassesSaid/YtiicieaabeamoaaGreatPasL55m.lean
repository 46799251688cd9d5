import Derived.Test.YtiicieaabeamoaaGreatPasL55r
set_option linter.all false
namespace Go.L
open Go Go.Eng
def zF : api_Flight := api_Flight.mk 0 []
def grd (xs ys : List Int) : List (List api_Pix) := ys.map fun y => xs.map fun x => api_Pix.mk x y
theorem rowX {s : api_Survey} (ok : OkS s) {height : Int} (h1 : near height) (hg : ¬ height ≤ s.High) : RowIn s.Width (s.Along * (height - s.High)) s.Focal s.Overlap ∧ wrapF .i64 (s.Along * wrapF .i64 (height - s.High)) = s.Along * (height - s.High) := by
 have h2 := ok.hi; have h3 := ok.al
 unfold near at h1
 have p := prod_in (a := height - s.High) (b := s.Along) (by omega) h3
 rw [Int.mul_comm] at p
 have q := Int.mul_le_mul h3.1 (show 1 ≤ height - s.High by omega) (by omega) (by omega)
 exact ⟨⟨ok.w, ⟨by omega, p.2⟩, ok.fo, ok.ov⟩, by rw [wrap64_in (n := height - s.High) (by omega) (by omega), wrap64_in (by omega) (by omega)]⟩
theorem rowY {s : api_Survey} (ok : OkS s) {height : Int} (h1 : near height) (hg : ¬ height ≤ s.High) : RowIn s.Height (s.Across * (height - s.High)) s.Focal s.Sidelap ∧ wrapF .i64 (s.Across * wrapF .i64 (height - s.High)) = s.Across * (height - s.High) := by
 have h2 := ok.hi; have h3 := ok.ac
 unfold near at h1
 have p := prod_in (a := height - s.High) (b := s.Across) (by omega) h3
 rw [Int.mul_comm] at p
 have q := Int.mul_le_mul h3.1 (show 1 ≤ height - s.High by omega) (by omega) (by omega)
 exact ⟨⟨ok.h, ⟨by omega, p.2⟩, ok.fo, ok.si⟩, by rw [wrap64_in (n := height - s.High) (by omega) (by omega), wrap64_in (by omega) (by omega)]⟩
def cX (N num den p : Int) : Int := rcnt (ra num den) (rb N num den) (rd num den p)
def lX (N num den p : Int) : List Int := rlst N (ra num den) (rb N num den) (rd num den p) 300
theorem cX_pos (N num den p : Int) : 0 ≤ cX N num den p := by unfold cX rcnt; split; omega; split <;> omega
theorem lX_len {N num den p : Int} (h0 : cX N num den p ≠ 0) : ((lX N num den p).length : Int) = min (cX N num den p) 301 := by
 unfold cX rcnt at *; unfold lX rlst
 by_cases h : rb N num den ≤ ra num den
 · rw [if_pos h, if_pos h]; rfl
 · rw [if_neg h] at h0
   rw [if_neg h, if_neg h]
   by_cases h2 : rd num den p = 0
   · rw [if_pos h2] at h0; exact absurd rfl h0
   · rw [if_neg h2]; simp only [List.length_append, stps_len, List.length_singleton]; omega
noncomputable def mkd (s : api_Survey) (height : Int) : api_Flight × Int :=
 let cx := cX s.Width (s.Along * (height - s.High)) s.Focal s.Overlap
 let cy := cX s.Height (s.Across * (height - s.High)) s.Focal s.Sidelap
 if cx = 0 ∨ cy = 0 then (zF, 13) else if cx > 256 ∨ cy > 256 ∨ cx * cy > 256 then (zF, 3)
 else (api_Flight.mk height (grd (lX s.Width (s.Along * (height - s.High)) s.Focal s.Overlap) (lX s.Height (s.Across * (height - s.High)) s.Focal s.Sidelap)), 0)
theorem getD_eq {α : Type} [Inhabited α] {l : List α} {k : Nat} (h : k < l.length) : l.getD k default = l[k] := by simp [List.getD, h]
theorem take_succ_getD {α : Type} [Inhabited α] {l : List α} {k : Nat} (h : k < l.length) : l.take (k + 1) = l.take k ++ [l.getD k default] := by
 rw [getD_eq h, List.take_succ_eq_append_getElem h]
theorem strip_ok {n : Nat} {xs : List Int} {y : Int} (hl : xs.length ≤ 301) (hn : 1000 ≤ n) : Ok (loopO (α := List api_Pix × Int) (β := List api_Pix) n (fun again s => match s with
  | (strip, x) => cdO (decide (x < (xs.length : Int))) (gdO (inR x xs.length) (gdO (decide ((strip.length + 1) * 16 ≤ 140737488355328)) (gdO (decide (strip.length + 1 ≤ 4611686018427387904)) (again (strip ++ [api_Pix.mk (gt xs x) y], wrapF .i64 (x + 1)))))) (some strip)) ([], 0))
  fun o => o = xs.map fun x => api_Pix.mk x y := by
 refine ok_rangeR (len := xs.length) (fun k (c : List api_Pix) => c = (xs.take k).map fun x => api_Pix.mk x y) (by omega) (by omega) (by simp) ?_ ?_
 · rintro again k c hk rfl ih
   refine Ok.cd (fun _ => Ok.gd (by rw [inR_nat]; simpa using hk) (Ok.gd (by simp; omega) (Ok.gd (by simp; omega) ?_))) (fun h => by simp at h; omega)
   refine ih _ ?_
   rw [gt_nat, take_succ_getD hk, List.map_append]; rfl
 · rintro again c rfl
   exact Ok.cd (fun h => by simp at h) (fun _ => ok_some.2 (by rw [List.take_length]))
theorem make_v {n : Nat} {s : api_Survey} (hn : 1000 ≤ n) (hc : chk s = 0) {height : Int} (h1 : near height) (hg : ¬ height ≤ s.High) : plan_Make n s height = some (mkd s height) := by
 obtain ⟨ok, _⟩ := chk_zero hc
 obtain ⟨rx, ex⟩ := rowX ok h1 hg
 obtain ⟨ry, ey⟩ := rowY ok h1 hg
 apply Ok.eq
 unfold plan_Make mkd
 refine Ok.bde (check_v n s) ?_
 rw [hc]
 refine Ok.cd (fun h => by cases h) (fun _ => Ok.bde (within_v n height) ?_)
 rw [decide_eq_true h1, ex, ey]
 refine Ok.cd (fun h => by cases h) (fun _ => Ok.cd (fun h => absurd (of_decide_eq_true h) hg) (fun _ => ?_))
 refine Ok.bde (newRow_v rx) (Ok.bde (newRow_v ry) ?_)
 have hax := ra_in rx; have hdx := rd_in rx; have hay := ra_in ry; have hdy := rd_in ry
 have hbx : -2199023255552 ≤ rb s.Width (s.Along * (height - s.High)) s.Focal ∧ rb s.Width (s.Along * (height - s.High)) s.Focal ≤ 1048576 := by have := ok.w; unfold rb; unfold ra at hax; omega
 have hby : -2199023255552 ≤ rb s.Height (s.Across * (height - s.High)) s.Focal ∧ rb s.Height (s.Across * (height - s.High)) s.Focal ≤ 1048576 := by have := ok.h; unfold rb; unfold ra at hay; omega
 refine Ok.bde (count_v hax hbx hdx) (Ok.bde (count_v hay hby hdy) ?_)
 have hcx := cX_pos s.Width (s.Along * (height - s.High)) s.Focal s.Overlap
 have hcy := cX_pos s.Height (s.Across * (height - s.High)) s.Focal s.Sidelap
 have lx := @lX_len s.Width (s.Along * (height - s.High)) s.Focal s.Overlap
 have ly := @lX_len s.Height (s.Across * (height - s.High)) s.Focal s.Sidelap
 have vx := fun h0 hc => @list_v n s.Width _ _ _ ok.w hax hbx.2 hdx h0 hc hn
 have vy := fun h0 hc => @list_v n s.Height _ _ _ ok.h hay hby.2 hdy h0 hc hn
 show Ok (cdO (cX s.Width (s.Along * (height - s.High)) s.Focal s.Overlap == 0) _ (cdO (cX s.Height (s.Across * (height - s.High)) s.Focal s.Sidelap == 0) _ (cdO (decide (cX s.Width (s.Along * (height - s.High)) s.Focal s.Overlap > 256)) _ (cdO (decide (cX s.Height (s.Across * (height - s.High)) s.Focal s.Sidelap > 256)) _ (cdO (decide (wrapF .i64 (cX s.Width (s.Along * (height - s.High)) s.Focal s.Overlap * cX s.Height (s.Across * (height - s.High)) s.Focal s.Sidelap) > 256)) _ _))))) _
 have vx' : cX s.Width (s.Along * (height - s.High)) s.Focal s.Overlap ≠ 0 → cX s.Width (s.Along * (height - s.High)) s.Focal s.Overlap ≤ 256 → _ := vx
 have vy' : cX s.Height (s.Across * (height - s.High)) s.Focal s.Sidelap ≠ 0 → cX s.Height (s.Across * (height - s.High)) s.Focal s.Sidelap ≤ 256 → _ := vy
 change _ → _ → _ = some (lX s.Width (s.Along * (height - s.High)) s.Focal s.Overlap) at vx'
 change _ → _ → _ = some (lX s.Height (s.Across * (height - s.High)) s.Focal s.Sidelap) at vy'
 clear vx vy hbx hby rx ry ex ey
 generalize cX s.Width (s.Along * (height - s.High)) s.Focal s.Overlap = cx at *
 generalize cX s.Height (s.Across * (height - s.High)) s.Focal s.Sidelap = cy at *
 generalize lX s.Width (s.Along * (height - s.High)) s.Focal s.Overlap = LX at *
 generalize lX s.Height (s.Across * (height - s.High)) s.Focal s.Sidelap = LY at *
 refine Ok.cd (fun h => ok_some.2 ?_) (fun h0 => ?_)
 · have : cx = 0 := by simpa using h
   rw [if_pos (.inl this)]; rfl
 have h0 : cx ≠ 0 := by simpa using h0
 refine Ok.cd (fun h => ok_some.2 ?_) (fun h2 => ?_)
 · have : cy = 0 := by simpa using h
   rw [if_pos (.inr this)]; rfl
 have h2 : cy ≠ 0 := by simpa using h2
 have hno : ¬ (cx = 0 ∨ cy = 0) := by omega
 refine Ok.cd (fun h => ok_some.2 ?_) (fun h3 => ?_)
 · rw [if_neg hno, if_pos (.inl (of_decide_eq_true h))]; rfl
 have h3 := of_decide_eq_false h3
 refine Ok.cd (fun h => ok_some.2 ?_) (fun h4 => ?_)
 · rw [if_neg hno, if_pos (.inr (.inl (of_decide_eq_true h)))]; rfl
 have h4 := of_decide_eq_false h4
 have hp := Int.mul_le_mul (show cx ≤ 256 by omega) (show cy ≤ 256 by omega) hcy (by omega)
 have hp0 := Int.mul_nonneg hcx hcy
 rw [wrap64_in (by omega) (by omega)]
 refine Ok.cd (fun h => ok_some.2 ?_) (fun h5 => ?_)
 · rw [if_neg hno, if_pos (.inr (.inr (of_decide_eq_true h)))]; rfl
 have h5 := of_decide_eq_false h5
 rw [if_neg hno, if_neg (by omega)]
 have lx := lx h0
 have ly := ly h2
 refine Ok.bde (vy' h2 (by omega)) ?_
 refine Ok.bd (R := fun o => o = grd LX LY) ?_ (fun o ho => ok_some.2 (by rw [ho]))
 refine ok_rangeR (len := LY.length) (fun k (c : List (List api_Pix)) => c = grd LX (LY.take k)) (by omega) (by omega) (by simp [grd]) ?_ ?_
 · rintro again k c hk rfl ih
   refine Ok.cd (fun _ => Ok.gd (by rw [inR_nat]; simpa using hk) ?_) (fun h => by simp at h; omega)
   refine Ok.bde (vx' h0 (by omega)) ?_
   refine Ok.bd (strip_ok (y := gt LY (k : Int)) (by omega) hn) ?_
   rintro o rfl
   have hkl : (LY.take k).length ≤ 301 := by rw [List.length_take]; omega
   refine Ok.gd (by simp [grd]; omega) (Ok.gd (by simp [grd]; omega) ?_)
   refine ih _ ?_
   rw [gt_nat, take_succ_getD hk]; unfold grd; rw [List.map_append]; rfl
 · rintro again c rfl
   exact Ok.cd (fun h => by simp at h) (fun _ => ok_some.2 (by rw [List.take_length]))
theorem make_bad {n : Nat} {s : api_Survey} (h : chk s ≠ 0) (height : Int) : plan_Make n s height = some (zF, chk s) := by
 have b1 : (chk s != 0) = true := by simpa using h
 unfold plan_Make
 rw [check_v]
 simp only [bdO, cdO, b1]; rfl
theorem make_far {n : Nat} {s : api_Survey} (h : chk s = 0) {height : Int} (hn : ¬ near height) : plan_Make n s height = some (zF, 2) := by
 unfold plan_Make
 rw [check_v, h, within_v]
 simp only [bdO, cdO, decide_eq_false hn]; rfl
theorem make_low {n : Nat} {s : api_Survey} (h : chk s = 0) {height : Int} (hn : near height) (hg : height ≤ s.High) : plan_Make n s height = some (zF, 20) := by
 unfold plan_Make
 rw [check_v, h, within_v]
 simp only [bdO, cdO, decide_eq_true hn, decide_eq_true hg]; rfl
end Go.L

