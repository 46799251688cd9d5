import Derived.Test.YtdfhpiaapdbdpaaGreatParLD
import Derived.Test.YtdfhpiaapdbdpaaGreatPl6glgpfmgc
import Derived.KernelRfl
set_option linter.all false
namespace Go.L
open Go Go.Eng
theorem known52_v : fiduciallaw52_known 20000 = some true := by kernel_rfl
def farE (z : Int) : Bool := decide (z < -1048576) || decide (z > 1048576)
theorem far_or {z : Int} : (cdO (decide (z < (-1048576))) (some true) (some (decide (z > 1048576))) : Option Bool) = some (farE z) := by
 unfold farE; cases decide (z < -1048576) <;> rfl
theorem far_ro {z : Int} : (cdO (decide (z > 1048576)) (some true) (some (decide (z < (wrapF .i64 (0 - 1048576))))) : Option Bool) = some (farE z) := by
 unfold farE
 rw [wrap64_in (n := 0 - 1048576) (by omega) (by omega), Bool.or_comm]; cases decide (z > 1048576) <;> rfl
theorem tfar_v {n : Nat} {z : Int} : terrain_far n z = some (farE z) := far_or
theorem vfar_v {n : Nat} {z : Int} : volume_far n z = some (farE z) := far_or
theorem lfar_v {n : Nat} {z : Int} : fiduciallaw48_far n z 1048576 = some (farE z) := far_ro
def badZ (z : Int) : Bool := (z != -2147483648) && farE z
theorem c2_v (n : Nat) (z : Int) : terrain_Check_2 n z = some (badZ z) := by
 unfold terrain_Check_2 badZ
 rw [tfar_v]
 cases (z != -2147483648) <;> rfl
theorem anyZ_v {n : Nat} {s : List Int} (hn : s.length < n) (hl : s.length ≤ 9223372036854775806) : slices_ContainsFunc_int_int_of_terrain_Check_2 n s = some (s.any badZ) := by
 unfold slices_ContainsFunc_int_int_of_terrain_Check_2
 have : slices_IndexFunc_int_int_of_terrain_Check_2 n s = some (idxB badZ s) := loop_indexF (fun x => c2_v n x) hn hl
 rw [this]; show some (decide (idxB badZ s ≥ 0)) = _; rw [idxB_ge]
def sideB (a : Int) : Bool := decide (2 ≤ a) && decide (a ≤ 64)
structure Dim (g : api_Grid) : Prop where
 w : 2 ≤ g.Width ∧ g.Width ≤ 64
 h : 2 ≤ g.Height ∧ g.Height ≤ 64
 s : 2 ≤ g.Step ∧ g.Step ≤ 65536
 e : g.Step.tmod 2 = 0
 x : farE g.X0 = false
 y : farE g.Y0 = false
theorem area52 {w h : Int} (hw : 2 ≤ w ∧ w ≤ 64) (hh : 2 ≤ h ∧ h ≤ 64) : 4 ≤ w * h ∧ w * h ≤ 4096 := by
 have h1 := Int.mul_le_mul hw.2 hh.2 (by omega) (by omega)
 have h2 := Int.mul_le_mul hw.1 hh.1 (by omega) (by omega)
 omega
open Classical in
noncomputable def gcode (g : api_Grid) : Int := if Dim g then (if (g.Z.length : Int) = g.Width * g.Height then (if g.Z.any badZ = true then 2 else 0) else 4) else 2
theorem gc_no {g : api_Grid} (h : ¬ Dim g) : gcode g = 2 := by unfold gcode; rw [if_neg h]
theorem side_v {n : Nat} {a : Int} : terrain_Check_1 n a = some (sideB a) := by
 unfold terrain_Check_1 sideB
 have e : decide (a ≥ 2) = decide (2 ≤ a) := rfl
 rw [e]; cases decide (2 ≤ a) <;> rfl
theorem tcheck_v {n : Nat} (hn : 4096 < n) (g : api_Grid) : terrain_Check n g = some (gcode g) := by
 apply Ok.eq
 unfold terrain_Check
 refine Ok.bde side_v (Ok.cd (fun h => ok_some.2 (gc_no fun d => ?_).symm) (fun h1 => Ok.bde side_v (Ok.cd (fun h => ok_some.2 (gc_no fun d => ?_).symm) (fun h2 => Ok.cd (fun h => ok_some.2 (gc_no fun d => ?_).symm) (fun h3 => Ok.cd (fun h => ok_some.2 (gc_no fun d => ?_).symm) (fun h4 => Ok.cd (fun h => ok_some.2 (gc_no fun d => ?_).symm) (fun h5 => Ok.bde tfar_v (Ok.cd (fun h => ok_some.2 (gc_no fun d => ?_).symm) (fun h6 => Ok.bde tfar_v (Ok.cd (fun h => ok_some.2 (gc_no fun d => ?_).symm) (fun h7 => ?_)))))))))))
 · have := d.w; simp [sideB] at h; omega
 · have := d.h; simp [sideB] at h; omega
 · have := d.s; have := of_decide_eq_true h; omega
 · have := d.s; have := of_decide_eq_true h; omega
 · have := d.e; simp [this] at h
 · rw [d.x] at h; cases h
 · rw [d.y] at h; cases h
 have h3 := of_decide_eq_false h3
 have h4 := of_decide_eq_false h4
 have d : Dim g := ⟨by simp [sideB] at h1; omega, by simp [sideB] at h2; omega, by omega, by simpa using h5, h6, h7⟩
 have ha := area52 d.w d.h
 rw [wrap64_in (n := g.Width * g.Height) (by omega) (by omega)]
 unfold gcode
 rw [if_pos d]
 refine Ok.cd (fun h => ok_some.2 ?_) (fun h => ?_)
 · rw [if_neg]; simpa using h
 · have h : (g.Z.length : Int) = g.Width * g.Height := by simpa using h
   rw [if_pos h]
   refine Ok.bde (anyZ_v (by omega) (by omega)) (Ok.cd (fun h => ok_some.2 ?_) (fun h => ok_some.2 ?_))
   · rw [if_pos h]
   · rw [if_neg (by rw [h]; decide)]
theorem loop_all2 {γ ρ : Type} [Inhabited γ] {n : Nat} {s : List γ} {p : γ → Bool} {c : ρ} {F : (Int → Option (Sum Unit ρ)) → Int → Option (Sum Unit ρ)} (hn : s.length < n) (hl : s.length ≤ 9223372036854775806)
  (step : ∀ again (k : Nat), k < s.length → F again (k : Int) = if p (s.getD k default) = true then some (.inr c) else again (wrapF .i64 ((k : Int) + 1))) (hend : ∀ again, F again (s.length : Int) = some (.inl ())) : loopO n F 0 = some (if s.any p = true then .inr c else .inl ()) := by
 apply Ok.eq
 refine ok_range (len := s.length) (fun k => ∀ j, j < k → p (s.getD j default) = false) hn hl (by intro j hj; omega) ?_ ?_
 · intro again k hk hP ih
   rw [step again k hk]
   by_cases h : p (s.getD k default) = true
   · rw [if_pos h]
     refine ok_some.2 ?_
     rw [if_pos]
     refine List.any_eq_true.2 ⟨s.getD k default, ?_, h⟩
     simp only [List.getD, List.getElem?_eq_getElem hk, Option.getD_some]; exact List.getElem_mem hk
   · rw [if_neg h]
     exact ih fun j hj => by
      by_cases hjk : j = k
      · rw [hjk]; simpa using h
      · exact hP j (by omega)
 · intro again hP
   rw [hend]
   refine ok_some.2 ?_
   rw [if_neg]
   intro ha
   obtain ⟨x, hx, hp⟩ := List.any_eq_true.1 ha
   obtain ⟨j, hj, rfl⟩ := List.getElem_of_mem hx
   have := hP j hj
   simp only [List.getD, List.getElem?_eq_getElem hj, Option.getD_some] at this
   rw [this] at hp; cases hp
theorem lcheck_v {n : Nat} (hn : 4096 < n) (g : api_Grid) : fiduciallaw48_Checked n g = some (gcode g) := by
 apply Ok.eq
 unfold fiduciallaw48_Checked fiduciallaw48_checked
 refine Ok.bd (R := fun v => v = gcode g) ?_ (fun v h => ok_some.2 h)
 refine Ok.cd (fun h => ok_some.2 (gc_no fun d => ?_).symm) (fun h1 => Ok.cd (fun h => ok_some.2 (gc_no fun d => ?_).symm) (fun h2 => Ok.cd (fun h => ok_some.2 (gc_no fun d => ?_).symm) (fun h3 => Ok.cd (fun h => ok_some.2 (gc_no fun d => ?_).symm) (fun h4 => Ok.cd (fun h => ok_some.2 (gc_no fun d => ?_).symm) (fun h5 => Ok.cd (fun h => ok_some.2 (gc_no fun d => ?_).symm) (fun h6 => Ok.cd (fun h => ok_some.2 (gc_no fun d => ?_).symm) (fun h7 => Ok.bde lfar_v (Ok.cd (fun h => ok_some.2 (gc_no fun d => ?_).symm) (fun h8 => Ok.bde lfar_v (Ok.cd (fun h => ok_some.2 (gc_no fun d => ?_).symm) (fun h9 => ?_)))))))))))
 · have := d.w; have := of_decide_eq_true h; omega
 · have := d.w; have := of_decide_eq_true h; omega
 · have := d.h; have := of_decide_eq_true h; omega
 · have := d.h; have := of_decide_eq_true h; omega
 · have := d.s; have := of_decide_eq_true h; omega
 · have := d.s; have := of_decide_eq_true h; omega
 · have := d.e; simp [this] at h
 · rw [d.x] at h; cases h
 · rw [d.y] at h; cases h
 have h1 := of_decide_eq_false h1
 have h2 := of_decide_eq_false h2
 have h3 := of_decide_eq_false h3
 have h4 := of_decide_eq_false h4
 have h5 := of_decide_eq_false h5
 have h6 := of_decide_eq_false h6
 have d : Dim g := ⟨by omega, by omega, by omega, by simpa using h7, h8, h9⟩
 have ha := area52 d.w d.h
 rw [wrap64_in (n := g.Width * g.Height) (by omega) (by omega)]
 unfold gcode
 rw [if_pos d]
 refine Ok.cd (fun h => ok_some.2 ?_) (fun h => ?_)
 · rw [if_neg]; simpa using h
 · have h : (g.Z.length : Int) = g.Width * g.Height := by simpa using h
   rw [if_pos h]
   refine Ok.bde (loop_all2 (p := badZ) (c := (2 : Int)) (s := g.Z) (by omega) (by omega) ?_ ?_) ?_
   · intro again k hk
     have d1 : decide ((k : Int) < (g.Z.length : Int)) = true := by simpa using hk
     have d2 : decide (k < g.Z.length) = true := by simpa using hk
     rw [d1, inR_nat, d2, gt_nat, lfar_v]
     unfold badZ
     cases (g.Z.getD k default != -2147483648) <;> cases farE (g.Z.getD k default) <;> rfl
   · intro again
     have d1 : decide ((g.Z.length : Int) < (g.Z.length : Int)) = false := by simp
     rw [d1]; rfl
   · cases hz : g.Z.any badZ with
     | true => exact ok_some.2 rfl
     | false => exact ok_some.2 rfl
theorem gc_zero {g : api_Grid} (h : gcode g = 0) : Dim g ∧ (g.Z.length : Int) = g.Width * g.Height ∧ g.Z.any badZ = false := by
 unfold gcode at h
 split at h
 · rename_i d
   split at h
   · rename_i e
     split at h
     · omega
     · rename_i f; exact ⟨d, e, by simpa using f⟩
   · omega
 · omega
def B2 {α : Type} (x y : Option α) (Q : α → Prop) : Prop := ∃ r, x = some r ∧ y = some r ∧ Q r
section
variable {α β : Type} {Q : α → Prop} {R : β → Prop} {x y : Option β} {f g : β → Option α}
theorem B2.bde {b : β} (hx : x = some b) (hy : y = some b) (k : B2 (f b) (g b) Q) : B2 (bdO x f) (bdO y g) Q := by subst hx hy; exact k
theorem B2.bd (h : B2 x y R) (k : ∀ b, R b → B2 (f b) (g b) Q) : B2 (bdO x f) (bdO y g) Q := by
 obtain ⟨b, h1, h2, h3⟩ := h; exact B2.bde h1 h2 (k b h3)
theorem B2.cd {b : Bool} {t t' e e' : Option α} (h : b = true → B2 t t' Q) (k : b = false → B2 e e' Q) : B2 (cdO b t e) (cdO b t' e') Q := by
 cases b
 · exact k rfl
 · exact h rfl
end
end Go.L

