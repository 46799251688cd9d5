/- The law ChangeSound answers true. -/
import Derived.Test.YtlajgmapmocpbaaSoundL59b
import Derived.KernelRfl
set_option linter.unusedVariables false
set_option linter.unusedSimpArgs false
namespace Go.L
open Go Go.Eng

theorem known59_v : fiduciallaw59_known 5000 = some true := by kernel_rfl
theorem short_of_few {l : List api_Banded} (hl : l.length ≤ 100) (h : fewB l = true) : Short 5000 l := by
  refine ⟨by omega, by omega, fun k hk => ?_⟩
  have := List.all_eq_true.1 h (l.getD k default) (by simp only [List.getD, List.getElem?_eq_getElem hk, Option.getD_some]; exact List.getElem_mem hk)
  simp only [Bool.and_eq_true, decide_eq_true_eq] at this
  omega
def Bytes (l : List Int) : Prop := ∀ k, k < l.length → 0 ≤ l.getD k default ∧ l.getD k default ≤ 255
theorem bytes_of {l : List Int} (h : ∀ a ∈ l, (Lit.int .u8 a).wf = true) : Bytes l := fun k hk => by
  have := h (l.getD k default) (by simp only [List.getD, List.getElem?_eq_getElem hk, Option.getD_some]; exact List.getElem_mem hk)
  simp [Lit.wf, IntKind.min, IntKind.max, IntKind.signed, IntKind.bits] at this
  exact this
theorem getD_map_range {f : Nat → Int} {m k : Nat} (hk : k < m) : ((List.range m).map f).getD k default = f k := by
  simp [List.getD, hk]
theorem sound_v (a b : api_Banded) (parts : A2 (List Int)) (h0 : Bytes parts.e0) (h1 : Bytes parts.e1) : fiduciallaw59_ChangeSound 5000 a b parts = some true := by
  apply Ok.eq
  unfold fiduciallaw59_ChangeSound
  refine Ok.bde known59_v ?_
  refine Ok.cd (fun h => by cases h) (fun _ => ?_)
  refine Ok.bde (few_v (by simp) (by simp)) ?_
  refine Ok.cd (fun h => ok_some.2 rfl) (fun hfew => ?_)
  have hfew : fewB [a, b] = true := by simpa using hfew
  have hs := short_of_few (l := [a, b]) (by simp) hfew
  refine Ok.bde (fits_v hs) ?_
  refine Ok.cd (fun h => ok_some.2 rfl) (fun hc => ?_)
  have hc : codeF [a, b] = 0 := by simpa using hc
  have f := codeF_two hc
  refine Ok.cd (fun h => ok_some.2 rfl) (fun hp0 => ?_)
  refine Ok.cd (fun h => ok_some.2 rfl) (fun hp1 => ?_)
  refine Ok.bde (compare_v (by decide) f hs hc) ?_
  refine Ok.cd (fun h => by simp at h) (fun _ => ?_)
  refine Ok.cd (fun h => by simp at h) (fun _ => ?_)
  have hlen := good_short f.ga
  refine Ok.bd (R := fun o => match o with | .inl _ => True | .inr r => r = true) ?_ ?_
  · refine ok_range (len := ((List.range a.Grid.Z.length).map (verd a b)).length) (fun k => True) (by simp; omega) (by simp; omega) trivial ?_ ?_
    · intro again k hk _ ih
      simp only [List.length_map, List.length_range] at hk
      simp at hp0 hp1
      refine Ok.cd (fun _ => ?_) (fun h => by simp at h; omega)
      refine Ok.gd (by rw [inR_nat]; simpa using hk) (Ok.gd (by rw [inR_nat]; simp; omega) ?_)
      rw [gt_nat, gt_nat, gt_nat, getD_map_range hk]
      have p0 := h0 k (by omega)
      have p1 := h1 k (by omega)
      refine Ok.bde (truth_v f.ga hk p0.1 p0.2) ?_
      refine Ok.gd (by rw [inR_nat]; simp; omega) ?_
      have hkb : k < b.Grid.Z.length := by rw [f.len]; exact hk
      refine Ok.bde (truth_v f.gb hkb p1.1 p1.2) ?_
      have ea := f.ga.e k (by rw [f.ga.elen]; exact hk)
      have eb := f.gb.e k (by rw [f.gb.elen]; exact hkb)
      have ta := truth_bd ea.1 p0.1 p0.2
      have tb := truth_bd eb.1 p1.1 p1.2
      have key1 : verd a b k = 1 → ¬ (truthS b k (parts.e1.getD k default) ≤ truthS a k (parts.e0.getD k default)) := by
        intro hv
        unfold verd at hv
        split at hv
        · split at hv
          · unfold truthS; unfold dif bnd at *; omega
          · split at hv <;> cases hv
        · cases hv
      have key2 : verd a b k = 2 → ¬ (truthS b k (parts.e1.getD k default) ≥ truthS a k (parts.e0.getD k default)) := by
        intro hv
        unfold verd at hv
        split at hv
        · split at hv
          · cases hv
          · split at hv
            · unfold truthS; unfold dif bnd at *; omega
            · cases hv
        · cases hv
      refine Ok.cd (fun hv => ?_) (fun hv => ?_)
      · refine Ok.cd (fun h => ?_) (fun _ => ?_)
        · exact (key1 (by simpa using hv) (by simpa using h)).elim
        · refine Ok.cd (fun hv2 => ?_) (fun _ => ih trivial)
          simp at hv hv2; omega
      · refine Ok.cd (fun hv2 => ?_) (fun _ => ih trivial)
        refine Ok.cd (fun h => ?_) (fun _ => ih trivial)
        exact (key2 (by simpa using hv2) (by simpa using h)).elim
    · intro again _
      exact Ok.cd (fun h => by simp at h) (fun _ => ok_some.2 trivial)
  · rintro (_ | r) h
    · exact ok_some.2 rfl
    · exact ok_some.2 h
end Go.L
