import Derived.Test.YtjpoeeeifgomiaaGreatRouL55r
set_option linter.unusedVariables false
set_option linter.unusedSimpArgs false
namespace Go.L
open Go Go.Eng
theorem getD_eq {α : Type} [Inhabited α] {l : List α} {k : Nat} (h : k < l.length) : l.getD k default = l[k] := by simp [List.getD, h]
theorem take_succ_getD {α : Type} [Inhabited α] {l : List α} {k : Nat} (h : k < l.length) : l.take (k + 1) = l.take k ++ [l.getD k default] := by
  rw [getD_eq h, List.take_succ_eq_append_getElem h]
theorem equalP {n : Nat} {l : List api_Pix} (hn : l.length < n) (hl : l.length ≤ 9223372036854775806) : slices_Equal_fiducial_api_Pix_fiducial_api_Pix n l l = some true := by
  apply Ok.eq
  unfold slices_Equal_fiducial_api_Pix_fiducial_api_Pix
  refine Ok.cd (fun h => by simp at h) (fun _ => ?_)
  refine Ok.bd (R := fun o => match o with | .inl _ => True | .inr r => r = true) ?_ ?_
  · refine ok_range (len := l.length) (fun _ => True) hn hl trivial ?_ ?_
    · intro again k hk _ ih
      refine Ok.cd (fun _ => ?_) (fun h => by simp at h; omega)
      refine Ok.gd (by rw [inR_nat]; simpa using hk) (Ok.gd (by rw [inR_nat]; simpa using hk) ?_)
      exact Ok.cd (fun h => by simp at h) (fun _ => ih trivial)
    · intro again _
      exact Ok.cd (fun h => by simp at h) (fun _ => ok_some.2 trivial)
  · rintro (_ | r) h
    · exact ok_some.2 rfl
    · exact ok_some.2 h
end Go.L

