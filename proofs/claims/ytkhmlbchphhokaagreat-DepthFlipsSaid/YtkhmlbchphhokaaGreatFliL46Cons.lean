import Derived.Test.YtkhmlbchphhokaaGreatFliL46c
set_option linter.all false
namespace Go.L
open Go Go.Eng
theorem two_v {n : Nat} {l r : api_Field} (hln : l.V.length < n) (hll : l.V.length ≤ 9223372036854775806) (hrn : r.V.length < n) (hrl : r.V.length ≤ 9223372036854775806) : fiduciallaw46_two n l r = some (if okF l = true then (if okF r = true then (if l.Width = r.Width ∧ l.Height = r.Height then 0 else 4) else 1) else 1) := by
 unfold fiduciallaw46_two
 rw [valid_v hln hll, valid_v hrn hrl]
 by_cases h1 : okF l = true
 · by_cases h2 : okF r = true
   · rw [h1, h2, if_pos rfl, if_pos rfl]
     by_cases h4 : l.Width = r.Width
     · by_cases h5 : l.Height = r.Height
       · simp [h4, h5, cdO, bdO]
       · have b1 : (l.Width != r.Width) = false := by simpa using h4
         have b2 : (l.Height != r.Height) = true := by simpa using h5
         rw [if_neg (fun h => h5 h.2), b1, b2]; rfl
     · have b1 : (l.Width != r.Width) = true := by simpa using h4
       rw [if_neg (fun h => h4 h.1), b1]; rfl
   · have : okF r = false := by simpa using h2
     rw [h1, this]; rfl
 · have : okF l = false := by simpa using h1
   rw [this]; rfl
end Go.L

