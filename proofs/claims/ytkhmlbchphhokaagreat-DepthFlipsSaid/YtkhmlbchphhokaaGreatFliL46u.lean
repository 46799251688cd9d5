import Derived.Test.YtkhmlbchphhokaaGreatFliLD
import Derived.Test.YtkhmlbchphhokaaGreatPl6jffjgihl
import Derived.Test.YtkhmlbchphhokaaGreatSc10cimkabma
set_option linter.all false
namespace Go.L
open Go Go.Eng
def srt (l : List Int) : List Int := isrt l
theorem srt_len (l : List Int) : (srt l).length = l.length := (isrt_perm l).length_eq
theorem sort_v {n : Nat} {l : List Int} (hn : 12 < n) (h : l.length ≤ 12) : slices_Sort_int_int_w n l = some (srt l) := by
 unfold slices_Sort_int_int_w
 rw [decide_eq_true (show l.length < 4611686018427387904 by omega)]; rfl
end Go.L

