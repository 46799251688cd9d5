import Derived.Test.YtjpoeeeifgomiaaGreatOvlL55r
set_option linter.all false
namespace Go.L
open Go Go.Eng
theorem getD_eq {α : Type} [Inhabited α] {l : List α} {k : Nat} (h : k < l.length) : l.getD k default = l[k] := by simp [List.getD, h]
theorem take_succ_getD {α : Type} [Inhabited α] {l : List α} {k : Nat} (h : k < l.length) : l.take (k + 1) = l.take k ++ [l.getD k default] := by
 rw [getD_eq h, List.take_succ_eq_append_getElem h]
end Go.L

