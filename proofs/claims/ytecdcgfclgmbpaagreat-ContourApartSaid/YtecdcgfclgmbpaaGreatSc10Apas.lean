import Derived.Test.YtecdcgfclgmbpaaGreatSc11Apas
import Derived.Sort.Grow
set_option linter.all false
set_option linter.unusedVariables false
namespace Go.Eng
open Go Go.RowKit
variable [Dr]
variable {K : Nat} {P : Program}
theorem xA {B mu : Nat -> Prop} {w : World} {π : List (Option PB)} (os : Array Obj) (j : ∀ b, B b -> b < w.heap.size) : Ext B w (Sort.grow w os) mu mu π π :=
 ⟨fun b hb => Sort.heap_grow_old w os (j b hb), by simp, fun b hb h => ⟨Sort.heap_grow_old w os hb, h⟩, fun _ _ h => h, rfl, rfl, rfl, fun _ => Nat.le_refl _⟩
theorem Inv.Hg {out B : Nat -> Prop} {w : World} {π : List (Option PB)} {H : List Blk} (j : Inv out B w π H) (os : Array Obj) : Inv out B (Sort.grow w os) π H := by
 have m : Ext B w (Sort.grow w os) (aJ out π H) (aJ out π H) π π := xA os j.bound
 refine ⟨j.len, fun b hb => Nat.lt_of_lt_of_le (j.bound b hb) m.size, j.out_lt, fun i x p h1 h2 q => ⟨(j.base i x p h1 h2 q).1, Nat.lt_of_lt_of_le (j.base i x p h1 h2 q).2 m.size⟩, fun i x p h1 h2 => ?_, j.sep⟩
 exact gr.ext m (fun z => Sort.heap_grow_old w os (j.base i x p h1 h2 z).2) (j.ok i x p h1 h2)
end Go.Eng

