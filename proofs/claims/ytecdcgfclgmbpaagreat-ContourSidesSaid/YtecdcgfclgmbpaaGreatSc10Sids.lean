import Derived.Test.YtecdcgfclgmbpaaGreatSc11Sids
import Derived.Sort.Grow
set_option linter.all false
set_option linter.unusedVariables false
namespace Go.Eng
open Go Go.RowKit
variable [Dr]
variable {K : Nat} {P : Program}
theorem wH {B mu : Nat -> Prop} {w : World} {Z : List (Option PB)} (os : Array Obj) (hB : ∀ b, B b -> b < w.heap.size) : Ext B w (Sort.grow w os) mu mu Z Z :=
 ⟨fun b hb => Sort.heap_grow_old w os (hB b hb), by simp, fun b hb h => ⟨Sort.heap_grow_old w os hb, h⟩, fun _ _ h => h, rfl, rfl, rfl, fun _ => Nat.le_refl _⟩
theorem Inv.FV {out B : Nat -> Prop} {w : World} {Z : List (Option PB)} {H : List Blk} (hI : Inv out B w Z H) (os : Array Obj) : Inv out B (Sort.grow w os) Z H := by
 have hE : Ext B w (Sort.grow w os) (aM out Z H) (aM out Z H) Z Z := wH os hI.bound
 refine ⟨hI.len, fun b hb => Nat.lt_of_lt_of_le (hI.bound b hb) hE.size, hI.out_lt, fun i x p h1 h2 h3 => ⟨(hI.base i x p h1 h2 h3).1, Nat.lt_of_lt_of_le (hI.base i x p h1 h2 h3).2 hE.size⟩, fun i x p h1 h2 => ?_, hI.sep⟩
 exact gy.ext hE (fun hl => Sort.heap_grow_old w os (hI.base i x p h1 h2 hl).2) (hI.ok i x p h1 h2)
end Go.Eng

