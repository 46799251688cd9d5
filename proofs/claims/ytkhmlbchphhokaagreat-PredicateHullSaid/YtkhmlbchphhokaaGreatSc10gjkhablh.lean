import Derived.Test.YtkhmlbchphhokaaGreatSc11eplkegoe
import Derived.Sort.Grow
set_option linter.all false
set_option linter.unusedVariables false
namespace Go.Eng
open Go Go.RowKit
variable [Dr]
variable {K : Nat} {P : Program}
theorem ext_growW {B mu : Nat → Prop} {w : World} {π : List (Option PB)} (os : Array Obj) (hB : ∀ b, B b → b < w.heap.size) : Ext B w (Sort.grow w os) mu mu π π :=
 ⟨fun b hb => Sort.heap_grow_old w os (hB b hb), by simp, fun b hb h => ⟨Sort.heap_grow_old w os hb, h⟩, fun _ _ h => h, rfl, rfl, rfl, fun _ => Nat.le_refl _⟩
theorem Inv.growW {out B : Nat → Prop} {w : World} {π : List (Option PB)} {H : List Blk} (hI : Inv out B w π H) (os : Array Obj) : Inv out B (Sort.grow w os) π H := by
 have hE : Ext B w (Sort.grow w os) (muOf out π H) (muOf out π H) π π := ext_growW os hI.bound
 refine ⟨hI.len, fun b hb => Nat.lt_of_lt_of_le (hI.bound b hb) hE.size, hI.out_lt, fun i x p h1 h2 h3 => ⟨(hI.base i x p h1 h2 h3).1, Nat.lt_of_lt_of_le (hI.base i x p h1 h2 h3).2 hE.size⟩, fun i x p h1 h2 => ?_, hI.sep⟩
 exact BlkOk.ext hE (fun hl => Sort.heap_grow_old w os (hI.base i x p h1 h2 hl).2) (hI.ok i x p h1 h2)
theorem flat_iC (k : IntKind) (zs : List Int) : zs.flatMap (iC k) = zs.map fun z => AV.at (.int k z) := by
 induction zs with
 | nil => rfl
 | cons z zs ih => rw [List.flatMap_cons, ih]; rfl
end Go.Eng

