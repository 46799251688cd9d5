import Derived.Test.YtndmnfmpbcecaaaScDWmgmalodk
import Derived.Test.YtndmnfmpbcecaaaProg
import Derived.Test.YtndmnfmpbcecaaaChecked
import Derived.KernelRfl
set_option linter.all false
namespace Go.Proofs.Ytndmnfmpbcecaaa
open Go Go.Shelf Go.Eng
def laysDelL_ren : Go.Shelf.Ren := ⟨fun | 45 => 99 | n => n, fun | 0 => 0 | 3 => 3 | 4 => 4 | 22 => 34 | 23 => 37 | n => n, fun | n => n⟩
theorem laysDelL : Go.Proofs.SlLaysE0.n45 Try.prog laysDelL_ren := {
 mixed := by kernel_rfl
 f45 := ⟨Try.f99.name, by kernel_rfl, Try.func99.trans (congrArg some (by kernel_rfl))⟩
 t0 := Try.underlying0
 a0 := Try.isAgg0
 z0 := Try.sizeOf0
 v0 := Try.zeroValue0
 t3 := Try.underlying3
 a3 := Try.isAgg3
 z3 := Try.sizeOf3
 v3 := Try.zeroValue3
 t4 := Try.underlying4
 a4 := Try.isAgg4
 z4 := Try.sizeOf4
 v4 := Try.zeroValue4
 t22 := Try.underlying34
 a22 := Try.isAgg34
 z22 := Try.sizeOf34
 v22 := Try.zeroValue34 }
theorem infoDelL : (Try.prog.info? 37).map (·.size) = some 1 := by kernel_rfl
theorem contractDelL : DelContract Try.prog 99 1 [.slice none 0 0] := fun blk off cap n i j w vs h1 h2 h3 h4 h5 h6 h7 => by
 obtain ⟨i0, hi, hs⟩ := Option.map_eq_some_iff.1 infoDelL
 exact run_delK laysDelL 1 Try.sizeOf37 _ Try.zeroValue37 [.slice none 0 0] (by kernel_rfl) rfl (by decide) i0 hi hs (by decide) blk off cap n i j w vs h1 h2 h3 h4 h5 h6 h7
end Go.Proofs.Ytndmnfmpbcecaaa
