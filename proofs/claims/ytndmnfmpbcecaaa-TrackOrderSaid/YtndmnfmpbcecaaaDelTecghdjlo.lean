import Derived.Test.YtndmnfmpbcecaaaScDmacnojpm
import Derived.Test.YtndmnfmpbcecaaaProg
import Derived.Test.YtndmnfmpbcecaaaChecked
import Derived.KernelRfl
set_option linter.all false
namespace Go.Proofs.Ytndmnfmpbcecaaa
open Go Go.Shelf Go.Eng
def laysDelT_ren : Go.Shelf.Ren := ⟨fun | 45 => 20 | n => n, fun | 0 => 0 | 3 => 3 | 4 => 4 | 22 => 22 | 23 => 31 | n => n, fun | n => n⟩
theorem laysDelT : Go.Proofs.SlLaysE0.n45 Try.prog laysDelT_ren := {
 mixed := by kernel_rfl
 f45 := ⟨Try.f20.name, by kernel_rfl, Try.func20.trans (congrArg some (by kernel_rfl))⟩
 t0 := Try.underlying0
 a0 := Try.isAgg0
 z0 := Try.sizeOf0
 v0 := Try.zeroValue0
 t3 := Try.underlying3
 a3 := Try.isAgg3
 z3 := Try.sizeOf3
 v3 := Try.zeroValue3
 t4 := Try.underlying4
 a4 := Try.isAgg4
 z4 := Try.sizeOf4
 v4 := Try.zeroValue4
 t22 := Try.underlying22
 a22 := Try.isAgg22
 z22 := Try.sizeOf22
 v22 := Try.zeroValue22 }
theorem infoDelT : (Try.prog.info? 31).map (·.size) = some 5 := by kernel_rfl
theorem contractDelT : DelContract Try.prog 20 5 [.int .i64 0, .int .i64 0, .int .i64 0, .int .i64 0, .int .i64 0] := fun blk off cap n i j w vs h1 h2 h3 h4 h5 h6 h7 => by
 obtain ⟨i0, hi, hs⟩ := Option.map_eq_some_iff.1 infoDelT
 exact run_delK laysDelT 5 Try.sizeOf31 _ Try.zeroValue31 [.int .i64 0, .int .i64 0, .int .i64 0, .int .i64 0, .int .i64 0] (by kernel_rfl) rfl (by decide) i0 hi hs (by decide) blk off cap n i j w vs h1 h2 h3 h4 h5 h6 h7
end Go.Proofs.Ytndmnfmpbcecaaa
