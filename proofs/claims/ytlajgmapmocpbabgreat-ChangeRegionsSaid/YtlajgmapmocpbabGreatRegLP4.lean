/- The program's functions compute what the plain Lean programs compute, part 4; printed by a program. -/
import Derived.Test.YtlajgmapmocpbabGreatRegLP3
import Derived.Test.YtlajgmapmocpbabGreatL0jnfiddma
import Derived.Test.YtlajgmapmocpbabGreatSortdabegomj
import Derived.Test.YtlajgmapmocpbabGreatChecked
import Derived.KernelRfl
set_option linter.unusedVariables false
set_option linter.unusedSimpArgs false
set_option maxRecDepth 100000
set_option maxHeartbeats 4000000
namespace Go.L
open Go Go.Eng Go.Proofs
theorem math_bits_Len64_ok (n : Nat) (x' : Int) (r : Int) (hr : math_bits_Len64 n x' = some r) : FnOk Tryz.prog 159 [aU64 x'] (aI64 r) := by
 unfold math_bits_Len64 at hr
 refine FnOk.bd fine Tryz.func159 [.tmp 2] ?_
 unfold Tryz.f159
 simp only [Option.getD_some]
 refine .seq <| .r3 fine 25 [(0, aU64 x'), (2, aI64 0)] <| .seq <| .seq <| .r3 fine 25 [(0, aU64 x'), (2, aI64 0), (4, aB (decide (x' ≥ 4294967296)))] ?_
 refine .cd hr (fun hb1 hr => ?_) (fun hb1 hr => ?_)
 ·refine .seq <| .r3 fine 25 [(0, aU64 (x'.fdiv (2 ^ 32)))] <| .r3 fine 25 [(0, aU64 (x'.fdiv (2 ^ 32))), (2, aI64 32)] <| .seq <| .seq <| .r3 fine 25 [(0, aU64 (x'.fdiv (2 ^ 32))), (2, aI64 32), (8, aB (decide ((x'.fdiv (2 ^ 32)) ≥ 65536)))] ?_
  refine .cd hr (fun hb2 hr => ?_) (fun hb2 hr => ?_)
  ·refine .seq <| .r3 fine 25 [(0, aU64 ((x'.fdiv (2 ^ 32)).fdiv (2 ^ 16))), (2, aI64 32)] <| .r3 fine 25 [(0, aU64 ((x'.fdiv (2 ^ 32)).fdiv (2 ^ 16))), (2, aI64 48)] <| .seq <| .seq <| .r3 fine 25 [(0, aU64 ((x'.fdiv (2 ^ 32)).fdiv (2 ^ 16))), (2, aI64 48), (14, aB (decide (((x'.fdiv (2 ^ 32)).fdiv (2 ^ 16)) ≥ 256)))] ?_
   refine .cd hr (fun hb3 hr => ?_) (fun hb3 hr => ?_)
   ·refine .seq <| .r3 fine 25 [(0, aU64 (((x'.fdiv (2 ^ 32)).fdiv (2 ^ 16)).fdiv (2 ^ 8))), (2, aI64 48)] <| .r3 fine 25 [(0, aU64 (((x'.fdiv (2 ^ 32)).fdiv (2 ^ 16)).fdiv (2 ^ 8))), (2, aI64 56)] <| .seq ?_
    obtain ⟨hg4, hr⟩ := gd hr
    refine .r0 fine <| .mu 3 <| .p0 (v := aU8 (strAt ⟨#[0, 1, 2, 2, 3, 3, 3, 3, 4, 4, 4, 4, 4, 4, 4, 4, 5, 5, 5, 5, 5, 5, 5, 5, 5, 5, 5, 5, 5, 5, 5, 5, 6, 6, 6, 6, 6, 6, 6, 6, 6, 6, 6, 6, 6, 6, 6, 6, 6, 6, 6, 6, 6, 6, 6, 6, 6, 6, 6, 6, 6, 6, 6, 6, 7, 7, 7, 7, 7, 7, 7, 7, 7, 7, 7, 7, 7, 7, 7, 7, 7, 7, 7, 7, 7, 7, 7, 7, 7, 7, 7, 7, 7, 7, 7, 7, 7, 7, 7, 7, 7, 7, 7, 7, 7, 7, 7, 7, 7, 7, 7, 7, 7, 7, 7, 7, 7, 7, 7, 7, 7, 7, 7, 7, 7, 7, 7, 7, 8, 8, 8, 8, 8, 8, 8, 8, 8, 8, 8, 8, 8, 8, 8, 8, 8, 8, 8, 8, 8, 8, 8, 8, 8, 8, 8, 8, 8, 8, 8, 8, 8, 8, 8, 8, 8, 8, 8, 8, 8, 8, 8, 8, 8, 8, 8, 8, 8, 8, 8, 8, 8, 8, 8, 8, 8, 8, 8, 8, 8, 8, 8, 8, 8, 8, 8, 8, 8, 8, 8, 8, 8, 8, 8, 8, 8, 8, 8, 8, 8, 8, 8, 8, 8, 8, 8, 8, 8, 8, 8, 8, 8, 8, 8, 8, 8, 8, 8, 8, 8, 8, 8, 8, 8, 8, 8, 8, 8, 8, 8, 8, 8, 8, 8, 8, 8, 8, 8, 8, 8, 8, 8, 8, 8, 8, 8, 8]⟩ (wrapF .u8 (((x'.fdiv (2 ^ 32)).fdiv (2 ^ 16)).fdiv (2 ^ 8))))) (idx_str (s := ⟨#[0, 1, 2, 2, 3, 3, 3, 3, 4, 4, 4, 4, 4, 4, 4, 4, 5, 5, 5, 5, 5, 5, 5, 5, 5, 5, 5, 5, 5, 5, 5, 5, 6, 6, 6, 6, 6, 6, 6, 6, 6, 6, 6, 6, 6, 6, 6, 6, 6, 6, 6, 6, 6, 6, 6, 6, 6, 6, 6, 6, 6, 6, 6, 6, 7, 7, 7, 7, 7, 7, 7, 7, 7, 7, 7, 7, 7, 7, 7, 7, 7, 7, 7, 7, 7, 7, 7, 7, 7, 7, 7, 7, 7, 7, 7, 7, 7, 7, 7, 7, 7, 7, 7, 7, 7, 7, 7, 7, 7, 7, 7, 7, 7, 7, 7, 7, 7, 7, 7, 7, 7, 7, 7, 7, 7, 7, 7, 7, 8, 8, 8, 8, 8, 8, 8, 8, 8, 8, 8, 8, 8, 8, 8, 8, 8, 8, 8, 8, 8, 8, 8, 8, 8, 8, 8, 8, 8, 8, 8, 8, 8, 8, 8, 8, 8, 8, 8, 8, 8, 8, 8, 8, 8, 8, 8, 8, 8, 8, 8, 8, 8, 8, 8, 8, 8, 8, 8, 8, 8, 8, 8, 8, 8, 8, 8, 8, 8, 8, 8, 8, 8, 8, 8, 8, 8, 8, 8, 8, 8, 8, 8, 8, 8, 8, 8, 8, 8, 8, 8, 8, 8, 8, 8, 8, 8, 8, 8, 8, 8, 8, 8, 8, 8, 8, 8, 8, 8, 8, 8, 8, 8, 8, 8, 8, 8, 8, 8, 8, 8, 8, 8, 8, 8, 8, 8, 8]⟩) (k := .u8) (i := (wrapF .u8 (((x'.fdiv (2 ^ 32)).fdiv (2 ^ 16)).fdiv (2 ^ 8)))) (by kernel_rfl) (by kernel_rfl) (by kernel_rfl) hg4) <| .mu 3 <| .done <| .ret ?_
    obtain rfl := Option.some.inj hr
    exact FinQ.r1 [aI64 (wrapF .i64 (56 + (wrapF .i64 (strAt ⟨#[0, 1, 2, 2, 3, 3, 3, 3, 4, 4, 4, 4, 4, 4, 4, 4, 5, 5, 5, 5, 5, 5, 5, 5, 5, 5, 5, 5, 5, 5, 5, 5, 6, 6, 6, 6, 6, 6, 6, 6, 6, 6, 6, 6, 6, 6, 6, 6, 6, 6, 6, 6, 6, 6, 6, 6, 6, 6, 6, 6, 6, 6, 6, 6, 7, 7, 7, 7, 7, 7, 7, 7, 7, 7, 7, 7, 7, 7, 7, 7, 7, 7, 7, 7, 7, 7, 7, 7, 7, 7, 7, 7, 7, 7, 7, 7, 7, 7, 7, 7, 7, 7, 7, 7, 7, 7, 7, 7, 7, 7, 7, 7, 7, 7, 7, 7, 7, 7, 7, 7, 7, 7, 7, 7, 7, 7, 7, 7, 8, 8, 8, 8, 8, 8, 8, 8, 8, 8, 8, 8, 8, 8, 8, 8, 8, 8, 8, 8, 8, 8, 8, 8, 8, 8, 8, 8, 8, 8, 8, 8, 8, 8, 8, 8, 8, 8, 8, 8, 8, 8, 8, 8, 8, 8, 8, 8, 8, 8, 8, 8, 8, 8, 8, 8, 8, 8, 8, 8, 8, 8, 8, 8, 8, 8, 8, 8, 8, 8, 8, 8, 8, 8, 8, 8, 8, 8, 8, 8, 8, 8, 8, 8, 8, 8, 8, 8, 8, 8, 8, 8, 8, 8, 8, 8, 8, 8, 8, 8, 8, 8, 8, 8, 8, 8, 8, 8, 8, 8, 8, 8, 8, 8, 8, 8, 8, 8, 8, 8, 8, 8, 8, 8, 8, 8, 8, 8]⟩ (wrapF .u8 (((x'.fdiv (2 ^ 32)).fdiv (2 ^ 16)).fdiv (2 ^ 8)))))))]
   ·refine .skip <| .seq ?_
    obtain ⟨hg5, hr⟩ := gd hr
    refine .r0 fine <| .mu 3 <| .p0 (v := aU8 (strAt ⟨#[0, 1, 2, 2, 3, 3, 3, 3, 4, 4, 4, 4, 4, 4, 4, 4, 5, 5, 5, 5, 5, 5, 5, 5, 5, 5, 5, 5, 5, 5, 5, 5, 6, 6, 6, 6, 6, 6, 6, 6, 6, 6, 6, 6, 6, 6, 6, 6, 6, 6, 6, 6, 6, 6, 6, 6, 6, 6, 6, 6, 6, 6, 6, 6, 7, 7, 7, 7, 7, 7, 7, 7, 7, 7, 7, 7, 7, 7, 7, 7, 7, 7, 7, 7, 7, 7, 7, 7, 7, 7, 7, 7, 7, 7, 7, 7, 7, 7, 7, 7, 7, 7, 7, 7, 7, 7, 7, 7, 7, 7, 7, 7, 7, 7, 7, 7, 7, 7, 7, 7, 7, 7, 7, 7, 7, 7, 7, 7, 8, 8, 8, 8, 8, 8, 8, 8, 8, 8, 8, 8, 8, 8, 8, 8, 8, 8, 8, 8, 8, 8, 8, 8, 8, 8, 8, 8, 8, 8, 8, 8, 8, 8, 8, 8, 8, 8, 8, 8, 8, 8, 8, 8, 8, 8, 8, 8, 8, 8, 8, 8, 8, 8, 8, 8, 8, 8, 8, 8, 8, 8, 8, 8, 8, 8, 8, 8, 8, 8, 8, 8, 8, 8, 8, 8, 8, 8, 8, 8, 8, 8, 8, 8, 8, 8, 8, 8, 8, 8, 8, 8, 8, 8, 8, 8, 8, 8, 8, 8, 8, 8, 8, 8, 8, 8, 8, 8, 8, 8, 8, 8, 8, 8, 8, 8, 8, 8, 8, 8, 8, 8, 8, 8, 8, 8, 8, 8]⟩ (wrapF .u8 ((x'.fdiv (2 ^ 32)).fdiv (2 ^ 16))))) (idx_str (s := ⟨#[0, 1, 2, 2, 3, 3, 3, 3, 4, 4, 4, 4, 4, 4, 4, 4, 5, 5, 5, 5, 5, 5, 5, 5, 5, 5, 5, 5, 5, 5, 5, 5, 6, 6, 6, 6, 6, 6, 6, 6, 6, 6, 6, 6, 6, 6, 6, 6, 6, 6, 6, 6, 6, 6, 6, 6, 6, 6, 6, 6, 6, 6, 6, 6, 7, 7, 7, 7, 7, 7, 7, 7, 7, 7, 7, 7, 7, 7, 7, 7, 7, 7, 7, 7, 7, 7, 7, 7, 7, 7, 7, 7, 7, 7, 7, 7, 7, 7, 7, 7, 7, 7, 7, 7, 7, 7, 7, 7, 7, 7, 7, 7, 7, 7, 7, 7, 7, 7, 7, 7, 7, 7, 7, 7, 7, 7, 7, 7, 8, 8, 8, 8, 8, 8, 8, 8, 8, 8, 8, 8, 8, 8, 8, 8, 8, 8, 8, 8, 8, 8, 8, 8, 8, 8, 8, 8, 8, 8, 8, 8, 8, 8, 8, 8, 8, 8, 8, 8, 8, 8, 8, 8, 8, 8, 8, 8, 8, 8, 8, 8, 8, 8, 8, 8, 8, 8, 8, 8, 8, 8, 8, 8, 8, 8, 8, 8, 8, 8, 8, 8, 8, 8, 8, 8, 8, 8, 8, 8, 8, 8, 8, 8, 8, 8, 8, 8, 8, 8, 8, 8, 8, 8, 8, 8, 8, 8, 8, 8, 8, 8, 8, 8, 8, 8, 8, 8, 8, 8, 8, 8, 8, 8, 8, 8, 8, 8, 8, 8, 8, 8, 8, 8, 8, 8, 8, 8]⟩) (k := .u8) (i := (wrapF .u8 ((x'.fdiv (2 ^ 32)).fdiv (2 ^ 16)))) (by kernel_rfl) (by kernel_rfl) (by kernel_rfl) hg5) <| .mu 3 <| .done <| .ret ?_
    obtain rfl := Option.some.inj hr
    exact FinQ.r1 [aI64 (wrapF .i64 (48 + (wrapF .i64 (strAt ⟨#[0, 1, 2, 2, 3, 3, 3, 3, 4, 4, 4, 4, 4, 4, 4, 4, 5, 5, 5, 5, 5, 5, 5, 5, 5, 5, 5, 5, 5, 5, 5, 5, 6, 6, 6, 6, 6, 6, 6, 6, 6, 6, 6, 6, 6, 6, 6, 6, 6, 6, 6, 6, 6, 6, 6, 6, 6, 6, 6, 6, 6, 6, 6, 6, 7, 7, 7, 7, 7, 7, 7, 7, 7, 7, 7, 7, 7, 7, 7, 7, 7, 7, 7, 7, 7, 7, 7, 7, 7, 7, 7, 7, 7, 7, 7, 7, 7, 7, 7, 7, 7, 7, 7, 7, 7, 7, 7, 7, 7, 7, 7, 7, 7, 7, 7, 7, 7, 7, 7, 7, 7, 7, 7, 7, 7, 7, 7, 7, 8, 8, 8, 8, 8, 8, 8, 8, 8, 8, 8, 8, 8, 8, 8, 8, 8, 8, 8, 8, 8, 8, 8, 8, 8, 8, 8, 8, 8, 8, 8, 8, 8, 8, 8, 8, 8, 8, 8, 8, 8, 8, 8, 8, 8, 8, 8, 8, 8, 8, 8, 8, 8, 8, 8, 8, 8, 8, 8, 8, 8, 8, 8, 8, 8, 8, 8, 8, 8, 8, 8, 8, 8, 8, 8, 8, 8, 8, 8, 8, 8, 8, 8, 8, 8, 8, 8, 8, 8, 8, 8, 8, 8, 8, 8, 8, 8, 8, 8, 8, 8, 8, 8, 8, 8, 8, 8, 8, 8, 8, 8, 8, 8, 8, 8, 8, 8, 8, 8, 8, 8, 8, 8, 8, 8, 8, 8, 8]⟩ (wrapF .u8 ((x'.fdiv (2 ^ 32)).fdiv (2 ^ 16)))))))]
  ·refine .skip <| .seq <| .seq <| .r3 fine 25 [(0, aU64 (x'.fdiv (2 ^ 32))), (2, aI64 32), (14, aB (decide ((x'.fdiv (2 ^ 32)) ≥ 256)))] ?_
   refine .cd hr (fun hb6 hr => ?_) (fun hb6 hr => ?_)
   ·refine .seq <| .r3 fine 25 [(0, aU64 ((x'.fdiv (2 ^ 32)).fdiv (2 ^ 8))), (2, aI64 32)] <| .r3 fine 25 [(0, aU64 ((x'.fdiv (2 ^ 32)).fdiv (2 ^ 8))), (2, aI64 40)] <| .seq ?_
    obtain ⟨hg7, hr⟩ := gd hr
    refine .r0 fine <| .mu 3 <| .p0 (v := aU8 (strAt ⟨#[0, 1, 2, 2, 3, 3, 3, 3, 4, 4, 4, 4, 4, 4, 4, 4, 5, 5, 5, 5, 5, 5, 5, 5, 5, 5, 5, 5, 5, 5, 5, 5, 6, 6, 6, 6, 6, 6, 6, 6, 6, 6, 6, 6, 6, 6, 6, 6, 6, 6, 6, 6, 6, 6, 6, 6, 6, 6, 6, 6, 6, 6, 6, 6, 7, 7, 7, 7, 7, 7, 7, 7, 7, 7, 7, 7, 7, 7, 7, 7, 7, 7, 7, 7, 7, 7, 7, 7, 7, 7, 7, 7, 7, 7, 7, 7, 7, 7, 7, 7, 7, 7, 7, 7, 7, 7, 7, 7, 7, 7, 7, 7, 7, 7, 7, 7, 7, 7, 7, 7, 7, 7, 7, 7, 7, 7, 7, 7, 8, 8, 8, 8, 8, 8, 8, 8, 8, 8, 8, 8, 8, 8, 8, 8, 8, 8, 8, 8, 8, 8, 8, 8, 8, 8, 8, 8, 8, 8, 8, 8, 8, 8, 8, 8, 8, 8, 8, 8, 8, 8, 8, 8, 8, 8, 8, 8, 8, 8, 8, 8, 8, 8, 8, 8, 8, 8, 8, 8, 8, 8, 8, 8, 8, 8, 8, 8, 8, 8, 8, 8, 8, 8, 8, 8, 8, 8, 8, 8, 8, 8, 8, 8, 8, 8, 8, 8, 8, 8, 8, 8, 8, 8, 8, 8, 8, 8, 8, 8, 8, 8, 8, 8, 8, 8, 8, 8, 8, 8, 8, 8, 8, 8, 8, 8, 8, 8, 8, 8, 8, 8, 8, 8, 8, 8, 8, 8]⟩ (wrapF .u8 ((x'.fdiv (2 ^ 32)).fdiv (2 ^ 8))))) (idx_str (s := ⟨#[0, 1, 2, 2, 3, 3, 3, 3, 4, 4, 4, 4, 4, 4, 4, 4, 5, 5, 5, 5, 5, 5, 5, 5, 5, 5, 5, 5, 5, 5, 5, 5, 6, 6, 6, 6, 6, 6, 6, 6, 6, 6, 6, 6, 6, 6, 6, 6, 6, 6, 6, 6, 6, 6, 6, 6, 6, 6, 6, 6, 6, 6, 6, 6, 7, 7, 7, 7, 7, 7, 7, 7, 7, 7, 7, 7, 7, 7, 7, 7, 7, 7, 7, 7, 7, 7, 7, 7, 7, 7, 7, 7, 7, 7, 7, 7, 7, 7, 7, 7, 7, 7, 7, 7, 7, 7, 7, 7, 7, 7, 7, 7, 7, 7, 7, 7, 7, 7, 7, 7, 7, 7, 7, 7, 7, 7, 7, 7, 8, 8, 8, 8, 8, 8, 8, 8, 8, 8, 8, 8, 8, 8, 8, 8, 8, 8, 8, 8, 8, 8, 8, 8, 8, 8, 8, 8, 8, 8, 8, 8, 8, 8, 8, 8, 8, 8, 8, 8, 8, 8, 8, 8, 8, 8, 8, 8, 8, 8, 8, 8, 8, 8, 8, 8, 8, 8, 8, 8, 8, 8, 8, 8, 8, 8, 8, 8, 8, 8, 8, 8, 8, 8, 8, 8, 8, 8, 8, 8, 8, 8, 8, 8, 8, 8, 8, 8, 8, 8, 8, 8, 8, 8, 8, 8, 8, 8, 8, 8, 8, 8, 8, 8, 8, 8, 8, 8, 8, 8, 8, 8, 8, 8, 8, 8, 8, 8, 8, 8, 8, 8, 8, 8, 8, 8, 8, 8]⟩) (k := .u8) (i := (wrapF .u8 ((x'.fdiv (2 ^ 32)).fdiv (2 ^ 8)))) (by kernel_rfl) (by kernel_rfl) (by kernel_rfl) hg7) <| .mu 3 <| .done <| .ret ?_
    obtain rfl := Option.some.inj hr
    exact FinQ.r1 [aI64 (wrapF .i64 (40 + (wrapF .i64 (strAt ⟨#[0, 1, 2, 2, 3, 3, 3, 3, 4, 4, 4, 4, 4, 4, 4, 4, 5, 5, 5, 5, 5, 5, 5, 5, 5, 5, 5, 5, 5, 5, 5, 5, 6, 6, 6, 6, 6, 6, 6, 6, 6, 6, 6, 6, 6, 6, 6, 6, 6, 6, 6, 6, 6, 6, 6, 6, 6, 6, 6, 6, 6, 6, 6, 6, 7, 7, 7, 7, 7, 7, 7, 7, 7, 7, 7, 7, 7, 7, 7, 7, 7, 7, 7, 7, 7, 7, 7, 7, 7, 7, 7, 7, 7, 7, 7, 7, 7, 7, 7, 7, 7, 7, 7, 7, 7, 7, 7, 7, 7, 7, 7, 7, 7, 7, 7, 7, 7, 7, 7, 7, 7, 7, 7, 7, 7, 7, 7, 7, 8, 8, 8, 8, 8, 8, 8, 8, 8, 8, 8, 8, 8, 8, 8, 8, 8, 8, 8, 8, 8, 8, 8, 8, 8, 8, 8, 8, 8, 8, 8, 8, 8, 8, 8, 8, 8, 8, 8, 8, 8, 8, 8, 8, 8, 8, 8, 8, 8, 8, 8, 8, 8, 8, 8, 8, 8, 8, 8, 8, 8, 8, 8, 8, 8, 8, 8, 8, 8, 8, 8, 8, 8, 8, 8, 8, 8, 8, 8, 8, 8, 8, 8, 8, 8, 8, 8, 8, 8, 8, 8, 8, 8, 8, 8, 8, 8, 8, 8, 8, 8, 8, 8, 8, 8, 8, 8, 8, 8, 8, 8, 8, 8, 8, 8, 8, 8, 8, 8, 8, 8, 8, 8, 8, 8, 8, 8, 8]⟩ (wrapF .u8 ((x'.fdiv (2 ^ 32)).fdiv (2 ^ 8)))))))]
   ·refine .skip <| .seq ?_
    obtain ⟨hg8, hr⟩ := gd hr
    refine .r0 fine <| .mu 3 <| .p0 (v := aU8 (strAt ⟨#[0, 1, 2, 2, 3, 3, 3, 3, 4, 4, 4, 4, 4, 4, 4, 4, 5, 5, 5, 5, 5, 5, 5, 5, 5, 5, 5, 5, 5, 5, 5, 5, 6, 6, 6, 6, 6, 6, 6, 6, 6, 6, 6, 6, 6, 6, 6, 6, 6, 6, 6, 6, 6, 6, 6, 6, 6, 6, 6, 6, 6, 6, 6, 6, 7, 7, 7, 7, 7, 7, 7, 7, 7, 7, 7, 7, 7, 7, 7, 7, 7, 7, 7, 7, 7, 7, 7, 7, 7, 7, 7, 7, 7, 7, 7, 7, 7, 7, 7, 7, 7, 7, 7, 7, 7, 7, 7, 7, 7, 7, 7, 7, 7, 7, 7, 7, 7, 7, 7, 7, 7, 7, 7, 7, 7, 7, 7, 7, 8, 8, 8, 8, 8, 8, 8, 8, 8, 8, 8, 8, 8, 8, 8, 8, 8, 8, 8, 8, 8, 8, 8, 8, 8, 8, 8, 8, 8, 8, 8, 8, 8, 8, 8, 8, 8, 8, 8, 8, 8, 8, 8, 8, 8, 8, 8, 8, 8, 8, 8, 8, 8, 8, 8, 8, 8, 8, 8, 8, 8, 8, 8, 8, 8, 8, 8, 8, 8, 8, 8, 8, 8, 8, 8, 8, 8, 8, 8, 8, 8, 8, 8, 8, 8, 8, 8, 8, 8, 8, 8, 8, 8, 8, 8, 8, 8, 8, 8, 8, 8, 8, 8, 8, 8, 8, 8, 8, 8, 8, 8, 8, 8, 8, 8, 8, 8, 8, 8, 8, 8, 8, 8, 8, 8, 8, 8, 8]⟩ (wrapF .u8 (x'.fdiv (2 ^ 32))))) (idx_str (s := ⟨#[0, 1, 2, 2, 3, 3, 3, 3, 4, 4, 4, 4, 4, 4, 4, 4, 5, 5, 5, 5, 5, 5, 5, 5, 5, 5, 5, 5, 5, 5, 5, 5, 6, 6, 6, 6, 6, 6, 6, 6, 6, 6, 6, 6, 6, 6, 6, 6, 6, 6, 6, 6, 6, 6, 6, 6, 6, 6, 6, 6, 6, 6, 6, 6, 7, 7, 7, 7, 7, 7, 7, 7, 7, 7, 7, 7, 7, 7, 7, 7, 7, 7, 7, 7, 7, 7, 7, 7, 7, 7, 7, 7, 7, 7, 7, 7, 7, 7, 7, 7, 7, 7, 7, 7, 7, 7, 7, 7, 7, 7, 7, 7, 7, 7, 7, 7, 7, 7, 7, 7, 7, 7, 7, 7, 7, 7, 7, 7, 8, 8, 8, 8, 8, 8, 8, 8, 8, 8, 8, 8, 8, 8, 8, 8, 8, 8, 8, 8, 8, 8, 8, 8, 8, 8, 8, 8, 8, 8, 8, 8, 8, 8, 8, 8, 8, 8, 8, 8, 8, 8, 8, 8, 8, 8, 8, 8, 8, 8, 8, 8, 8, 8, 8, 8, 8, 8, 8, 8, 8, 8, 8, 8, 8, 8, 8, 8, 8, 8, 8, 8, 8, 8, 8, 8, 8, 8, 8, 8, 8, 8, 8, 8, 8, 8, 8, 8, 8, 8, 8, 8, 8, 8, 8, 8, 8, 8, 8, 8, 8, 8, 8, 8, 8, 8, 8, 8, 8, 8, 8, 8, 8, 8, 8, 8, 8, 8, 8, 8, 8, 8, 8, 8, 8, 8, 8, 8]⟩) (k := .u8) (i := (wrapF .u8 (x'.fdiv (2 ^ 32)))) (by kernel_rfl) (by kernel_rfl) (by kernel_rfl) hg8) <| .mu 3 <| .done <| .ret ?_
    obtain rfl := Option.some.inj hr
    exact FinQ.r1 [aI64 (wrapF .i64 (32 + (wrapF .i64 (strAt ⟨#[0, 1, 2, 2, 3, 3, 3, 3, 4, 4, 4, 4, 4, 4, 4, 4, 5, 5, 5, 5, 5, 5, 5, 5, 5, 5, 5, 5, 5, 5, 5, 5, 6, 6, 6, 6, 6, 6, 6, 6, 6, 6, 6, 6, 6, 6, 6, 6, 6, 6, 6, 6, 6, 6, 6, 6, 6, 6, 6, 6, 6, 6, 6, 6, 7, 7, 7, 7, 7, 7, 7, 7, 7, 7, 7, 7, 7, 7, 7, 7, 7, 7, 7, 7, 7, 7, 7, 7, 7, 7, 7, 7, 7, 7, 7, 7, 7, 7, 7, 7, 7, 7, 7, 7, 7, 7, 7, 7, 7, 7, 7, 7, 7, 7, 7, 7, 7, 7, 7, 7, 7, 7, 7, 7, 7, 7, 7, 7, 8, 8, 8, 8, 8, 8, 8, 8, 8, 8, 8, 8, 8, 8, 8, 8, 8, 8, 8, 8, 8, 8, 8, 8, 8, 8, 8, 8, 8, 8, 8, 8, 8, 8, 8, 8, 8, 8, 8, 8, 8, 8, 8, 8, 8, 8, 8, 8, 8, 8, 8, 8, 8, 8, 8, 8, 8, 8, 8, 8, 8, 8, 8, 8, 8, 8, 8, 8, 8, 8, 8, 8, 8, 8, 8, 8, 8, 8, 8, 8, 8, 8, 8, 8, 8, 8, 8, 8, 8, 8, 8, 8, 8, 8, 8, 8, 8, 8, 8, 8, 8, 8, 8, 8, 8, 8, 8, 8, 8, 8, 8, 8, 8, 8, 8, 8, 8, 8, 8, 8, 8, 8, 8, 8, 8, 8, 8, 8]⟩ (wrapF .u8 (x'.fdiv (2 ^ 32)))))))]
 ·refine .skip <| .seq <| .seq <| .r3 fine 25 [(0, aU64 x'), (2, aI64 0), (8, aB (decide (x' ≥ 65536)))] ?_
  refine .cd hr (fun hb9 hr => ?_) (fun hb9 hr => ?_)
  ·refine .seq <| .r3 fine 25 [(0, aU64 (x'.fdiv (2 ^ 16))), (2, aI64 0)] <| .r3 fine 25 [(0, aU64 (x'.fdiv (2 ^ 16))), (2, aI64 16)] <| .seq <| .seq <| .r3 fine 25 [(0, aU64 (x'.fdiv (2 ^ 16))), (2, aI64 16), (14, aB (decide ((x'.fdiv (2 ^ 16)) ≥ 256)))] ?_
   refine .cd hr (fun hb10 hr => ?_) (fun hb10 hr => ?_)
   ·refine .seq <| .r3 fine 25 [(0, aU64 ((x'.fdiv (2 ^ 16)).fdiv (2 ^ 8))), (2, aI64 16)] <| .r3 fine 25 [(0, aU64 ((x'.fdiv (2 ^ 16)).fdiv (2 ^ 8))), (2, aI64 24)] <| .seq ?_
    obtain ⟨hg11, hr⟩ := gd hr
    refine .r0 fine <| .mu 3 <| .p0 (v := aU8 (strAt ⟨#[0, 1, 2, 2, 3, 3, 3, 3, 4, 4, 4, 4, 4, 4, 4, 4, 5, 5, 5, 5, 5, 5, 5, 5, 5, 5, 5, 5, 5, 5, 5, 5, 6, 6, 6, 6, 6, 6, 6, 6, 6, 6, 6, 6, 6, 6, 6, 6, 6, 6, 6, 6, 6, 6, 6, 6, 6, 6, 6, 6, 6, 6, 6, 6, 7, 7, 7, 7, 7, 7, 7, 7, 7, 7, 7, 7, 7, 7, 7, 7, 7, 7, 7, 7, 7, 7, 7, 7, 7, 7, 7, 7, 7, 7, 7, 7, 7, 7, 7, 7, 7, 7, 7, 7, 7, 7, 7, 7, 7, 7, 7, 7, 7, 7, 7, 7, 7, 7, 7, 7, 7, 7, 7, 7, 7, 7, 7, 7, 8, 8, 8, 8, 8, 8, 8, 8, 8, 8, 8, 8, 8, 8, 8, 8, 8, 8, 8, 8, 8, 8, 8, 8, 8, 8, 8, 8, 8, 8, 8, 8, 8, 8, 8, 8, 8, 8, 8, 8, 8, 8, 8, 8, 8, 8, 8, 8, 8, 8, 8, 8, 8, 8, 8, 8, 8, 8, 8, 8, 8, 8, 8, 8, 8, 8, 8, 8, 8, 8, 8, 8, 8, 8, 8, 8, 8, 8, 8, 8, 8, 8, 8, 8, 8, 8, 8, 8, 8, 8, 8, 8, 8, 8, 8, 8, 8, 8, 8, 8, 8, 8, 8, 8, 8, 8, 8, 8, 8, 8, 8, 8, 8, 8, 8, 8, 8, 8, 8, 8, 8, 8, 8, 8, 8, 8, 8, 8]⟩ (wrapF .u8 ((x'.fdiv (2 ^ 16)).fdiv (2 ^ 8))))) (idx_str (s := ⟨#[0, 1, 2, 2, 3, 3, 3, 3, 4, 4, 4, 4, 4, 4, 4, 4, 5, 5, 5, 5, 5, 5, 5, 5, 5, 5, 5, 5, 5, 5, 5, 5, 6, 6, 6, 6, 6, 6, 6, 6, 6, 6, 6, 6, 6, 6, 6, 6, 6, 6, 6, 6, 6, 6, 6, 6, 6, 6, 6, 6, 6, 6, 6, 6, 7, 7, 7, 7, 7, 7, 7, 7, 7, 7, 7, 7, 7, 7, 7, 7, 7, 7, 7, 7, 7, 7, 7, 7, 7, 7, 7, 7, 7, 7, 7, 7, 7, 7, 7, 7, 7, 7, 7, 7, 7, 7, 7, 7, 7, 7, 7, 7, 7, 7, 7, 7, 7, 7, 7, 7, 7, 7, 7, 7, 7, 7, 7, 7, 8, 8, 8, 8, 8, 8, 8, 8, 8, 8, 8, 8, 8, 8, 8, 8, 8, 8, 8, 8, 8, 8, 8, 8, 8, 8, 8, 8, 8, 8, 8, 8, 8, 8, 8, 8, 8, 8, 8, 8, 8, 8, 8, 8, 8, 8, 8, 8, 8, 8, 8, 8, 8, 8, 8, 8, 8, 8, 8, 8, 8, 8, 8, 8, 8, 8, 8, 8, 8, 8, 8, 8, 8, 8, 8, 8, 8, 8, 8, 8, 8, 8, 8, 8, 8, 8, 8, 8, 8, 8, 8, 8, 8, 8, 8, 8, 8, 8, 8, 8, 8, 8, 8, 8, 8, 8, 8, 8, 8, 8, 8, 8, 8, 8, 8, 8, 8, 8, 8, 8, 8, 8, 8, 8, 8, 8, 8, 8]⟩) (k := .u8) (i := (wrapF .u8 ((x'.fdiv (2 ^ 16)).fdiv (2 ^ 8)))) (by kernel_rfl) (by kernel_rfl) (by kernel_rfl) hg11) <| .mu 3 <| .done <| .ret ?_
    obtain rfl := Option.some.inj hr
    exact FinQ.r1 [aI64 (wrapF .i64 (24 + (wrapF .i64 (strAt ⟨#[0, 1, 2, 2, 3, 3, 3, 3, 4, 4, 4, 4, 4, 4, 4, 4, 5, 5, 5, 5, 5, 5, 5, 5, 5, 5, 5, 5, 5, 5, 5, 5, 6, 6, 6, 6, 6, 6, 6, 6, 6, 6, 6, 6, 6, 6, 6, 6, 6, 6, 6, 6, 6, 6, 6, 6, 6, 6, 6, 6, 6, 6, 6, 6, 7, 7, 7, 7, 7, 7, 7, 7, 7, 7, 7, 7, 7, 7, 7, 7, 7, 7, 7, 7, 7, 7, 7, 7, 7, 7, 7, 7, 7, 7, 7, 7, 7, 7, 7, 7, 7, 7, 7, 7, 7, 7, 7, 7, 7, 7, 7, 7, 7, 7, 7, 7, 7, 7, 7, 7, 7, 7, 7, 7, 7, 7, 7, 7, 8, 8, 8, 8, 8, 8, 8, 8, 8, 8, 8, 8, 8, 8, 8, 8, 8, 8, 8, 8, 8, 8, 8, 8, 8, 8, 8, 8, 8, 8, 8, 8, 8, 8, 8, 8, 8, 8, 8, 8, 8, 8, 8, 8, 8, 8, 8, 8, 8, 8, 8, 8, 8, 8, 8, 8, 8, 8, 8, 8, 8, 8, 8, 8, 8, 8, 8, 8, 8, 8, 8, 8, 8, 8, 8, 8, 8, 8, 8, 8, 8, 8, 8, 8, 8, 8, 8, 8, 8, 8, 8, 8, 8, 8, 8, 8, 8, 8, 8, 8, 8, 8, 8, 8, 8, 8, 8, 8, 8, 8, 8, 8, 8, 8, 8, 8, 8, 8, 8, 8, 8, 8, 8, 8, 8, 8, 8, 8]⟩ (wrapF .u8 ((x'.fdiv (2 ^ 16)).fdiv (2 ^ 8)))))))]
   ·refine .skip <| .seq ?_
    obtain ⟨hg12, hr⟩ := gd hr
    refine .r0 fine <| .mu 3 <| .p0 (v := aU8 (strAt ⟨#[0, 1, 2, 2, 3, 3, 3, 3, 4, 4, 4, 4, 4, 4, 4, 4, 5, 5, 5, 5, 5, 5, 5, 5, 5, 5, 5, 5, 5, 5, 5, 5, 6, 6, 6, 6, 6, 6, 6, 6, 6, 6, 6, 6, 6, 6, 6, 6, 6, 6, 6, 6, 6, 6, 6, 6, 6, 6, 6, 6, 6, 6, 6, 6, 7, 7, 7, 7, 7, 7, 7, 7, 7, 7, 7, 7, 7, 7, 7, 7, 7, 7, 7, 7, 7, 7, 7, 7, 7, 7, 7, 7, 7, 7, 7, 7, 7, 7, 7, 7, 7, 7, 7, 7, 7, 7, 7, 7, 7, 7, 7, 7, 7, 7, 7, 7, 7, 7, 7, 7, 7, 7, 7, 7, 7, 7, 7, 7, 8, 8, 8, 8, 8, 8, 8, 8, 8, 8, 8, 8, 8, 8, 8, 8, 8, 8, 8, 8, 8, 8, 8, 8, 8, 8, 8, 8, 8, 8, 8, 8, 8, 8, 8, 8, 8, 8, 8, 8, 8, 8, 8, 8, 8, 8, 8, 8, 8, 8, 8, 8, 8, 8, 8, 8, 8, 8, 8, 8, 8, 8, 8, 8, 8, 8, 8, 8, 8, 8, 8, 8, 8, 8, 8, 8, 8, 8, 8, 8, 8, 8, 8, 8, 8, 8, 8, 8, 8, 8, 8, 8, 8, 8, 8, 8, 8, 8, 8, 8, 8, 8, 8, 8, 8, 8, 8, 8, 8, 8, 8, 8, 8, 8, 8, 8, 8, 8, 8, 8, 8, 8, 8, 8, 8, 8, 8, 8]⟩ (wrapF .u8 (x'.fdiv (2 ^ 16))))) (idx_str (s := ⟨#[0, 1, 2, 2, 3, 3, 3, 3, 4, 4, 4, 4, 4, 4, 4, 4, 5, 5, 5, 5, 5, 5, 5, 5, 5, 5, 5, 5, 5, 5, 5, 5, 6, 6, 6, 6, 6, 6, 6, 6, 6, 6, 6, 6, 6, 6, 6, 6, 6, 6, 6, 6, 6, 6, 6, 6, 6, 6, 6, 6, 6, 6, 6, 6, 7, 7, 7, 7, 7, 7, 7, 7, 7, 7, 7, 7, 7, 7, 7, 7, 7, 7, 7, 7, 7, 7, 7, 7, 7, 7, 7, 7, 7, 7, 7, 7, 7, 7, 7, 7, 7, 7, 7, 7, 7, 7, 7, 7, 7, 7, 7, 7, 7, 7, 7, 7, 7, 7, 7, 7, 7, 7, 7, 7, 7, 7, 7, 7, 8, 8, 8, 8, 8, 8, 8, 8, 8, 8, 8, 8, 8, 8, 8, 8, 8, 8, 8, 8, 8, 8, 8, 8, 8, 8, 8, 8, 8, 8, 8, 8, 8, 8, 8, 8, 8, 8, 8, 8, 8, 8, 8, 8, 8, 8, 8, 8, 8, 8, 8, 8, 8, 8, 8, 8, 8, 8, 8, 8, 8, 8, 8, 8, 8, 8, 8, 8, 8, 8, 8, 8, 8, 8, 8, 8, 8, 8, 8, 8, 8, 8, 8, 8, 8, 8, 8, 8, 8, 8, 8, 8, 8, 8, 8, 8, 8, 8, 8, 8, 8, 8, 8, 8, 8, 8, 8, 8, 8, 8, 8, 8, 8, 8, 8, 8, 8, 8, 8, 8, 8, 8, 8, 8, 8, 8, 8, 8]⟩) (k := .u8) (i := (wrapF .u8 (x'.fdiv (2 ^ 16)))) (by kernel_rfl) (by kernel_rfl) (by kernel_rfl) hg12) <| .mu 3 <| .done <| .ret ?_
    obtain rfl := Option.some.inj hr
    exact FinQ.r1 [aI64 (wrapF .i64 (16 + (wrapF .i64 (strAt ⟨#[0, 1, 2, 2, 3, 3, 3, 3, 4, 4, 4, 4, 4, 4, 4, 4, 5, 5, 5, 5, 5, 5, 5, 5, 5, 5, 5, 5, 5, 5, 5, 5, 6, 6, 6, 6, 6, 6, 6, 6, 6, 6, 6, 6, 6, 6, 6, 6, 6, 6, 6, 6, 6, 6, 6, 6, 6, 6, 6, 6, 6, 6, 6, 6, 7, 7, 7, 7, 7, 7, 7, 7, 7, 7, 7, 7, 7, 7, 7, 7, 7, 7, 7, 7, 7, 7, 7, 7, 7, 7, 7, 7, 7, 7, 7, 7, 7, 7, 7, 7, 7, 7, 7, 7, 7, 7, 7, 7, 7, 7, 7, 7, 7, 7, 7, 7, 7, 7, 7, 7, 7, 7, 7, 7, 7, 7, 7, 7, 8, 8, 8, 8, 8, 8, 8, 8, 8, 8, 8, 8, 8, 8, 8, 8, 8, 8, 8, 8, 8, 8, 8, 8, 8, 8, 8, 8, 8, 8, 8, 8, 8, 8, 8, 8, 8, 8, 8, 8, 8, 8, 8, 8, 8, 8, 8, 8, 8, 8, 8, 8, 8, 8, 8, 8, 8, 8, 8, 8, 8, 8, 8, 8, 8, 8, 8, 8, 8, 8, 8, 8, 8, 8, 8, 8, 8, 8, 8, 8, 8, 8, 8, 8, 8, 8, 8, 8, 8, 8, 8, 8, 8, 8, 8, 8, 8, 8, 8, 8, 8, 8, 8, 8, 8, 8, 8, 8, 8, 8, 8, 8, 8, 8, 8, 8, 8, 8, 8, 8, 8, 8, 8, 8, 8, 8, 8, 8]⟩ (wrapF .u8 (x'.fdiv (2 ^ 16)))))))]
  ·refine .skip <| .seq <| .seq <| .r3 fine 25 [(0, aU64 x'), (2, aI64 0), (14, aB (decide (x' ≥ 256)))] ?_
   refine .cd hr (fun hb13 hr => ?_) (fun hb13 hr => ?_)
   ·refine .seq <| .r3 fine 25 [(0, aU64 (x'.fdiv (2 ^ 8))), (2, aI64 0)] <| .r3 fine 25 [(0, aU64 (x'.fdiv (2 ^ 8))), (2, aI64 8)] <| .seq ?_
    obtain ⟨hg14, hr⟩ := gd hr
    refine .r0 fine <| .mu 3 <| .p0 (v := aU8 (strAt ⟨#[0, 1, 2, 2, 3, 3, 3, 3, 4, 4, 4, 4, 4, 4, 4, 4, 5, 5, 5, 5, 5, 5, 5, 5, 5, 5, 5, 5, 5, 5, 5, 5, 6, 6, 6, 6, 6, 6, 6, 6, 6, 6, 6, 6, 6, 6, 6, 6, 6, 6, 6, 6, 6, 6, 6, 6, 6, 6, 6, 6, 6, 6, 6, 6, 7, 7, 7, 7, 7, 7, 7, 7, 7, 7, 7, 7, 7, 7, 7, 7, 7, 7, 7, 7, 7, 7, 7, 7, 7, 7, 7, 7, 7, 7, 7, 7, 7, 7, 7, 7, 7, 7, 7, 7, 7, 7, 7, 7, 7, 7, 7, 7, 7, 7, 7, 7, 7, 7, 7, 7, 7, 7, 7, 7, 7, 7, 7, 7, 8, 8, 8, 8, 8, 8, 8, 8, 8, 8, 8, 8, 8, 8, 8, 8, 8, 8, 8, 8, 8, 8, 8, 8, 8, 8, 8, 8, 8, 8, 8, 8, 8, 8, 8, 8, 8, 8, 8, 8, 8, 8, 8, 8, 8, 8, 8, 8, 8, 8, 8, 8, 8, 8, 8, 8, 8, 8, 8, 8, 8, 8, 8, 8, 8, 8, 8, 8, 8, 8, 8, 8, 8, 8, 8, 8, 8, 8, 8, 8, 8, 8, 8, 8, 8, 8, 8, 8, 8, 8, 8, 8, 8, 8, 8, 8, 8, 8, 8, 8, 8, 8, 8, 8, 8, 8, 8, 8, 8, 8, 8, 8, 8, 8, 8, 8, 8, 8, 8, 8, 8, 8, 8, 8, 8, 8, 8, 8]⟩ (wrapF .u8 (x'.fdiv (2 ^ 8))))) (idx_str (s := ⟨#[0, 1, 2, 2, 3, 3, 3, 3, 4, 4, 4, 4, 4, 4, 4, 4, 5, 5, 5, 5, 5, 5, 5, 5, 5, 5, 5, 5, 5, 5, 5, 5, 6, 6, 6, 6, 6, 6, 6, 6, 6, 6, 6, 6, 6, 6, 6, 6, 6, 6, 6, 6, 6, 6, 6, 6, 6, 6, 6, 6, 6, 6, 6, 6, 7, 7, 7, 7, 7, 7, 7, 7, 7, 7, 7, 7, 7, 7, 7, 7, 7, 7, 7, 7, 7, 7, 7, 7, 7, 7, 7, 7, 7, 7, 7, 7, 7, 7, 7, 7, 7, 7, 7, 7, 7, 7, 7, 7, 7, 7, 7, 7, 7, 7, 7, 7, 7, 7, 7, 7, 7, 7, 7, 7, 7, 7, 7, 7, 8, 8, 8, 8, 8, 8, 8, 8, 8, 8, 8, 8, 8, 8, 8, 8, 8, 8, 8, 8, 8, 8, 8, 8, 8, 8, 8, 8, 8, 8, 8, 8, 8, 8, 8, 8, 8, 8, 8, 8, 8, 8, 8, 8, 8, 8, 8, 8, 8, 8, 8, 8, 8, 8, 8, 8, 8, 8, 8, 8, 8, 8, 8, 8, 8, 8, 8, 8, 8, 8, 8, 8, 8, 8, 8, 8, 8, 8, 8, 8, 8, 8, 8, 8, 8, 8, 8, 8, 8, 8, 8, 8, 8, 8, 8, 8, 8, 8, 8, 8, 8, 8, 8, 8, 8, 8, 8, 8, 8, 8, 8, 8, 8, 8, 8, 8, 8, 8, 8, 8, 8, 8, 8, 8, 8, 8, 8, 8]⟩) (k := .u8) (i := (wrapF .u8 (x'.fdiv (2 ^ 8)))) (by kernel_rfl) (by kernel_rfl) (by kernel_rfl) hg14) <| .mu 3 <| .done <| .ret ?_
    obtain rfl := Option.some.inj hr
    exact FinQ.r1 [aI64 (wrapF .i64 (8 + (wrapF .i64 (strAt ⟨#[0, 1, 2, 2, 3, 3, 3, 3, 4, 4, 4, 4, 4, 4, 4, 4, 5, 5, 5, 5, 5, 5, 5, 5, 5, 5, 5, 5, 5, 5, 5, 5, 6, 6, 6, 6, 6, 6, 6, 6, 6, 6, 6, 6, 6, 6, 6, 6, 6, 6, 6, 6, 6, 6, 6, 6, 6, 6, 6, 6, 6, 6, 6, 6, 7, 7, 7, 7, 7, 7, 7, 7, 7, 7, 7, 7, 7, 7, 7, 7, 7, 7, 7, 7, 7, 7, 7, 7, 7, 7, 7, 7, 7, 7, 7, 7, 7, 7, 7, 7, 7, 7, 7, 7, 7, 7, 7, 7, 7, 7, 7, 7, 7, 7, 7, 7, 7, 7, 7, 7, 7, 7, 7, 7, 7, 7, 7, 7, 8, 8, 8, 8, 8, 8, 8, 8, 8, 8, 8, 8, 8, 8, 8, 8, 8, 8, 8, 8, 8, 8, 8, 8, 8, 8, 8, 8, 8, 8, 8, 8, 8, 8, 8, 8, 8, 8, 8, 8, 8, 8, 8, 8, 8, 8, 8, 8, 8, 8, 8, 8, 8, 8, 8, 8, 8, 8, 8, 8, 8, 8, 8, 8, 8, 8, 8, 8, 8, 8, 8, 8, 8, 8, 8, 8, 8, 8, 8, 8, 8, 8, 8, 8, 8, 8, 8, 8, 8, 8, 8, 8, 8, 8, 8, 8, 8, 8, 8, 8, 8, 8, 8, 8, 8, 8, 8, 8, 8, 8, 8, 8, 8, 8, 8, 8, 8, 8, 8, 8, 8, 8, 8, 8, 8, 8, 8, 8]⟩ (wrapF .u8 (x'.fdiv (2 ^ 8)))))))]
   ·refine .skip <| .seq ?_
    obtain ⟨hg15, hr⟩ := gd hr
    refine .r0 fine <| .mu 3 <| .p0 (v := aU8 (strAt ⟨#[0, 1, 2, 2, 3, 3, 3, 3, 4, 4, 4, 4, 4, 4, 4, 4, 5, 5, 5, 5, 5, 5, 5, 5, 5, 5, 5, 5, 5, 5, 5, 5, 6, 6, 6, 6, 6, 6, 6, 6, 6, 6, 6, 6, 6, 6, 6, 6, 6, 6, 6, 6, 6, 6, 6, 6, 6, 6, 6, 6, 6, 6, 6, 6, 7, 7, 7, 7, 7, 7, 7, 7, 7, 7, 7, 7, 7, 7, 7, 7, 7, 7, 7, 7, 7, 7, 7, 7, 7, 7, 7, 7, 7, 7, 7, 7, 7, 7, 7, 7, 7, 7, 7, 7, 7, 7, 7, 7, 7, 7, 7, 7, 7, 7, 7, 7, 7, 7, 7, 7, 7, 7, 7, 7, 7, 7, 7, 7, 8, 8, 8, 8, 8, 8, 8, 8, 8, 8, 8, 8, 8, 8, 8, 8, 8, 8, 8, 8, 8, 8, 8, 8, 8, 8, 8, 8, 8, 8, 8, 8, 8, 8, 8, 8, 8, 8, 8, 8, 8, 8, 8, 8, 8, 8, 8, 8, 8, 8, 8, 8, 8, 8, 8, 8, 8, 8, 8, 8, 8, 8, 8, 8, 8, 8, 8, 8, 8, 8, 8, 8, 8, 8, 8, 8, 8, 8, 8, 8, 8, 8, 8, 8, 8, 8, 8, 8, 8, 8, 8, 8, 8, 8, 8, 8, 8, 8, 8, 8, 8, 8, 8, 8, 8, 8, 8, 8, 8, 8, 8, 8, 8, 8, 8, 8, 8, 8, 8, 8, 8, 8, 8, 8, 8, 8, 8, 8]⟩ (wrapF .u8 x'))) (idx_str (s := ⟨#[0, 1, 2, 2, 3, 3, 3, 3, 4, 4, 4, 4, 4, 4, 4, 4, 5, 5, 5, 5, 5, 5, 5, 5, 5, 5, 5, 5, 5, 5, 5, 5, 6, 6, 6, 6, 6, 6, 6, 6, 6, 6, 6, 6, 6, 6, 6, 6, 6, 6, 6, 6, 6, 6, 6, 6, 6, 6, 6, 6, 6, 6, 6, 6, 7, 7, 7, 7, 7, 7, 7, 7, 7, 7, 7, 7, 7, 7, 7, 7, 7, 7, 7, 7, 7, 7, 7, 7, 7, 7, 7, 7, 7, 7, 7, 7, 7, 7, 7, 7, 7, 7, 7, 7, 7, 7, 7, 7, 7, 7, 7, 7, 7, 7, 7, 7, 7, 7, 7, 7, 7, 7, 7, 7, 7, 7, 7, 7, 8, 8, 8, 8, 8, 8, 8, 8, 8, 8, 8, 8, 8, 8, 8, 8, 8, 8, 8, 8, 8, 8, 8, 8, 8, 8, 8, 8, 8, 8, 8, 8, 8, 8, 8, 8, 8, 8, 8, 8, 8, 8, 8, 8, 8, 8, 8, 8, 8, 8, 8, 8, 8, 8, 8, 8, 8, 8, 8, 8, 8, 8, 8, 8, 8, 8, 8, 8, 8, 8, 8, 8, 8, 8, 8, 8, 8, 8, 8, 8, 8, 8, 8, 8, 8, 8, 8, 8, 8, 8, 8, 8, 8, 8, 8, 8, 8, 8, 8, 8, 8, 8, 8, 8, 8, 8, 8, 8, 8, 8, 8, 8, 8, 8, 8, 8, 8, 8, 8, 8, 8, 8, 8, 8, 8, 8, 8, 8]⟩) (k := .u8) (i := (wrapF .u8 x')) (by kernel_rfl) (by kernel_rfl) (by kernel_rfl) hg15) <| .mu 3 <| .done <| .ret ?_
    obtain rfl := Option.some.inj hr
    exact FinQ.r1 [aI64 (wrapF .i64 (0 + (wrapF .i64 (strAt ⟨#[0, 1, 2, 2, 3, 3, 3, 3, 4, 4, 4, 4, 4, 4, 4, 4, 5, 5, 5, 5, 5, 5, 5, 5, 5, 5, 5, 5, 5, 5, 5, 5, 6, 6, 6, 6, 6, 6, 6, 6, 6, 6, 6, 6, 6, 6, 6, 6, 6, 6, 6, 6, 6, 6, 6, 6, 6, 6, 6, 6, 6, 6, 6, 6, 7, 7, 7, 7, 7, 7, 7, 7, 7, 7, 7, 7, 7, 7, 7, 7, 7, 7, 7, 7, 7, 7, 7, 7, 7, 7, 7, 7, 7, 7, 7, 7, 7, 7, 7, 7, 7, 7, 7, 7, 7, 7, 7, 7, 7, 7, 7, 7, 7, 7, 7, 7, 7, 7, 7, 7, 7, 7, 7, 7, 7, 7, 7, 7, 8, 8, 8, 8, 8, 8, 8, 8, 8, 8, 8, 8, 8, 8, 8, 8, 8, 8, 8, 8, 8, 8, 8, 8, 8, 8, 8, 8, 8, 8, 8, 8, 8, 8, 8, 8, 8, 8, 8, 8, 8, 8, 8, 8, 8, 8, 8, 8, 8, 8, 8, 8, 8, 8, 8, 8, 8, 8, 8, 8, 8, 8, 8, 8, 8, 8, 8, 8, 8, 8, 8, 8, 8, 8, 8, 8, 8, 8, 8, 8, 8, 8, 8, 8, 8, 8, 8, 8, 8, 8, 8, 8, 8, 8, 8, 8, 8, 8, 8, 8, 8, 8, 8, 8, 8, 8, 8, 8, 8, 8, 8, 8, 8, 8, 8, 8, 8, 8, 8, 8, 8, 8, 8, 8, 8, 8, 8, 8]⟩ (wrapF .u8 x')))))]

theorem math_bits_Len_ok (n : Nat) (x' : Int) (r : Int) (hr : math_bits_Len n x' = some r) : FnOk Tryz.prog 119 [aU64 x'] (aI64 r) := by
 unfold math_bits_Len at hr
 refine FnOk.bd fine Tryz.func119 [.tmp 2] ?_
 unfold Tryz.f119
 simp only [Option.getD_some]
 refine .seq <| .r3 fine 8 [(0, aU64 x')] <| .seq <| .cF (by kernel_rfl) <| .skip <| .seq ?_
 obtain ⟨v1, hc2, hr⟩ := bd hr
 refine .g1 fine (ok0 (math_bits_Len64_ok n x' v1 hc2)) <| .mu 1 <| .ca cf0 <| .mu 1 <| .done <| .ret ?_
 obtain rfl := Option.some.inj hr
 exact FinQ.r1 [aI64 v1]

theorem cmp_Less_int_ok (n : Nat) (x' : Int) (y : Int) (r : Bool) (hr : cmp_Less_int n x' y = some r) : FnOk Tryz.prog 155 [aI64 x', aI64 y] (aB r) := by
 unfold cmp_Less_int at hr
 refine FnOk.bd fine Tryz.func155 [.tmp 4] ?_
 unfold Tryz.f155
 simp only [Option.getD_some]
 refine .seq <| .r3 fine 17 [(0, aI64 x'), (1, aI64 y)] <| .seq ?_
 obtain ⟨v1, hc2, hr⟩ := bd hr
 rcases Bool.eq_false_or_eq_true v1 with hb3 | hb3
 ·subst hb3
  replace hr := cd_t rfl hr
  obtain ⟨v4, hc5, hr⟩ := bd hr
  rcases Bool.eq_false_or_eq_true (!v4) with hb6 | hb6
  ·replace hr := cd_t hb6 hr
   refine .gn fine (ca1 (ok0 (cmp_isNaN_int_ok n x' true hc2)) (ca3 (ok0 (cmp_isNaN_int_ok n y v4 hc5)))) <| .mu 1 <| .ca cf0 <| .mu 2 <| .ca (cfA (fun h => by rw [sv hc5 hc2 (cmp_isNaN_int_cg n h)]) cf0) <| .pure (v := aB true) (by kernel_rfl) (Eq.trans (b := some (.pure (aB (!v4)))) (by kernel_rfl) (by rw [hb6])) <| .mu 7 <| .done <| .ret ?_
   obtain rfl := Option.some.inj hr
   exact FinQ.r1 [aB true]
  ·replace hr := cd_f hb6 hr
   refine .gn fine (ca1 (ok0 (cmp_isNaN_int_ok n x' true hc2)) (ca3 (ok0 (cmp_isNaN_int_ok n y v4 hc5)))) <| .mu 1 <| .ca cf0 <| .mu 2 <| .ca (cfA (fun h => by rw [sv hc5 hc2 (cmp_isNaN_int_cg n h)]) cf0) <| .pure (v := aB false) (by kernel_rfl) (Eq.trans (b := some (.pure (aB (!v4)))) (by kernel_rfl) (by rw [hb6])) <| .mu 7 <| .done <| .ret ?_
   obtain rfl := Option.some.inj hr
   exact FinQ.r1 [aB (decide (x' < y))]
 ·subst hb3
  replace hr := cd_f rfl hr
  refine .g1 fine (ok0 (cmp_isNaN_int_ok n x' false hc2)) <| .mu 1 <| .ca cf0 <| .mu 11 <| .done <| .ret ?_
  obtain rfl := Option.some.inj hr
  exact FinQ.r1 [aB (decide (x' < y))]

theorem slices_Sort_int_int_w_ok (n : Nat) (x' : List Int) (r : List Int) (hr : slices_Sort_int_int_w n x' = some r) : FnMut 1 Tryz.prog 70 [.hs 0 0 x'.length 1] [.own (x'.flatMap (iC .i64))] (.tup []) [.own (r.flatMap (iC .i64))] := by
 unfold slices_Sort_int_int_w at hr
 obtain ⟨h1, hr⟩ := gd hr
 obtain rfl := Option.some.inj hr
 exact Go.Proofs.YtlajgmapmocpbabGreat.sort_fn h1

theorem change_Regions_ok (n : Nat) (a : api_Banded) (b : api_Banded) (r : List api_Region × Int) (hr : change_Regions n a b = some r) : FnOk Tryz.prog 30 [.agg (api_Banded.c a), .agg (api_Banded.c b)] (.tup [slT api_Region.c r.1, aI64 r.2]) := by
 unfold change_Regions at hr
 refine FnOk.bd fine Tryz.func30 [.tmp 4, .tmp 5] ?_
 unfold Tryz.f30
 simp only [Option.getD_some]
 refine .seq <| .r2 fine 160 [(2, .hp 0 0), (3, .hp 1 0)] [.own (api_Banded.c a), .own (api_Banded.c b)] <| .seq <| .seq ?_
 obtain ⟨v1, hc2, hr⟩ := bd hr
 refine .gn fine (ca4 [.own (api_Banded.c a), .own (api_Banded.c b), .own [aI64 a.Grid.X0, aI64 a.Grid.Y0, aI64 a.Grid.Step, aI64 a.Grid.Width, aI64 a.Grid.Height, sI64 a.Grid.Z, sI64 a.Err, aI64 b.Grid.X0, aI64 b.Grid.Y0, aI64 b.Grid.Step, aI64 b.Grid.Width, aI64 b.Grid.Height, sI64 b.Grid.Z, sI64 b.Err]] (callOk_val (args := [.hs 2 0 2 7]) (l := [2]) rfl (SnL.cons (Sn.hs rfl (.inl rfl) (SnC.cons (Sn.pure rfl) (SnC.cons (Sn.pure rfl) (SnC.cons (Sn.pure rfl) (SnC.cons (Sn.pure rfl) (SnC.cons (Sn.pure rfl) (SnC.cons (Sn.pure rfl) (SnC.cons (Sn.pure rfl) (SnC.cons (Sn.pure rfl) (SnC.cons (Sn.pure rfl) (SnC.cons (Sn.pure rfl) (SnC.cons (Sn.pure rfl) (SnC.cons (Sn.pure rfl) (SnC.cons (Sn.pure rfl) (SnC.cons (Sn.pure rfl) SnC.nil)))))))))))))) (fun h => nomatch h)) SnL.nil) (change_fit_ok n [a, b] v1 hc2))) <| .mu 3 <| .ca cf0 <| .mu 1 <| .done <| .n2 160 [(2, .hp 0 0), (3, .hp 1 0), (6, aI64 v1)] [.own (api_Banded.c a), .own (api_Banded.c b), .own [aI64 a.Grid.X0, aI64 a.Grid.Y0, aI64 a.Grid.Step, aI64 a.Grid.Width, aI64 a.Grid.Height, sI64 a.Grid.Z, sI64 a.Err, aI64 b.Grid.X0, aI64 b.Grid.Y0, aI64 b.Grid.Step, aI64 b.Grid.Width, aI64 b.Grid.Height, sI64 b.Grid.Z, sI64 b.Err]] <| .seq <| .r3 fine 160 [(2, .hp 0 0), (3, .hp 1 0), (6, aI64 v1), (27, aB ((v1 : Int) != 0))] ?_
 refine .cd hr (fun hb4 hr => ?_) (fun hb4 hr => ?_)
 ·refine .seq <| .r3 fine 160 [(4, nS), (5, aI64 v1)] <| .ret ?_
  obtain rfl := Option.some.inj hr
  exact FinQ.ret (vs := [nS, aI64 v1]) (by kernel_rfl) (Sn.tup (SnL.cons Sn.nilsl (SnL.cons (Sn.pure rfl) SnL.nil)))
 ·refine .skip <| .seq ?_
  obtain ⟨v5, hc6, hr⟩ := bd hr
  refine .g1 fine (ok0 (change_verdicts_ok n a b v5 hc6)) <| .mu 2 <| .ca cf0 <| .mu 1 <| .done <| .n2 160 [(2, .hp 0 0), (7, sI64 v5)] [.own (api_Banded.c a), .own (api_Banded.c b), .own [aI64 a.Grid.X0, aI64 a.Grid.Y0, aI64 a.Grid.Step, aI64 a.Grid.Width, aI64 a.Grid.Height, sI64 a.Grid.Z, sI64 a.Err, aI64 b.Grid.X0, aI64 b.Grid.Y0, aI64 b.Grid.Step, aI64 b.Grid.Width, aI64 b.Grid.Height, sI64 b.Grid.Z, sI64 b.Err]] <| .seq <| .regionT fine callOf_nil <| .mu 8 ?_
  refine .done ⟨by kernel_rfl, ?_⟩
  refine .n2 160 [(7, sI64 v5), (8, aI64 a.Grid.Width), (9, aI64 a.Grid.Height)] [.own (api_Banded.c a), .own (api_Banded.c b), .own [aI64 a.Grid.X0, aI64 a.Grid.Y0, aI64 a.Grid.Step, aI64 a.Grid.Width, aI64 a.Grid.Height, sI64 a.Grid.Z, sI64 a.Err, aI64 b.Grid.X0, aI64 b.Grid.Y0, aI64 b.Grid.Step, aI64 b.Grid.Width, aI64 b.Grid.Height, sI64 b.Grid.Z, sI64 b.Err]] <| .seq ?_
  obtain ⟨hg7, hg8, hg9, hr⟩ := gd3 hr
  refine .r0 fine <| .mu 2 <| .e0 (v := .hs 3 0 (List.replicate (v5.length : Int).toNat false).length 1) (ws := [(3, .own ((List.replicate (v5.length : Int).toNat false).flatMap bC))]) (Eq.trans (b := guardO (decide (0 ≤ (v5.length : Int)) && decide ((v5.length : Int) ≤ (v5.length : Int)) && decide ((1 : Int) * (v5.length : Int) ≤ 281474976710656) && decide ((v5.length : Int) ≤ 9223372036854775807) && true && true && true) (some (.eff (.hs 3 0 (v5.length : Int).toNat 1) [(3, .own (zerosA [aB false] (v5.length : Int).toNat))]))) (by kernel_rfl) (make_own (c := bC) (z := false) (n := (v5.length : Int)) (by_ := 1) rfl hg7 hg8 hg9)) <| .mu 1 <| .done <| .n2 160 [(7, sI64 v5), (8, aI64 a.Grid.Width), (9, aI64 a.Grid.Height), (10, .hs 3 0 (List.replicate (v5.length : Int).toNat false).length 1)] [.own (api_Banded.c a), .own (api_Banded.c b), .own [aI64 a.Grid.X0, aI64 a.Grid.Y0, aI64 a.Grid.Step, aI64 a.Grid.Width, aI64 a.Grid.Height, sI64 a.Grid.Z, sI64 a.Err, aI64 b.Grid.X0, aI64 b.Grid.Y0, aI64 b.Grid.Step, aI64 b.Grid.Width, aI64 b.Grid.Height, sI64 b.Grid.Z, sI64 b.Err], .own ((List.replicate (v5.length : Int).toNat false).flatMap bC)] <| .seq <| .r3 fine 160 [(7, sI64 v5), (8, aI64 a.Grid.Width), (9, aI64 a.Grid.Height), (10, .hs 3 0 (List.replicate (v5.length : Int).toNat false).length 1), (11, nS)] <| .seq <| .seq <| .r3 fine 160 [(7, sI64 v5), (8, aI64 a.Grid.Width), (9, aI64 a.Grid.Height), (10, .hs 3 0 (List.replicate (v5.length : Int).toNat false).length 1), (11, nS), (41, sI64 v5), (42, aI64 (v5.length : Int)), (43, aI64 0)] <| .block ?_
  replace hr := bd hr; obtain ⟨out_173, hL336, hr⟩ := hr
  refine .loopO (σ := fun z0 => match z0 with | (done_10, out_11, x_12) => ⟨mkS 160 0 [(7, sI64 v5), (8, aI64 a.Grid.Width), (9, aI64 a.Grid.Height), (10, .hs 0 0 done_10.length 1), (11, .hs 1 0 out_11.length 2), (41, sI64 v5), (42, aI64 (v5.length : Int)), (43, aI64 x_12)], [.own (done_10.flatMap bC), .own (out_11.flatMap api_Region.c)]⟩) (Q := fun x st' => x = .exit 0 ∧ Wk 0 st' ⟨mkS 160 0 [(11, .hs 0 0 out_173.length 2)], [.own (out_173.flatMap api_Region.c)]⟩) hL336 ((Wk.nil 11 2 (by kernel_rfl)).trans ((Wk.gc [7, 8, 9, 10, 11, 41, 42, 43] [(3, false), (4, false)] rfl (pKo bC bC_pure (List.replicate (v5.length : Int).toNat false) (pKc trivial))).to (by kernel_rfl))) ?_ ?_
  ·clear hr
   rintro m ⟨done_10, out_11, x_12⟩ hr
   show CQ _ _ _ _ _ ⟨_, _⟩
   refine .seq <| .r3 fine 160 [(7, sI64 v5), (8, aI64 a.Grid.Width), (9, aI64 a.Grid.Height), (10, .hs 0 0 done_10.length 1), (11, .hs 1 0 out_11.length 2), (41, sI64 v5), (42, aI64 (v5.length : Int)), (43, aI64 x_12), (44, aB (decide (x_12 < (v5.length : Int))))] <| .seq ?_
   refine .cd hr (fun hb176 hr => ?_) (fun hb176 hr => ?_)
   ·refine .skip <| .seq <| .block <| .seq ?_
    obtain ⟨hg177, hr⟩ := gd hr
    refine .r0 fine <| .mu 1 <| .p0 (v := .pp (v5.flatMap (iC .i64)) (x_12.toNat * 1)) (Eq.trans (b := ORes.ofP (guardV (inR x_12 v5.length) (.pp (v5.flatMap (iC .i64)) (x_12.toNat * 1)))) (by kernel_rfl) (ofP_guard hg177)) <| .p0 (v := aI64 (gt v5 x_12)) (Eq.trans (b := ORes.ofP ((v5.flatMap (iC .i64))[x_12.toNat * 1]?)) (by kernel_rfl) (ofP_some (flat_get (iC_len _) (inR_lt hg177) (by decide : 0 < 1) (by omega : x_12.toNat * 1 = x_12.toNat * 1 + 0) (by kernel_rfl)))) <| .mu 2 <| .done <| .n2 160 [(7, sI64 v5), (8, aI64 a.Grid.Width), (9, aI64 a.Grid.Height), (10, .hs 0 0 done_10.length 1), (11, .hs 1 0 out_11.length 2), (12, aI64 x_12), (13, aI64 (gt v5 x_12)), (41, sI64 v5), (42, aI64 (v5.length : Int)), (43, aI64 x_12)] [.own (done_10.flatMap bC), .own (out_11.flatMap api_Region.c)] <| .seq <| .seq ?_
    replace hr := bd hr; obtain ⟨o183, hL184, hr⟩ := hr
    refine .app2 (Q := fun x st' => match (generalizing := false) o183 with | .inl _ => x = .exit 1 ∧ Wk 0 st' ⟨mkS 160 0 [(7, sI64 v5), (8, aI64 a.Grid.Width), (9, aI64 a.Grid.Height), (10, .hs 0 0 done_10.length 1), (11, .hs 1 0 out_11.length 2), (41, sI64 v5), (42, aI64 (v5.length : Int)), (43, aI64 x_12)], [.own (done_10.flatMap bC), .own (out_11.flatMap api_Region.c)]⟩ | .inr (_) => x = .normal ∧ Wk 0 st' ⟨mkS 160 0 [(7, sI64 v5), (8, aI64 a.Grid.Width), (9, aI64 a.Grid.Height), (10, .hs 0 0 done_10.length 1), (11, .hs 1 0 out_11.length 2), (12, aI64 x_12), (13, aI64 (gt v5 x_12)), (41, sI64 v5), (42, aI64 (v5.length : Int)), (43, aI64 x_12)], [.own (done_10.flatMap bC), .own (out_11.flatMap api_Region.c)]⟩) ?_ ?_
    ·clear hr
     have hr := hL184
     clear hL184
     obtain ⟨hg179, hr⟩ := gd hr
     rcases Bool.eq_false_or_eq_true (gt done_10 x_12) with hb180 | hb180
     ·replace hr := cd_t hb180 hr
      refine .r0 fine <| .mu 2 <| .p0 (v := .hp 0 (0 + x_12.toNat * 1)) (Eq.trans (b := ORes.ofP (guardV (inR x_12 done_10.length) (.hp 0 (0 + x_12.toNat * 1)))) (by kernel_rfl) (ofP_guard hg179)) <| .p0 (v := aB true) (Eq.trans (b := some (.pure (aB (gt done_10 x_12)))) (Eq.trans (b := ORes.ofP ((done_10.flatMap bC)[0 + x_12.toNat * 1]?)) (by kernel_rfl) (ofP_some (flat_get bC_len (inR_lt hg179) (by decide : 0 < 1) (by omega : 0 + x_12.toNat * 1 = x_12.toNat * 1 + 0) (by kernel_rfl)))) (by rw [hb180])) <| .mu 8 <| .done <| .n2 160 [(7, sI64 v5), (8, aI64 a.Grid.Width), (9, aI64 a.Grid.Height), (10, .hs 0 0 done_10.length 1), (11, .hs 1 0 out_11.length 2), (12, aI64 x_12), (13, aI64 (gt v5 x_12)), (41, sI64 v5), (42, aI64 (v5.length : Int)), (43, aI64 x_12), (59, aB true)] [.own (done_10.flatMap bC), .own (out_11.flatMap api_Region.c)] <| .cT (by kernel_rfl) <| .leave rfl ?_
      obtain rfl := Option.some.inj hr
      exact ⟨rfl, ((Wk.gc [7, 8, 9, 10, 11, 41, 42, 43] [(0, false), (1, false)] rfl (pKo bC bC_pure done_10 (pKo api_Region.c api_Region.pure out_11 trivial))).to (by kernel_rfl))⟩
     ·replace hr := cd_f hb180 hr
      rcases Bool.eq_false_or_eq_true (((gt v5 x_12) : Int) != 1) with hb181 | hb181
      ·replace hr := cd_t hb181 hr
       refine .r0 fine <| .mu 2 <| .p0 (v := .hp 0 (0 + x_12.toNat * 1)) (Eq.trans (b := ORes.ofP (guardV (inR x_12 done_10.length) (.hp 0 (0 + x_12.toNat * 1)))) (by kernel_rfl) (ofP_guard hg179)) <| .p0 (v := aB false) (Eq.trans (b := some (.pure (aB (gt done_10 x_12)))) (Eq.trans (b := ORes.ofP ((done_10.flatMap bC)[0 + x_12.toNat * 1]?)) (by kernel_rfl) (ofP_some (flat_get bC_len (inR_lt hg179) (by decide : 0 < 1) (by omega : 0 + x_12.toNat * 1 = x_12.toNat * 1 + 0) (by kernel_rfl)))) (by rw [hb180])) <| .mu 2 <| .pure (v := aB true) (by kernel_rfl) (Eq.trans (b := some (.pure (aB (((gt v5 x_12) : Int) != 1)))) (by kernel_rfl) (by rw [hb181])) <| .mu 5 <| .done <| .n2 160 [(7, sI64 v5), (8, aI64 a.Grid.Width), (9, aI64 a.Grid.Height), (10, .hs 0 0 done_10.length 1), (11, .hs 1 0 out_11.length 2), (12, aI64 x_12), (13, aI64 (gt v5 x_12)), (41, sI64 v5), (42, aI64 (v5.length : Int)), (43, aI64 x_12), (59, aB (((gt v5 x_12) : Int) != 2))] [.own (done_10.flatMap bC), .own (out_11.flatMap api_Region.c)] ?_
       refine .cd hr (fun hb182 hr => ?_) (fun hb182 hr => ?_)
       ·refine .leave rfl ?_
        obtain rfl := Option.some.inj hr
        exact ⟨rfl, ((Wk.gc [7, 8, 9, 10, 11, 41, 42, 43] [(0, false), (1, false)] rfl (pKo bC bC_pure done_10 (pKo api_Region.c api_Region.pure out_11 trivial))).to (by kernel_rfl))⟩
       ·refine .skip ?_
        obtain rfl := Option.some.inj hr
        exact ⟨rfl, ((Wk.gc [7, 8, 9, 10, 11, 12, 13, 41, 42, 43] [(0, false), (1, false)] rfl (pKo bC bC_pure done_10 (pKo api_Region.c api_Region.pure out_11 trivial))).to (by kernel_rfl))⟩
      ·replace hr := cd_f hb181 hr
       refine .r0 fine <| .mu 2 <| .p0 (v := .hp 0 (0 + x_12.toNat * 1)) (Eq.trans (b := ORes.ofP (guardV (inR x_12 done_10.length) (.hp 0 (0 + x_12.toNat * 1)))) (by kernel_rfl) (ofP_guard hg179)) <| .p0 (v := aB false) (Eq.trans (b := some (.pure (aB (gt done_10 x_12)))) (Eq.trans (b := ORes.ofP ((done_10.flatMap bC)[0 + x_12.toNat * 1]?)) (by kernel_rfl) (ofP_some (flat_get bC_len (inR_lt hg179) (by decide : 0 < 1) (by omega : 0 + x_12.toNat * 1 = x_12.toNat * 1 + 0) (by kernel_rfl)))) (by rw [hb180])) <| .mu 2 <| .pure (v := aB false) (by kernel_rfl) (Eq.trans (b := some (.pure (aB (((gt v5 x_12) : Int) != 1)))) (by kernel_rfl) (by rw [hb181])) <| .mu 5 <| .done <| .n2 160 [(7, sI64 v5), (8, aI64 a.Grid.Width), (9, aI64 a.Grid.Height), (10, .hs 0 0 done_10.length 1), (11, .hs 1 0 out_11.length 2), (12, aI64 x_12), (13, aI64 (gt v5 x_12)), (41, sI64 v5), (42, aI64 (v5.length : Int)), (43, aI64 x_12), (59, aB false)] [.own (done_10.flatMap bC), .own (out_11.flatMap api_Region.c)] <| .cF (by kernel_rfl) <| .skip ?_
       obtain rfl := Option.some.inj hr
       exact ⟨rfl, ((Wk.gc [7, 8, 9, 10, 11, 12, 13, 41, 42, 43] [(0, false), (1, false)] rfl (pKo bC bC_pure done_10 (pKo api_Region.c api_Region.pure out_11 trivial))).to (by kernel_rfl))⟩
    ·rcases o183 with ⟨⟩ | ⟨⟩
     ·rintro x st' hq185
      clear hL184
      obtain ⟨rfl, hq185⟩ := hq185
      refine CQ_exit _ rfl <| .wk hq185 <| .ru fine ?_
      exact loopF_back (done_10, out_11, wrapF .i64 (x_12 + 1)) hr ((Wk.gc [7, 8, 9, 10, 11, 41, 42, 43] [(0, false), (1, false)] rfl (pKo bC bC_pure done_10 (pKo api_Region.c api_Region.pure out_11 trivial))).to (by kernel_rfl))
     ·rintro x st' hq185
      clear hL184
      obtain ⟨rfl, hq185⟩ := hq185
      refine .wk hq185 <| .seq ?_
      obtain ⟨hg186, hr⟩ := gd hr
      refine .r0 fine <| .mu 2 <| .p0 (v := .hp 0 (0 + x_12.toNat * 1)) (Eq.trans (b := ORes.ofP (guardV (inR x_12 done_10.length) (.hp 0 (0 + x_12.toNat * 1)))) (by kernel_rfl) (ofP_guard hg186)) <| .e0 (v := .unk) (ws := [(0, .own ((done_10.set x_12.toNat true).flatMap bC))]) (Eq.trans (b := stO (decide ((0 + x_12.toNat * 1) + 1 ≤ (done_10.flatMap bC).length) && true) [(0, .own (setCells (done_10.flatMap bC) (0 + x_12.toNat * 1) [aB true]))]) (by kernel_rfl) (stO_t (and_t (flat_fits bC_len (inR_lt hg186) (Nat.le_of_ble_eq_true rfl) (by omega : 0 + x_12.toNat * 1 = x_12.toNat * 1 + 0))) (congrArg Blk.own (flat_set bC_len (inR_lt hg186) (Nat.le_of_ble_eq_true rfl) (by omega : 0 + x_12.toNat * 1 = x_12.toNat * 1 + 0) (by kernel_rfl))))) <| .done <| .n2 160 [(7, sI64 v5), (8, aI64 a.Grid.Width), (9, aI64 a.Grid.Height), (10, .hs 0 0 done_10.length 1), (11, .hs 1 0 out_11.length 2), (12, aI64 x_12), (13, aI64 (gt v5 x_12)), (41, sI64 v5), (42, aI64 (v5.length : Int)), (43, aI64 x_12)] [.own ((done_10.set x_12.toNat true).flatMap bC), .own (out_11.flatMap api_Region.c)] <| .seq <| .r2 fine 160 [(7, sI64 v5), (8, aI64 a.Grid.Width), (9, aI64 a.Grid.Height), (10, .hs 0 0 done_10.length 1), (11, .hs 1 0 out_11.length 2), (12, aI64 x_12), (13, aI64 (gt v5 x_12)), (14, .hp 2 0), (41, sI64 v5), (42, aI64 (v5.length : Int)), (43, aI64 x_12)] [.own ((done_10.set x_12.toNat true).flatMap bC), .own (out_11.flatMap api_Region.c), .own [aI64 (gt v5 x_12), nS]] <| .seq <| .r2 fine 160 [(7, sI64 v5), (8, aI64 a.Grid.Width), (9, aI64 a.Grid.Height), (10, .hs 0 0 done_10.length 1), (11, .hs 1 0 out_11.length 2), (13, aI64 (gt v5 x_12)), (14, .hp 2 0), (15, .hs 3 0 1 1), (41, sI64 v5), (42, aI64 (v5.length : Int)), (43, aI64 x_12)] [.own ((done_10.set x_12.toNat true).flatMap bC), .own (out_11.flatMap api_Region.c), .own [aI64 (gt v5 x_12), nS], .own [aI64 x_12]] <| .seq <| .block ?_
      replace hr := bd hr; obtain ⟨o327, hL328, hr⟩ := hr
      refine .loopO (σ := fun z0 => match z0 with | (done_187, r_188, open_189) => ⟨mkS 160 0 [(7, sI64 v5), (8, aI64 a.Grid.Width), (9, aI64 a.Grid.Height), (10, .hs 0 0 done_187.length 1), (11, .hs 1 0 out_11.length 2), (13, aI64 (gt v5 x_12)), (14, .hp 2 0), (15, .hs 4 0 open_189.length 1), (41, sI64 v5), (42, aI64 (v5.length : Int)), (43, aI64 x_12)], [.own (done_187.flatMap bC), .own (out_11.flatMap api_Region.c), .own [aI64 (gt v5 x_12), .hs 3 0 r_188.length 1], .own (r_188.flatMap (iC .i64)), .own (open_189.flatMap (iC .i64))]⟩) (Q := fun x st' => match (generalizing := false) o327 with | (done_257, r_258) => x = .exit 2 ∧ Wk 0 st' ⟨mkS 160 0 [(7, sI64 v5), (8, aI64 a.Grid.Width), (9, aI64 a.Grid.Height), (10, .hs 0 0 done_257.length 1), (11, .hs 1 0 out_11.length 2), (14, .hp 2 0), (41, sI64 v5), (42, aI64 (v5.length : Int)), (43, aI64 x_12)], [.own (done_257.flatMap bC), .own (out_11.flatMap api_Region.c), .own [aI64 (gt v5 x_12), .hs 3 0 r_258.length 1], .own (r_258.flatMap (iC .i64))]⟩) hL328 ((Wk.relen 10 (b := 0) (es := 1) (len := done_10.length) (done_10.set x_12.toNat true).length (by kernel_rfl) (by simp)).trans ((Wk.nilcell 2 1 1 (cs := [aI64 (gt v5 x_12), nS]) (by kernel_rfl) (by kernel_rfl)).trans ((Wk.gc [7, 8, 9, 10, 11, 13, 14, 15, 41, 42, 43] [(0, false), (1, false), (2, true), (4, false), (3, false)] rfl (pKo bC bC_pure (done_10.set x_12.toNat true) (pKo api_Region.c api_Region.pure out_11 (pKt (pKc (pKc trivial)))))).to (by kernel_rfl)))) ?_ ?_
      ·clear hr
       rintro m ⟨done_187, r_188, open_189⟩ hr
       show CQ _ _ _ _ _ ⟨_, _⟩
       refine .seq <| .seq <| .r3 fine 160 [(7, sI64 v5), (8, aI64 a.Grid.Width), (9, aI64 a.Grid.Height), (10, .hs 0 0 done_187.length 1), (11, .hs 1 0 out_11.length 2), (13, aI64 (gt v5 x_12)), (14, .hp 2 0), (15, .hs 4 0 open_189.length 1), (41, sI64 v5), (42, aI64 (v5.length : Int)), (43, aI64 x_12), (69, aB (decide ((open_189.length : Int) > 0)))] ?_
       refine .cd hr (fun hb261 hr => ?_) (fun hb261 hr => ?_)
       ·refine .skip <| .block <| .seq ?_
        obtain ⟨hg262, hr⟩ := gd hr
        refine .r0 fine <| .mu 4 <| .p0 (v := .hp 4 (0 + (wrapF .i64 ((open_189.length : Int) - 1)).toNat * 1)) (Eq.trans (b := ORes.ofP (guardV (inR (wrapF .i64 ((open_189.length : Int) - 1)) open_189.length) (.hp 4 (0 + (wrapF .i64 ((open_189.length : Int) - 1)).toNat * 1)))) (by kernel_rfl) (ofP_guard hg262)) <| .p0 (v := aI64 (gt open_189 (wrapF .i64 ((open_189.length : Int) - 1)))) (Eq.trans (b := ORes.ofP ((open_189.flatMap (iC .i64))[0 + (wrapF .i64 ((open_189.length : Int) - 1)).toNat * 1]?)) (by kernel_rfl) (ofP_some (flat_get (iC_len _) (inR_lt hg262) (by decide : 0 < 1) (by omega : 0 + (wrapF .i64 ((open_189.length : Int) - 1)).toNat * 1 = (wrapF .i64 ((open_189.length : Int) - 1)).toNat * 1 + 0) (by kernel_rfl)))) <| .mu 1 <| .done <| .n2 160 [(7, sI64 v5), (8, aI64 a.Grid.Width), (9, aI64 a.Grid.Height), (10, .hs 0 0 done_187.length 1), (11, .hs 1 0 out_11.length 2), (13, aI64 (gt v5 x_12)), (14, .hp 2 0), (15, .hs 4 0 open_189.length 1), (16, aI64 (gt open_189 (wrapF .i64 ((open_189.length : Int) - 1)))), (41, sI64 v5), (42, aI64 (v5.length : Int)), (43, aI64 x_12)] [.own (done_187.flatMap bC), .own (out_11.flatMap api_Region.c), .own [aI64 (gt v5 x_12), .hs 3 0 r_188.length 1], .own (r_188.flatMap (iC .i64)), .own (open_189.flatMap (iC .i64))] ?_
        obtain ⟨w263, hw264, hr⟩ := bd hr
        refine .wk ((Wk.refl _).to (c := ⟨mkS 160 0 [(7, sI64 v5), (8, aI64 a.Grid.Width), (9, aI64 a.Grid.Height), (10, .hs 0 0 done_187.length 1), (11, .hs 1 0 out_11.length 2), (13, aI64 (gt v5 x_12)), (14, .hp 2 0), (15, .hs 4 0 open_189.length 1), (16, aI64 w263), (41, sI64 v5), (42, aI64 (v5.length : Int)), (43, aI64 x_12)], [.own (done_187.flatMap bC), .own (out_11.flatMap api_Region.c), .own [aI64 (gt v5 x_12), .hs 3 0 r_188.length 1], .own (r_188.flatMap (iC .i64)), .own (open_189.flatMap (iC .i64))]⟩) (by rw [Option.some.inj hw264])) <| .seq ?_
        obtain ⟨hg265, hr⟩ := gd hr
        refine .r0 fine <| .mu 4 <| .p0 (v := .hs 4 0 (wrapF .i64 ((open_189.length : Int) - 1)).toNat 1) (Eq.trans (b := slH (inS 0 (wrapF .i64 ((open_189.length : Int) - 1)) open_189.length) true ((0 : Int).toNat) ((wrapF .i64 ((open_189.length : Int) - 1)).toNat) (fun z1 z2 => .hs 4 (0 + z1 * 1) (z2 - z1) 1)) (by kernel_rfl) (slH_t hg265 (by kernel_rfl))) <| .mu 1 <| .done <| .n2 160 [(7, sI64 v5), (8, aI64 a.Grid.Width), (9, aI64 a.Grid.Height), (10, .hs 0 0 done_187.length 1), (11, .hs 1 0 out_11.length 2), (13, aI64 (gt v5 x_12)), (14, .hp 2 0), (15, .hs 4 0 (wrapF .i64 ((open_189.length : Int) - 1)).toNat 1), (16, aI64 w263), (41, sI64 v5), (42, aI64 (v5.length : Int)), (43, aI64 x_12)] [.own (done_187.flatMap bC), .own (out_11.flatMap api_Region.c), .own [aI64 (gt v5 x_12), .hs 3 0 r_188.length 1], .own (r_188.flatMap (iC .i64)), .own (open_189.flatMap (iC .i64))] <| .wk ((Wk.cutS (c := (iC .i64)) (es := 1) 15 4 (iC_len _) open_189 (wrapF .i64 ((open_189.length : Int) - 1)).toNat (inS_le hg265) (by kernel_rfl) (by kernel_rfl)).to (c := ⟨mkS 160 0 [(7, sI64 v5), (8, aI64 a.Grid.Width), (9, aI64 a.Grid.Height), (10, .hs 0 0 done_187.length 1), (11, .hs 1 0 out_11.length 2), (13, aI64 (gt v5 x_12)), (14, .hp 2 0), (15, .hs 4 0 (open_189.take (wrapF .i64 ((open_189.length : Int) - 1)).toNat).length 1), (16, aI64 w263), (41, sI64 v5), (42, aI64 (v5.length : Int)), (43, aI64 x_12)], [.own (done_187.flatMap bC), .own (out_11.flatMap api_Region.c), .own [aI64 (gt v5 x_12), .hs 3 0 r_188.length 1], .own (r_188.flatMap (iC .i64)), .own ((open_189.take (wrapF .i64 ((open_189.length : Int) - 1)).toNat).flatMap (iC .i64))]⟩) (by kernel_rfl)) <| .seq ?_
        obtain ⟨hg266, hg267, hr⟩ := gd2 hr
        refine .r0 fine <| .mu 4 <| .e0 (v := .hs 6 0 (r_188 ++ [w263]).length 1) (ws := [(3, .dead), (6, .own ((r_188 ++ [w263]).flatMap (iC .i64)))]) (Eq.trans (b := guardO (decide (0 + r_188.length * 1 ≤ (r_188.flatMap (iC .i64)).length) && decide ((r_188.length + 1) * 8 ≤ 140737488355328) && decide (r_188.length + 1 ≤ 4611686018427387904)) (some (.eff (.hs 6 0 (r_188.length + 1) 1) [(3, .dead), (6, .own (((r_188.flatMap (iC .i64)).drop 0).take (r_188.length * 1) ++ [aI64 w263]))]))) (by kernel_rfl) (app_own (l := r_188) (xs := [w263]) (iC_len _) rfl rfl (by kernel_rfl) hg266 hg267)) <| .mu 2 <| .done <| .n2 160 [(7, sI64 v5), (8, aI64 a.Grid.Width), (9, aI64 a.Grid.Height), (10, .hs 0 0 done_187.length 1), (11, .hs 1 0 out_11.length 2), (13, aI64 (gt v5 x_12)), (14, .hp 2 0), (15, .hs 4 0 (open_189.take (wrapF .i64 ((open_189.length : Int) - 1)).toNat).length 1), (16, aI64 w263), (41, sI64 v5), (42, aI64 (v5.length : Int)), (43, aI64 x_12)] [.own (done_187.flatMap bC), .own (out_11.flatMap api_Region.c), .own [aI64 (gt v5 x_12), .hs 6 0 (r_188 ++ [w263]).length 1], .dead, .own ((open_189.take (wrapF .i64 ((open_189.length : Int) - 1)).toNat).flatMap (iC .i64)), .own [aI64 w263], .own ((r_188 ++ [w263]).flatMap (iC .i64))] <| .seq <| .r3 fine 160 [(7, sI64 v5), (8, aI64 a.Grid.Width), (9, aI64 a.Grid.Height), (10, .hs 0 0 done_187.length 1), (11, .hs 1 0 out_11.length 2), (13, aI64 (gt v5 x_12)), (14, .hp 2 0), (15, .hs 4 0 (open_189.take (wrapF .i64 ((open_189.length : Int) - 1)).toNat).length 1), (16, aI64 w263), (41, sI64 v5), (42, aI64 (v5.length : Int)), (43, aI64 x_12), (91, .agg [aI64 1, aI64 0, aI64 (-1), aI64 0, aI64 0, aI64 1, aI64 0, aI64 (-1)]), (92, aI64 0)] <| .block ?_
        replace hr := bd hr; obtain ⟨o324, hL325, hr⟩ := hr
        refine .loopO (σ := fun z0 => match z0 with | (done_268, open_269, x_270) => ⟨mkS 160 0 [(7, sI64 v5), (8, aI64 a.Grid.Width), (9, aI64 a.Grid.Height), (10, .hs 0 0 done_268.length 1), (11, .hs 1 0 out_11.length 2), (13, aI64 (gt v5 x_12)), (14, .hp 2 0), (15, .hs 4 0 open_269.length 1), (16, aI64 w263), (41, sI64 v5), (42, aI64 (v5.length : Int)), (43, aI64 x_12), (91, .agg [aI64 1, aI64 0, aI64 (-1), aI64 0, aI64 0, aI64 1, aI64 0, aI64 (-1)]), (92, aI64 x_270)], [.own (done_268.flatMap bC), .own (out_11.flatMap api_Region.c), .own [aI64 (gt v5 x_12), .hs 3 0 (r_188 ++ [w263]).length 1], .own ((r_188 ++ [w263]).flatMap (iC .i64)), .own (open_269.flatMap (iC .i64))]⟩) (Q := fun x st' => match (generalizing := false) o324 with | (done_296, open_297) => x = .exit 4 ∧ Wk 0 st' ⟨mkS 160 0 [(7, sI64 v5), (8, aI64 a.Grid.Width), (9, aI64 a.Grid.Height), (10, .hs 0 0 done_296.length 1), (11, .hs 1 0 out_11.length 2), (13, aI64 (gt v5 x_12)), (14, .hp 2 0), (15, .hs 4 0 open_297.length 1), (41, sI64 v5), (42, aI64 (v5.length : Int)), (43, aI64 x_12)], [.own (done_296.flatMap bC), .own (out_11.flatMap api_Region.c), .own [aI64 (gt v5 x_12), .hs 3 0 (r_188 ++ [w263]).length 1], .own ((r_188 ++ [w263]).flatMap (iC .i64)), .own (open_297.flatMap (iC .i64))]⟩) hL325 ((Wk.gc [7, 8, 9, 10, 11, 13, 14, 15, 16, 41, 42, 43, 91, 92] [(0, false), (1, false), (2, true), (6, false), (4, false)] rfl (pKo bC bC_pure done_187 (pKo api_Region.c api_Region.pure out_11 (pKt (pKo (iC .i64) (iC_pure _) (r_188 ++ [w263]) (pKo (iC .i64) (iC_pure _) (open_189.take (wrapF .i64 ((open_189.length : Int) - 1)).toNat) trivial)))))).to (by kernel_rfl)) ?_ ?_
        ·clear hr
         rintro m ⟨done_268, open_269, x_270⟩ hr
         show CQ _ _ _ _ _ ⟨_, _⟩
         refine .seq <| .r3 fine 160 [(7, sI64 v5), (8, aI64 a.Grid.Width), (9, aI64 a.Grid.Height), (10, .hs 0 0 done_268.length 1), (11, .hs 1 0 out_11.length 2), (13, aI64 (gt v5 x_12)), (14, .hp 2 0), (15, .hs 4 0 open_269.length 1), (16, aI64 w263), (41, sI64 v5), (42, aI64 (v5.length : Int)), (43, aI64 x_12), (91, .agg [aI64 1, aI64 0, aI64 (-1), aI64 0, aI64 0, aI64 1, aI64 0, aI64 (-1)]), (92, aI64 x_270), (93, aB (decide (x_270 < 4)))] <| .seq ?_
         refine .cd hr (fun hb300 hr => ?_) (fun hb300 hr => ?_)
         ·refine .skip <| .seq <| .block <| .seq ?_
          obtain ⟨hg301, hr⟩ := gd hr
          refine .r0 fine <| .p0 (v := .agg [aI64 (gt ([A2.mk 1 0, A2.mk (-1) 0, A2.mk 0 1, A2.mk 0 (-1)] : List (A2 Int)) x_270).e0, aI64 (gt ([A2.mk 1 0, A2.mk (-1) 0, A2.mk 0 1, A2.mk 0 (-1)] : List (A2 Int)) x_270).e1]) (idx_arrA (e := 116) (l := ([A2.mk 1 0, A2.mk (-1) 0, A2.mk 0 1, A2.mk 0 (-1)] : List (A2 Int))) (c := A2_2_int.c) (k := .i64) (i := x_270) A2_2_int.len (by kernel_rfl) (by kernel_rfl) (by kernel_rfl) (by kernel_rfl) (by kernel_rfl) hg301 (by kernel_rfl)) <| .mu 2 <| .done <| .n2 160 [(7, sI64 v5), (8, aI64 a.Grid.Width), (9, aI64 a.Grid.Height), (10, .hs 0 0 done_268.length 1), (11, .hs 1 0 out_11.length 2), (13, aI64 (gt v5 x_12)), (14, .hp 2 0), (15, .hs 4 0 open_269.length 1), (16, aI64 w263), (18, .hp 5 0), (41, sI64 v5), (42, aI64 (v5.length : Int)), (43, aI64 x_12), (91, .agg [aI64 1, aI64 0, aI64 (-1), aI64 0, aI64 0, aI64 1, aI64 0, aI64 (-1)]), (92, aI64 x_270)] [.own (done_268.flatMap bC), .own (out_11.flatMap api_Region.c), .own [aI64 (gt v5 x_12), .hs 3 0 (r_188 ++ [w263]).length 1], .own ((r_188 ++ [w263]).flatMap (iC .i64)), .own (open_269.flatMap (iC .i64)), .own [aI64 (gt ([A2.mk 1 0, A2.mk (-1) 0, A2.mk 0 1, A2.mk 0 (-1)] : List (A2 Int)) x_270).e0, aI64 (gt ([A2.mk 1 0, A2.mk (-1) 0, A2.mk 0 1, A2.mk 0 (-1)] : List (A2 Int)) x_270).e1]] <| .seq ?_
          obtain ⟨hg302, hr⟩ := gd hr
          refine .regionT fine callOf_nil <| .mu 2 <| .pure (v := aI64 (w263.tmod a.Grid.Width)) (by kernel_rfl) (op_rem (x := w263) (y := a.Grid.Width) (by kernel_rfl) (by kernel_rfl) hg302) (by kernel_rfl) <| .mu 5 <| .pure (v := aI64 (wrapF .i64 (w263.tdiv a.Grid.Width))) (by kernel_rfl) (op_quo (x := w263) (y := a.Grid.Width) (by kernel_rfl) (by kernel_rfl) hg302) (by kernel_rfl) <| .mu 5 ?_
          refine .done ⟨by kernel_rfl, ?_⟩
          refine .n2 160 [(7, sI64 v5), (8, aI64 a.Grid.Width), (9, aI64 a.Grid.Height), (10, .hs 0 0 done_268.length 1), (11, .hs 1 0 out_11.length 2), (13, aI64 (gt v5 x_12)), (14, .hp 2 0), (15, .hs 4 0 open_269.length 1), (16, aI64 w263), (19, aI64 (wrapF .i64 ((w263.tmod a.Grid.Width) + (gt ([A2.mk 1 0, A2.mk (-1) 0, A2.mk 0 1, A2.mk 0 (-1)] : List (A2 Int)) x_270).e0))), (20, aI64 (wrapF .i64 ((wrapF .i64 (w263.tdiv a.Grid.Width)) + (gt ([A2.mk 1 0, A2.mk (-1) 0, A2.mk 0 1, A2.mk 0 (-1)] : List (A2 Int)) x_270).e1))), (41, sI64 v5), (42, aI64 (v5.length : Int)), (43, aI64 x_12), (91, .agg [aI64 1, aI64 0, aI64 (-1), aI64 0, aI64 0, aI64 1, aI64 0, aI64 (-1)]), (92, aI64 x_270)] [.own (done_268.flatMap bC), .own (out_11.flatMap api_Region.c), .own [aI64 (gt v5 x_12), .hs 3 0 (r_188 ++ [w263]).length 1], .own ((r_188 ++ [w263]).flatMap (iC .i64)), .own (open_269.flatMap (iC .i64)), .own [aI64 (gt ([A2.mk 1 0, A2.mk (-1) 0, A2.mk 0 1, A2.mk 0 (-1)] : List (A2 Int)) x_270).e0, aI64 (gt ([A2.mk 1 0, A2.mk (-1) 0, A2.mk 0 1, A2.mk 0 (-1)] : List (A2 Int)) x_270).e1]] ?_
          obtain ⟨w303, hw304, w305, hw306, hr⟩ := bd2 hr
          refine .wk ((Wk.refl _).to (c := ⟨mkS 160 0 [(7, sI64 v5), (8, aI64 a.Grid.Width), (9, aI64 a.Grid.Height), (10, .hs 0 0 done_268.length 1), (11, .hs 1 0 out_11.length 2), (13, aI64 (gt v5 x_12)), (14, .hp 2 0), (15, .hs 4 0 open_269.length 1), (16, aI64 w263), (19, aI64 w303), (20, aI64 w305), (41, sI64 v5), (42, aI64 (v5.length : Int)), (43, aI64 x_12), (91, .agg [aI64 1, aI64 0, aI64 (-1), aI64 0, aI64 0, aI64 1, aI64 0, aI64 (-1)]), (92, aI64 x_270)], [.own (done_268.flatMap bC), .own (out_11.flatMap api_Region.c), .own [aI64 (gt v5 x_12), .hs 3 0 (r_188 ++ [w263]).length 1], .own ((r_188 ++ [w263]).flatMap (iC .i64)), .own (open_269.flatMap (iC .i64)), .own [aI64 (gt ([A2.mk 1 0, A2.mk (-1) 0, A2.mk 0 1, A2.mk 0 (-1)] : List (A2 Int)) x_270).e0, aI64 (gt ([A2.mk 1 0, A2.mk (-1) 0, A2.mk 0 1, A2.mk 0 (-1)] : List (A2 Int)) x_270).e1]]⟩) (by rw [Option.some.inj hw304, Option.some.inj hw306])) <| .seq <| .r3 fine 160 [(7, sI64 v5), (8, aI64 a.Grid.Width), (9, aI64 a.Grid.Height), (10, .hs 0 0 done_268.length 1), (11, .hs 1 0 out_11.length 2), (13, aI64 (gt v5 x_12)), (14, .hp 2 0), (15, .hs 4 0 open_269.length 1), (16, aI64 w263), (19, aI64 w303), (20, aI64 w305), (21, aI64 (wrapF .i64 ((wrapF .i64 (w305 * a.Grid.Width)) + w303))), (41, sI64 v5), (42, aI64 (v5.length : Int)), (43, aI64 x_12), (91, .agg [aI64 1, aI64 0, aI64 (-1), aI64 0, aI64 0, aI64 1, aI64 0, aI64 (-1)]), (92, aI64 x_270)] ?_
          obtain ⟨w307, hw308, hr⟩ := bd hr
          refine .wk ((Wk.refl _).to (c := ⟨mkS 160 0 [(7, sI64 v5), (8, aI64 a.Grid.Width), (9, aI64 a.Grid.Height), (10, .hs 0 0 done_268.length 1), (11, .hs 1 0 out_11.length 2), (13, aI64 (gt v5 x_12)), (14, .hp 2 0), (15, .hs 4 0 open_269.length 1), (16, aI64 w263), (19, aI64 w303), (20, aI64 w305), (21, aI64 w307), (41, sI64 v5), (42, aI64 (v5.length : Int)), (43, aI64 x_12), (91, .agg [aI64 1, aI64 0, aI64 (-1), aI64 0, aI64 0, aI64 1, aI64 0, aI64 (-1)]), (92, aI64 x_270)], [.own (done_268.flatMap bC), .own (out_11.flatMap api_Region.c), .own [aI64 (gt v5 x_12), .hs 3 0 (r_188 ++ [w263]).length 1], .own ((r_188 ++ [w263]).flatMap (iC .i64)), .own (open_269.flatMap (iC .i64)), .own [aI64 (gt ([A2.mk 1 0, A2.mk (-1) 0, A2.mk 0 1, A2.mk 0 (-1)] : List (A2 Int)) x_270).e0, aI64 (gt ([A2.mk 1 0, A2.mk (-1) 0, A2.mk 0 1, A2.mk 0 (-1)] : List (A2 Int)) x_270).e1]]⟩) (by rw [Option.some.inj hw308])) <| .seq ?_
          replace hr := bd hr; obtain ⟨x_309, hL318, hr⟩ := hr
          refine .app1 (Q := fun x st' => x = .normal ∧ Wk 0 st' ⟨mkS 160 0 [(7, sI64 v5), (8, aI64 a.Grid.Width), (9, aI64 a.Grid.Height), (10, .hs 0 0 done_268.length 1), (11, .hs 1 0 out_11.length 2), (13, aI64 (gt v5 x_12)), (14, .hp 2 0), (15, .hs 4 0 open_269.length 1), (16, aI64 w263), (21, aI64 w307), (41, sI64 v5), (42, aI64 (v5.length : Int)), (43, aI64 x_12), (91, .agg [aI64 1, aI64 0, aI64 (-1), aI64 0, aI64 0, aI64 1, aI64 0, aI64 (-1)]), (92, aI64 x_270), (142, aB x_309)], [.own (done_268.flatMap bC), .own (out_11.flatMap api_Region.c), .own [aI64 (gt v5 x_12), .hs 3 0 (r_188 ++ [w263]).length 1], .own ((r_188 ++ [w263]).flatMap (iC .i64)), .own (open_269.flatMap (iC .i64))]⟩) ?_ ?_
          ·clear hr
           have hr := hL318
           clear hL318
           rcases Bool.eq_false_or_eq_true (decide (w303 ≥ 0)) with hb310 | hb310
           ·replace hr := cd_t hb310 hr
            rcases Bool.eq_false_or_eq_true (decide (w303 < a.Grid.Width)) with hb311 | hb311
            ·replace hr := cd_t hb311 hr
             rcases Bool.eq_false_or_eq_true (decide (w305 ≥ 0)) with hb312 | hb312
             ·replace hr := cd_t hb312 hr
              rcases Bool.eq_false_or_eq_true (decide (w305 < a.Grid.Height)) with hb313 | hb313
              ·replace hr := cd_t hb313 hr
               obtain ⟨hg314, hr⟩ := gd hr
               rcases Bool.eq_false_or_eq_true (!(gt done_268 w307)) with hb315 | hb315
               ·replace hr := cd_t hb315 hr
                obtain ⟨hg316, hr⟩ := gd hr
                refine .r0 fine <| .mu 1 <| .p0 (v := aB true) (Eq.trans (b := some (.pure (aB (decide (w303 ≥ 0))))) (by kernel_rfl) (by rw [hb310])) <| .mu 3 <| .pure (v := aB true) (by kernel_rfl) (Eq.trans (b := some (.pure (aB (decide (w303 < a.Grid.Width))))) (by kernel_rfl) (by rw [hb311])) <| .mu 3 <| .pure (v := aB true) (by kernel_rfl) (Eq.trans (b := some (.pure (aB (decide (w305 ≥ 0))))) (by kernel_rfl) (by rw [hb312])) <| .mu 4 <| .pure (v := aB true) (by kernel_rfl) (Eq.trans (b := some (.pure (aB (decide (w305 < a.Grid.Height))))) (by kernel_rfl) (by rw [hb313])) <| .mu 4 <| .pure (v := .hp 0 (0 + w307.toNat * 1)) (by kernel_rfl) (Eq.trans (b := ORes.ofP (guardV (inR w307 done_268.length) (.hp 0 (0 + w307.toNat * 1)))) (by kernel_rfl) (ofP_guard hg314)) <| .pure (v := aB (gt done_268 w307)) (by kernel_rfl) (Eq.trans (b := ORes.ofP ((done_268.flatMap bC)[0 + w307.toNat * 1]?)) (by kernel_rfl) (ofP_some (flat_get bC_len (inR_lt hg314) (by decide : 0 < 1) (by omega : 0 + w307.toNat * 1 = w307.toNat * 1 + 0) (by kernel_rfl)))) <| .pure (v := aB true) (by kernel_rfl) (Eq.trans (b := some (.pure (aB (!(gt done_268 w307))))) (by kernel_rfl) (by rw [hb315])) <| .mu 4 <| .pure (v := .pp (v5.flatMap (iC .i64)) (w307.toNat * 1)) (by kernel_rfl) (Eq.trans (b := ORes.ofP (guardV (inR w307 v5.length) (.pp (v5.flatMap (iC .i64)) (w307.toNat * 1)))) (by kernel_rfl) (ofP_guard hg316)) <| .pure (v := aI64 (gt v5 w307)) (by kernel_rfl) (Eq.trans (b := ORes.ofP ((v5.flatMap (iC .i64))[w307.toNat * 1]?)) (by kernel_rfl) (ofP_some (flat_get (iC_len _) (inR_lt hg316) (by decide : 0 < 1) (by omega : w307.toNat * 1 = w307.toNat * 1 + 0) (by kernel_rfl)))) <| .mu 3 <| .done ?_
                obtain rfl := Option.some.inj hr
                exact ⟨rfl, ((Wk.gc [7, 8, 9, 10, 11, 13, 14, 15, 16, 21, 41, 42, 43, 91, 92, 142] [(0, false), (1, false), (2, true), (3, false), (4, false)] rfl (pKo bC bC_pure done_268 (pKo api_Region.c api_Region.pure out_11 (pKt (pKo (iC .i64) (iC_pure _) (r_188 ++ [w263]) (pKo (iC .i64) (iC_pure _) open_269 trivial)))))).to (by kernel_rfl))⟩
               ·replace hr := cd_f hb315 hr
                refine .r0 fine <| .mu 1 <| .p0 (v := aB true) (Eq.trans (b := some (.pure (aB (decide (w303 ≥ 0))))) (by kernel_rfl) (by rw [hb310])) <| .mu 3 <| .pure (v := aB true) (by kernel_rfl) (Eq.trans (b := some (.pure (aB (decide (w303 < a.Grid.Width))))) (by kernel_rfl) (by rw [hb311])) <| .mu 3 <| .pure (v := aB true) (by kernel_rfl) (Eq.trans (b := some (.pure (aB (decide (w305 ≥ 0))))) (by kernel_rfl) (by rw [hb312])) <| .mu 4 <| .pure (v := aB true) (by kernel_rfl) (Eq.trans (b := some (.pure (aB (decide (w305 < a.Grid.Height))))) (by kernel_rfl) (by rw [hb313])) <| .mu 4 <| .pure (v := .hp 0 (0 + w307.toNat * 1)) (by kernel_rfl) (Eq.trans (b := ORes.ofP (guardV (inR w307 done_268.length) (.hp 0 (0 + w307.toNat * 1)))) (by kernel_rfl) (ofP_guard hg314)) <| .pure (v := aB (gt done_268 w307)) (by kernel_rfl) (Eq.trans (b := ORes.ofP ((done_268.flatMap bC)[0 + w307.toNat * 1]?)) (by kernel_rfl) (ofP_some (flat_get bC_len (inR_lt hg314) (by decide : 0 < 1) (by omega : 0 + w307.toNat * 1 = w307.toNat * 1 + 0) (by kernel_rfl)))) <| .pure (v := aB false) (by kernel_rfl) (Eq.trans (b := some (.pure (aB (!(gt done_268 w307))))) (by kernel_rfl) (by rw [hb315])) <| .mu 9 <| .done ?_
                obtain rfl := Option.some.inj hr
                exact ⟨rfl, ((Wk.gc [7, 8, 9, 10, 11, 13, 14, 15, 16, 21, 41, 42, 43, 91, 92, 142] [(0, false), (1, false), (2, true), (3, false), (4, false)] rfl (pKo bC bC_pure done_268 (pKo api_Region.c api_Region.pure out_11 (pKt (pKo (iC .i64) (iC_pure _) (r_188 ++ [w263]) (pKo (iC .i64) (iC_pure _) open_269 trivial)))))).to (by kernel_rfl))⟩
              ·replace hr := cd_f hb313 hr
               refine .r0 fine <| .mu 1 <| .p0 (v := aB true) (Eq.trans (b := some (.pure (aB (decide (w303 ≥ 0))))) (by kernel_rfl) (by rw [hb310])) <| .mu 3 <| .pure (v := aB true) (by kernel_rfl) (Eq.trans (b := some (.pure (aB (decide (w303 < a.Grid.Width))))) (by kernel_rfl) (by rw [hb311])) <| .mu 3 <| .pure (v := aB true) (by kernel_rfl) (Eq.trans (b := some (.pure (aB (decide (w305 ≥ 0))))) (by kernel_rfl) (by rw [hb312])) <| .mu 4 <| .pure (v := aB false) (by kernel_rfl) (Eq.trans (b := some (.pure (aB (decide (w305 < a.Grid.Height))))) (by kernel_rfl) (by rw [hb313])) <| .mu 16 <| .done ?_
               obtain rfl := Option.some.inj hr
               exact ⟨rfl, ((Wk.gc [7, 8, 9, 10, 11, 13, 14, 15, 16, 21, 41, 42, 43, 91, 92, 142] [(0, false), (1, false), (2, true), (3, false), (4, false)] rfl (pKo bC bC_pure done_268 (pKo api_Region.c api_Region.pure out_11 (pKt (pKo (iC .i64) (iC_pure _) (r_188 ++ [w263]) (pKo (iC .i64) (iC_pure _) open_269 trivial)))))).to (by kernel_rfl))⟩
             ·replace hr := cd_f hb312 hr
              refine .r0 fine <| .mu 1 <| .p0 (v := aB true) (Eq.trans (b := some (.pure (aB (decide (w303 ≥ 0))))) (by kernel_rfl) (by rw [hb310])) <| .mu 3 <| .pure (v := aB true) (by kernel_rfl) (Eq.trans (b := some (.pure (aB (decide (w303 < a.Grid.Width))))) (by kernel_rfl) (by rw [hb311])) <| .mu 3 <| .pure (v := aB false) (by kernel_rfl) (Eq.trans (b := some (.pure (aB (decide (w305 ≥ 0))))) (by kernel_rfl) (by rw [hb312])) <| .mu 21 <| .done ?_
              obtain rfl := Option.some.inj hr
              exact ⟨rfl, ((Wk.gc [7, 8, 9, 10, 11, 13, 14, 15, 16, 21, 41, 42, 43, 91, 92, 142] [(0, false), (1, false), (2, true), (3, false), (4, false)] rfl (pKo bC bC_pure done_268 (pKo api_Region.c api_Region.pure out_11 (pKt (pKo (iC .i64) (iC_pure _) (r_188 ++ [w263]) (pKo (iC .i64) (iC_pure _) open_269 trivial)))))).to (by kernel_rfl))⟩
            ·replace hr := cd_f hb311 hr
             refine .r0 fine <| .mu 1 <| .p0 (v := aB true) (Eq.trans (b := some (.pure (aB (decide (w303 ≥ 0))))) (by kernel_rfl) (by rw [hb310])) <| .mu 3 <| .pure (v := aB false) (by kernel_rfl) (Eq.trans (b := some (.pure (aB (decide (w303 < a.Grid.Width))))) (by kernel_rfl) (by rw [hb311])) <| .mu 25 <| .done ?_
             obtain rfl := Option.some.inj hr
             exact ⟨rfl, ((Wk.gc [7, 8, 9, 10, 11, 13, 14, 15, 16, 21, 41, 42, 43, 91, 92, 142] [(0, false), (1, false), (2, true), (3, false), (4, false)] rfl (pKo bC bC_pure done_268 (pKo api_Region.c api_Region.pure out_11 (pKt (pKo (iC .i64) (iC_pure _) (r_188 ++ [w263]) (pKo (iC .i64) (iC_pure _) open_269 trivial)))))).to (by kernel_rfl))⟩
           ·replace hr := cd_f hb310 hr
            refine .r0 fine <| .mu 1 <| .p0 (v := aB false) (Eq.trans (b := some (.pure (aB (decide (w303 ≥ 0))))) (by kernel_rfl) (by rw [hb310])) <| .mu 29 <| .done ?_
            obtain rfl := Option.some.inj hr
            exact ⟨rfl, ((Wk.gc [7, 8, 9, 10, 11, 13, 14, 15, 16, 21, 41, 42, 43, 91, 92, 142] [(0, false), (1, false), (2, true), (3, false), (4, false)] rfl (pKo bC bC_pure done_268 (pKo api_Region.c api_Region.pure out_11 (pKt (pKo (iC .i64) (iC_pure _) (r_188 ++ [w263]) (pKo (iC .i64) (iC_pure _) open_269 trivial)))))).to (by kernel_rfl))⟩
          ·rintro x st' hq319
           clear hL318
           obtain ⟨rfl, hq319⟩ := hq319
           refine .wk hq319 ?_
           refine .cd hr (fun hb320 hr => ?_) (fun hb320 hr => ?_)
           ·refine .seq ?_
            obtain ⟨hg321, hr⟩ := gd hr
            refine .r0 fine <| .mu 2 <| .p0 (v := .hp 0 (0 + w307.toNat * 1)) (Eq.trans (b := ORes.ofP (guardV (inR w307 done_268.length) (.hp 0 (0 + w307.toNat * 1)))) (by kernel_rfl) (ofP_guard hg321)) <| .e0 (v := .unk) (ws := [(0, .own ((done_268.set w307.toNat true).flatMap bC))]) (Eq.trans (b := stO (decide ((0 + w307.toNat * 1) + 1 ≤ (done_268.flatMap bC).length) && true) [(0, .own (setCells (done_268.flatMap bC) (0 + w307.toNat * 1) [aB true]))]) (by kernel_rfl) (stO_t (and_t (flat_fits bC_len (inR_lt hg321) (Nat.le_of_ble_eq_true rfl) (by omega : 0 + w307.toNat * 1 = w307.toNat * 1 + 0))) (congrArg Blk.own (flat_set bC_len (inR_lt hg321) (Nat.le_of_ble_eq_true rfl) (by omega : 0 + w307.toNat * 1 = w307.toNat * 1 + 0) (by kernel_rfl))))) <| .done <| .n2 160 [(7, sI64 v5), (8, aI64 a.Grid.Width), (9, aI64 a.Grid.Height), (10, .hs 0 0 done_268.length 1), (11, .hs 1 0 out_11.length 2), (13, aI64 (gt v5 x_12)), (14, .hp 2 0), (15, .hs 4 0 open_269.length 1), (16, aI64 w263), (21, aI64 w307), (41, sI64 v5), (42, aI64 (v5.length : Int)), (43, aI64 x_12), (91, .agg [aI64 1, aI64 0, aI64 (-1), aI64 0, aI64 0, aI64 1, aI64 0, aI64 (-1)]), (92, aI64 x_270)] [.own ((done_268.set w307.toNat true).flatMap bC), .own (out_11.flatMap api_Region.c), .own [aI64 (gt v5 x_12), .hs 3 0 (r_188 ++ [w263]).length 1], .own ((r_188 ++ [w263]).flatMap (iC .i64)), .own (open_269.flatMap (iC .i64))] ?_
            obtain ⟨hg322, hg323, hr⟩ := gd2 hr
            refine .r0 fine <| .mu 3 <| .e0 (v := .hs 6 0 (open_269 ++ [w307]).length 1) (ws := [(4, .dead), (6, .own ((open_269 ++ [w307]).flatMap (iC .i64)))]) (Eq.trans (b := guardO (decide (0 + open_269.length * 1 ≤ (open_269.flatMap (iC .i64)).length) && decide ((open_269.length + 1) * 8 ≤ 140737488355328) && decide (open_269.length + 1 ≤ 4611686018427387904)) (some (.eff (.hs 6 0 (open_269.length + 1) 1) [(4, .dead), (6, .own (((open_269.flatMap (iC .i64)).drop 0).take (open_269.length * 1) ++ [aI64 w307]))]))) (by kernel_rfl) (app_own (l := open_269) (xs := [w307]) (iC_len _) rfl rfl (by kernel_rfl) hg322 hg323)) <| .mu 1 <| .done <| .pop <| .ru fine ?_
            exact loopF_back (done_268.set w307.toNat true, open_269 ++ [w307], wrapF .i64 (x_270 + 1)) hr ((Wk.relen 10 (b := 0) (es := 1) (len := done_268.length) (done_268.set w307.toNat true).length (by kernel_rfl) (by simp)).trans ((Wk.gc [7, 8, 9, 10, 11, 13, 14, 15, 16, 41, 42, 43, 91, 92] [(0, false), (1, false), (2, true), (3, false), (6, false)] rfl (pKo bC bC_pure (done_268.set w307.toNat true) (pKo api_Region.c api_Region.pure out_11 (pKt (pKo (iC .i64) (iC_pure _) (r_188 ++ [w263]) (pKo (iC .i64) (iC_pure _) (open_269 ++ [w307]) trivial)))))).to (by kernel_rfl)))
           ·refine .skip <| .pop <| .ru fine ?_
            exact loopF_back (done_268, open_269, wrapF .i64 (x_270 + 1)) hr ((Wk.gc [7, 8, 9, 10, 11, 13, 14, 15, 16, 41, 42, 43, 91, 92] [(0, false), (1, false), (2, true), (3, false), (4, false)] rfl (pKo bC bC_pure done_268 (pKo api_Region.c api_Region.pure out_11 (pKt (pKo (iC .i64) (iC_pure _) (r_188 ++ [w263]) (pKo (iC .i64) (iC_pure _) open_269 trivial)))))).to (by kernel_rfl))
         ·refine .leave rfl ?_
          obtain rfl := Option.some.inj hr
          exact ⟨rfl, ((Wk.gc [7, 8, 9, 10, 11, 13, 14, 15, 41, 42, 43] [(0, false), (1, false), (2, true), (3, false), (4, false)] rfl (pKo bC bC_pure done_268 (pKo api_Region.c api_Region.pure out_11 (pKt (pKo (iC .i64) (iC_pure _) (r_188 ++ [w263]) (pKo (iC .i64) (iC_pure _) open_269 trivial)))))).to (by kernel_rfl))⟩
        ·rcases o324 with ⟨done_296, open_297⟩
         rintro x st' hq326
         clear hL325
         obtain ⟨rfl, hq326⟩ := hq326
         refine CQ_exit _ rfl <| .pop ?_
         exact loopF_back (done_296, r_188 ++ [w263], open_297) hr (hq326.trans ((Wk.gc [7, 8, 9, 10, 11, 13, 14, 15, 41, 42, 43] [(0, false), (1, false), (2, true), (3, false), (4, false)] rfl (pKo bC bC_pure done_296 (pKo api_Region.c api_Region.pure out_11 (pKt (pKo (iC .i64) (iC_pure _) (r_188 ++ [w263]) (pKo (iC .i64) (iC_pure _) open_297 trivial)))))).to (by kernel_rfl)))
       ·refine .leave rfl ?_
        obtain rfl := Option.some.inj hr
        exact ⟨rfl, ((Wk.gc [7, 8, 9, 10, 11, 14, 41, 42, 43] [(0, false), (1, false), (2, true), (3, false)] rfl (pKo bC bC_pure done_187 (pKo api_Region.c api_Region.pure out_11 (pKt (pKo (iC .i64) (iC_pure _) r_188 trivial))))).to (by kernel_rfl))⟩
      ·rcases o327 with ⟨done_257, r_258⟩
       rintro x st' hq329
       clear hL328
       obtain ⟨rfl, hq329⟩ := hq329
       refine CQ_exit _ rfl <| .wk hq329 <| .seq ?_
       obtain ⟨v330, hc331, hr⟩ := bd hr
       obtain ⟨hg332, hr⟩ := gd hr
       refine .g1 fine (callOk_mutU (args := [.hs 3 0 r_258.length 1]) 1 0 [(3, false)] [false] (slices_Sort_int_int_w_ok n r_258 v330 hc331) (by exact ⟨ids_flat (iC_pure _) _, trivial⟩) (by exact ⟨ids_flat (iC_pure _) _, trivial⟩) rfl rfl (by kernel_rfl) (by kernel_rfl)) <| .mu 2 <| .ca cf0 <| .done <| .n2 160 [(7, sI64 v5), (8, aI64 a.Grid.Width), (9, aI64 a.Grid.Height), (10, .hs 0 0 done_257.length 1), (11, .hs 1 0 out_11.length 2), (14, .hp 2 0), (41, sI64 v5), (42, aI64 (v5.length : Int)), (43, aI64 x_12)] [.own (done_257.flatMap bC), .own (out_11.flatMap api_Region.c), .own [aI64 (gt v5 x_12), .hs 3 0 r_258.length 1], .own (v330.flatMap (iC .i64))] <| .wk (((Wk.recell 2 1 (b := 3) (es := 1) (len := r_258.length) (cs := [aI64 (gt v5 x_12), .hs 3 0 r_258.length 1]) v330.length (by kernel_rfl) (by kernel_rfl) (Eq.symm (of_decide_eq_true hg332))).trans ((Wk.fix 3 (cs := (v330.flatMap (iC .i64))) (by kernel_rfl)).trans (Wk.purcell 2 1 (b := 3) (len := v330.length) (es := 1) (cs := (v330.flatMap (iC .i64))) (cs' := [aI64 (gt v5 x_12), .hs 3 0 v330.length 1]) (by kernel_rfl) (by kernel_rfl) (by kernel_rfl) (ids_flat (iC_pure _) _) (fun h => flat_nil0 h)))).to (c := ⟨mkS 160 0 [(7, sI64 v5), (8, aI64 a.Grid.Width), (9, aI64 a.Grid.Height), (10, .hs 0 0 done_257.length 1), (11, .hs 1 0 out_11.length 2), (14, .hp 2 0), (41, sI64 v5), (42, aI64 (v5.length : Int)), (43, aI64 x_12)], [.own (done_257.flatMap bC), .own (out_11.flatMap api_Region.c), .own [aI64 (gt v5 x_12), sI64 v330], .fix (v330.flatMap (iC .i64))]⟩) (by kernel_rfl)) ?_
       obtain ⟨hg333, hg334, hr⟩ := gd2 hr
       refine .r0 fine <| .mu 3 <| .e0 (v := .hs 5 0 (out_11 ++ [api_Region.mk (gt v5 x_12) v330]).length 2) (ws := [(1, .dead), (5, .own ((out_11 ++ [api_Region.mk (gt v5 x_12) v330]).flatMap api_Region.c))]) (Eq.trans (b := guardO (decide (0 + out_11.length * 2 ≤ (out_11.flatMap api_Region.c).length) && decide ((out_11.length + 1) * 32 ≤ 140737488355328) && decide (out_11.length + 1 ≤ 4611686018427387904)) (some (.eff (.hs 5 0 (out_11.length + 1) 2) [(1, .dead), (5, .own (((out_11.flatMap api_Region.c).drop 0).take (out_11.length * 2) ++ [aI64 (gt v5 x_12), sI64 v330]))]))) (by kernel_rfl) (app_own (l := out_11) (xs := [api_Region.mk (gt v5 x_12) v330]) api_Region.len rfl rfl (by kernel_rfl) hg333 hg334)) <| .mu 1 <| .done <| .pop <| .ru fine ?_
       exact loopF_back (done_257, out_11 ++ [api_Region.mk (gt v5 x_12) v330], wrapF .i64 (x_12 + 1)) hr ((Wk.gc [7, 8, 9, 10, 11, 41, 42, 43] [(0, false), (5, false)] rfl (pKo bC bC_pure done_257 (pKo api_Region.c api_Region.pure (out_11 ++ [api_Region.mk (gt v5 x_12) v330]) trivial))).to (by kernel_rfl))
   ·refine .leave rfl ?_
    obtain rfl := Option.some.inj hr
    exact ⟨rfl, ((Wk.gc [11] [(1, false)] rfl (pKo api_Region.c api_Region.pure out_11 trivial)).to (by kernel_rfl))⟩
  ·rintro x st' hq337
   clear hL336
   obtain ⟨rfl, hq337⟩ := hq337
   refine CQ_exit _ rfl <| .wk hq337 <| .seq <| .r3 fine 160 [(4, .hs 0 0 out_173.length 2), (5, aI64 0)] <| .ret ?_
   obtain rfl := Option.some.inj hr
   exact FinQ.ret (vs := [.hs 0 0 out_173.length 2, aI64 0]) (by kernel_rfl) (Sn.tup (SnL.cons (Sn.hs rfl (.inl rfl) (SnC.pure (ids_flat api_Region.pure _)) (fun h => flat_nil0 h)) (SnL.cons (Sn.pure rfl) SnL.nil)))

theorem fiduciallaw51_out_inj {n' : Int} {n'_ : Int} (h : ([.at (.int .i64 n')] : List AV) = [.at (.int .i64 n'_)]) : n' = n'_ := by
 simp only [List.cons.injEq, AV.agg.injEq, AV.at.injEq, Value.int.injEq, Value.bool.injEq, AV.fn.injEq, AV.pp.injEq, true_and, and_true] at h
 simp_all
theorem fiduciallaw51_out_cg (n : Nat) {n' : Int} {n'_ : Int} (h : ([.at (.int .i64 n')] : List AV) = [.at (.int .i64 n'_)]) : fiduciallaw51_out n n' = fiduciallaw51_out n n'_ := by
 obtain rfl := fiduciallaw51_out_inj h
 rfl
theorem fiduciallaw51_out_ok (n : Nat) (n' : Int) (r : Bool) (hr : fiduciallaw51_out n n' = some r) : FnOk Tryz.prog 187 [aI64 n'] (aB r) := by
 unfold fiduciallaw51_out at hr
 refine FnOk.bd fine Tryz.func187 [.tmp 2] ?_
 unfold Tryz.f187
 simp only [Option.getD_some]
 refine .seq <| .r3 fine 9 [(0, aI64 n')] <| .seq ?_
 rcases Bool.eq_false_or_eq_true (decide (n' < (-1048576))) with hb1 | hb1
 ·replace hr := cd_t hb1 hr
  refine .r0 fine <| .mu 1 <| .p0 (v := aB true) (Eq.trans (b := some (.pure (aB (decide (n' < (-1048576)))))) (by kernel_rfl) (by rw [hb1])) <| .mu 5 <| .done <| .ret ?_
  obtain rfl := Option.some.inj hr
  exact FinQ.r1 [aB true]
 ·replace hr := cd_f hb1 hr
  refine .r0 fine <| .mu 1 <| .p0 (v := aB false) (Eq.trans (b := some (.pure (aB (decide (n' < (-1048576)))))) (by kernel_rfl) (by rw [hb1])) <| .mu 5 <| .done <| .ret ?_
  obtain rfl := Option.some.inj hr
  exact FinQ.r1 [aB (decide (n' > 1048576))]

theorem fiduciallaw51_check_ok (n : Nat) (g : api_Grid) (r : Int) (hr : fiduciallaw51_check n g = some r) : FnOk Tryz.prog 148 [.agg (api_Grid.c g)] (aI64 r) := by
 unfold fiduciallaw51_check at hr
 refine FnOk.bd fine Tryz.func148 [.tmp 2] ?_
 unfold Tryz.f148
 simp only [Option.getD_some]
 refine .seq <| .r2 fine 72 [(1, .hp 0 0)] [.own (api_Grid.c g)] <| .seq <| .seq ?_
 rcases Bool.eq_false_or_eq_true (decide (g.Width < 2)) with hb1 | hb1
 ·replace hr := cd_t hb1 hr
  refine .r0 fine <| .mu 2 <| .p0 (v := aB true) (Eq.trans (b := some (.pure (aB (decide (g.Width < 2))))) (by kernel_rfl) (by rw [hb1])) <| .mu 41 <| .done <| .n2 72 [(1, .hp 0 0), (48, aB true)] [.own (api_Grid.c g)] <| .cT (by kernel_rfl) <| .seq <| .ru fine <| .ret ?_
  obtain rfl := Option.some.inj hr
  exact FinQ.r1 [aI64 2]
 ·replace hr := cd_f hb1 hr
  rcases Bool.eq_false_or_eq_true (decide (g.Width > 64)) with hb2 | hb2
  ·replace hr := cd_t hb2 hr
   refine .r0 fine <| .mu 2 <| .p0 (v := aB false) (Eq.trans (b := some (.pure (aB (decide (g.Width < 2))))) (by kernel_rfl) (by rw [hb1])) <| .mu 3 <| .pure (v := aB true) (by kernel_rfl) (Eq.trans (b := some (.pure (aB (decide (g.Width > 64))))) (by kernel_rfl) (by rw [hb2])) <| .mu 37 <| .done <| .n2 72 [(1, .hp 0 0), (48, aB true)] [.own (api_Grid.c g)] <| .cT (by kernel_rfl) <| .seq <| .ru fine <| .ret ?_
   obtain rfl := Option.some.inj hr
   exact FinQ.r1 [aI64 2]
  ·replace hr := cd_f hb2 hr
   rcases Bool.eq_false_or_eq_true (decide (g.Height < 2)) with hb3 | hb3
   ·replace hr := cd_t hb3 hr
    refine .r0 fine <| .mu 2 <| .p0 (v := aB false) (Eq.trans (b := some (.pure (aB (decide (g.Width < 2))))) (by kernel_rfl) (by rw [hb1])) <| .mu 3 <| .pure (v := aB false) (by kernel_rfl) (Eq.trans (b := some (.pure (aB (decide (g.Width > 64))))) (by kernel_rfl) (by rw [hb2])) <| .mu 4 <| .pure (v := aB true) (by kernel_rfl) (Eq.trans (b := some (.pure (aB (decide (g.Height < 2))))) (by kernel_rfl) (by rw [hb3])) <| .mu 32 <| .done <| .n2 72 [(1, .hp 0 0), (48, aB true)] [.own (api_Grid.c g)] <| .cT (by kernel_rfl) <| .seq <| .ru fine <| .ret ?_
    obtain rfl := Option.some.inj hr
    exact FinQ.r1 [aI64 2]
   ·replace hr := cd_f hb3 hr
    rcases Bool.eq_false_or_eq_true (decide (g.Height > 64)) with hb4 | hb4
    ·replace hr := cd_t hb4 hr
     refine .r0 fine <| .mu 2 <| .p0 (v := aB false) (Eq.trans (b := some (.pure (aB (decide (g.Width < 2))))) (by kernel_rfl) (by rw [hb1])) <| .mu 3 <| .pure (v := aB false) (by kernel_rfl) (Eq.trans (b := some (.pure (aB (decide (g.Width > 64))))) (by kernel_rfl) (by rw [hb2])) <| .mu 4 <| .pure (v := aB false) (by kernel_rfl) (Eq.trans (b := some (.pure (aB (decide (g.Height < 2))))) (by kernel_rfl) (by rw [hb3])) <| .mu 4 <| .pure (v := aB true) (by kernel_rfl) (Eq.trans (b := some (.pure (aB (decide (g.Height > 64))))) (by kernel_rfl) (by rw [hb4])) <| .mu 27 <| .done <| .n2 72 [(1, .hp 0 0), (48, aB true)] [.own (api_Grid.c g)] <| .cT (by kernel_rfl) <| .seq <| .ru fine <| .ret ?_
     obtain rfl := Option.some.inj hr
     exact FinQ.r1 [aI64 2]
    ·replace hr := cd_f hb4 hr
     rcases Bool.eq_false_or_eq_true (decide (g.Step < 2)) with hb5 | hb5
     ·replace hr := cd_t hb5 hr
      refine .r0 fine <| .mu 2 <| .p0 (v := aB false) (Eq.trans (b := some (.pure (aB (decide (g.Width < 2))))) (by kernel_rfl) (by rw [hb1])) <| .mu 3 <| .pure (v := aB false) (by kernel_rfl) (Eq.trans (b := some (.pure (aB (decide (g.Width > 64))))) (by kernel_rfl) (by rw [hb2])) <| .mu 4 <| .pure (v := aB false) (by kernel_rfl) (Eq.trans (b := some (.pure (aB (decide (g.Height < 2))))) (by kernel_rfl) (by rw [hb3])) <| .mu 4 <| .pure (v := aB false) (by kernel_rfl) (Eq.trans (b := some (.pure (aB (decide (g.Height > 64))))) (by kernel_rfl) (by rw [hb4])) <| .mu 4 <| .pure (v := aB true) (by kernel_rfl) (Eq.trans (b := some (.pure (aB (decide (g.Step < 2))))) (by kernel_rfl) (by rw [hb5])) <| .mu 22 <| .done <| .n2 72 [(1, .hp 0 0), (48, aB true)] [.own (api_Grid.c g)] <| .cT (by kernel_rfl) <| .seq <| .ru fine <| .ret ?_
      obtain rfl := Option.some.inj hr
      exact FinQ.r1 [aI64 2]
     ·replace hr := cd_f hb5 hr
      rcases Bool.eq_false_or_eq_true (decide (g.Step > 65536)) with hb6 | hb6
      ·replace hr := cd_t hb6 hr
       refine .r0 fine <| .mu 2 <| .p0 (v := aB false) (Eq.trans (b := some (.pure (aB (decide (g.Width < 2))))) (by kernel_rfl) (by rw [hb1])) <| .mu 3 <| .pure (v := aB false) (by kernel_rfl) (Eq.trans (b := some (.pure (aB (decide (g.Width > 64))))) (by kernel_rfl) (by rw [hb2])) <| .mu 4 <| .pure (v := aB false) (by kernel_rfl) (Eq.trans (b := some (.pure (aB (decide (g.Height < 2))))) (by kernel_rfl) (by rw [hb3])) <| .mu 4 <| .pure (v := aB false) (by kernel_rfl) (Eq.trans (b := some (.pure (aB (decide (g.Height > 64))))) (by kernel_rfl) (by rw [hb4])) <| .mu 4 <| .pure (v := aB false) (by kernel_rfl) (Eq.trans (b := some (.pure (aB (decide (g.Step < 2))))) (by kernel_rfl) (by rw [hb5])) <| .mu 4 <| .pure (v := aB true) (by kernel_rfl) (Eq.trans (b := some (.pure (aB (decide (g.Step > 65536))))) (by kernel_rfl) (by rw [hb6])) <| .mu 17 <| .done <| .n2 72 [(1, .hp 0 0), (48, aB true)] [.own (api_Grid.c g)] <| .cT (by kernel_rfl) <| .seq <| .ru fine <| .ret ?_
       obtain rfl := Option.some.inj hr
       exact FinQ.r1 [aI64 2]
      ·replace hr := cd_f hb6 hr
       rcases Bool.eq_false_or_eq_true (((g.Step.tmod 2) : Int) != 0) with hb7 | hb7
       ·replace hr := cd_t hb7 hr
        refine .r0 fine <| .mu 2 <| .p0 (v := aB false) (Eq.trans (b := some (.pure (aB (decide (g.Width < 2))))) (by kernel_rfl) (by rw [hb1])) <| .mu 3 <| .pure (v := aB false) (by kernel_rfl) (Eq.trans (b := some (.pure (aB (decide (g.Width > 64))))) (by kernel_rfl) (by rw [hb2])) <| .mu 4 <| .pure (v := aB false) (by kernel_rfl) (Eq.trans (b := some (.pure (aB (decide (g.Height < 2))))) (by kernel_rfl) (by rw [hb3])) <| .mu 4 <| .pure (v := aB false) (by kernel_rfl) (Eq.trans (b := some (.pure (aB (decide (g.Height > 64))))) (by kernel_rfl) (by rw [hb4])) <| .mu 4 <| .pure (v := aB false) (by kernel_rfl) (Eq.trans (b := some (.pure (aB (decide (g.Step < 2))))) (by kernel_rfl) (by rw [hb5])) <| .mu 4 <| .pure (v := aB false) (by kernel_rfl) (Eq.trans (b := some (.pure (aB (decide (g.Step > 65536))))) (by kernel_rfl) (by rw [hb6])) <| .mu 5 <| .pure (v := aB true) (by kernel_rfl) (Eq.trans (b := some (.pure (aB (((g.Step.tmod 2) : Int) != 0)))) (by kernel_rfl) (by rw [hb7])) <| .mu 11 <| .done <| .n2 72 [(1, .hp 0 0), (48, aB true)] [.own (api_Grid.c g)] <| .cT (by kernel_rfl) <| .seq <| .ru fine <| .ret ?_
        obtain rfl := Option.some.inj hr
        exact FinQ.r1 [aI64 2]
       ·replace hr := cd_f hb7 hr
        obtain ⟨v8, hc9, hr⟩ := bd hr
        rcases Bool.eq_false_or_eq_true v8 with hb10 | hb10
        ·subst hb10
         replace hr := cd_t rfl hr
         refine .g1 fine (ok0 (fiduciallaw51_out_ok n g.X0 true hc9)) <| .mu 2 <| .p0 (v := aB false) (Eq.trans (b := some (.pure (aB (decide (g.Width < 2))))) (by kernel_rfl) (by rw [hb1])) <| .mu 3 <| .pure (v := aB false) (by kernel_rfl) (Eq.trans (b := some (.pure (aB (decide (g.Width > 64))))) (by kernel_rfl) (by rw [hb2])) <| .mu 4 <| .pure (v := aB false) (by kernel_rfl) (Eq.trans (b := some (.pure (aB (decide (g.Height < 2))))) (by kernel_rfl) (by rw [hb3])) <| .mu 4 <| .pure (v := aB false) (by kernel_rfl) (Eq.trans (b := some (.pure (aB (decide (g.Height > 64))))) (by kernel_rfl) (by rw [hb4])) <| .mu 4 <| .pure (v := aB false) (by kernel_rfl) (Eq.trans (b := some (.pure (aB (decide (g.Step < 2))))) (by kernel_rfl) (by rw [hb5])) <| .mu 4 <| .pure (v := aB false) (by kernel_rfl) (Eq.trans (b := some (.pure (aB (decide (g.Step > 65536))))) (by kernel_rfl) (by rw [hb6])) <| .mu 5 <| .pure (v := aB false) (by kernel_rfl) (Eq.trans (b := some (.pure (aB (((g.Step.tmod 2) : Int) != 0)))) (by kernel_rfl) (by rw [hb7])) <| .mu 4 <| .ca cf0 <| .mu 6 <| .done <| .n2 72 [(1, .hp 0 0), (48, aB true)] [.own (api_Grid.c g)] <| .cT (by kernel_rfl) <| .seq <| .ru fine <| .ret ?_
         obtain rfl := Option.some.inj hr
         exact FinQ.r1 [aI64 2]
        ·subst hb10
         replace hr := cd_f rfl hr
         obtain ⟨v11, hc12, hr⟩ := bd hr
         refine .gn fine (ca1 (ok0 (fiduciallaw51_out_ok n g.X0 false hc9)) (ca3 (ok0 (fiduciallaw51_out_ok n g.Y0 v11 hc12)))) <| .mu 2 <| .p0 (v := aB false) (Eq.trans (b := some (.pure (aB (decide (g.Width < 2))))) (by kernel_rfl) (by rw [hb1])) <| .mu 3 <| .pure (v := aB false) (by kernel_rfl) (Eq.trans (b := some (.pure (aB (decide (g.Width > 64))))) (by kernel_rfl) (by rw [hb2])) <| .mu 4 <| .pure (v := aB false) (by kernel_rfl) (Eq.trans (b := some (.pure (aB (decide (g.Height < 2))))) (by kernel_rfl) (by rw [hb3])) <| .mu 4 <| .pure (v := aB false) (by kernel_rfl) (Eq.trans (b := some (.pure (aB (decide (g.Height > 64))))) (by kernel_rfl) (by rw [hb4])) <| .mu 4 <| .pure (v := aB false) (by kernel_rfl) (Eq.trans (b := some (.pure (aB (decide (g.Step < 2))))) (by kernel_rfl) (by rw [hb5])) <| .mu 4 <| .pure (v := aB false) (by kernel_rfl) (Eq.trans (b := some (.pure (aB (decide (g.Step > 65536))))) (by kernel_rfl) (by rw [hb6])) <| .mu 5 <| .pure (v := aB false) (by kernel_rfl) (Eq.trans (b := some (.pure (aB (((g.Step.tmod 2) : Int) != 0)))) (by kernel_rfl) (by rw [hb7])) <| .mu 4 <| .ca cf0 <| .mu 4 <| .ca (cfA (fun h => by rw [sv hc12 hc9 (fiduciallaw51_out_cg n h)]) cf0) <| .mu 1 <| .done <| .n2 72 [(1, .hp 0 0), (48, aB v11)] [.own (api_Grid.c g)] ?_
         refine .cd hr (fun hb13 hr => ?_) (fun hb13 hr => ?_)
         ·refine .seq <| .ru fine <| .ret ?_
          obtain rfl := Option.some.inj hr
          exact FinQ.r1 [aI64 2]
         ·refine .skip <| .seq <| .seq <| .r3 fine 72 [(1, .hp 0 0), (57, aB (((g.Z.length : Int) : Int) != (wrapF .i64 (g.Width * g.Height))))] ?_
          refine .cd hr (fun hb14 hr => ?_) (fun hb14 hr => ?_)
          ·refine .seq <| .ru fine <| .ret ?_
           obtain rfl := Option.some.inj hr
           exact FinQ.r1 [aI64 4]
          ·refine .skip <| .seq <| .seq <| .r3 fine 72 [(59, sI64 g.Z), (60, aI64 (g.Z.length : Int)), (61, aI64 0)] <| .block ?_
           replace hr := bd hr; obtain ⟨o29, hL30, hr⟩ := hr
           refine .loopO (σ := fun z0 => match z0 with | x_15 => ⟨mkS 72 0 [(59, sI64 g.Z), (60, aI64 (g.Z.length : Int)), (61, aI64 x_15)], []⟩) (Q := fun x st' => match (generalizing := false) o29 with | .inl _ => x = .exit 0 ∧ Wk 0 st' ⟨mkS 72 0 [], []⟩ | .inr (r0) => x = .ret ∧ FinQ Tryz.prog [.tmp 2] (aI64 r0) .ret st') hL30 ((Wk.gc [59, 60, 61] [] rfl pK0).to (by kernel_rfl)) ?_ ?_
           ·clear hr
            rintro m x_15 hr
            show CQ _ _ _ _ _ ⟨_, _⟩
            refine .seq <| .r3 fine 72 [(59, sI64 g.Z), (60, aI64 (g.Z.length : Int)), (61, aI64 x_15), (62, aB (decide (x_15 < (g.Z.length : Int))))] <| .seq ?_
            refine .cd hr (fun hb23 hr => ?_) (fun hb23 hr => ?_)
            ·refine .skip <| .seq <| .block <| .seq ?_
             obtain ⟨hg24, hr⟩ := gd hr
             refine .r0 fine <| .p0 (v := .pp (g.Z.flatMap (iC .i64)) (x_15.toNat * 1)) (Eq.trans (b := ORes.ofP (guardV (inR x_15 g.Z.length) (.pp (g.Z.flatMap (iC .i64)) (x_15.toNat * 1)))) (by kernel_rfl) (ofP_guard hg24)) <| .p0 (v := aI64 (gt g.Z x_15)) (Eq.trans (b := ORes.ofP ((g.Z.flatMap (iC .i64))[x_15.toNat * 1]?)) (by kernel_rfl) (ofP_some (flat_get (iC_len _) (inR_lt hg24) (by decide : 0 < 1) (by omega : x_15.toNat * 1 = x_15.toNat * 1 + 0) (by kernel_rfl)))) <| .mu 1 <| .done <| .n2 72 [(4, aI64 (gt g.Z x_15)), (59, sI64 g.Z), (60, aI64 (g.Z.length : Int)), (61, aI64 x_15)] [] <| .seq ?_
             rcases Bool.eq_false_or_eq_true (((gt g.Z x_15) : Int) != (-2147483648)) with hb25 | hb25
             ·replace hr := cd_t hb25 hr
              obtain ⟨v26, hc27, hr⟩ := bd hr
              refine .g1 fine (ok0 (fiduciallaw51_out_ok n (gt g.Z x_15) v26 hc27)) <| .mu 1 <| .p0 (v := aB true) (Eq.trans (b := some (.pure (aB (((gt g.Z x_15) : Int) != (-2147483648))))) (by kernel_rfl) (by rw [hb25])) <| .mu 2 <| .ca cf0 <| .mu 1 <| .done <| .n2 72 [(59, sI64 g.Z), (60, aI64 (g.Z.length : Int)), (61, aI64 x_15), (70, aB v26)] [] ?_
              refine .cd hr (fun hb28 hr => ?_) (fun hb28 hr => ?_)
              ·refine .seq <| .ru fine <| .ret ?_
               obtain rfl := Option.some.inj hr
               exact ⟨rfl, FinQ.ret (vs := [aI64 2]) (by kernel_rfl) (Sn.pure rfl)⟩
              ·refine .skip <| .pop <| .ru fine ?_
               exact loopF_back (wrapF .i64 (x_15 + 1)) hr ((Wk.gc [59, 60, 61] [] rfl pK0).to (by kernel_rfl))
             ·replace hr := cd_f hb25 hr
              refine .r0 fine <| .mu 1 <| .p0 (v := aB false) (Eq.trans (b := some (.pure (aB (((gt g.Z x_15) : Int) != (-2147483648))))) (by kernel_rfl) (by rw [hb25])) <| .mu 4 <| .done <| .n2 72 [(59, sI64 g.Z), (60, aI64 (g.Z.length : Int)), (61, aI64 x_15), (70, aB false)] [] <| .cF (by kernel_rfl) <| .skip <| .pop <| .ru fine ?_
              exact loopF_back (wrapF .i64 (x_15 + 1)) hr ((Wk.gc [59, 60, 61] [] rfl pK0).to (by kernel_rfl))
            ·refine .leave rfl ?_
             obtain rfl := Option.some.inj hr
             exact ⟨rfl, ((Wk.gc [] [] rfl pK0).to (by kernel_rfl))⟩
           ·rcases o29 with ⟨⟩ | r0
            ·rintro x st' hq31
             clear hL30
             obtain ⟨rfl, hq31⟩ := hq31
             refine CQ_exit _ rfl <| .wk hq31 <| .seq <| .ru fine <| .ret ?_
             obtain rfl := Option.some.inj hr
             exact FinQ.r1 [aI64 0]
            ·rintro x st' hq31
             clear hL30
             obtain ⟨rfl, hq31⟩ := hq31
             obtain rfl := Option.some.inj hr
             exact CQ_ret _ hq31

theorem fiduciallaw51_Checked_ok (n : Nat) (g : api_Grid) (r : Int) (hr : fiduciallaw51_Checked n g = some r) : FnOk Tryz.prog 116 [.agg (api_Grid.c g)] (aI64 r) := by
 unfold fiduciallaw51_Checked at hr
 refine FnOk.bd fine Tryz.func116 [.tmp 2] ?_
 unfold Tryz.f116
 simp only [Option.getD_some]
 refine .seq <| .r2 fine 5 [(1, .hp 0 0)] [.own (api_Grid.c g)] <| .seq ?_
 obtain ⟨v1, hc2, hr⟩ := bd hr
 refine .g1 fine (ok0 (fiduciallaw51_check_ok n g v1 hc2)) <| .mu 1 <| .ca cf0 <| .mu 1 <| .done <| .ret ?_
 obtain rfl := Option.some.inj hr
 exact FinQ.r1 [aI64 v1]

theorem fiduciallaw59_check_ok (n : Nat) (b : api_Banded) (r : Int) (hr : fiduciallaw59_check n b = some r) : FnOk Tryz.prog 67 [.agg (api_Banded.c b)] (aI64 r) := by
 unfold fiduciallaw59_check at hr
 refine FnOk.bd fine Tryz.func67 [.tmp 2] ?_
 unfold Tryz.f67
 simp only [Option.getD_some]
 refine .seq <| .r2 fine 34 [(1, .hp 0 0)] [.own (api_Banded.c b)] <| .seq <| .seq ?_
 obtain ⟨v1, hc2, hr⟩ := bd hr
 refine .g1 fine (ok0 (fiduciallaw51_Checked_ok n b.Grid v1 hc2)) <| .mu 2 <| .ca cf0 <| .mu 1 <| .done <| .n2 34 [(1, .hp 0 0), (3, aI64 v1)] [.own (api_Banded.c b)] <| .seq <| .r3 fine 34 [(1, .hp 0 0), (3, aI64 v1), (10, aB ((v1 : Int) != 0))] ?_
 refine .cd hr (fun hb3 hr => ?_) (fun hb3 hr => ?_)
 ·refine .seq <| .ru fine <| .ret ?_
  obtain rfl := Option.some.inj hr
  exact FinQ.r1 [aI64 v1]
 ·refine .skip <| .seq <| .seq <| .r3 fine 34 [(1, .hp 0 0), (19, aB (((b.Err.length : Int) : Int) != (b.Grid.Z.length : Int)))] ?_
  refine .cd hr (fun hb4 hr => ?_) (fun hb4 hr => ?_)
  ·refine .seq <| .ru fine <| .ret ?_
   obtain rfl := Option.some.inj hr
   exact FinQ.r1 [aI64 4]
  ·refine .skip <| .seq <| .seq <| .r3 fine 34 [(21, sI64 b.Err), (22, aI64 (b.Err.length : Int)), (23, aI64 0)] <| .block ?_
   replace hr := bd hr; obtain ⟨o15, hL16, hr⟩ := hr
   refine .loopO (σ := fun z0 => match z0 with | x_5 => ⟨mkS 34 0 [(21, sI64 b.Err), (22, aI64 (b.Err.length : Int)), (23, aI64 x_5)], []⟩) (Q := fun x st' => match (generalizing := false) o15 with | .inl _ => x = .exit 0 ∧ Wk 0 st' ⟨mkS 34 0 [], []⟩ | .inr (r0) => x = .ret ∧ FinQ Tryz.prog [.tmp 2] (aI64 r0) .ret st') hL16 ((Wk.gc [21, 22, 23] [] rfl pK0).to (by kernel_rfl)) ?_ ?_
   ·clear hr
    rintro m x_5 hr
    show CQ _ _ _ _ _ ⟨_, _⟩
    refine .seq <| .r3 fine 34 [(21, sI64 b.Err), (22, aI64 (b.Err.length : Int)), (23, aI64 x_5), (24, aB (decide (x_5 < (b.Err.length : Int))))] <| .seq ?_
    refine .cd hr (fun hb11 hr => ?_) (fun hb11 hr => ?_)
    ·refine .skip <| .seq <| .block <| .seq ?_
     obtain ⟨hg12, hr⟩ := gd hr
     refine .r0 fine <| .p0 (v := .pp (b.Err.flatMap (iC .i64)) (x_5.toNat * 1)) (Eq.trans (b := ORes.ofP (guardV (inR x_5 b.Err.length) (.pp (b.Err.flatMap (iC .i64)) (x_5.toNat * 1)))) (by kernel_rfl) (ofP_guard hg12)) <| .p0 (v := aI64 (gt b.Err x_5)) (Eq.trans (b := ORes.ofP ((b.Err.flatMap (iC .i64))[x_5.toNat * 1]?)) (by kernel_rfl) (ofP_some (flat_get (iC_len _) (inR_lt hg12) (by decide : 0 < 1) (by omega : x_5.toNat * 1 = x_5.toNat * 1 + 0) (by kernel_rfl)))) <| .mu 1 <| .done <| .n2 34 [(5, aI64 (gt b.Err x_5)), (21, sI64 b.Err), (22, aI64 (b.Err.length : Int)), (23, aI64 x_5)] [] <| .seq ?_
     rcases Bool.eq_false_or_eq_true (decide ((gt b.Err x_5) < 0)) with hb13 | hb13
     ·replace hr := cd_t hb13 hr
      refine .r0 fine <| .mu 1 <| .p0 (v := aB true) (Eq.trans (b := some (.pure (aB (decide ((gt b.Err x_5) < 0))))) (by kernel_rfl) (by rw [hb13])) <| .mu 4 <| .done <| .n2 34 [(21, sI64 b.Err), (22, aI64 (b.Err.length : Int)), (23, aI64 x_5), (32, aB true)] [] <| .cT (by kernel_rfl) <| .seq <| .ru fine <| .ret ?_
      obtain rfl := Option.some.inj hr
      exact ⟨rfl, FinQ.ret (vs := [aI64 2]) (by kernel_rfl) (Sn.pure rfl)⟩
     ·replace hr := cd_f hb13 hr
      refine .r0 fine <| .mu 1 <| .p0 (v := aB false) (Eq.trans (b := some (.pure (aB (decide ((gt b.Err x_5) < 0))))) (by kernel_rfl) (by rw [hb13])) <| .mu 4 <| .done <| .n2 34 [(21, sI64 b.Err), (22, aI64 (b.Err.length : Int)), (23, aI64 x_5), (32, aB (decide ((gt b.Err x_5) > 1048576)))] [] ?_
      refine .cd hr (fun hb14 hr => ?_) (fun hb14 hr => ?_)
      ·refine .seq <| .ru fine <| .ret ?_
       obtain rfl := Option.some.inj hr
       exact ⟨rfl, FinQ.ret (vs := [aI64 2]) (by kernel_rfl) (Sn.pure rfl)⟩
      ·refine .skip <| .pop <| .ru fine ?_
       exact loopF_back (wrapF .i64 (x_5 + 1)) hr ((Wk.gc [21, 22, 23] [] rfl pK0).to (by kernel_rfl))
    ·refine .leave rfl ?_
     obtain rfl := Option.some.inj hr
     exact ⟨rfl, ((Wk.gc [] [] rfl pK0).to (by kernel_rfl))⟩
   ·rcases o15 with ⟨⟩ | r0
    ·rintro x st' hq17
     clear hL16
     obtain ⟨rfl, hq17⟩ := hq17
     refine CQ_exit _ rfl <| .wk hq17 <| .seq <| .ru fine <| .ret ?_
     obtain rfl := Option.some.inj hr
     exact FinQ.r1 [aI64 0]
    ·rintro x st' hq17
     clear hL16
     obtain ⟨rfl, hq17⟩ := hq17
     obtain rfl := Option.some.inj hr
     exact CQ_ret _ hq17

theorem fiduciallaw59_fits_ok (n : Nat) (l : List api_Banded) (r : Int) (hr : fiduciallaw59_fits n l = some r) : FnOk Tryz.prog 24 [slT api_Banded.c l] (aI64 r) := by
 unfold fiduciallaw59_fits at hr
 refine FnOk.bd fine Tryz.func24 [.tmp 2] ?_
 unfold Tryz.f24
 simp only [Option.getD_some]
 refine .seq <| .r3 fine 68 [(0, slT api_Banded.c l)] <| .seq <| .seq <| .r3 fine 68 [(0, slT api_Banded.c l), (10, slT api_Banded.c l), (11, aI64 (l.length : Int)), (12, aI64 0)] <| .block ?_
 replace hr := bd hr; obtain ⟨o13, hL14, hr⟩ := hr
 refine .loopO (σ := fun z0 => match z0 with | x_1 => ⟨mkS 68 0 [(0, slT api_Banded.c l), (10, slT api_Banded.c l), (11, aI64 (l.length : Int)), (12, aI64 x_1)], []⟩) (Q := fun x st' => match (generalizing := false) o13 with | .inl _ => x = .exit 0 ∧ Wk 0 st' ⟨mkS 68 0 [(0, slT api_Banded.c l)], []⟩ | .inr (r0) => x = .ret ∧ FinQ Tryz.prog [.tmp 2] (aI64 r0) .ret st') hL14 ((Wk.gc [0, 10, 11, 12] [] rfl pK0).to (by kernel_rfl)) ?_ ?_
 ·clear hr
  rintro m x_1 hr
  show CQ _ _ _ _ _ ⟨_, _⟩
  refine .seq <| .r3 fine 68 [(0, slT api_Banded.c l), (10, slT api_Banded.c l), (11, aI64 (l.length : Int)), (12, aI64 x_1), (13, aB (decide (x_1 < (l.length : Int))))] <| .seq ?_
  refine .cd hr (fun hb8 hr => ?_) (fun hb8 hr => ?_)
  ·refine .skip <| .seq <| .block <| .seq ?_
   obtain ⟨hg9, hr⟩ := gd hr
   refine .r0 fine <| .p0 (v := .pp (l.flatMap api_Banded.c) (x_1.toNat * 7)) (Eq.trans (b := ORes.ofP (guardV (inR x_1 l.length) (.pp (l.flatMap api_Banded.c) (x_1.toNat * 7)))) (by kernel_rfl) (ofP_guard hg9)) <| .p0 (v := .agg (api_Banded.c (gt l x_1))) (Eq.trans (b := ORes.ofP (guardV (decide (7 ≤ ((l.flatMap api_Banded.c).drop (x_1.toNat * 7)).length)) (.agg (((l.flatMap api_Banded.c).drop (x_1.toNat * 7)).take 7)))) (by kernel_rfl) (flat_load api_Banded.len (inR_lt hg9) (by decide) (by omega : x_1.toNat * 7 = x_1.toNat * 7 + 0) (by kernel_rfl))) <| .mu 2 <| .done <| .n2 68 [(0, slT api_Banded.c l), (4, .hp 0 0), (10, slT api_Banded.c l), (11, aI64 (l.length : Int)), (12, aI64 x_1)] [.own (api_Banded.c (gt l x_1))] <| .seq ?_
   obtain ⟨v10, hc11, hr⟩ := bd hr
   refine .g1 fine (ok0 (fiduciallaw59_check_ok n (gt l x_1) v10 hc11)) <| .mu 1 <| .ca cf0 <| .mu 1 <| .done <| .n2 68 [(0, slT api_Banded.c l), (5, aI64 v10), (10, slT api_Banded.c l), (11, aI64 (l.length : Int)), (12, aI64 x_1)] [.own (api_Banded.c (gt l x_1))] <| .seq <| .r3 fine 68 [(0, slT api_Banded.c l), (5, aI64 v10), (10, slT api_Banded.c l), (11, aI64 (l.length : Int)), (12, aI64 x_1), (19, aB ((v10 : Int) != 0))] ?_
   refine .cd hr (fun hb12 hr => ?_) (fun hb12 hr => ?_)
   ·refine .seq <| .ru fine <| .ret ?_
    obtain rfl := Option.some.inj hr
    exact ⟨rfl, FinQ.ret (vs := [aI64 v10]) (by kernel_rfl) (Sn.pure rfl)⟩
   ·refine .skip <| .pop <| .ru fine ?_
    exact loopF_back (wrapF .i64 (x_1 + 1)) hr ((Wk.gc [0, 10, 11, 12] [] rfl pK0).to (by kernel_rfl))
  ·refine .leave rfl ?_
   obtain rfl := Option.some.inj hr
   exact ⟨rfl, ((Wk.gc [0] [] rfl pK0).to (by kernel_rfl))⟩
 ·rcases o13 with ⟨⟩ | r0
  ·rintro x st' hq15
   clear hL14
   obtain ⟨rfl, hq15⟩ := hq15
   refine CQ_exit _ rfl <| .wk hq15 <| .seq <| .seq <| .r3 fine 68 [(0, slT api_Banded.c l), (22, slT api_Banded.c l), (23, aI64 (l.length : Int)), (24, aI64 0)] <| .block ?_
   replace hr := bd hr; obtain ⟨o34, hL35, hr⟩ := hr
   refine .loopO (σ := fun z0 => match z0 with | x_16 => ⟨mkS 68 0 [(0, slT api_Banded.c l), (22, slT api_Banded.c l), (23, aI64 (l.length : Int)), (24, aI64 x_16)], []⟩) (Q := fun x st' => match (generalizing := false) o34 with | .inl _ => x = .exit 2 ∧ Wk 0 st' ⟨mkS 68 0 [], []⟩ | .inr (r0) => x = .ret ∧ FinQ Tryz.prog [.tmp 2] (aI64 r0) .ret st') hL35 ((Wk.gc [0, 22, 23, 24] [] rfl pK0).to (by kernel_rfl)) ?_ ?_
   ·clear hr
    rintro m x_16 hr
    show CQ _ _ _ _ _ ⟨_, _⟩
    refine .seq <| .r3 fine 68 [(0, slT api_Banded.c l), (22, slT api_Banded.c l), (23, aI64 (l.length : Int)), (24, aI64 x_16), (25, aB (decide (x_16 < (l.length : Int))))] <| .seq ?_
    refine .cd hr (fun hb26 hr => ?_) (fun hb26 hr => ?_)
    ·refine .skip <| .seq <| .block <| .seq ?_
     obtain ⟨hg27, hr⟩ := gd hr
     refine .r0 fine <| .p0 (v := .pp (l.flatMap api_Banded.c) (x_16.toNat * 7)) (Eq.trans (b := ORes.ofP (guardV (inR x_16 l.length) (.pp (l.flatMap api_Banded.c) (x_16.toNat * 7)))) (by kernel_rfl) (ofP_guard hg27)) <| .p0 (v := .agg (api_Banded.c (gt l x_16))) (Eq.trans (b := ORes.ofP (guardV (decide (7 ≤ ((l.flatMap api_Banded.c).drop (x_16.toNat * 7)).length)) (.agg (((l.flatMap api_Banded.c).drop (x_16.toNat * 7)).take 7)))) (by kernel_rfl) (flat_load api_Banded.len (inR_lt hg27) (by decide) (by omega : x_16.toNat * 7 = x_16.toNat * 7 + 0) (by kernel_rfl))) <| .mu 2 <| .done <| .n2 68 [(0, slT api_Banded.c l), (7, .hp 0 0), (22, slT api_Banded.c l), (23, aI64 (l.length : Int)), (24, aI64 x_16)] [.own (api_Banded.c (gt l x_16))] <| .seq ?_
     obtain ⟨hg28, hr⟩ := gd hr
     refine .regionT fine callOf_nil <| .mu 1 <| .pure (v := .pp (l.flatMap api_Banded.c) ((0 : Int).toNat * 7)) (by kernel_rfl) (Eq.trans (b := ORes.ofP (guardV (inR 0 l.length) (.pp (l.flatMap api_Banded.c) ((0 : Int).toNat * 7)))) (by kernel_rfl) (ofP_guard hg28)) (by kernel_rfl) <| .mu 1 <| .pure (v := .agg (api_Grid.c (gt l 0).Grid)) (by kernel_rfl) (Eq.trans (b := ORes.ofP (guardV (decide (6 ≤ ((l.flatMap api_Banded.c).drop ((0 : Int).toNat * 7 + 0)).length)) (.agg (((l.flatMap api_Banded.c).drop ((0 : Int).toNat * 7 + 0)).take 6)))) (by kernel_rfl) (flat_load api_Banded.len (inR_lt hg28) (by decide) (by omega : (0 : Int).toNat * 7 + 0 = (0 : Int).toNat * 7 + 0) (by kernel_rfl))) (by kernel_rfl) <| .mu 6 ?_
     refine .done ⟨by kernel_rfl, ?_⟩
     refine .n2 68 [(0, slT api_Banded.c l), (8, .hp 1 0), (9, .hp 2 0), (22, slT api_Banded.c l), (23, aI64 (l.length : Int)), (24, aI64 x_16)] [.own (api_Banded.c (gt l x_16)), .own (api_Grid.c (gt l 0).Grid), .own (api_Grid.c (gt l x_16).Grid)] <| .seq ?_
     rcases Bool.eq_false_or_eq_true (((gt l 0).Grid.X0 : Int) != (gt l x_16).Grid.X0) with hb29 | hb29
     ·replace hr := cd_t hb29 hr
      refine .r0 fine <| .mu 4 <| .p0 (v := aB true) (Eq.trans (b := some (.pure (aB (((gt l 0).Grid.X0 : Int) != (gt l x_16).Grid.X0)))) (by kernel_rfl) (by rw [hb29])) <| .mu 28 <| .done <| .n2 68 [(0, slT api_Banded.c l), (22, slT api_Banded.c l), (23, aI64 (l.length : Int)), (24, aI64 x_16), (66, aB true)] [.own (api_Banded.c (gt l x_16)), .own (api_Grid.c (gt l 0).Grid), .own (api_Grid.c (gt l x_16).Grid)] <| .cT (by kernel_rfl) <| .seq <| .ru fine <| .ret ?_
      obtain rfl := Option.some.inj hr
      exact ⟨rfl, FinQ.ret (vs := [aI64 4]) (by kernel_rfl) (Sn.pure rfl)⟩
     ·replace hr := cd_f hb29 hr
      rcases Bool.eq_false_or_eq_true (((gt l 0).Grid.Y0 : Int) != (gt l x_16).Grid.Y0) with hb30 | hb30
      ·replace hr := cd_t hb30 hr
       refine .r0 fine <| .mu 4 <| .p0 (v := aB false) (Eq.trans (b := some (.pure (aB (((gt l 0).Grid.X0 : Int) != (gt l x_16).Grid.X0)))) (by kernel_rfl) (by rw [hb29])) <| .mu 5 <| .pure (v := aB true) (by kernel_rfl) (Eq.trans (b := some (.pure (aB (((gt l 0).Grid.Y0 : Int) != (gt l x_16).Grid.Y0)))) (by kernel_rfl) (by rw [hb30])) <| .mu 22 <| .done <| .n2 68 [(0, slT api_Banded.c l), (22, slT api_Banded.c l), (23, aI64 (l.length : Int)), (24, aI64 x_16), (66, aB true)] [.own (api_Banded.c (gt l x_16)), .own (api_Grid.c (gt l 0).Grid), .own (api_Grid.c (gt l x_16).Grid)] <| .cT (by kernel_rfl) <| .seq <| .ru fine <| .ret ?_
       obtain rfl := Option.some.inj hr
       exact ⟨rfl, FinQ.ret (vs := [aI64 4]) (by kernel_rfl) (Sn.pure rfl)⟩
      ·replace hr := cd_f hb30 hr
       rcases Bool.eq_false_or_eq_true (((gt l 0).Grid.Step : Int) != (gt l x_16).Grid.Step) with hb31 | hb31
       ·replace hr := cd_t hb31 hr
        refine .r0 fine <| .mu 4 <| .p0 (v := aB false) (Eq.trans (b := some (.pure (aB (((gt l 0).Grid.X0 : Int) != (gt l x_16).Grid.X0)))) (by kernel_rfl) (by rw [hb29])) <| .mu 5 <| .pure (v := aB false) (by kernel_rfl) (Eq.trans (b := some (.pure (aB (((gt l 0).Grid.Y0 : Int) != (gt l x_16).Grid.Y0)))) (by kernel_rfl) (by rw [hb30])) <| .mu 6 <| .pure (v := aB true) (by kernel_rfl) (Eq.trans (b := some (.pure (aB (((gt l 0).Grid.Step : Int) != (gt l x_16).Grid.Step)))) (by kernel_rfl) (by rw [hb31])) <| .mu 15 <| .done <| .n2 68 [(0, slT api_Banded.c l), (22, slT api_Banded.c l), (23, aI64 (l.length : Int)), (24, aI64 x_16), (66, aB true)] [.own (api_Banded.c (gt l x_16)), .own (api_Grid.c (gt l 0).Grid), .own (api_Grid.c (gt l x_16).Grid)] <| .cT (by kernel_rfl) <| .seq <| .ru fine <| .ret ?_
        obtain rfl := Option.some.inj hr
        exact ⟨rfl, FinQ.ret (vs := [aI64 4]) (by kernel_rfl) (Sn.pure rfl)⟩
       ·replace hr := cd_f hb31 hr
        rcases Bool.eq_false_or_eq_true (((gt l 0).Grid.Width : Int) != (gt l x_16).Grid.Width) with hb32 | hb32
        ·replace hr := cd_t hb32 hr
         refine .r0 fine <| .mu 4 <| .p0 (v := aB false) (Eq.trans (b := some (.pure (aB (((gt l 0).Grid.X0 : Int) != (gt l x_16).Grid.X0)))) (by kernel_rfl) (by rw [hb29])) <| .mu 5 <| .pure (v := aB false) (by kernel_rfl) (Eq.trans (b := some (.pure (aB (((gt l 0).Grid.Y0 : Int) != (gt l x_16).Grid.Y0)))) (by kernel_rfl) (by rw [hb30])) <| .mu 6 <| .pure (v := aB false) (by kernel_rfl) (Eq.trans (b := some (.pure (aB (((gt l 0).Grid.Step : Int) != (gt l x_16).Grid.Step)))) (by kernel_rfl) (by rw [hb31])) <| .mu 6 <| .pure (v := aB true) (by kernel_rfl) (Eq.trans (b := some (.pure (aB (((gt l 0).Grid.Width : Int) != (gt l x_16).Grid.Width)))) (by kernel_rfl) (by rw [hb32])) <| .mu 8 <| .done <| .n2 68 [(0, slT api_Banded.c l), (22, slT api_Banded.c l), (23, aI64 (l.length : Int)), (24, aI64 x_16), (66, aB true)] [.own (api_Banded.c (gt l x_16)), .own (api_Grid.c (gt l 0).Grid), .own (api_Grid.c (gt l x_16).Grid)] <| .cT (by kernel_rfl) <| .seq <| .ru fine <| .ret ?_
         obtain rfl := Option.some.inj hr
         exact ⟨rfl, FinQ.ret (vs := [aI64 4]) (by kernel_rfl) (Sn.pure rfl)⟩
        ·replace hr := cd_f hb32 hr
         refine .r0 fine <| .mu 4 <| .p0 (v := aB false) (Eq.trans (b := some (.pure (aB (((gt l 0).Grid.X0 : Int) != (gt l x_16).Grid.X0)))) (by kernel_rfl) (by rw [hb29])) <| .mu 5 <| .pure (v := aB false) (by kernel_rfl) (Eq.trans (b := some (.pure (aB (((gt l 0).Grid.Y0 : Int) != (gt l x_16).Grid.Y0)))) (by kernel_rfl) (by rw [hb30])) <| .mu 6 <| .pure (v := aB false) (by kernel_rfl) (Eq.trans (b := some (.pure (aB (((gt l 0).Grid.Step : Int) != (gt l x_16).Grid.Step)))) (by kernel_rfl) (by rw [hb31])) <| .mu 6 <| .pure (v := aB false) (by kernel_rfl) (Eq.trans (b := some (.pure (aB (((gt l 0).Grid.Width : Int) != (gt l x_16).Grid.Width)))) (by kernel_rfl) (by rw [hb32])) <| .mu 8 <| .done <| .n2 68 [(0, slT api_Banded.c l), (22, slT api_Banded.c l), (23, aI64 (l.length : Int)), (24, aI64 x_16), (66, aB (((gt l 0).Grid.Height : Int) != (gt l x_16).Grid.Height))] [.own (api_Banded.c (gt l x_16)), .own (api_Grid.c (gt l 0).Grid), .own (api_Grid.c (gt l x_16).Grid)] ?_
         refine .cd hr (fun hb33 hr => ?_) (fun hb33 hr => ?_)
         ·refine .seq <| .ru fine <| .ret ?_
          obtain rfl := Option.some.inj hr
          exact ⟨rfl, FinQ.ret (vs := [aI64 4]) (by kernel_rfl) (Sn.pure rfl)⟩
         ·refine .skip <| .pop <| .ru fine ?_
          exact loopF_back (wrapF .i64 (x_16 + 1)) hr ((Wk.gc [0, 22, 23, 24] [] rfl pK0).to (by kernel_rfl))
    ·refine .leave rfl ?_
     obtain rfl := Option.some.inj hr
     exact ⟨rfl, ((Wk.gc [] [] rfl pK0).to (by kernel_rfl))⟩
   ·rcases o34 with ⟨⟩ | r0
    ·rintro x st' hq36
     clear hL35
     obtain ⟨rfl, hq36⟩ := hq36
     refine CQ_exit _ rfl <| .wk hq36 <| .seq <| .ru fine <| .ret ?_
     obtain rfl := Option.some.inj hr
     exact FinQ.r1 [aI64 0]
    ·rintro x st' hq36
     clear hL35
     obtain ⟨rfl, hq36⟩ := hq36
     obtain rfl := Option.some.inj hr
     exact CQ_ret _ hq36
  ·rintro x st' hq15
   clear hL14
   obtain ⟨rfl, hq15⟩ := hq15
   obtain rfl := Option.some.inj hr
   exact CQ_ret _ hq15

theorem fiduciallaw59_both_ok (n : Nat) (a : api_Banded) (b : api_Banded) (k : Int) (r : Int × Int × Bool) (hr : fiduciallaw59_both n a b k = some r) : FnOk Tryz.prog 120 [.agg (api_Banded.c a), .agg (api_Banded.c b), aI64 k] (.tup [aI64 r.1, aI64 r.2.1, aB r.2.2]) := by
 unfold fiduciallaw59_both at hr
 refine FnOk.bd fine Tryz.func120 [.tmp 6, .tmp 7, .tmp 8] ?_
 unfold Tryz.f120
 simp only [Option.getD_some]
 refine .seq <| .r2 fine 43 [(2, aI64 k), (3, .hp 0 0), (4, .hp 1 0)] [.own (api_Banded.c a), .own (api_Banded.c b)] <| .seq ?_
 obtain ⟨hg1, hg2, hr⟩ := gd2 hr
 refine .regionT fine callOf_nil <| .mu 4 <| .pure (v := .pp (a.Grid.Z.flatMap (iC .i64)) (k.toNat * 1)) (by kernel_rfl) (Eq.trans (b := ORes.ofP (guardV (inR k a.Grid.Z.length) (.pp (a.Grid.Z.flatMap (iC .i64)) (k.toNat * 1)))) (by kernel_rfl) (ofP_guard hg1)) (by kernel_rfl) <| .pure (v := aI64 (gt a.Grid.Z k)) (by kernel_rfl) (Eq.trans (b := ORes.ofP ((a.Grid.Z.flatMap (iC .i64))[k.toNat * 1]?)) (by kernel_rfl) (ofP_some (flat_get (iC_len _) (inR_lt hg1) (by decide : 0 < 1) (by omega : k.toNat * 1 = k.toNat * 1 + 0) (by kernel_rfl)))) (by kernel_rfl) <| .mu 4 <| .pure (v := .pp (b.Grid.Z.flatMap (iC .i64)) (k.toNat * 1)) (by kernel_rfl) (Eq.trans (b := ORes.ofP (guardV (inR k b.Grid.Z.length) (.pp (b.Grid.Z.flatMap (iC .i64)) (k.toNat * 1)))) (by kernel_rfl) (ofP_guard hg2)) (by kernel_rfl) <| .pure (v := aI64 (gt b.Grid.Z k)) (by kernel_rfl) (Eq.trans (b := ORes.ofP ((b.Grid.Z.flatMap (iC .i64))[k.toNat * 1]?)) (by kernel_rfl) (ofP_some (flat_get (iC_len _) (inR_lt hg2) (by decide : 0 < 1) (by omega : k.toNat * 1 = k.toNat * 1 + 0) (by kernel_rfl)))) (by kernel_rfl) <| .mu 2 ?_
 refine .done ⟨by kernel_rfl, ?_⟩
 refine .n2 43 [(2, aI64 k), (3, .hp 0 0), (4, .hp 1 0), (9, aI64 (gt a.Grid.Z k)), (10, aI64 (gt b.Grid.Z k))] [.own (api_Banded.c a), .own (api_Banded.c b)] <| .seq ?_
 obtain ⟨hg3, hg4, hr⟩ := gd2 hr
 rcases Bool.eq_false_or_eq_true (((gt a.Grid.Z k) : Int) != (-2147483648)) with hb5 | hb5
 ·replace hr := cd_t hb5 hr
  refine .regionT fine callOf_nil <| .mu 6 <| .pure (v := .pp (a.Err.flatMap (iC .i64)) (k.toNat * 1)) (by kernel_rfl) (Eq.trans (b := ORes.ofP (guardV (inR k a.Err.length) (.pp (a.Err.flatMap (iC .i64)) (k.toNat * 1)))) (by kernel_rfl) (ofP_guard hg3)) (by kernel_rfl) <| .pure (v := aI64 (gt a.Err k)) (by kernel_rfl) (Eq.trans (b := ORes.ofP ((a.Err.flatMap (iC .i64))[k.toNat * 1]?)) (by kernel_rfl) (ofP_some (flat_get (iC_len _) (inR_lt hg3) (by decide : 0 < 1) (by omega : k.toNat * 1 = k.toNat * 1 + 0) (by kernel_rfl)))) (by kernel_rfl) <| .mu 3 <| .pure (v := .pp (b.Err.flatMap (iC .i64)) (k.toNat * 1)) (by kernel_rfl) (Eq.trans (b := ORes.ofP (guardV (inR k b.Err.length) (.pp (b.Err.flatMap (iC .i64)) (k.toNat * 1)))) (by kernel_rfl) (ofP_guard hg4)) (by kernel_rfl) <| .pure (v := aI64 (gt b.Err k)) (by kernel_rfl) (Eq.trans (b := ORes.ofP ((b.Err.flatMap (iC .i64))[k.toNat * 1]?)) (by kernel_rfl) (ofP_some (flat_get (iC_len _) (inR_lt hg4) (by decide : 0 < 1) (by omega : k.toNat * 1 = k.toNat * 1 + 0) (by kernel_rfl)))) (by kernel_rfl) <| .mu 2 <| .pure (v := aB true) (by kernel_rfl) (Eq.trans (b := some (.pure (aB (((gt a.Grid.Z k) : Int) != (-2147483648))))) (by kernel_rfl) (by rw [hb5])) (by kernel_rfl) <| .mu 7 ?_
  refine .done ⟨by kernel_rfl, ?_⟩
  refine .ret ?_
  obtain rfl := Option.some.inj hr
  exact FinQ.ret (vs := [aI64 (wrapF .i64 ((gt b.Grid.Z k) - (gt a.Grid.Z k))), aI64 (wrapF .i64 ((gt a.Err k) + (gt b.Err k))), aB (((gt b.Grid.Z k) : Int) != (-2147483648))]) (by kernel_rfl) (Sn.tup (SnL.cons (Sn.pure rfl) (SnL.cons (Sn.pure rfl) (SnL.cons (Sn.pure rfl) SnL.nil))))
 ·replace hr := cd_f hb5 hr
  refine .regionT fine callOf_nil <| .mu 6 <| .pure (v := .pp (a.Err.flatMap (iC .i64)) (k.toNat * 1)) (by kernel_rfl) (Eq.trans (b := ORes.ofP (guardV (inR k a.Err.length) (.pp (a.Err.flatMap (iC .i64)) (k.toNat * 1)))) (by kernel_rfl) (ofP_guard hg3)) (by kernel_rfl) <| .pure (v := aI64 (gt a.Err k)) (by kernel_rfl) (Eq.trans (b := ORes.ofP ((a.Err.flatMap (iC .i64))[k.toNat * 1]?)) (by kernel_rfl) (ofP_some (flat_get (iC_len _) (inR_lt hg3) (by decide : 0 < 1) (by omega : k.toNat * 1 = k.toNat * 1 + 0) (by kernel_rfl)))) (by kernel_rfl) <| .mu 3 <| .pure (v := .pp (b.Err.flatMap (iC .i64)) (k.toNat * 1)) (by kernel_rfl) (Eq.trans (b := ORes.ofP (guardV (inR k b.Err.length) (.pp (b.Err.flatMap (iC .i64)) (k.toNat * 1)))) (by kernel_rfl) (ofP_guard hg4)) (by kernel_rfl) <| .pure (v := aI64 (gt b.Err k)) (by kernel_rfl) (Eq.trans (b := ORes.ofP ((b.Err.flatMap (iC .i64))[k.toNat * 1]?)) (by kernel_rfl) (ofP_some (flat_get (iC_len _) (inR_lt hg4) (by decide : 0 < 1) (by omega : k.toNat * 1 = k.toNat * 1 + 0) (by kernel_rfl)))) (by kernel_rfl) <| .mu 2 <| .pure (v := aB false) (by kernel_rfl) (Eq.trans (b := some (.pure (aB (((gt a.Grid.Z k) : Int) != (-2147483648))))) (by kernel_rfl) (by rw [hb5])) (by kernel_rfl) <| .mu 7 ?_
  refine .done ⟨by kernel_rfl, ?_⟩
  refine .ret ?_
  obtain rfl := Option.some.inj hr
  exact FinQ.ret (vs := [aI64 (wrapF .i64 ((gt b.Grid.Z k) - (gt a.Grid.Z k))), aI64 (wrapF .i64 ((gt a.Err k) + (gt b.Err k))), aB false]) (by kernel_rfl) (Sn.tup (SnL.cons (Sn.pure rfl) (SnL.cons (Sn.pure rfl) (SnL.cons (Sn.pure rfl) SnL.nil))))

theorem fiduciallaw59_verdict_inj {a : api_Banded} {b : api_Banded} {k : Int} {a_ : api_Banded} {b_ : api_Banded} {k_ : Int} (h : ([.agg [.at (.int .i64 a.Grid.X0), .at (.int .i64 a.Grid.Y0), .at (.int .i64 a.Grid.Step), .at (.int .i64 a.Grid.Width), .at (.int .i64 a.Grid.Height), slT (iC .i64) a.Grid.Z, slT (iC .i64) a.Err], .agg [.at (.int .i64 b.Grid.X0), .at (.int .i64 b.Grid.Y0), .at (.int .i64 b.Grid.Step), .at (.int .i64 b.Grid.Width), .at (.int .i64 b.Grid.Height), slT (iC .i64) b.Grid.Z, slT (iC .i64) b.Err], .at (.int .i64 k)] : List AV) = [.agg [.at (.int .i64 a_.Grid.X0), .at (.int .i64 a_.Grid.Y0), .at (.int .i64 a_.Grid.Step), .at (.int .i64 a_.Grid.Width), .at (.int .i64 a_.Grid.Height), slT (iC .i64) a_.Grid.Z, slT (iC .i64) a_.Err], .agg [.at (.int .i64 b_.Grid.X0), .at (.int .i64 b_.Grid.Y0), .at (.int .i64 b_.Grid.Step), .at (.int .i64 b_.Grid.Width), .at (.int .i64 b_.Grid.Height), slT (iC .i64) b_.Grid.Z, slT (iC .i64) b_.Err], .at (.int .i64 k_)]) : a = a_ ∧ b = b_ ∧ k = k_ := by
 obtain ⟨⟨_, _, _, _, _, _⟩, _⟩ := a
 obtain ⟨⟨_, _, _, _, _, _⟩, _⟩ := a_
 obtain ⟨⟨_, _, _, _, _, _⟩, _⟩ := b
 obtain ⟨⟨_, _, _, _, _, _⟩, _⟩ := b_
 simp only [List.cons.injEq, AV.agg.injEq, AV.at.injEq, Value.int.injEq, Value.bool.injEq, AV.fn.injEq, AV.pp.injEq, true_and, and_true, slT_inj_int] at h
 simp_all
theorem fiduciallaw59_verdict_cg (n : Nat) {a : api_Banded} {b : api_Banded} {k : Int} {a_ : api_Banded} {b_ : api_Banded} {k_ : Int} (h : ([.agg [.at (.int .i64 a.Grid.X0), .at (.int .i64 a.Grid.Y0), .at (.int .i64 a.Grid.Step), .at (.int .i64 a.Grid.Width), .at (.int .i64 a.Grid.Height), slT (iC .i64) a.Grid.Z, slT (iC .i64) a.Err], .agg [.at (.int .i64 b.Grid.X0), .at (.int .i64 b.Grid.Y0), .at (.int .i64 b.Grid.Step), .at (.int .i64 b.Grid.Width), .at (.int .i64 b.Grid.Height), slT (iC .i64) b.Grid.Z, slT (iC .i64) b.Err], .at (.int .i64 k)] : List AV) = [.agg [.at (.int .i64 a_.Grid.X0), .at (.int .i64 a_.Grid.Y0), .at (.int .i64 a_.Grid.Step), .at (.int .i64 a_.Grid.Width), .at (.int .i64 a_.Grid.Height), slT (iC .i64) a_.Grid.Z, slT (iC .i64) a_.Err], .agg [.at (.int .i64 b_.Grid.X0), .at (.int .i64 b_.Grid.Y0), .at (.int .i64 b_.Grid.Step), .at (.int .i64 b_.Grid.Width), .at (.int .i64 b_.Grid.Height), slT (iC .i64) b_.Grid.Z, slT (iC .i64) b_.Err], .at (.int .i64 k_)]) : fiduciallaw59_verdict n a b k = fiduciallaw59_verdict n a_ b_ k_ := by
 obtain ⟨rfl, rfl, rfl⟩ := fiduciallaw59_verdict_inj h
 rfl
theorem fiduciallaw59_verdict_ok (n : Nat) (a : api_Banded) (b : api_Banded) (k : Int) (r : Int) (hr : fiduciallaw59_verdict n a b k = some r) : FnOk Tryz.prog 71 [.agg (api_Banded.c a), .agg (api_Banded.c b), aI64 k] (aI64 r) := by
 unfold fiduciallaw59_verdict at hr
 refine FnOk.bd fine Tryz.func71 [.tmp 6] ?_
 unfold Tryz.f71
 simp only [Option.getD_some]
 refine .seq <| .r2 fine 30 [(2, aI64 k), (3, .hp 0 0), (4, .hp 1 0)] [.own (api_Banded.c a), .own (api_Banded.c b)] <| .seq ?_
 obtain ⟨v1, hc2, hr⟩ := bd hr
 refine .g1 fine (ok0 (fiduciallaw59_both_ok n a b k v1 hc2)) <| .mu 3 <| .ca cf0 <| .mu 7 <| .done <| .n2 30 [(7, aI64 v1.1), (8, aI64 v1.2.1), (9, aB v1.2.2)] [.own (api_Banded.c a), .own (api_Banded.c b)] <| .seq <| .block <| .seq <| .r3 fine 30 [(7, aI64 v1.1), (8, aI64 v1.2.1), (18, aB (!v1.2.2))] ?_
 refine .cd hr (fun hb3 hr => ?_) (fun hb3 hr => ?_)
 ·refine .seq <| .ru fine <| .ret ?_
  obtain rfl := Option.some.inj hr
  exact FinQ.r1 [aI64 3]
 ·refine .seq <| .r3 fine 30 [(7, aI64 v1.1), (8, aI64 v1.2.1), (21, aB (decide (v1.1 > v1.2.1)))] ?_
  refine .cd hr (fun hb4 hr => ?_) (fun hb4 hr => ?_)
  ·refine .seq <| .ru fine <| .ret ?_
   obtain rfl := Option.some.inj hr
   exact FinQ.r1 [aI64 1]
  ·refine .seq <| .r0 fine <| .mu 2 <| .p0 (v := aI64 (wrapF .i64 (0 - v1.2.1))) (Eq.trans (b := some (.pure (aI64 (IntKind.wrap .i64 (0 - v1.2.1))))) (by kernel_rfl) wrap_at) <| .mu 2 <| .done <| .n2 30 [(25, aB (decide (v1.1 < (wrapF .i64 (0 - v1.2.1)))))] [.own (api_Banded.c a), .own (api_Banded.c b)] ?_
   refine .cd hr (fun hb5 hr => ?_) (fun hb5 hr => ?_)
   ·refine .seq <| .ru fine <| .ret ?_
    obtain rfl := Option.some.inj hr
    exact FinQ.r1 [aI64 2]
   ·refine .skip <| .pop <| .seq <| .ru fine <| .ret ?_
    obtain rfl := Option.some.inj hr
    exact FinQ.r1 [aI64 0]

theorem fiduciallaw59_regions_ok (n : Nat) (a : api_Banded) (b : api_Banded) (r : List api_Region) (hr : fiduciallaw59_regions n a b = some r) : FnOk Tryz.prog 32 [.agg (api_Banded.c a), .agg (api_Banded.c b)] (slT api_Region.c r) := by
 unfold fiduciallaw59_regions at hr
 refine FnOk.bd fine Tryz.func32 [.tmp 4] ?_
 unfold Tryz.f32
 simp only [Option.getD_some]
 refine .seq <| .r2 fine 152 [(2, .hp 0 0), (3, .hp 1 0)] [.own (api_Banded.c a), .own (api_Banded.c b)] <| .seq <| .r3 fine 152 [(2, .hp 0 0), (3, .hp 1 0), (5, aI64 a.Grid.Width)] <| .seq ?_
 obtain ⟨hg1, hg2, hg3, hr⟩ := gd3 hr
 refine .r0 fine <| .mu 4 <| .e0 (v := .hs 2 0 (List.replicate (a.Grid.Z.length : Int).toNat ((0 : Int) : Int)).length 1) (ws := [(2, .own ((List.replicate (a.Grid.Z.length : Int).toNat ((0 : Int) : Int)).flatMap (iC .i64)))]) (Eq.trans (b := guardO (decide (0 ≤ (a.Grid.Z.length : Int)) && decide ((a.Grid.Z.length : Int) ≤ (a.Grid.Z.length : Int)) && decide ((8 : Int) * (a.Grid.Z.length : Int) ≤ 281474976710656) && decide ((a.Grid.Z.length : Int) ≤ 9223372036854775807) && true && true && true) (some (.eff (.hs 2 0 (a.Grid.Z.length : Int).toNat 1) [(2, .own (zerosA [aI64 0] (a.Grid.Z.length : Int).toNat))]))) (by kernel_rfl) (make_own (c := (iC .i64)) (z := (0 : Int)) (n := (a.Grid.Z.length : Int)) (by_ := 8) rfl hg1 hg2 hg3)) <| .mu 1 <| .done <| .n2 152 [(2, .hp 0 0), (3, .hp 1 0), (5, aI64 a.Grid.Width), (6, .hs 2 0 (List.replicate (a.Grid.Z.length : Int).toNat ((0 : Int) : Int)).length 1)] [.own (api_Banded.c a), .own (api_Banded.c b), .own ((List.replicate (a.Grid.Z.length : Int).toNat ((0 : Int) : Int)).flatMap (iC .i64))] <| .seq <| .seq <| .r3 fine 152 [(2, .hp 0 0), (3, .hp 1 0), (5, aI64 a.Grid.Width), (6, .hs 2 0 (List.replicate (a.Grid.Z.length : Int).toNat ((0 : Int) : Int)).length 1), (26, aI64 ((List.replicate (a.Grid.Z.length : Int).toNat ((0 : Int) : Int)).length : Int)), (27, aI64 0)] ?_
 obtain ⟨w4, hw5, hr⟩ := bd hr
 refine .wk ((Wk.refl _).to (c := ⟨mkS 152 0 [(2, .hp 0 0), (3, .hp 1 0), (5, aI64 a.Grid.Width), (6, .hs 2 0 (List.replicate (a.Grid.Z.length : Int).toNat ((0 : Int) : Int)).length 1), (26, aI64 w4), (27, aI64 0)], [.own (api_Banded.c a), .own (api_Banded.c b), .own ((List.replicate (a.Grid.Z.length : Int).toNat ((0 : Int) : Int)).flatMap (iC .i64))]⟩) (by rw [Option.some.inj hw5])) <| .block ?_
 replace hr := bd hr; obtain ⟨label_21, hL26, hr⟩ := hr
 refine .loopO (σ := fun z0 => match z0 with | (label_17, x_18) => ⟨mkS 152 0 [(2, .hp 0 0), (3, .hp 1 0), (5, aI64 a.Grid.Width), (6, .hs 2 0 label_17.length 1), (26, aI64 w4), (27, aI64 x_18)], [.own (api_Banded.c a), .own (api_Banded.c b), .own (label_17.flatMap (iC .i64))]⟩) (Q := fun x st' => x = .exit 0 ∧ Wk 0 st' ⟨mkS 152 0 [(2, .hp 0 0), (3, .hp 1 0), (5, aI64 a.Grid.Width), (6, .hs 2 0 label_21.length 1)], [.own (api_Banded.c a), .own (api_Banded.c b), .own (label_21.flatMap (iC .i64))]⟩) hL26 ((Wk.gc [2, 3, 5, 6, 26, 27] [(0, true), (1, true), (2, false)] rfl (pKt (pKt (pKo (iC .i64) (iC_pure _) (List.replicate (a.Grid.Z.length : Int).toNat ((0 : Int) : Int)) trivial)))).to (by kernel_rfl)) ?_ ?_
 ·clear hr
  rintro m ⟨label_17, x_18⟩ hr
  show CQ _ _ _ _ _ ⟨_, _⟩
  refine .seq <| .r3 fine 152 [(2, .hp 0 0), (3, .hp 1 0), (5, aI64 a.Grid.Width), (6, .hs 2 0 label_17.length 1), (26, aI64 w4), (27, aI64 x_18), (28, aB (decide (x_18 < w4)))] <| .seq ?_
  refine .cd hr (fun hb23 hr => ?_) (fun hb23 hr => ?_)
  ·refine .skip <| .seq <| .block <| .seq <| .r3 fine 152 [(2, .hp 0 0), (3, .hp 1 0), (5, aI64 a.Grid.Width), (6, .hs 2 0 label_17.length 1), (7, aI64 x_18), (26, aI64 w4), (27, aI64 x_18)] ?_
   obtain ⟨hg24, hr⟩ := gd hr
   refine .r0 fine <| .mu 3 <| .p0 (v := .hp 2 (0 + x_18.toNat * 1)) (Eq.trans (b := ORes.ofP (guardV (inR x_18 label_17.length) (.hp 2 (0 + x_18.toNat * 1)))) (by kernel_rfl) (ofP_guard hg24)) <| .e0 (v := .unk) (ws := [(2, .own ((label_17.set x_18.toNat x_18).flatMap (iC .i64)))]) (Eq.trans (b := stO (decide ((0 + x_18.toNat * 1) + 1 ≤ (label_17.flatMap (iC .i64)).length) && true) [(2, .own (setCells (label_17.flatMap (iC .i64)) (0 + x_18.toNat * 1) [aI64 x_18]))]) (by kernel_rfl) (stO_t (and_t (flat_fits (iC_len _) (inR_lt hg24) (Nat.le_of_ble_eq_true rfl) (by omega : 0 + x_18.toNat * 1 = x_18.toNat * 1 + 0))) (congrArg Blk.own (flat_set (iC_len _) (inR_lt hg24) (Nat.le_of_ble_eq_true rfl) (by omega : 0 + x_18.toNat * 1 = x_18.toNat * 1 + 0) (by kernel_rfl))))) <| .done <| .pop <| .ru fine ?_
   exact loopF_back (label_17.set x_18.toNat x_18, wrapF .i64 (x_18 + 1)) hr ((Wk.relen 6 (b := 2) (es := 1) (len := label_17.length) (label_17.set x_18.toNat x_18).length (by kernel_rfl) (by simp)).trans ((Wk.gc [2, 3, 5, 6, 26, 27] [(0, true), (1, true), (2, false)] rfl (pKt (pKt (pKo (iC .i64) (iC_pure _) (label_17.set x_18.toNat x_18) trivial)))).to (by kernel_rfl)))
  ·refine .leave rfl ?_
   obtain rfl := Option.some.inj hr
   exact ⟨rfl, ((Wk.gc [2, 3, 5, 6] [(0, true), (1, true), (2, false)] rfl (pKt (pKt (pKo (iC .i64) (iC_pure _) label_17 trivial)))).to (by kernel_rfl))⟩
 ·rintro x st' hq27
  clear hL26
  obtain ⟨rfl, hq27⟩ := hq27
  refine CQ_exit _ rfl <| .wk hq27 <| .seq <| .seq <| .r3 fine 152 [(2, .hp 0 0), (3, .hp 1 0), (5, aI64 a.Grid.Width), (6, .hs 2 0 label_21.length 1), (36, aI64 (label_21.length : Int)), (37, aI64 0)] <| .block ?_
  replace hr := bd hr; obtain ⟨label_422, hL556, hr⟩ := hr
  refine .loopO (σ := fun z0 => match z0 with | (label_289, x_290) => ⟨mkS 152 0 [(2, .hp 0 0), (3, .hp 1 0), (5, aI64 a.Grid.Width), (6, .hs 2 0 label_289.length 1), (36, aI64 (label_21.length : Int)), (37, aI64 x_290)], [.own (api_Banded.c a), .own (api_Banded.c b), .own (label_289.flatMap (iC .i64))]⟩) (Q := fun x st' => x = .exit 2 ∧ Wk 0 st' ⟨mkS 152 0 [(2, .hp 0 0), (3, .hp 1 0), (6, .hs 2 0 label_422.length 1)], [.own (api_Banded.c a), .own (api_Banded.c b), .own (label_422.flatMap (iC .i64))]⟩) hL556 ((Wk.gc [2, 3, 5, 6, 36, 37] [(0, true), (1, true), (2, false)] rfl (pKt (pKt (pKo (iC .i64) (iC_pure _) label_21 trivial)))).to (by kernel_rfl)) ?_ ?_
  ·clear hr
   rintro m ⟨label_289, x_290⟩ hr
   show CQ _ _ _ _ _ ⟨_, _⟩
   refine .seq <| .r3 fine 152 [(2, .hp 0 0), (3, .hp 1 0), (5, aI64 a.Grid.Width), (6, .hs 2 0 label_289.length 1), (36, aI64 (label_21.length : Int)), (37, aI64 x_290), (38, aB (decide (x_290 < (label_21.length : Int))))] <| .seq ?_
   refine .cd hr (fun hb425 hr => ?_) (fun hb425 hr => ?_)
   ·refine .skip <| .seq <| .block <| .seq <| .r3 fine 152 [(2, .hp 0 0), (3, .hp 1 0), (5, aI64 a.Grid.Width), (6, .hs 2 0 label_289.length 1), (36, aI64 (label_21.length : Int)), (37, aI64 x_290), (40, aI64 (label_289.length : Int)), (41, aI64 0)] <| .block ?_
    replace hr := bd hr; obtain ⟨label_489, hL553, hr⟩ := hr
    refine .loopO (σ := fun z0 => match z0 with | (label_426, x_427) => ⟨mkS 152 0 [(2, .hp 0 0), (3, .hp 1 0), (5, aI64 a.Grid.Width), (6, .hs 2 0 label_426.length 1), (36, aI64 (label_21.length : Int)), (37, aI64 x_290), (40, aI64 (label_289.length : Int)), (41, aI64 x_427)], [.own (api_Banded.c a), .own (api_Banded.c b), .own (label_426.flatMap (iC .i64))]⟩) (Q := fun x st' => x = .exit 4 ∧ Wk 0 st' ⟨mkS 152 0 [(2, .hp 0 0), (3, .hp 1 0), (5, aI64 a.Grid.Width), (6, .hs 2 0 label_489.length 1), (36, aI64 (label_21.length : Int)), (37, aI64 x_290)], [.own (api_Banded.c a), .own (api_Banded.c b), .own (label_489.flatMap (iC .i64))]⟩) hL553 ((Wk.gc [2, 3, 5, 6, 36, 37, 40, 41] [(0, true), (1, true), (2, false)] rfl (pKt (pKt (pKo (iC .i64) (iC_pure _) label_289 trivial)))).to (by kernel_rfl)) ?_ ?_
    ·clear hr
     rintro m ⟨label_426, x_427⟩ hr
     show CQ _ _ _ _ _ ⟨_, _⟩
     refine .seq <| .r3 fine 152 [(2, .hp 0 0), (3, .hp 1 0), (5, aI64 a.Grid.Width), (6, .hs 2 0 label_426.length 1), (36, aI64 (label_21.length : Int)), (37, aI64 x_290), (40, aI64 (label_289.length : Int)), (41, aI64 x_427), (42, aB (decide (x_427 < (label_289.length : Int))))] <| .seq ?_
     refine .cd hr (fun hb492 hr => ?_) (fun hb492 hr => ?_)
     ·refine .skip <| .seq <| .block <| .seq <| .r3 fine 152 [(2, .hp 0 0), (3, .hp 1 0), (5, aI64 a.Grid.Width), (6, .hs 2 0 label_426.length 1), (8, aI64 x_427), (36, aI64 (label_21.length : Int)), (37, aI64 x_290), (40, aI64 (label_289.length : Int)), (41, aI64 x_427)] <| .seq <| .r2 fine 152 [(2, .hp 0 0), (3, .hp 1 0), (5, aI64 a.Grid.Width), (6, .hs 2 0 label_426.length 1), (8, aI64 x_427), (36, aI64 (label_21.length : Int)), (37, aI64 x_290), (40, aI64 (label_289.length : Int)), (41, aI64 x_427), (49, .hs 3 0 2 1), (50, aI64 2), (51, aI64 0)] [.own (api_Banded.c a), .own (api_Banded.c b), .own (label_426.flatMap (iC .i64)), .own [aI64 (wrapF .i64 (x_427 + 1)), aI64 (wrapF .i64 (x_427 + a.Grid.Width))]] <| .block ?_
      replace hr := bd hr; obtain ⟨label_521, hL550, hr⟩ := hr
      refine .loopO (σ := fun z0 => match z0 with | (label_493, x_494) => ⟨mkS 152 0 [(2, .hp 0 0), (3, .hp 1 0), (5, aI64 a.Grid.Width), (6, .hs 2 0 label_493.length 1), (8, aI64 x_427), (36, aI64 (label_21.length : Int)), (37, aI64 x_290), (40, aI64 (label_289.length : Int)), (41, aI64 x_427), (49, .hs 3 0 ([wrapF .i64 (x_427 + 1), wrapF .i64 (x_427 + a.Grid.Width)].length) 1), (50, aI64 2), (51, aI64 x_494)], [.own (api_Banded.c a), .own (api_Banded.c b), .own (label_493.flatMap (iC .i64)), .own ([wrapF .i64 (x_427 + 1), wrapF .i64 (x_427 + a.Grid.Width)].flatMap (iC .i64))]⟩) (Q := fun x st' => x = .exit 6 ∧ Wk 0 st' ⟨mkS 152 0 [(2, .hp 0 0), (3, .hp 1 0), (5, aI64 a.Grid.Width), (6, .hs 2 0 label_521.length 1), (36, aI64 (label_21.length : Int)), (37, aI64 x_290), (40, aI64 (label_289.length : Int)), (41, aI64 x_427)], [.own (api_Banded.c a), .own (api_Banded.c b), .own (label_521.flatMap (iC .i64))]⟩) hL550 ((Wk.gc [2, 3, 5, 6, 8, 36, 37, 40, 41, 49, 50, 51] [(0, true), (1, true), (2, false), (3, false)] rfl (pKt (pKt (pKo (iC .i64) (iC_pure _) label_426 (pKc trivial))))).to (by kernel_rfl)) ?_ ?_
      ·clear hr
       rintro m ⟨label_493, x_494⟩ hr
       show CQ _ _ _ _ _ ⟨_, _⟩
       refine .seq <| .r3 fine 152 [(2, .hp 0 0), (3, .hp 1 0), (5, aI64 a.Grid.Width), (6, .hs 2 0 label_493.length 1), (8, aI64 x_427), (36, aI64 (label_21.length : Int)), (37, aI64 x_290), (40, aI64 (label_289.length : Int)), (41, aI64 x_427), (49, .hs 3 0 ([wrapF .i64 (x_427 + 1), wrapF .i64 (x_427 + a.Grid.Width)].length) 1), (50, aI64 2), (51, aI64 x_494), (52, aB (decide (x_494 < 2)))] <| .seq ?_
       refine .cd hr (fun hb524 hr => ?_) (fun hb524 hr => ?_)
       ·refine .skip <| .seq <| .block <| .seq ?_
        obtain ⟨hg525, hr⟩ := gd hr
        refine .r0 fine <| .p0 (v := .hp 3 (0 + x_494.toNat * 1)) (Eq.trans (b := ORes.ofP (guardV (inR x_494 ([wrapF .i64 (x_427 + 1), wrapF .i64 (x_427 + a.Grid.Width)].length)) (.hp 3 (0 + x_494.toNat * 1)))) (by kernel_rfl) (ofP_guard hg525)) <| .p0 (v := aI64 (gt [wrapF .i64 (x_427 + 1), wrapF .i64 (x_427 + a.Grid.Width)] x_494)) (Eq.trans (b := ORes.ofP (([wrapF .i64 (x_427 + 1), wrapF .i64 (x_427 + a.Grid.Width)].flatMap (iC .i64))[0 + x_494.toNat * 1]?)) (by kernel_rfl) (ofP_some (flat_get (iC_len _) (inR_lt hg525) (by decide : 0 < 1) (by omega : 0 + x_494.toNat * 1 = x_494.toNat * 1 + 0) (by kernel_rfl)))) <| .mu 1 <| .done <| .n2 152 [(2, .hp 0 0), (3, .hp 1 0), (5, aI64 a.Grid.Width), (6, .hs 2 0 label_493.length 1), (8, aI64 x_427), (10, aI64 (gt [wrapF .i64 (x_427 + 1), wrapF .i64 (x_427 + a.Grid.Width)] x_494)), (36, aI64 (label_21.length : Int)), (37, aI64 x_290), (40, aI64 (label_289.length : Int)), (41, aI64 x_427), (49, .hs 3 0 ([wrapF .i64 (x_427 + 1), wrapF .i64 (x_427 + a.Grid.Width)].length) 1), (50, aI64 2), (51, aI64 x_494)] [.own (api_Banded.c a), .own (api_Banded.c b), .own (label_493.flatMap (iC .i64)), .own ([wrapF .i64 (x_427 + 1), wrapF .i64 (x_427 + a.Grid.Width)].flatMap (iC .i64))] ?_
        obtain ⟨w526, hw527, hr⟩ := bd hr
        refine .wk ((Wk.refl _).to (c := ⟨mkS 152 0 [(2, .hp 0 0), (3, .hp 1 0), (5, aI64 a.Grid.Width), (6, .hs 2 0 label_493.length 1), (8, aI64 x_427), (10, aI64 w526), (36, aI64 (label_21.length : Int)), (37, aI64 x_290), (40, aI64 (label_289.length : Int)), (41, aI64 x_427), (49, .hs 3 0 ([wrapF .i64 (x_427 + 1), wrapF .i64 (x_427 + a.Grid.Width)].length) 1), (50, aI64 2), (51, aI64 x_494)], [.own (api_Banded.c a), .own (api_Banded.c b), .own (label_493.flatMap (iC .i64)), .own ([wrapF .i64 (x_427 + 1), wrapF .i64 (x_427 + a.Grid.Width)].flatMap (iC .i64))]⟩) (by rw [Option.some.inj hw527])) <| .seq <| .seq ?_
        replace hr := bd hr; obtain ⟨o542, hL543, hr⟩ := hr
        refine .app2 (Q := fun x st' => match (generalizing := false) o542 with | .inl _ => x = .exit 7 ∧ Wk 0 st' ⟨mkS 152 0 [(2, .hp 0 0), (3, .hp 1 0), (5, aI64 a.Grid.Width), (6, .hs 2 0 label_493.length 1), (8, aI64 x_427), (36, aI64 (label_21.length : Int)), (37, aI64 x_290), (40, aI64 (label_289.length : Int)), (41, aI64 x_427), (49, .hs 3 0 ([wrapF .i64 (x_427 + 1), wrapF .i64 (x_427 + a.Grid.Width)].length) 1), (50, aI64 2), (51, aI64 x_494)], [.own (api_Banded.c a), .own (api_Banded.c b), .own (label_493.flatMap (iC .i64)), .own ([wrapF .i64 (x_427 + 1), wrapF .i64 (x_427 + a.Grid.Width)].flatMap (iC .i64))]⟩ | .inr (_) => x = .normal ∧ Wk 0 st' ⟨mkS 152 0 [(2, .hp 0 0), (3, .hp 1 0), (5, aI64 a.Grid.Width), (6, .hs 2 0 label_493.length 1), (8, aI64 x_427), (10, aI64 w526), (36, aI64 (label_21.length : Int)), (37, aI64 x_290), (40, aI64 (label_289.length : Int)), (41, aI64 x_427), (49, .hs 3 0 ([wrapF .i64 (x_427 + 1), wrapF .i64 (x_427 + a.Grid.Width)].length) 1), (50, aI64 2), (51, aI64 x_494)], [.own (api_Banded.c a), .own (api_Banded.c b), .own (label_493.flatMap (iC .i64)), .own ([wrapF .i64 (x_427 + 1), wrapF .i64 (x_427 + a.Grid.Width)].flatMap (iC .i64))]⟩) ?_ ?_
        ·clear hr
         have hr := hL543
         clear hL543
         rcases Bool.eq_false_or_eq_true (decide (w526 ≥ (label_493.length : Int))) with hb528 | hb528
         ·replace hr := cd_t hb528 hr
          refine .regionT fine callOf_nil <| .mu 3 <| .pure (v := aB true) (by kernel_rfl) (Eq.trans (b := some (.pure (aB (decide (w526 ≥ (label_493.length : Int)))))) (by kernel_rfl) (by rw [hb528])) (by kernel_rfl) <| .mu 23 ?_
          refine .done ⟨by kernel_rfl, ?_⟩
          refine .n2 152 [(2, .hp 0 0), (3, .hp 1 0), (5, aI64 a.Grid.Width), (6, .hs 2 0 label_493.length 1), (8, aI64 x_427), (10, aI64 w526), (36, aI64 (label_21.length : Int)), (37, aI64 x_290), (40, aI64 (label_289.length : Int)), (41, aI64 x_427), (49, .hs 3 0 ([wrapF .i64 (x_427 + 1), wrapF .i64 (x_427 + a.Grid.Width)].length) 1), (50, aI64 2), (51, aI64 x_494), (81, aB true)] [.own (api_Banded.c a), .own (api_Banded.c b), .own (label_493.flatMap (iC .i64)), .own ([wrapF .i64 (x_427 + 1), wrapF .i64 (x_427 + a.Grid.Width)].flatMap (iC .i64))] <| .cT (by kernel_rfl) <| .leave rfl ?_
          obtain rfl := Option.some.inj hr
          exact ⟨rfl, ((Wk.gc [2, 3, 5, 6, 8, 36, 37, 40, 41, 49, 50, 51] [(0, true), (1, true), (2, false), (3, false)] rfl (pKt (pKt (pKo (iC .i64) (iC_pure _) label_493 (pKo (iC .i64) (iC_pure _) [wrapF .i64 (x_427 + 1), wrapF .i64 (x_427 + a.Grid.Width)] trivial))))).to (by kernel_rfl))⟩
         ·replace hr := cd_f hb528 hr
          rcases Bool.eq_false_or_eq_true ((w526 : Int) == (wrapF .i64 (x_427 + 1))) with hb529 | hb529
          ·replace hr := cd_t hb529 hr
           obtain ⟨hg530, hr⟩ := gd hr
           rcases Bool.eq_false_or_eq_true (((w526.tmod a.Grid.Width) : Int) == 0) with hb531 | hb531
           ·replace hr := cd_t hb531 hr
            refine .regionT fine callOf_nil <| .mu 3 <| .pure (v := aB false) (by kernel_rfl) (Eq.trans (b := some (.pure (aB (decide (w526 ≥ (label_493.length : Int)))))) (by kernel_rfl) (by rw [hb528])) (by kernel_rfl) <| .mu 4 <| .pure (v := aB true) (by kernel_rfl) (Eq.trans (b := some (.pure (aB ((w526 : Int) == (wrapF .i64 (x_427 + 1)))))) (by kernel_rfl) (by rw [hb529])) (by kernel_rfl) <| .mu 3 <| .pure (v := aI64 (w526.tmod a.Grid.Width)) (by kernel_rfl) (op_rem (x := w526) (y := a.Grid.Width) (by kernel_rfl) (by kernel_rfl) hg530) (by kernel_rfl) <| .pure (v := aB true) (by kernel_rfl) (Eq.trans (b := some (.pure (aB (((w526.tmod a.Grid.Width) : Int) == 0)))) (by kernel_rfl) (by rw [hb531])) (by kernel_rfl) <| .mu 13 ?_
            refine .done ⟨by kernel_rfl, ?_⟩
            refine .n2 152 [(2, .hp 0 0), (3, .hp 1 0), (5, aI64 a.Grid.Width), (6, .hs 2 0 label_493.length 1), (8, aI64 x_427), (10, aI64 w526), (36, aI64 (label_21.length : Int)), (37, aI64 x_290), (40, aI64 (label_289.length : Int)), (41, aI64 x_427), (49, .hs 3 0 ([wrapF .i64 (x_427 + 1), wrapF .i64 (x_427 + a.Grid.Width)].length) 1), (50, aI64 2), (51, aI64 x_494), (81, aB true)] [.own (api_Banded.c a), .own (api_Banded.c b), .own (label_493.flatMap (iC .i64)), .own ([wrapF .i64 (x_427 + 1), wrapF .i64 (x_427 + a.Grid.Width)].flatMap (iC .i64))] <| .cT (by kernel_rfl) <| .leave rfl ?_
            obtain rfl := Option.some.inj hr
            exact ⟨rfl, ((Wk.gc [2, 3, 5, 6, 8, 36, 37, 40, 41, 49, 50, 51] [(0, true), (1, true), (2, false), (3, false)] rfl (pKt (pKt (pKo (iC .i64) (iC_pure _) label_493 (pKo (iC .i64) (iC_pure _) [wrapF .i64 (x_427 + 1), wrapF .i64 (x_427 + a.Grid.Width)] trivial))))).to (by kernel_rfl))⟩
           ·replace hr := cd_f hb531 hr
            obtain ⟨v532, hc533, v534, hc535, hr⟩ := bd2 hr
            refine .tn fine (ca1 (ok0 (fiduciallaw59_verdict_ok n a b x_427 v532 hc533)) (ca3 (ok0 (fiduciallaw59_verdict_ok n a b w526 v534 hc535)))) <| .mu 3 <| .pure (v := aB false) (by kernel_rfl) (Eq.trans (b := some (.pure (aB (decide (w526 ≥ (label_493.length : Int)))))) (by kernel_rfl) (by rw [hb528])) (by kernel_rfl) <| .mu 4 <| .pure (v := aB true) (by kernel_rfl) (Eq.trans (b := some (.pure (aB ((w526 : Int) == (wrapF .i64 (x_427 + 1)))))) (by kernel_rfl) (by rw [hb529])) (by kernel_rfl) <| .mu 3 <| .pure (v := aI64 (w526.tmod a.Grid.Width)) (by kernel_rfl) (op_rem (x := w526) (y := a.Grid.Width) (by kernel_rfl) (by kernel_rfl) hg530) (by kernel_rfl) <| .pure (v := aB false) (by kernel_rfl) (Eq.trans (b := some (.pure (aB (((w526.tmod a.Grid.Width) : Int) == 0)))) (by kernel_rfl) (by rw [hb531])) (by kernel_rfl) <| .mu 6 <| .ca cf0 <| .mu 3 <| .ca (cfA (fun h => by rw [sv hc535 hc533 (fiduciallaw59_verdict_cg n h)]) cf0) <| .mu 2 ?_
            refine .done ⟨by kernel_rfl, ?_⟩
            refine .n2 152 [(2, .hp 0 0), (3, .hp 1 0), (5, aI64 a.Grid.Width), (6, .hs 2 0 label_493.length 1), (8, aI64 x_427), (10, aI64 w526), (36, aI64 (label_21.length : Int)), (37, aI64 x_290), (40, aI64 (label_289.length : Int)), (41, aI64 x_427), (49, .hs 3 0 ([wrapF .i64 (x_427 + 1), wrapF .i64 (x_427 + a.Grid.Width)].length) 1), (50, aI64 2), (51, aI64 x_494), (81, aB ((v532 : Int) != v534))] [.own (api_Banded.c a), .own (api_Banded.c b), .own (label_493.flatMap (iC .i64)), .own ([wrapF .i64 (x_427 + 1), wrapF .i64 (x_427 + a.Grid.Width)].flatMap (iC .i64))] ?_
            refine .cd hr (fun hb536 hr => ?_) (fun hb536 hr => ?_)
            ·refine .leave rfl ?_
             obtain rfl := Option.some.inj hr
             exact ⟨rfl, ((Wk.gc [2, 3, 5, 6, 8, 36, 37, 40, 41, 49, 50, 51] [(0, true), (1, true), (2, false), (3, false)] rfl (pKt (pKt (pKo (iC .i64) (iC_pure _) label_493 (pKo (iC .i64) (iC_pure _) [wrapF .i64 (x_427 + 1), wrapF .i64 (x_427 + a.Grid.Width)] trivial))))).to (by kernel_rfl))⟩
            ·refine .skip ?_
             obtain rfl := Option.some.inj hr
             exact ⟨rfl, ((Wk.gc [2, 3, 5, 6, 8, 10, 36, 37, 40, 41, 49, 50, 51] [(0, true), (1, true), (2, false), (3, false)] rfl (pKt (pKt (pKo (iC .i64) (iC_pure _) label_493 (pKo (iC .i64) (iC_pure _) [wrapF .i64 (x_427 + 1), wrapF .i64 (x_427 + a.Grid.Width)] trivial))))).to (by kernel_rfl))⟩
          ·replace hr := cd_f hb529 hr
           obtain ⟨v537, hc538, v539, hc540, hr⟩ := bd2 hr
           refine .tn fine (ca1 (ok0 (fiduciallaw59_verdict_ok n a b x_427 v537 hc538)) (ca3 (ok0 (fiduciallaw59_verdict_ok n a b w526 v539 hc540)))) <| .mu 3 <| .pure (v := aB false) (by kernel_rfl) (Eq.trans (b := some (.pure (aB (decide (w526 ≥ (label_493.length : Int)))))) (by kernel_rfl) (by rw [hb528])) (by kernel_rfl) <| .mu 4 <| .pure (v := aB false) (by kernel_rfl) (Eq.trans (b := some (.pure (aB ((w526 : Int) == (wrapF .i64 (x_427 + 1)))))) (by kernel_rfl) (by rw [hb529])) (by kernel_rfl) <| .mu 11 <| .ca cf0 <| .mu 3 <| .ca (cfA (fun h => by rw [sv hc540 hc538 (fiduciallaw59_verdict_cg n h)]) cf0) <| .mu 2 ?_
           refine .done ⟨by kernel_rfl, ?_⟩
           refine .n2 152 [(2, .hp 0 0), (3, .hp 1 0), (5, aI64 a.Grid.Width), (6, .hs 2 0 label_493.length 1), (8, aI64 x_427), (10, aI64 w526), (36, aI64 (label_21.length : Int)), (37, aI64 x_290), (40, aI64 (label_289.length : Int)), (41, aI64 x_427), (49, .hs 3 0 ([wrapF .i64 (x_427 + 1), wrapF .i64 (x_427 + a.Grid.Width)].length) 1), (50, aI64 2), (51, aI64 x_494), (81, aB ((v537 : Int) != v539))] [.own (api_Banded.c a), .own (api_Banded.c b), .own (label_493.flatMap (iC .i64)), .own ([wrapF .i64 (x_427 + 1), wrapF .i64 (x_427 + a.Grid.Width)].flatMap (iC .i64))] ?_
           refine .cd hr (fun hb541 hr => ?_) (fun hb541 hr => ?_)
           ·refine .leave rfl ?_
            obtain rfl := Option.some.inj hr
            exact ⟨rfl, ((Wk.gc [2, 3, 5, 6, 8, 36, 37, 40, 41, 49, 50, 51] [(0, true), (1, true), (2, false), (3, false)] rfl (pKt (pKt (pKo (iC .i64) (iC_pure _) label_493 (pKo (iC .i64) (iC_pure _) [wrapF .i64 (x_427 + 1), wrapF .i64 (x_427 + a.Grid.Width)] trivial))))).to (by kernel_rfl))⟩
           ·refine .skip ?_
            obtain rfl := Option.some.inj hr
            exact ⟨rfl, ((Wk.gc [2, 3, 5, 6, 8, 10, 36, 37, 40, 41, 49, 50, 51] [(0, true), (1, true), (2, false), (3, false)] rfl (pKt (pKt (pKo (iC .i64) (iC_pure _) label_493 (pKo (iC .i64) (iC_pure _) [wrapF .i64 (x_427 + 1), wrapF .i64 (x_427 + a.Grid.Width)] trivial))))).to (by kernel_rfl))⟩
        ·rcases o542 with ⟨⟩ | ⟨⟩
         ·rintro x st' hq544
          clear hL543
          obtain ⟨rfl, hq544⟩ := hq544
          refine CQ_exit _ rfl <| .wk hq544 <| .ru fine ?_
          exact loopF_back (label_493, wrapF .i64 (x_494 + 1)) hr ((Wk.gc [2, 3, 5, 6, 8, 36, 37, 40, 41, 49, 50, 51] [(0, true), (1, true), (2, false), (3, false)] rfl (pKt (pKt (pKo (iC .i64) (iC_pure _) label_493 (pKo (iC .i64) (iC_pure _) [wrapF .i64 (x_427 + 1), wrapF .i64 (x_427 + a.Grid.Width)] trivial))))).to (by kernel_rfl))
         ·rintro x st' hq544
          clear hL543
          obtain ⟨rfl, hq544⟩ := hq544
          refine .wk hq544 <| .seq ?_
          obtain ⟨hg545, hg546, hr⟩ := gd2 hr
          refine .regionT fine callOf_nil <| .mu 2 <| .pure (v := .hp 2 (0 + x_427.toNat * 1)) (by kernel_rfl) (Eq.trans (b := ORes.ofP (guardV (inR x_427 label_493.length) (.hp 2 (0 + x_427.toNat * 1)))) (by kernel_rfl) (ofP_guard hg545)) (by kernel_rfl) <| .pure (v := aI64 (gt label_493 x_427)) (by kernel_rfl) (Eq.trans (b := ORes.ofP ((label_493.flatMap (iC .i64))[0 + x_427.toNat * 1]?)) (by kernel_rfl) (ofP_some (flat_get (iC_len _) (inR_lt hg545) (by decide : 0 < 1) (by omega : 0 + x_427.toNat * 1 = x_427.toNat * 1 + 0) (by kernel_rfl)))) (by kernel_rfl) <| .mu 2 <| .pure (v := .hp 2 (0 + w526.toNat * 1)) (by kernel_rfl) (Eq.trans (b := ORes.ofP (guardV (inR w526 label_493.length) (.hp 2 (0 + w526.toNat * 1)))) (by kernel_rfl) (ofP_guard hg546)) (by kernel_rfl) <| .pure (v := aI64 (gt label_493 w526)) (by kernel_rfl) (Eq.trans (b := ORes.ofP ((label_493.flatMap (iC .i64))[0 + w526.toNat * 1]?)) (by kernel_rfl) (ofP_some (flat_get (iC_len _) (inR_lt hg546) (by decide : 0 < 1) (by omega : 0 + w526.toNat * 1 = w526.toNat * 1 + 0) (by kernel_rfl)))) (by kernel_rfl) <| .mu 2 ?_
          refine .done ⟨by kernel_rfl, ?_⟩
          refine .n2 152 [(2, .hp 0 0), (3, .hp 1 0), (5, aI64 a.Grid.Width), (6, .hs 2 0 label_493.length 1), (8, aI64 x_427), (10, aI64 w526), (11, aI64 (mn (gt label_493 x_427) (gt label_493 w526))), (36, aI64 (label_21.length : Int)), (37, aI64 x_290), (40, aI64 (label_289.length : Int)), (41, aI64 x_427), (49, .hs 3 0 ([wrapF .i64 (x_427 + 1), wrapF .i64 (x_427 + a.Grid.Width)].length) 1), (50, aI64 2), (51, aI64 x_494)] [.own (api_Banded.c a), .own (api_Banded.c b), .own (label_493.flatMap (iC .i64)), .own ([wrapF .i64 (x_427 + 1), wrapF .i64 (x_427 + a.Grid.Width)].flatMap (iC .i64))] ?_
          obtain ⟨w547, hw548, hr⟩ := bd hr
          refine .wk ((Wk.refl _).to (c := ⟨mkS 152 0 [(2, .hp 0 0), (3, .hp 1 0), (5, aI64 a.Grid.Width), (6, .hs 2 0 label_493.length 1), (8, aI64 x_427), (10, aI64 w526), (11, aI64 w547), (36, aI64 (label_21.length : Int)), (37, aI64 x_290), (40, aI64 (label_289.length : Int)), (41, aI64 x_427), (49, .hs 3 0 ([wrapF .i64 (x_427 + 1), wrapF .i64 (x_427 + a.Grid.Width)].length) 1), (50, aI64 2), (51, aI64 x_494)], [.own (api_Banded.c a), .own (api_Banded.c b), .own (label_493.flatMap (iC .i64)), .own ([wrapF .i64 (x_427 + 1), wrapF .i64 (x_427 + a.Grid.Width)].flatMap (iC .i64))]⟩) (by rw [Option.some.inj hw548])) <| .r0 fine <| .mu 6 <| .p0 (v := .hp 2 (0 + x_427.toNat * 1)) (Eq.trans (b := ORes.ofP (guardV (inR x_427 label_493.length) (.hp 2 (0 + x_427.toNat * 1)))) (by kernel_rfl) (ofP_guard hg545)) <| .e0 (v := .unk) (ws := [(2, .own ((label_493.set x_427.toNat w547).flatMap (iC .i64)))]) (Eq.trans (b := stO (decide ((0 + x_427.toNat * 1) + 1 ≤ (label_493.flatMap (iC .i64)).length) && true) [(2, .own (setCells (label_493.flatMap (iC .i64)) (0 + x_427.toNat * 1) [aI64 w547]))]) (by kernel_rfl) (stO_t (and_t (flat_fits (iC_len _) (inR_lt hg545) (Nat.le_of_ble_eq_true rfl) (by omega : 0 + x_427.toNat * 1 = x_427.toNat * 1 + 0))) (congrArg Blk.own (flat_set (iC_len _) (inR_lt hg545) (Nat.le_of_ble_eq_true rfl) (by omega : 0 + x_427.toNat * 1 = x_427.toNat * 1 + 0) (by kernel_rfl))))) <| .p0 (v := .hp 2 (0 + w526.toNat * 1)) (Eq.trans (b := ORes.ofP (guardV (inR w526 label_493.length) (.hp 2 (0 + w526.toNat * 1)))) (by kernel_rfl) (ofP_guard hg546)) <| .e0 (v := .unk) (ws := [(2, .own (((label_493.set x_427.toNat w547).set w526.toNat w547).flatMap (iC .i64)))]) (Eq.trans (b := stO (decide ((0 + w526.toNat * 1) + 1 ≤ ((label_493.set x_427.toNat w547).flatMap (iC .i64)).length) && true) [(2, .own (setCells ((label_493.set x_427.toNat w547).flatMap (iC .i64)) (0 + w526.toNat * 1) [aI64 w547]))]) (by kernel_rfl) (stO_t (and_t (flat_fits (iC_len _) (inR_lt (inR_set hg546)) (Nat.le_of_ble_eq_true rfl) (by omega : 0 + w526.toNat * 1 = w526.toNat * 1 + 0))) (congrArg Blk.own (flat_set (iC_len _) (inR_lt (inR_set hg546)) (Nat.le_of_ble_eq_true rfl) (by omega : 0 + w526.toNat * 1 = w526.toNat * 1 + 0) (by kernel_rfl))))) <| .done <| .pop <| .ru fine ?_
          exact loopF_back ((label_493.set x_427.toNat w547).set w526.toNat w547, wrapF .i64 (x_494 + 1)) hr ((Wk.relen 6 (b := 2) (es := 1) (len := label_493.length) ((label_493.set x_427.toNat w547).set w526.toNat w547).length (by kernel_rfl) (by simp)).trans ((Wk.gc [2, 3, 5, 6, 8, 36, 37, 40, 41, 49, 50, 51] [(0, true), (1, true), (2, false), (3, false)] rfl (pKt (pKt (pKo (iC .i64) (iC_pure _) ((label_493.set x_427.toNat w547).set w526.toNat w547) (pKo (iC .i64) (iC_pure _) [wrapF .i64 (x_427 + 1), wrapF .i64 (x_427 + a.Grid.Width)] trivial))))).to (by kernel_rfl)))
       ·refine .leave rfl ?_
        obtain rfl := Option.some.inj hr
        exact ⟨rfl, ((Wk.gc [2, 3, 5, 6, 36, 37, 40, 41] [(0, true), (1, true), (2, false)] rfl (pKt (pKt (pKo (iC .i64) (iC_pure _) label_493 trivial)))).to (by kernel_rfl))⟩
      ·rintro x st' hq551
       clear hL550
       obtain ⟨rfl, hq551⟩ := hq551
       refine CQ_exit _ rfl <| .pop <| .wk hq551 <| .ru fine ?_
       exact loopF_back (label_521, wrapF .i64 (x_427 + 1)) hr ((Wk.gc [2, 3, 5, 6, 36, 37, 40, 41] [(0, true), (1, true), (2, false)] rfl (pKt (pKt (pKo (iC .i64) (iC_pure _) label_521 trivial)))).to (by kernel_rfl))
     ·refine .leave rfl ?_
      obtain rfl := Option.some.inj hr
      exact ⟨rfl, ((Wk.gc [2, 3, 5, 6, 36, 37] [(0, true), (1, true), (2, false)] rfl (pKt (pKt (pKo (iC .i64) (iC_pure _) label_426 trivial)))).to (by kernel_rfl))⟩
    ·rintro x st' hq554
     clear hL553
     obtain ⟨rfl, hq554⟩ := hq554
     refine CQ_exit _ rfl <| .pop <| .wk hq554 <| .ru fine ?_
     exact loopF_back (label_489, wrapF .i64 (x_290 + 1)) hr ((Wk.gc [2, 3, 5, 6, 36, 37] [(0, true), (1, true), (2, false)] rfl (pKt (pKt (pKo (iC .i64) (iC_pure _) label_489 trivial)))).to (by kernel_rfl))
   ·refine .leave rfl ?_
    obtain rfl := Option.some.inj hr
    exact ⟨rfl, ((Wk.gc [2, 3, 6] [(0, true), (1, true), (2, false)] rfl (pKt (pKt (pKo (iC .i64) (iC_pure _) label_289 trivial)))).to (by kernel_rfl))⟩
  ·rintro x st' hq557
   clear hL556
   obtain ⟨rfl, hq557⟩ := hq557
   refine CQ_exit _ rfl <| .wk hq557 <| .seq <| .r2 fine 152 [(2, .hp 0 0), (3, .hp 1 0), (6, .hs 2 0 label_422.length 1), (12, .hs 3 0 0 2)] [.own (api_Banded.c a), .own (api_Banded.c b), .own (label_422.flatMap (iC .i64)), .own []] <| .seq <| .seq <| .r3 fine 152 [(2, .hp 0 0), (3, .hp 1 0), (6, .hs 2 0 label_422.length 1), (12, .hs 3 0 0 2), (104, aI64 (label_422.length : Int)), (105, aI64 0)] <| .block ?_
   replace hr := bd hr; obtain ⟨out_593, hL629, hr⟩ := hr
   refine .loopO (σ := fun z0 => match z0 with | (out_558, x_559) => ⟨mkS 152 0 [(2, .hp 0 0), (3, .hp 1 0), (6, .hs 2 0 label_422.length 1), (12, .hs 3 0 out_558.length 2), (104, aI64 (label_422.length : Int)), (105, aI64 x_559)], [.own (api_Banded.c a), .own (api_Banded.c b), .own (label_422.flatMap (iC .i64)), .own (out_558.flatMap api_Region.c)]⟩) (Q := fun x st' => x = .exit 8 ∧ Wk 0 st' ⟨mkS 152 0 [(12, .hs 0 0 out_593.length 2)], [.own (out_593.flatMap api_Region.c)]⟩) hL629 ((Wk.gc [2, 3, 6, 12, 104, 105] [(0, true), (1, true), (2, false), (3, false)] rfl (pKt (pKt (pKo (iC .i64) (iC_pure _) label_422 (pKc trivial))))).to (by kernel_rfl)) ?_ ?_
   ·clear hr
    rintro m ⟨out_558, x_559⟩ hr
    show CQ _ _ _ _ _ ⟨_, _⟩
    refine .seq <| .r3 fine 152 [(2, .hp 0 0), (3, .hp 1 0), (6, .hs 2 0 label_422.length 1), (12, .hs 3 0 out_558.length 2), (104, aI64 (label_422.length : Int)), (105, aI64 x_559), (106, aB (decide (x_559 < (label_422.length : Int))))] <| .seq ?_
    refine .cd hr (fun hb596 hr => ?_) (fun hb596 hr => ?_)
    ·refine .skip <| .seq <| .block <| .seq <| .r3 fine 152 [(2, .hp 0 0), (3, .hp 1 0), (6, .hs 2 0 label_422.length 1), (12, .hs 3 0 out_558.length 2), (13, aI64 x_559), (104, aI64 (label_422.length : Int)), (105, aI64 x_559)] <| .seq ?_
     obtain ⟨v597, hc598, hr⟩ := bd hr
     refine .g1 fine (ok0 (fiduciallaw59_verdict_ok n a b x_559 v597 hc598)) <| .mu 3 <| .ca cf0 <| .mu 1 <| .done <| .n2 152 [(2, .hp 0 0), (3, .hp 1 0), (6, .hs 2 0 label_422.length 1), (12, .hs 3 0 out_558.length 2), (13, aI64 x_559), (14, aI64 v597), (104, aI64 (label_422.length : Int)), (105, aI64 x_559)] [.own (api_Banded.c a), .own (api_Banded.c b), .own (label_422.flatMap (iC .i64)), .own (out_558.flatMap api_Region.c)] <| .seq <| .seq ?_
     replace hr := bd hr; obtain ⟨o604, hL605, hr⟩ := hr
     refine .app2 (Q := fun x st' => match (generalizing := false) o604 with | .inl _ => x = .exit 9 ∧ Wk 0 st' ⟨mkS 152 0 [(2, .hp 0 0), (3, .hp 1 0), (6, .hs 2 0 label_422.length 1), (12, .hs 3 0 out_558.length 2), (104, aI64 (label_422.length : Int)), (105, aI64 x_559)], [.own (api_Banded.c a), .own (api_Banded.c b), .own (label_422.flatMap (iC .i64)), .own (out_558.flatMap api_Region.c)]⟩ | .inr (_) => x = .normal ∧ Wk 0 st' ⟨mkS 152 0 [(2, .hp 0 0), (3, .hp 1 0), (6, .hs 2 0 label_422.length 1), (12, .hs 3 0 out_558.length 2), (13, aI64 x_559), (14, aI64 v597), (104, aI64 (label_422.length : Int)), (105, aI64 x_559)], [.own (api_Banded.c a), .own (api_Banded.c b), .own (label_422.flatMap (iC .i64)), .own (out_558.flatMap api_Region.c)]⟩) ?_ ?_
     ·clear hr
      have hr := hL605
      clear hL605
      obtain ⟨hg600, hr⟩ := gd hr
      rcases Bool.eq_false_or_eq_true (((gt label_422 x_559) : Int) != x_559) with hb601 | hb601
      ·replace hr := cd_t hb601 hr
       refine .r0 fine <| .mu 2 <| .p0 (v := .hp 2 (0 + x_559.toNat * 1)) (Eq.trans (b := ORes.ofP (guardV (inR x_559 label_422.length) (.hp 2 (0 + x_559.toNat * 1)))) (by kernel_rfl) (ofP_guard hg600)) <| .p0 (v := aI64 (gt label_422 x_559)) (Eq.trans (b := ORes.ofP ((label_422.flatMap (iC .i64))[0 + x_559.toNat * 1]?)) (by kernel_rfl) (ofP_some (flat_get (iC_len _) (inR_lt hg600) (by decide : 0 < 1) (by omega : 0 + x_559.toNat * 1 = x_559.toNat * 1 + 0) (by kernel_rfl)))) <| .mu 1 <| .p0 (v := aB true) (Eq.trans (b := some (.pure (aB (((gt label_422 x_559) : Int) != x_559)))) (by kernel_rfl) (by rw [hb601])) <| .mu 8 <| .done <| .n2 152 [(2, .hp 0 0), (3, .hp 1 0), (6, .hs 2 0 label_422.length 1), (12, .hs 3 0 out_558.length 2), (13, aI64 x_559), (14, aI64 v597), (104, aI64 (label_422.length : Int)), (105, aI64 x_559), (125, aB true)] [.own (api_Banded.c a), .own (api_Banded.c b), .own (label_422.flatMap (iC .i64)), .own (out_558.flatMap api_Region.c)] <| .cT (by kernel_rfl) <| .leave rfl ?_
       obtain rfl := Option.some.inj hr
       exact ⟨rfl, ((Wk.gc [2, 3, 6, 12, 104, 105] [(0, true), (1, true), (2, false), (3, false)] rfl (pKt (pKt (pKo (iC .i64) (iC_pure _) label_422 (pKo api_Region.c api_Region.pure out_558 trivial))))).to (by kernel_rfl))⟩
      ·replace hr := cd_f hb601 hr
       rcases Bool.eq_false_or_eq_true ((v597 : Int) != 1) with hb602 | hb602
       ·replace hr := cd_t hb602 hr
        refine .r0 fine <| .mu 2 <| .p0 (v := .hp 2 (0 + x_559.toNat * 1)) (Eq.trans (b := ORes.ofP (guardV (inR x_559 label_422.length) (.hp 2 (0 + x_559.toNat * 1)))) (by kernel_rfl) (ofP_guard hg600)) <| .p0 (v := aI64 (gt label_422 x_559)) (Eq.trans (b := ORes.ofP ((label_422.flatMap (iC .i64))[0 + x_559.toNat * 1]?)) (by kernel_rfl) (ofP_some (flat_get (iC_len _) (inR_lt hg600) (by decide : 0 < 1) (by omega : 0 + x_559.toNat * 1 = x_559.toNat * 1 + 0) (by kernel_rfl)))) <| .mu 1 <| .p0 (v := aB false) (Eq.trans (b := some (.pure (aB (((gt label_422 x_559) : Int) != x_559)))) (by kernel_rfl) (by rw [hb601])) <| .mu 2 <| .pure (v := aB true) (by kernel_rfl) (Eq.trans (b := some (.pure (aB ((v597 : Int) != 1)))) (by kernel_rfl) (by rw [hb602])) <| .mu 5 <| .done <| .n2 152 [(2, .hp 0 0), (3, .hp 1 0), (6, .hs 2 0 label_422.length 1), (12, .hs 3 0 out_558.length 2), (13, aI64 x_559), (14, aI64 v597), (104, aI64 (label_422.length : Int)), (105, aI64 x_559), (125, aB ((v597 : Int) != 2))] [.own (api_Banded.c a), .own (api_Banded.c b), .own (label_422.flatMap (iC .i64)), .own (out_558.flatMap api_Region.c)] ?_
        refine .cd hr (fun hb603 hr => ?_) (fun hb603 hr => ?_)
        ·refine .leave rfl ?_
         obtain rfl := Option.some.inj hr
         exact ⟨rfl, ((Wk.gc [2, 3, 6, 12, 104, 105] [(0, true), (1, true), (2, false), (3, false)] rfl (pKt (pKt (pKo (iC .i64) (iC_pure _) label_422 (pKo api_Region.c api_Region.pure out_558 trivial))))).to (by kernel_rfl))⟩
        ·refine .skip ?_
         obtain rfl := Option.some.inj hr
         exact ⟨rfl, ((Wk.gc [2, 3, 6, 12, 13, 14, 104, 105] [(0, true), (1, true), (2, false), (3, false)] rfl (pKt (pKt (pKo (iC .i64) (iC_pure _) label_422 (pKo api_Region.c api_Region.pure out_558 trivial))))).to (by kernel_rfl))⟩
       ·replace hr := cd_f hb602 hr
        refine .r0 fine <| .mu 2 <| .p0 (v := .hp 2 (0 + x_559.toNat * 1)) (Eq.trans (b := ORes.ofP (guardV (inR x_559 label_422.length) (.hp 2 (0 + x_559.toNat * 1)))) (by kernel_rfl) (ofP_guard hg600)) <| .p0 (v := aI64 (gt label_422 x_559)) (Eq.trans (b := ORes.ofP ((label_422.flatMap (iC .i64))[0 + x_559.toNat * 1]?)) (by kernel_rfl) (ofP_some (flat_get (iC_len _) (inR_lt hg600) (by decide : 0 < 1) (by omega : 0 + x_559.toNat * 1 = x_559.toNat * 1 + 0) (by kernel_rfl)))) <| .mu 1 <| .p0 (v := aB false) (Eq.trans (b := some (.pure (aB (((gt label_422 x_559) : Int) != x_559)))) (by kernel_rfl) (by rw [hb601])) <| .mu 2 <| .pure (v := aB false) (by kernel_rfl) (Eq.trans (b := some (.pure (aB ((v597 : Int) != 1)))) (by kernel_rfl) (by rw [hb602])) <| .mu 5 <| .done <| .n2 152 [(2, .hp 0 0), (3, .hp 1 0), (6, .hs 2 0 label_422.length 1), (12, .hs 3 0 out_558.length 2), (13, aI64 x_559), (14, aI64 v597), (104, aI64 (label_422.length : Int)), (105, aI64 x_559), (125, aB false)] [.own (api_Banded.c a), .own (api_Banded.c b), .own (label_422.flatMap (iC .i64)), .own (out_558.flatMap api_Region.c)] <| .cF (by kernel_rfl) <| .skip ?_
        obtain rfl := Option.some.inj hr
        exact ⟨rfl, ((Wk.gc [2, 3, 6, 12, 13, 14, 104, 105] [(0, true), (1, true), (2, false), (3, false)] rfl (pKt (pKt (pKo (iC .i64) (iC_pure _) label_422 (pKo api_Region.c api_Region.pure out_558 trivial))))).to (by kernel_rfl))⟩
     ·rcases o604 with ⟨⟩ | ⟨⟩
      ·rintro x st' hq606
       clear hL605
       obtain ⟨rfl, hq606⟩ := hq606
       refine CQ_exit _ rfl <| .wk hq606 <| .ru fine ?_
       exact loopF_back (out_558, wrapF .i64 (x_559 + 1)) hr ((Wk.gc [2, 3, 6, 12, 104, 105] [(0, true), (1, true), (2, false), (3, false)] rfl (pKt (pKt (pKo (iC .i64) (iC_pure _) label_422 (pKo api_Region.c api_Region.pure out_558 trivial))))).to (by kernel_rfl))
      ·rintro x st' hq606
       clear hL605
       obtain ⟨rfl, hq606⟩ := hq606
       refine .wk hq606 <| .seq <| .r2 fine 152 [(2, .hp 0 0), (3, .hp 1 0), (6, .hs 2 0 label_422.length 1), (12, .hs 3 0 out_558.length 2), (13, aI64 x_559), (15, .hp 4 0), (104, aI64 (label_422.length : Int)), (105, aI64 x_559)] [.own (api_Banded.c a), .own (api_Banded.c b), .own (label_422.flatMap (iC .i64)), .own (out_558.flatMap api_Region.c), .own [aI64 v597, nS]] <| .seq <| .seq <| .r3 fine 152 [(2, .hp 0 0), (3, .hp 1 0), (6, .hs 2 0 label_422.length 1), (12, .hs 3 0 out_558.length 2), (13, aI64 x_559), (15, .hp 4 0), (104, aI64 (label_422.length : Int)), (105, aI64 x_559), (129, aI64 (label_422.length : Int)), (130, aI64 0)] <| .block ?_
       replace hr := bd hr; obtain ⟨r_615, hL624, hr⟩ := hr
       refine .loopO (σ := fun z0 => match z0 with | (r_607, x_608) => ⟨mkS 152 0 [(2, .hp 0 0), (3, .hp 1 0), (6, .hs 2 0 label_422.length 1), (12, .hs 3 0 out_558.length 2), (13, aI64 x_559), (15, .hp 4 0), (104, aI64 (label_422.length : Int)), (105, aI64 x_559), (129, aI64 (label_422.length : Int)), (130, aI64 x_608)], [.own (api_Banded.c a), .own (api_Banded.c b), .own (label_422.flatMap (iC .i64)), .own (out_558.flatMap api_Region.c), .own [aI64 v597, .hs 5 0 r_607.length 1], .own (r_607.flatMap (iC .i64))]⟩) (Q := fun x st' => x = .exit 10 ∧ Wk 0 st' ⟨mkS 152 0 [(2, .hp 0 0), (3, .hp 1 0), (6, .hs 2 0 label_422.length 1), (12, .hs 3 0 out_558.length 2), (15, .hp 4 0), (104, aI64 (label_422.length : Int)), (105, aI64 x_559)], [.own (api_Banded.c a), .own (api_Banded.c b), .own (label_422.flatMap (iC .i64)), .own (out_558.flatMap api_Region.c), .own [aI64 v597, .hs 5 0 r_615.length 1], .own (r_615.flatMap (iC .i64))]⟩) hL624 ((Wk.nilcell 4 1 1 (cs := [aI64 v597, nS]) (by kernel_rfl) (by kernel_rfl)).trans ((Wk.gc [2, 3, 6, 12, 13, 15, 104, 105, 129, 130] [(0, true), (1, true), (2, false), (3, false), (4, true), (5, false)] rfl (pKt (pKt (pKo (iC .i64) (iC_pure _) label_422 (pKo api_Region.c api_Region.pure out_558 (pKt (pKc trivial))))))).to (by kernel_rfl))) ?_ ?_
       ·clear hr
        rintro m ⟨r_607, x_608⟩ hr
        show CQ _ _ _ _ _ ⟨_, _⟩
        refine .seq <| .r3 fine 152 [(2, .hp 0 0), (3, .hp 1 0), (6, .hs 2 0 label_422.length 1), (12, .hs 3 0 out_558.length 2), (13, aI64 x_559), (15, .hp 4 0), (104, aI64 (label_422.length : Int)), (105, aI64 x_559), (129, aI64 (label_422.length : Int)), (130, aI64 x_608), (131, aB (decide (x_608 < (label_422.length : Int))))] <| .seq ?_
        refine .cd hr (fun hb618 hr => ?_) (fun hb618 hr => ?_)
        ·refine .skip <| .seq <| .block <| .seq <| .r3 fine 152 [(2, .hp 0 0), (3, .hp 1 0), (6, .hs 2 0 label_422.length 1), (12, .hs 3 0 out_558.length 2), (13, aI64 x_559), (15, .hp 4 0), (16, aI64 x_608), (104, aI64 (label_422.length : Int)), (105, aI64 x_559), (129, aI64 (label_422.length : Int)), (130, aI64 x_608)] <| .seq ?_
         obtain ⟨hg619, hr⟩ := gd hr
         refine .r0 fine <| .mu 2 <| .p0 (v := .hp 2 (0 + x_608.toNat * 1)) (Eq.trans (b := ORes.ofP (guardV (inR x_608 label_422.length) (.hp 2 (0 + x_608.toNat * 1)))) (by kernel_rfl) (ofP_guard hg619)) <| .p0 (v := aI64 (gt label_422 x_608)) (Eq.trans (b := ORes.ofP ((label_422.flatMap (iC .i64))[0 + x_608.toNat * 1]?)) (by kernel_rfl) (ofP_some (flat_get (iC_len _) (inR_lt hg619) (by decide : 0 < 1) (by omega : 0 + x_608.toNat * 1 = x_608.toNat * 1 + 0) (by kernel_rfl)))) <| .mu 2 <| .done <| .n2 152 [(2, .hp 0 0), (3, .hp 1 0), (6, .hs 2 0 label_422.length 1), (12, .hs 3 0 out_558.length 2), (13, aI64 x_559), (15, .hp 4 0), (16, aI64 x_608), (104, aI64 (label_422.length : Int)), (105, aI64 x_559), (129, aI64 (label_422.length : Int)), (130, aI64 x_608), (138, aB (((gt label_422 x_608) : Int) == x_559))] [.own (api_Banded.c a), .own (api_Banded.c b), .own (label_422.flatMap (iC .i64)), .own (out_558.flatMap api_Region.c), .own [aI64 v597, .hs 5 0 r_607.length 1], .own (r_607.flatMap (iC .i64))] ?_
         refine .cd hr (fun hb620 hr => ?_) (fun hb620 hr => ?_)
         ·obtain ⟨hg621, hg622, hr⟩ := gd2 hr
          refine .r0 fine <| .mu 4 <| .e0 (v := .hs 7 0 (r_607 ++ [x_608]).length 1) (ws := [(5, .dead), (7, .own ((r_607 ++ [x_608]).flatMap (iC .i64)))]) (Eq.trans (b := guardO (decide (0 + r_607.length * 1 ≤ (r_607.flatMap (iC .i64)).length) && decide ((r_607.length + 1) * 8 ≤ 140737488355328) && decide (r_607.length + 1 ≤ 4611686018427387904)) (some (.eff (.hs 7 0 (r_607.length + 1) 1) [(5, .dead), (7, .own (((r_607.flatMap (iC .i64)).drop 0).take (r_607.length * 1) ++ [aI64 x_608]))]))) (by kernel_rfl) (app_own (l := r_607) (xs := [x_608]) (iC_len _) rfl rfl (by kernel_rfl) hg621 hg622)) <| .mu 2 <| .done <| .pop <| .ru fine ?_
          exact loopF_back (r_607 ++ [x_608], wrapF .i64 (x_608 + 1)) hr ((Wk.gc [2, 3, 6, 12, 13, 15, 104, 105, 129, 130] [(0, true), (1, true), (2, false), (3, false), (4, true), (7, false)] rfl (pKt (pKt (pKo (iC .i64) (iC_pure _) label_422 (pKo api_Region.c api_Region.pure out_558 (pKt (pKo (iC .i64) (iC_pure _) (r_607 ++ [x_608]) trivial))))))).to (by kernel_rfl))
         ·refine .skip <| .pop <| .ru fine ?_
          exact loopF_back (r_607, wrapF .i64 (x_608 + 1)) hr ((Wk.gc [2, 3, 6, 12, 13, 15, 104, 105, 129, 130] [(0, true), (1, true), (2, false), (3, false), (4, true), (5, false)] rfl (pKt (pKt (pKo (iC .i64) (iC_pure _) label_422 (pKo api_Region.c api_Region.pure out_558 (pKt (pKo (iC .i64) (iC_pure _) r_607 trivial))))))).to (by kernel_rfl))
        ·refine .leave rfl ?_
         obtain rfl := Option.some.inj hr
         exact ⟨rfl, ((Wk.gc [2, 3, 6, 12, 15, 104, 105] [(0, true), (1, true), (2, false), (3, false), (4, true), (5, false)] rfl (pKt (pKt (pKo (iC .i64) (iC_pure _) label_422 (pKo api_Region.c api_Region.pure out_558 (pKt (pKo (iC .i64) (iC_pure _) r_607 trivial))))))).to (by kernel_rfl))⟩
       ·rintro x st' hq625
        clear hL624
        obtain ⟨rfl, hq625⟩ := hq625
        refine CQ_exit _ rfl <| .wk hq625 <| .wk (((Wk.fix 5 (cs := (r_615.flatMap (iC .i64))) (by kernel_rfl)).trans (Wk.purcell 4 1 (b := 5) (len := r_615.length) (es := 1) (cs := (r_615.flatMap (iC .i64))) (cs' := [aI64 v597, .hs 5 0 r_615.length 1]) (by kernel_rfl) (by kernel_rfl) (by kernel_rfl) (ids_flat (iC_pure _) _) (fun h => flat_nil0 h))).to (c := ⟨mkS 152 0 [(2, .hp 0 0), (3, .hp 1 0), (6, .hs 2 0 label_422.length 1), (12, .hs 3 0 out_558.length 2), (15, .hp 4 0), (104, aI64 (label_422.length : Int)), (105, aI64 x_559)], [.own (api_Banded.c a), .own (api_Banded.c b), .own (label_422.flatMap (iC .i64)), .own (out_558.flatMap api_Region.c), .own [aI64 v597, sI64 r_615], .fix (r_615.flatMap (iC .i64))]⟩) (by kernel_rfl)) ?_
        obtain ⟨hg626, hg627, hr⟩ := gd2 hr
        refine .r0 fine <| .mu 3 <| .e0 (v := .hs 7 0 (out_558 ++ [api_Region.mk v597 r_615]).length 2) (ws := [(3, .dead), (7, .own ((out_558 ++ [api_Region.mk v597 r_615]).flatMap api_Region.c))]) (Eq.trans (b := guardO (decide (0 + out_558.length * 2 ≤ (out_558.flatMap api_Region.c).length) && decide ((out_558.length + 1) * 32 ≤ 140737488355328) && decide (out_558.length + 1 ≤ 4611686018427387904)) (some (.eff (.hs 7 0 (out_558.length + 1) 2) [(3, .dead), (7, .own (((out_558.flatMap api_Region.c).drop 0).take (out_558.length * 2) ++ [aI64 v597, sI64 r_615]))]))) (by kernel_rfl) (app_own (l := out_558) (xs := [api_Region.mk v597 r_615]) api_Region.len rfl rfl (by kernel_rfl) hg626 hg627)) <| .mu 1 <| .done <| .pop <| .ru fine ?_
        exact loopF_back (out_558 ++ [api_Region.mk v597 r_615], wrapF .i64 (x_559 + 1)) hr ((Wk.gc [2, 3, 6, 12, 104, 105] [(0, true), (1, true), (2, false), (7, false)] rfl (pKt (pKt (pKo (iC .i64) (iC_pure _) label_422 (pKo api_Region.c api_Region.pure (out_558 ++ [api_Region.mk v597 r_615]) trivial))))).to (by kernel_rfl))
    ·refine .leave rfl ?_
     obtain rfl := Option.some.inj hr
     exact ⟨rfl, ((Wk.gc [12] [(3, false)] rfl (pKo api_Region.c api_Region.pure out_558 trivial)).to (by kernel_rfl))⟩
   ·rintro x st' hq630
    clear hL629
    obtain ⟨rfl, hq630⟩ := hq630
    refine CQ_exit _ rfl <| .wk hq630 <| .seq <| .r3 fine 152 [(4, .hs 0 0 out_593.length 2)] <| .ret ?_
    obtain rfl := Option.some.inj hr
    exact FinQ.ret (vs := [.hs 0 0 out_593.length 2]) (by kernel_rfl) (Sn.hs rfl (.inl rfl) (SnC.pure (ids_flat api_Region.pure _)) (fun h => flat_nil0 h))

theorem slices_Equal_int_int_ok (n : Nat) (s1 : List Int) (s2 : List Int) (r : Bool) (hr : slices_Equal_int_int n s1 s2 = some r) : FnOk Tryz.prog 27 [sI64 s1, sI64 s2] (aB r) := by
 unfold slices_Equal_int_int at hr
 refine FnOk.bd fine Tryz.func27 [.tmp 4] ?_
 unfold Tryz.f27
 simp only [Option.getD_some]
 refine .seq <| .r3 fine 26 [(0, sI64 s1), (1, sI64 s2)] <| .seq <| .seq <| .r3 fine 26 [(0, sI64 s1), (1, sI64 s2), (10, aB (((s1.length : Int) : Int) != (s2.length : Int)))] ?_
 refine .cd hr (fun hb1 hr => ?_) (fun hb1 hr => ?_)
 ·refine .seq <| .ru fine <| .ret ?_
  obtain rfl := Option.some.inj hr
  exact FinQ.r1 [aB false]
 ·refine .skip <| .seq <| .seq <| .r3 fine 26 [(0, sI64 s1), (1, sI64 s2), (12, aI64 (s1.length : Int)), (13, aI64 0)] <| .block ?_
  replace hr := bd hr; obtain ⟨o12, hL13, hr⟩ := hr
  refine .loopO (σ := fun z0 => match z0 with | x_2 => ⟨mkS 26 0 [(0, sI64 s1), (1, sI64 s2), (12, aI64 (s1.length : Int)), (13, aI64 x_2)], []⟩) (Q := fun x st' => match (generalizing := false) o12 with | .inl _ => x = .exit 0 ∧ Wk 0 st' ⟨mkS 26 0 [], []⟩ | .inr (r0) => x = .ret ∧ FinQ Tryz.prog [.tmp 4] (aB r0) .ret st') hL13 ((Wk.gc [0, 1, 12, 13] [] rfl pK0).to (by kernel_rfl)) ?_ ?_
  ·clear hr
   rintro m x_2 hr
   show CQ _ _ _ _ _ ⟨_, _⟩
   refine .seq <| .r3 fine 26 [(0, sI64 s1), (1, sI64 s2), (12, aI64 (s1.length : Int)), (13, aI64 x_2), (14, aB (decide (x_2 < (s1.length : Int))))] <| .seq ?_
   refine .cd hr (fun hb8 hr => ?_) (fun hb8 hr => ?_)
   ·refine .skip <| .seq <| .block <| .seq <| .r3 fine 26 [(0, sI64 s1), (1, sI64 s2), (5, aI64 x_2), (12, aI64 (s1.length : Int)), (13, aI64 x_2)] <| .seq ?_
    obtain ⟨hg9, hg10, hr⟩ := gd2 hr
    refine .regionT fine callOf_nil <| .mu 2 <| .pure (v := .pp (s1.flatMap (iC .i64)) (x_2.toNat * 1)) (by kernel_rfl) (Eq.trans (b := ORes.ofP (guardV (inR x_2 s1.length) (.pp (s1.flatMap (iC .i64)) (x_2.toNat * 1)))) (by kernel_rfl) (ofP_guard hg9)) (by kernel_rfl) <| .pure (v := aI64 (gt s1 x_2)) (by kernel_rfl) (Eq.trans (b := ORes.ofP ((s1.flatMap (iC .i64))[x_2.toNat * 1]?)) (by kernel_rfl) (ofP_some (flat_get (iC_len _) (inR_lt hg9) (by decide : 0 < 1) (by omega : x_2.toNat * 1 = x_2.toNat * 1 + 0) (by kernel_rfl)))) (by kernel_rfl) <| .mu 2 <| .pure (v := .pp (s2.flatMap (iC .i64)) (x_2.toNat * 1)) (by kernel_rfl) (Eq.trans (b := ORes.ofP (guardV (inR x_2 s2.length) (.pp (s2.flatMap (iC .i64)) (x_2.toNat * 1)))) (by kernel_rfl) (ofP_guard hg10)) (by kernel_rfl) <| .pure (v := aI64 (gt s2 x_2)) (by kernel_rfl) (Eq.trans (b := ORes.ofP ((s2.flatMap (iC .i64))[x_2.toNat * 1]?)) (by kernel_rfl) (ofP_some (flat_get (iC_len _) (inR_lt hg10) (by decide : 0 < 1) (by omega : x_2.toNat * 1 = x_2.toNat * 1 + 0) (by kernel_rfl)))) (by kernel_rfl) <| .mu 1 ?_
    refine .done ⟨by kernel_rfl, ?_⟩
    refine .n2 26 [(0, sI64 s1), (1, sI64 s2), (12, aI64 (s1.length : Int)), (13, aI64 x_2), (24, aB (((gt s1 x_2) : Int) != (gt s2 x_2)))] [] ?_
    refine .cd hr (fun hb11 hr => ?_) (fun hb11 hr => ?_)
    ·refine .seq <| .ru fine <| .ret ?_
     obtain rfl := Option.some.inj hr
     exact ⟨rfl, FinQ.ret (vs := [aB false]) (by kernel_rfl) (Sn.pure rfl)⟩
    ·refine .skip <| .pop <| .ru fine ?_
     exact loopF_back (wrapF .i64 (x_2 + 1)) hr ((Wk.gc [0, 1, 12, 13] [] rfl pK0).to (by kernel_rfl))
   ·refine .leave rfl ?_
    obtain rfl := Option.some.inj hr
    exact ⟨rfl, ((Wk.gc [] [] rfl pK0).to (by kernel_rfl))⟩
  ·rcases o12 with ⟨⟩ | r0
   ·rintro x st' hq14
    clear hL13
    obtain ⟨rfl, hq14⟩ := hq14
    refine CQ_exit _ rfl <| .wk hq14 <| .seq <| .ru fine <| .ret ?_
    obtain rfl := Option.some.inj hr
    exact FinQ.r1 [aB true]
   ·rintro x st' hq14
    clear hL13
    obtain ⟨rfl, hq14⟩ := hq14
    obtain rfl := Option.some.inj hr
    exact CQ_ret _ hq14

theorem fiduciallaw59_ChangeRegions_1_ok (n : Nat) (x' : api_Region) (y : api_Region) (r : Bool) (hr : fiduciallaw59_ChangeRegions_1 n x' y = some r) : FnOk Tryz.prog 33 [.agg (api_Region.c x'), .agg (api_Region.c y)] (aB r) := by
 unfold fiduciallaw59_ChangeRegions_1 at hr
 refine FnOk.bd fine Tryz.func33 [.tmp 4] ?_
 unfold Tryz.f33
 simp only [Option.getD_some]
 refine .seq <| .r2 fine 17 [(2, .hp 0 0), (3, .hp 1 0)] [.own (api_Region.c x'), .own (api_Region.c y)] <| .seq ?_
 rcases Bool.eq_false_or_eq_true ((x'.Verdict : Int) == y.Verdict) with hb1 | hb1
 ·replace hr := cd_t hb1 hr
  obtain ⟨v2, hc3, hr⟩ := bd hr
  refine .g1 fine (ok0 (slices_Equal_int_int_ok n x'.Cells y.Cells v2 hc3)) <| .mu 4 <| .p0 (v := aB true) (Eq.trans (b := some (.pure (aB ((x'.Verdict : Int) == y.Verdict)))) (by kernel_rfl) (by rw [hb1])) <| .mu 5 <| .ca cf0 <| .mu 2 <| .done <| .ret ?_
  obtain rfl := Option.some.inj hr
  exact FinQ.r1 [aB v2]
 ·replace hr := cd_f hb1 hr
  refine .r0 fine <| .mu 4 <| .p0 (v := aB false) (Eq.trans (b := some (.pure (aB ((x'.Verdict : Int) == y.Verdict)))) (by kernel_rfl) (by rw [hb1])) <| .mu 8 <| .done <| .ret ?_
  obtain rfl := Option.some.inj hr
  exact FinQ.r1 [aB false]

theorem slices_EqualFunc_fiducial_api_Region_fiducial_api_Region_fiducial_api_Region_fiducial_api_Region_of_fiduciallaw59_ChangeRegions_1_ok (n : Nat) (s1 : List api_Region) (s2 : List api_Region) (r : Bool) (hr : slices_EqualFunc_fiducial_api_Region_fiducial_api_Region_fiducial_api_Region_fiducial_api_Region_of_fiduciallaw59_ChangeRegions_1 n s1 s2 = some r) : FnOk Tryz.prog 31 [slT api_Region.c s1, slT api_Region.c s2, .fn 33 [] []] (aB r) := by
 unfold slices_EqualFunc_fiducial_api_Region_fiducial_api_Region_fiducial_api_Region_fiducial_api_Region_of_fiduciallaw59_ChangeRegions_1 at hr
 refine FnOk.bd fine Tryz.func31 [.tmp 6] ?_
 unfold Tryz.f31
 simp only [Option.getD_some]
 refine .seq <| .r3 fine 32 [(0, slT api_Region.c s1), (1, slT api_Region.c s2), (2, .fn 33 [] [])] <| .seq <| .seq <| .r3 fine 32 [(0, slT api_Region.c s1), (1, slT api_Region.c s2), (2, .fn 33 [] []), (14, aB (((s1.length : Int) : Int) != (s2.length : Int)))] ?_
 refine .cd hr (fun hb1 hr => ?_) (fun hb1 hr => ?_)
 ·refine .seq <| .ru fine <| .ret ?_
  obtain rfl := Option.some.inj hr
  exact FinQ.r1 [aB false]
 ·refine .skip <| .seq <| .seq <| .r3 fine 32 [(1, slT api_Region.c s2), (2, .fn 33 [] []), (15, slT api_Region.c s1), (16, aI64 (s1.length : Int)), (17, aI64 0)] <| .block ?_
  replace hr := bd hr; obtain ⟨o16, hL17, hr⟩ := hr
  refine .loopO (σ := fun z0 => match z0 with | x_2 => ⟨mkS 32 0 [(1, slT api_Region.c s2), (2, .fn 33 [] []), (15, slT api_Region.c s1), (16, aI64 (s1.length : Int)), (17, aI64 x_2)], []⟩) (Q := fun x st' => match (generalizing := false) o16 with | .inl _ => x = .exit 0 ∧ Wk 0 st' ⟨mkS 32 0 [], []⟩ | .inr (r0) => x = .ret ∧ FinQ Tryz.prog [.tmp 6] (aB r0) .ret st') hL17 ((Wk.gc [1, 2, 15, 16, 17] [] rfl pK0).to (by kernel_rfl)) ?_ ?_
  ·clear hr
   rintro m x_2 hr
   show CQ _ _ _ _ _ ⟨_, _⟩
   refine .seq <| .r3 fine 32 [(1, slT api_Region.c s2), (2, .fn 33 [] []), (15, slT api_Region.c s1), (16, aI64 (s1.length : Int)), (17, aI64 x_2), (18, aB (decide (x_2 < (s1.length : Int))))] <| .seq ?_
   refine .cd hr (fun hb10 hr => ?_) (fun hb10 hr => ?_)
   ·refine .skip <| .seq <| .block <| .seq ?_
    obtain ⟨hg11, hr⟩ := gd hr
    refine .r0 fine <| .mu 1 <| .p0 (v := .pp (s1.flatMap api_Region.c) (x_2.toNat * 2)) (Eq.trans (b := ORes.ofP (guardV (inR x_2 s1.length) (.pp (s1.flatMap api_Region.c) (x_2.toNat * 2)))) (by kernel_rfl) (ofP_guard hg11)) <| .p0 (v := .agg (api_Region.c (gt s1 x_2))) (Eq.trans (b := ORes.ofP (guardV (decide (2 ≤ ((s1.flatMap api_Region.c).drop (x_2.toNat * 2)).length)) (.agg (((s1.flatMap api_Region.c).drop (x_2.toNat * 2)).take 2)))) (by kernel_rfl) (flat_load api_Region.len (inR_lt hg11) (by decide) (by omega : x_2.toNat * 2 = x_2.toNat * 2 + 0) (by kernel_rfl))) <| .mu 3 <| .done <| .n2 32 [(1, slT api_Region.c s2), (2, .fn 33 [] []), (7, aI64 x_2), (8, .hp 0 0), (15, slT api_Region.c s1), (16, aI64 (s1.length : Int)), (17, aI64 x_2)] [.own (api_Region.c (gt s1 x_2))] <| .seq ?_
    obtain ⟨hg12, hr⟩ := gd hr
    refine .r0 fine <| .mu 2 <| .p0 (v := .pp (s2.flatMap api_Region.c) (x_2.toNat * 2)) (Eq.trans (b := ORes.ofP (guardV (inR x_2 s2.length) (.pp (s2.flatMap api_Region.c) (x_2.toNat * 2)))) (by kernel_rfl) (ofP_guard hg12)) <| .p0 (v := .agg (api_Region.c (gt s2 x_2))) (Eq.trans (b := ORes.ofP (guardV (decide (2 ≤ ((s2.flatMap api_Region.c).drop (x_2.toNat * 2)).length)) (.agg (((s2.flatMap api_Region.c).drop (x_2.toNat * 2)).take 2)))) (by kernel_rfl) (flat_load api_Region.len (inR_lt hg12) (by decide) (by omega : x_2.toNat * 2 = x_2.toNat * 2 + 0) (by kernel_rfl))) <| .mu 2 <| .done <| .n2 32 [(1, slT api_Region.c s2), (2, .fn 33 [] []), (8, .hp 0 0), (9, .hp 1 0), (15, slT api_Region.c s1), (16, aI64 (s1.length : Int)), (17, aI64 x_2)] [.own (api_Region.c (gt s1 x_2)), .own (api_Region.c (gt s2 x_2))] <| .seq ?_
    obtain ⟨v13, hc14, hr⟩ := bd hr
    refine .g1 fine (ok0 (fiduciallaw59_ChangeRegions_1_ok n (gt s1 x_2) (gt s2 x_2) v13 hc14)) <| .mu 3 <| .ca cf0 <| .mu 1 <| .done <| .n2 32 [(1, slT api_Region.c s2), (2, .fn 33 [] []), (15, slT api_Region.c s1), (16, aI64 (s1.length : Int)), (17, aI64 x_2), (30, aB (!v13))] [.own (api_Region.c (gt s1 x_2)), .own (api_Region.c (gt s2 x_2))] ?_
    refine .cd hr (fun hb15 hr => ?_) (fun hb15 hr => ?_)
    ·refine .seq <| .ru fine <| .ret ?_
     obtain rfl := Option.some.inj hr
     exact ⟨rfl, FinQ.ret (vs := [aB false]) (by kernel_rfl) (Sn.pure rfl)⟩
    ·refine .skip <| .pop <| .ru fine ?_
     exact loopF_back (wrapF .i64 (x_2 + 1)) hr ((Wk.gc [1, 2, 15, 16, 17] [] rfl pK0).to (by kernel_rfl))
   ·refine .leave rfl ?_
    obtain rfl := Option.some.inj hr
    exact ⟨rfl, ((Wk.gc [] [] rfl pK0).to (by kernel_rfl))⟩
  ·rcases o16 with ⟨⟩ | r0
   ·rintro x st' hq18
    clear hL17
    obtain ⟨rfl, hq18⟩ := hq18
    refine CQ_exit _ rfl <| .wk hq18 <| .seq <| .ru fine <| .ret ?_
    obtain rfl := Option.some.inj hr
    exact FinQ.r1 [aB true]
   ·rintro x st' hq18
    clear hL17
    obtain ⟨rfl, hq18⟩ := hq18
    obtain rfl := Option.some.inj hr
    exact CQ_ret _ hq18

theorem fiduciallaw59_ChangeRegions_ok (n : Nat) (a : api_Banded) (b : api_Banded) (r : Bool) (hr : fiduciallaw59_ChangeRegions n a b = some r) : FnOk Tryz.prog 6 [.agg (api_Banded.c a), .agg (api_Banded.c b)] (aB r) := by
 unfold fiduciallaw59_ChangeRegions at hr
 refine FnOk.bd fine Tryz.func6 [.tmp 4] ?_
 unfold Tryz.f6
 simp only [Option.getD_some]
 refine .seq <| .r2 fine 44 [(2, .hp 0 0), (3, .hp 1 0)] [.own (api_Banded.c a), .own (api_Banded.c b)] <| .seq <| .seq ?_
 obtain ⟨v1, hc2, hr⟩ := bd hr
 refine .g1 fine (ok0 (fiduciallaw59_known_ok n v1 hc2)) <| .ca cf0 <| .mu 1 <| .done <| .n2 44 [(2, .hp 0 0), (3, .hp 1 0), (9, aB (!v1))] [.own (api_Banded.c a), .own (api_Banded.c b)] ?_
 refine .cd hr (fun hb4 hr => ?_) (fun hb4 hr => ?_)
 ·refine .seq <| .ru fine <| .ret ?_
  obtain rfl := Option.some.inj hr
  exact FinQ.r1 [aB false]
 ·refine .skip <| .seq <| .seq ?_
  obtain ⟨v5, hc6, hr⟩ := bd hr
  refine .gn fine (ca4 [.own (api_Banded.c a), .own (api_Banded.c b), .own [aI64 a.Grid.X0, aI64 a.Grid.Y0, aI64 a.Grid.Step, aI64 a.Grid.Width, aI64 a.Grid.Height, sI64 a.Grid.Z, sI64 a.Err, aI64 b.Grid.X0, aI64 b.Grid.Y0, aI64 b.Grid.Step, aI64 b.Grid.Width, aI64 b.Grid.Height, sI64 b.Grid.Z, sI64 b.Err]] (callOk_val (args := [.hs 2 0 2 7]) (l := [2]) rfl (SnL.cons (Sn.hs rfl (.inl rfl) (SnC.cons (Sn.pure rfl) (SnC.cons (Sn.pure rfl) (SnC.cons (Sn.pure rfl) (SnC.cons (Sn.pure rfl) (SnC.cons (Sn.pure rfl) (SnC.cons (Sn.pure rfl) (SnC.cons (Sn.pure rfl) (SnC.cons (Sn.pure rfl) (SnC.cons (Sn.pure rfl) (SnC.cons (Sn.pure rfl) (SnC.cons (Sn.pure rfl) (SnC.cons (Sn.pure rfl) (SnC.cons (Sn.pure rfl) (SnC.cons (Sn.pure rfl) SnC.nil)))))))))))))) (fun h => nomatch h)) SnL.nil) (fiduciallaw59_few_ok n [a, b] v5 hc6))) <| .mu 3 <| .ca cf0 <| .mu 1 <| .done <| .n2 44 [(2, .hp 0 0), (3, .hp 1 0), (14, aB (!v5))] [.own (api_Banded.c a), .own (api_Banded.c b), .own [aI64 a.Grid.X0, aI64 a.Grid.Y0, aI64 a.Grid.Step, aI64 a.Grid.Width, aI64 a.Grid.Height, sI64 a.Grid.Z, sI64 a.Err, aI64 b.Grid.X0, aI64 b.Grid.Y0, aI64 b.Grid.Step, aI64 b.Grid.Width, aI64 b.Grid.Height, sI64 b.Grid.Z, sI64 b.Err]] ?_
  refine .cd hr (fun hb8 hr => ?_) (fun hb8 hr => ?_)
  ·refine .seq <| .ru fine <| .ret ?_
   obtain rfl := Option.some.inj hr
   exact FinQ.r1 [aB true]
  ·refine .skip <| .seq ?_
   obtain ⟨v9, hc10, hr⟩ := bd hr
   refine .g1 fine (ok0 (change_Regions_ok n a b v9 hc10)) <| .mu 2 <| .ca cf0 <| .mu 5 <| .done <| .n2 44 [(2, .hp 0 0), (3, .hp 1 0), (5, slT api_Region.c v9.1), (6, aI64 v9.2)] [.own (api_Banded.c a), .own (api_Banded.c b), .own [aI64 a.Grid.X0, aI64 a.Grid.Y0, aI64 a.Grid.Step, aI64 a.Grid.Width, aI64 a.Grid.Height, sI64 a.Grid.Z, sI64 a.Err, aI64 b.Grid.X0, aI64 b.Grid.Y0, aI64 b.Grid.Step, aI64 b.Grid.Width, aI64 b.Grid.Height, sI64 b.Grid.Z, sI64 b.Err]] <| .seq <| .seq ?_
   obtain ⟨v11, hc12, hr⟩ := bd hr
   refine .gn fine (ca4 [.own (api_Banded.c a), .own (api_Banded.c b), .own [aI64 a.Grid.X0, aI64 a.Grid.Y0, aI64 a.Grid.Step, aI64 a.Grid.Width, aI64 a.Grid.Height, sI64 a.Grid.Z, sI64 a.Err, aI64 b.Grid.X0, aI64 b.Grid.Y0, aI64 b.Grid.Step, aI64 b.Grid.Width, aI64 b.Grid.Height, sI64 b.Grid.Z, sI64 b.Err], .own [aI64 a.Grid.X0, aI64 a.Grid.Y0, aI64 a.Grid.Step, aI64 a.Grid.Width, aI64 a.Grid.Height, sI64 a.Grid.Z, sI64 a.Err, aI64 b.Grid.X0, aI64 b.Grid.Y0, aI64 b.Grid.Step, aI64 b.Grid.Width, aI64 b.Grid.Height, sI64 b.Grid.Z, sI64 b.Err]] (callOk_val (args := [.hs 3 0 2 7]) (l := [3]) rfl (SnL.cons (Sn.hs rfl (.inl rfl) (SnC.cons (Sn.pure rfl) (SnC.cons (Sn.pure rfl) (SnC.cons (Sn.pure rfl) (SnC.cons (Sn.pure rfl) (SnC.cons (Sn.pure rfl) (SnC.cons (Sn.pure rfl) (SnC.cons (Sn.pure rfl) (SnC.cons (Sn.pure rfl) (SnC.cons (Sn.pure rfl) (SnC.cons (Sn.pure rfl) (SnC.cons (Sn.pure rfl) (SnC.cons (Sn.pure rfl) (SnC.cons (Sn.pure rfl) (SnC.cons (Sn.pure rfl) SnC.nil)))))))))))))) (fun h => nomatch h)) SnL.nil) (fiduciallaw59_fits_ok n [a, b] v11 hc12))) <| .mu 3 <| .ca cf0 <| .mu 1 <| .done <| .n2 44 [(2, .hp 0 0), (3, .hp 1 0), (5, slT api_Region.c v9.1), (6, aI64 v9.2), (7, aI64 v11)] [.own (api_Banded.c a), .own (api_Banded.c b), .own [aI64 a.Grid.X0, aI64 a.Grid.Y0, aI64 a.Grid.Step, aI64 a.Grid.Width, aI64 a.Grid.Height, sI64 a.Grid.Z, sI64 a.Err, aI64 b.Grid.X0, aI64 b.Grid.Y0, aI64 b.Grid.Step, aI64 b.Grid.Width, aI64 b.Grid.Height, sI64 b.Grid.Z, sI64 b.Err], .own [aI64 a.Grid.X0, aI64 a.Grid.Y0, aI64 a.Grid.Step, aI64 a.Grid.Width, aI64 a.Grid.Height, sI64 a.Grid.Z, sI64 a.Err, aI64 b.Grid.X0, aI64 b.Grid.Y0, aI64 b.Grid.Step, aI64 b.Grid.Width, aI64 b.Grid.Height, sI64 b.Grid.Z, sI64 b.Err]] <| .seq <| .r3 fine 44 [(2, .hp 0 0), (3, .hp 1 0), (5, slT api_Region.c v9.1), (6, aI64 v9.2), (7, aI64 v11), (26, aB ((v11 : Int) != 0))] ?_
   refine .cd hr (fun hb13 hr => ?_) (fun hb13 hr => ?_)
   ·refine .seq ?_
    rcases Bool.eq_false_or_eq_true ((v9.2 : Int) == v11) with hb14 | hb14
    ·replace hr := cd_t hb14 hr
     refine .r0 fine <| .mu 2 <| .p0 (v := aB true) (Eq.trans (b := some (.pure (aB ((v9.2 : Int) == v11)))) (by kernel_rfl) (by rw [hb14])) <| .mu 6 <| .done <| .ret ?_
     obtain rfl := Option.some.inj hr
     exact FinQ.r1 [aB (((v9.1.length : Int) : Int) == 0)]
    ·replace hr := cd_f hb14 hr
     refine .r0 fine <| .mu 2 <| .p0 (v := aB false) (Eq.trans (b := some (.pure (aB ((v9.2 : Int) == v11)))) (by kernel_rfl) (by rw [hb14])) <| .mu 6 <| .done <| .ret ?_
     obtain rfl := Option.some.inj hr
     exact FinQ.r1 [aB false]
   ·refine .skip <| .seq ?_
    rcases Bool.eq_false_or_eq_true ((v9.2 : Int) == 0) with hb15 | hb15
    ·replace hr := cd_t hb15 hr
     obtain ⟨v16, hc17, v18, hc19, hr⟩ := bd2 hr
     refine .gn fine (ca1 (ok0 (fiduciallaw59_regions_ok n a b v16 hc17)) (ca3 (ok0 (slices_EqualFunc_fiducial_api_Region_fiducial_api_Region_fiducial_api_Region_fiducial_api_Region_of_fiduciallaw59_ChangeRegions_1_ok n v9.1 v16 v18 hc19)))) <| .mu 1 <| .p0 (v := aB true) (Eq.trans (b := some (.pure (aB ((v9.2 : Int) == 0)))) (by kernel_rfl) (by rw [hb15])) <| .mu 4 <| .ca cf0 <| .ca (cfF cf0) <| .mu 2 <| .done <| .ret ?_
     obtain rfl := Option.some.inj hr
     exact FinQ.r1 [aB v18]
    ·replace hr := cd_f hb15 hr
     refine .r0 fine <| .mu 1 <| .p0 (v := aB false) (Eq.trans (b := some (.pure (aB ((v9.2 : Int) == 0)))) (by kernel_rfl) (by rw [hb15])) <| .mu 8 <| .done <| .ret ?_
     obtain rfl := Option.some.inj hr
     exact FinQ.r1 [aB false]
end Go.L
