/- The program's functions compute what the plain Lean programs compute, part 4; printed by a program. -/
import Derived.Test.YtlmndpmjbgnmbaaGreatFusLP3
import Derived.Test.YtlmndpmjbgnmbaaGreatL0odgiifph
import Derived.Test.YtlmndpmjbgnmbaaGreatSmallealebnha
import Derived.Test.YtlmndpmjbgnmbaaGreatChecked
import Derived.KernelRfl
set_option linter.unusedVariables false
set_option linter.unusedSimpArgs false
set_option maxRecDepth 100000
set_option maxHeartbeats 4000000
namespace Go.L
open Go Go.Eng Go.Proofs
theorem math_bits_Len64_ok (n : Nat) (x' : Int) (r : Int) (hr : math_bits_Len64 n x' = some r) : FnOk Tryz.prog 142 [aU64 x'] (aI64 r) := by
 unfold math_bits_Len64 at hr
 refine FnOk.bd fine Tryz.func142 [.tmp 2] ?_
 unfold Tryz.f142
 simp only [Option.getD_some]
 refine .seq <| .r3 fine 25 [(0, aU64 x'), (2, aI64 0)] <| .seq <| .seq <| .r3 fine 25 [(0, aU64 x'), (2, aI64 0), (4, aB (decide (x' ≥ 4294967296)))] ?_
 refine .cd hr (fun hb1 hr => ?_) (fun hb1 hr => ?_)
 ·refine .seq <| .r3 fine 25 [(0, aU64 (x'.fdiv (2 ^ 32)))] <| .r3 fine 25 [(0, aU64 (x'.fdiv (2 ^ 32))), (2, aI64 32)] <| .seq <| .seq <| .r3 fine 25 [(0, aU64 (x'.fdiv (2 ^ 32))), (2, aI64 32), (8, aB (decide ((x'.fdiv (2 ^ 32)) ≥ 65536)))] ?_
  refine .cd hr (fun hb2 hr => ?_) (fun hb2 hr => ?_)
  ·refine .seq <| .r3 fine 25 [(0, aU64 ((x'.fdiv (2 ^ 32)).fdiv (2 ^ 16))), (2, aI64 32)] <| .r3 fine 25 [(0, aU64 ((x'.fdiv (2 ^ 32)).fdiv (2 ^ 16))), (2, aI64 48)] <| .seq <| .seq <| .r3 fine 25 [(0, aU64 ((x'.fdiv (2 ^ 32)).fdiv (2 ^ 16))), (2, aI64 48), (14, aB (decide (((x'.fdiv (2 ^ 32)).fdiv (2 ^ 16)) ≥ 256)))] ?_
   refine .cd hr (fun hb3 hr => ?_) (fun hb3 hr => ?_)
   ·refine .seq <| .r3 fine 25 [(0, aU64 (((x'.fdiv (2 ^ 32)).fdiv (2 ^ 16)).fdiv (2 ^ 8))), (2, aI64 48)] <| .r3 fine 25 [(0, aU64 (((x'.fdiv (2 ^ 32)).fdiv (2 ^ 16)).fdiv (2 ^ 8))), (2, aI64 56)] <| .seq ?_
    obtain ⟨hg4, hr⟩ := gd hr
    refine .r0 fine <| .mu 3 <| .p0 (v := aU8 (strAt ⟨#[0, 1, 2, 2, 3, 3, 3, 3, 4, 4, 4, 4, 4, 4, 4, 4, 5, 5, 5, 5, 5, 5, 5, 5, 5, 5, 5, 5, 5, 5, 5, 5, 6, 6, 6, 6, 6, 6, 6, 6, 6, 6, 6, 6, 6, 6, 6, 6, 6, 6, 6, 6, 6, 6, 6, 6, 6, 6, 6, 6, 6, 6, 6, 6, 7, 7, 7, 7, 7, 7, 7, 7, 7, 7, 7, 7, 7, 7, 7, 7, 7, 7, 7, 7, 7, 7, 7, 7, 7, 7, 7, 7, 7, 7, 7, 7, 7, 7, 7, 7, 7, 7, 7, 7, 7, 7, 7, 7, 7, 7, 7, 7, 7, 7, 7, 7, 7, 7, 7, 7, 7, 7, 7, 7, 7, 7, 7, 7, 8, 8, 8, 8, 8, 8, 8, 8, 8, 8, 8, 8, 8, 8, 8, 8, 8, 8, 8, 8, 8, 8, 8, 8, 8, 8, 8, 8, 8, 8, 8, 8, 8, 8, 8, 8, 8, 8, 8, 8, 8, 8, 8, 8, 8, 8, 8, 8, 8, 8, 8, 8, 8, 8, 8, 8, 8, 8, 8, 8, 8, 8, 8, 8, 8, 8, 8, 8, 8, 8, 8, 8, 8, 8, 8, 8, 8, 8, 8, 8, 8, 8, 8, 8, 8, 8, 8, 8, 8, 8, 8, 8, 8, 8, 8, 8, 8, 8, 8, 8, 8, 8, 8, 8, 8, 8, 8, 8, 8, 8, 8, 8, 8, 8, 8, 8, 8, 8, 8, 8, 8, 8, 8, 8, 8, 8, 8, 8]⟩ (wrapF .u8 (((x'.fdiv (2 ^ 32)).fdiv (2 ^ 16)).fdiv (2 ^ 8))))) (idx_str (s := ⟨#[0, 1, 2, 2, 3, 3, 3, 3, 4, 4, 4, 4, 4, 4, 4, 4, 5, 5, 5, 5, 5, 5, 5, 5, 5, 5, 5, 5, 5, 5, 5, 5, 6, 6, 6, 6, 6, 6, 6, 6, 6, 6, 6, 6, 6, 6, 6, 6, 6, 6, 6, 6, 6, 6, 6, 6, 6, 6, 6, 6, 6, 6, 6, 6, 7, 7, 7, 7, 7, 7, 7, 7, 7, 7, 7, 7, 7, 7, 7, 7, 7, 7, 7, 7, 7, 7, 7, 7, 7, 7, 7, 7, 7, 7, 7, 7, 7, 7, 7, 7, 7, 7, 7, 7, 7, 7, 7, 7, 7, 7, 7, 7, 7, 7, 7, 7, 7, 7, 7, 7, 7, 7, 7, 7, 7, 7, 7, 7, 8, 8, 8, 8, 8, 8, 8, 8, 8, 8, 8, 8, 8, 8, 8, 8, 8, 8, 8, 8, 8, 8, 8, 8, 8, 8, 8, 8, 8, 8, 8, 8, 8, 8, 8, 8, 8, 8, 8, 8, 8, 8, 8, 8, 8, 8, 8, 8, 8, 8, 8, 8, 8, 8, 8, 8, 8, 8, 8, 8, 8, 8, 8, 8, 8, 8, 8, 8, 8, 8, 8, 8, 8, 8, 8, 8, 8, 8, 8, 8, 8, 8, 8, 8, 8, 8, 8, 8, 8, 8, 8, 8, 8, 8, 8, 8, 8, 8, 8, 8, 8, 8, 8, 8, 8, 8, 8, 8, 8, 8, 8, 8, 8, 8, 8, 8, 8, 8, 8, 8, 8, 8, 8, 8, 8, 8, 8, 8]⟩) (k := .u8) (i := (wrapF .u8 (((x'.fdiv (2 ^ 32)).fdiv (2 ^ 16)).fdiv (2 ^ 8)))) (by kernel_rfl) (by kernel_rfl) (by kernel_rfl) hg4) <| .mu 3 <| .done <| .ret ?_
    obtain rfl := Option.some.inj hr
    exact FinQ.r1 [aI64 (wrapF .i64 (56 + (wrapF .i64 (strAt ⟨#[0, 1, 2, 2, 3, 3, 3, 3, 4, 4, 4, 4, 4, 4, 4, 4, 5, 5, 5, 5, 5, 5, 5, 5, 5, 5, 5, 5, 5, 5, 5, 5, 6, 6, 6, 6, 6, 6, 6, 6, 6, 6, 6, 6, 6, 6, 6, 6, 6, 6, 6, 6, 6, 6, 6, 6, 6, 6, 6, 6, 6, 6, 6, 6, 7, 7, 7, 7, 7, 7, 7, 7, 7, 7, 7, 7, 7, 7, 7, 7, 7, 7, 7, 7, 7, 7, 7, 7, 7, 7, 7, 7, 7, 7, 7, 7, 7, 7, 7, 7, 7, 7, 7, 7, 7, 7, 7, 7, 7, 7, 7, 7, 7, 7, 7, 7, 7, 7, 7, 7, 7, 7, 7, 7, 7, 7, 7, 7, 8, 8, 8, 8, 8, 8, 8, 8, 8, 8, 8, 8, 8, 8, 8, 8, 8, 8, 8, 8, 8, 8, 8, 8, 8, 8, 8, 8, 8, 8, 8, 8, 8, 8, 8, 8, 8, 8, 8, 8, 8, 8, 8, 8, 8, 8, 8, 8, 8, 8, 8, 8, 8, 8, 8, 8, 8, 8, 8, 8, 8, 8, 8, 8, 8, 8, 8, 8, 8, 8, 8, 8, 8, 8, 8, 8, 8, 8, 8, 8, 8, 8, 8, 8, 8, 8, 8, 8, 8, 8, 8, 8, 8, 8, 8, 8, 8, 8, 8, 8, 8, 8, 8, 8, 8, 8, 8, 8, 8, 8, 8, 8, 8, 8, 8, 8, 8, 8, 8, 8, 8, 8, 8, 8, 8, 8, 8, 8]⟩ (wrapF .u8 (((x'.fdiv (2 ^ 32)).fdiv (2 ^ 16)).fdiv (2 ^ 8)))))))]
   ·refine .skip <| .seq ?_
    obtain ⟨hg5, hr⟩ := gd hr
    refine .r0 fine <| .mu 3 <| .p0 (v := aU8 (strAt ⟨#[0, 1, 2, 2, 3, 3, 3, 3, 4, 4, 4, 4, 4, 4, 4, 4, 5, 5, 5, 5, 5, 5, 5, 5, 5, 5, 5, 5, 5, 5, 5, 5, 6, 6, 6, 6, 6, 6, 6, 6, 6, 6, 6, 6, 6, 6, 6, 6, 6, 6, 6, 6, 6, 6, 6, 6, 6, 6, 6, 6, 6, 6, 6, 6, 7, 7, 7, 7, 7, 7, 7, 7, 7, 7, 7, 7, 7, 7, 7, 7, 7, 7, 7, 7, 7, 7, 7, 7, 7, 7, 7, 7, 7, 7, 7, 7, 7, 7, 7, 7, 7, 7, 7, 7, 7, 7, 7, 7, 7, 7, 7, 7, 7, 7, 7, 7, 7, 7, 7, 7, 7, 7, 7, 7, 7, 7, 7, 7, 8, 8, 8, 8, 8, 8, 8, 8, 8, 8, 8, 8, 8, 8, 8, 8, 8, 8, 8, 8, 8, 8, 8, 8, 8, 8, 8, 8, 8, 8, 8, 8, 8, 8, 8, 8, 8, 8, 8, 8, 8, 8, 8, 8, 8, 8, 8, 8, 8, 8, 8, 8, 8, 8, 8, 8, 8, 8, 8, 8, 8, 8, 8, 8, 8, 8, 8, 8, 8, 8, 8, 8, 8, 8, 8, 8, 8, 8, 8, 8, 8, 8, 8, 8, 8, 8, 8, 8, 8, 8, 8, 8, 8, 8, 8, 8, 8, 8, 8, 8, 8, 8, 8, 8, 8, 8, 8, 8, 8, 8, 8, 8, 8, 8, 8, 8, 8, 8, 8, 8, 8, 8, 8, 8, 8, 8, 8, 8]⟩ (wrapF .u8 ((x'.fdiv (2 ^ 32)).fdiv (2 ^ 16))))) (idx_str (s := ⟨#[0, 1, 2, 2, 3, 3, 3, 3, 4, 4, 4, 4, 4, 4, 4, 4, 5, 5, 5, 5, 5, 5, 5, 5, 5, 5, 5, 5, 5, 5, 5, 5, 6, 6, 6, 6, 6, 6, 6, 6, 6, 6, 6, 6, 6, 6, 6, 6, 6, 6, 6, 6, 6, 6, 6, 6, 6, 6, 6, 6, 6, 6, 6, 6, 7, 7, 7, 7, 7, 7, 7, 7, 7, 7, 7, 7, 7, 7, 7, 7, 7, 7, 7, 7, 7, 7, 7, 7, 7, 7, 7, 7, 7, 7, 7, 7, 7, 7, 7, 7, 7, 7, 7, 7, 7, 7, 7, 7, 7, 7, 7, 7, 7, 7, 7, 7, 7, 7, 7, 7, 7, 7, 7, 7, 7, 7, 7, 7, 8, 8, 8, 8, 8, 8, 8, 8, 8, 8, 8, 8, 8, 8, 8, 8, 8, 8, 8, 8, 8, 8, 8, 8, 8, 8, 8, 8, 8, 8, 8, 8, 8, 8, 8, 8, 8, 8, 8, 8, 8, 8, 8, 8, 8, 8, 8, 8, 8, 8, 8, 8, 8, 8, 8, 8, 8, 8, 8, 8, 8, 8, 8, 8, 8, 8, 8, 8, 8, 8, 8, 8, 8, 8, 8, 8, 8, 8, 8, 8, 8, 8, 8, 8, 8, 8, 8, 8, 8, 8, 8, 8, 8, 8, 8, 8, 8, 8, 8, 8, 8, 8, 8, 8, 8, 8, 8, 8, 8, 8, 8, 8, 8, 8, 8, 8, 8, 8, 8, 8, 8, 8, 8, 8, 8, 8, 8, 8]⟩) (k := .u8) (i := (wrapF .u8 ((x'.fdiv (2 ^ 32)).fdiv (2 ^ 16)))) (by kernel_rfl) (by kernel_rfl) (by kernel_rfl) hg5) <| .mu 3 <| .done <| .ret ?_
    obtain rfl := Option.some.inj hr
    exact FinQ.r1 [aI64 (wrapF .i64 (48 + (wrapF .i64 (strAt ⟨#[0, 1, 2, 2, 3, 3, 3, 3, 4, 4, 4, 4, 4, 4, 4, 4, 5, 5, 5, 5, 5, 5, 5, 5, 5, 5, 5, 5, 5, 5, 5, 5, 6, 6, 6, 6, 6, 6, 6, 6, 6, 6, 6, 6, 6, 6, 6, 6, 6, 6, 6, 6, 6, 6, 6, 6, 6, 6, 6, 6, 6, 6, 6, 6, 7, 7, 7, 7, 7, 7, 7, 7, 7, 7, 7, 7, 7, 7, 7, 7, 7, 7, 7, 7, 7, 7, 7, 7, 7, 7, 7, 7, 7, 7, 7, 7, 7, 7, 7, 7, 7, 7, 7, 7, 7, 7, 7, 7, 7, 7, 7, 7, 7, 7, 7, 7, 7, 7, 7, 7, 7, 7, 7, 7, 7, 7, 7, 7, 8, 8, 8, 8, 8, 8, 8, 8, 8, 8, 8, 8, 8, 8, 8, 8, 8, 8, 8, 8, 8, 8, 8, 8, 8, 8, 8, 8, 8, 8, 8, 8, 8, 8, 8, 8, 8, 8, 8, 8, 8, 8, 8, 8, 8, 8, 8, 8, 8, 8, 8, 8, 8, 8, 8, 8, 8, 8, 8, 8, 8, 8, 8, 8, 8, 8, 8, 8, 8, 8, 8, 8, 8, 8, 8, 8, 8, 8, 8, 8, 8, 8, 8, 8, 8, 8, 8, 8, 8, 8, 8, 8, 8, 8, 8, 8, 8, 8, 8, 8, 8, 8, 8, 8, 8, 8, 8, 8, 8, 8, 8, 8, 8, 8, 8, 8, 8, 8, 8, 8, 8, 8, 8, 8, 8, 8, 8, 8]⟩ (wrapF .u8 ((x'.fdiv (2 ^ 32)).fdiv (2 ^ 16)))))))]
  ·refine .skip <| .seq <| .seq <| .r3 fine 25 [(0, aU64 (x'.fdiv (2 ^ 32))), (2, aI64 32), (14, aB (decide ((x'.fdiv (2 ^ 32)) ≥ 256)))] ?_
   refine .cd hr (fun hb6 hr => ?_) (fun hb6 hr => ?_)
   ·refine .seq <| .r3 fine 25 [(0, aU64 ((x'.fdiv (2 ^ 32)).fdiv (2 ^ 8))), (2, aI64 32)] <| .r3 fine 25 [(0, aU64 ((x'.fdiv (2 ^ 32)).fdiv (2 ^ 8))), (2, aI64 40)] <| .seq ?_
    obtain ⟨hg7, hr⟩ := gd hr
    refine .r0 fine <| .mu 3 <| .p0 (v := aU8 (strAt ⟨#[0, 1, 2, 2, 3, 3, 3, 3, 4, 4, 4, 4, 4, 4, 4, 4, 5, 5, 5, 5, 5, 5, 5, 5, 5, 5, 5, 5, 5, 5, 5, 5, 6, 6, 6, 6, 6, 6, 6, 6, 6, 6, 6, 6, 6, 6, 6, 6, 6, 6, 6, 6, 6, 6, 6, 6, 6, 6, 6, 6, 6, 6, 6, 6, 7, 7, 7, 7, 7, 7, 7, 7, 7, 7, 7, 7, 7, 7, 7, 7, 7, 7, 7, 7, 7, 7, 7, 7, 7, 7, 7, 7, 7, 7, 7, 7, 7, 7, 7, 7, 7, 7, 7, 7, 7, 7, 7, 7, 7, 7, 7, 7, 7, 7, 7, 7, 7, 7, 7, 7, 7, 7, 7, 7, 7, 7, 7, 7, 8, 8, 8, 8, 8, 8, 8, 8, 8, 8, 8, 8, 8, 8, 8, 8, 8, 8, 8, 8, 8, 8, 8, 8, 8, 8, 8, 8, 8, 8, 8, 8, 8, 8, 8, 8, 8, 8, 8, 8, 8, 8, 8, 8, 8, 8, 8, 8, 8, 8, 8, 8, 8, 8, 8, 8, 8, 8, 8, 8, 8, 8, 8, 8, 8, 8, 8, 8, 8, 8, 8, 8, 8, 8, 8, 8, 8, 8, 8, 8, 8, 8, 8, 8, 8, 8, 8, 8, 8, 8, 8, 8, 8, 8, 8, 8, 8, 8, 8, 8, 8, 8, 8, 8, 8, 8, 8, 8, 8, 8, 8, 8, 8, 8, 8, 8, 8, 8, 8, 8, 8, 8, 8, 8, 8, 8, 8, 8]⟩ (wrapF .u8 ((x'.fdiv (2 ^ 32)).fdiv (2 ^ 8))))) (idx_str (s := ⟨#[0, 1, 2, 2, 3, 3, 3, 3, 4, 4, 4, 4, 4, 4, 4, 4, 5, 5, 5, 5, 5, 5, 5, 5, 5, 5, 5, 5, 5, 5, 5, 5, 6, 6, 6, 6, 6, 6, 6, 6, 6, 6, 6, 6, 6, 6, 6, 6, 6, 6, 6, 6, 6, 6, 6, 6, 6, 6, 6, 6, 6, 6, 6, 6, 7, 7, 7, 7, 7, 7, 7, 7, 7, 7, 7, 7, 7, 7, 7, 7, 7, 7, 7, 7, 7, 7, 7, 7, 7, 7, 7, 7, 7, 7, 7, 7, 7, 7, 7, 7, 7, 7, 7, 7, 7, 7, 7, 7, 7, 7, 7, 7, 7, 7, 7, 7, 7, 7, 7, 7, 7, 7, 7, 7, 7, 7, 7, 7, 8, 8, 8, 8, 8, 8, 8, 8, 8, 8, 8, 8, 8, 8, 8, 8, 8, 8, 8, 8, 8, 8, 8, 8, 8, 8, 8, 8, 8, 8, 8, 8, 8, 8, 8, 8, 8, 8, 8, 8, 8, 8, 8, 8, 8, 8, 8, 8, 8, 8, 8, 8, 8, 8, 8, 8, 8, 8, 8, 8, 8, 8, 8, 8, 8, 8, 8, 8, 8, 8, 8, 8, 8, 8, 8, 8, 8, 8, 8, 8, 8, 8, 8, 8, 8, 8, 8, 8, 8, 8, 8, 8, 8, 8, 8, 8, 8, 8, 8, 8, 8, 8, 8, 8, 8, 8, 8, 8, 8, 8, 8, 8, 8, 8, 8, 8, 8, 8, 8, 8, 8, 8, 8, 8, 8, 8, 8, 8]⟩) (k := .u8) (i := (wrapF .u8 ((x'.fdiv (2 ^ 32)).fdiv (2 ^ 8)))) (by kernel_rfl) (by kernel_rfl) (by kernel_rfl) hg7) <| .mu 3 <| .done <| .ret ?_
    obtain rfl := Option.some.inj hr
    exact FinQ.r1 [aI64 (wrapF .i64 (40 + (wrapF .i64 (strAt ⟨#[0, 1, 2, 2, 3, 3, 3, 3, 4, 4, 4, 4, 4, 4, 4, 4, 5, 5, 5, 5, 5, 5, 5, 5, 5, 5, 5, 5, 5, 5, 5, 5, 6, 6, 6, 6, 6, 6, 6, 6, 6, 6, 6, 6, 6, 6, 6, 6, 6, 6, 6, 6, 6, 6, 6, 6, 6, 6, 6, 6, 6, 6, 6, 6, 7, 7, 7, 7, 7, 7, 7, 7, 7, 7, 7, 7, 7, 7, 7, 7, 7, 7, 7, 7, 7, 7, 7, 7, 7, 7, 7, 7, 7, 7, 7, 7, 7, 7, 7, 7, 7, 7, 7, 7, 7, 7, 7, 7, 7, 7, 7, 7, 7, 7, 7, 7, 7, 7, 7, 7, 7, 7, 7, 7, 7, 7, 7, 7, 8, 8, 8, 8, 8, 8, 8, 8, 8, 8, 8, 8, 8, 8, 8, 8, 8, 8, 8, 8, 8, 8, 8, 8, 8, 8, 8, 8, 8, 8, 8, 8, 8, 8, 8, 8, 8, 8, 8, 8, 8, 8, 8, 8, 8, 8, 8, 8, 8, 8, 8, 8, 8, 8, 8, 8, 8, 8, 8, 8, 8, 8, 8, 8, 8, 8, 8, 8, 8, 8, 8, 8, 8, 8, 8, 8, 8, 8, 8, 8, 8, 8, 8, 8, 8, 8, 8, 8, 8, 8, 8, 8, 8, 8, 8, 8, 8, 8, 8, 8, 8, 8, 8, 8, 8, 8, 8, 8, 8, 8, 8, 8, 8, 8, 8, 8, 8, 8, 8, 8, 8, 8, 8, 8, 8, 8, 8, 8]⟩ (wrapF .u8 ((x'.fdiv (2 ^ 32)).fdiv (2 ^ 8)))))))]
   ·refine .skip <| .seq ?_
    obtain ⟨hg8, hr⟩ := gd hr
    refine .r0 fine <| .mu 3 <| .p0 (v := aU8 (strAt ⟨#[0, 1, 2, 2, 3, 3, 3, 3, 4, 4, 4, 4, 4, 4, 4, 4, 5, 5, 5, 5, 5, 5, 5, 5, 5, 5, 5, 5, 5, 5, 5, 5, 6, 6, 6, 6, 6, 6, 6, 6, 6, 6, 6, 6, 6, 6, 6, 6, 6, 6, 6, 6, 6, 6, 6, 6, 6, 6, 6, 6, 6, 6, 6, 6, 7, 7, 7, 7, 7, 7, 7, 7, 7, 7, 7, 7, 7, 7, 7, 7, 7, 7, 7, 7, 7, 7, 7, 7, 7, 7, 7, 7, 7, 7, 7, 7, 7, 7, 7, 7, 7, 7, 7, 7, 7, 7, 7, 7, 7, 7, 7, 7, 7, 7, 7, 7, 7, 7, 7, 7, 7, 7, 7, 7, 7, 7, 7, 7, 8, 8, 8, 8, 8, 8, 8, 8, 8, 8, 8, 8, 8, 8, 8, 8, 8, 8, 8, 8, 8, 8, 8, 8, 8, 8, 8, 8, 8, 8, 8, 8, 8, 8, 8, 8, 8, 8, 8, 8, 8, 8, 8, 8, 8, 8, 8, 8, 8, 8, 8, 8, 8, 8, 8, 8, 8, 8, 8, 8, 8, 8, 8, 8, 8, 8, 8, 8, 8, 8, 8, 8, 8, 8, 8, 8, 8, 8, 8, 8, 8, 8, 8, 8, 8, 8, 8, 8, 8, 8, 8, 8, 8, 8, 8, 8, 8, 8, 8, 8, 8, 8, 8, 8, 8, 8, 8, 8, 8, 8, 8, 8, 8, 8, 8, 8, 8, 8, 8, 8, 8, 8, 8, 8, 8, 8, 8, 8]⟩ (wrapF .u8 (x'.fdiv (2 ^ 32))))) (idx_str (s := ⟨#[0, 1, 2, 2, 3, 3, 3, 3, 4, 4, 4, 4, 4, 4, 4, 4, 5, 5, 5, 5, 5, 5, 5, 5, 5, 5, 5, 5, 5, 5, 5, 5, 6, 6, 6, 6, 6, 6, 6, 6, 6, 6, 6, 6, 6, 6, 6, 6, 6, 6, 6, 6, 6, 6, 6, 6, 6, 6, 6, 6, 6, 6, 6, 6, 7, 7, 7, 7, 7, 7, 7, 7, 7, 7, 7, 7, 7, 7, 7, 7, 7, 7, 7, 7, 7, 7, 7, 7, 7, 7, 7, 7, 7, 7, 7, 7, 7, 7, 7, 7, 7, 7, 7, 7, 7, 7, 7, 7, 7, 7, 7, 7, 7, 7, 7, 7, 7, 7, 7, 7, 7, 7, 7, 7, 7, 7, 7, 7, 8, 8, 8, 8, 8, 8, 8, 8, 8, 8, 8, 8, 8, 8, 8, 8, 8, 8, 8, 8, 8, 8, 8, 8, 8, 8, 8, 8, 8, 8, 8, 8, 8, 8, 8, 8, 8, 8, 8, 8, 8, 8, 8, 8, 8, 8, 8, 8, 8, 8, 8, 8, 8, 8, 8, 8, 8, 8, 8, 8, 8, 8, 8, 8, 8, 8, 8, 8, 8, 8, 8, 8, 8, 8, 8, 8, 8, 8, 8, 8, 8, 8, 8, 8, 8, 8, 8, 8, 8, 8, 8, 8, 8, 8, 8, 8, 8, 8, 8, 8, 8, 8, 8, 8, 8, 8, 8, 8, 8, 8, 8, 8, 8, 8, 8, 8, 8, 8, 8, 8, 8, 8, 8, 8, 8, 8, 8, 8]⟩) (k := .u8) (i := (wrapF .u8 (x'.fdiv (2 ^ 32)))) (by kernel_rfl) (by kernel_rfl) (by kernel_rfl) hg8) <| .mu 3 <| .done <| .ret ?_
    obtain rfl := Option.some.inj hr
    exact FinQ.r1 [aI64 (wrapF .i64 (32 + (wrapF .i64 (strAt ⟨#[0, 1, 2, 2, 3, 3, 3, 3, 4, 4, 4, 4, 4, 4, 4, 4, 5, 5, 5, 5, 5, 5, 5, 5, 5, 5, 5, 5, 5, 5, 5, 5, 6, 6, 6, 6, 6, 6, 6, 6, 6, 6, 6, 6, 6, 6, 6, 6, 6, 6, 6, 6, 6, 6, 6, 6, 6, 6, 6, 6, 6, 6, 6, 6, 7, 7, 7, 7, 7, 7, 7, 7, 7, 7, 7, 7, 7, 7, 7, 7, 7, 7, 7, 7, 7, 7, 7, 7, 7, 7, 7, 7, 7, 7, 7, 7, 7, 7, 7, 7, 7, 7, 7, 7, 7, 7, 7, 7, 7, 7, 7, 7, 7, 7, 7, 7, 7, 7, 7, 7, 7, 7, 7, 7, 7, 7, 7, 7, 8, 8, 8, 8, 8, 8, 8, 8, 8, 8, 8, 8, 8, 8, 8, 8, 8, 8, 8, 8, 8, 8, 8, 8, 8, 8, 8, 8, 8, 8, 8, 8, 8, 8, 8, 8, 8, 8, 8, 8, 8, 8, 8, 8, 8, 8, 8, 8, 8, 8, 8, 8, 8, 8, 8, 8, 8, 8, 8, 8, 8, 8, 8, 8, 8, 8, 8, 8, 8, 8, 8, 8, 8, 8, 8, 8, 8, 8, 8, 8, 8, 8, 8, 8, 8, 8, 8, 8, 8, 8, 8, 8, 8, 8, 8, 8, 8, 8, 8, 8, 8, 8, 8, 8, 8, 8, 8, 8, 8, 8, 8, 8, 8, 8, 8, 8, 8, 8, 8, 8, 8, 8, 8, 8, 8, 8, 8, 8]⟩ (wrapF .u8 (x'.fdiv (2 ^ 32)))))))]
 ·refine .skip <| .seq <| .seq <| .r3 fine 25 [(0, aU64 x'), (2, aI64 0), (8, aB (decide (x' ≥ 65536)))] ?_
  refine .cd hr (fun hb9 hr => ?_) (fun hb9 hr => ?_)
  ·refine .seq <| .r3 fine 25 [(0, aU64 (x'.fdiv (2 ^ 16))), (2, aI64 0)] <| .r3 fine 25 [(0, aU64 (x'.fdiv (2 ^ 16))), (2, aI64 16)] <| .seq <| .seq <| .r3 fine 25 [(0, aU64 (x'.fdiv (2 ^ 16))), (2, aI64 16), (14, aB (decide ((x'.fdiv (2 ^ 16)) ≥ 256)))] ?_
   refine .cd hr (fun hb10 hr => ?_) (fun hb10 hr => ?_)
   ·refine .seq <| .r3 fine 25 [(0, aU64 ((x'.fdiv (2 ^ 16)).fdiv (2 ^ 8))), (2, aI64 16)] <| .r3 fine 25 [(0, aU64 ((x'.fdiv (2 ^ 16)).fdiv (2 ^ 8))), (2, aI64 24)] <| .seq ?_
    obtain ⟨hg11, hr⟩ := gd hr
    refine .r0 fine <| .mu 3 <| .p0 (v := aU8 (strAt ⟨#[0, 1, 2, 2, 3, 3, 3, 3, 4, 4, 4, 4, 4, 4, 4, 4, 5, 5, 5, 5, 5, 5, 5, 5, 5, 5, 5, 5, 5, 5, 5, 5, 6, 6, 6, 6, 6, 6, 6, 6, 6, 6, 6, 6, 6, 6, 6, 6, 6, 6, 6, 6, 6, 6, 6, 6, 6, 6, 6, 6, 6, 6, 6, 6, 7, 7, 7, 7, 7, 7, 7, 7, 7, 7, 7, 7, 7, 7, 7, 7, 7, 7, 7, 7, 7, 7, 7, 7, 7, 7, 7, 7, 7, 7, 7, 7, 7, 7, 7, 7, 7, 7, 7, 7, 7, 7, 7, 7, 7, 7, 7, 7, 7, 7, 7, 7, 7, 7, 7, 7, 7, 7, 7, 7, 7, 7, 7, 7, 8, 8, 8, 8, 8, 8, 8, 8, 8, 8, 8, 8, 8, 8, 8, 8, 8, 8, 8, 8, 8, 8, 8, 8, 8, 8, 8, 8, 8, 8, 8, 8, 8, 8, 8, 8, 8, 8, 8, 8, 8, 8, 8, 8, 8, 8, 8, 8, 8, 8, 8, 8, 8, 8, 8, 8, 8, 8, 8, 8, 8, 8, 8, 8, 8, 8, 8, 8, 8, 8, 8, 8, 8, 8, 8, 8, 8, 8, 8, 8, 8, 8, 8, 8, 8, 8, 8, 8, 8, 8, 8, 8, 8, 8, 8, 8, 8, 8, 8, 8, 8, 8, 8, 8, 8, 8, 8, 8, 8, 8, 8, 8, 8, 8, 8, 8, 8, 8, 8, 8, 8, 8, 8, 8, 8, 8, 8, 8]⟩ (wrapF .u8 ((x'.fdiv (2 ^ 16)).fdiv (2 ^ 8))))) (idx_str (s := ⟨#[0, 1, 2, 2, 3, 3, 3, 3, 4, 4, 4, 4, 4, 4, 4, 4, 5, 5, 5, 5, 5, 5, 5, 5, 5, 5, 5, 5, 5, 5, 5, 5, 6, 6, 6, 6, 6, 6, 6, 6, 6, 6, 6, 6, 6, 6, 6, 6, 6, 6, 6, 6, 6, 6, 6, 6, 6, 6, 6, 6, 6, 6, 6, 6, 7, 7, 7, 7, 7, 7, 7, 7, 7, 7, 7, 7, 7, 7, 7, 7, 7, 7, 7, 7, 7, 7, 7, 7, 7, 7, 7, 7, 7, 7, 7, 7, 7, 7, 7, 7, 7, 7, 7, 7, 7, 7, 7, 7, 7, 7, 7, 7, 7, 7, 7, 7, 7, 7, 7, 7, 7, 7, 7, 7, 7, 7, 7, 7, 8, 8, 8, 8, 8, 8, 8, 8, 8, 8, 8, 8, 8, 8, 8, 8, 8, 8, 8, 8, 8, 8, 8, 8, 8, 8, 8, 8, 8, 8, 8, 8, 8, 8, 8, 8, 8, 8, 8, 8, 8, 8, 8, 8, 8, 8, 8, 8, 8, 8, 8, 8, 8, 8, 8, 8, 8, 8, 8, 8, 8, 8, 8, 8, 8, 8, 8, 8, 8, 8, 8, 8, 8, 8, 8, 8, 8, 8, 8, 8, 8, 8, 8, 8, 8, 8, 8, 8, 8, 8, 8, 8, 8, 8, 8, 8, 8, 8, 8, 8, 8, 8, 8, 8, 8, 8, 8, 8, 8, 8, 8, 8, 8, 8, 8, 8, 8, 8, 8, 8, 8, 8, 8, 8, 8, 8, 8, 8]⟩) (k := .u8) (i := (wrapF .u8 ((x'.fdiv (2 ^ 16)).fdiv (2 ^ 8)))) (by kernel_rfl) (by kernel_rfl) (by kernel_rfl) hg11) <| .mu 3 <| .done <| .ret ?_
    obtain rfl := Option.some.inj hr
    exact FinQ.r1 [aI64 (wrapF .i64 (24 + (wrapF .i64 (strAt ⟨#[0, 1, 2, 2, 3, 3, 3, 3, 4, 4, 4, 4, 4, 4, 4, 4, 5, 5, 5, 5, 5, 5, 5, 5, 5, 5, 5, 5, 5, 5, 5, 5, 6, 6, 6, 6, 6, 6, 6, 6, 6, 6, 6, 6, 6, 6, 6, 6, 6, 6, 6, 6, 6, 6, 6, 6, 6, 6, 6, 6, 6, 6, 6, 6, 7, 7, 7, 7, 7, 7, 7, 7, 7, 7, 7, 7, 7, 7, 7, 7, 7, 7, 7, 7, 7, 7, 7, 7, 7, 7, 7, 7, 7, 7, 7, 7, 7, 7, 7, 7, 7, 7, 7, 7, 7, 7, 7, 7, 7, 7, 7, 7, 7, 7, 7, 7, 7, 7, 7, 7, 7, 7, 7, 7, 7, 7, 7, 7, 8, 8, 8, 8, 8, 8, 8, 8, 8, 8, 8, 8, 8, 8, 8, 8, 8, 8, 8, 8, 8, 8, 8, 8, 8, 8, 8, 8, 8, 8, 8, 8, 8, 8, 8, 8, 8, 8, 8, 8, 8, 8, 8, 8, 8, 8, 8, 8, 8, 8, 8, 8, 8, 8, 8, 8, 8, 8, 8, 8, 8, 8, 8, 8, 8, 8, 8, 8, 8, 8, 8, 8, 8, 8, 8, 8, 8, 8, 8, 8, 8, 8, 8, 8, 8, 8, 8, 8, 8, 8, 8, 8, 8, 8, 8, 8, 8, 8, 8, 8, 8, 8, 8, 8, 8, 8, 8, 8, 8, 8, 8, 8, 8, 8, 8, 8, 8, 8, 8, 8, 8, 8, 8, 8, 8, 8, 8, 8]⟩ (wrapF .u8 ((x'.fdiv (2 ^ 16)).fdiv (2 ^ 8)))))))]
   ·refine .skip <| .seq ?_
    obtain ⟨hg12, hr⟩ := gd hr
    refine .r0 fine <| .mu 3 <| .p0 (v := aU8 (strAt ⟨#[0, 1, 2, 2, 3, 3, 3, 3, 4, 4, 4, 4, 4, 4, 4, 4, 5, 5, 5, 5, 5, 5, 5, 5, 5, 5, 5, 5, 5, 5, 5, 5, 6, 6, 6, 6, 6, 6, 6, 6, 6, 6, 6, 6, 6, 6, 6, 6, 6, 6, 6, 6, 6, 6, 6, 6, 6, 6, 6, 6, 6, 6, 6, 6, 7, 7, 7, 7, 7, 7, 7, 7, 7, 7, 7, 7, 7, 7, 7, 7, 7, 7, 7, 7, 7, 7, 7, 7, 7, 7, 7, 7, 7, 7, 7, 7, 7, 7, 7, 7, 7, 7, 7, 7, 7, 7, 7, 7, 7, 7, 7, 7, 7, 7, 7, 7, 7, 7, 7, 7, 7, 7, 7, 7, 7, 7, 7, 7, 8, 8, 8, 8, 8, 8, 8, 8, 8, 8, 8, 8, 8, 8, 8, 8, 8, 8, 8, 8, 8, 8, 8, 8, 8, 8, 8, 8, 8, 8, 8, 8, 8, 8, 8, 8, 8, 8, 8, 8, 8, 8, 8, 8, 8, 8, 8, 8, 8, 8, 8, 8, 8, 8, 8, 8, 8, 8, 8, 8, 8, 8, 8, 8, 8, 8, 8, 8, 8, 8, 8, 8, 8, 8, 8, 8, 8, 8, 8, 8, 8, 8, 8, 8, 8, 8, 8, 8, 8, 8, 8, 8, 8, 8, 8, 8, 8, 8, 8, 8, 8, 8, 8, 8, 8, 8, 8, 8, 8, 8, 8, 8, 8, 8, 8, 8, 8, 8, 8, 8, 8, 8, 8, 8, 8, 8, 8, 8]⟩ (wrapF .u8 (x'.fdiv (2 ^ 16))))) (idx_str (s := ⟨#[0, 1, 2, 2, 3, 3, 3, 3, 4, 4, 4, 4, 4, 4, 4, 4, 5, 5, 5, 5, 5, 5, 5, 5, 5, 5, 5, 5, 5, 5, 5, 5, 6, 6, 6, 6, 6, 6, 6, 6, 6, 6, 6, 6, 6, 6, 6, 6, 6, 6, 6, 6, 6, 6, 6, 6, 6, 6, 6, 6, 6, 6, 6, 6, 7, 7, 7, 7, 7, 7, 7, 7, 7, 7, 7, 7, 7, 7, 7, 7, 7, 7, 7, 7, 7, 7, 7, 7, 7, 7, 7, 7, 7, 7, 7, 7, 7, 7, 7, 7, 7, 7, 7, 7, 7, 7, 7, 7, 7, 7, 7, 7, 7, 7, 7, 7, 7, 7, 7, 7, 7, 7, 7, 7, 7, 7, 7, 7, 8, 8, 8, 8, 8, 8, 8, 8, 8, 8, 8, 8, 8, 8, 8, 8, 8, 8, 8, 8, 8, 8, 8, 8, 8, 8, 8, 8, 8, 8, 8, 8, 8, 8, 8, 8, 8, 8, 8, 8, 8, 8, 8, 8, 8, 8, 8, 8, 8, 8, 8, 8, 8, 8, 8, 8, 8, 8, 8, 8, 8, 8, 8, 8, 8, 8, 8, 8, 8, 8, 8, 8, 8, 8, 8, 8, 8, 8, 8, 8, 8, 8, 8, 8, 8, 8, 8, 8, 8, 8, 8, 8, 8, 8, 8, 8, 8, 8, 8, 8, 8, 8, 8, 8, 8, 8, 8, 8, 8, 8, 8, 8, 8, 8, 8, 8, 8, 8, 8, 8, 8, 8, 8, 8, 8, 8, 8, 8]⟩) (k := .u8) (i := (wrapF .u8 (x'.fdiv (2 ^ 16)))) (by kernel_rfl) (by kernel_rfl) (by kernel_rfl) hg12) <| .mu 3 <| .done <| .ret ?_
    obtain rfl := Option.some.inj hr
    exact FinQ.r1 [aI64 (wrapF .i64 (16 + (wrapF .i64 (strAt ⟨#[0, 1, 2, 2, 3, 3, 3, 3, 4, 4, 4, 4, 4, 4, 4, 4, 5, 5, 5, 5, 5, 5, 5, 5, 5, 5, 5, 5, 5, 5, 5, 5, 6, 6, 6, 6, 6, 6, 6, 6, 6, 6, 6, 6, 6, 6, 6, 6, 6, 6, 6, 6, 6, 6, 6, 6, 6, 6, 6, 6, 6, 6, 6, 6, 7, 7, 7, 7, 7, 7, 7, 7, 7, 7, 7, 7, 7, 7, 7, 7, 7, 7, 7, 7, 7, 7, 7, 7, 7, 7, 7, 7, 7, 7, 7, 7, 7, 7, 7, 7, 7, 7, 7, 7, 7, 7, 7, 7, 7, 7, 7, 7, 7, 7, 7, 7, 7, 7, 7, 7, 7, 7, 7, 7, 7, 7, 7, 7, 8, 8, 8, 8, 8, 8, 8, 8, 8, 8, 8, 8, 8, 8, 8, 8, 8, 8, 8, 8, 8, 8, 8, 8, 8, 8, 8, 8, 8, 8, 8, 8, 8, 8, 8, 8, 8, 8, 8, 8, 8, 8, 8, 8, 8, 8, 8, 8, 8, 8, 8, 8, 8, 8, 8, 8, 8, 8, 8, 8, 8, 8, 8, 8, 8, 8, 8, 8, 8, 8, 8, 8, 8, 8, 8, 8, 8, 8, 8, 8, 8, 8, 8, 8, 8, 8, 8, 8, 8, 8, 8, 8, 8, 8, 8, 8, 8, 8, 8, 8, 8, 8, 8, 8, 8, 8, 8, 8, 8, 8, 8, 8, 8, 8, 8, 8, 8, 8, 8, 8, 8, 8, 8, 8, 8, 8, 8, 8]⟩ (wrapF .u8 (x'.fdiv (2 ^ 16)))))))]
  ·refine .skip <| .seq <| .seq <| .r3 fine 25 [(0, aU64 x'), (2, aI64 0), (14, aB (decide (x' ≥ 256)))] ?_
   refine .cd hr (fun hb13 hr => ?_) (fun hb13 hr => ?_)
   ·refine .seq <| .r3 fine 25 [(0, aU64 (x'.fdiv (2 ^ 8))), (2, aI64 0)] <| .r3 fine 25 [(0, aU64 (x'.fdiv (2 ^ 8))), (2, aI64 8)] <| .seq ?_
    obtain ⟨hg14, hr⟩ := gd hr
    refine .r0 fine <| .mu 3 <| .p0 (v := aU8 (strAt ⟨#[0, 1, 2, 2, 3, 3, 3, 3, 4, 4, 4, 4, 4, 4, 4, 4, 5, 5, 5, 5, 5, 5, 5, 5, 5, 5, 5, 5, 5, 5, 5, 5, 6, 6, 6, 6, 6, 6, 6, 6, 6, 6, 6, 6, 6, 6, 6, 6, 6, 6, 6, 6, 6, 6, 6, 6, 6, 6, 6, 6, 6, 6, 6, 6, 7, 7, 7, 7, 7, 7, 7, 7, 7, 7, 7, 7, 7, 7, 7, 7, 7, 7, 7, 7, 7, 7, 7, 7, 7, 7, 7, 7, 7, 7, 7, 7, 7, 7, 7, 7, 7, 7, 7, 7, 7, 7, 7, 7, 7, 7, 7, 7, 7, 7, 7, 7, 7, 7, 7, 7, 7, 7, 7, 7, 7, 7, 7, 7, 8, 8, 8, 8, 8, 8, 8, 8, 8, 8, 8, 8, 8, 8, 8, 8, 8, 8, 8, 8, 8, 8, 8, 8, 8, 8, 8, 8, 8, 8, 8, 8, 8, 8, 8, 8, 8, 8, 8, 8, 8, 8, 8, 8, 8, 8, 8, 8, 8, 8, 8, 8, 8, 8, 8, 8, 8, 8, 8, 8, 8, 8, 8, 8, 8, 8, 8, 8, 8, 8, 8, 8, 8, 8, 8, 8, 8, 8, 8, 8, 8, 8, 8, 8, 8, 8, 8, 8, 8, 8, 8, 8, 8, 8, 8, 8, 8, 8, 8, 8, 8, 8, 8, 8, 8, 8, 8, 8, 8, 8, 8, 8, 8, 8, 8, 8, 8, 8, 8, 8, 8, 8, 8, 8, 8, 8, 8, 8]⟩ (wrapF .u8 (x'.fdiv (2 ^ 8))))) (idx_str (s := ⟨#[0, 1, 2, 2, 3, 3, 3, 3, 4, 4, 4, 4, 4, 4, 4, 4, 5, 5, 5, 5, 5, 5, 5, 5, 5, 5, 5, 5, 5, 5, 5, 5, 6, 6, 6, 6, 6, 6, 6, 6, 6, 6, 6, 6, 6, 6, 6, 6, 6, 6, 6, 6, 6, 6, 6, 6, 6, 6, 6, 6, 6, 6, 6, 6, 7, 7, 7, 7, 7, 7, 7, 7, 7, 7, 7, 7, 7, 7, 7, 7, 7, 7, 7, 7, 7, 7, 7, 7, 7, 7, 7, 7, 7, 7, 7, 7, 7, 7, 7, 7, 7, 7, 7, 7, 7, 7, 7, 7, 7, 7, 7, 7, 7, 7, 7, 7, 7, 7, 7, 7, 7, 7, 7, 7, 7, 7, 7, 7, 8, 8, 8, 8, 8, 8, 8, 8, 8, 8, 8, 8, 8, 8, 8, 8, 8, 8, 8, 8, 8, 8, 8, 8, 8, 8, 8, 8, 8, 8, 8, 8, 8, 8, 8, 8, 8, 8, 8, 8, 8, 8, 8, 8, 8, 8, 8, 8, 8, 8, 8, 8, 8, 8, 8, 8, 8, 8, 8, 8, 8, 8, 8, 8, 8, 8, 8, 8, 8, 8, 8, 8, 8, 8, 8, 8, 8, 8, 8, 8, 8, 8, 8, 8, 8, 8, 8, 8, 8, 8, 8, 8, 8, 8, 8, 8, 8, 8, 8, 8, 8, 8, 8, 8, 8, 8, 8, 8, 8, 8, 8, 8, 8, 8, 8, 8, 8, 8, 8, 8, 8, 8, 8, 8, 8, 8, 8, 8]⟩) (k := .u8) (i := (wrapF .u8 (x'.fdiv (2 ^ 8)))) (by kernel_rfl) (by kernel_rfl) (by kernel_rfl) hg14) <| .mu 3 <| .done <| .ret ?_
    obtain rfl := Option.some.inj hr
    exact FinQ.r1 [aI64 (wrapF .i64 (8 + (wrapF .i64 (strAt ⟨#[0, 1, 2, 2, 3, 3, 3, 3, 4, 4, 4, 4, 4, 4, 4, 4, 5, 5, 5, 5, 5, 5, 5, 5, 5, 5, 5, 5, 5, 5, 5, 5, 6, 6, 6, 6, 6, 6, 6, 6, 6, 6, 6, 6, 6, 6, 6, 6, 6, 6, 6, 6, 6, 6, 6, 6, 6, 6, 6, 6, 6, 6, 6, 6, 7, 7, 7, 7, 7, 7, 7, 7, 7, 7, 7, 7, 7, 7, 7, 7, 7, 7, 7, 7, 7, 7, 7, 7, 7, 7, 7, 7, 7, 7, 7, 7, 7, 7, 7, 7, 7, 7, 7, 7, 7, 7, 7, 7, 7, 7, 7, 7, 7, 7, 7, 7, 7, 7, 7, 7, 7, 7, 7, 7, 7, 7, 7, 7, 8, 8, 8, 8, 8, 8, 8, 8, 8, 8, 8, 8, 8, 8, 8, 8, 8, 8, 8, 8, 8, 8, 8, 8, 8, 8, 8, 8, 8, 8, 8, 8, 8, 8, 8, 8, 8, 8, 8, 8, 8, 8, 8, 8, 8, 8, 8, 8, 8, 8, 8, 8, 8, 8, 8, 8, 8, 8, 8, 8, 8, 8, 8, 8, 8, 8, 8, 8, 8, 8, 8, 8, 8, 8, 8, 8, 8, 8, 8, 8, 8, 8, 8, 8, 8, 8, 8, 8, 8, 8, 8, 8, 8, 8, 8, 8, 8, 8, 8, 8, 8, 8, 8, 8, 8, 8, 8, 8, 8, 8, 8, 8, 8, 8, 8, 8, 8, 8, 8, 8, 8, 8, 8, 8, 8, 8, 8, 8]⟩ (wrapF .u8 (x'.fdiv (2 ^ 8)))))))]
   ·refine .skip <| .seq ?_
    obtain ⟨hg15, hr⟩ := gd hr
    refine .r0 fine <| .mu 3 <| .p0 (v := aU8 (strAt ⟨#[0, 1, 2, 2, 3, 3, 3, 3, 4, 4, 4, 4, 4, 4, 4, 4, 5, 5, 5, 5, 5, 5, 5, 5, 5, 5, 5, 5, 5, 5, 5, 5, 6, 6, 6, 6, 6, 6, 6, 6, 6, 6, 6, 6, 6, 6, 6, 6, 6, 6, 6, 6, 6, 6, 6, 6, 6, 6, 6, 6, 6, 6, 6, 6, 7, 7, 7, 7, 7, 7, 7, 7, 7, 7, 7, 7, 7, 7, 7, 7, 7, 7, 7, 7, 7, 7, 7, 7, 7, 7, 7, 7, 7, 7, 7, 7, 7, 7, 7, 7, 7, 7, 7, 7, 7, 7, 7, 7, 7, 7, 7, 7, 7, 7, 7, 7, 7, 7, 7, 7, 7, 7, 7, 7, 7, 7, 7, 7, 8, 8, 8, 8, 8, 8, 8, 8, 8, 8, 8, 8, 8, 8, 8, 8, 8, 8, 8, 8, 8, 8, 8, 8, 8, 8, 8, 8, 8, 8, 8, 8, 8, 8, 8, 8, 8, 8, 8, 8, 8, 8, 8, 8, 8, 8, 8, 8, 8, 8, 8, 8, 8, 8, 8, 8, 8, 8, 8, 8, 8, 8, 8, 8, 8, 8, 8, 8, 8, 8, 8, 8, 8, 8, 8, 8, 8, 8, 8, 8, 8, 8, 8, 8, 8, 8, 8, 8, 8, 8, 8, 8, 8, 8, 8, 8, 8, 8, 8, 8, 8, 8, 8, 8, 8, 8, 8, 8, 8, 8, 8, 8, 8, 8, 8, 8, 8, 8, 8, 8, 8, 8, 8, 8, 8, 8, 8, 8]⟩ (wrapF .u8 x'))) (idx_str (s := ⟨#[0, 1, 2, 2, 3, 3, 3, 3, 4, 4, 4, 4, 4, 4, 4, 4, 5, 5, 5, 5, 5, 5, 5, 5, 5, 5, 5, 5, 5, 5, 5, 5, 6, 6, 6, 6, 6, 6, 6, 6, 6, 6, 6, 6, 6, 6, 6, 6, 6, 6, 6, 6, 6, 6, 6, 6, 6, 6, 6, 6, 6, 6, 6, 6, 7, 7, 7, 7, 7, 7, 7, 7, 7, 7, 7, 7, 7, 7, 7, 7, 7, 7, 7, 7, 7, 7, 7, 7, 7, 7, 7, 7, 7, 7, 7, 7, 7, 7, 7, 7, 7, 7, 7, 7, 7, 7, 7, 7, 7, 7, 7, 7, 7, 7, 7, 7, 7, 7, 7, 7, 7, 7, 7, 7, 7, 7, 7, 7, 8, 8, 8, 8, 8, 8, 8, 8, 8, 8, 8, 8, 8, 8, 8, 8, 8, 8, 8, 8, 8, 8, 8, 8, 8, 8, 8, 8, 8, 8, 8, 8, 8, 8, 8, 8, 8, 8, 8, 8, 8, 8, 8, 8, 8, 8, 8, 8, 8, 8, 8, 8, 8, 8, 8, 8, 8, 8, 8, 8, 8, 8, 8, 8, 8, 8, 8, 8, 8, 8, 8, 8, 8, 8, 8, 8, 8, 8, 8, 8, 8, 8, 8, 8, 8, 8, 8, 8, 8, 8, 8, 8, 8, 8, 8, 8, 8, 8, 8, 8, 8, 8, 8, 8, 8, 8, 8, 8, 8, 8, 8, 8, 8, 8, 8, 8, 8, 8, 8, 8, 8, 8, 8, 8, 8, 8, 8, 8]⟩) (k := .u8) (i := (wrapF .u8 x')) (by kernel_rfl) (by kernel_rfl) (by kernel_rfl) hg15) <| .mu 3 <| .done <| .ret ?_
    obtain rfl := Option.some.inj hr
    exact FinQ.r1 [aI64 (wrapF .i64 (0 + (wrapF .i64 (strAt ⟨#[0, 1, 2, 2, 3, 3, 3, 3, 4, 4, 4, 4, 4, 4, 4, 4, 5, 5, 5, 5, 5, 5, 5, 5, 5, 5, 5, 5, 5, 5, 5, 5, 6, 6, 6, 6, 6, 6, 6, 6, 6, 6, 6, 6, 6, 6, 6, 6, 6, 6, 6, 6, 6, 6, 6, 6, 6, 6, 6, 6, 6, 6, 6, 6, 7, 7, 7, 7, 7, 7, 7, 7, 7, 7, 7, 7, 7, 7, 7, 7, 7, 7, 7, 7, 7, 7, 7, 7, 7, 7, 7, 7, 7, 7, 7, 7, 7, 7, 7, 7, 7, 7, 7, 7, 7, 7, 7, 7, 7, 7, 7, 7, 7, 7, 7, 7, 7, 7, 7, 7, 7, 7, 7, 7, 7, 7, 7, 7, 8, 8, 8, 8, 8, 8, 8, 8, 8, 8, 8, 8, 8, 8, 8, 8, 8, 8, 8, 8, 8, 8, 8, 8, 8, 8, 8, 8, 8, 8, 8, 8, 8, 8, 8, 8, 8, 8, 8, 8, 8, 8, 8, 8, 8, 8, 8, 8, 8, 8, 8, 8, 8, 8, 8, 8, 8, 8, 8, 8, 8, 8, 8, 8, 8, 8, 8, 8, 8, 8, 8, 8, 8, 8, 8, 8, 8, 8, 8, 8, 8, 8, 8, 8, 8, 8, 8, 8, 8, 8, 8, 8, 8, 8, 8, 8, 8, 8, 8, 8, 8, 8, 8, 8, 8, 8, 8, 8, 8, 8, 8, 8, 8, 8, 8, 8, 8, 8, 8, 8, 8, 8, 8, 8, 8, 8, 8, 8]⟩ (wrapF .u8 x')))))]

theorem math_bits_Len_ok (n : Nat) (x' : Int) (r : Int) (hr : math_bits_Len n x' = some r) : FnOk Tryz.prog 104 [aU64 x'] (aI64 r) := by
 unfold math_bits_Len at hr
 refine FnOk.bd fine Tryz.func104 [.tmp 2] ?_
 unfold Tryz.f104
 simp only [Option.getD_some]
 refine .seq <| .r3 fine 8 [(0, aU64 x')] <| .seq <| .cF (by kernel_rfl) <| .skip <| .seq ?_
 obtain ⟨v1, hc2, hr⟩ := bd hr
 refine .g1 fine (ok0 (math_bits_Len64_ok n x' v1 hc2)) <| .mu 1 <| .ca cf0 <| .mu 1 <| .done <| .ret ?_
 obtain rfl := Option.some.inj hr
 exact FinQ.r1 [aI64 v1]

theorem cmp_Less_int_ok (n : Nat) (x' : Int) (y : Int) (r : Bool) (hr : cmp_Less_int n x' y = some r) : FnOk Tryz.prog 138 [aI64 x', aI64 y] (aB r) := by
 unfold cmp_Less_int at hr
 refine FnOk.bd fine Tryz.func138 [.tmp 4] ?_
 unfold Tryz.f138
 simp only [Option.getD_some]
 refine .seq <| .r3 fine 17 [(0, aI64 x'), (1, aI64 y)] <| .seq ?_
 obtain ⟨v1, hc2, hr⟩ := bd hr
 rcases Bool.eq_false_or_eq_true v1 with hb3 | hb3
 ·subst hb3
  replace hr := cd_t rfl hr
  obtain ⟨v4, hc5, hr⟩ := bd hr
  rcases Bool.eq_false_or_eq_true (!v4) with hb6 | hb6
  ·replace hr := cd_t hb6 hr
   refine .gn fine (ca1 (ok0 (cmp_isNaN_int_ok n x' true hc2)) (ca3 (ok0 (cmp_isNaN_int_ok n y v4 hc5)))) <| .mu 1 <| .ca cf0 <| .mu 2 <| .ca (cfA (fun h => by rw [sv hc5 hc2 (cmp_isNaN_int_cg n h)]) cf0) <| .pure (v := aB true) (by kernel_rfl) (Eq.trans (b := some (.pure (aB (!v4)))) (by kernel_rfl) (by rw [hb6])) <| .mu 7 <| .done <| .ret ?_
   obtain rfl := Option.some.inj hr
   exact FinQ.r1 [aB true]
  ·replace hr := cd_f hb6 hr
   refine .gn fine (ca1 (ok0 (cmp_isNaN_int_ok n x' true hc2)) (ca3 (ok0 (cmp_isNaN_int_ok n y v4 hc5)))) <| .mu 1 <| .ca cf0 <| .mu 2 <| .ca (cfA (fun h => by rw [sv hc5 hc2 (cmp_isNaN_int_cg n h)]) cf0) <| .pure (v := aB false) (by kernel_rfl) (Eq.trans (b := some (.pure (aB (!v4)))) (by kernel_rfl) (by rw [hb6])) <| .mu 7 <| .done <| .ret ?_
   obtain rfl := Option.some.inj hr
   exact FinQ.r1 [aB (decide (x' < y))]
 ·subst hb3
  replace hr := cd_f rfl hr
  refine .g1 fine (ok0 (cmp_isNaN_int_ok n x' false hc2)) <| .mu 1 <| .ca cf0 <| .mu 11 <| .done <| .ret ?_
  obtain rfl := Option.some.inj hr
  exact FinQ.r1 [aB (decide (x' < y))]

theorem slices_insertionSortOrdered_int_w_ok (n : Nat) (data : List Int) (a : Int) (b : Int) (r : List Int) (hr : slices_insertionSortOrdered_int_w n data a b = some r) : FnMut 1 Tryz.prog 132 [.hs 0 0 data.length 1, aI64 a, aI64 b] [.own (data.flatMap (iC .i64))] (.tup []) [.own (r.flatMap (iC .i64))] := by
 unfold slices_insertionSortOrdered_int_w at hr
 refine FnMut.bodyW fine Tryz.func132 (c := (Tryz.f132.body).getD .skip) rfl (us := []) (s := mkS 49 0 [(0, .hs 0 0 data.length 1), (1, aI64 a), (2, aI64 b)]) (by kernel_rfl) (rs := []) rfl ?_
 unfold Tryz.f132
 simp only [Option.getD_some]
 refine .seq <| .r3 fine 49 [(0, .hs 0 0 data.length 1), (1, aI64 a), (2, aI64 b), (6, aI64 (wrapF .i64 (a + 1)))] <| .block ?_
 replace hr := bd hr; obtain ⟨data_71, hL94, hr⟩ := hr
 refine .loopO (σ := fun z0 => match z0 with | (data_49, i_50) => ⟨mkS 49 0 [(0, .hs 0 0 data_49.length 1), (1, aI64 a), (2, aI64 b), (6, aI64 i_50)], [.own (data_49.flatMap (iC .i64))]⟩) (Q := fun x st' => x = .exit 0 ∧ Wk 1 st' ⟨mkS 49 0 [], [.own (data_71.flatMap (iC .i64))]⟩) hL94 ((Wk.gc [0, 1, 2, 6] [(0, false)] rfl (pKo (iC .i64) (iC_pure _) data trivial)).to (by kernel_rfl)) ?_ ?_
 ·clear hr
  rintro m ⟨data_49, i_50⟩ hr
  show CQ _ _ _ _ _ ⟨_, _⟩
  refine .seq <| .seq <| .r3 fine 49 [(0, .hs 0 0 data_49.length 1), (1, aI64 a), (2, aI64 b), (6, aI64 i_50), (12, aB (decide (i_50 < b)))] ?_
  refine .cd hr (fun hb73 hr => ?_) (fun hb73 hr => ?_)
  ·refine .skip <| .seq <| .block <| .seq <| .r3 fine 49 [(0, .hs 0 0 data_49.length 1), (1, aI64 a), (2, aI64 b), (6, aI64 i_50), (7, aI64 i_50)] <| .block ?_
   replace hr := bd hr; obtain ⟨data_82, hL91, hr⟩ := hr
   refine .loopO (σ := fun z0 => match z0 with | (data_74, j_75) => ⟨mkS 49 0 [(0, .hs 0 0 data_74.length 1), (1, aI64 a), (2, aI64 b), (6, aI64 i_50), (7, aI64 j_75)], [.own (data_74.flatMap (iC .i64))]⟩) (Q := fun x st' => x = .exit 2 ∧ Wk 1 st' ⟨mkS 49 0 [(0, .hs 0 0 data_82.length 1), (1, aI64 a), (2, aI64 b), (6, aI64 i_50)], [.own (data_82.flatMap (iC .i64))]⟩) hL91 ((Wk.gc [0, 1, 2, 6, 7] [(0, false)] rfl (pKo (iC .i64) (iC_pure _) data_49 trivial)).to (by kernel_rfl)) ?_ ?_
   ·clear hr
    rintro m ⟨data_74, j_75⟩ hr
    show CQ _ _ _ _ _ ⟨_, _⟩
    refine .seq <| .seq ?_
    rcases Bool.eq_false_or_eq_true (decide (j_75 > a)) with hb84 | hb84
    ·replace hr := cd_t hb84 hr
     obtain ⟨hg85, hg86, hr⟩ := gd2 hr
     obtain ⟨v87, hc88, hr⟩ := bd hr
     refine .t1 fine (ok0 (cmp_Less_int_ok n (gt data_74 j_75) (gt data_74 (wrapF .i64 (j_75 - 1))) v87 hc88)) <| .mu 2 <| .pure (v := aB true) (by kernel_rfl) (Eq.trans (b := some (.pure (aB (decide (j_75 > a))))) (by kernel_rfl) (by rw [hb84])) (by kernel_rfl) <| .mu 3 <| .pure (v := .hp 0 (0 + j_75.toNat * 1)) (by kernel_rfl) (Eq.trans (b := ORes.ofP (guardV (inR j_75 data_74.length) (.hp 0 (0 + j_75.toNat * 1)))) (by kernel_rfl) (ofP_guard hg85)) (by kernel_rfl) <| .pure (v := aI64 (gt data_74 j_75)) (by kernel_rfl) (Eq.trans (b := ORes.ofP ((data_74.flatMap (iC .i64))[0 + j_75.toNat * 1]?)) (by kernel_rfl) (ofP_some (flat_get (iC_len _) (inR_lt hg85) (by decide : 0 < 1) (by omega : 0 + j_75.toNat * 1 = j_75.toNat * 1 + 0) (by kernel_rfl)))) (by kernel_rfl) <| .mu 3 <| .pure (v := .hp 0 (0 + (wrapF .i64 (j_75 - 1)).toNat * 1)) (by kernel_rfl) (Eq.trans (b := ORes.ofP (guardV (inR (wrapF .i64 (j_75 - 1)) data_74.length) (.hp 0 (0 + (wrapF .i64 (j_75 - 1)).toNat * 1)))) (by kernel_rfl) (ofP_guard hg86)) (by kernel_rfl) <| .pure (v := aI64 (gt data_74 (wrapF .i64 (j_75 - 1)))) (by kernel_rfl) (Eq.trans (b := ORes.ofP ((data_74.flatMap (iC .i64))[0 + (wrapF .i64 (j_75 - 1)).toNat * 1]?)) (by kernel_rfl) (ofP_some (flat_get (iC_len _) (inR_lt hg86) (by decide : 0 < 1) (by omega : 0 + (wrapF .i64 (j_75 - 1)).toNat * 1 = (wrapF .i64 (j_75 - 1)).toNat * 1 + 0) (by kernel_rfl)))) (by kernel_rfl) <| .ca cf0 <| .mu 1 ?_
     refine .done ⟨by kernel_rfl, ?_⟩
     refine .n2 49 [(0, .hs 0 0 data_74.length 1), (1, aI64 a), (2, aI64 b), (6, aI64 i_50), (7, aI64 j_75), (30, aB v87)] [.own (data_74.flatMap (iC .i64))] ?_
     refine .cd hr (fun hb89 hr => ?_) (fun hb89 hr => ?_)
     ·refine .skip <| .seq <| .block <| .regionT fine callOf_nil <| .mu 8 <| .pure (v := .hp 0 (0 + (wrapF .i64 (j_75 - 1)).toNat * 1)) (by kernel_rfl) (Eq.trans (b := ORes.ofP (guardV (inR (wrapF .i64 (j_75 - 1)) data_74.length) (.hp 0 (0 + (wrapF .i64 (j_75 - 1)).toNat * 1)))) (by kernel_rfl) (ofP_guard hg86)) (by kernel_rfl) <| .pure (v := aI64 (gt data_74 (wrapF .i64 (j_75 - 1)))) (by kernel_rfl) (Eq.trans (b := ORes.ofP ((data_74.flatMap (iC .i64))[0 + (wrapF .i64 (j_75 - 1)).toNat * 1]?)) (by kernel_rfl) (ofP_some (flat_get (iC_len _) (inR_lt hg86) (by decide : 0 < 1) (by omega : 0 + (wrapF .i64 (j_75 - 1)).toNat * 1 = (wrapF .i64 (j_75 - 1)).toNat * 1 + 0) (by kernel_rfl)))) (by kernel_rfl) <| .mu 2 <| .pure (v := .hp 0 (0 + j_75.toNat * 1)) (by kernel_rfl) (Eq.trans (b := ORes.ofP (guardV (inR j_75 data_74.length) (.hp 0 (0 + j_75.toNat * 1)))) (by kernel_rfl) (ofP_guard hg85)) (by kernel_rfl) <| .pure (v := aI64 (gt data_74 j_75)) (by kernel_rfl) (Eq.trans (b := ORes.ofP ((data_74.flatMap (iC .i64))[0 + j_75.toNat * 1]?)) (by kernel_rfl) (ofP_some (flat_get (iC_len _) (inR_lt hg85) (by decide : 0 < 1) (by omega : 0 + j_75.toNat * 1 = j_75.toNat * 1 + 0) (by kernel_rfl)))) (by kernel_rfl) <| .pure (v := .hp 0 (0 + j_75.toNat * 1)) (by kernel_rfl) (Eq.trans (b := ORes.ofP (guardV (inR j_75 data_74.length) (.hp 0 (0 + j_75.toNat * 1)))) (by kernel_rfl) (ofP_guard hg85)) (by kernel_rfl) <| .eff (v := .unk) (ws := [(0, .own ((data_74.set j_75.toNat (gt data_74 (wrapF .i64 (j_75 - 1)))).flatMap (iC .i64)))]) (by kernel_rfl) (Eq.trans (b := stO (decide ((0 + j_75.toNat * 1) + 1 ≤ (data_74.flatMap (iC .i64)).length) && true) [(0, .own (setCells (data_74.flatMap (iC .i64)) (0 + j_75.toNat * 1) [aI64 (gt data_74 (wrapF .i64 (j_75 - 1)))]))]) (by kernel_rfl) (stO_t (and_t (flat_fits (iC_len _) (inR_lt hg85) (Nat.le_of_ble_eq_true rfl) (by omega : 0 + j_75.toNat * 1 = j_75.toNat * 1 + 0))) (congrArg Blk.own (flat_set (iC_len _) (inR_lt hg85) (Nat.le_of_ble_eq_true rfl) (by omega : 0 + j_75.toNat * 1 = j_75.toNat * 1 + 0) (by kernel_rfl))))) (by kernel_rfl) <| .pure (v := .hp 0 (0 + (wrapF .i64 (j_75 - 1)).toNat * 1)) (by kernel_rfl) (Eq.trans (b := ORes.ofP (guardV (inR (wrapF .i64 (j_75 - 1)) data_74.length) (.hp 0 (0 + (wrapF .i64 (j_75 - 1)).toNat * 1)))) (by kernel_rfl) (ofP_guard hg86)) (by kernel_rfl) <| .eff (v := .unk) (ws := [(0, .own (((data_74.set j_75.toNat (gt data_74 (wrapF .i64 (j_75 - 1)))).set (wrapF .i64 (j_75 - 1)).toNat (gt data_74 j_75)).flatMap (iC .i64)))]) (by kernel_rfl) (Eq.trans (b := stO (decide ((0 + (wrapF .i64 (j_75 - 1)).toNat * 1) + 1 ≤ ((data_74.set j_75.toNat (gt data_74 (wrapF .i64 (j_75 - 1)))).flatMap (iC .i64)).length) && true) [(0, .own (setCells ((data_74.set j_75.toNat (gt data_74 (wrapF .i64 (j_75 - 1)))).flatMap (iC .i64)) (0 + (wrapF .i64 (j_75 - 1)).toNat * 1) [aI64 (gt data_74 j_75)]))]) (by kernel_rfl) (stO_t (and_t (flat_fits (iC_len _) (inR_lt (inR_set hg86)) (Nat.le_of_ble_eq_true rfl) (by omega : 0 + (wrapF .i64 (j_75 - 1)).toNat * 1 = (wrapF .i64 (j_75 - 1)).toNat * 1 + 0))) (congrArg Blk.own (flat_set (iC_len _) (inR_lt (inR_set hg86)) (Nat.le_of_ble_eq_true rfl) (by omega : 0 + (wrapF .i64 (j_75 - 1)).toNat * 1 = (wrapF .i64 (j_75 - 1)).toNat * 1 + 0) (by kernel_rfl))))) (by kernel_rfl) ?_
      refine .done ⟨by kernel_rfl, ?_⟩
      refine .pop <| .ru fine ?_
      exact loopF_back ((data_74.set j_75.toNat (gt data_74 (wrapF .i64 (j_75 - 1)))).set (wrapF .i64 (j_75 - 1)).toNat (gt data_74 j_75), wrapF .i64 (j_75 - 1)) hr ((Wk.relen 0 (b := 0) (es := 1) (len := data_74.length) ((data_74.set j_75.toNat (gt data_74 (wrapF .i64 (j_75 - 1)))).set (wrapF .i64 (j_75 - 1)).toNat (gt data_74 j_75)).length (by kernel_rfl) (by simp)).trans ((Wk.gc [0, 1, 2, 6, 7] [(0, false)] rfl (pKo (iC .i64) (iC_pure _) ((data_74.set j_75.toNat (gt data_74 (wrapF .i64 (j_75 - 1)))).set (wrapF .i64 (j_75 - 1)).toNat (gt data_74 j_75)) trivial)).to (by kernel_rfl)))
     ·refine .leave rfl ?_
      obtain rfl := Option.some.inj hr
      exact ⟨rfl, ((Wk.gc [0, 1, 2, 6] [(0, false)] rfl (pKo (iC .i64) (iC_pure _) data_74 trivial)).to (by kernel_rfl))⟩
    ·replace hr := cd_f hb84 hr
     refine .regionT fine callOf_nil <| .mu 2 <| .pure (v := aB false) (by kernel_rfl) (Eq.trans (b := some (.pure (aB (decide (j_75 > a))))) (by kernel_rfl) (by rw [hb84])) (by kernel_rfl) <| .mu 12 ?_
     refine .done ⟨by kernel_rfl, ?_⟩
     refine .n2 49 [(0, .hs 0 0 data_74.length 1), (1, aI64 a), (2, aI64 b), (6, aI64 i_50), (7, aI64 j_75), (30, aB false)] [.own (data_74.flatMap (iC .i64))] <| .cF (by kernel_rfl) <| .leave rfl ?_
     obtain rfl := Option.some.inj hr
     exact ⟨rfl, ((Wk.gc [0, 1, 2, 6] [(0, false)] rfl (pKo (iC .i64) (iC_pure _) data_74 trivial)).to (by kernel_rfl))⟩
   ·rintro x st' hq92
    clear hL91
    obtain ⟨rfl, hq92⟩ := hq92
    refine CQ_exit _ rfl <| .pop <| .wk hq92 <| .ru fine ?_
    exact loopF_back (data_82, wrapF .i64 (i_50 + 1)) hr ((Wk.gc [0, 1, 2, 6] [(0, false)] rfl (pKo (iC .i64) (iC_pure _) data_82 trivial)).to (by kernel_rfl))
  ·refine .leave rfl ?_
   obtain rfl := Option.some.inj hr
   exact ⟨rfl, ((Wk.gc [] [(0, false)] rfl (pKo (iC .i64) (iC_pure _) data_49 trivial)).to (by kernel_rfl))⟩
 ·rintro x st' hq95
  clear hL94
  obtain ⟨rfl, hq95⟩ := hq95
  refine CQ_exit _ rfl ?_
  obtain rfl := Option.some.inj hr
  exact FinMW.wk hq95 (FinMW.normal [] ((Wk.gc [] [(0, false)] rfl (pKo (iC .i64) (iC_pure _) data_71 trivial)).to (by kernel_rfl)))

theorem slices_pdqsortOrdered_int_w_ok (n : Nat) (data : List Int) (a : Int) (b : Int) (limit : Int) (r : List Int) (hr : slices_pdqsortOrdered_int_w n data a b limit = some r) : FnMut 1 Tryz.prog 103 [.hs 0 0 data.length 1, aI64 a, aI64 b, aI64 limit] [.own (data.flatMap (iC .i64))] (.tup []) [.own (r.flatMap (iC .i64))] := by
 unfold slices_pdqsortOrdered_int_w at hr
 refine FnMut.bodyW fine Tryz.func103 (c := (Tryz.f103.body).getD .skip) rfl (us := []) (s := mkS 134 0 [(0, .hs 0 0 data.length 1), (1, aI64 a), (2, aI64 b), (3, aI64 limit)]) (by kernel_rfl) (rs := []) rfl ?_
 unfold Tryz.f103
 simp only [Option.getD_some]
 refine .seq <| .r3 fine 134 [(0, .hs 0 0 data.length 1), (1, aI64 a), (2, aI64 b), (3, aI64 limit), (8, aB true)] <| .seq <| .r3 fine 134 [(0, .hs 0 0 data.length 1), (1, aI64 a), (2, aI64 b), (3, aI64 limit), (8, aB true), (9, aB true)] <| .block ?_
 replace hr := bd hr; obtain ⟨r0, hL38, hr⟩ := hr
 refine .loopO (σ := fun z0 => match z0 with | (a_21, b_22, limit_23, wasBalanced_24, wasPartitioned_25) => ⟨mkS 134 0 [(0, .hs 0 0 data.length 1), (1, aI64 a_21), (2, aI64 b_22), (3, aI64 limit_23), (8, aB wasBalanced_24), (9, aB wasPartitioned_25)], [.own (data.flatMap (iC .i64))]⟩) (Q := fun x st' => x = .ret ∧ FinMW 1 Tryz.prog [] [] [.own (r0.flatMap (iC .i64))] .ret st') hL38 ((Wk.gc [0, 1, 2, 3, 8, 9] [(0, false)] rfl (pKo (iC .i64) (iC_pure _) data trivial)).to (by kernel_rfl)) ?_ ?_
 ·clear hr
  rintro m ⟨a_21, b_22, limit_23, wasBalanced_24, wasPartitioned_25⟩ hr
  show CQ _ _ _ _ _ ⟨_, _⟩
  refine .block <| .seq <| .r3 fine 134 [(0, .hs 0 0 data.length 1), (1, aI64 a_21), (2, aI64 b_22), (3, aI64 limit_23), (8, aB wasBalanced_24), (9, aB wasPartitioned_25), (10, aI64 (wrapF .i64 (b_22 - a_21)))] <| .seq <| .seq <| .r3 fine 134 [(0, .hs 0 0 data.length 1), (1, aI64 a_21), (2, aI64 b_22), (3, aI64 limit_23), (8, aB wasBalanced_24), (9, aB wasPartitioned_25), (10, aI64 (wrapF .i64 (b_22 - a_21))), (23, aB (decide ((wrapF .i64 (b_22 - a_21)) ≤ 12)))] ?_
  obtain ⟨hb32, hr⟩ := gd hr
  refine .cY hb32 <| .seq ?_
  obtain ⟨v33, hc34, hr⟩ := bd hr
  refine .g1 fine (callOk_mutU (args := [.hs 0 0 data.length 1, aI64 a_21, aI64 b_22]) 1 0 [(0, false)] [false] (slices_insertionSortOrdered_int_w_ok n data a_21 b_22 v33 hc34) (by exact ⟨ids_flat (iC_pure _) _, trivial⟩) (by exact ⟨ids_flat (iC_pure _) _, trivial⟩) rfl rfl (by kernel_rfl) (by kernel_rfl)) <| .mu 3 <| .ca cf0 <| .done <| .n2 134 [] [.own (v33.flatMap (iC .i64))] <| .ret ?_
  obtain rfl := Option.some.inj hr
  exact ⟨rfl, FinMW.ret [] ((Wk.gc [] [(0, false)] rfl (pKo (iC .i64) (iC_pure _) v33 trivial)).to (by kernel_rfl))⟩
 ·rintro x st' hq39
  clear hL38
  obtain ⟨rfl, hq39⟩ := hq39
  obtain rfl := Option.some.inj hr
  exact CQ_ret _ hq39

theorem slices_Sort_int_int_w_ok (n : Nat) (x' : List Int) (r : List Int) (hr : slices_Sort_int_int_w n x' = some r) : FnMut 1 Tryz.prog 80 [.hs 0 0 x'.length 1] [.own (x'.flatMap (iC .i64))] (.tup []) [.own (r.flatMap (iC .i64))] := by
 unfold slices_Sort_int_int_w at hr
 refine FnMut.bodyW fine Tryz.func80 (c := (Tryz.f80.body).getD .skip) rfl (us := []) (s := mkS 11 0 [(0, .hs 0 0 x'.length 1)]) (by kernel_rfl) (rs := []) rfl ?_
 unfold Tryz.f80
 simp only [Option.getD_some]
 refine .seq <| .r3 fine 11 [(0, .hs 0 0 x'.length 1), (2, aI64 (x'.length : Int))] ?_
 obtain ⟨v6, hc7, v8, hc9, hr⟩ := bd2 hr
 refine .gn fine (ca1 (ok0 (math_bits_Len_ok n (wrapF .u64 (x'.length : Int)) v6 hc7)) (ca3 (callOk_mutU (args := [.hs 0 0 x'.length 1, aI64 0, aI64 (x'.length : Int), aI64 v6]) 1 0 [(0, false)] [false] (slices_pdqsortOrdered_int_w_ok n x' 0 (x'.length : Int) v6 v8 hc9) (by exact ⟨ids_flat (iC_pure _) _, trivial⟩) (by exact ⟨ids_flat (iC_pure _) _, trivial⟩) rfl rfl (by kernel_rfl) (by kernel_rfl)))) <| .mu 4 <| .ca cf0 <| .ca (cfF cf0) <| .done ?_
 obtain rfl := Option.some.inj hr
 exact FinMW.normal [] ((Wk.gc [] [(0, false)] rfl (pKo (iC .i64) (iC_pure _) v8 trivial)).to (by kernel_rfl))

theorem depth_Fuse_ok (n : Nat) (l : List api_Field) (r : api_Field × api_Field × Int) (hr : depth_Fuse n l = some r) : FnOk Tryz.prog 40 [slT api_Field.c l] (.tup [.agg (api_Field.c r.1), .agg (api_Field.c r.2.1), aI64 r.2.2]) := by
 unfold depth_Fuse at hr
 refine FnOk.bd fine Tryz.func40 [.cell 2 24, .cell 3 24, .tmp 4] ?_
 unfold Tryz.f40
 simp only [Option.getD_some]
 refine .seq <| .r2 fine 110 [(0, slT api_Field.c l), (2, .hp 0 0), (3, .hp 1 0)] [.own [aI64 0, aI64 0, nS], .own [aI64 0, aI64 0, nS]] <| .seq <| .seq <| .r3 fine 110 [(0, slT api_Field.c l), (2, .hp 0 0), (3, .hp 1 0), (13, slT api_Field.c l), (14, aI64 (l.length : Int)), (15, aI64 0)] <| .block ?_
 replace hr := bd hr; obtain ⟨o32, hL33, hr⟩ := hr
 refine .loopO (σ := fun z0 => match z0 with | x_18 => ⟨mkS 110 0 [(0, slT api_Field.c l), (2, .hp 0 0), (3, .hp 1 0), (13, slT api_Field.c l), (14, aI64 (l.length : Int)), (15, aI64 x_18)], [.own [aI64 0, aI64 0, nS], .own [aI64 0, aI64 0, nS]]⟩) (Q := fun x st' => match (generalizing := false) o32 with | .inl _ => x = .exit 0 ∧ Wk 0 st' ⟨mkS 110 0 [(0, slT api_Field.c l), (2, .hp 0 0), (3, .hp 1 0)], [.own [aI64 0, aI64 0, nS], .own [aI64 0, aI64 0, nS]]⟩ | .inr (r0) => x = .ret ∧ FinQ Tryz.prog [.cell 2 24, .cell 3 24, .tmp 4] (.tup [.agg (api_Field.c r0.1), .agg (api_Field.c r0.2.1), aI64 r0.2.2]) .ret st') hL33 ((Wk.gc [0, 2, 3, 13, 14, 15] [(0, true), (1, true)] rfl trivial).to (by kernel_rfl)) ?_ ?_
 ·clear hr
  rintro m x_18 hr
  show CQ _ _ _ _ _ ⟨_, _⟩
  refine .seq <| .r3 fine 110 [(0, slT api_Field.c l), (2, .hp 0 0), (3, .hp 1 0), (13, slT api_Field.c l), (14, aI64 (l.length : Int)), (15, aI64 x_18), (16, aB (decide (x_18 < (l.length : Int))))] <| .seq ?_
  refine .cd hr (fun hb27 hr => ?_) (fun hb27 hr => ?_)
  ·refine .skip <| .seq <| .block <| .seq ?_
   obtain ⟨hg28, hr⟩ := gd hr
   refine .r0 fine <| .p0 (v := .pp (l.flatMap api_Field.c) (x_18.toNat * 3)) (Eq.trans (b := ORes.ofP (guardV (inR x_18 l.length) (.pp (l.flatMap api_Field.c) (x_18.toNat * 3)))) (by kernel_rfl) (ofP_guard hg28)) <| .p0 (v := .agg (api_Field.c (gt l x_18))) (Eq.trans (b := ORes.ofP (guardV (decide (3 ≤ ((l.flatMap api_Field.c).drop (x_18.toNat * 3)).length)) (.agg (((l.flatMap api_Field.c).drop (x_18.toNat * 3)).take 3)))) (by kernel_rfl) (flat_load api_Field.len (inR_lt hg28) (by decide) (by omega : x_18.toNat * 3 = x_18.toNat * 3 + 0) (by kernel_rfl))) <| .mu 2 <| .done <| .n2 110 [(0, slT api_Field.c l), (2, .hp 0 0), (3, .hp 1 0), (6, .hp 2 0), (13, slT api_Field.c l), (14, aI64 (l.length : Int)), (15, aI64 x_18)] [.own [aI64 0, aI64 0, nS], .own [aI64 0, aI64 0, nS], .own (api_Field.c (gt l x_18))] <| .seq ?_
   obtain ⟨v29, hc30, hr⟩ := bd hr
   refine .g1 fine (ok0 (depth_Check_ok n (gt l x_18) v29 hc30)) <| .mu 1 <| .ca cf0 <| .mu 1 <| .done <| .n2 110 [(0, slT api_Field.c l), (2, .hp 0 0), (3, .hp 1 0), (13, slT api_Field.c l), (14, aI64 (l.length : Int)), (15, aI64 x_18), (21, aB ((v29 : Int) != 0))] [.own [aI64 0, aI64 0, nS], .own [aI64 0, aI64 0, nS], .own (api_Field.c (gt l x_18))] ?_
   refine .cd hr (fun hb31 hr => ?_) (fun hb31 hr => ?_)
   ·refine .seq <| .r3 fine 110 [(2, .hp 0 0), (3, .hp 1 0), (4, aI64 1)] <| .ret ?_
    obtain rfl := Option.some.inj hr
    exact ⟨rfl, FinQ.ret (vs := [.agg [aI64 0, aI64 0, nS], .agg [aI64 0, aI64 0, nS], aI64 1]) (by kernel_rfl) (Sn.tup (SnL.cons (Sn.agg (SnL.cons (Sn.pure rfl) (SnL.cons (Sn.pure rfl) (SnL.cons Sn.nilsl SnL.nil)))) (SnL.cons (Sn.agg (SnL.cons (Sn.pure rfl) (SnL.cons (Sn.pure rfl) (SnL.cons Sn.nilsl SnL.nil)))) (SnL.cons (Sn.pure rfl) SnL.nil))))⟩
   ·refine .skip <| .pop <| .ru fine ?_
    exact loopF_back (wrapF .i64 (x_18 + 1)) hr ((Wk.gc [0, 2, 3, 13, 14, 15] [(0, true), (1, true)] rfl trivial).to (by kernel_rfl))
  ·refine .leave rfl ?_
   obtain rfl := Option.some.inj hr
   exact ⟨rfl, ((Wk.gc [0, 2, 3] [(0, true), (1, true)] rfl trivial).to (by kernel_rfl))⟩
 ·rcases o32 with ⟨⟩ | r0
  ·rintro x st' hq34
   clear hL33
   obtain ⟨rfl, hq34⟩ := hq34
   refine CQ_exit _ rfl <| .wk hq34 <| .seq <| .seq ?_
   rcases Bool.eq_false_or_eq_true (decide ((l.length : Int) < 1)) with hb35 | hb35
   ·replace hr := cd_t hb35 hr
    refine .r0 fine <| .mu 2 <| .p0 (v := aB true) (Eq.trans (b := some (.pure (aB (decide ((l.length : Int) < 1))))) (by kernel_rfl) (by rw [hb35])) <| .mu 5 <| .done <| .n2 110 [(0, slT api_Field.c l), (2, .hp 0 0), (3, .hp 1 0), (32, aB true)] [.own [aI64 0, aI64 0, nS], .own [aI64 0, aI64 0, nS]] <| .cT (by kernel_rfl) <| .seq <| .r3 fine 110 [(2, .hp 0 0), (3, .hp 1 0), (4, aI64 3)] <| .ret ?_
    obtain rfl := Option.some.inj hr
    exact FinQ.ret (vs := [.agg [aI64 0, aI64 0, nS], .agg [aI64 0, aI64 0, nS], aI64 3]) (by kernel_rfl) (Sn.tup (SnL.cons (Sn.agg (SnL.cons (Sn.pure rfl) (SnL.cons (Sn.pure rfl) (SnL.cons Sn.nilsl SnL.nil)))) (SnL.cons (Sn.agg (SnL.cons (Sn.pure rfl) (SnL.cons (Sn.pure rfl) (SnL.cons Sn.nilsl SnL.nil)))) (SnL.cons (Sn.pure rfl) SnL.nil))))
   ·replace hr := cd_f hb35 hr
    refine .r0 fine <| .mu 2 <| .p0 (v := aB false) (Eq.trans (b := some (.pure (aB (decide ((l.length : Int) < 1))))) (by kernel_rfl) (by rw [hb35])) <| .mu 5 <| .done <| .n2 110 [(0, slT api_Field.c l), (2, .hp 0 0), (3, .hp 1 0), (32, aB (decide ((l.length : Int) > 16)))] [.own [aI64 0, aI64 0, nS], .own [aI64 0, aI64 0, nS]] ?_
    refine .cd hr (fun hb37 hr => ?_) (fun hb37 hr => ?_)
    ·refine .seq <| .r3 fine 110 [(2, .hp 0 0), (3, .hp 1 0), (4, aI64 3)] <| .ret ?_
     obtain rfl := Option.some.inj hr
     exact FinQ.ret (vs := [.agg [aI64 0, aI64 0, nS], .agg [aI64 0, aI64 0, nS], aI64 3]) (by kernel_rfl) (Sn.tup (SnL.cons (Sn.agg (SnL.cons (Sn.pure rfl) (SnL.cons (Sn.pure rfl) (SnL.cons Sn.nilsl SnL.nil)))) (SnL.cons (Sn.agg (SnL.cons (Sn.pure rfl) (SnL.cons (Sn.pure rfl) (SnL.cons Sn.nilsl SnL.nil)))) (SnL.cons (Sn.pure rfl) SnL.nil))))
    ·refine .skip <| .seq <| .seq <| .r3 fine 110 [(0, slT api_Field.c l), (2, .hp 0 0), (3, .hp 1 0), (35, slT api_Field.c l), (36, aI64 (l.length : Int)), (37, aI64 0)] <| .block ?_
     replace hr := bd hr; obtain ⟨o73, hL74, hr⟩ := hr
     refine .loopO (σ := fun z0 => match z0 with | x_57 => ⟨mkS 110 0 [(0, slT api_Field.c l), (2, .hp 0 0), (3, .hp 1 0), (35, slT api_Field.c l), (36, aI64 (l.length : Int)), (37, aI64 x_57)], [.own [aI64 0, aI64 0, nS], .own [aI64 0, aI64 0, nS]]⟩) (Q := fun x st' => match (generalizing := false) o73 with | .inl _ => x = .exit 2 ∧ Wk 0 st' ⟨mkS 110 0 [(0, slT api_Field.c l), (2, .hp 0 0), (3, .hp 1 0)], [.own [aI64 0, aI64 0, nS], .own [aI64 0, aI64 0, nS]]⟩ | .inr (r0) => x = .ret ∧ FinQ Tryz.prog [.cell 2 24, .cell 3 24, .tmp 4] (.tup [.agg (api_Field.c r0.1), .agg (api_Field.c r0.2.1), aI64 r0.2.2]) .ret st') hL74 ((Wk.gc [0, 2, 3, 35, 36, 37] [(0, true), (1, true)] rfl trivial).to (by kernel_rfl)) ?_ ?_
     ·clear hr
      rintro m x_57 hr
      show CQ _ _ _ _ _ ⟨_, _⟩
      refine .seq <| .r3 fine 110 [(0, slT api_Field.c l), (2, .hp 0 0), (3, .hp 1 0), (35, slT api_Field.c l), (36, aI64 (l.length : Int)), (37, aI64 x_57), (38, aB (decide (x_57 < (l.length : Int))))] <| .seq ?_
      refine .cd hr (fun hb67 hr => ?_) (fun hb67 hr => ?_)
      ·refine .skip <| .seq <| .block <| .seq ?_
       obtain ⟨hg68, hr⟩ := gd hr
       refine .r0 fine <| .p0 (v := .pp (l.flatMap api_Field.c) (x_57.toNat * 3)) (Eq.trans (b := ORes.ofP (guardV (inR x_57 l.length) (.pp (l.flatMap api_Field.c) (x_57.toNat * 3)))) (by kernel_rfl) (ofP_guard hg68)) <| .p0 (v := .agg (api_Field.c (gt l x_57))) (Eq.trans (b := ORes.ofP (guardV (decide (3 ≤ ((l.flatMap api_Field.c).drop (x_57.toNat * 3)).length)) (.agg (((l.flatMap api_Field.c).drop (x_57.toNat * 3)).take 3)))) (by kernel_rfl) (flat_load api_Field.len (inR_lt hg68) (by decide) (by omega : x_57.toNat * 3 = x_57.toNat * 3 + 0) (by kernel_rfl))) <| .mu 2 <| .done <| .n2 110 [(0, slT api_Field.c l), (2, .hp 0 0), (3, .hp 1 0), (8, .hp 2 0), (35, slT api_Field.c l), (36, aI64 (l.length : Int)), (37, aI64 x_57)] [.own [aI64 0, aI64 0, nS], .own [aI64 0, aI64 0, nS], .own (api_Field.c (gt l x_57))] <| .seq ?_
       obtain ⟨hg69, hr⟩ := gd hr
       obtain ⟨v70, hc71, hr⟩ := bd hr
       refine .t1 fine (ok0 (depth_alike_ok n (gt l x_57) (gt l 0) v70 hc71)) <| .mu 2 <| .pure (v := .pp (l.flatMap api_Field.c) ((0 : Int).toNat * 3)) (by kernel_rfl) (Eq.trans (b := ORes.ofP (guardV (inR 0 l.length) (.pp (l.flatMap api_Field.c) ((0 : Int).toNat * 3)))) (by kernel_rfl) (ofP_guard hg69)) (by kernel_rfl) <| .pure (v := .agg (api_Field.c (gt l 0))) (by kernel_rfl) (Eq.trans (b := ORes.ofP (guardV (decide (3 ≤ ((l.flatMap api_Field.c).drop ((0 : Int).toNat * 3)).length)) (.agg (((l.flatMap api_Field.c).drop ((0 : Int).toNat * 3)).take 3)))) (by kernel_rfl) (flat_load api_Field.len (inR_lt hg69) (by decide) (by omega : (0 : Int).toNat * 3 = (0 : Int).toNat * 3 + 0) (by kernel_rfl))) (by kernel_rfl) <| .ca cf0 <| .mu 1 ?_
       refine .done ⟨by kernel_rfl, ?_⟩
       refine .n2 110 [(0, slT api_Field.c l), (2, .hp 0 0), (3, .hp 1 0), (35, slT api_Field.c l), (36, aI64 (l.length : Int)), (37, aI64 x_57), (46, aB (!v70))] [.own [aI64 0, aI64 0, nS], .own [aI64 0, aI64 0, nS], .own (api_Field.c (gt l x_57))] ?_
       refine .cd hr (fun hb72 hr => ?_) (fun hb72 hr => ?_)
       ·refine .seq <| .r3 fine 110 [(2, .hp 0 0), (3, .hp 1 0), (4, aI64 4)] <| .ret ?_
        obtain rfl := Option.some.inj hr
        exact ⟨rfl, FinQ.ret (vs := [.agg [aI64 0, aI64 0, nS], .agg [aI64 0, aI64 0, nS], aI64 4]) (by kernel_rfl) (Sn.tup (SnL.cons (Sn.agg (SnL.cons (Sn.pure rfl) (SnL.cons (Sn.pure rfl) (SnL.cons Sn.nilsl SnL.nil)))) (SnL.cons (Sn.agg (SnL.cons (Sn.pure rfl) (SnL.cons (Sn.pure rfl) (SnL.cons Sn.nilsl SnL.nil)))) (SnL.cons (Sn.pure rfl) SnL.nil))))⟩
       ·refine .skip <| .pop <| .ru fine ?_
        exact loopF_back (wrapF .i64 (x_57 + 1)) hr ((Wk.gc [0, 2, 3, 35, 36, 37] [(0, true), (1, true)] rfl trivial).to (by kernel_rfl))
      ·refine .leave rfl ?_
       obtain rfl := Option.some.inj hr
       exact ⟨rfl, ((Wk.gc [0, 2, 3] [(0, true), (1, true)] rfl trivial).to (by kernel_rfl))⟩
     ·rcases o73 with ⟨⟩ | r0
      ·rintro x st' hq75
       clear hL74
       obtain ⟨rfl, hq75⟩ := hq75
       refine CQ_exit _ rfl <| .wk hq75 <| .seq ?_
       obtain ⟨hg76, hr⟩ := gd hr
       obtain ⟨v77, hc78, v79, hc80, hr⟩ := bd2 hr
       refine .tn fine (ca1 (callOk_mutU (args := [.agg (api_Field.c (gt l 0))]) 0 1 [] [false] (depth_blank_w_ok n (gt l 0) v77 hc78) trivial (by exact ⟨ids_flat (iC_pure _) _, trivial⟩) rfl rfl (by kernel_rfl) (by kernel_rfl)) (ca4 [.own [aI64 0, aI64 0, nS], .own [aI64 0, aI64 0, nS], .own (v77.2.2.flatMap (iC .i64))] (callOk_mutU (args := [.agg (api_Field.c (gt l 0))]) 0 1 [] [false] (depth_blank_w_ok n (gt l 0) v79 hc80) trivial (by exact ⟨ids_flat (iC_pure _) _, trivial⟩) rfl rfl (by kernel_rfl) (by kernel_rfl)))) <| .mu 1 <| .pure (v := .pp (l.flatMap api_Field.c) ((0 : Int).toNat * 3)) (by kernel_rfl) (Eq.trans (b := ORes.ofP (guardV (inR 0 l.length) (.pp (l.flatMap api_Field.c) ((0 : Int).toNat * 3)))) (by kernel_rfl) (ofP_guard hg76)) (by kernel_rfl) <| .pure (v := .agg (api_Field.c (gt l 0))) (by kernel_rfl) (Eq.trans (b := ORes.ofP (guardV (decide (3 ≤ ((l.flatMap api_Field.c).drop ((0 : Int).toNat * 3)).length)) (.agg (((l.flatMap api_Field.c).drop ((0 : Int).toNat * 3)).take 3)))) (by kernel_rfl) (flat_load api_Field.len (inR_lt hg76) (by decide) (by omega : (0 : Int).toNat * 3 = (0 : Int).toNat * 3 + 0) (by kernel_rfl))) (by kernel_rfl) <| .ca cf0 <| .mu 1 <| .pure (v := .pp (l.flatMap api_Field.c) ((0 : Int).toNat * 3)) (by kernel_rfl) (Eq.trans (b := ORes.ofP (guardV (inR 0 l.length) (.pp (l.flatMap api_Field.c) ((0 : Int).toNat * 3)))) (by kernel_rfl) (ofP_guard hg76)) (by kernel_rfl) <| .pure (v := .agg (api_Field.c (gt l 0))) (by kernel_rfl) (Eq.trans (b := ORes.ofP (guardV (decide (3 ≤ ((l.flatMap api_Field.c).drop ((0 : Int).toNat * 3)).length)) (.agg (((l.flatMap api_Field.c).drop ((0 : Int).toNat * 3)).take 3)))) (by kernel_rfl) (flat_load api_Field.len (inR_lt hg76) (by decide) (by omega : (0 : Int).toNat * 3 = (0 : Int).toNat * 3 + 0) (by kernel_rfl))) (by kernel_rfl) <| .ca (cfH 2 1 4 cf0) <| .mu 2 ?_
       refine .done ⟨by kernel_rfl, ?_⟩
       refine .n2 110 [(0, slT api_Field.c l), (2, .hp 0 0), (3, .hp 1 0)] [.own [aI64 v77.1, aI64 v77.2.1, .hs 2 0 v77.2.2.length 1], .own [aI64 v79.1, aI64 v79.2.1, .hs 3 0 v79.2.2.length 1], .own (v77.2.2.flatMap (iC .i64)), .own (v79.2.2.flatMap (iC .i64))] <| .seq <| .seq <| .r3 fine 110 [(0, slT api_Field.c l), (2, .hp 0 0), (3, .hp 1 0), (60, aI64 (v77.2.2.length : Int)), (61, aI64 0)] <| .block ?_
       replace hr := bd hr; obtain ⟨o189, hL190, hr⟩ := hr
       refine .loopO (σ := fun z0 => match z0 with | (fused_81, count_82, x_83) => ⟨mkS 110 0 [(0, slT api_Field.c l), (2, .hp 0 0), (3, .hp 2 0), (60, aI64 (v77.2.2.length : Int)), (61, aI64 x_83)], [.own [aI64 v77.1, aI64 v77.2.1, .hs 1 0 fused_81.length 1], .own (fused_81.flatMap (iC .i64)), .own [aI64 v79.1, aI64 v79.2.1, .hs 3 0 count_82.length 1], .own (count_82.flatMap (iC .i64))]⟩) (Q := fun x st' => match (generalizing := false) o189 with | (fused_135, count_136) => x = .exit 4 ∧ Wk 0 st' ⟨mkS 110 0 [(2, .hp 0 0), (3, .hp 2 0)], [.own [aI64 v77.1, aI64 v77.2.1, .hs 1 0 fused_135.length 1], .own (fused_135.flatMap (iC .i64)), .own [aI64 v79.1, aI64 v79.2.1, .hs 3 0 count_136.length 1], .own (count_136.flatMap (iC .i64))]⟩) hL190 ((Wk.gc [0, 2, 3, 60, 61] [(0, true), (2, false), (1, true), (3, false)] rfl (pKt (pKo (iC .i64) (iC_pure _) v77.2.2 (pKt (pKo (iC .i64) (iC_pure _) v79.2.2 trivial))))).to (by kernel_rfl)) ?_ ?_
       ·clear hr
        rintro m ⟨fused_81, count_82, x_83⟩ hr
        show CQ _ _ _ _ _ ⟨_, _⟩
        refine .seq <| .r3 fine 110 [(0, slT api_Field.c l), (2, .hp 0 0), (3, .hp 2 0), (60, aI64 (v77.2.2.length : Int)), (61, aI64 x_83), (62, aB (decide (x_83 < (v77.2.2.length : Int))))] <| .seq ?_
        refine .cd hr (fun hb139 hr => ?_) (fun hb139 hr => ?_)
        ·refine .skip <| .seq <| .block <| .seq <| .r3 fine 110 [(0, slT api_Field.c l), (2, .hp 0 0), (3, .hp 2 0), (9, aI64 x_83), (60, aI64 (v77.2.2.length : Int)), (61, aI64 x_83)] <| .seq <| .r3 fine 110 [(0, slT api_Field.c l), (2, .hp 0 0), (3, .hp 2 0), (9, aI64 x_83), (10, nS), (60, aI64 (v77.2.2.length : Int)), (61, aI64 x_83)] <| .seq <| .seq <| .r3 fine 110 [(0, slT api_Field.c l), (2, .hp 0 0), (3, .hp 2 0), (9, aI64 x_83), (10, nS), (60, aI64 (v77.2.2.length : Int)), (61, aI64 x_83), (64, slT api_Field.c l), (65, aI64 (l.length : Int)), (66, aI64 0)] <| .block ?_
         replace hr := bd hr; obtain ⟨here_170, hL180, hr⟩ := hr
         refine .loopO (σ := fun z0 => match z0 with | (here_161, x_162) => ⟨mkS 110 0 [(0, slT api_Field.c l), (2, .hp 0 0), (3, .hp 2 0), (9, aI64 x_83), (10, .hs 4 0 here_161.length 1), (60, aI64 (v77.2.2.length : Int)), (61, aI64 x_83), (64, slT api_Field.c l), (65, aI64 (l.length : Int)), (66, aI64 x_162)], [.own [aI64 v77.1, aI64 v77.2.1, .hs 1 0 fused_81.length 1], .own (fused_81.flatMap (iC .i64)), .own [aI64 v79.1, aI64 v79.2.1, .hs 3 0 count_82.length 1], .own (count_82.flatMap (iC .i64)), .own (here_161.flatMap (iC .i64))]⟩) (Q := fun x st' => x = .exit 6 ∧ Wk 0 st' ⟨mkS 110 0 [(0, slT api_Field.c l), (2, .hp 0 0), (3, .hp 2 0), (9, aI64 x_83), (10, .hs 4 0 here_170.length 1), (60, aI64 (v77.2.2.length : Int)), (61, aI64 x_83)], [.own [aI64 v77.1, aI64 v77.2.1, .hs 1 0 fused_81.length 1], .own (fused_81.flatMap (iC .i64)), .own [aI64 v79.1, aI64 v79.2.1, .hs 3 0 count_82.length 1], .own (count_82.flatMap (iC .i64)), .own (here_170.flatMap (iC .i64))]⟩) hL180 ((Wk.nil 10 1 (by kernel_rfl)).trans ((Wk.gc [0, 2, 3, 9, 10, 60, 61, 64, 65, 66] [(0, true), (1, false), (2, true), (3, false), (4, false)] rfl (pKt (pKo (iC .i64) (iC_pure _) fused_81 (pKt (pKo (iC .i64) (iC_pure _) count_82 (pKc trivial)))))).to (by kernel_rfl))) ?_ ?_
         ·clear hr
          rintro m ⟨here_161, x_162⟩ hr
          show CQ _ _ _ _ _ ⟨_, _⟩
          refine .seq <| .r3 fine 110 [(0, slT api_Field.c l), (2, .hp 0 0), (3, .hp 2 0), (9, aI64 x_83), (10, .hs 4 0 here_161.length 1), (60, aI64 (v77.2.2.length : Int)), (61, aI64 x_83), (64, slT api_Field.c l), (65, aI64 (l.length : Int)), (66, aI64 x_162), (67, aB (decide (x_162 < (l.length : Int))))] <| .seq ?_
          refine .cd hr (fun hb173 hr => ?_) (fun hb173 hr => ?_)
          ·refine .skip <| .seq <| .block <| .seq ?_
           obtain ⟨hg174, hr⟩ := gd hr
           refine .r0 fine <| .p0 (v := .pp (l.flatMap api_Field.c) (x_162.toNat * 3)) (Eq.trans (b := ORes.ofP (guardV (inR x_162 l.length) (.pp (l.flatMap api_Field.c) (x_162.toNat * 3)))) (by kernel_rfl) (ofP_guard hg174)) <| .p0 (v := .agg (api_Field.c (gt l x_162))) (Eq.trans (b := ORes.ofP (guardV (decide (3 ≤ ((l.flatMap api_Field.c).drop (x_162.toNat * 3)).length)) (.agg (((l.flatMap api_Field.c).drop (x_162.toNat * 3)).take 3)))) (by kernel_rfl) (flat_load api_Field.len (inR_lt hg174) (by decide) (by omega : x_162.toNat * 3 = x_162.toNat * 3 + 0) (by kernel_rfl))) <| .mu 2 <| .done <| .n2 110 [(0, slT api_Field.c l), (2, .hp 0 0), (3, .hp 2 0), (9, aI64 x_83), (10, .hs 4 0 here_161.length 1), (12, .hp 5 0), (60, aI64 (v77.2.2.length : Int)), (61, aI64 x_83), (64, slT api_Field.c l), (65, aI64 (l.length : Int)), (66, aI64 x_162)] [.own [aI64 v77.1, aI64 v77.2.1, .hs 1 0 fused_81.length 1], .own (fused_81.flatMap (iC .i64)), .own [aI64 v79.1, aI64 v79.2.1, .hs 3 0 count_82.length 1], .own (count_82.flatMap (iC .i64)), .own (here_161.flatMap (iC .i64)), .own (api_Field.c (gt l x_162))] <| .seq ?_
           obtain ⟨hg175, hr⟩ := gd hr
           refine .r0 fine <| .mu 3 <| .p0 (v := .pp ((gt l x_162).V.flatMap (iC .i64)) (x_83.toNat * 1)) (Eq.trans (b := ORes.ofP (guardV (inR x_83 (gt l x_162).V.length) (.pp ((gt l x_162).V.flatMap (iC .i64)) (x_83.toNat * 1)))) (by kernel_rfl) (ofP_guard hg175)) <| .p0 (v := aI64 (gt (gt l x_162).V x_83)) (Eq.trans (b := ORes.ofP (((gt l x_162).V.flatMap (iC .i64))[x_83.toNat * 1]?)) (by kernel_rfl) (ofP_some (flat_get (iC_len _) (inR_lt hg175) (by decide : 0 < 1) (by omega : x_83.toNat * 1 = x_83.toNat * 1 + 0) (by kernel_rfl)))) <| .mu 1 <| .done <| .n2 110 [(0, slT api_Field.c l), (2, .hp 0 0), (3, .hp 2 0), (9, aI64 x_83), (10, .hs 4 0 here_161.length 1), (12, .hp 5 0), (60, aI64 (v77.2.2.length : Int)), (61, aI64 x_83), (64, slT api_Field.c l), (65, aI64 (l.length : Int)), (66, aI64 x_162), (75, aB (decide ((gt (gt l x_162).V x_83) ≥ 0)))] [.own [aI64 v77.1, aI64 v77.2.1, .hs 1 0 fused_81.length 1], .own (fused_81.flatMap (iC .i64)), .own [aI64 v79.1, aI64 v79.2.1, .hs 3 0 count_82.length 1], .own (count_82.flatMap (iC .i64)), .own (here_161.flatMap (iC .i64)), .own (api_Field.c (gt l x_162))] ?_
           refine .cd hr (fun hb176 hr => ?_) (fun hb176 hr => ?_)
           ·obtain ⟨hg177, hg178, hr⟩ := gd2 hr
            refine .r0 fine <| .mu 4 <| .p0 (v := .pp ((gt l x_162).V.flatMap (iC .i64)) (x_83.toNat * 1)) (Eq.trans (b := ORes.ofP (guardV (inR x_83 (gt l x_162).V.length) (.pp ((gt l x_162).V.flatMap (iC .i64)) (x_83.toNat * 1)))) (by kernel_rfl) (ofP_guard hg175)) <| .p0 (v := aI64 (gt (gt l x_162).V x_83)) (Eq.trans (b := ORes.ofP (((gt l x_162).V.flatMap (iC .i64))[x_83.toNat * 1]?)) (by kernel_rfl) (ofP_some (flat_get (iC_len _) (inR_lt hg175) (by decide : 0 < 1) (by omega : x_83.toNat * 1 = x_83.toNat * 1 + 0) (by kernel_rfl)))) <| .mu 1 <| .e0 (v := .hs 7 0 (here_161 ++ [(gt (gt l x_162).V x_83)]).length 1) (ws := [(4, .dead), (7, .own ((here_161 ++ [(gt (gt l x_162).V x_83)]).flatMap (iC .i64)))]) (Eq.trans (b := guardO (decide (0 + here_161.length * 1 ≤ (here_161.flatMap (iC .i64)).length) && decide ((here_161.length + 1) * 8 ≤ 140737488355328) && decide (here_161.length + 1 ≤ 4611686018427387904)) (some (.eff (.hs 7 0 (here_161.length + 1) 1) [(4, .dead), (7, .own (((here_161.flatMap (iC .i64)).drop 0).take (here_161.length * 1) ++ [aI64 (gt (gt l x_162).V x_83)]))]))) (by kernel_rfl) (app_own (l := here_161) (xs := [(gt (gt l x_162).V x_83)]) (iC_len _) rfl rfl (by kernel_rfl) hg177 hg178)) <| .mu 1 <| .done <| .pop <| .ru fine ?_
            exact loopF_back (here_161 ++ [(gt (gt l x_162).V x_83)], wrapF .i64 (x_162 + 1)) hr ((Wk.gc [0, 2, 3, 9, 10, 60, 61, 64, 65, 66] [(0, true), (1, false), (2, true), (3, false), (7, false)] rfl (pKt (pKo (iC .i64) (iC_pure _) fused_81 (pKt (pKo (iC .i64) (iC_pure _) count_82 (pKo (iC .i64) (iC_pure _) (here_161 ++ [(gt (gt l x_162).V x_83)]) trivial)))))).to (by kernel_rfl))
           ·refine .skip <| .pop <| .ru fine ?_
            exact loopF_back (here_161, wrapF .i64 (x_162 + 1)) hr ((Wk.gc [0, 2, 3, 9, 10, 60, 61, 64, 65, 66] [(0, true), (1, false), (2, true), (3, false), (4, false)] rfl (pKt (pKo (iC .i64) (iC_pure _) fused_81 (pKt (pKo (iC .i64) (iC_pure _) count_82 (pKo (iC .i64) (iC_pure _) here_161 trivial)))))).to (by kernel_rfl))
          ·refine .leave rfl ?_
           obtain rfl := Option.some.inj hr
           exact ⟨rfl, ((Wk.gc [0, 2, 3, 9, 10, 60, 61] [(0, true), (1, false), (2, true), (3, false), (4, false)] rfl (pKt (pKo (iC .i64) (iC_pure _) fused_81 (pKt (pKo (iC .i64) (iC_pure _) count_82 (pKo (iC .i64) (iC_pure _) here_161 trivial)))))).to (by kernel_rfl))⟩
         ·rintro x st' hq181
          clear hL180
          obtain ⟨rfl, hq181⟩ := hq181
          refine CQ_exit _ rfl <| .wk hq181 <| .seq ?_
          obtain ⟨v182, hc183, hr⟩ := bd hr
          obtain ⟨hg184, hr⟩ := gd hr
          refine .g1 fine (callOk_mutU (args := [.hs 4 0 here_170.length 1]) 1 0 [(4, false)] [false] (slices_Sort_int_int_w_ok n here_170 v182 hc183) (by exact ⟨ids_flat (iC_pure _) _, trivial⟩) (by exact ⟨ids_flat (iC_pure _) _, trivial⟩) rfl rfl (by kernel_rfl) (by kernel_rfl)) <| .mu 1 <| .ca cf0 <| .done <| .n2 110 [(0, slT api_Field.c l), (2, .hp 0 0), (3, .hp 2 0), (9, aI64 x_83), (10, .hs 4 0 here_170.length 1), (60, aI64 (v77.2.2.length : Int)), (61, aI64 x_83)] [.own [aI64 v77.1, aI64 v77.2.1, .hs 1 0 fused_81.length 1], .own (fused_81.flatMap (iC .i64)), .own [aI64 v79.1, aI64 v79.2.1, .hs 3 0 count_82.length 1], .own (count_82.flatMap (iC .i64)), .own (v182.flatMap (iC .i64))] <| .seq ?_
          obtain ⟨hg185, hr⟩ := gd hr
          refine .r0 fine <| .mu 5 <| .p0 (v := .hp 3 (0 + x_83.toNat * 1)) (Eq.trans (b := ORes.ofP (guardV (inR x_83 count_82.length) (.hp 3 (0 + x_83.toNat * 1)))) (by kernel_rfl) (ofP_guard hg185)) <| .e0 (v := .unk) (ws := [(3, .own ((count_82.set x_83.toNat (here_170.length : Int)).flatMap (iC .i64)))]) (Eq.trans (b := stO (decide ((0 + x_83.toNat * 1) + 1 ≤ (count_82.flatMap (iC .i64)).length) && true) [(3, .own (setCells (count_82.flatMap (iC .i64)) (0 + x_83.toNat * 1) [aI64 (here_170.length : Int)]))]) (by kernel_rfl) (stO_t (and_t (flat_fits (iC_len _) (inR_lt hg185) (Nat.le_of_ble_eq_true rfl) (by omega : 0 + x_83.toNat * 1 = x_83.toNat * 1 + 0))) (congrArg Blk.own (flat_set (iC_len _) (inR_lt hg185) (Nat.le_of_ble_eq_true rfl) (by omega : 0 + x_83.toNat * 1 = x_83.toNat * 1 + 0) (by kernel_rfl))))) <| .done <| .n2 110 [(0, slT api_Field.c l), (2, .hp 0 0), (3, .hp 2 0), (9, aI64 x_83), (10, .hs 4 0 here_170.length 1), (60, aI64 (v77.2.2.length : Int)), (61, aI64 x_83)] [.own [aI64 v77.1, aI64 v77.2.1, .hs 1 0 fused_81.length 1], .own (fused_81.flatMap (iC .i64)), .own [aI64 v79.1, aI64 v79.2.1, .hs 3 0 count_82.length 1], .own ((count_82.set x_83.toNat (here_170.length : Int)).flatMap (iC .i64)), .own (v182.flatMap (iC .i64))] <| .seq <| .r3 fine 110 [(0, slT api_Field.c l), (2, .hp 0 0), (3, .hp 2 0), (9, aI64 x_83), (10, .hs 4 0 here_170.length 1), (60, aI64 (v77.2.2.length : Int)), (61, aI64 x_83), (95, aB (decide ((here_170.length : Int) > 0)))] ?_
          refine .cd hr (fun hb186 hr => ?_) (fun hb186 hr => ?_)
          ·obtain ⟨hg187, hg188, hr⟩ := gd2 hr
           refine .regionT fine callOf_nil <| .mu 8 <| .pure (v := .hp 4 (0 + (wrapF .i64 ((wrapF .i64 ((here_170.length : Int) - 1)).tdiv 2)).toNat * 1)) (by kernel_rfl) (Eq.trans (b := ORes.ofP (guardV (inR (wrapF .i64 ((wrapF .i64 ((here_170.length : Int) - 1)).tdiv 2)) here_170.length) (.hp 4 (0 + (wrapF .i64 ((wrapF .i64 ((here_170.length : Int) - 1)).tdiv 2)).toNat * 1)))) (by kernel_rfl) (ofP_guard hg187)) (by kernel_rfl) <| .pure (v := aI64 (gt v182 (wrapF .i64 ((wrapF .i64 ((here_170.length : Int) - 1)).tdiv 2)))) (by kernel_rfl) (Eq.trans (b := ORes.ofP ((v182.flatMap (iC .i64))[0 + (wrapF .i64 ((wrapF .i64 ((here_170.length : Int) - 1)).tdiv 2)).toNat * 1]?)) (by kernel_rfl) (ofP_some (flat_get (iC_len _) (inR_lt (inR_eq hg184 hg187)) (by decide : 0 < 1) (by omega : 0 + (wrapF .i64 ((wrapF .i64 ((here_170.length : Int) - 1)).tdiv 2)).toNat * 1 = (wrapF .i64 ((wrapF .i64 ((here_170.length : Int) - 1)).tdiv 2)).toNat * 1 + 0) (by kernel_rfl)))) (by kernel_rfl) <| .pure (v := .hp 1 (0 + x_83.toNat * 1)) (by kernel_rfl) (Eq.trans (b := ORes.ofP (guardV (inR x_83 fused_81.length) (.hp 1 (0 + x_83.toNat * 1)))) (by kernel_rfl) (ofP_guard hg188)) (by kernel_rfl) <| .eff (v := .unk) (ws := [(1, .own ((fused_81.set x_83.toNat (gt v182 (wrapF .i64 ((wrapF .i64 ((here_170.length : Int) - 1)).tdiv 2)))).flatMap (iC .i64)))]) (by kernel_rfl) (Eq.trans (b := stO (decide ((0 + x_83.toNat * 1) + 1 ≤ (fused_81.flatMap (iC .i64)).length) && true) [(1, .own (setCells (fused_81.flatMap (iC .i64)) (0 + x_83.toNat * 1) [aI64 (gt v182 (wrapF .i64 ((wrapF .i64 ((here_170.length : Int) - 1)).tdiv 2)))]))]) (by kernel_rfl) (stO_t (and_t (flat_fits (iC_len _) (inR_lt hg188) (Nat.le_of_ble_eq_true rfl) (by omega : 0 + x_83.toNat * 1 = x_83.toNat * 1 + 0))) (congrArg Blk.own (flat_set (iC_len _) (inR_lt hg188) (Nat.le_of_ble_eq_true rfl) (by omega : 0 + x_83.toNat * 1 = x_83.toNat * 1 + 0) (by kernel_rfl))))) (by kernel_rfl) ?_
           refine .done ⟨by kernel_rfl, ?_⟩
           refine .pop <| .ru fine ?_
           exact loopF_back (fused_81.set x_83.toNat (gt v182 (wrapF .i64 ((wrapF .i64 ((here_170.length : Int) - 1)).tdiv 2))), count_82.set x_83.toNat (here_170.length : Int), wrapF .i64 (x_83 + 1)) hr ((Wk.recell 0 2 (b := 1) (es := 1) (len := fused_81.length) (cs := [aI64 v77.1, aI64 v77.2.1, .hs 1 0 fused_81.length 1]) (fused_81.set x_83.toNat (gt v182 (wrapF .i64 ((wrapF .i64 ((here_170.length : Int) - 1)).tdiv 2)))).length (by kernel_rfl) (by kernel_rfl) (by simp)).trans ((Wk.recell 2 2 (b := 3) (es := 1) (len := count_82.length) (cs := [aI64 v79.1, aI64 v79.2.1, .hs 3 0 count_82.length 1]) (count_82.set x_83.toNat (here_170.length : Int)).length (by kernel_rfl) (by kernel_rfl) (by simp)).trans ((Wk.gc [0, 2, 3, 60, 61] [(0, true), (1, false), (2, true), (3, false)] rfl (pKt (pKo (iC .i64) (iC_pure _) (fused_81.set x_83.toNat (gt v182 (wrapF .i64 ((wrapF .i64 ((here_170.length : Int) - 1)).tdiv 2)))) (pKt (pKo (iC .i64) (iC_pure _) (count_82.set x_83.toNat (here_170.length : Int)) trivial))))).to (by kernel_rfl))))
          ·refine .skip <| .pop <| .ru fine ?_
           exact loopF_back (fused_81, count_82.set x_83.toNat (here_170.length : Int), wrapF .i64 (x_83 + 1)) hr ((Wk.recell 2 2 (b := 3) (es := 1) (len := count_82.length) (cs := [aI64 v79.1, aI64 v79.2.1, .hs 3 0 count_82.length 1]) (count_82.set x_83.toNat (here_170.length : Int)).length (by kernel_rfl) (by kernel_rfl) (by simp)).trans ((Wk.gc [0, 2, 3, 60, 61] [(0, true), (1, false), (2, true), (3, false)] rfl (pKt (pKo (iC .i64) (iC_pure _) fused_81 (pKt (pKo (iC .i64) (iC_pure _) (count_82.set x_83.toNat (here_170.length : Int)) trivial))))).to (by kernel_rfl)))
        ·refine .leave rfl ?_
         obtain rfl := Option.some.inj hr
         exact ⟨rfl, ((Wk.gc [2, 3] [(0, true), (1, false), (2, true), (3, false)] rfl (pKt (pKo (iC .i64) (iC_pure _) fused_81 (pKt (pKo (iC .i64) (iC_pure _) count_82 trivial))))).to (by kernel_rfl))⟩
       ·rcases o189 with ⟨fused_135, count_136⟩
        rintro x st' hq191
        clear hL190
        obtain ⟨rfl, hq191⟩ := hq191
        refine CQ_exit _ rfl <| .wk hq191 <| .seq <| .regionT fine callOf_nil <| .mu 5 ?_
        refine .done ⟨by kernel_rfl, ?_⟩
        refine .n2 110 [(2, .hp 0 0), (3, .hp 2 0), (4, aI64 0)] [.own [aI64 v77.1, aI64 v77.2.1, .hs 1 0 fused_135.length 1], .own (fused_135.flatMap (iC .i64)), .own [aI64 v79.1, aI64 v79.2.1, .hs 3 0 count_136.length 1], .own (count_136.flatMap (iC .i64))] <| .ret ?_
        obtain rfl := Option.some.inj hr
        exact FinQ.ret (vs := [.agg [aI64 v77.1, aI64 v77.2.1, .hs 1 0 fused_135.length 1], .agg [aI64 v79.1, aI64 v79.2.1, .hs 3 0 count_136.length 1], aI64 0]) (by kernel_rfl) (Sn.tup (SnL.cons (Sn.agg (SnL.cons (Sn.pure rfl) (SnL.cons (Sn.pure rfl) (SnL.cons (Sn.hs rfl (.inl rfl) (SnC.pure (ids_flat (iC_pure _) _)) (fun h => flat_nil0 h)) SnL.nil)))) (SnL.cons (Sn.agg (SnL.cons (Sn.pure rfl) (SnL.cons (Sn.pure rfl) (SnL.cons (Sn.hs rfl (.inl rfl) (SnC.pure (ids_flat (iC_pure _) _)) (fun h => flat_nil0 h)) SnL.nil)))) (SnL.cons (Sn.pure rfl) SnL.nil))))
      ·rintro x st' hq75
       clear hL74
       obtain ⟨rfl, hq75⟩ := hq75
       obtain rfl := Option.some.inj hr
       exact CQ_ret _ hq75
  ·rintro x st' hq34
   clear hL33
   obtain ⟨rfl, hq34⟩ := hq34
   obtain rfl := Option.some.inj hr
   exact CQ_ret _ hq34

theorem slices_Clone_fiducial_api_Field_fiducial_api_Field_ok (n : Nat) (s : List api_Field) (r : List api_Field) (hr : slices_Clone_fiducial_api_Field_fiducial_api_Field n s = some r) : FnOk Tryz.prog 41 [slT api_Field.c s] (slT api_Field.c r) := by
 unfold slices_Clone_fiducial_api_Field_fiducial_api_Field at hr
 refine FnOk.bd fine Tryz.func41 [.tmp 2] ?_
 unfold Tryz.f41
 simp only [Option.getD_some]
 refine .seq <| .r3 fine 8 [(0, slT api_Field.c s)] <| .seq <| .seq ?_
 refine .nilcase (t := 0) (cs := s.flatMap api_Field.c) (len := s.length) (by kernel_rfl) (fun hn3 => ?_) ?_
 ·obtain rfl : s = [] := List.length_eq_zero_iff.1 hn3
  have hx := gd hr; clear hr; obtain ⟨_, hr⟩ := hx
  have hx := gd hr; clear hr; obtain ⟨_, hr⟩ := hx
  refine .r3 fine 8 [(0, nS), (4, aB true)] <| .cT (by kernel_rfl) <| .seq <| .r3 fine 8 [(2, nS)] <| .ret ?_
  obtain rfl := Option.some.inj hr
  exact FinQ.ret (vs := [nS]) (by kernel_rfl) Sn.nilsl
 ·refine .r3 fine 8 [(0, .sl false (s.flatMap api_Field.c) s.length), (4, aB false)] <| .cF (by kernel_rfl) <| .skip <| .seq ?_
  obtain ⟨hg1, hg2, hr⟩ := gd2 hr
  refine .r0 fine <| .mu 2 <| .e0 (v := .hs 1 0 s.length 3) (ws := [(0, .dead), (1, .own (s.flatMap api_Field.c))]) (Eq.trans (b := appS (decide (((s.flatMap api_Field.c)).length = s.length * 3)) (s.flatMap api_Field.c) s.length (fun z1 z2 => guardO (decide (0 + 0 * 3 ≤ (([] : List api_Field).flatMap api_Field.c).length) && decide ((0 + z2) * 40 ≤ 140737488355328) && decide (0 + z2 ≤ 4611686018427387904)) (some (.eff (.hs 1 0 (0 + z2) 3) [(0, .dead), (1, .own (((([] : List api_Field).flatMap api_Field.c).drop 0).take (0 * 3) ++ z1))])))) (by kernel_rfl) (appS_t (flat_lenB api_Field.len) rfl (app_own (l := ([] : List api_Field)) (xs := s) api_Field.len rfl rfl rfl hg1 hg2))) <| .mu 1 <| .done <| .n2 8 [(2, .hs 1 0 s.length 3)] [.dead, .own (s.flatMap api_Field.c)] <| .ret ?_
  obtain rfl := Option.some.inj hr
  exact FinQ.ret (vs := [.hs 1 0 s.length 3]) (by kernel_rfl) (Sn.hs rfl (.inl rfl) (SnC.pure (ids_flat api_Field.pure _)) (fun h => flat_nil0 h))

theorem slices_Clone_fiducial_api_Field_fiducial_api_Field_w_ok (n : Nat) (s : List api_Field) (r : List api_Field) (hr : slices_Clone_fiducial_api_Field_fiducial_api_Field_w n s = some r) : FnMut 0 Tryz.prog 41 [slT api_Field.c s] [] (.hs 0 0 r.length 3) [.own (r.flatMap api_Field.c)] := by
 unfold slices_Clone_fiducial_api_Field_fiducial_api_Field_w at hr
 refine FnMut.bodyW fine Tryz.func41 (c := (Tryz.f41.body).getD .skip) rfl (us := [.hs 0 0 r.length 3]) (s := mkS 8 0 [(0, slT api_Field.c s)]) (by kernel_rfl) (rs := [.tmp 2]) rfl ?_
 unfold Tryz.f41
 simp only [Option.getD_some]
 refine .seq <| .r3 fine 8 [(0, slT api_Field.c s)] <| .seq <| .seq ?_
 refine .nilcase (t := 0) (cs := s.flatMap api_Field.c) (len := s.length) (by kernel_rfl) (fun hn7 => ?_) ?_
 ·obtain rfl : s = [] := List.length_eq_zero_iff.1 hn7
  have hx := gd hr; clear hr; obtain ⟨_, hr⟩ := hx
  have hx := gd hr; clear hr; obtain ⟨_, hr⟩ := hx
  refine .r3 fine 8 [(0, nS), (4, aB true)] <| .cT (by kernel_rfl) <| .seq <| .r3 fine 8 [(2, nS)] <| .ret ?_
  obtain rfl := Option.some.inj hr
  exact FinMW.ret [nS] ((Wk.nil 0 3 (by kernel_rfl)).trans ((Wk.gc [0] [(0, false)] rfl (pKc trivial)).to (by kernel_rfl)))
 ·refine .r3 fine 8 [(0, .sl false (s.flatMap api_Field.c) s.length), (4, aB false)] <| .cF (by kernel_rfl) <| .skip <| .seq ?_
  obtain ⟨hg5, hg6, hr⟩ := gd2 hr
  refine .r0 fine <| .mu 2 <| .e0 (v := .hs 1 0 s.length 3) (ws := [(0, .dead), (1, .own (s.flatMap api_Field.c))]) (Eq.trans (b := appS (decide (((s.flatMap api_Field.c)).length = s.length * 3)) (s.flatMap api_Field.c) s.length (fun z1 z2 => guardO (decide (0 + 0 * 3 ≤ (([] : List api_Field).flatMap api_Field.c).length) && decide ((0 + z2) * 40 ≤ 140737488355328) && decide (0 + z2 ≤ 4611686018427387904)) (some (.eff (.hs 1 0 (0 + z2) 3) [(0, .dead), (1, .own (((([] : List api_Field).flatMap api_Field.c).drop 0).take (0 * 3) ++ z1))])))) (by kernel_rfl) (appS_t (flat_lenB api_Field.len) rfl (app_own (l := ([] : List api_Field)) (xs := s) api_Field.len rfl rfl rfl hg5 hg6))) <| .mu 1 <| .done <| .n2 8 [(2, .hs 1 0 s.length 3)] [.dead, .own (s.flatMap api_Field.c)] <| .ret ?_
  obtain rfl := Option.some.inj hr
  exact FinMW.ret [.hs 1 0 s.length 3] ((Wk.gc [0] [(1, false)] rfl (pKo api_Field.c api_Field.pure s trivial)).to (by kernel_rfl))

theorem slices_Reverse_fiducial_api_Field_fiducial_api_Field_w_ok (n : Nat) (s : List api_Field) (r : List api_Field) (hr : slices_Reverse_fiducial_api_Field_fiducial_api_Field_w n s = some r) : FnMut 1 Tryz.prog 42 [.hs 0 0 s.length 3] [.own (s.flatMap api_Field.c)] (.tup []) [.own (r.flatMap api_Field.c)] := by
 unfold slices_Reverse_fiducial_api_Field_fiducial_api_Field_w at hr
 refine FnMut.bodyW fine Tryz.func42 (c := (Tryz.f42.body).getD .skip) rfl (us := []) (s := mkS 28 0 [(0, .hs 0 0 s.length 3)]) (by kernel_rfl) (rs := []) rfl ?_
 unfold Tryz.f42
 simp only [Option.getD_some]
 refine .seq <| .r3 fine 28 [(0, .hs 0 0 s.length 3), (2, aI64 0), (3, aI64 (wrapF .i64 ((s.length : Int) - 1)))] <| .block ?_
 replace hr := bd hr; obtain ⟨s_22, hL28, hr⟩ := hr
 refine .loopO (σ := fun z0 => match z0 with | (s_16, i_17, j_18) => ⟨mkS 28 0 [(0, .hs 0 0 s_16.length 3), (2, aI64 i_17), (3, aI64 j_18)], [.own (s_16.flatMap api_Field.c)]⟩) (Q := fun x st' => x = .exit 0 ∧ Wk 1 st' ⟨mkS 28 0 [], [.own (s_22.flatMap api_Field.c)]⟩) hL28 ((Wk.gc [0, 2, 3] [(0, false)] rfl (pKo api_Field.c api_Field.pure s trivial)).to (by kernel_rfl)) ?_ ?_
 ·clear hr
  rintro m ⟨s_16, i_17, j_18⟩ hr
  show CQ _ _ _ _ _ ⟨_, _⟩
  refine .seq <| .seq <| .r3 fine 28 [(0, .hs 0 0 s_16.length 3), (2, aI64 i_17), (3, aI64 j_18), (9, aB (decide (i_17 < j_18)))] ?_
  refine .cd hr (fun hb24 hr => ?_) (fun hb24 hr => ?_)
  ·refine .skip <| .seq <| .block ?_
   obtain ⟨hg25, hg26, hr⟩ := gd2 hr
   refine .regionT fine callOf_nil <| .mu 6 <| .pure (v := .hp 0 (0 + j_18.toNat * 3)) (by kernel_rfl) (Eq.trans (b := ORes.ofP (guardV (inR j_18 s_16.length) (.hp 0 (0 + j_18.toNat * 3)))) (by kernel_rfl) (ofP_guard hg25)) (by kernel_rfl) <| .pure (v := .agg (api_Field.c (gt s_16 j_18))) (by kernel_rfl) (Eq.trans (b := ORes.ofP (guardV (decide (3 ≤ ((s_16.flatMap api_Field.c).drop (0 + j_18.toNat * 3)).length)) (.agg (((s_16.flatMap api_Field.c).drop (0 + j_18.toNat * 3)).take 3)))) (by kernel_rfl) (flat_load api_Field.len (inR_lt hg25) (by decide) (by omega : 0 + j_18.toNat * 3 = j_18.toNat * 3 + 0) (by kernel_rfl))) (by kernel_rfl) <| .mu 2 <| .pure (v := .hp 0 (0 + i_17.toNat * 3)) (by kernel_rfl) (Eq.trans (b := ORes.ofP (guardV (inR i_17 s_16.length) (.hp 0 (0 + i_17.toNat * 3)))) (by kernel_rfl) (ofP_guard hg26)) (by kernel_rfl) <| .pure (v := .agg (api_Field.c (gt s_16 i_17))) (by kernel_rfl) (Eq.trans (b := ORes.ofP (guardV (decide (3 ≤ ((s_16.flatMap api_Field.c).drop (0 + i_17.toNat * 3)).length)) (.agg (((s_16.flatMap api_Field.c).drop (0 + i_17.toNat * 3)).take 3)))) (by kernel_rfl) (flat_load api_Field.len (inR_lt hg26) (by decide) (by omega : 0 + i_17.toNat * 3 = i_17.toNat * 3 + 0) (by kernel_rfl))) (by kernel_rfl) <| .pure (v := .hp 0 (0 + i_17.toNat * 3)) (by kernel_rfl) (Eq.trans (b := ORes.ofP (guardV (inR i_17 s_16.length) (.hp 0 (0 + i_17.toNat * 3)))) (by kernel_rfl) (ofP_guard hg26)) (by kernel_rfl) <| .eff (v := .unk) (ws := [(0, .own ((s_16.set i_17.toNat (gt s_16 j_18)).flatMap api_Field.c))]) (by kernel_rfl) (Eq.trans (b := stO (decide ((0 + i_17.toNat * 3) + 3 ≤ (s_16.flatMap api_Field.c).length) && true) [(0, .own (setCells (s_16.flatMap api_Field.c) (0 + i_17.toNat * 3) (api_Field.c (gt s_16 j_18))))]) (by kernel_rfl) (stO_t (and_t (flat_fits api_Field.len (inR_lt hg26) (Nat.le_of_ble_eq_true rfl) (by omega : 0 + i_17.toNat * 3 = i_17.toNat * 3 + 0))) (congrArg Blk.own (flat_set api_Field.len (inR_lt hg26) (Nat.le_of_ble_eq_true rfl) (by omega : 0 + i_17.toNat * 3 = i_17.toNat * 3 + 0) (by kernel_rfl))))) (by kernel_rfl) <| .pure (v := .hp 0 (0 + j_18.toNat * 3)) (by kernel_rfl) (Eq.trans (b := ORes.ofP (guardV (inR j_18 s_16.length) (.hp 0 (0 + j_18.toNat * 3)))) (by kernel_rfl) (ofP_guard hg25)) (by kernel_rfl) <| .eff (v := .unk) (ws := [(0, .own (((s_16.set i_17.toNat (gt s_16 j_18)).set j_18.toNat (gt s_16 i_17)).flatMap api_Field.c))]) (by kernel_rfl) (Eq.trans (b := stO (decide ((0 + j_18.toNat * 3) + 3 ≤ ((s_16.set i_17.toNat (gt s_16 j_18)).flatMap api_Field.c).length) && true) [(0, .own (setCells ((s_16.set i_17.toNat (gt s_16 j_18)).flatMap api_Field.c) (0 + j_18.toNat * 3) (api_Field.c (gt s_16 i_17))))]) (by kernel_rfl) (stO_t (and_t (flat_fits api_Field.len (inR_lt (inR_set hg25)) (Nat.le_of_ble_eq_true rfl) (by omega : 0 + j_18.toNat * 3 = j_18.toNat * 3 + 0))) (congrArg Blk.own (flat_set api_Field.len (inR_lt (inR_set hg25)) (Nat.le_of_ble_eq_true rfl) (by omega : 0 + j_18.toNat * 3 = j_18.toNat * 3 + 0) (by kernel_rfl))))) (by kernel_rfl) ?_
   refine .done ⟨by kernel_rfl, ?_⟩
   refine .pop <| .ru fine ?_
   exact loopF_back ((s_16.set i_17.toNat (gt s_16 j_18)).set j_18.toNat (gt s_16 i_17), wrapF .i64 (i_17 + 1), wrapF .i64 (j_18 - 1)) hr ((Wk.relen 0 (b := 0) (es := 3) (len := s_16.length) ((s_16.set i_17.toNat (gt s_16 j_18)).set j_18.toNat (gt s_16 i_17)).length (by kernel_rfl) (by simp)).trans ((Wk.gc [0, 2, 3] [(0, false)] rfl (pKo api_Field.c api_Field.pure ((s_16.set i_17.toNat (gt s_16 j_18)).set j_18.toNat (gt s_16 i_17)) trivial)).to (by kernel_rfl)))
  ·refine .leave rfl ?_
   obtain rfl := Option.some.inj hr
   exact ⟨rfl, ((Wk.gc [] [(0, false)] rfl (pKo api_Field.c api_Field.pure s_16 trivial)).to (by kernel_rfl))⟩
 ·rintro x st' hq29
  clear hL28
  obtain ⟨rfl, hq29⟩ := hq29
  refine CQ_exit _ rfl ?_
  obtain rfl := Option.some.inj hr
  exact FinMW.wk hq29 (FinMW.normal [] ((Wk.gc [] [(0, false)] rfl (pKo api_Field.c api_Field.pure s_22 trivial)).to (by kernel_rfl)))

theorem fiduciallaw46_fields_ok (n : Nat) (l : List api_Field) (r : Int) (hr : fiduciallaw46_fields n l = some r) : FnOk Tryz.prog 43 [slT api_Field.c l] (aI64 r) := by
 unfold fiduciallaw46_fields at hr
 refine FnOk.bd fine Tryz.func43 [.tmp 2] ?_
 unfold Tryz.f43
 simp only [Option.getD_some]
 refine .seq <| .r3 fine 48 [(0, slT api_Field.c l)] <| .seq <| .seq <| .r3 fine 48 [(0, slT api_Field.c l), (7, slT api_Field.c l), (8, aI64 (l.length : Int)), (9, aI64 0)] <| .block ?_
 replace hr := bd hr; obtain ⟨o28, hL29, hr⟩ := hr
 refine .loopO (σ := fun z0 => match z0 with | x_16 => ⟨mkS 48 0 [(0, slT api_Field.c l), (7, slT api_Field.c l), (8, aI64 (l.length : Int)), (9, aI64 x_16)], []⟩) (Q := fun x st' => match (generalizing := false) o28 with | .inl _ => x = .exit 0 ∧ Wk 0 st' ⟨mkS 48 0 [(0, slT api_Field.c l)], []⟩ | .inr (r0) => x = .ret ∧ FinQ Tryz.prog [.tmp 2] (aI64 r0) .ret st') hL29 ((Wk.gc [0, 7, 8, 9] [] rfl pK0).to (by kernel_rfl)) ?_ ?_
 ·clear hr
  rintro m x_16 hr
  show CQ _ _ _ _ _ ⟨_, _⟩
  refine .seq <| .r3 fine 48 [(0, slT api_Field.c l), (7, slT api_Field.c l), (8, aI64 (l.length : Int)), (9, aI64 x_16), (10, aB (decide (x_16 < (l.length : Int))))] <| .seq ?_
  refine .cd hr (fun hb23 hr => ?_) (fun hb23 hr => ?_)
  ·refine .skip <| .seq <| .block <| .seq ?_
   obtain ⟨hg24, hr⟩ := gd hr
   refine .r0 fine <| .p0 (v := .pp (l.flatMap api_Field.c) (x_16.toNat * 3)) (Eq.trans (b := ORes.ofP (guardV (inR x_16 l.length) (.pp (l.flatMap api_Field.c) (x_16.toNat * 3)))) (by kernel_rfl) (ofP_guard hg24)) <| .p0 (v := .agg (api_Field.c (gt l x_16))) (Eq.trans (b := ORes.ofP (guardV (decide (3 ≤ ((l.flatMap api_Field.c).drop (x_16.toNat * 3)).length)) (.agg (((l.flatMap api_Field.c).drop (x_16.toNat * 3)).take 3)))) (by kernel_rfl) (flat_load api_Field.len (inR_lt hg24) (by decide) (by omega : x_16.toNat * 3 = x_16.toNat * 3 + 0) (by kernel_rfl))) <| .mu 2 <| .done <| .n2 48 [(0, slT api_Field.c l), (4, .hp 0 0), (7, slT api_Field.c l), (8, aI64 (l.length : Int)), (9, aI64 x_16)] [.own (api_Field.c (gt l x_16))] <| .seq ?_
   obtain ⟨v25, hc26, hr⟩ := bd hr
   refine .g1 fine (ok0 (fiduciallaw46_Valid_ok n (gt l x_16) v25 hc26)) <| .mu 1 <| .ca cf0 <| .mu 1 <| .done <| .n2 48 [(0, slT api_Field.c l), (7, slT api_Field.c l), (8, aI64 (l.length : Int)), (9, aI64 x_16), (15, aB (!v25))] [.own (api_Field.c (gt l x_16))] ?_
   refine .cd hr (fun hb27 hr => ?_) (fun hb27 hr => ?_)
   ·refine .seq <| .ru fine <| .ret ?_
    obtain rfl := Option.some.inj hr
    exact ⟨rfl, FinQ.ret (vs := [aI64 1]) (by kernel_rfl) (Sn.pure rfl)⟩
   ·refine .skip <| .pop <| .ru fine ?_
    exact loopF_back (wrapF .i64 (x_16 + 1)) hr ((Wk.gc [0, 7, 8, 9] [] rfl pK0).to (by kernel_rfl))
  ·refine .leave rfl ?_
   obtain rfl := Option.some.inj hr
   exact ⟨rfl, ((Wk.gc [0] [] rfl pK0).to (by kernel_rfl))⟩
 ·rcases o28 with ⟨⟩ | r0
  ·rintro x st' hq30
   clear hL29
   obtain ⟨rfl, hq30⟩ := hq30
   refine CQ_exit _ rfl <| .wk hq30 <| .seq <| .seq ?_
   rcases Bool.eq_false_or_eq_true (decide ((l.length : Int) < 1)) with hb31 | hb31
   ·replace hr := cd_t hb31 hr
    refine .r0 fine <| .mu 2 <| .p0 (v := aB true) (Eq.trans (b := some (.pure (aB (decide ((l.length : Int) < 1))))) (by kernel_rfl) (by rw [hb31])) <| .mu 5 <| .done <| .n2 48 [(0, slT api_Field.c l), (24, aB true)] [] <| .cT (by kernel_rfl) <| .seq <| .ru fine <| .ret ?_
    obtain rfl := Option.some.inj hr
    exact FinQ.r1 [aI64 3]
   ·replace hr := cd_f hb31 hr
    refine .r0 fine <| .mu 2 <| .p0 (v := aB false) (Eq.trans (b := some (.pure (aB (decide ((l.length : Int) < 1))))) (by kernel_rfl) (by rw [hb31])) <| .mu 5 <| .done <| .n2 48 [(0, slT api_Field.c l), (24, aB (decide ((l.length : Int) > 16)))] [] ?_
    refine .cd hr (fun hb33 hr => ?_) (fun hb33 hr => ?_)
    ·refine .seq <| .ru fine <| .ret ?_
     obtain rfl := Option.some.inj hr
     exact FinQ.r1 [aI64 3]
    ·refine .skip <| .seq <| .seq <| .r3 fine 48 [(0, slT api_Field.c l), (25, slT api_Field.c l), (26, aI64 (l.length : Int)), (27, aI64 0)] <| .block ?_
     replace hr := bd hr; obtain ⟨o48, hL49, hr⟩ := hr
     refine .loopO (σ := fun z0 => match z0 with | x_34 => ⟨mkS 48 0 [(0, slT api_Field.c l), (25, slT api_Field.c l), (26, aI64 (l.length : Int)), (27, aI64 x_34)], []⟩) (Q := fun x st' => match (generalizing := false) o48 with | .inl _ => x = .exit 2 ∧ Wk 0 st' ⟨mkS 48 0 [], []⟩ | .inr (r0) => x = .ret ∧ FinQ Tryz.prog [.tmp 2] (aI64 r0) .ret st') hL49 ((Wk.gc [0, 25, 26, 27] [] rfl pK0).to (by kernel_rfl)) ?_ ?_
     ·clear hr
      rintro m x_34 hr
      show CQ _ _ _ _ _ ⟨_, _⟩
      refine .seq <| .r3 fine 48 [(0, slT api_Field.c l), (25, slT api_Field.c l), (26, aI64 (l.length : Int)), (27, aI64 x_34), (28, aB (decide (x_34 < (l.length : Int))))] <| .seq ?_
      refine .cd hr (fun hb43 hr => ?_) (fun hb43 hr => ?_)
      ·refine .skip <| .seq <| .block <| .seq ?_
       obtain ⟨hg44, hr⟩ := gd hr
       refine .r0 fine <| .p0 (v := .pp (l.flatMap api_Field.c) (x_34.toNat * 3)) (Eq.trans (b := ORes.ofP (guardV (inR x_34 l.length) (.pp (l.flatMap api_Field.c) (x_34.toNat * 3)))) (by kernel_rfl) (ofP_guard hg44)) <| .p0 (v := .agg (api_Field.c (gt l x_34))) (Eq.trans (b := ORes.ofP (guardV (decide (3 ≤ ((l.flatMap api_Field.c).drop (x_34.toNat * 3)).length)) (.agg (((l.flatMap api_Field.c).drop (x_34.toNat * 3)).take 3)))) (by kernel_rfl) (flat_load api_Field.len (inR_lt hg44) (by decide) (by omega : x_34.toNat * 3 = x_34.toNat * 3 + 0) (by kernel_rfl))) <| .mu 2 <| .done <| .n2 48 [(0, slT api_Field.c l), (6, .hp 0 0), (25, slT api_Field.c l), (26, aI64 (l.length : Int)), (27, aI64 x_34)] [.own (api_Field.c (gt l x_34))] <| .seq ?_
       obtain ⟨hg45, hr⟩ := gd hr
       rcases Bool.eq_false_or_eq_true (((gt l x_34).Width : Int) != (gt l 0).Width) with hb46 | hb46
       ·replace hr := cd_t hb46 hr
        refine .regionT fine callOf_nil <| .mu 3 <| .pure (v := .pp (l.flatMap api_Field.c) ((0 : Int).toNat * 3)) (by kernel_rfl) (Eq.trans (b := ORes.ofP (guardV (inR 0 l.length) (.pp (l.flatMap api_Field.c) ((0 : Int).toNat * 3)))) (by kernel_rfl) (ofP_guard hg45)) (by kernel_rfl) <| .mu 1 <| .pure (v := aI64 (gt l 0).Width) (by kernel_rfl) (Eq.trans (b := ORes.ofP ((l.flatMap api_Field.c)[(0 : Int).toNat * 3 + 0]?)) (by kernel_rfl) (ofP_some (flat_get api_Field.len (inR_lt hg45) (by decide : 0 < 3) (by omega : (0 : Int).toNat * 3 + 0 = (0 : Int).toNat * 3 + 0) (by kernel_rfl)))) (by kernel_rfl) <| .pure (v := aB true) (by kernel_rfl) (Eq.trans (b := some (.pure (aB (((gt l x_34).Width : Int) != (gt l 0).Width)))) (by kernel_rfl) (by rw [hb46])) (by kernel_rfl) <| .mu 9 ?_
        refine .done ⟨by kernel_rfl, ?_⟩
        refine .n2 48 [(0, slT api_Field.c l), (25, slT api_Field.c l), (26, aI64 (l.length : Int)), (27, aI64 x_34), (46, aB true)] [.own (api_Field.c (gt l x_34))] <| .cT (by kernel_rfl) <| .seq <| .ru fine <| .ret ?_
        obtain rfl := Option.some.inj hr
        exact ⟨rfl, FinQ.ret (vs := [aI64 4]) (by kernel_rfl) (Sn.pure rfl)⟩
       ·replace hr := cd_f hb46 hr
        refine .regionT fine callOf_nil <| .mu 3 <| .pure (v := .pp (l.flatMap api_Field.c) ((0 : Int).toNat * 3)) (by kernel_rfl) (Eq.trans (b := ORes.ofP (guardV (inR 0 l.length) (.pp (l.flatMap api_Field.c) ((0 : Int).toNat * 3)))) (by kernel_rfl) (ofP_guard hg45)) (by kernel_rfl) <| .mu 1 <| .pure (v := aI64 (gt l 0).Width) (by kernel_rfl) (Eq.trans (b := ORes.ofP ((l.flatMap api_Field.c)[(0 : Int).toNat * 3 + 0]?)) (by kernel_rfl) (ofP_some (flat_get api_Field.len (inR_lt hg45) (by decide : 0 < 3) (by omega : (0 : Int).toNat * 3 + 0 = (0 : Int).toNat * 3 + 0) (by kernel_rfl)))) (by kernel_rfl) <| .pure (v := aB false) (by kernel_rfl) (Eq.trans (b := some (.pure (aB (((gt l x_34).Width : Int) != (gt l 0).Width)))) (by kernel_rfl) (by rw [hb46])) (by kernel_rfl) <| .mu 4 <| .pure (v := .pp (l.flatMap api_Field.c) ((0 : Int).toNat * 3)) (by kernel_rfl) (Eq.trans (b := ORes.ofP (guardV (inR 0 l.length) (.pp (l.flatMap api_Field.c) ((0 : Int).toNat * 3)))) (by kernel_rfl) (ofP_guard hg45)) (by kernel_rfl) <| .mu 1 <| .pure (v := aI64 (gt l 0).Height) (by kernel_rfl) (Eq.trans (b := ORes.ofP ((l.flatMap api_Field.c)[(0 : Int).toNat * 3 + 1]?)) (by kernel_rfl) (ofP_some (flat_get api_Field.len (inR_lt hg45) (by decide : 1 < 3) (by omega : (0 : Int).toNat * 3 + 1 = (0 : Int).toNat * 3 + 1) (by kernel_rfl)))) (by kernel_rfl) <| .mu 2 ?_
        refine .done ⟨by kernel_rfl, ?_⟩
        refine .n2 48 [(0, slT api_Field.c l), (25, slT api_Field.c l), (26, aI64 (l.length : Int)), (27, aI64 x_34), (46, aB (((gt l x_34).Height : Int) != (gt l 0).Height))] [.own (api_Field.c (gt l x_34))] ?_
        refine .cd hr (fun hb47 hr => ?_) (fun hb47 hr => ?_)
        ·refine .seq <| .ru fine <| .ret ?_
         obtain rfl := Option.some.inj hr
         exact ⟨rfl, FinQ.ret (vs := [aI64 4]) (by kernel_rfl) (Sn.pure rfl)⟩
        ·refine .skip <| .pop <| .ru fine ?_
         exact loopF_back (wrapF .i64 (x_34 + 1)) hr ((Wk.gc [0, 25, 26, 27] [] rfl pK0).to (by kernel_rfl))
      ·refine .leave rfl ?_
       obtain rfl := Option.some.inj hr
       exact ⟨rfl, ((Wk.gc [] [] rfl pK0).to (by kernel_rfl))⟩
     ·rcases o48 with ⟨⟩ | r0
      ·rintro x st' hq50
       clear hL49
       obtain ⟨rfl, hq50⟩ := hq50
       refine CQ_exit _ rfl <| .wk hq50 <| .seq <| .ru fine <| .ret ?_
       obtain rfl := Option.some.inj hr
       exact FinQ.r1 [aI64 0]
      ·rintro x st' hq50
       clear hL49
       obtain ⟨rfl, hq50⟩ := hq50
       obtain rfl := Option.some.inj hr
       exact CQ_ret _ hq50
  ·rintro x st' hq30
   clear hL29
   obtain ⟨rfl, hq30⟩ := hq30
   obtain rfl := Option.some.inj hr
   exact CQ_ret _ hq30

theorem fiduciallaw46_empty_inj {f : api_Field} {f_ : api_Field} (h : ([.agg [.at (.int .i64 f.Width), .at (.int .i64 f.Height), slT (iC .i64) f.V]] : List AV) = [.agg [.at (.int .i64 f_.Width), .at (.int .i64 f_.Height), slT (iC .i64) f_.V]]) : f = f_ := by
 obtain ⟨_, _, _⟩ := f
 obtain ⟨_, _, _⟩ := f_
 simp only [List.cons.injEq, AV.agg.injEq, AV.at.injEq, Value.int.injEq, Value.bool.injEq, AV.fn.injEq, AV.pp.injEq, true_and, and_true, slT_inj_int] at h
 simp_all
theorem fiduciallaw46_empty_cg (n : Nat) {f : api_Field} {f_ : api_Field} (h : ([.agg [.at (.int .i64 f.Width), .at (.int .i64 f.Height), slT (iC .i64) f.V]] : List AV) = [.agg [.at (.int .i64 f_.Width), .at (.int .i64 f_.Height), slT (iC .i64) f_.V]]) : fiduciallaw46_empty n f = fiduciallaw46_empty n f_ := by
 obtain rfl := fiduciallaw46_empty_inj h
 rfl
theorem fiduciallaw46_empty_ok (n : Nat) (f : api_Field) (r : Bool) (hr : fiduciallaw46_empty n f = some r) : FnOk Tryz.prog 44 [.agg (api_Field.c f)] (aB r) := by
 unfold fiduciallaw46_empty at hr
 refine FnOk.bd fine Tryz.func44 [.tmp 2] ?_
 unfold Tryz.f44
 simp only [Option.getD_some]
 refine .seq <| .r2 fine 17 [(1, .hp 0 0)] [.own (api_Field.c f)] <| .seq ?_
 rcases Bool.eq_false_or_eq_true ((f.Width : Int) == 0) with hb1 | hb1
 ·replace hr := cd_t hb1 hr
  rcases Bool.eq_false_or_eq_true ((f.Height : Int) == 0) with hb2 | hb2
  ·replace hr := cd_t hb2 hr
   refine .r0 fine <| .mu 2 <| .p0 (v := aB true) (Eq.trans (b := some (.pure (aB ((f.Width : Int) == 0)))) (by kernel_rfl) (by rw [hb1])) <| .mu 3 <| .pure (v := aB true) (by kernel_rfl) (Eq.trans (b := some (.pure (aB ((f.Height : Int) == 0)))) (by kernel_rfl) (by rw [hb2])) <| .mu 8 <| .done <| .ret ?_
   obtain rfl := Option.some.inj hr
   exact FinQ.r1 [aB (((f.V.length : Int) : Int) == 0)]
  ·replace hr := cd_f hb2 hr
   refine .r0 fine <| .mu 2 <| .p0 (v := aB true) (Eq.trans (b := some (.pure (aB ((f.Width : Int) == 0)))) (by kernel_rfl) (by rw [hb1])) <| .mu 3 <| .pure (v := aB false) (by kernel_rfl) (Eq.trans (b := some (.pure (aB ((f.Height : Int) == 0)))) (by kernel_rfl) (by rw [hb2])) <| .mu 8 <| .done <| .ret ?_
   obtain rfl := Option.some.inj hr
   exact FinQ.r1 [aB false]
 ·replace hr := cd_f hb1 hr
  refine .r0 fine <| .mu 2 <| .p0 (v := aB false) (Eq.trans (b := some (.pure (aB ((f.Width : Int) == 0)))) (by kernel_rfl) (by rw [hb1])) <| .mu 12 <| .done <| .ret ?_
  obtain rfl := Option.some.inj hr
  exact FinQ.r1 [aB false]

theorem fiduciallaw46_At_ok (n : Nat) (f : api_Field) (x' : Int) (y : Int) (r : Int) (hr : fiduciallaw46_At n f x' y = some r) : FnOk Tryz.prog 63 [.agg (api_Field.c f), aI64 x', aI64 y] (aI64 r) := by
 unfold fiduciallaw46_At at hr
 refine FnOk.bd fine Tryz.func63 [.tmp 6] ?_
 unfold Tryz.f63
 simp only [Option.getD_some]
 refine .seq <| .r2 fine 17 [(1, aI64 x'), (2, aI64 y), (3, .hp 0 0)] [.own (api_Field.c f)] <| .seq ?_
 obtain ⟨hg1, hr⟩ := gd hr
 refine .r0 fine <| .mu 8 <| .p0 (v := .pp (f.V.flatMap (iC .i64)) ((wrapF .i64 ((wrapF .i64 (y * f.Width)) + x')).toNat * 1)) (Eq.trans (b := ORes.ofP (guardV (inR (wrapF .i64 ((wrapF .i64 (y * f.Width)) + x')) f.V.length) (.pp (f.V.flatMap (iC .i64)) ((wrapF .i64 ((wrapF .i64 (y * f.Width)) + x')).toNat * 1)))) (by kernel_rfl) (ofP_guard hg1)) <| .p0 (v := aI64 (gt f.V (wrapF .i64 ((wrapF .i64 (y * f.Width)) + x')))) (Eq.trans (b := ORes.ofP ((f.V.flatMap (iC .i64))[(wrapF .i64 ((wrapF .i64 (y * f.Width)) + x')).toNat * 1]?)) (by kernel_rfl) (ofP_some (flat_get (iC_len _) (inR_lt hg1) (by decide : 0 < 1) (by omega : (wrapF .i64 ((wrapF .i64 (y * f.Width)) + x')).toNat * 1 = (wrapF .i64 ((wrapF .i64 (y * f.Width)) + x')).toNat * 1 + 0) (by kernel_rfl)))) <| .mu 1 <| .done <| .ret ?_
 obtain rfl := Option.some.inj hr
 exact FinQ.r1 [aI64 (gt f.V (wrapF .i64 ((wrapF .i64 (y * f.Width)) + x')))]

theorem fiduciallaw46_fused_1_ok (n : Nat) (x' : Int) (y : Int) (p : List api_Field) (r : List Int) (hr : fiduciallaw46_fused_1 n x' y p = some r) : FnOk Tryz.prog 81 [aI64 x', aI64 y, .pp [slT api_Field.c p] 0] (sI64 r) := by
 unfold fiduciallaw46_fused_1 at hr
 refine FnOk.bd fine Tryz.func81 [.tmp 5] ?_
 unfold Tryz.f81
 simp only [Option.getD_some]
 refine .seq <| .r3 fine 30 [(0, aI64 x'), (1, aI64 y), (2, .pp [slT api_Field.c p] 0)] <| .seq <| .r3 fine 30 [(0, aI64 x'), (1, aI64 y), (2, .pp [slT api_Field.c p] 0), (6, nS)] <| .seq <| .seq <| .r3 fine 30 [(0, aI64 x'), (1, aI64 y), (6, nS), (10, slT api_Field.c p), (11, aI64 (p.length : Int)), (12, aI64 0)] <| .block ?_
 replace hr := bd hr; obtain ⟨out_11, hL22, hr⟩ := hr
 refine .loopO (σ := fun z0 => match z0 with | (out_1, x_2) => ⟨mkS 30 0 [(0, aI64 x'), (1, aI64 y), (6, .hs 0 0 out_1.length 1), (10, slT api_Field.c p), (11, aI64 (p.length : Int)), (12, aI64 x_2)], [.own (out_1.flatMap (iC .i64))]⟩) (Q := fun x st' => x = .exit 0 ∧ Wk 0 st' ⟨mkS 30 0 [(6, .hs 0 0 out_11.length 1)], [.own (out_11.flatMap (iC .i64))]⟩) hL22 ((Wk.nil 6 1 (by kernel_rfl)).trans ((Wk.gc [0, 1, 6, 10, 11, 12] [(0, false)] rfl (pKc trivial)).to (by kernel_rfl))) ?_ ?_
 ·clear hr
  rintro m ⟨out_1, x_2⟩ hr
  show CQ _ _ _ _ _ ⟨_, _⟩
  refine .seq <| .r3 fine 30 [(0, aI64 x'), (1, aI64 y), (6, .hs 0 0 out_1.length 1), (10, slT api_Field.c p), (11, aI64 (p.length : Int)), (12, aI64 x_2), (13, aB (decide (x_2 < (p.length : Int))))] <| .seq ?_
  refine .cd hr (fun hb14 hr => ?_) (fun hb14 hr => ?_)
  ·refine .skip <| .seq <| .block <| .seq ?_
   obtain ⟨hg15, hr⟩ := gd hr
   refine .r0 fine <| .p0 (v := .pp (p.flatMap api_Field.c) (x_2.toNat * 3)) (Eq.trans (b := ORes.ofP (guardV (inR x_2 p.length) (.pp (p.flatMap api_Field.c) (x_2.toNat * 3)))) (by kernel_rfl) (ofP_guard hg15)) <| .p0 (v := .agg (api_Field.c (gt p x_2))) (Eq.trans (b := ORes.ofP (guardV (decide (3 ≤ ((p.flatMap api_Field.c).drop (x_2.toNat * 3)).length)) (.agg (((p.flatMap api_Field.c).drop (x_2.toNat * 3)).take 3)))) (by kernel_rfl) (flat_load api_Field.len (inR_lt hg15) (by decide) (by omega : x_2.toNat * 3 = x_2.toNat * 3 + 0) (by kernel_rfl))) <| .mu 2 <| .done <| .n2 30 [(0, aI64 x'), (1, aI64 y), (6, .hs 0 0 out_1.length 1), (8, .hp 1 0), (10, slT api_Field.c p), (11, aI64 (p.length : Int)), (12, aI64 x_2)] [.own (out_1.flatMap (iC .i64)), .own (api_Field.c (gt p x_2))] <| .seq ?_
   obtain ⟨v16, hc17, hr⟩ := bd hr
   refine .g1 fine (ok0 (fiduciallaw46_At_ok n (gt p x_2) x' y v16 hc17)) <| .mu 3 <| .ca cf0 <| .mu 1 <| .done <| .n2 30 [(0, aI64 x'), (1, aI64 y), (6, .hs 0 0 out_1.length 1), (9, aI64 v16), (10, slT api_Field.c p), (11, aI64 (p.length : Int)), (12, aI64 x_2)] [.own (out_1.flatMap (iC .i64)), .own (api_Field.c (gt p x_2))] <| .seq <| .r3 fine 30 [(0, aI64 x'), (1, aI64 y), (6, .hs 0 0 out_1.length 1), (9, aI64 v16), (10, slT api_Field.c p), (11, aI64 (p.length : Int)), (12, aI64 x_2), (21, aB (decide (v16 ≥ 0)))] ?_
   refine .cd hr (fun hb18 hr => ?_) (fun hb18 hr => ?_)
   ·obtain ⟨hg19, hg20, hr⟩ := gd2 hr
    refine .r0 fine <| .mu 3 <| .e0 (v := .hs 3 0 (out_1 ++ [v16]).length 1) (ws := [(0, .dead), (3, .own ((out_1 ++ [v16]).flatMap (iC .i64)))]) (Eq.trans (b := guardO (decide (0 + out_1.length * 1 ≤ (out_1.flatMap (iC .i64)).length) && decide ((out_1.length + 1) * 8 ≤ 140737488355328) && decide (out_1.length + 1 ≤ 4611686018427387904)) (some (.eff (.hs 3 0 (out_1.length + 1) 1) [(0, .dead), (3, .own (((out_1.flatMap (iC .i64)).drop 0).take (out_1.length * 1) ++ [aI64 v16]))]))) (by kernel_rfl) (app_own (l := out_1) (xs := [v16]) (iC_len _) rfl rfl (by kernel_rfl) hg19 hg20)) <| .mu 1 <| .done <| .pop <| .ru fine ?_
    exact loopF_back (out_1 ++ [v16], wrapF .i64 (x_2 + 1)) hr ((Wk.gc [0, 1, 6, 10, 11, 12] [(3, false)] rfl (pKo (iC .i64) (iC_pure _) (out_1 ++ [v16]) trivial)).to (by kernel_rfl))
   ·refine .skip <| .pop <| .ru fine ?_
    exact loopF_back (out_1, wrapF .i64 (x_2 + 1)) hr ((Wk.gc [0, 1, 6, 10, 11, 12] [(0, false)] rfl (pKo (iC .i64) (iC_pure _) out_1 trivial)).to (by kernel_rfl))
  ·refine .leave rfl ?_
   obtain rfl := Option.some.inj hr
   exact ⟨rfl, ((Wk.gc [6] [(0, false)] rfl (pKo (iC .i64) (iC_pure _) out_1 trivial)).to (by kernel_rfl))⟩
 ·rintro x st' hq23
  clear hL22
  obtain ⟨rfl, hq23⟩ := hq23
  refine CQ_exit _ rfl <| .wk hq23 <| .seq ?_
  obtain ⟨v24, hc25, hr⟩ := bd hr
  obtain ⟨hg26, hr⟩ := gd hr
  refine .g1 fine (callOk_mutU (args := [.hs 0 0 out_11.length 1]) 1 0 [(0, false)] [false] (slices_Sort_int_int_w_ok n out_11 v24 hc25) (by exact ⟨ids_flat (iC_pure _) _, trivial⟩) (by exact ⟨ids_flat (iC_pure _) _, trivial⟩) rfl rfl (by kernel_rfl) (by kernel_rfl)) <| .mu 1 <| .ca cf0 <| .done <| .n2 30 [(6, .hs 0 0 out_11.length 1)] [.own (v24.flatMap (iC .i64))] <| .seq <| .r3 fine 30 [(5, .hs 0 0 out_11.length 1)] <| .ret ?_
  obtain rfl := Option.some.inj hr
  exact FinQ.ret (vs := [.hs 0 0 out_11.length 1]) (by kernel_rfl) (Sn.hse (of_decide_eq_true hg26) rfl (.inl rfl) (SnC.pure (ids_flat (iC_pure _) _)) (fun h => flat_nil0 h))

theorem fiduciallaw46_fused_2_of_fiduciallaw46_fused_1_ok (n : Nat) (x' : Int) (y : Int) (c : List api_Field) (r : Int) (hr : fiduciallaw46_fused_2_of_fiduciallaw46_fused_1 n x' y c = some r) : FnOk Tryz.prog 82 [aI64 x', aI64 y, .pp [.fn 81 [] [.pp [slT api_Field.c c] 0]] 0] (aI64 r) := by
 unfold fiduciallaw46_fused_2_of_fiduciallaw46_fused_1 at hr
 refine FnOk.bd fine Tryz.func82 [.tmp 5] ?_
 unfold Tryz.f82
 simp only [Option.getD_some]
 refine .seq <| .r3 fine 11 [(0, aI64 x'), (1, aI64 y), (2, .pp [.fn 81 [] [.pp [slT api_Field.c c] 0]] 0)] <| .seq ?_
 obtain ⟨v1, hc2, hr⟩ := bd hr
 refine .g1 fine (ok0 (fiduciallaw46_fused_1_ok n x' y c v1 hc2)) <| .mu 3 <| .ca cf0 <| .mu 2 <| .done <| .ret ?_
 obtain rfl := Option.some.inj hr
 exact FinQ.r1 [aI64 (v1.length : Int)]

theorem fiduciallaw46_Made_of_fiduciallaw46_fused_2_of_fiduciallaw46_fused_1_ok (n : Nat) (f : api_Field) (c : List api_Field) (r : api_Field) (hr : fiduciallaw46_Made_of_fiduciallaw46_fused_2_of_fiduciallaw46_fused_1 n f c = some r) : FnOk Tryz.prog 61 [.agg (api_Field.c f), .fn 82 [] [.pp [.fn 81 [] [.pp [slT api_Field.c c] 0]] 0]] (.agg (api_Field.c r)) := by
 unfold fiduciallaw46_Made_of_fiduciallaw46_fused_2_of_fiduciallaw46_fused_1 at hr
 refine FnOk.bd fine Tryz.func61 [.cell 4 24] ?_
 unfold Tryz.f61
 simp only [Option.getD_some]
 refine .seq <| .r2 fine 35 [(1, .fn 82 [] [.pp [.fn 81 [] [.pp [slT api_Field.c c] 0]] 0]), (2, .hp 0 0), (4, .hp 1 0)] [.own (api_Field.c f), .own [aI64 0, aI64 0, nS]] <| .seq <| .r2 fine 35 [(1, .fn 82 [] [.pp [.fn 81 [] [.pp [slT api_Field.c c] 0]] 0]), (2, .hp 0 0), (4, .hp 1 0), (5, .hp 2 0)] [.own (api_Field.c f), .own [aI64 0, aI64 0, nS], .own [aI64 f.Width, aI64 f.Height, nS]] <| .seq <| .seq <| .r3 fine 35 [(1, .fn 82 [] [.pp [.fn 81 [] [.pp [slT api_Field.c c] 0]] 0]), (2, .hp 0 0), (4, .hp 1 0), (5, .hp 2 0), (14, aI64 f.Height), (15, aI64 0)] <| .block ?_
 replace hr := bd hr; obtain ⟨out_24, hL48, hr⟩ := hr
 refine .loopO (σ := fun z0 => match z0 with | (out_1, x_2) => ⟨mkS 35 0 [(1, .fn 82 [] [.pp [.fn 81 [] [.pp [slT api_Field.c c] 0]] 0]), (2, .hp 0 0), (4, .hp 1 0), (5, .hp 2 0), (14, aI64 f.Height), (15, aI64 x_2)], [.own (api_Field.c f), .own [aI64 0, aI64 0, nS], .own [aI64 f.Width, aI64 f.Height, .hs 3 0 out_1.length 1], .own (out_1.flatMap (iC .i64))]⟩) (Q := fun x st' => x = .exit 0 ∧ Wk 0 st' ⟨mkS 35 0 [(4, .hp 0 0), (5, .hp 1 0)], [.own [aI64 0, aI64 0, nS], .own [aI64 f.Width, aI64 f.Height, .hs 2 0 out_24.length 1], .own (out_24.flatMap (iC .i64))]⟩) hL48 ((Wk.nilcell 2 2 1 (cs := [aI64 f.Width, aI64 f.Height, nS]) (by kernel_rfl) (by kernel_rfl)).trans ((Wk.gc [1, 2, 4, 5, 14, 15] [(0, true), (1, true), (2, true), (3, false)] rfl (pKt (pKt (pKt (pKc trivial))))).to (by kernel_rfl))) ?_ ?_
 ·clear hr
  rintro m ⟨out_1, x_2⟩ hr
  show CQ _ _ _ _ _ ⟨_, _⟩
  refine .seq <| .r3 fine 35 [(1, .fn 82 [] [.pp [.fn 81 [] [.pp [slT api_Field.c c] 0]] 0]), (2, .hp 0 0), (4, .hp 1 0), (5, .hp 2 0), (14, aI64 f.Height), (15, aI64 x_2), (16, aB (decide (x_2 < f.Height)))] <| .seq ?_
  refine .cd hr (fun hb27 hr => ?_) (fun hb27 hr => ?_)
  ·refine .skip <| .seq <| .block <| .seq <| .r3 fine 35 [(1, .fn 82 [] [.pp [.fn 81 [] [.pp [slT api_Field.c c] 0]] 0]), (2, .hp 0 0), (4, .hp 1 0), (5, .hp 2 0), (6, aI64 x_2), (14, aI64 f.Height), (15, aI64 x_2)] <| .seq <| .r3 fine 35 [(1, .fn 82 [] [.pp [.fn 81 [] [.pp [slT api_Field.c c] 0]] 0]), (2, .hp 0 0), (4, .hp 1 0), (5, .hp 2 0), (6, aI64 x_2), (14, aI64 f.Height), (15, aI64 x_2), (19, aI64 f.Width), (20, aI64 0)] <| .block ?_
   replace hr := bd hr; obtain ⟨out_36, hL45, hr⟩ := hr
   refine .loopO (σ := fun z0 => match z0 with | (out_28, x_29) => ⟨mkS 35 0 [(1, .fn 82 [] [.pp [.fn 81 [] [.pp [slT api_Field.c c] 0]] 0]), (2, .hp 0 0), (4, .hp 1 0), (5, .hp 2 0), (6, aI64 x_2), (14, aI64 f.Height), (15, aI64 x_2), (19, aI64 f.Width), (20, aI64 x_29)], [.own (api_Field.c f), .own [aI64 0, aI64 0, nS], .own [aI64 f.Width, aI64 f.Height, .hs 3 0 out_28.length 1], .own (out_28.flatMap (iC .i64))]⟩) (Q := fun x st' => x = .exit 2 ∧ Wk 0 st' ⟨mkS 35 0 [(1, .fn 82 [] [.pp [.fn 81 [] [.pp [slT api_Field.c c] 0]] 0]), (2, .hp 0 0), (4, .hp 1 0), (5, .hp 2 0), (14, aI64 f.Height), (15, aI64 x_2)], [.own (api_Field.c f), .own [aI64 0, aI64 0, nS], .own [aI64 f.Width, aI64 f.Height, .hs 3 0 out_36.length 1], .own (out_36.flatMap (iC .i64))]⟩) hL45 ((Wk.gc [1, 2, 4, 5, 6, 14, 15, 19, 20] [(0, true), (1, true), (2, true), (3, false)] rfl (pKt (pKt (pKt (pKo (iC .i64) (iC_pure _) out_1 trivial))))).to (by kernel_rfl)) ?_ ?_
   ·clear hr
    rintro m ⟨out_28, x_29⟩ hr
    show CQ _ _ _ _ _ ⟨_, _⟩
    refine .seq <| .r3 fine 35 [(1, .fn 82 [] [.pp [.fn 81 [] [.pp [slT api_Field.c c] 0]] 0]), (2, .hp 0 0), (4, .hp 1 0), (5, .hp 2 0), (6, aI64 x_2), (14, aI64 f.Height), (15, aI64 x_2), (19, aI64 f.Width), (20, aI64 x_29), (21, aB (decide (x_29 < f.Width)))] <| .seq ?_
    refine .cd hr (fun hb39 hr => ?_) (fun hb39 hr => ?_)
    ·refine .skip <| .seq <| .block <| .seq <| .r3 fine 35 [(1, .fn 82 [] [.pp [.fn 81 [] [.pp [slT api_Field.c c] 0]] 0]), (2, .hp 0 0), (4, .hp 1 0), (5, .hp 2 0), (6, aI64 x_2), (7, aI64 x_29), (14, aI64 f.Height), (15, aI64 x_2), (19, aI64 f.Width), (20, aI64 x_29)] ?_
     obtain ⟨v40, hc41, hr⟩ := bd hr
     obtain ⟨hg42, hg43, hr⟩ := gd2 hr
     refine .t1 fine (ok0 (fiduciallaw46_fused_2_of_fiduciallaw46_fused_1_ok n x_29 x_2 c v40 hc41)) <| .mu 5 <| .ca cf0 <| .mu 1 <| .eff (v := .hs 5 0 (out_28 ++ [v40]).length 1) (ws := [(3, .dead), (5, .own ((out_28 ++ [v40]).flatMap (iC .i64)))]) (by kernel_rfl) (Eq.trans (b := guardO (decide (0 + out_28.length * 1 ≤ (out_28.flatMap (iC .i64)).length) && decide ((out_28.length + 1) * 8 ≤ 140737488355328) && decide (out_28.length + 1 ≤ 4611686018427387904)) (some (.eff (.hs 5 0 (out_28.length + 1) 1) [(3, .dead), (5, .own (((out_28.flatMap (iC .i64)).drop 0).take (out_28.length * 1) ++ [aI64 v40]))]))) (by kernel_rfl) (app_own (l := out_28) (xs := [v40]) (iC_len _) rfl rfl (by kernel_rfl) hg42 hg43)) (by kernel_rfl) <| .mu 2 ?_
     refine .done ⟨by kernel_rfl, ?_⟩
     refine .pop <| .ru fine ?_
     exact loopF_back (out_28 ++ [v40], wrapF .i64 (x_29 + 1)) hr ((Wk.gc [1, 2, 4, 5, 6, 14, 15, 19, 20] [(0, true), (1, true), (2, true), (5, false)] rfl (pKt (pKt (pKt (pKo (iC .i64) (iC_pure _) (out_28 ++ [v40]) trivial))))).to (by kernel_rfl))
    ·refine .leave rfl ?_
     obtain rfl := Option.some.inj hr
     exact ⟨rfl, ((Wk.gc [1, 2, 4, 5, 14, 15] [(0, true), (1, true), (2, true), (3, false)] rfl (pKt (pKt (pKt (pKo (iC .i64) (iC_pure _) out_28 trivial))))).to (by kernel_rfl))⟩
   ·rintro x st' hq46
    clear hL45
    obtain ⟨rfl, hq46⟩ := hq46
    refine CQ_exit _ rfl <| .pop <| .wk hq46 <| .ru fine ?_
    exact loopF_back (out_36, wrapF .i64 (x_2 + 1)) hr ((Wk.gc [1, 2, 4, 5, 14, 15] [(0, true), (1, true), (2, true), (3, false)] rfl (pKt (pKt (pKt (pKo (iC .i64) (iC_pure _) out_36 trivial))))).to (by kernel_rfl))
  ·refine .leave rfl ?_
   obtain rfl := Option.some.inj hr
   exact ⟨rfl, ((Wk.gc [4, 5] [(1, true), (2, true), (3, false)] rfl (pKt (pKt (pKo (iC .i64) (iC_pure _) out_1 trivial)))).to (by kernel_rfl))⟩
 ·rintro x st' hq49
  clear hL48
  obtain ⟨rfl, hq49⟩ := hq49
  refine CQ_exit _ rfl <| .wk hq49 <| .seq <| .r2 fine 35 [(4, .hp 0 0)] [.own [aI64 f.Width, aI64 f.Height, .hs 2 0 out_24.length 1], .own [aI64 f.Width, aI64 f.Height, .hs 2 0 out_24.length 1], .own (out_24.flatMap (iC .i64))] <| .ret ?_
  obtain rfl := Option.some.inj hr
  exact FinQ.ret (vs := [.agg [aI64 f.Width, aI64 f.Height, .hs 2 0 out_24.length 1]]) (by kernel_rfl) (Sn.agg (SnL.cons (Sn.pure rfl) (SnL.cons (Sn.pure rfl) (SnL.cons (Sn.hs rfl (.inl rfl) (SnC.pure (ids_flat (iC_pure _) _)) (fun h => flat_nil0 h)) SnL.nil))))

theorem fiduciallaw46_fused_3_of_fiduciallaw46_fused_1_ok (n : Nat) (x' : Int) (y : Int) (c : List api_Field) (r : Int) (hr : fiduciallaw46_fused_3_of_fiduciallaw46_fused_1 n x' y c = some r) : FnOk Tryz.prog 83 [aI64 x', aI64 y, .pp [.fn 81 [] [.pp [slT api_Field.c c] 0]] 0] (aI64 r) := by
 unfold fiduciallaw46_fused_3_of_fiduciallaw46_fused_1 at hr
 refine FnOk.bd fine Tryz.func83 [.tmp 5] ?_
 unfold Tryz.f83
 simp only [Option.getD_some]
 refine .seq <| .r3 fine 21 [(0, aI64 x'), (1, aI64 y), (2, .pp [.fn 81 [] [.pp [slT api_Field.c c] 0]] 0)] <| .seq ?_
 obtain ⟨v1, hc2, hr⟩ := bd hr
 refine .g1 fine (ok0 (fiduciallaw46_fused_1_ok n x' y c v1 hc2)) <| .mu 3 <| .ca cf0 <| .mu 1 <| .done <| .n2 21 [(6, sI64 v1)] [] <| .seq <| .seq <| .r3 fine 21 [(6, sI64 v1), (13, aB (((v1.length : Int) : Int) == 0))] ?_
 refine .cd hr (fun hb3 hr => ?_) (fun hb3 hr => ?_)
 ·refine .seq <| .ru fine <| .ret ?_
  obtain rfl := Option.some.inj hr
  exact FinQ.r1 [aI64 (-1)]
 ·refine .skip <| .seq ?_
  obtain ⟨hg4, hr⟩ := gd hr
  refine .r0 fine <| .mu 5 <| .p0 (v := .pp (v1.flatMap (iC .i64)) ((wrapF .i64 ((wrapF .i64 ((v1.length : Int) - 1)).tdiv 2)).toNat * 1)) (Eq.trans (b := ORes.ofP (guardV (inR (wrapF .i64 ((wrapF .i64 ((v1.length : Int) - 1)).tdiv 2)) v1.length) (.pp (v1.flatMap (iC .i64)) ((wrapF .i64 ((wrapF .i64 ((v1.length : Int) - 1)).tdiv 2)).toNat * 1)))) (by kernel_rfl) (ofP_guard hg4)) <| .p0 (v := aI64 (gt v1 (wrapF .i64 ((wrapF .i64 ((v1.length : Int) - 1)).tdiv 2)))) (Eq.trans (b := ORes.ofP ((v1.flatMap (iC .i64))[(wrapF .i64 ((wrapF .i64 ((v1.length : Int) - 1)).tdiv 2)).toNat * 1]?)) (by kernel_rfl) (ofP_some (flat_get (iC_len _) (inR_lt hg4) (by decide : 0 < 1) (by omega : (wrapF .i64 ((wrapF .i64 ((v1.length : Int) - 1)).tdiv 2)).toNat * 1 = (wrapF .i64 ((wrapF .i64 ((v1.length : Int) - 1)).tdiv 2)).toNat * 1 + 0) (by kernel_rfl)))) <| .mu 1 <| .done <| .ret ?_
  obtain rfl := Option.some.inj hr
  exact FinQ.r1 [aI64 (gt v1 (wrapF .i64 ((wrapF .i64 ((v1.length : Int) - 1)).tdiv 2)))]

theorem fiduciallaw46_Made_of_fiduciallaw46_fused_3_of_fiduciallaw46_fused_1_ok (n : Nat) (f : api_Field) (c : List api_Field) (r : api_Field) (hr : fiduciallaw46_Made_of_fiduciallaw46_fused_3_of_fiduciallaw46_fused_1 n f c = some r) : FnOk Tryz.prog 61 [.agg (api_Field.c f), .fn 83 [] [.pp [.fn 81 [] [.pp [slT api_Field.c c] 0]] 0]] (.agg (api_Field.c r)) := by
 unfold fiduciallaw46_Made_of_fiduciallaw46_fused_3_of_fiduciallaw46_fused_1 at hr
 refine FnOk.bd fine Tryz.func61 [.cell 4 24] ?_
 unfold Tryz.f61
 simp only [Option.getD_some]
 refine .seq <| .r2 fine 35 [(1, .fn 83 [] [.pp [.fn 81 [] [.pp [slT api_Field.c c] 0]] 0]), (2, .hp 0 0), (4, .hp 1 0)] [.own (api_Field.c f), .own [aI64 0, aI64 0, nS]] <| .seq <| .r2 fine 35 [(1, .fn 83 [] [.pp [.fn 81 [] [.pp [slT api_Field.c c] 0]] 0]), (2, .hp 0 0), (4, .hp 1 0), (5, .hp 2 0)] [.own (api_Field.c f), .own [aI64 0, aI64 0, nS], .own [aI64 f.Width, aI64 f.Height, nS]] <| .seq <| .seq <| .r3 fine 35 [(1, .fn 83 [] [.pp [.fn 81 [] [.pp [slT api_Field.c c] 0]] 0]), (2, .hp 0 0), (4, .hp 1 0), (5, .hp 2 0), (14, aI64 f.Height), (15, aI64 0)] <| .block ?_
 replace hr := bd hr; obtain ⟨out_24, hL48, hr⟩ := hr
 refine .loopO (σ := fun z0 => match z0 with | (out_1, x_2) => ⟨mkS 35 0 [(1, .fn 83 [] [.pp [.fn 81 [] [.pp [slT api_Field.c c] 0]] 0]), (2, .hp 0 0), (4, .hp 1 0), (5, .hp 2 0), (14, aI64 f.Height), (15, aI64 x_2)], [.own (api_Field.c f), .own [aI64 0, aI64 0, nS], .own [aI64 f.Width, aI64 f.Height, .hs 3 0 out_1.length 1], .own (out_1.flatMap (iC .i64))]⟩) (Q := fun x st' => x = .exit 0 ∧ Wk 0 st' ⟨mkS 35 0 [(4, .hp 0 0), (5, .hp 1 0)], [.own [aI64 0, aI64 0, nS], .own [aI64 f.Width, aI64 f.Height, .hs 2 0 out_24.length 1], .own (out_24.flatMap (iC .i64))]⟩) hL48 ((Wk.nilcell 2 2 1 (cs := [aI64 f.Width, aI64 f.Height, nS]) (by kernel_rfl) (by kernel_rfl)).trans ((Wk.gc [1, 2, 4, 5, 14, 15] [(0, true), (1, true), (2, true), (3, false)] rfl (pKt (pKt (pKt (pKc trivial))))).to (by kernel_rfl))) ?_ ?_
 ·clear hr
  rintro m ⟨out_1, x_2⟩ hr
  show CQ _ _ _ _ _ ⟨_, _⟩
  refine .seq <| .r3 fine 35 [(1, .fn 83 [] [.pp [.fn 81 [] [.pp [slT api_Field.c c] 0]] 0]), (2, .hp 0 0), (4, .hp 1 0), (5, .hp 2 0), (14, aI64 f.Height), (15, aI64 x_2), (16, aB (decide (x_2 < f.Height)))] <| .seq ?_
  refine .cd hr (fun hb27 hr => ?_) (fun hb27 hr => ?_)
  ·refine .skip <| .seq <| .block <| .seq <| .r3 fine 35 [(1, .fn 83 [] [.pp [.fn 81 [] [.pp [slT api_Field.c c] 0]] 0]), (2, .hp 0 0), (4, .hp 1 0), (5, .hp 2 0), (6, aI64 x_2), (14, aI64 f.Height), (15, aI64 x_2)] <| .seq <| .r3 fine 35 [(1, .fn 83 [] [.pp [.fn 81 [] [.pp [slT api_Field.c c] 0]] 0]), (2, .hp 0 0), (4, .hp 1 0), (5, .hp 2 0), (6, aI64 x_2), (14, aI64 f.Height), (15, aI64 x_2), (19, aI64 f.Width), (20, aI64 0)] <| .block ?_
   replace hr := bd hr; obtain ⟨out_36, hL45, hr⟩ := hr
   refine .loopO (σ := fun z0 => match z0 with | (out_28, x_29) => ⟨mkS 35 0 [(1, .fn 83 [] [.pp [.fn 81 [] [.pp [slT api_Field.c c] 0]] 0]), (2, .hp 0 0), (4, .hp 1 0), (5, .hp 2 0), (6, aI64 x_2), (14, aI64 f.Height), (15, aI64 x_2), (19, aI64 f.Width), (20, aI64 x_29)], [.own (api_Field.c f), .own [aI64 0, aI64 0, nS], .own [aI64 f.Width, aI64 f.Height, .hs 3 0 out_28.length 1], .own (out_28.flatMap (iC .i64))]⟩) (Q := fun x st' => x = .exit 2 ∧ Wk 0 st' ⟨mkS 35 0 [(1, .fn 83 [] [.pp [.fn 81 [] [.pp [slT api_Field.c c] 0]] 0]), (2, .hp 0 0), (4, .hp 1 0), (5, .hp 2 0), (14, aI64 f.Height), (15, aI64 x_2)], [.own (api_Field.c f), .own [aI64 0, aI64 0, nS], .own [aI64 f.Width, aI64 f.Height, .hs 3 0 out_36.length 1], .own (out_36.flatMap (iC .i64))]⟩) hL45 ((Wk.gc [1, 2, 4, 5, 6, 14, 15, 19, 20] [(0, true), (1, true), (2, true), (3, false)] rfl (pKt (pKt (pKt (pKo (iC .i64) (iC_pure _) out_1 trivial))))).to (by kernel_rfl)) ?_ ?_
   ·clear hr
    rintro m ⟨out_28, x_29⟩ hr
    show CQ _ _ _ _ _ ⟨_, _⟩
    refine .seq <| .r3 fine 35 [(1, .fn 83 [] [.pp [.fn 81 [] [.pp [slT api_Field.c c] 0]] 0]), (2, .hp 0 0), (4, .hp 1 0), (5, .hp 2 0), (6, aI64 x_2), (14, aI64 f.Height), (15, aI64 x_2), (19, aI64 f.Width), (20, aI64 x_29), (21, aB (decide (x_29 < f.Width)))] <| .seq ?_
    refine .cd hr (fun hb39 hr => ?_) (fun hb39 hr => ?_)
    ·refine .skip <| .seq <| .block <| .seq <| .r3 fine 35 [(1, .fn 83 [] [.pp [.fn 81 [] [.pp [slT api_Field.c c] 0]] 0]), (2, .hp 0 0), (4, .hp 1 0), (5, .hp 2 0), (6, aI64 x_2), (7, aI64 x_29), (14, aI64 f.Height), (15, aI64 x_2), (19, aI64 f.Width), (20, aI64 x_29)] ?_
     obtain ⟨v40, hc41, hr⟩ := bd hr
     obtain ⟨hg42, hg43, hr⟩ := gd2 hr
     refine .t1 fine (ok0 (fiduciallaw46_fused_3_of_fiduciallaw46_fused_1_ok n x_29 x_2 c v40 hc41)) <| .mu 5 <| .ca cf0 <| .mu 1 <| .eff (v := .hs 5 0 (out_28 ++ [v40]).length 1) (ws := [(3, .dead), (5, .own ((out_28 ++ [v40]).flatMap (iC .i64)))]) (by kernel_rfl) (Eq.trans (b := guardO (decide (0 + out_28.length * 1 ≤ (out_28.flatMap (iC .i64)).length) && decide ((out_28.length + 1) * 8 ≤ 140737488355328) && decide (out_28.length + 1 ≤ 4611686018427387904)) (some (.eff (.hs 5 0 (out_28.length + 1) 1) [(3, .dead), (5, .own (((out_28.flatMap (iC .i64)).drop 0).take (out_28.length * 1) ++ [aI64 v40]))]))) (by kernel_rfl) (app_own (l := out_28) (xs := [v40]) (iC_len _) rfl rfl (by kernel_rfl) hg42 hg43)) (by kernel_rfl) <| .mu 2 ?_
     refine .done ⟨by kernel_rfl, ?_⟩
     refine .pop <| .ru fine ?_
     exact loopF_back (out_28 ++ [v40], wrapF .i64 (x_29 + 1)) hr ((Wk.gc [1, 2, 4, 5, 6, 14, 15, 19, 20] [(0, true), (1, true), (2, true), (5, false)] rfl (pKt (pKt (pKt (pKo (iC .i64) (iC_pure _) (out_28 ++ [v40]) trivial))))).to (by kernel_rfl))
    ·refine .leave rfl ?_
     obtain rfl := Option.some.inj hr
     exact ⟨rfl, ((Wk.gc [1, 2, 4, 5, 14, 15] [(0, true), (1, true), (2, true), (3, false)] rfl (pKt (pKt (pKt (pKo (iC .i64) (iC_pure _) out_28 trivial))))).to (by kernel_rfl))⟩
   ·rintro x st' hq46
    clear hL45
    obtain ⟨rfl, hq46⟩ := hq46
    refine CQ_exit _ rfl <| .pop <| .wk hq46 <| .ru fine ?_
    exact loopF_back (out_36, wrapF .i64 (x_2 + 1)) hr ((Wk.gc [1, 2, 4, 5, 14, 15] [(0, true), (1, true), (2, true), (3, false)] rfl (pKt (pKt (pKt (pKo (iC .i64) (iC_pure _) out_36 trivial))))).to (by kernel_rfl))
  ·refine .leave rfl ?_
   obtain rfl := Option.some.inj hr
   exact ⟨rfl, ((Wk.gc [4, 5] [(1, true), (2, true), (3, false)] rfl (pKt (pKt (pKo (iC .i64) (iC_pure _) out_1 trivial)))).to (by kernel_rfl))⟩
 ·rintro x st' hq49
  clear hL48
  obtain ⟨rfl, hq49⟩ := hq49
  refine CQ_exit _ rfl <| .wk hq49 <| .seq <| .r2 fine 35 [(4, .hp 0 0)] [.own [aI64 f.Width, aI64 f.Height, .hs 2 0 out_24.length 1], .own [aI64 f.Width, aI64 f.Height, .hs 2 0 out_24.length 1], .own (out_24.flatMap (iC .i64))] <| .ret ?_
  obtain rfl := Option.some.inj hr
  exact FinQ.ret (vs := [.agg [aI64 f.Width, aI64 f.Height, .hs 2 0 out_24.length 1]]) (by kernel_rfl) (Sn.agg (SnL.cons (Sn.pure rfl) (SnL.cons (Sn.pure rfl) (SnL.cons (Sn.hs rfl (.inl rfl) (SnC.pure (ids_flat (iC_pure _) _)) (fun h => flat_nil0 h)) SnL.nil))))

theorem fiduciallaw46_fused_ok (n : Nat) (l : List api_Field) (r : api_Field × api_Field) (hr : fiduciallaw46_fused n l = some r) : FnOk Tryz.prog 45 [slT api_Field.c l] (.tup [.agg (api_Field.c r.1), .agg (api_Field.c r.2)]) := by
 unfold fiduciallaw46_fused at hr
 refine FnOk.bd fine Tryz.func45 [.cell 2 24, .cell 3 24] ?_
 unfold Tryz.f45
 simp only [Option.getD_some]
 refine .seq <| .r2 fine 18 [(1, .hp 0 0), (2, .hp 1 0), (3, .hp 2 0)] [.own [slT api_Field.c l], .own [aI64 0, aI64 0, nS], .own [aI64 0, aI64 0, nS]] <| .seq <| .r2 fine 18 [(1, .hp 0 0), (2, .hp 1 0), (3, .hp 2 0), (4, .hp 3 0)] [.own [slT api_Field.c l], .own [aI64 0, aI64 0, nS], .own [aI64 0, aI64 0, nS], .own [.fn 81 [] [.hp 0 0]]] <| .seq ?_
 obtain ⟨hg1, hr⟩ := gd hr
 obtain ⟨v2, hc3, hr⟩ := bd hr
 refine .g1 fine (callOk_ref (args := [.agg (api_Field.c (gt l 0)), .fn 82 [] [.hp 3 0]]) (l := [0, 3]) (SnL.cons (Sn.pure rfl) (SnL.cons (Sn.fn SnL.nil (SnL.cons (Sn.hp rfl (.inl rfl) (SnC.cons (Sn.fn SnL.nil (SnL.cons (Sn.hp rfl (.inl rfl) (SnC.cons (Sn.pure rfl) SnC.nil)) SnL.nil)) SnC.nil)) SnL.nil)) SnL.nil)) (fiduciallaw46_Made_of_fiduciallaw46_fused_2_of_fiduciallaw46_fused_1_ok n (gt l 0) l v2 hc3)) <| .mu 1 <| .p0 (v := .pp (l.flatMap api_Field.c) ((0 : Int).toNat * 3)) (Eq.trans (b := ORes.ofP (guardV (inR 0 l.length) (.pp (l.flatMap api_Field.c) ((0 : Int).toNat * 3)))) (by kernel_rfl) (ofP_guard hg1)) <| .p0 (v := .agg (api_Field.c (gt l 0))) (Eq.trans (b := ORes.ofP (guardV (decide (3 ≤ ((l.flatMap api_Field.c).drop ((0 : Int).toNat * 3)).length)) (.agg (((l.flatMap api_Field.c).drop ((0 : Int).toNat * 3)).take 3)))) (by kernel_rfl) (flat_load api_Field.len (inR_lt hg1) (by decide) (by omega : (0 : Int).toNat * 3 = (0 : Int).toNat * 3 + 0) (by kernel_rfl))) <| .mu 1 <| .ca cf0 <| .mu 2 <| .done <| .n2 18 [(1, .hp 0 0), (2, .hp 1 0), (3, .hp 2 0), (4, .hp 3 0), (5, .hp 4 0)] [.fix [slT api_Field.c l], .own [aI64 0, aI64 0, nS], .own [aI64 0, aI64 0, nS], .fix [.fn 81 [] [.hp 0 0]], .own (api_Field.c v2)] <| .seq ?_
 obtain ⟨v4, hc5, hr⟩ := bd hr
 refine .t1 fine (callOk_ref (args := [.agg (api_Field.c (gt l 0)), .fn 83 [] [.hp 3 0]]) (l := [0, 3]) (SnL.cons (Sn.pure rfl) (SnL.cons (Sn.fn SnL.nil (SnL.cons (Sn.hp rfl (.inr rfl) (SnC.cons (Sn.fn SnL.nil (SnL.cons (Sn.hp rfl (.inr rfl) (SnC.cons (Sn.pure rfl) SnC.nil)) SnL.nil)) SnC.nil)) SnL.nil)) SnL.nil)) (fiduciallaw46_Made_of_fiduciallaw46_fused_3_of_fiduciallaw46_fused_1_ok n (gt l 0) l v4 hc5)) <| .mu 1 <| .pure (v := .pp (l.flatMap api_Field.c) ((0 : Int).toNat * 3)) (by kernel_rfl) (Eq.trans (b := ORes.ofP (guardV (inR 0 l.length) (.pp (l.flatMap api_Field.c) ((0 : Int).toNat * 3)))) (by kernel_rfl) (ofP_guard hg1)) (by kernel_rfl) <| .pure (v := .agg (api_Field.c (gt l 0))) (by kernel_rfl) (Eq.trans (b := ORes.ofP (guardV (decide (3 ≤ ((l.flatMap api_Field.c).drop ((0 : Int).toNat * 3)).length)) (.agg (((l.flatMap api_Field.c).drop ((0 : Int).toNat * 3)).take 3)))) (by kernel_rfl) (flat_load api_Field.len (inR_lt hg1) (by decide) (by omega : (0 : Int).toNat * 3 = (0 : Int).toNat * 3 + 0) (by kernel_rfl))) (by kernel_rfl) <| .mu 1 <| .ca cf0 <| .mu 3 ?_
 refine .done ⟨by kernel_rfl, ?_⟩
 refine .n2 18 [(2, .hp 1 0), (3, .hp 2 0)] [.fix [slT api_Field.c l], .own (api_Field.c v4), .own (api_Field.c v2), .fix [.fn 81 [] [.hp 0 0]], .own (api_Field.c v2)] <| .ret ?_
 obtain rfl := Option.some.inj hr
 exact FinQ.ret (vs := [.agg (api_Field.c v4), .agg (api_Field.c v2)]) (by kernel_rfl) (Sn.tup (SnL.cons (Sn.pure rfl) (SnL.cons (Sn.pure rfl) SnL.nil)))

theorem fiduciallaw46_DepthFuses_ok (n : Nat) (l : List api_Field) (r : Bool) (hr : fiduciallaw46_DepthFuses n l = some r) : FnOk Tryz.prog 8 [slT api_Field.c l] (aB r) := by
 unfold fiduciallaw46_DepthFuses at hr
 refine FnOk.bd fine Tryz.func8 [.tmp 2] ?_
 unfold Tryz.f8
 simp only [Option.getD_some]
 refine .seq <| .r3 fine 94 [(0, slT api_Field.c l)] <| .seq <| .seq ?_
 obtain ⟨v1, hc2, hr⟩ := bd hr
 refine .g1 fine (ok0 (fiduciallaw46_known_ok n v1 hc2)) <| .ca cf0 <| .mu 1 <| .done <| .n2 94 [(0, slT api_Field.c l), (14, aB (!v1))] [] ?_
 refine .cd hr (fun hb4 hr => ?_) (fun hb4 hr => ?_)
 ·refine .seq <| .ru fine <| .ret ?_
  obtain rfl := Option.some.inj hr
  exact FinQ.r1 [aB false]
 ·refine .skip <| .seq <| .seq ?_
  replace hr := bd hr; obtain ⟨o15, hL16, hr⟩ := hr
  refine .app2 (Q := fun x st' => match (generalizing := false) o15 with | .inl _ => x = .normal ∧ Wk 0 st' ⟨mkS 94 0 [(0, slT api_Field.c l)], []⟩ | .inr (r0) => x = .ret ∧ FinQ Tryz.prog [.tmp 2] (aB r0) .ret st') ?_ ?_
  ·clear hr
   have hr := hL16
   clear hL16
   rcases Bool.eq_false_or_eq_true (decide ((l.length : Int) > 6)) with hb5 | hb5
   ·replace hr := cd_t hb5 hr
    rcases Bool.eq_false_or_eq_true (decide ((l.length : Int) ≤ 16)) with hb6 | hb6
    ·replace hr := cd_t hb6 hr
     refine .r0 fine <| .mu 2 <| .p0 (v := aB true) (Eq.trans (b := some (.pure (aB (decide ((l.length : Int) > 6))))) (by kernel_rfl) (by rw [hb5])) <| .mu 3 <| .pure (v := aB true) (by kernel_rfl) (Eq.trans (b := some (.pure (aB (decide ((l.length : Int) ≤ 16))))) (by kernel_rfl) (by rw [hb6])) <| .mu 10 <| .done <| .n2 94 [(0, slT api_Field.c l), (31, aB true)] [] <| .cT (by kernel_rfl) <| .seq <| .ru fine <| .ret ?_
     obtain rfl := Option.some.inj hr
     exact ⟨rfl, FinQ.ret (vs := [aB true]) (by kernel_rfl) (Sn.pure rfl)⟩
    ·replace hr := cd_f hb6 hr
     rcases Bool.eq_false_or_eq_true (decide ((l.length : Int) > 20)) with hb7 | hb7
     ·replace hr := cd_t hb7 hr
      refine .r0 fine <| .mu 2 <| .p0 (v := aB true) (Eq.trans (b := some (.pure (aB (decide ((l.length : Int) > 6))))) (by kernel_rfl) (by rw [hb5])) <| .mu 3 <| .pure (v := aB false) (by kernel_rfl) (Eq.trans (b := some (.pure (aB (decide ((l.length : Int) ≤ 16))))) (by kernel_rfl) (by rw [hb6])) <| .mu 4 <| .pure (v := aB true) (by kernel_rfl) (Eq.trans (b := some (.pure (aB (decide ((l.length : Int) > 20))))) (by kernel_rfl) (by rw [hb7])) <| .mu 5 <| .done <| .n2 94 [(0, slT api_Field.c l), (31, aB true)] [] <| .cT (by kernel_rfl) <| .seq <| .ru fine <| .ret ?_
      obtain rfl := Option.some.inj hr
      exact ⟨rfl, FinQ.ret (vs := [aB true]) (by kernel_rfl) (Sn.pure rfl)⟩
     ·replace hr := cd_f hb7 hr
      obtain ⟨v8, hc9, hr⟩ := bd hr
      refine .g1 fine (ok0 (slices_ContainsFunc_fiducial_api_Field_fiducial_api_Field_of_fiduciallaw46_DepthFuses_1_ok n l v8 hc9)) <| .mu 2 <| .p0 (v := aB true) (Eq.trans (b := some (.pure (aB (decide ((l.length : Int) > 6))))) (by kernel_rfl) (by rw [hb5])) <| .mu 3 <| .pure (v := aB false) (by kernel_rfl) (Eq.trans (b := some (.pure (aB (decide ((l.length : Int) ≤ 16))))) (by kernel_rfl) (by rw [hb6])) <| .mu 4 <| .pure (v := aB false) (by kernel_rfl) (Eq.trans (b := some (.pure (aB (decide ((l.length : Int) > 20))))) (by kernel_rfl) (by rw [hb7])) <| .mu 3 <| .ca cf0 <| .mu 1 <| .done <| .n2 94 [(0, slT api_Field.c l), (31, aB v8)] [] ?_
      refine .cd hr (fun hb10 hr => ?_) (fun hb10 hr => ?_)
      ·refine .seq <| .ru fine <| .ret ?_
       obtain rfl := Option.some.inj hr
       exact ⟨rfl, FinQ.ret (vs := [aB true]) (by kernel_rfl) (Sn.pure rfl)⟩
      ·refine .skip ?_
       obtain rfl := Option.some.inj hr
       exact ⟨rfl, ((Wk.gc [0] [] rfl pK0).to (by kernel_rfl))⟩
   ·replace hr := cd_f hb5 hr
    rcases Bool.eq_false_or_eq_true (decide ((l.length : Int) > 20)) with hb11 | hb11
    ·replace hr := cd_t hb11 hr
     refine .r0 fine <| .mu 2 <| .p0 (v := aB false) (Eq.trans (b := some (.pure (aB (decide ((l.length : Int) > 6))))) (by kernel_rfl) (by rw [hb5])) <| .mu 8 <| .pure (v := aB true) (by kernel_rfl) (Eq.trans (b := some (.pure (aB (decide ((l.length : Int) > 20))))) (by kernel_rfl) (by rw [hb11])) <| .mu 5 <| .done <| .n2 94 [(0, slT api_Field.c l), (31, aB true)] [] <| .cT (by kernel_rfl) <| .seq <| .ru fine <| .ret ?_
     obtain rfl := Option.some.inj hr
     exact ⟨rfl, FinQ.ret (vs := [aB true]) (by kernel_rfl) (Sn.pure rfl)⟩
    ·replace hr := cd_f hb11 hr
     obtain ⟨v12, hc13, hr⟩ := bd hr
     refine .g1 fine (ok0 (slices_ContainsFunc_fiducial_api_Field_fiducial_api_Field_of_fiduciallaw46_DepthFuses_1_ok n l v12 hc13)) <| .mu 2 <| .p0 (v := aB false) (Eq.trans (b := some (.pure (aB (decide ((l.length : Int) > 6))))) (by kernel_rfl) (by rw [hb5])) <| .mu 8 <| .pure (v := aB false) (by kernel_rfl) (Eq.trans (b := some (.pure (aB (decide ((l.length : Int) > 20))))) (by kernel_rfl) (by rw [hb11])) <| .mu 3 <| .ca cf0 <| .mu 1 <| .done <| .n2 94 [(0, slT api_Field.c l), (31, aB v12)] [] ?_
     refine .cd hr (fun hb14 hr => ?_) (fun hb14 hr => ?_)
     ·refine .seq <| .ru fine <| .ret ?_
      obtain rfl := Option.some.inj hr
      exact ⟨rfl, FinQ.ret (vs := [aB true]) (by kernel_rfl) (Sn.pure rfl)⟩
     ·refine .skip ?_
      obtain rfl := Option.some.inj hr
      exact ⟨rfl, ((Wk.gc [0] [] rfl pK0).to (by kernel_rfl))⟩
  ·rcases o15 with ⟨⟩ | r0
   ·rintro x st' hq17
    clear hL16
    obtain ⟨rfl, hq17⟩ := hq17
    refine .wk hq17 <| .seq ?_
    obtain ⟨v18, hc19, hr⟩ := bd hr
    refine .g1 fine (ok0 (depth_Fuse_ok n l v18 hc19)) <| .mu 1 <| .ca cf0 <| .mu 9 <| .done <| .n2 94 [(0, slT api_Field.c l), (3, .hp 0 0), (4, .hp 1 0), (5, aI64 v18.2.2)] [.own (api_Field.c v18.1), .own (api_Field.c v18.2.1)] <| .seq ?_
    obtain ⟨v20, hc21, hr⟩ := bd hr
    refine .g1 fine (callOk_mutU (args := [slT api_Field.c l]) 0 1 [] [false] (slices_Clone_fiducial_api_Field_fiducial_api_Field_w_ok n l v20 hc21) trivial (by exact ⟨ids_flat api_Field.pure _, trivial⟩) rfl rfl (by kernel_rfl) (by kernel_rfl)) <| .mu 1 <| .ca cf0 <| .mu 1 <| .done <| .n2 94 [(0, slT api_Field.c l), (3, .hp 0 0), (4, .hp 1 0), (5, aI64 v18.2.2), (6, .hs 2 0 v20.length 3)] [.own (api_Field.c v18.1), .own (api_Field.c v18.2.1), .own (v20.flatMap api_Field.c)] <| .seq ?_
    obtain ⟨v22, hc23, hr⟩ := bd hr
    obtain ⟨hg24, hr⟩ := gd hr
    refine .g1 fine (callOk_mutU (args := [.hs 2 0 v20.length 3]) 1 0 [(2, false)] [false] (slices_Reverse_fiducial_api_Field_fiducial_api_Field_w_ok n v20 v22 hc23) (by exact ⟨ids_flat api_Field.pure _, trivial⟩) (by exact ⟨ids_flat api_Field.pure _, trivial⟩) rfl rfl (by kernel_rfl) (by kernel_rfl)) <| .mu 1 <| .ca cf0 <| .done <| .n2 94 [(0, slT api_Field.c l), (3, .hp 0 0), (4, .hp 1 0), (5, aI64 v18.2.2), (6, .hs 2 0 v20.length 3)] [.own (api_Field.c v18.1), .own (api_Field.c v18.2.1), .own (v22.flatMap api_Field.c)] <| .seq ?_
    obtain ⟨v25, hc26, hr⟩ := bd hr
    refine .g1 fine (callOk_ref (args := [.hs 2 0 v20.length 3]) (l := [2]) (SnL.cons (Sn.hse (of_decide_eq_true hg24) rfl (.inl rfl) (SnC.pure (ids_flat api_Field.pure _)) (fun h => flat_nil0 h)) SnL.nil) (depth_Fuse_ok n v22 v25 hc26)) <| .mu 1 <| .ca cf0 <| .mu 9 <| .done <| .n2 94 [(0, slT api_Field.c l), (3, .hp 0 0), (4, .hp 1 0), (5, aI64 v18.2.2), (7, .hp 3 0), (8, .hp 4 0), (9, aI64 v25.2.2)] [.own (api_Field.c v18.1), .own (api_Field.c v18.2.1), .fix (v22.flatMap api_Field.c), .own (api_Field.c v25.1), .own (api_Field.c v25.2.1)] <| .seq <| .seq ?_
    obtain ⟨v27, hc28, hr⟩ := bd hr
    refine .g1 fine (ok0 (fiduciallaw46_fields_ok n l v27 hc28)) <| .mu 1 <| .ca cf0 <| .mu 1 <| .done <| .n2 94 [(0, slT api_Field.c l), (3, .hp 0 0), (4, .hp 1 0), (5, aI64 v18.2.2), (7, .hp 3 0), (8, .hp 4 0), (9, aI64 v25.2.2), (10, aI64 v27)] [.own (api_Field.c v18.1), .own (api_Field.c v18.2.1), .fix (v22.flatMap api_Field.c), .own (api_Field.c v25.1), .own (api_Field.c v25.2.1)] <| .seq <| .r3 fine 94 [(0, slT api_Field.c l), (3, .hp 0 0), (4, .hp 1 0), (5, aI64 v18.2.2), (7, .hp 3 0), (8, .hp 4 0), (9, aI64 v25.2.2), (10, aI64 v27), (51, aB ((v27 : Int) != 0))] ?_
    refine .cd hr (fun hb36 hr => ?_) (fun hb36 hr => ?_)
    ·refine .seq ?_
     replace hr := bd hr; obtain ⟨x_37, hL45, hr⟩ := hr
     refine .app1 (Q := fun x st' => x = .normal ∧ Wk 0 st' ⟨mkS 94 0 [(2, aB x_37)], []⟩) ?_ ?_
     ·clear hr
      have hr := hL45
      clear hL45
      rcases Bool.eq_false_or_eq_true ((v18.2.2 : Int) == v27) with hb38 | hb38
      ·replace hr := cd_t hb38 hr
       obtain ⟨v39, hc40, hr⟩ := bd hr
       rcases Bool.eq_false_or_eq_true v39 with hb41 | hb41
       ·subst hb41
        replace hr := cd_t rfl hr
        obtain ⟨v42, hc43, hr⟩ := bd hr
        refine .gn fine (ca1 (ok0 (fiduciallaw46_empty_ok n v18.1 true hc40)) (ca3 (ok0 (fiduciallaw46_empty_ok n v18.2.1 v42 hc43)))) <| .mu 2 <| .p0 (v := aB true) (Eq.trans (b := some (.pure (aB ((v18.2.2 : Int) == v27)))) (by kernel_rfl) (by rw [hb38])) <| .mu 2 <| .ca cf0 <| .mu 3 <| .ca (cfA (fun h => by rw [sv hc43 hc40 (fiduciallaw46_empty_cg n h)]) cf0) <| .mu 2 <| .done ?_
        obtain rfl := Option.some.inj hr
        exact ⟨rfl, ((Wk.gc [2] [] rfl pK0).to (by kernel_rfl))⟩
       ·subst hb41
        replace hr := cd_f rfl hr
        refine .g1 fine (ok0 (fiduciallaw46_empty_ok n v18.1 false hc40)) <| .mu 2 <| .p0 (v := aB true) (Eq.trans (b := some (.pure (aB ((v18.2.2 : Int) == v27)))) (by kernel_rfl) (by rw [hb38])) <| .mu 2 <| .ca cf0 <| .mu 6 <| .done ?_
        obtain rfl := Option.some.inj hr
        exact ⟨rfl, ((Wk.gc [2] [] rfl pK0).to (by kernel_rfl))⟩
      ·replace hr := cd_f hb38 hr
       refine .r0 fine <| .mu 2 <| .p0 (v := aB false) (Eq.trans (b := some (.pure (aB ((v18.2.2 : Int) == v27)))) (by kernel_rfl) (by rw [hb38])) <| .mu 9 <| .done ?_
       obtain rfl := Option.some.inj hr
       exact ⟨rfl, ((Wk.gc [2] [] rfl pK0).to (by kernel_rfl))⟩
     ·rintro x st' hq46
      clear hL45
      obtain ⟨rfl, hq46⟩ := hq46
      refine .wk hq46 <| .ret ?_
      obtain rfl := Option.some.inj hr
      exact FinQ.r1 [aB x_37]
    ·refine .skip <| .seq ?_
     obtain ⟨v47, hc48, hr⟩ := bd hr
     refine .g1 fine (ok0 (fiduciallaw46_fused_ok n l v47 hc48)) <| .mu 1 <| .ca cf0 <| .mu 7 <| .done <| .n2 94 [(3, .hp 0 0), (4, .hp 1 0), (5, aI64 v18.2.2), (7, .hp 3 0), (8, .hp 4 0), (9, aI64 v25.2.2), (11, .hp 5 0), (12, .hp 6 0)] [.own (api_Field.c v18.1), .own (api_Field.c v18.2.1), .fix (v22.flatMap api_Field.c), .own (api_Field.c v25.1), .own (api_Field.c v25.2.1), .own (api_Field.c v47.1), .own (api_Field.c v47.2)] <| .seq ?_
     rcases Bool.eq_false_or_eq_true ((v18.2.2 : Int) == 0) with hb49 | hb49
     ·replace hr := cd_t hb49 hr
      rcases Bool.eq_false_or_eq_true ((v25.2.2 : Int) == 0) with hb50 | hb50
      ·replace hr := cd_t hb50 hr
       obtain ⟨v51, hc52, hr⟩ := bd hr
       rcases Bool.eq_false_or_eq_true v51 with hb53 | hb53
       ·subst hb53
        replace hr := cd_t rfl hr
        obtain ⟨v54, hc55, hr⟩ := bd hr
        rcases Bool.eq_false_or_eq_true v54 with hb56 | hb56
        ·subst hb56
         replace hr := cd_t rfl hr
         obtain ⟨v57, hc58, hr⟩ := bd hr
         rcases Bool.eq_false_or_eq_true v57 with hb59 | hb59
         ·subst hb59
          replace hr := cd_t rfl hr
          obtain ⟨v60, hc61, hr⟩ := bd hr
          refine .gn fine (ca1 (ok0 (fiduciallaw46_Same_ok n v18.1 v47.1 true hc52)) (ca1 (ok0 (fiduciallaw46_Same_ok n v18.2.1 v47.2 true hc55)) (ca1 (ok0 (fiduciallaw46_Same_ok n v18.1 v25.1 true hc58)) (ca3 (ok0 (fiduciallaw46_Same_ok n v18.2.1 v25.2.1 v60 hc61)))))) <| .mu 1 <| .p0 (v := aB true) (Eq.trans (b := some (.pure (aB ((v18.2.2 : Int) == 0)))) (by kernel_rfl) (by rw [hb49])) <| .mu 2 <| .pure (v := aB true) (by kernel_rfl) (Eq.trans (b := some (.pure (aB ((v25.2.2 : Int) == 0)))) (by kernel_rfl) (by rw [hb50])) <| .mu 4 <| .ca cf0 <| .mu 4 <| .ca (cfA (fun h => by rw [sv hc55 hc52 (fiduciallaw46_Same_cg n h)]) cf0) <| .mu 4 <| .ca (cfA (fun h => by rw [sv hc58 hc52 (fiduciallaw46_Same_cg n h)]) (cfA (fun h => by rw [sv hc58 hc55 (fiduciallaw46_Same_cg n h)]) cf0)) <| .mu 4 <| .ca (cfA (fun h => by rw [sv hc61 hc52 (fiduciallaw46_Same_cg n h)]) (cfA (fun h => by rw [sv hc61 hc55 (fiduciallaw46_Same_cg n h)]) (cfA (fun h => by rw [sv hc61 hc58 (fiduciallaw46_Same_cg n h)]) cf0))) <| .mu 2 <| .done <| .ret ?_
          obtain rfl := Option.some.inj hr
          exact FinQ.r1 [aB v60]
         ·subst hb59
          replace hr := cd_f rfl hr
          refine .gn fine (ca1 (ok0 (fiduciallaw46_Same_ok n v18.1 v47.1 true hc52)) (ca1 (ok0 (fiduciallaw46_Same_ok n v18.2.1 v47.2 true hc55)) (ca3 (ok0 (fiduciallaw46_Same_ok n v18.1 v25.1 false hc58))))) <| .mu 1 <| .p0 (v := aB true) (Eq.trans (b := some (.pure (aB ((v18.2.2 : Int) == 0)))) (by kernel_rfl) (by rw [hb49])) <| .mu 2 <| .pure (v := aB true) (by kernel_rfl) (Eq.trans (b := some (.pure (aB ((v25.2.2 : Int) == 0)))) (by kernel_rfl) (by rw [hb50])) <| .mu 4 <| .ca cf0 <| .mu 4 <| .ca (cfA (fun h => by rw [sv hc55 hc52 (fiduciallaw46_Same_cg n h)]) cf0) <| .mu 4 <| .ca (cfA (fun h => by rw [sv hc58 hc52 (fiduciallaw46_Same_cg n h)]) (cfA (fun h => by rw [sv hc58 hc55 (fiduciallaw46_Same_cg n h)]) cf0)) <| .mu 7 <| .done <| .ret ?_
          obtain rfl := Option.some.inj hr
          exact FinQ.r1 [aB false]
        ·subst hb56
         replace hr := cd_f rfl hr
         refine .gn fine (ca1 (ok0 (fiduciallaw46_Same_ok n v18.1 v47.1 true hc52)) (ca3 (ok0 (fiduciallaw46_Same_ok n v18.2.1 v47.2 false hc55)))) <| .mu 1 <| .p0 (v := aB true) (Eq.trans (b := some (.pure (aB ((v18.2.2 : Int) == 0)))) (by kernel_rfl) (by rw [hb49])) <| .mu 2 <| .pure (v := aB true) (by kernel_rfl) (Eq.trans (b := some (.pure (aB ((v25.2.2 : Int) == 0)))) (by kernel_rfl) (by rw [hb50])) <| .mu 4 <| .ca cf0 <| .mu 4 <| .ca (cfA (fun h => by rw [sv hc55 hc52 (fiduciallaw46_Same_cg n h)]) cf0) <| .mu 12 <| .done <| .ret ?_
         obtain rfl := Option.some.inj hr
         exact FinQ.r1 [aB false]
       ·subst hb53
        replace hr := cd_f rfl hr
        refine .g1 fine (ok0 (fiduciallaw46_Same_ok n v18.1 v47.1 false hc52)) <| .mu 1 <| .p0 (v := aB true) (Eq.trans (b := some (.pure (aB ((v18.2.2 : Int) == 0)))) (by kernel_rfl) (by rw [hb49])) <| .mu 2 <| .pure (v := aB true) (by kernel_rfl) (Eq.trans (b := some (.pure (aB ((v25.2.2 : Int) == 0)))) (by kernel_rfl) (by rw [hb50])) <| .mu 4 <| .ca cf0 <| .mu 17 <| .done <| .ret ?_
        obtain rfl := Option.some.inj hr
        exact FinQ.r1 [aB false]
      ·replace hr := cd_f hb50 hr
       refine .r0 fine <| .mu 1 <| .p0 (v := aB true) (Eq.trans (b := some (.pure (aB ((v18.2.2 : Int) == 0)))) (by kernel_rfl) (by rw [hb49])) <| .mu 2 <| .pure (v := aB false) (by kernel_rfl) (Eq.trans (b := some (.pure (aB ((v25.2.2 : Int) == 0)))) (by kernel_rfl) (by rw [hb50])) <| .mu 22 <| .done <| .ret ?_
       obtain rfl := Option.some.inj hr
       exact FinQ.r1 [aB false]
     ·replace hr := cd_f hb49 hr
      refine .r0 fine <| .mu 1 <| .p0 (v := aB false) (Eq.trans (b := some (.pure (aB ((v18.2.2 : Int) == 0)))) (by kernel_rfl) (by rw [hb49])) <| .mu 25 <| .done <| .ret ?_
      obtain rfl := Option.some.inj hr
      exact FinQ.r1 [aB false]
   ·rintro x st' hq17
    clear hL16
    obtain ⟨rfl, hq17⟩ := hq17
    obtain rfl := Option.some.inj hr
    exact CQ_ret _ hq17
end Go.L
