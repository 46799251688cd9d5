import Derived.Test.YtecdcgfclgmbpaaGreatSc6Plcs
import Derived.Test.YtecdcgfclgmbpaaGreatExtPlcs
import Derived.Test.YtecdcgfclgmbpaaGreatShortPlcs
import Derived.KernelRfl
set_option linter.all false
set_option linter.unusedVariables false
namespace Go.L
open Go Go.Eng Go.Proofs
theorem G : pk Tryz.prog := ⟨Go.Proofs.YtecdcgfclgmbpaaGreat.CJ, by kernel_rfl⟩
theorem yp : ∀ g : List Int, Go.Proofs.YtecdcgfclgmbpaaGreat.y9 (g.flatMap (iC .u32)) = some g
 | [] => rfl
 | x :: g => by
  show (match Go.Proofs.YtecdcgfclgmbpaaGreat.y9 (g.flatMap (iC .u32)) with | some r => some (x :: r) | none => none) = some (x :: g)
  rw [yp g]
theorem qq {g : List Int} (h : decide (g.length <= 1099511627776) = true) : Go.Proofs.YtecdcgfclgmbpaaGreat.pX (slT (iC .u32) g) = some g := by
 unfold Go.Proofs.YtecdcgfclgmbpaaGreat.pX slT
 have h1 : decide ((g.flatMap (iC .u32)).length = g.length) = true := by rw [decide_eq_true_eq, mc (aI _)]; omega
 simp only [h1, h, Bool.and_self]
 exact yp g
theorem kh (n : Nat) (g : List Int) (r : Int × Bool) (hr : ie n g = some r) : aN Tryz.prog 181 [slT (iC .u32) g] (.tup [.at (.int .u64 r.1), .at (.bool r.2)]) := by
 unfold ie at hr
 obtain ⟨h, hr⟩ := gd hr
 refine aN.x6 Go.Proofs.YtecdcgfclgmbpaaGreat.pn ?_
 unfold Go.Proofs.YtecdcgfclgmbpaaGreat.yu
 simp only [qq h]
 cases hd : decide (g.length > 2) with
 | true => rw [hd] at hr; cases hr; rfl
 | false => rw [hd] at hr; cases hr; rfl
theorem yl : ∀ a b : List Int, pF a b = Go.Proofs.YtecdcgfclgmbpaaGreat.pF a b
 | [], _ => by cases ‹List Int› <;> rfl
 | _ :: _, [] => rfl
 | x :: a, y :: b => by
  simp only [pF, Go.Proofs.YtecdcgfclgmbpaaGreat.pF, yl a b]
  rfl
theorem km (n : Nat) (a b : List Int) (r : Int) (hr : fX n a b = some r) : aN Tryz.prog 180 [slT (iC .u32) a, slT (iC .u32) b] (.at (.int .i64 r)) := by
 unfold fX at hr
 obtain ⟨h, hr⟩ := gd hr
 obtain ⟨h', hr⟩ := gd hr
 refine aN.x6 Go.Proofs.YtecdcgfclgmbpaaGreat.lD ?_
 unfold Go.Proofs.YtecdcgfclgmbpaaGreat.AD
 simp only [qq h, qq h']
 cases hd : decide (a.length = b.length) with
 | true => rw [hd] at hr; cases hr; simp only [cond_true, yl]
 | false => rw [hd] at hr; cases hr; rfl
theorem lM (n : Nat) (a : List Int) (d : Int) (r : List Int × Int) (hr : fD n a d = some r) : aN Tryz.prog 201 [slT (iC .u32) a, .at (.int .u32 d)] (.tup [slT (iC .u32) r.1, .at (.int .u32 r.2)]) := by
 unfold fD at hr
 obtain ⟨h, hr⟩ := gd hr
 obtain ⟨h1, hr⟩ := gd hr
 obtain ⟨h2, hr⟩ := gd hr
 refine aN.x6 Go.Proofs.YtecdcgfclgmbpaaGreat.mX ?_
 unfold Go.Proofs.YtecdcgfclgmbpaaGreat.xS
 simp only [qq h, h1, h2, Bool.and_self]
 cases hr; rfl
end Go.L
