import Derived.Test.YtecdcgfclgmbpaaGreatSc6Apas
import Derived.Test.YtecdcgfclgmbpaaGreatExtApas
import Derived.Test.YtecdcgfclgmbpaaGreatShortApas
import Derived.KernelRfl
set_option linter.all false
set_option linter.unusedVariables false
namespace Go.L
open Go Go.Eng Go.Proofs
theorem G : oV Tryz.prog := ⟨Go.Proofs.YtecdcgfclgmbpaaGreat.H5, by kernel_rfl⟩
theorem B6 : ∀ g : List Int, Go.Proofs.YtecdcgfclgmbpaaGreat.C1 (g.flatMap (iC .u32)) = some g
 | [] => rfl
 | x :: g => by
  show (match Go.Proofs.YtecdcgfclgmbpaaGreat.C1 (g.flatMap (iC .u32)) with | some r => some (x :: r) | none => none) = some (x :: g)
  rw [B6 g]
theorem qO {g : List Int} (h : decide (g.length <= 1099511627776) = true) : Go.Proofs.YtecdcgfclgmbpaaGreat.qs (slT (iC .u32) g) = some g := by
 unfold Go.Proofs.YtecdcgfclgmbpaaGreat.qs slT
 have h1 : decide ((g.flatMap (iC .u32)).length = g.length) = true := by rw [decide_eq_true_eq, lQ (aK _)]; omega
 simp only [h1, h, Bool.and_self]
 exact B6 g
theorem jA (n : Nat) (g : List Int) (r : Int × Bool) (hr : gi n g = some r) : aN Tryz.prog 181 [slT (iC .u32) g] (.tup [.at (.int .u64 r.1), .at (.bool r.2)]) := by
 unfold gi at hr
 obtain ⟨h, hr⟩ := gd hr
 refine aN.AG Go.Proofs.YtecdcgfclgmbpaaGreat.oY ?_
 unfold Go.Proofs.YtecdcgfclgmbpaaGreat.BY
 simp only [qO h]
 cases hd : decide (g.length > 2) with
 | true => rw [hd] at hr; cases hr; rfl
 | false => rw [hd] at hr; cases hr; rfl
theorem BG : ∀ a b : List Int, pW a b = Go.Proofs.YtecdcgfclgmbpaaGreat.pW a b
 | [], _ => by cases ‹List Int› <;> rfl
 | _ :: _, [] => rfl
 | x :: a, y :: b => by
  simp only [pW, Go.Proofs.YtecdcgfclgmbpaaGreat.pW, BG a b]
  rfl
theorem jJ (n : Nat) (a b : List Int) (r : Int) (hr : fk n a b = some r) : aN Tryz.prog 180 [slT (iC .u32) a, slT (iC .u32) b] (.at (.int .i64 r)) := by
 unfold fk at hr
 obtain ⟨h, hr⟩ := gd hr
 obtain ⟨h', hr⟩ := gd hr
 refine aN.AG Go.Proofs.YtecdcgfclgmbpaaGreat.oS ?_
 unfold Go.Proofs.YtecdcgfclgmbpaaGreat.Ft
 simp only [qO h, qO h']
 cases hd : decide (a.length = b.length) with
 | true => rw [hd] at hr; cases hr; simp only [cond_true, BG]
 | false => rw [hd] at hr; cases hr; rfl
theorem kH (n : Nat) (a : List Int) (d : Int) (r : List Int × Int) (hr : eO n a d = some r) : aN Tryz.prog 201 [slT (iC .u32) a, .at (.int .u32 d)] (.tup [slT (iC .u32) r.1, .at (.int .u32 r.2)]) := by
 unfold eO at hr
 obtain ⟨h, hr⟩ := gd hr
 obtain ⟨h1, hr⟩ := gd hr
 obtain ⟨h2, hr⟩ := gd hr
 refine aN.AG Go.Proofs.YtecdcgfclgmbpaaGreat.mI ?_
 unfold Go.Proofs.YtecdcgfclgmbpaaGreat.Ao
 simp only [qO h, h1, h2, Bool.and_self]
 cases hr; rfl
end Go.L
