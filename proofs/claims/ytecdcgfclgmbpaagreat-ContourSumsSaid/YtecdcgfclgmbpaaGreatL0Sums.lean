import Derived.Test.YtecdcgfclgmbpaaGreatSc6Sums
import Derived.Test.YtecdcgfclgmbpaaGreatExtSums
import Derived.Test.YtecdcgfclgmbpaaGreatShortSums
import Derived.KernelRfl
set_option linter.all false
set_option linter.unusedVariables false
namespace Go.L
open Go Go.Eng Go.Proofs
theorem G : pI Tryz.prog := ⟨Go.Proofs.YtecdcgfclgmbpaaGreat.E3, by kernel_rfl⟩
theorem zV : ∀ g : List Int, Go.Proofs.YtecdcgfclgmbpaaGreat.AJ (g.flatMap (iC .u32)) = some g
 | [] => rfl
 | x :: g => by
  show (match Go.Proofs.YtecdcgfclgmbpaaGreat.AJ (g.flatMap (iC .u32)) with | some r => some (x :: r) | none => none) = some (x :: g)
  rw [zV g]
theorem ry {g : List Int} (h : decide (g.length <= 1099511627776) = true) : Go.Proofs.YtecdcgfclgmbpaaGreat.qV (slT (iC .u32) g) = some g := by
 unfold Go.Proofs.YtecdcgfclgmbpaaGreat.qV slT
 have h1 : decide ((g.flatMap (iC .u32)).length = g.length) = true := by rw [decide_eq_true_eq, mz (aF _)]; omega
 simp only [h1, h, Bool.and_self]
 exact zV g
theorem kI (n : Nat) (g : List Int) (r : Int × Bool) (hr : hZ n g = some r) : aL Tryz.prog 181 [slT (iC .u32) g] (.tup [.at (.int .u64 r.1), .at (.bool r.2)]) := by
 unfold hZ at hr
 obtain ⟨h, hr⟩ := gd hr
 refine aL.zG Go.Proofs.YtecdcgfclgmbpaaGreat.pL ?_
 unfold Go.Proofs.YtecdcgfclgmbpaaGreat.Ab
 simp only [ry h]
 cases hd : decide (g.length > 2) with
 | true => rw [hd] at hr; cases hr; rfl
 | false => rw [hd] at hr; cases hr; rfl
theorem zQ : ∀ a b : List Int, qq a b = Go.Proofs.YtecdcgfclgmbpaaGreat.qq a b
 | [], _ => by cases ‹List Int› <;> rfl
 | _ :: _, [] => rfl
 | x :: a, y :: b => by
  simp only [qq, Go.Proofs.YtecdcgfclgmbpaaGreat.qq, zQ a b]
  rfl
theorem kO (n : Nat) (a b : List Int) (r : Int) (hr : fT n a b = some r) : aL Tryz.prog 180 [slT (iC .u32) a, slT (iC .u32) b] (.at (.int .i64 r)) := by
 unfold fT at hr
 obtain ⟨h, hr⟩ := gd hr
 obtain ⟨h', hr⟩ := gd hr
 refine aL.zG Go.Proofs.YtecdcgfclgmbpaaGreat.me ?_
 unfold Go.Proofs.YtecdcgfclgmbpaaGreat.CA
 simp only [ry h, ry h']
 cases hd : decide (a.length = b.length) with
 | true => rw [hd] at hr; cases hr; simp only [cond_true, zQ]
 | false => rw [hd] at hr; cases hr; rfl
theorem l8 (n : Nat) (a : List Int) (d : Int) (r : List Int × Int) (hr : fz n a d = some r) : aL Tryz.prog 201 [slT (iC .u32) a, .at (.int .u32 d)] (.tup [slT (iC .u32) r.1, .at (.int .u32 r.2)]) := by
 unfold fz at hr
 obtain ⟨h, hr⟩ := gd hr
 obtain ⟨h1, hr⟩ := gd hr
 obtain ⟨h2, hr⟩ := gd hr
 refine aL.zG Go.Proofs.YtecdcgfclgmbpaaGreat.nI ?_
 unfold Go.Proofs.YtecdcgfclgmbpaaGreat.zz
 simp only [ry h, h1, h2, Bool.and_self]
 cases hr; rfl
end Go.L
