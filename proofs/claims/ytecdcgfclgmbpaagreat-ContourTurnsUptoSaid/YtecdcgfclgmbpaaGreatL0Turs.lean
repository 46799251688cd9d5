import Derived.Test.YtecdcgfclgmbpaaGreatSc6Turs
import Derived.Test.YtecdcgfclgmbpaaGreatExtTurs
import Derived.Test.YtecdcgfclgmbpaaGreatShortTurs
import Derived.KernelRfl
set_option linter.all false
set_option linter.unusedVariables false
namespace Go.L
open Go Go.Eng Go.Proofs
theorem G : pt Tryz.prog := ⟨Go.Proofs.YtecdcgfclgmbpaaGreat.Er, by kernel_rfl⟩
theorem zG : ∀ g : List Int, Go.Proofs.YtecdcgfclgmbpaaGreat.Ap (g.flatMap (iC .u32)) = some g
 | [] => rfl
 | x :: g => by
  show (match Go.Proofs.YtecdcgfclgmbpaaGreat.Ap (g.flatMap (iC .u32)) with | some r => some (x :: r) | none => none) = some (x :: g)
  rw [zG g]
theorem qW {g : List Int} (h : decide (g.length <= 1099511627776) = true) : Go.Proofs.YtecdcgfclgmbpaaGreat.qp (slT (iC .u32) g) = some g := by
 unfold Go.Proofs.YtecdcgfclgmbpaaGreat.qp slT
 have h1 : decide ((g.flatMap (iC .u32)).length = g.length) = true := by rw [decide_eq_true_eq, l9 (aI _)]; omega
 simp only [h1, h, Bool.and_self]
 exact zG g
theorem kh (n : Nat) (g : List Int) (r : Int × Bool) (hr : hO n g = some r) : aM Tryz.prog 181 [slT (iC .u32) g] (.tup [.at (.int .u64 r.1), .at (.bool r.2)]) := by
 unfold hO at hr
 obtain ⟨h, hr⟩ := gd hr
 refine aM.yO Go.Proofs.YtecdcgfclgmbpaaGreat.pO ?_
 unfold Go.Proofs.YtecdcgfclgmbpaaGreat.zC
 simp only [qW h]
 cases hd : decide (g.length > 2) with
 | true => rw [hd] at hr; cases hr; rfl
 | false => rw [hd] at hr; cases hr; rfl
theorem zp : ∀ a b : List Int, p8 a b = Go.Proofs.YtecdcgfclgmbpaaGreat.p8 a b
 | [], _ => by cases ‹List Int› <;> rfl
 | _ :: _, [] => rfl
 | x :: a, y :: b => by
  simp only [p8, Go.Proofs.YtecdcgfclgmbpaaGreat.p8, zp a b]
  rfl
theorem kj (n : Nat) (a b : List Int) (r : Int) (hr : fN n a b = some r) : aM Tryz.prog 180 [slT (iC .u32) a, slT (iC .u32) b] (.at (.int .i64 r)) := by
 unfold fN at hr
 obtain ⟨h, hr⟩ := gd hr
 obtain ⟨h', hr⟩ := gd hr
 refine aM.yO Go.Proofs.YtecdcgfclgmbpaaGreat.lJ ?_
 unfold Go.Proofs.YtecdcgfclgmbpaaGreat.BZ
 simp only [qW h, qW h']
 cases hd : decide (a.length = b.length) with
 | true => rw [hd] at hr; cases hr; simp only [cond_true, zp]
 | false => rw [hd] at hr; cases hr; rfl
theorem lQ (n : Nat) (a : List Int) (d : Int) (r : List Int × Int) (hr : fr n a d = some r) : aM Tryz.prog 201 [slT (iC .u32) a, .at (.int .u32 d)] (.tup [slT (iC .u32) r.1, .at (.int .u32 r.2)]) := by
 unfold fr at hr
 obtain ⟨h, hr⟩ := gd hr
 obtain ⟨h1, hr⟩ := gd hr
 obtain ⟨h2, hr⟩ := gd hr
 refine aM.yO Go.Proofs.YtecdcgfclgmbpaaGreat.nA ?_
 unfold Go.Proofs.YtecdcgfclgmbpaaGreat.y8
 simp only [qW h, h1, h2, Bool.and_self]
 cases hr; rfl
end Go.L
