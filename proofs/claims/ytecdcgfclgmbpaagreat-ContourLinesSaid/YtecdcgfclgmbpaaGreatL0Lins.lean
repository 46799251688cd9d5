import Derived.Test.YtecdcgfclgmbpaaGreatSc6Lins
import Derived.Test.YtecdcgfclgmbpaaGreatExtLins
import Derived.Test.YtecdcgfclgmbpaaGreatShortLins
import Derived.KernelRfl
set_option linter.all false
set_option linter.unusedVariables false
namespace Go.L
open Go Go.Eng Go.Proofs
theorem G : pt Tryz.prog := ⟨Go.Proofs.YtecdcgfclgmbpaaGreat.Fq, by kernel_rfl⟩
theorem AM : ∀ g : List Int, Go.Proofs.YtecdcgfclgmbpaaGreat.Bi (g.flatMap (iC .u32)) = some g
 | [] => rfl
 | x :: g => by
  show (match Go.Proofs.YtecdcgfclgmbpaaGreat.Bi (g.flatMap (iC .u32)) with | some r => some (x :: r) | none => none) = some (x :: g)
  rw [AM g]
theorem q9 {g : List Int} (h : decide (g.length <= 1099511627776) = true) : Go.Proofs.YtecdcgfclgmbpaaGreat.qt (slT (iC .u32) g) = some g := by
 unfold Go.Proofs.YtecdcgfclgmbpaaGreat.qt slT
 have h1 : decide ((g.flatMap (iC .u32)).length = g.length) = true := by rw [decide_eq_true_eq, mc (aG _)]; omega
 simp only [h1, h, Bool.and_self]
 exact AM g
theorem j3 (n : Nat) (g : List Int) (r : Int × Bool) (hr : gQ n g = some r) : aO Tryz.prog 181 [slT (iC .u32) g] (.tup [.at (.int .u64 r.1), .at (.bool r.2)]) := by
 unfold gQ at hr
 obtain ⟨h, hr⟩ := gd hr
 refine aO.zY Go.Proofs.YtecdcgfclgmbpaaGreat.py ?_
 unfold Go.Proofs.YtecdcgfclgmbpaaGreat.AU
 simp only [q9 h]
 cases hd : decide (g.length > 2) with
 | true => rw [hd] at hr; cases hr; rfl
 | false => rw [hd] at hr; cases hr; rfl
theorem Av : ∀ a b : List Int, pX a b = Go.Proofs.YtecdcgfclgmbpaaGreat.pX a b
 | [], _ => by cases ‹List Int› <;> rfl
 | _ :: _, [] => rfl
 | x :: a, y :: b => by
  simp only [pX, Go.Proofs.YtecdcgfclgmbpaaGreat.pX, Av a b]
  rfl
theorem kg (n : Nat) (a b : List Int) (r : Int) (hr : fF n a b = some r) : aO Tryz.prog 180 [slT (iC .u32) a, slT (iC .u32) b] (.at (.int .i64 r)) := by
 unfold fF at hr
 obtain ⟨h, hr⟩ := gd hr
 obtain ⟨h', hr⟩ := gd hr
 refine aO.zY Go.Proofs.YtecdcgfclgmbpaaGreat.pj ?_
 unfold Go.Proofs.YtecdcgfclgmbpaaGreat.C8
 simp only [q9 h, q9 h']
 cases hd : decide (a.length = b.length) with
 | true => rw [hd] at hr; cases hr; simp only [cond_true, Av]
 | false => rw [hd] at hr; cases hr; rfl
theorem lC (n : Nat) (a : List Int) (d : Int) (r : List Int × Int) (hr : fk n a d = some r) : aO Tryz.prog 201 [slT (iC .u32) a, .at (.int .u32 d)] (.tup [slT (iC .u32) r.1, .at (.int .u32 r.2)]) := by
 unfold fk at hr
 obtain ⟨h, hr⟩ := gd hr
 obtain ⟨h1, hr⟩ := gd hr
 obtain ⟨h2, hr⟩ := gd hr
 refine aO.zY Go.Proofs.YtecdcgfclgmbpaaGreat.mX ?_
 unfold Go.Proofs.YtecdcgfclgmbpaaGreat.zw
 simp only [q9 h, h1, h2, Bool.and_self]
 cases hr; rfl
end Go.L
