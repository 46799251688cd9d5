import Derived.Test.YtecdcgfclgmbpaaGreatSc6Mons
import Derived.Test.YtecdcgfclgmbpaaGreatExtMons
import Derived.Test.YtecdcgfclgmbpaaGreatShortMons
import Derived.KernelRfl
set_option linter.all false
set_option linter.unusedVariables false
namespace Go.L
open Go Go.Eng Go.Proofs
theorem G : pF Tryz.prog := ⟨Go.Proofs.YtecdcgfclgmbpaaGreat.E8, by kernel_rfl⟩
theorem Ab : ∀ g : List Int, Go.Proofs.YtecdcgfclgmbpaaGreat.AE (g.flatMap (iC .u32)) = some g
 | [] => rfl
 | x :: g => by
  show (match Go.Proofs.YtecdcgfclgmbpaaGreat.AE (g.flatMap (iC .u32)) with | some r => some (x :: r) | none => none) = some (x :: g)
  rw [Ab g]
theorem rB {g : List Int} (h : decide (g.length <= 1099511627776) = true) : Go.Proofs.YtecdcgfclgmbpaaGreat.rh (slT (iC .u32) g) = some g := by
 unfold Go.Proofs.YtecdcgfclgmbpaaGreat.rh slT
 have h1 : decide ((g.flatMap (iC .u32)).length = g.length) = true := by rw [decide_eq_true_eq, mO (aE _)]; omega
 simp only [h1, h, Bool.and_self]
 exact Ab g
theorem kK (n : Nat) (g : List Int) (r : Int × Bool) (hr : gW n g = some r) : aL Tryz.prog 181 [slT (iC .u32) g] (.tup [.at (.int .u64 r.1), .at (.bool r.2)]) := by
 unfold gW at hr
 obtain ⟨h, hr⟩ := gd hr
 refine aL.zz Go.Proofs.YtecdcgfclgmbpaaGreat.pV ?_
 unfold Go.Proofs.YtecdcgfclgmbpaaGreat.zS
 simp only [rB h]
 cases hd : decide (g.length > 2) with
 | true => rw [hd] at hr; cases hr; rfl
 | false => rw [hd] at hr; cases hr; rfl
theorem zO : ∀ a b : List Int, qi a b = Go.Proofs.YtecdcgfclgmbpaaGreat.qi a b
 | [], _ => by cases ‹List Int› <;> rfl
 | _ :: _, [] => rfl
 | x :: a, y :: b => by
  simp only [qi, Go.Proofs.YtecdcgfclgmbpaaGreat.qi, zO a b]
  rfl
theorem kQ (n : Nat) (a b : List Int) (r : Int) (hr : fP n a b = some r) : aL Tryz.prog 180 [slT (iC .u32) a, slT (iC .u32) b] (.at (.int .i64 r)) := by
 unfold fP at hr
 obtain ⟨h, hr⟩ := gd hr
 obtain ⟨h', hr⟩ := gd hr
 refine aL.zz Go.Proofs.YtecdcgfclgmbpaaGreat.mg ?_
 unfold Go.Proofs.YtecdcgfclgmbpaaGreat.CL
 simp only [rB h, rB h']
 cases hd : decide (a.length = b.length) with
 | true => rw [hd] at hr; cases hr; simp only [cond_true, zO]
 | false => rw [hd] at hr; cases hr; rfl
theorem l8 (n : Nat) (a : List Int) (d : Int) (r : List Int × Int) (hr : fr n a d = some r) : aL Tryz.prog 201 [slT (iC .u32) a, .at (.int .u32 d)] (.tup [slT (iC .u32) r.1, .at (.int .u32 r.2)]) := by
 unfold fr at hr
 obtain ⟨h, hr⟩ := gd hr
 obtain ⟨h1, hr⟩ := gd hr
 obtain ⟨h2, hr⟩ := gd hr
 refine aL.zz Go.Proofs.YtecdcgfclgmbpaaGreat.nP ?_
 unfold Go.Proofs.YtecdcgfclgmbpaaGreat.zb
 simp only [rB h, h1, h2, Bool.and_self]
 cases hr; rfl
end Go.L
