import Derived.Test.YtecdcgfclgmbpaaGreatSc6Sids
import Derived.Test.YtecdcgfclgmbpaaGreatExtSids
import Derived.Test.YtecdcgfclgmbpaaGreatShortSids
import Derived.KernelRfl
set_option linter.all false
set_option linter.unusedVariables false
namespace Go.L
open Go Go.Eng Go.Proofs
theorem G : oV Tryz.prog := ⟨Go.Proofs.YtecdcgfclgmbpaaGreat.GA, by kernel_rfl⟩
theorem AO : ∀ g : List Int, Go.Proofs.YtecdcgfclgmbpaaGreat.BD (g.flatMap (iC .u32)) = some g
 | [] => rfl
 | x :: g => by
  show (match Go.Proofs.YtecdcgfclgmbpaaGreat.BD (g.flatMap (iC .u32)) with | some r => some (x :: r) | none => none) = some (x :: g)
  rw [AO g]
theorem qy {g : List Int} (h : decide (g.length <= 1099511627776) = true) : Go.Proofs.YtecdcgfclgmbpaaGreat.qg (slT (iC .u32) g) = some g := by
 unfold Go.Proofs.YtecdcgfclgmbpaaGreat.qg slT
 have h1 : decide ((g.flatMap (iC .u32)).length = g.length) = true := by rw [decide_eq_true_eq, ll (aG _)]; omega
 simp only [h1, h, Bool.and_self]
 exact AO g
theorem jy (n : Nat) (g : List Int) (r : Int × Bool) (hr : fV n g = some r) : aK Tryz.prog 181 [slT (iC .u32) g] (.tup [.at (.int .u64 r.1), .at (.bool r.2)]) := by
 unfold fV at hr
 obtain ⟨h, hr⟩ := gd hr
 refine aK.zi Go.Proofs.YtecdcgfclgmbpaaGreat.oE ?_
 unfold Go.Proofs.YtecdcgfclgmbpaaGreat.Aa
 simp only [qy h]
 cases hd : decide (g.length > 2) with
 | true => rw [hd] at hr; cases hr; rfl
 | false => rw [hd] at hr; cases hr; rfl
theorem Al : ∀ a b : List Int, pE a b = Go.Proofs.YtecdcgfclgmbpaaGreat.pE a b
 | [], _ => by cases ‹List Int› <;> rfl
 | _ :: _, [] => rfl
 | x :: a, y :: b => by
  simp only [pE, Go.Proofs.YtecdcgfclgmbpaaGreat.pE, Al a b]
  rfl
theorem jL (n : Nat) (a b : List Int) (r : Int) (hr : e8 n a b = some r) : aK Tryz.prog 180 [slT (iC .u32) a, slT (iC .u32) b] (.at (.int .i64 r)) := by
 unfold e8 at hr
 obtain ⟨h, hr⟩ := gd hr
 obtain ⟨h', hr⟩ := gd hr
 refine aK.zi Go.Proofs.YtecdcgfclgmbpaaGreat.kG ?_
 unfold Go.Proofs.YtecdcgfclgmbpaaGreat.D9
 simp only [qy h, qy h']
 cases hd : decide (a.length = b.length) with
 | true => rw [hd] at hr; cases hr; simp only [cond_true, Al]
 | false => rw [hd] at hr; cases hr; rfl
theorem kI (n : Nat) (a : List Int) (d : Int) (r : List Int × Int) (hr : eO n a d = some r) : aK Tryz.prog 201 [slT (iC .u32) a, .at (.int .u32 d)] (.tup [slT (iC .u32) r.1, .at (.int .u32 r.2)]) := by
 unfold eO at hr
 obtain ⟨h, hr⟩ := gd hr
 obtain ⟨h1, hr⟩ := gd hr
 obtain ⟨h2, hr⟩ := gd hr
 refine aK.zi Go.Proofs.YtecdcgfclgmbpaaGreat.sf ?_
 unfold Go.Proofs.YtecdcgfclgmbpaaGreat.zL
 simp only [qy h, h1, h2, Bool.and_self]
 cases hr; rfl
end Go.L
