import Derived.Test.YtndahnebnggdmaaGreatSc6obedklpc
import Derived.Test.YtndahnebnggdmaaGreatExtnpdadgii
import Derived.Test.YtndahnebnggdmaaGreatShortjdlcjgap
import Derived.KernelRfl
set_option linter.all false
set_option linter.unusedVariables false
namespace Go.L
open Go Go.Eng Go.Proofs
theorem G : Fine Tryz.prog := ⟨Go.Proofs.YtndahnebnggdmaaGreat.noNG, by kernel_rfl⟩
theorem u32s_at : ∀ g : List Int, Go.Proofs.YtndahnebnggdmaaGreat.u32s (g.flatMap (iC .u32)) = some g
 | [] => rfl
 | x :: g => by
  show (match Go.Proofs.YtndahnebnggdmaaGreat.u32s (g.flatMap (iC .u32)) with | some r => some (x :: r) | none => none) = some (x :: g)
  rw [u32s_at g]
theorem slInts_at {g : List Int} (h : decide (g.length ≤ 1099511627776) = true) : Go.Proofs.YtndahnebnggdmaaGreat.slInts (slT (iC .u32) g) = some g := by
 unfold Go.Proofs.YtndahnebnggdmaaGreat.slInts slT
 have h1 : decide ((g.flatMap (iC .u32)).length = g.length) = true := by rw [decide_eq_true_eq, flat_len (iC_len _)]; omega
 simp only [h1, h, Bool.and_self]
 exact u32s_at g
theorem integer_word_ok (n : Nat) (g : List Int) (r : Int × Bool) (hr : integer_word n g = some r) : FnOk Tryz.prog 122 [slT (iC .u32) g] (.tup [.at (.int .u64 r.1), .at (.bool r.2)]) := by
 unfold integer_word at hr
 obtain ⟨h, hr⟩ := gd hr
 refine FnOk.of_ext Go.Proofs.YtndahnebnggdmaaGreat.word_ok ?_
 unfold Go.Proofs.YtndahnebnggdmaaGreat.wordX
 simp only [slInts_at h]
 cases hd : decide (g.length > 2) with
 | true => rw [hd] at hr; cases hr; rfl
 | false => rw [hd] at hr; cases hr; rfl
theorem cmpE_eq : ∀ a b : List Int, cmpE a b = Go.Proofs.YtndahnebnggdmaaGreat.cmpE a b
 | [], _ => by cases ‹List Int› <;> rfl
 | _ :: _, [] => rfl
 | x :: a, y :: b => by
  simp only [cmpE, Go.Proofs.YtndahnebnggdmaaGreat.cmpE, cmpE_eq a b]
  rfl
theorem integer_compare_ok (n : Nat) (a b : List Int) (r : Int) (hr : integer_compare n a b = some r) : FnOk Tryz.prog 129 [slT (iC .u32) a, slT (iC .u32) b] (.at (.int .i64 r)) := by
 unfold integer_compare at hr
 obtain ⟨h, hr⟩ := gd hr
 obtain ⟨h', hr⟩ := gd hr
 refine FnOk.of_ext Go.Proofs.YtndahnebnggdmaaGreat.compare_ok ?_
 unfold Go.Proofs.YtndahnebnggdmaaGreat.cmpX
 simp only [slInts_at h, slInts_at h']
 cases hd : decide (a.length = b.length) with
 | true => rw [hd] at hr; cases hr; simp only [cond_true, cmpE_eq]
 | false => rw [hd] at hr; cases hr; rfl
theorem integer_short_ok (n : Nat) (a : List Int) (d : Int) (r : List Int × Int) (hr : integer_short n a d = some r) : FnOk Tryz.prog 130 [slT (iC .u32) a, .at (.int .u32 d)] (.tup [slT (iC .u32) r.1, .at (.int .u32 r.2)]) := by
 unfold integer_short at hr
 obtain ⟨h, hr⟩ := gd hr
 obtain ⟨h1, hr⟩ := gd hr
 obtain ⟨h2, hr⟩ := gd hr
 refine FnOk.of_ext Go.Proofs.YtndahnebnggdmaaGreat.short_ok ?_
 unfold Go.Proofs.YtndahnebnggdmaaGreat.shortX
 simp only [slInts_at h, h1, h2, Bool.and_self]
 cases hr; rfl
end Go.L
