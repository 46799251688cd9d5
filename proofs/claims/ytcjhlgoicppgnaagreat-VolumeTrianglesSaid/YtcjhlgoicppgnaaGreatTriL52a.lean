import Derived.Test.YtcjhlgoicppgnaaGreatTriLD
import Derived.Test.YtcjhlgoicppgnaaGreatPl6ejbldbjg
import Derived.KernelRfl
set_option linter.all false
namespace Go.L
open Go Go.Eng
theorem known52_v : fiduciallaw52_known 5000 = some true := by kernel_rfl
open Classical in
def B2 {α : Type} (x y : Option α) (Q : α → Prop) : Prop := ∃ r, x = some r ∧ y = some r ∧ Q r
section
variable {α β : Type} {Q : α → Prop} {R : β → Prop} {x y : Option β} {f g : β → Option α}
theorem B2.bde {b : β} (hx : x = some b) (hy : y = some b) (k : B2 (f b) (g b) Q) : B2 (bdO x f) (bdO y g) Q := by subst hx hy; exact k
theorem B2.bd (h : B2 x y R) (k : ∀ b, R b → B2 (f b) (g b) Q) : B2 (bdO x f) (bdO y g) Q := by
 obtain ⟨b, h1, h2, h3⟩ := h; exact B2.bde h1 h2 (k b h3)
theorem B2.cd {b : Bool} {t t' e e' : Option α} (h : b = true → B2 t t' Q) (k : b = false → B2 e e' Q) : B2 (cdO b t e) (cdO b t' e') Q := by
 cases b
 · exact k rfl
 · exact h rfl
theorem B2.of {x : Option α} (h : Ok x Q) : B2 x x Q := by obtain ⟨r, h1, h2⟩ := h; exact ⟨r, h1, h1, h2⟩
end
end Go.L

