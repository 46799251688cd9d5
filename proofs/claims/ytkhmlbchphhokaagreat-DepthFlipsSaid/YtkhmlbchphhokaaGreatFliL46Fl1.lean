import Derived.Test.YtkhmlbchphhokaaGreatFliL46Fl0
import Derived.Test.YtkhmlbchphhokaaGreatFliL46q
set_option linter.all false
namespace Go.L
open Go Go.Eng
theorem flp_tx {w h u v x : Nat} (hw : 0 < w) (hu : u < w * h) (hv : v < w * h) (hx : x < 4) (h4 : Tx w x u v) : ∃ y, y < 4 ∧ Tx w y (flp w h u) (flp w h v) := by
 have mod1 : ∀ {a : Nat}, (a + 1) % w ≠ 0 → a % w + 1 < w := fun {a} h0 => by
  have hm := Nat.mod_lt a hw
  apply Classical.byContradiction
  intro hc
  refine h0 ?_
  have : a + 1 = w * (a / w + 1) := by have := Nat.div_add_mod a w; rw [Nat.mul_add]; omega
  rw [this, Nat.mul_mod_right]
 have vert : ∀ {a : Nat}, a + w < w * h → flp w h a = flp w h (a + w) + w := fun {a} ha => by
  unfold flp
  rw [Nat.add_div_right _ hw, Nat.add_mod_right]
  have : a / w + 1 < h := by
   have := Nat.div_lt_of_lt_mul ha
   rwa [Nat.add_div_right _ hw] at this
  generalize a / w = A at *
  obtain ⟨B, hB⟩ : ∃ B, h - 1 - A = B + 1 := ⟨h - 1 - (A + 1), by omega⟩
  rw [show h - 1 - A.succ = B by omega, hB, Nat.succ_mul]; omega
 rcases (show x = 0 ∨ x = 1 ∨ x = 2 ∨ x = 3 by omega) with rfl | rfl | rfl | rfl
 · obtain ⟨e, e0⟩ := h4
   subst e
   refine ⟨0, by omega, flp_add hw (mod1 e0), ?_⟩
   rw [flp_mod hw]; exact e0
 · obtain ⟨e, e0⟩ := h4
   subst e
   refine ⟨1, by omega, flp_add hw (mod1 e0), ?_⟩
   rw [flp_mod hw]; exact e0
 · have e : u = v + w := h4
   subst e
   exact ⟨3, by omega, vert hu⟩
 · have e : v = u + w := h4
   subst e
   exact ⟨2, by omega, vert hv⟩
theorem flp_rc {V V' : Nat → Int} {step : Int} {w h : Nat} (hw : 0 < w) (hV : ∀ j, j < w * h → V' j = V (flp w h j)) {u v : Nat} (hr : Rc (Es V' step w (w * h)) u v) : Rc (Es V step w (w * h)) (flp w h u) (flp w h v) := by
 induction hr with
 | refl => exact .refl _
 | @step b c hb e ih =>
  obtain ⟨h1, h2, h3, x, hx, h4⟩ := e
  refine .step ih ⟨flp_lt hw h1, flp_lt hw h2, ?_, flp_tx hw h1 h2 hx h4⟩
  unfold nr at h3 ⊢
  rw [hV b h1, hV c h2] at h3
  exact h3
theorem flp_cnt {V V' : Nat → Int} {step : Int} {w h : Nat} (hw : 0 < w) (hV : ∀ j, j < w * h → V' j = V (flp w h j)) {u : Nat} (hu : u < w * h) : cnt (Es V' step w (w * h)) (w * h) u = cnt (Es V step w (w * h)) (w * h) (flp w h u) := by
 have hV' : ∀ j, j < w * h → V j = V' (flp w h j) := fun j hj => by rw [hV _ (flp_lt hw hj), flp_flp hw hj]
 have key := cnt_of (E := Es V step w (w * h)) (m := w * h) (t := flp w h u) (rs := (cellsN (Es V' step w (w * h)) (w * h) u).map (flp w h)) ?_ ?_
 · rw [← key, List.length_map]; rfl
 · refine List.Pairwise.map _ (fun a b (hab : a ≠ b ∧ a < w * h ∧ b < w * h) he => hab.1 ?_) (R := fun a b => a ≠ b ∧ a < w * h ∧ b < w * h) ?_
   · rw [← flp_flp hw hab.2.1, ← flp_flp hw hab.2.2, he]
   · refine List.Pairwise.imp_of_mem (fun {a b} ha hb hab => ⟨hab, (mem_cellsN.1 ha).1, (mem_cellsN.1 hb).1⟩) (R := fun a b => a ≠ b) ?_
     exact List.nodup_range.filter _
 · intro x
   rw [List.mem_map]
   constructor
   · rintro ⟨y, hy, rfl⟩
     have := mem_cellsN.1 hy
     exact ⟨flp_lt hw this.1, flp_rc hw hV this.2⟩
   · rintro ⟨h1, h2⟩
     refine ⟨flp w h x, mem_cellsN.2 ⟨flp_lt hw h1, ?_⟩, flp_flp hw h1⟩
     have := flp_rc hw hV' h2
     rwa [flp_flp hw hu] at this
theorem spk_flip {f : api_Field} (hf : OkF f) (step least : Int) {j : Nat} (hj : j < f.V.length) :
  spk (vF (api_Field.mk f.Width f.Height (flipL f))) step least (wN f) f.V.length j = spk (vF f) step least (wN f) f.V.length (flp (wN f) f.Height.toNat j) := by
 have hw := wN_pos hf
 have hr := rows hf
 have hV : ∀ k, k < wN f * f.Height.toNat → vF (api_Field.mk f.Width f.Height (flipL f)) k = vF f (flp (wN f) f.Height.toNat k) := fun k hk => by
  show (flipL f).getD k default = f.V.getD _ default
  unfold flipL; rw [map_at (by rw [hr]; exact hk)]
 rw [hr] at hj ⊢
 unfold spk
 rw [hV j hj, flp_cnt hw hV hj]
end Go.L

