import Derived.Test.YtkhmlbchphhokaaGreatFliL46Fill
set_option linter.all false
namespace Go.L
open Go Go.Eng
def flp (w h j : Nat) : Nat := (h - 1 - j / w) * w + j % w
def flipL (f : api_Field) : List Int := (List.range f.V.length).map fun j => f.V.getD (flp (wN f) f.Height.toNat j) default
theorem flp_lt {w h j : Nat} (hw : 0 < w) (hj : j < w * h) : flp w h j < w * h := by
 have hd : j / w < h := Nat.div_lt_of_lt_mul hj
 have hm := Nat.mod_lt j hw
 unfold flp
 generalize j / w = A at *
 generalize j % w = B at *
 have : (h - 1 - A + 1) * w ≤ h * w := Nat.mul_le_mul_right w (by omega)
 rw [Nat.succ_mul, Nat.mul_comm h w] at this
 omega
theorem flp_mod {w h j : Nat} (hw : 0 < w) : flp w h j % w = j % w := by
 unfold flp; exact place_mod (Nat.mod_lt j hw)
theorem flp_div {w h j : Nat} (hw : 0 < w) : flp w h j / w = h - 1 - j / w := by
 unfold flp; exact place_div (Nat.mod_lt j hw)
theorem flp_flp {w h j : Nat} (hw : 0 < w) (hj : j < w * h) : flp w h (flp w h j) = j := by
 have hd : j / w < h := Nat.div_lt_of_lt_mul hj
 have e := Nat.div_add_mod j w
 show (h - 1 - flp w h j / w) * w + flp w h j % w = j
 rw [flp_mod hw, flp_div hw, show h - 1 - (h - 1 - j / w) = j / w by generalize j / w = A at *; omega, Nat.mul_comm]
 exact e
theorem flipped_v {n : Nat} (hn : 200 < n) {f : api_Field} (hf : OkF f) : fiduciallaw46_Flipped n f = some (api_Field.mk f.Width f.Height (flipL f)) := by
 have hw := wN_eq hf
 have hH : ((f.Height.toNat : Nat) : Int) = f.Height := by have := hf.h; omega
 have hw64 := hf.w; have hh64 := hf.h
 unfold fiduciallaw46_Flipped
 have : fiduciallaw46_Made_of_fiduciallaw46_Flipped_1 n f f.Width f.Height f.V = some (api_Field.mk f.Width f.Height ((List.range (wN f * f.Height.toNat)).map fun j => f.V.getD (flp (wN f) f.Height.toNat j) default)) :=
  loop_made (n := n) (f := fun x y => fiduciallaw46_Flipped_1 n x y f.Width f.Height f.V) (g := fun j => f.V.getD (flp (wN f) f.Height.toNat j) default) (wN f) f.Height.toNat hw hH (by omega) (by omega) (by omega) (fun x y hx hy => by
   show fiduciallaw46_Flipped_1 n x y f.Width f.Height f.V = some (f.V.getD (flp (wN f) f.Height.toNat (y * wN f + x)) default)
   unfold fiduciallaw46_Flipped_1 flp
   rw [place_div hx, place_mod hx]
   have ey : wrapF .i64 ((wrapF .i64 (f.Height - 1)) - (y : Int)) = ((f.Height.toNat - 1 - y : Nat) : Int) := by
    rw [wrap64_in (n := f.Height - 1) (by omega) (by omega), wrap64_in (by omega) (by omega)]; omega
   rw [ey, show api_Field.mk f.Width f.Height f.V = f from rfl, at_v hf hx (by omega)]; rfl)
 rw [this, ← rows hf]; rfl
theorem flip_good {f : api_Field} (hf : OkF f) : OkF (api_Field.mk f.Width f.Height (flipL f)) := by
 refine ⟨hf.w, hf.h, by simp [flipL]; exact hf.len, fun j hj => ?_⟩
 have hj' : j < f.V.length := by simpa [flipL] using hj
 show -1 ≤ (flipL f).getD j default ∧ (flipL f).getD j default ≤ 1048576
 unfold flipL
 rw [map_at hj']
 exact hf.v _ (by rw [rows hf] at hj' ⊢; exact flp_lt (wN_pos hf) hj')
theorem bst_congr {p q : Nat → Bool} : ∀ {m : Nat}, (∀ d, d < m → p d = q d) → bst p m = bst q m
 | 0, _ => rfl
 | m + 1, h => by
  have ih := bst_congr (m := m) (fun d hd => h d (by omega))
  simp only [bst, ih, h m (by omega)]
theorem flp_add {w h j d : Nat} (hw : 0 < w) (hd : j % w + d < w) : flp w h (j + d) = flp w h j + d := by
 have e : (j + d) / w = j / w := by
  have e0 := Nat.div_add_mod j w
  have : j + d = j % w + d + w * (j / w) := by omega
  rw [this, Nat.add_mul_div_left _ _ hw, Nat.div_eq_of_lt hd, Nat.zero_add]
 unfold flp
 rw [e, mod_add hd]; omega
theorem turn_flip {f : api_Field} (hf : OkF f) {j : Nat} (hj : j < f.V.length) : tEnd (api_Field.mk f.Width f.Height (flipL f)) j = tEnd f (flp (wN f) f.Height.toNat j) := by
 have hw := wN_pos hf
 have hr := rows hf
 show bst (tP (api_Field.mk f.Width f.Height (flipL f)) j) (wN f - j % wN f) = bst (tP f (flp (wN f) f.Height.toNat j)) (wN f - flp (wN f) f.Height.toNat j % wN f)
 rw [flp_mod hw]
 refine bst_congr fun d hd => ?_
 have he := row_end hf hj
 have hjd : j + d < f.V.length := by omega
 show ((flipL f).getD (j + d) default == (d : Int)) = (f.V.getD (flp (wN f) f.Height.toNat j + d) default == (d : Int))
 unfold flipL
 rw [map_at hjd, flp_add hw (by omega)]
theorem fR_congr {r r' : Nat → Int} {w u : Nat} {L : Int} (h : ∀ t, t < w → r t = r' t) (hu : u < w) : fR r w L u = fR r' w L u := by
 have hl := lst_spec r' u
 have hx := nxt_spec r' hu
 have e1 : lst r u = lst r' u := lst_eq hl.1.1 hl.1.2 (fun t p q => by rw [h t (by omega)]; exact hl.2.1 t p q) (fun h0 => by rw [h _ (by omega)]; exact hl.2.2 h0)
 have e2 : nxt r w u = nxt r' w u := nxt_eq hu hx.1.1 hx.1.2 (fun t p q => by rw [h t (by omega)]; exact hx.2.1 t p q) (fun h0 => by rw [h _ h0]; exact hx.2.2 h0)
 unfold fR
 rw [h u hu, e1, e2]
 split
 · rfl
 · split
   · rfl
   · rw [h _ (by omega), h _ (by omega)]
theorem fill_flip {f : api_Field} (hf : OkF f) (L : Int) {j : Nat} (hj : j < f.V.length) :
  fS (api_Field.mk f.Width f.Height (flipL f)) L (j / wN f) (j % wN f) = fS f L (flp (wN f) f.Height.toNat j / wN f) (flp (wN f) f.Height.toNat j % wN f) := by
 have hw := wN_pos hf
 have hr := rows hf
 rw [flp_mod hw, flp_div hw]
 have hm := Nat.mod_lt j hw
 have hd : j / wN f < f.Height.toNat := Nat.div_lt_of_lt_mul (by rw [← hr]; exact hj)
 show fR (rowF (api_Field.mk f.Width f.Height (flipL f)) (j / wN f)) (wN f) L (j % wN f) = fR (rowF f (f.Height.toNat - 1 - j / wN f)) (wN f) L (j % wN f)
 refine fR_congr (fun t ht => ?_) hm
 show (flipL f).getD (j / wN f * wN f + t) default = f.V.getD ((f.Height.toNat - 1 - j / wN f) * wN f + t) default
 unfold flipL
 rw [map_at (place hf ht hd)]
 unfold flp
 rw [place_div ht, place_mod ht]
theorem flp_sub {w h j d : Nat} (hw : 0 < w) (hd : d ≤ j % w) : flp w h (j - d) = flp w h j - d := by
 have hj : j % w ≤ j := Nat.mod_le j w
 have hm := Nat.mod_lt j hw
 have e := flp_add (h := h) (j := j - d) (d := d) hw (by rw [mod_sub hd hw]; omega)
 rw [Nat.sub_add_cancel (by omega)] at e
 omega
theorem con_flip {l r : api_Field} (hl : OkF l) (hr : OkF r) (hW : l.Width = r.Width) (hH : l.Height = r.Height) {most : Int} {j : Nat} (hj : j < l.V.length) :
  conV (api_Field.mk l.Width l.Height (flipL l)) (api_Field.mk r.Width r.Height (flipL r)) most j = conV l r most (flp (wN l) l.Height.toNat j) := by
 have hw := wN_pos hl
 have hrl := rows hl
 have hrr := rows hr
 have ew : wN r = wN l := by unfold wN; rw [hW]
 have hlen : r.V.length = l.V.length := by rw [hrl, hrr, ew, hH]
 have e1 : (flipL l).getD j default = l.V.getD (flp (wN l) l.Height.toNat j) default := by unfold flipL; rw [map_at hj]
 unfold conV
 show (if (flipL l).getD j default < 0 ∨ (flipL l).getD j default > ((j % wN l : Nat) : Int) then (-1 : Int) else
  if (flipL r).getD (j - ((flipL l).getD j default).toNat) default ≥ 0 ∧ mx ((flipL l).getD j default - (flipL r).getD (j - ((flipL l).getD j default).toNat) default) ((flipL r).getD (j - ((flipL l).getD j default).toNat) default - (flipL l).getD j default) ≤ most then (flipL l).getD j default else -1) = _
 rw [e1, flp_mod hw]
 by_cases hc : l.V.getD (flp (wN l) l.Height.toNat j) default < 0 ∨ l.V.getD (flp (wN l) l.Height.toNat j) default > ((j % wN l : Nat) : Int)
 · rw [if_pos hc, if_pos hc]
 · rw [if_neg hc, if_neg hc]
   have e2 : (flipL r).getD (j - (l.V.getD (flp (wN l) l.Height.toNat j) default).toNat) default = r.V.getD (flp (wN l) l.Height.toNat j - (l.V.getD (flp (wN l) l.Height.toNat j) default).toNat) default := by
    unfold flipL
    rw [map_at (by omega), ew, ← hH, flp_sub hw (by omega)]
   rw [e2]
end Go.L

