import Derived.Test.YtkhmlbchphhokaaGreatFliL46b
set_option linter.all false
namespace Go.L
open Go Go.Eng
theorem place {f : api_Field} (hf : OkF f) {x y : Nat} (hx : x < wN f) (hy : y < f.Height.toNat) : y * wN f + x < f.V.length := by
 rw [rows hf, Nat.mul_comm (wN f)]
 have := Nat.mul_le_mul_right (wN f) hy
 rw [Nat.succ_mul] at this
 omega
theorem place_mod {w x y : Nat} (hx : x < w) : (y * w + x) % w = x := by
 rw [Nat.add_comm, Nat.add_mul_mod_self_right, Nat.mod_eq_of_lt hx]
theorem at_v {n : Nat} {f : api_Field} (hf : OkF f) {x y : Nat} (hx : x < wN f) (hy : y < f.Height.toNat) : fiduciallaw46_At n f x y = some (f.V.getD (y * wN f + x) default) := by
 have hp := place hf hx hy
 have ha := area46 hf.w hf.h
 have hl := hf.len
 have hw := wN_eq hf
 unfold fiduciallaw46_At
 have e : (y : Int) * f.Width = ((y * wN f : Nat) : Int) := by rw [← hw]; exact (Int.natCast_mul _ _).symm
 rw [e, wrap64_in (n := ((y * wN f : Nat) : Int)) (by omega) (by omega), wrap64_in (by omega) (by omega)]
 have e2 : ((y * wN f : Nat) : Int) + (x : Int) = ((y * wN f + x : Nat) : Int) := by omega
 rw [e2, inR_nat, gt_nat]
 have : decide (y * wN f + x < f.V.length) = true := by simpa using hp
 rw [this]; rfl
theorem map_at {g : Nat → Int} {m k : Nat} (hk : k < m) : ((List.range m).map g).getD k default = g k := by simp [List.getD, hk]
theorem loop_made {n : Nat} {W H : Int} {f : Int → Int → Option Int} {g : Nat → Int} (w h : Nat) (hw : (w : Int) = W) (hH : (h : Int) = H) (hw1 : w ≤ 64) (hh1 : h ≤ 64) (hn : 64 < n)
  (hf : ∀ x y : Nat, x < w → y < h → f (x : Int) (y : Int) = some (g (y * w + x))) :
  bdO (loopO (α := List Int × Int) (β := List Int) n (fun again s => match s with | (out, y) => cdO (decide (y < H)) (bdO (loopO (α := List Int × Int) (β := List Int) n (fun again2 s2 => match s2 with | (out2, x) => cdO (decide (x < W)) (bdO (f x y) fun v => gdO (decide ((out2.length + 1) * 8 ≤ 140737488355328)) (gdO (decide (out2.length + 1 ≤ 4611686018427387904)) (again2 (out2 ++ [v], wrapF .i64 (x + 1))))) (some out2)) (out, 0)) fun out3 => again (out3, wrapF .i64 (y + 1))) (some out)) ([], 0)) (fun out => some (api_Field.mk W H out)) = some (api_Field.mk W H ((List.range (w * h)).map g)) := by
 apply Ok.eq
 have hwh : w * h ≤ 4096 := Nat.mul_le_mul hw1 hh1
 refine Ok.bd (R := fun o => o = (List.range (w * h)).map g) ?_ (fun o ho => ok_some.2 (by rw [ho]))
 refine ok_rangeR (len := h) (fun y (c : List Int) => c = (List.range (w * y)).map g) (by omega) (by omega) (by simp) ?_ ?_
 · rintro again y c hy rfl ih
   refine Ok.cd (fun _ => ?_) (fun hh => by have := of_decide_eq_false hh; omega)
   have hyh : w * (y + 1) ≤ w * h := Nat.mul_le_mul_left _ hy
   rw [Nat.mul_add, Nat.mul_one] at hyh
   refine Ok.bd (R := fun o => o = (List.range (w * (y + 1))).map g) ?_ (fun o ho => ih _ ho)
   refine ok_rangeR (len := w) (fun x (c : List Int) => c = (List.range (w * y + x)).map g) (by omega) (by omega) (by simp) ?_ ?_
   · rintro again2 x c hx rfl ih2
     refine Ok.cd (fun _ => ?_) (fun hh => by have := of_decide_eq_false hh; omega)
     refine Ok.bde (hf x y hx hy) (Ok.gd (by simp; omega) (Ok.gd (by simp; omega) ?_))
     refine ih2 _ ?_
     rw [show w * y + (x + 1) = w * y + x + 1 by omega, List.range_succ, List.map_append, Nat.mul_comm w y]; rfl
   · rintro again2 c rfl
     exact Ok.cd (fun hh => by have := of_decide_eq_true hh; omega) (fun _ => ok_some.2 (by rw [Nat.mul_add, Nat.mul_one]))
 · rintro again c rfl
   exact Ok.cd (fun hh => by have := of_decide_eq_true hh; omega) (fun _ => ok_some.2 rfl)
theorem equal_self {n : Nat} {s : List Int} (hn : s.length < n) (hl : s.length ≤ 9223372036854775806) : slices_Equal_int_int n s s = some true := by
 apply Ok.eq
 unfold slices_Equal_int_int
 refine Ok.cd (fun h => by simp at h) (fun _ => ?_)
 refine Ok.bd (R := fun o => match o with | .inl _ => True | .inr r => r = true) ?_ ?_
 · refine ok_range (len := s.length) (fun _ => True) hn hl trivial ?_ ?_
   · intro again k hk _ ih
     refine Ok.cd (fun _ => ?_) (fun h => by simp at h; omega)
     refine Ok.gd (by rw [inR_nat]; simpa using hk) (Ok.gd (by rw [inR_nat]; simpa using hk) ?_)
     exact Ok.cd (fun h => by simp at h) (fun _ => ih trivial)
   · intro again _
     exact Ok.cd (fun h => by simp at h) (fun _ => ok_some.2 trivial)
 · rintro (_ | r) h
   · exact ok_some.2 rfl
   · exact ok_some.2 h
theorem same_self {n : Nat} {f : api_Field} (hn : f.V.length < n) (hl : f.V.length ≤ 9223372036854775806) : fiduciallaw46_Same n f f = some true := by
 unfold fiduciallaw46_Same
 rw [equal_self hn hl]
 simp [cdO, bdO]
def zeroF : api_Field := api_Field.mk 0 0 []
end Go.L

