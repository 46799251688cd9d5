import Derived.Test.YtlmndpmjbgnmbaaGreatTurL46c
set_option linter.unusedVariables false
set_option linter.unusedSimpArgs false
namespace Go.L
open Go Go.Eng
theorem turned1_v {n : Nat} (hn : 100 < n) {f : api_Field} (hf : OkF f) {x y : Nat} (hx : x < wN f) (hy : y < f.Height.toNat) : fiduciallaw46_Turned_1 n x y f.Width f.Height f.V = some (tEnd f (y * wN f + x)) := by
  have hw := wN_eq hf
  have hw64 := hf.w
  apply Ok.eq
  unfold fiduciallaw46_Turned_1
  refine Ok.bd (R := fun b => b = tEnd f (y * wN f + x)) ?_ (fun b hb => ok_some.2 hb)
  refine ok_rangeR (len := wN f - x) (fun d (b : Int) => b = bst (tP f (y * wN f + x)) d) (by omega) (by omega) rfl ?_ ?_
  · rintro again d b hd rfl ih
    dsimp only
    rw [wrap64_in (n := (x : Int) + (d : Int)) (by omega) (by omega)]
    refine Ok.cd (fun _ => ?_) (fun h => by have := of_decide_eq_false h; omega)
    have e : (x : Int) + (d : Int) = ((x + d : Nat) : Int) := by omega
    rw [e]
    refine Ok.bde (at_v hf (x := x + d) (y := y) (by omega) hy) ?_
    have ep : tP f (y * wN f + x) d = ((f.V.getD (y * wN f + (x + d)) default : Int) == (d : Int)) := by unfold tP; rw [Nat.add_assoc]
    refine Ok.cd (fun h => ih _ ?_) (fun h => ih _ ?_)
    · rw [bst, ep, h]; rfl
    · rw [bst, ep, h]; rfl
  · rintro again b rfl
    dsimp only
    rw [wrap64_in (by omega) (by omega)]
    refine Ok.cd (fun h => by have := of_decide_eq_true h; omega) (fun _ => ok_some.2 ?_)
    unfold tEnd; rw [place_mod hx]
theorem turned_v {n : Nat} (hn : 100 < n) {f : api_Field} (hf : OkF f) : fiduciallaw46_Turned n f = some (api_Field.mk f.Width f.Height (turnL f)) := by
  have hw := wN_eq hf
  have hH : ((f.Height.toNat : Nat) : Int) = f.Height := by have := hf.h; omega
  have hw64 := hf.w; have hh64 := hf.h
  unfold fiduciallaw46_Turned
  have : fiduciallaw46_Made_of_fiduciallaw46_Turned_1 n f f.Width f.Height f.V = some (api_Field.mk f.Width f.Height ((List.range (wN f * f.Height.toNat)).map (tEnd f))) :=
    loop_made (n := n) (f := fun x y => fiduciallaw46_Turned_1 n x y f.Width f.Height f.V) (g := tEnd f) (wN f) f.Height.toNat hw hH (by omega) (by omega) (by omega) (fun x y hx hy => turned1_v hn hf hx hy)
  rw [this, ← rows hf]; rfl
theorem turns_v (f : api_Field) : fiduciallaw46_DepthTurns 5000 f = some true := by
  apply Ok.eq
  unfold fiduciallaw46_DepthTurns
  refine Ok.bde known46_v (Ok.cd (fun h => by cases h) (fun _ => Ok.bde (few_v (by omega)) (Ok.cd (fun _ => ok_some.2 rfl) (fun hfew => ?_))))
  have hfew : fewF f = true := by simpa using hfew
  have h80 := few_len hfew
  cases hv : okF f with
  | false =>
    refine Ok.bde (turn_fail (by omega) (by omega) hv) (Ok.bde (valid_v (by omega) (by omega)) ?_)
    rw [hv]
    exact ok_some.2 rfl
  | true =>
    have hf := okF_iff.1 hv
    refine Ok.bde (turn_ok (by omega) hf) (Ok.bde (valid_v (by omega) (by omega)) ?_)
    rw [hv]
    refine Ok.cd (fun h => by cases h) (fun _ => ?_)
    refine Ok.bde (b := true) ?_ (ok_some.2 rfl)
    unfold fiduciallaw46_is_of_fiduciallaw46_DepthTurns_1 fiduciallaw46_DepthTurns_1
    rw [show api_Field.mk f.Width f.Height f.V = f from rfl, turned_v (by omega) hf]
    show bdO (fiduciallaw46_Same 5000 _ _) _ = _
    rw [same_self (by simp [turnL]; omega) (by simp [turnL]; omega)]; rfl
end Go.L

