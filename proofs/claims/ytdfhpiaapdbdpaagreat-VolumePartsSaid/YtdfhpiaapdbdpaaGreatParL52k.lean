import Derived.Test.YtdfhpiaapdbdpaaGreatParL52h
set_option linter.all false
namespace Go.L
open Go Go.Eng
def lvlT (g : api_Grid) (w h : Nat) (z : Int) : Option (api_Rat × api_Rat) := totG 20000 g.Step (triF g w h) (fun k => volume_Level_1 20000 k g.X0 g.Y0 g.Step g.Width g.Height g.Z z)
theorem level_v {g : api_Grid} {w h : Nat} {z : Int} (hc : gcode g = 0) (hg : Gd g w h) (hz : farE z = false) : volume_Level 20000 g z = bdO (lvlT g w h z) fun v => some (v.1, v.2, 0) := by
 unfold volume_Level
 rw [tcheck_v (by omega), hc, tri_v (by omega) hg, vfar_v, hz]
 rfl
theorem gz_bd {g : api_Grid} (hc : gcode g = 0) {i : Int} (hi : inR i g.Z.length = true) : gt g.Z i = -2147483648 ∨ (-1048576 ≤ gt g.Z i ∧ gt g.Z i ≤ 1048576) := by
 obtain ⟨_, _, ha⟩ := gc_zero hc
 have hi2 := inR_iff.1 hi
 obtain ⟨k, rfl⟩ : ∃ k : Nat, i = (k : Int) := ⟨i.toNat, by omega⟩
 have hk : k < g.Z.length := by omega
 have hm : g.Z.getD k default ∈ g.Z := by simp only [List.getD, List.getElem?_eq_getElem hk, Option.getD_some]; exact List.getElem_mem hk
 have := List.any_eq_false.1 ha _ hm
 rw [gt_nat]
 generalize g.Z.getD k default = v at *
 unfold badZ farE at this
 simp at this
 by_cases hv : v = -2147483648
 · exact .inl hv
 · have := this hv; exact .inr (by omega)
theorem has_at {Z : List Int} {t : A3 Int} (h : hasZ Z t = true) : gt Z t.e0 ≠ -2147483648 ∧ gt Z t.e1 ≠ -2147483648 ∧ gt Z t.e2 ≠ -2147483648 := by
 unfold hasZ at h
 simp only [Bool.and_eq_true, bne_iff_ne] at h
 exact h
theorem triF_len {g : api_Grid} {w h : Nat} (hg : Gd g w h) (h36 : g.Z.length ≤ 36) : (triF g w h).length ≤ 50 := by
 have h1 := List.length_filter_le (hasZ g.Z) (triT g.Width (w - 1) (h - 1))
 rw [tri_len] at h1
 have hw := hg.w1; have hh := hg.h1; have hm := hg.m
 obtain ⟨a, rfl⟩ : ∃ a, w = a + 1 := ⟨w - 1, by omega⟩
 obtain ⟨b, rfl⟩ : ∃ b, h = b + 1 := ⟨h - 1, by omega⟩
 simp only [Nat.add_sub_cancel] at h1
 rw [Nat.mul_assoc] at h1
 have e : (a + 1) * (b + 1) = a * b + a + b + 1 := by rw [Nat.add_mul, Nat.mul_add]; omega
 have hab : 4 * (a * b) ≤ (a + b) * (a + b) := by
  have := Int.mul_nonneg (a := (0 : Int)) (b := 0) (by omega) (by omega)
  rcases Nat.le_total a b with k | k
  · obtain ⟨c, rfl⟩ := Nat.le.dest k
    have : (a + (a + c)) * (a + (a + c)) = 4 * (a * (a + c)) + c * c := by grind
    omega
  · obtain ⟨c, rfl⟩ := Nat.le.dest k
    have : (b + c + b) * (b + c + b) = 4 * ((b + c) * b) + c * c := by grind
    omega
 have hs : ¬ 11 ≤ a + b → a * b ≤ 25 := fun k => by
  have : (a + b) * (a + b) ≤ 10 * 10 := Nat.mul_le_mul (by omega) (by omega)
  omega
 unfold triF
 simp only [Nat.add_sub_cancel]
 by_cases k : 11 ≤ a + b
 · omega
 · have := hs k; omega
theorem far_bd {z : Int} : farE z = false ↔ -1048576 ≤ z ∧ z ≤ 1048576 := by
 unfold farE
 rw [Bool.or_eq_false_iff, decide_eq_false_iff_not, decide_eq_false_iff_not]; omega
theorem lvl_val {g : api_Grid} {w h : Nat} {z : Int} (hc : gcode g = 0) (hg : Gd g w h) (h36 : g.Z.length ≤ 36) (hz : farE z = false) :
  Ok (lvlT g w h z) fun r => Qx r.1 (areaQ g.Step * sumQ ((triF g w h).map (xh fun k => gt g.Z k - z))) 89 ∧ Qx r.2 (areaQ g.Step * sumQ ((triF g w h).map (yh fun k => gt g.Z k - z))) 89 := by
 have hz := far_bd.1 hz
 refine totG_val (triF_len hg h36) (by have := hg.dim.s; omega) fun t ht => ?_
 obtain ⟨ht, hh⟩ := List.mem_filter.1 ht
 obtain ⟨i0, i1, i2⟩ := tri_in hg ht
 obtain ⟨n0, n1, n2⟩ := has_at hh
 have b0 := (gz_bd hc i0).resolve_left n0
 have b1 := (gz_bd hc i1).resolve_left n1
 have b2 := (gz_bd hc i2).resolve_left n2
 have e : ∀ k, inR k g.Z.length = true → -1048576 ≤ gt g.Z k ∧ gt g.Z k ≤ 1048576 → volume_Level_1 20000 k g.X0 g.Y0 g.Step g.Width g.Height g.Z z = some (gt g.Z k - z) := by
  intro k hk hb
  unfold volume_Level_1
  rw [hk, wrap64_in (by omega) (by omega)]; rfl
 exact ⟨⟨e _ i0 b0, e _ i1 b1, e _ i2 b2⟩, by omega, by omega, by omega⟩
end Go.L

