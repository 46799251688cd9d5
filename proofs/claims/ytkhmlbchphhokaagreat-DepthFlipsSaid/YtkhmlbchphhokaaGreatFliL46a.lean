import Derived.Test.YtkhmlbchphhokaaGreatFliLD
import Derived.Test.YtkhmlbchphhokaaGreatPl6jffjgihl
import Derived.KernelRfl
set_option linter.all false
namespace Go.L
open Go Go.Eng
theorem known46_v : fiduciallaw46_known 5000 = some true := by kernel_rfl
def cellBad (z : Int) : Bool := decide (z < -1) || decide (z > 1048576)
theorem c1_v (n : Nat) (z : Int) : depth_Check_1 n z = some (cellBad z) := by
 unfold depth_Check_1 cellBad; cases decide (z < -1) <;> rfl
theorem v1_v (n : Nat) (z : Int) : fiduciallaw46_Valid_1 n z = some (cellBad z) := by
 unfold fiduciallaw46_Valid_1 cellBad; cases decide (z < -1) <;> rfl
theorem any_c {n : Nat} {s : List Int} (hn : s.length < n) (hl : s.length ≤ 9223372036854775806) : slices_ContainsFunc_int_int_of_depth_Check_1 n s = some (s.any cellBad) := by
 unfold slices_ContainsFunc_int_int_of_depth_Check_1
 have : slices_IndexFunc_int_int_of_depth_Check_1 n s = some (idxB cellBad s) := loop_indexF (fun x => c1_v n x) hn hl
 rw [this]; show some (decide (idxB cellBad s ≥ 0)) = _; rw [idxB_ge]
theorem any_v {n : Nat} {s : List Int} (hn : s.length < n) (hl : s.length ≤ 9223372036854775806) : slices_ContainsFunc_int_int_of_fiduciallaw46_Valid_1 n s = some (s.any cellBad) := by
 unfold slices_ContainsFunc_int_int_of_fiduciallaw46_Valid_1
 have : slices_IndexFunc_int_int_of_fiduciallaw46_Valid_1 n s = some (idxB cellBad s) := loop_indexF (fun x => v1_v n x) hn hl
 rw [this]; show some (decide (idxB cellBad s ≥ 0)) = _; rw [idxB_ge]
structure OkF (f : api_Field) : Prop where
 w : 1 ≤ f.Width ∧ f.Width ≤ 64
 h : 1 ≤ f.Height ∧ f.Height ≤ 64
 len : (f.V.length : Int) = f.Width * f.Height
 v : ∀ k, k < f.V.length → -1 ≤ f.V.getD k default ∧ f.V.getD k default ≤ 1048576
def okF (f : api_Field) : Bool := (decide (1 ≤ f.Width) && decide (f.Width ≤ 64) && decide (1 ≤ f.Height) && decide (f.Height ≤ 64)) && (((f.V.length : Int) == f.Width * f.Height) && !f.V.any cellBad)
theorem okF_iff {f : api_Field} : okF f = true ↔ OkF f := by
 unfold okF
 simp only [Bool.and_eq_true, decide_eq_true_eq, beq_iff_eq, Bool.not_eq_true', any_false_iff]
 constructor
 · rintro ⟨⟨⟨⟨h1, h2⟩, h3⟩, h4⟩, h5, h6⟩
   refine ⟨⟨h1, h2⟩, ⟨h3, h4⟩, h5, fun k hk => ?_⟩
   have := h6 k hk
   simp only [cellBad, Bool.or_eq_false_iff, decide_eq_false_iff_not] at this
   omega
 · rintro ⟨⟨h1, h2⟩, ⟨h3, h4⟩, h5, h6⟩
   refine ⟨⟨⟨⟨h1, h2⟩, h3⟩, h4⟩, h5, fun k hk => ?_⟩
   have := h6 k hk
   simp only [cellBad, Bool.or_eq_false_iff, decide_eq_false_iff_not]
   omega
theorem area46 {w h : Int} (hw : 1 ≤ w ∧ w ≤ 64) (hh : 1 ≤ h ∧ h ≤ 64) : 1 ≤ w * h ∧ w * h ≤ 4096 := by
 have h1 := Int.mul_le_mul hw.2 hh.2 (by omega) (by omega)
 have h2 := Int.mul_le_mul hw.1 hh.1 (by omega) (by omega)
 omega
theorem check_v {n : Nat} {f : api_Field} (hn : f.V.length < n) (hl : f.V.length ≤ 9223372036854775806) : depth_Check n f = some (if okF f = true then 0 else 1) := by
 unfold depth_Check okF
 rw [any_c hn hl]
 by_cases h1 : f.Width < 1
 · have : decide (1 ≤ f.Width) = false := by simp; omega
   simp [h1, cdO, this]
 by_cases h2 : f.Width > 64
 · have : decide (f.Width ≤ 64) = false := by simp; omega
   simp [h1, h2, cdO, this]
 by_cases h3 : f.Height < 1
 · have : decide (1 ≤ f.Height) = false := by simp; omega
   simp [h1, h2, h3, cdO, this]
 by_cases h4 : f.Height > 64
 · have : decide (f.Height ≤ 64) = false := by simp; omega
   simp [h1, h2, h3, h4, cdO, this]
 have ha := area46 (w := f.Width) (h := f.Height) (by omega) (by omega)
 have e1 : decide (1 ≤ f.Width) = true := by simp; omega
 have e2 : decide (f.Width ≤ 64) = true := by simp; omega
 have e3 : decide (1 ≤ f.Height) = true := by simp; omega
 have e4 : decide (f.Height ≤ 64) = true := by simp; omega
 have d1 : decide (f.Width < 1) = false := by simpa using h1
 have d2 : decide (f.Width > 64) = false := by simpa using h2
 have d3 : decide (f.Height < 1) = false := by simpa using h3
 have d4 : decide (f.Height > 64) = false := by simpa using h4
 rw [wrap64_in (by omega) (by omega), e1, e2, e3, e4, d1, d2, d3, d4]
 by_cases h5 : (f.V.length : Int) = f.Width * f.Height
 · have b1 : ((f.V.length : Int) != f.Width * f.Height) = false := by simpa using h5
   have b2 : ((f.V.length : Int) == f.Width * f.Height) = true := by simpa using h5
   rw [b1, b2]
   cases f.V.any cellBad <;> rfl
 · have b1 : ((f.V.length : Int) != f.Width * f.Height) = true := by simpa using h5
   have b2 : ((f.V.length : Int) == f.Width * f.Height) = false := by simpa using h5
   rw [b1, b2]
   rfl
theorem valid_v {n : Nat} {f : api_Field} (hn : f.V.length < n) (hl : f.V.length ≤ 9223372036854775806) : fiduciallaw46_Valid n f = some (okF f) := by
 unfold fiduciallaw46_Valid okF
 rw [any_v hn hl]
 by_cases h1 : mn f.Width f.Height ≥ 1
 · by_cases h2 : mx f.Width f.Height ≤ 64
   · rw [mn_eq] at h1; rw [mx_eq] at h2
     have ha := area46 (w := f.Width) (h := f.Height) (by omega) (by omega)
     have d1 : decide (mn f.Width f.Height ≥ 1) = true := by rw [mn_eq]; simpa using h1
     have d2 : decide (mx f.Width f.Height ≤ 64) = true := by rw [mx_eq]; simpa using h2
     have e1 : decide (1 ≤ f.Width) = true := by simp; omega
     have e2 : decide (f.Width ≤ 64) = true := by simp; omega
     have e3 : decide (1 ≤ f.Height) = true := by simp; omega
     have e4 : decide (f.Height ≤ 64) = true := by simp; omega
     rw [d1, d2, e1, e2, e3, e4, wrap64_in (by omega) (by omega)]
     by_cases h5 : (f.V.length : Int) = f.Width * f.Height
     · have b2 : ((f.V.length : Int) == f.Width * f.Height) = true := by simpa using h5
       rw [b2]; rfl
     · have b2 : ((f.V.length : Int) == f.Width * f.Height) = false := by simpa using h5
       rw [b2]; rfl
   · have d1 : decide (mn f.Width f.Height ≥ 1) = true := by simpa using h1
     have d2 : decide (mx f.Width f.Height ≤ 64) = false := by simpa using h2
     rw [mx_eq] at h2
     have e : (decide (1 ≤ f.Width) && decide (f.Width ≤ 64) && decide (1 ≤ f.Height) && decide (f.Height ≤ 64)) = false := by
      by_cases h : f.Width ≤ 64
      · have : decide (f.Height ≤ 64) = false := by simp; omega
        rw [this, Bool.and_false]
      · have : decide (f.Width ≤ 64) = false := by simpa using h
        rw [this, Bool.and_false]; rfl
     rw [d1, d2, e]; rfl
 · have d1 : decide (mn f.Width f.Height ≥ 1) = false := by simpa using h1
   rw [mn_eq] at h1
   have e : (decide (1 ≤ f.Width) && decide (f.Width ≤ 64) && decide (1 ≤ f.Height) && decide (f.Height ≤ 64)) = false := by
    by_cases h : 1 ≤ f.Width
    · have : decide (1 ≤ f.Height) = false := by simp; omega
      rw [this, Bool.and_false]; rfl
    · have : decide (1 ≤ f.Width) = false := by simpa using h
      rw [this]; rfl
   rw [d1, e]; rfl
def fewF (f : api_Field) : Bool := decide ((f.V.length : Int) ≤ 80) && (!okF f || (decide (f.Width ≤ 8) && decide (f.Height ≤ 8)))
theorem few_v {n : Nat} {f : api_Field} (hn : 100 < n) : fiduciallaw46_few n f = some (fewF f) := by
 unfold fiduciallaw46_few fewF
 by_cases h : (f.V.length : Int) ≤ 80
 · have d : decide ((f.V.length : Int) ≤ 80) = true := by simpa using h
   rw [d, valid_v (by omega) (by omega)]
   cases okF f
   · rfl
   · cases decide (f.Width ≤ 8) <;> rfl
 · have d : decide ((f.V.length : Int) ≤ 80) = false := by simpa using h
   rw [d]; rfl
theorem few_len {f : api_Field} (h : fewF f = true) : f.V.length ≤ 80 := by
 unfold fewF at h; simp at h; omega
theorem and_low {y : Int} (h : 0 ≤ y) (h2 : y < 4294967296) : bitO .and .u64 y 4294967295 = y := by
 unfold bitO
 have e : (BitVec.ofInt IntKind.u64.bits y &&& BitVec.ofInt IntKind.u64.bits 4294967295).toNat = y.toNat := by
  rw [BitVec.toNat_and, BitVec.toNat_ofInt, BitVec.toNat_ofInt]
  have e1 : (y % ((2 ^ IntKind.u64.bits : Nat) : Int)).toNat = y.toNat := by
   have : ((2 ^ IntKind.u64.bits : Nat) : Int) = 18446744073709551616 := rfl
   rw [this]; omega
  have e2 : ((4294967295 : Int) % ((2 ^ IntKind.u64.bits : Nat) : Int)).toNat = 2 ^ 32 - 1 := rfl
  rw [e1, e2, Nat.and_two_pow_sub_one_eq_mod]
  omega
 show IntKind.u64.wrap _ = y
 rw [e, ← wrapF_eq, wrapU64_in (by omega) (by omega)]
 omega
theorem mul64_one {n : Nat} {y : Int} (h : 0 ≤ y) (h2 : y < 4294967296) : math_bits_Mul n 1 y = some (0, y) := by
 unfold math_bits_Mul math_bits_Mul64
 rw [and_low h h2, and_low (y := 1) (by omega) (by omega)]
 have e1 : (1 : Int).fdiv (2 ^ 32) = 0 := by decide
 have e2 : y.fdiv (2 ^ 32) = 0 := by rw [Int.fdiv_eq_ediv_of_nonneg _ (by decide)]; omega
 rw [e1, e2]
 have z : wrapF .u64 0 = 0 := by decide
 simp only [Int.zero_mul, Int.mul_zero, Int.one_mul, z, Int.zero_add, Int.add_zero, bdO]
 rw [wrapU64_in (n := y) (by omega) (by omega), e2, z]
 have e3 : bitO .and .u64 0 4294967295 = 0 := and_low (by omega) (by omega)
 simp only [e3, z, Int.zero_add, Int.add_zero, bdO]
 rfl
theorem overT_pre {l ys : List Int} {a : Nat} {v : Int} (h : a + ys.length ≤ l.length) (h1 : ∀ j, j < a → l.getD j default = v) (h2 : ∀ j, j < ys.length → ys.getD j default = v) : ∀ j, j < a + ys.length → (overT l a ys).getD j default = v := by
 intro j hj
 rw [overT_eq h]
 have hla : (l.take a).length = a := by rw [List.length_take]; omega
 simp only [List.getD] at h1 h2 ⊢
 by_cases hja : j < a
 · rw [List.getElem?_append_left (by rw [List.length_append, hla]; omega), List.getElem?_append_left (by rw [hla]; exact hja), List.getElem?_take, if_pos hja]
   exact h1 j hja
 · rw [List.getElem?_append_left (by rw [List.length_append, hla]; omega), List.getElem?_append_right (by rw [hla]; omega), hla]
   exact h2 (j - a) (by omega)
theorem list_const {l : List Int} {c : Nat} {v : Int} (hl : l.length = c) (h : ∀ j, j < c → l.getD j default = v) : l = List.replicate c v := by
 apply List.ext_getElem
 · simp [hl]
 · intro i h1 h2
   have := h i (by omega)
   simp only [List.getD, List.getElem?_eq_getElem h1, Option.getD_some] at this
   rw [this]; simp
theorem repeat_v {n : Nat} (hn : 4096 < n) {c : Int} (h : 1 ≤ c) (h2 : c ≤ 4096) : slices_Repeat_int_int_w n [-1] c = some (List.replicate c.toNat (-1)) := by
 apply Ok.eq
 unfold slices_Repeat_int_int_w
 have e0 : wrapF .u64 (([-1] : List Int).length : Int) = 1 := by decide
 rw [e0, wrapU64_in (n := c) (by omega) (by omega)]
 refine Ok.gd (by simp; omega) (Ok.bde (mul64_one (by omega) (by omega)) ?_)
 refine Ok.gd rfl (Ok.gd (by simp; omega) ?_)
 show Ok (gdO (decide (0 ≤ wrapF .i64 c)) _) _
 rw [wrap64_in (by omega) (by omega)]
 refine Ok.gd (by simp; omega) (Ok.gd (by simp; omega) (Ok.gd (by simp; omega) ?_))
 have hm : Nat.min ([-1] : List Int).length (List.replicate c.toNat ((0 : Int) : Int)).length = 1 := by
  show Nat.min 1 _ = 1
  rw [List.length_replicate]; exact Nat.min_eq_left (by omega)
 refine Ok.bd (R := fun o => o = List.replicate c.toNat (-1)) ?_ (fun o ho => ok_some.2 ho)
 refine ok_loop (fun s : List Int × Int => ∃ m : Nat, s.2 = (m : Int) ∧ 1 ≤ m ∧ m ≤ c.toNat ∧ s.1.length = c.toNat ∧ ∀ j, j < m → s.1.getD j default = -1) (fun s => c.toNat - s.2.toNat) ?_ n _ ?_ ?_
 · rintro again ⟨l, k⟩ ⟨m, hk, h1, hmc, hl, hv⟩ ih
   obtain rfl : k = (m : Int) := hk
   simp only at hl hv
   refine Ok.cd (fun hlt => ?_) (fun hge => ?_)
   · have hlt := of_decide_eq_true hlt
     refine Ok.gd (by rw [inS_iff]; omega) (Ok.gd (by rw [inS_iff]; omega) ?_)
     have et : ((m : Int)).toNat = m := by omega
     rw [et]
     have hyl : ((l.take m).take (Nat.min m (l.length - m))).length = Nat.min m (l.length - m) := by
      rw [List.length_take, List.length_take]
      have : Nat.min m (l.length - m) ≤ m := Nat.min_le_left _ _
      omega
     have hmin1 : Nat.min m (l.length - m) ≤ m := Nat.min_le_left _ _
     have hmin2 : Nat.min m (l.length - m) ≤ l.length - m := Nat.min_le_right _ _
     have hmin3 : 1 ≤ Nat.min m (l.length - m) := Nat.le_min.2 ⟨h1, by omega⟩
     have hp := overT_pre (l := l) (a := m) (v := -1) (ys := (l.take m).take (Nat.min m (l.length - m))) (by rw [hyl]; omega) hv (fun j hj => by
      rw [hyl] at hj
      have := hv j (by omega)
      simp only [List.getD, List.getElem?_take] at this ⊢
      rw [if_pos (by omega), if_pos (by omega)]; exact this)
     rw [hyl] at hp
     rw [wrap64_in (by omega) (by omega)]
     refine ih _ ⟨m + Nat.min m (l.length - m), by simp, by omega, by omega, by simp only [overT_len]; exact hl, hp⟩ ?_
     show c.toNat - ((m : Int) + _).toNat < c.toNat - ((m : Int)).toNat
     omega
   · have hge := of_decide_eq_false hge
     obtain rfl : m = c.toNat := by omega
     exact ok_some.2 (list_const hl hv)
 · rw [hm]
   refine ⟨1, rfl, Nat.le_refl _, by omega, by simp only [overT_len]; exact List.length_replicate, ?_⟩
   exact overT_pre (l := List.replicate c.toNat 0) (ys := [-1]) (a := 0) (by simp; omega) (fun j hj => by omega) (fun j hj => by
    have : j = 0 := by simpa using hj
    subst this; rfl)
 · simp only; omega
theorem blank_v {n : Nat} (hn : 4096 < n) {f : api_Field} (hf : OkF f) : depth_blank_w n f = some (f.Width, f.Height, List.replicate f.V.length (-1)) := by
 have ha := area46 hf.w hf.h
 have hl := hf.len
 unfold depth_blank_w
 rw [wrap64_in (by omega) (by omega), repeat_v hn ha.1 ha.2]
 have : (f.Width * f.Height).toNat = f.V.length := by omega
 rw [this]; rfl
end Go.L

