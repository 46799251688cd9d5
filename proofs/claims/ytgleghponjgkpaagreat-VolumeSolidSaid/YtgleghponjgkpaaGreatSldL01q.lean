import Derived.Test.YtgleghponjgkpaaGreatSldLD
import Derived.Test.YtgleghponjgkpaaGreatPl6geldddpe
import Derived.KernelRfl
import Derived.Test.YtgleghponjgkpaaGreatPl6geldddpe
set_option linter.all false
namespace Go.L
open Go Go.Eng
theorem known52_v : fiduciallaw52_known 20000 = some true := by kernel_rfl
def farE (z : Int) : Bool := decide (z < -1048576) || decide (z > 1048576)
theorem far_or {z : Int} : (cdO (decide (z < (-1048576))) (some true) (some (decide (z > 1048576))) : Option Bool) = some (farE z) := by
 unfold farE; cases decide (z < -1048576) <;> rfl
theorem tfar_v {n : Nat} {z : Int} : terrain_far n z = some (farE z) := far_or
theorem vfar_v {n : Nat} {z : Int} : volume_far n z = some (farE z) := far_or
def badZ (z : Int) : Bool := (z != -2147483648) && farE z
theorem c2_v (n : Nat) (z : Int) : terrain_Check_2 n z = some (badZ z) := by
 unfold terrain_Check_2 badZ
 rw [tfar_v]
 cases (z != -2147483648) <;> rfl
theorem anyZ_v {n : Nat} {s : List Int} (hn : s.length < n) (hl : s.length ≤ 9223372036854775806) : slices_ContainsFunc_int_int_of_terrain_Check_2 n s = some (s.any badZ) := by
 unfold slices_ContainsFunc_int_int_of_terrain_Check_2
 have : slices_IndexFunc_int_int_of_terrain_Check_2 n s = some (idxB badZ s) := loop_indexF (fun x => c2_v n x) hn hl
 rw [this]; show some (decide (idxB badZ s ≥ 0)) = _; rw [idxB_ge]
theorem has_v {n : Nat} {s : List Int} {v : Int} (hn : s.length < n) (hl : s.length ≤ 9223372036854775806) : slices_Contains_int_int n s v = some (s.any fun z => v == z) := by
 unfold slices_Contains_int_int
 have : slices_Index_int_int n s v = some (idxB (fun z => v == z) s) := loop_index hn hl
 rw [this]; show some (decide (idxB (fun z => v == z) s ≥ 0)) = _; rw [idxB_ge]
def sideB (a : Int) : Bool := decide (2 ≤ a) && decide (a ≤ 64)
structure Dim (g : api_Grid) : Prop where
 w : 2 ≤ g.Width ∧ g.Width ≤ 64
 h : 2 ≤ g.Height ∧ g.Height ≤ 64
 s : 2 ≤ g.Step ∧ g.Step ≤ 65536
 e : g.Step.tmod 2 = 0
 x : farE g.X0 = false
 y : farE g.Y0 = false
theorem area52 {w h : Int} (hw : 2 ≤ w ∧ w ≤ 64) (hh : 2 ≤ h ∧ h ≤ 64) : 4 ≤ w * h ∧ w * h ≤ 4096 := by
 have h1 := Int.mul_le_mul hw.2 hh.2 (by omega) (by omega)
 have h2 := Int.mul_le_mul hw.1 hh.1 (by omega) (by omega)
 omega
open Classical in
noncomputable def gcode (g : api_Grid) : Int := if Dim g then (if (g.Z.length : Int) = g.Width * g.Height then (if g.Z.any badZ = true then 2 else 0) else 4) else 2
theorem gc_no {g : api_Grid} (h : ¬ Dim g) : gcode g = 2 := by unfold gcode; rw [if_neg h]
theorem side_v {n : Nat} {a : Int} : terrain_Check_1 n a = some (sideB a) := by
 unfold terrain_Check_1 sideB
 have e : decide (a ≥ 2) = decide (2 ≤ a) := rfl
 rw [e]; cases decide (2 ≤ a) <;> rfl
theorem tcheck_v {n : Nat} (hn : 4096 < n) (g : api_Grid) : terrain_Check n g = some (gcode g) := by
 apply Ok.eq
 unfold terrain_Check
 refine Ok.bde side_v (Ok.cd (fun h => ok_some.2 (gc_no fun d => ?_).symm) (fun h1 => Ok.bde side_v (Ok.cd (fun h => ok_some.2 (gc_no fun d => ?_).symm) (fun h2 => Ok.cd (fun h => ok_some.2 (gc_no fun d => ?_).symm) (fun h3 => Ok.cd (fun h => ok_some.2 (gc_no fun d => ?_).symm) (fun h4 => Ok.cd (fun h => ok_some.2 (gc_no fun d => ?_).symm) (fun h5 => Ok.bde tfar_v (Ok.cd (fun h => ok_some.2 (gc_no fun d => ?_).symm) (fun h6 => Ok.bde tfar_v (Ok.cd (fun h => ok_some.2 (gc_no fun d => ?_).symm) (fun h7 => ?_)))))))))))
 · have := d.w; simp [sideB] at h; omega
 · have := d.h; simp [sideB] at h; omega
 · have := d.s; have := of_decide_eq_true h; omega
 · have := d.s; have := of_decide_eq_true h; omega
 · have := d.e; simp [this] at h
 · rw [d.x] at h; cases h
 · rw [d.y] at h; cases h
 have h3 := of_decide_eq_false h3
 have h4 := of_decide_eq_false h4
 have d : Dim g := ⟨by simp [sideB] at h1; omega, by simp [sideB] at h2; omega, by omega, by simpa using h5, h6, h7⟩
 have ha := area52 d.w d.h
 rw [wrap64_in (n := g.Width * g.Height) (by omega) (by omega)]
 unfold gcode
 rw [if_pos d]
 refine Ok.cd (fun h => ok_some.2 ?_) (fun h => ?_)
 · rw [if_neg]; simpa using h
 · have h : (g.Z.length : Int) = g.Width * g.Height := by simpa using h
   rw [if_pos h]
   refine Ok.bde (anyZ_v (by omega) (by omega)) (Ok.cd (fun h => ok_some.2 ?_) (fun h => ok_some.2 ?_))
   · rw [if_pos h]
   · rw [if_neg (by rw [h]; decide)]
theorem gc_zero {g : api_Grid} (h : gcode g = 0) : Dim g ∧ (g.Z.length : Int) = g.Width * g.Height ∧ g.Z.any badZ = false := by
 unfold gcode at h
 split at h
 · rename_i d
   split at h
   · rename_i e
     split at h
     · omega
     · rename_i f; exact ⟨d, e, by simpa using f⟩
   · omega
 · omega
def B2 {α : Type} (x y : Option α) (Q : α → Prop) : Prop := ∃ r, x = some r ∧ y = some r ∧ Q r
section
variable {α β : Type} {Q : α → Prop} {R : β → Prop} {x y : Option β} {f g : β → Option α}
theorem B2.bde {b : β} (hx : x = some b) (hy : y = some b) (k : B2 (f b) (g b) Q) : B2 (bdO x f) (bdO y g) Q := by subst hx hy; exact k
theorem B2.bd (h : B2 x y R) (k : ∀ b, R b → B2 (f b) (g b) Q) : B2 (bdO x f) (bdO y g) Q := by
 obtain ⟨b, h1, h2, h3⟩ := h; exact B2.bde h1 h2 (k b h3)
theorem B2.cd {b : Bool} {t t' e e' : Option α} (h : b = true → B2 t t' Q) (k : b = false → B2 e e' Q) : B2 (cdO b t e) (cdO b t' e') Q := by
 cases b
 · exact k rfl
 · exact h rfl
end
end Go.L


set_option linter.all false
namespace Go.L
open Go Go.Eng
theorem gt_int {l : List Int} {k : Nat} : gt l (k : Int) = l.getD k 0 := gt_nat
theorem w64_nat {k : Nat} (h : k ≤ 4000000000) : wrapF .i64 ((k : Int) + 1) = ((k + 1 : Nat) : Int) := by rw [wrap64_in (by omega) (by omega)]; omega
theorem w64_pred {k : Nat} (h : 0 < k) (h2 : k ≤ 4000000000) : wrapF .i64 ((k : Int) - 1) = ((k - 1 : Nat) : Int) := by rw [wrap64_in (by omega) (by omega)]; omega
theorem trim_ok {n : Nat} {g : List Int} (hn : 1000 ≤ n) (hd : Dig g) (hl : g.length ≤ 900) : Ok (integer_trim n g) fun r => Can r ∧ vl r = vl g := by
 unfold integer_trim
 refine Ok.bd (R := fun r => Can r ∧ vl r = vl g) ?_ (fun g' h => ok_some.2 h)
 refine ok_loop (fun l : List Int => Dig l ∧ vl l = vl g ∧ l.length ≤ g.length) (fun l => l.length) ?_ n g ⟨hd, rfl, Nat.le_refl _⟩ (by omega)
 rintro again l ⟨h1, h2, h3⟩ ih
 refine Ok.cd (fun h => ?_) (fun h => ?_)
 · have hpos : 0 < l.length := by simpa using h
   rw [w64_pred hpos (by omega)]
   refine Ok.gd (by rw [inR_nat]; simp; omega) ?_
   rw [gt_int]
   refine Ok.cd (fun h => ?_) (fun h => ?_)
   · refine Ok.gd (inS_iff.2 (by omega)) ?_
     have e : (l.drop (0 : Int).toNat).take (((l.length - 1 : Nat) : Int).toNat - (0 : Int).toNat) = l.take (l.length - 1) := by simp
     rw [e]
     have hz : l.getD (l.length - 1) 0 = 0 := by simpa using h
     refine ih _ ⟨dig_take h1 _, ?_, ?_⟩ ?_
     · rw [vl_cut (by omega) ?_, h2]
       intro j hj
       by_cases hjl : j = l.length - 1
       · rw [hjl]; exact hz
       · simp [List.getD, List.getElem?_eq_none (by omega : l.length ≤ j)]
     · rw [List.length_take]; omega
     · rw [List.length_take]; omega
   · refine ok_some.2 ⟨can_tail h1 (.inr ?_), h2⟩
     simpa using h
 · have : l = [] := by simpa using h
   subst this
   exact ok_some.2 ⟨trivial, h2⟩
theorem made_ok {n : Nat} {g : List Int} (hn : 1000 ≤ n) (neg : Bool) (hd : Dig g) (hl : g.length ≤ 900) : Ok (integer_made n neg g) fun z => isI z.Negative z.Groups (if neg then -vl g else vl g) := by
 unfold integer_made
 refine Ok.bd (trim_ok hn hd hl) ?_
 rintro r ⟨h1, h2⟩
 refine Ok.cd (fun h => ?_) (fun h => ?_)
 · have : r = [] := by simpa using h
   subst this
   refine ok_some.2 (show isI false [] _ from ⟨trivial, (fun h => absurd h (by decide)), ?_⟩)
   rw [← h2]; cases neg <;> rfl
 · refine ok_some.2 ⟨h1, fun _ => ?_, ?_⟩
   · rintro rfl; simp at h
   · rw [← h2]
theorem split_ok {n : Nat} {v : Int} (hn : 1000 ≤ n) (h0 : 0 ≤ v) (hv : v < 18446744073709551616) : Ok (integer_split n v) fun r => Can r ∧ vl r = v ∧ r.length ≤ 3 := by
 unfold integer_split
 refine Ok.bd (R := fun r => Can r ∧ vl r = v ∧ r.length ≤ 3) ?_ (fun g' h => ok_some.2 h)
 refine ok_loop (fun x : Int × List Int => Dig x.2 ∧ 0 ≤ x.1 ∧ vl x.2 + pB x.2.length * x.1 = v ∧ x.2.length ≤ 3 ∧ (x.1 = 0 → Can x.2)) (fun x => 4 - x.2.length) ?_ n (v, []) ⟨dig_nil, h0, by show 0 + 1 * v = v; omega, by simp, fun _ => trivial⟩ (by simp; omega)
 rintro again ⟨m, g⟩ ⟨h1, h2, h3, h4, h5⟩ ih
 simp only at h1 h2 h3 h4 h5
 have hg := vl_nonneg h1
 have hp := pB_pos g.length
 have hmv : m ≤ v := by
  have : m ≤ pB g.length * m := by
   have := Int.mul_le_mul_of_nonneg_right hp h2; omega
  omega
 refine Ok.cd (fun h => ?_) (fun h => ?_)
 · have hm : 0 < m := by simpa using h
   have hlen : g.length ≤ 2 := by
    by_cases h : g.length ≤ 2
    · exact h
    · have h6 : g.length = 3 := by omega
      rw [h6] at h3
      have : pB 3 = 1000000000000000000000000000 := rfl
      rw [this] at h3
      omega
   refine Ok.gd (by simp; omega) (Ok.gd (by simp; omega) ?_)
   have e1 : m.tdiv 1000000000 = m / 1000000000 := Int.tdiv_eq_ediv_of_nonneg h2
   have e2 : m.tmod 1000000000 = m % 1000000000 := Int.tmod_eq_emod_of_nonneg h2
   rw [e1, e2, wrapU64_in (by omega) (by omega), wrapU32_in (by omega) (by omega)]
   have hdig : 0 ≤ m % 1000000000 ∧ m % 1000000000 < 1000000000 := by omega
   refine ih _ ⟨dig_app.2 ⟨h1, dig_one.2 hdig⟩, by simp only; omega, ?_, by simp; omega, fun hz => can_app h1 hdig (by simp only at hz; omega)⟩ (by simp; omega)
   simp only
   rw [vl_app, vl_one, List.length_append, List.length_singleton, pB_succ]
   have : m = m % 1000000000 + 1000000000 * (m / 1000000000) := by omega
   rw [← h3]
   grind
 · have hm : m = 0 := by simp at h; omega
   subst hm
   exact ok_some.2 ⟨h5 rfl, by omega, h4⟩
theorem Of_ok {n : Nat} {v : Int} (hn : 1000 ≤ n) (h0 : -9223372036854775808 ≤ v) (hv : v ≤ 9223372036854775807) : Ok (integer_Of n v) fun z => isI z.Negative z.Groups v := by
 unfold integer_Of
 refine Ok.cd (fun h => ?_) (fun h => ?_)
 · have hneg : v < 0 := by simpa using h
   have e : wrapF .u64 (0 - wrapF .u64 v) = -v := by
    rw [wrapF_eq, wrapF_eq, IntKind.wrap_u64, IntKind.wrap_u64]; omega
   rw [e]
   refine Ok.bd (split_ok hn (by omega) (by omega)) ?_
   rintro r ⟨h1, h2, h3⟩
   refine Ok.bd (made_ok hn true h1.dig (by omega)) ?_
   intro z hz
   rw [h2] at hz
   refine ok_some.2 ?_
   simpa using hz
 · have hneg : 0 ≤ v := by simpa using h
   rw [wrapU64_in hneg (by omega)]
   refine Ok.bd (split_ok hn (by omega) (by omega)) ?_
   rintro r ⟨h1, h2, h3⟩
   refine Ok.bd (made_ok hn false h1.dig (by omega)) ?_
   intro z hz
   rw [h2] at hz
   exact ok_some.2 hz
theorem Valid_ok {n : Nat} {x : api_Int} {v : Int} (hn : 1000 ≤ n) (hl : x.Groups.length ≤ 900) (h : isI x.Negative x.Groups v) : integer_Valid n x = some true := by
 obtain ⟨h1, h2, h3⟩ := h
 unfold integer_Valid
 by_cases hx : x.Groups = []
 · have : x.Negative = false := by cases hh : x.Negative with | false => rfl | true => exact absurd hx (h2 hh)
   rw [hx, this]; rfl
 · have hpos : 0 < x.Groups.length := List.length_pos_iff.2 hx
   have e : (((x.Groups.length : Int) : Int) == 0) = false := by simp [hx]
   rw [e]
   show gdO _ _ = _
   rw [w64_pred hpos (by omega), inR_nat, gt_int]
   have e1 : decide (x.Groups.length - 1 < x.Groups.length) = true := by simp; omega
   have e2 : (x.Groups.getD (x.Groups.length - 1) 0 != 0) = true := by simpa using can_last h1 hx
   rw [e1, e2]
   show bdO (slices_ContainsFunc_uint32_uint32_of_integer_Valid_1 n x.Groups) _ = _
   unfold slices_ContainsFunc_uint32_uint32_of_integer_Valid_1
   have : slices_IndexFunc_uint32_uint32_of_integer_Valid_1 n x.Groups = some (idxB (fun g => decide (g ≥ 1000000000)) x.Groups) := loop_indexF (fun x => rfl) (by omega) (by omega)
   rw [this]
   show some (!decide (idxB _ x.Groups ≥ 0)) = _
   rw [idxB_ge]
   have : x.Groups.any (fun g => decide (g ≥ 1000000000)) = false := by
    rw [List.any_eq_false]
    intro d hd
    have := h1.dig d hd
    simp; omega
   rw [this]; rfl
theorem groups_ok {n : Nat} {x : api_Int} {v : Int} (hn : 1000 ≤ n) (hl : x.Groups.length ≤ 900) (h : isI x.Negative x.Groups v) : integer_groups n x = some x.Groups := by
 unfold integer_groups; rw [Valid_ok hn hl h]; rfl
theorem Sign_ok {n : Nat} {x : api_Int} {v : Int} (hn : 1000 ≤ n) (hl : x.Groups.length ≤ 900) (h : isI x.Negative x.Groups v) : integer_Sign n x = some (sgn v) := by
 unfold integer_Sign; rw [groups_ok hn hl h, isI_sgn h]
 show cdO _ _ _ = _
 by_cases hx : x.Groups = []
 · rw [hx]; rfl
 · have e : (((x.Groups.length : Int) : Int) == 0) = false := by simp [hx]
   rw [e, if_neg hx]
   cases x.Negative <;> rfl
theorem at_ok {n : Nat} {l : List Int} {k : Nat} : integer_at n l (k : Int) = some (l.getD k 0) := by
 unfold integer_at
 by_cases h : k < l.length
 · have e : decide ((k : Int) < (l.length : Int)) = true := by simp; omega
   rw [e, inR_nat, gt_int]
   have e : decide (k < l.length) = true := by simpa using h
   rw [e]; rfl
 · have e : decide ((k : Int) < (l.length : Int)) = false := by simp; omega
   rw [e]
   have : l.getD k 0 = 0 := by simp [List.getD, List.getElem?_eq_none (by omega : l.length ≤ k)]
   rw [this]; rfl
end Go.L


set_option linter.all false
namespace Go.L
open Go Go.Eng
theorem plus_ok {n : Nat} {a b : List Int} (hn : 1000 ≤ n) (ha : Dig a) (hb : Dig b) (la : a.length ≤ 400) (lb : b.length ≤ 400) : Ok (integer_plus n a b) fun r => Can r ∧ vl r = vl a + vl b := by
 unfold integer_plus
 obtain ⟨M, hM, h1, h2, h3⟩ : ∃ M : Nat, mx (a.length : Int) (b.length : Int) = (M : Int) ∧ a.length ≤ M ∧ b.length ≤ M ∧ M ≤ 400 := by
  unfold mx; split
  · exact ⟨_, rfl, by omega, by omega, by omega⟩
  · exact ⟨_, rfl, by omega, by omega, by omega⟩
 rw [hM, w64_nat (by omega)]
 refine Ok.gd (by simp; try omega) (Ok.gd (by simp; try omega) (Ok.gd (by simp; try omega) ?_))
 refine Ok.bd (R := fun r => Dig r ∧ r.length ≤ 900 ∧ vl r = vl a + vl b) ?_ (fun r h => Ok.bd (trim_ok hn h.1 h.2.1) fun z hz => ok_some.2 ⟨hz.1, hz.2.trans h.2.2⟩)
 refine ok_loop (fun x : List Int × Int × Int => ∃ k : Nat, x.2.2 = (k : Int) ∧ k ≤ M + 1 ∧ x.1.length = M + 1 ∧ Dig x.1 ∧ (x.2.1 = 0 ∨ x.2.1 = 1) ∧ vk x.1 k + pB k * x.2.1 = vk a k + vk b k) (fun x => M + 1 - x.2.2.toNat) ?_ n _
  ⟨0, rfl, by omega, by simp, dig_rep _, .inl rfl, by simp [vk_zero]⟩ (by simp; omega)
 rintro again ⟨out, c, x⟩ ⟨k, hx, h4, h5, h6, h7, h8⟩ ih
 simp only at hx h5 h6 h7 h8
 subst hx
 dsimp only
 rw [List.length_replicate, Int.toNat_natCast, at_ok, at_ok]
 have da := dig_at ha k; have db := dig_at hb k
 refine Ok.cd (fun h => ?_) (fun h => ?_)
 · have hk : k < M + 1 := by simp at h; omega
   show Ok (cdO _ _ _) _
   generalize hs : wrapF .u32 (wrapF .u32 (a.getD k 0 + b.getD k 0) + c) = s
   have hs' : s = a.getD k 0 + b.getD k 0 + c := by rw [← hs, wrapU32_in (n := a.getD k 0 + b.getD k 0) (by omega) (by omega), wrapU32_in (by omega) (by omega)]
   have step : ∀ d c', (0 ≤ d ∧ d < 1000000000) → (c' = 0 ∨ c' = 1) → s = d + 1000000000 * c' → Ok (again (out.set k d, c', ((k + 1 : Nat) : Int))) fun r => Dig r ∧ r.length ≤ 900 ∧ vl r = vl a + vl b := by
    intro d c' hd hc hsd
    refine ih _ ⟨k + 1, rfl, by omega, by simpa using h5, dig_set h6 hd, hc, ?_⟩ (by simp; omega)
    simp only
    rw [vk_set1 (by omega), vk_succ, vk_succ, pB_succ]
    have : a.getD k 0 + b.getD k 0 + c = d + 1000000000 * c' := by omega
    grind
   rw [w64_nat (by omega), inR_nat, Int.toNat_natCast]
   refine Ok.cd (fun h => ?_) (fun h => ?_)
   · have hge : s ≥ 1000000000 := by simpa using h
     rw [wrapU32_in (by omega) (by omega)]
     exact Ok.gd (by simp; omega) (step _ 1 (by omega) (.inr rfl) (by omega))
   · have hge : s < 1000000000 := by simpa using h
     exact Ok.gd (by simp; omega) (step _ 0 (by omega) (.inl rfl) (by omega))
 · have hk : k = M + 1 := by simp at h; omega
   subst hk
   refine ok_some.2 ⟨h6, by omega, ?_⟩
   rw [vk_len (by omega), vk_len (by omega), vk_len (by omega)] at h8
   have := vl_lt h6
   have hA := vl_lt ha; have hB := vl_lt hb
   have p1 := pB_mono (by omega : a.length ≤ M); have p2 := pB_mono (by omega : b.length ≤ M)
   have p3 := pB_succ M
   rcases h7 with h7 | h7
   · rw [h7] at h8; omega
   · rw [h7] at h8; have := vl_nonneg h6; have := pB_pos M; omega
theorem minus_ok {n : Nat} {a b : List Int} (hn : 1000 ≤ n) (ha : Dig a) (hb : Dig b) (la : a.length ≤ 400) (lb : b.length ≤ a.length) (hle : vl b ≤ vl a) : Ok (integer_minus n a b) fun r => Can r ∧ vl r = vl a - vl b := by
 unfold integer_minus
 refine Ok.gd (by simp) (Ok.gd (by simp; omega) (Ok.gd (by simp; omega) ?_))
 refine Ok.bd (R := fun r => Dig r ∧ r.length ≤ 900 ∧ vl r = vl a - vl b) ?_ (fun r h => Ok.bd (trim_ok hn h.1 h.2.1) fun z hz => ok_some.2 ⟨hz.1, hz.2.trans h.2.2⟩)
 refine ok_loop (fun x : List Int × Int × Int => ∃ k : Nat, x.2.2 = (k : Int) ∧ k ≤ a.length ∧ x.1.length = a.length ∧ Dig x.1 ∧ (x.2.1 = 0 ∨ x.2.1 = 1) ∧ vk x.1 k - pB k * x.2.1 = vk a k - vk b k) (fun x => a.length - x.2.2.toNat) ?_ n _
  ⟨0, rfl, by omega, by simp, dig_rep _, .inl rfl, by simp [vk_zero]⟩ (by simp; omega)
 rintro again ⟨out, c, x⟩ ⟨k, hx, h4, h5, h6, h7, h8⟩ ih
 simp only at hx h5 h6 h7 h8
 subst hx
 dsimp only
 rw [List.length_replicate, Int.toNat_natCast, at_ok]
 have da := dig_at ha k; have db := dig_at hb k
 refine Ok.cd (fun h => ?_) (fun h => ?_)
 · have hk : k < a.length := by simp at h; omega
   show Ok (gdO _ _) _
   refine Ok.gd (by rw [inR_nat]; simpa using hk) ?_
   rw [gt_int]
   generalize hs : wrapF .u32 (b.getD k 0 + c) = s
   have hs' : s = b.getD k 0 + c := by rw [← hs, wrapU32_in (by omega) (by omega)]
   have step : ∀ d c', (0 ≤ d ∧ d < 1000000000) → (c' = 0 ∨ c' = 1) → a.getD k 0 - s = d - 1000000000 * c' → Ok (again (out.set k d, c', ((k + 1 : Nat) : Int))) fun r => Dig r ∧ r.length ≤ 900 ∧ vl r = vl a - vl b := by
    intro d c' hd hc hsd
    refine ih _ ⟨k + 1, rfl, by omega, by simpa using h5, dig_set h6 hd, hc, ?_⟩ (by simp; omega)
    simp only
    rw [vk_set1 (by omega), vk_succ, vk_succ, pB_succ]
    have : a.getD k 0 - b.getD k 0 - c = d - 1000000000 * c' := by omega
    grind
   rw [w64_nat (by omega), inR_nat, Int.toNat_natCast]
   refine Ok.cd (fun h => ?_) (fun h => ?_)
   · have hge : a.getD k 0 < s := by simpa using h
     rw [wrapU32_in (n := a.getD k 0 + 1000000000) (by omega) (by omega), wrapU32_in (by omega) (by omega)]
     exact Ok.gd (by simp; omega) (step _ 1 (by omega) (.inr rfl) (by omega))
   · have hge : s ≤ a.getD k 0 := by simpa using h
     rw [wrapU32_in (by omega) (by omega)]
     exact Ok.gd (by simp; omega) (step _ 0 (by omega) (.inl rfl) (by omega))
 · have hk : k = a.length := by simp at h; omega
   subst hk
   refine ok_some.2 ⟨h6, by omega, ?_⟩
   rw [vk_len (by omega), vk_len (by omega), vk_len (by omega)] at h8
   have := vl_lt h6
   rw [h5] at this
   rcases h7 with h7 | h7
   · rw [h7] at h8; omega
   · rw [h7] at h8; omega
theorem compare_ok {n : Nat} {a b : List Int} (ha : Can a) (hb : Can b) (la : a.length ≤ 400) (lb : b.length ≤ 400) : integer_compare n a b = some (sgn (vl a - vl b)) := by
 unfold integer_compare
 have e1 : decide (a.length ≤ 1099511627776) = true := by simp; omega
 have e2 : decide (b.length ≤ 1099511627776) = true := by simp; omega
 rw [e1, e2]
 show some _ = _
 by_cases h : a.length = b.length
 · rw [decide_eq_true h, cond_true, cmpE_vl ha.dig hb.dig h]
 · rw [decide_eq_false h, cond_false]
   unfold cmp3
   by_cases h' : a.length < b.length
   · have := can_lt_len ha.dig hb h'
     rw [if_pos (by omega), sgn_of_neg (by omega)]
   · have := can_lt_len hb.dig ha (by omega)
     rw [if_neg (by omega), if_pos (by omega), sgn_pos (by omega)]
end Go.L

