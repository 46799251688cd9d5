/- The law ChangeMerges answers true. -/
import Derived.Test.YtlajgmapmocpbabGreatMergL59t
import Derived.Test.YtlajgmapmocpbabGreatPl2d
set_option linter.unusedVariables false
set_option linter.unusedSimpArgs false
namespace Go.L
open Go Go.Eng

/-- What two heights with bounds say together: the height, the bound, a contradiction. -/
def mrgC (x e y f : Int) : Int × Int × Bool :=
  bif isN x then (bif isN y then (x, 0, false) else (y, f, false)) else bif isN y then (x, e, false) else
    bif decide (mx (x - e) (y - f) ≤ mn (x + e) (y + f)) then ((mx (x - e) (y - f) + mn (x + e) (y + f)) / 2, mn (x + e) (y + f) - (mx (x - e) (y - f) + mn (x + e) (y + f)) / 2, false) else (-2147483648, 0, true)
def mrg (a b : api_Banded) (k : Nat) : Int × Int × Bool := mrgC (a.Grid.Z.getD k default) (a.Err.getD k default) (b.Grid.Z.getD k default) (b.Err.getD k default)
def mrgZ (a b : api_Banded) (k : Nat) : List Int := (List.range k).map fun j => (mrg a b j).1
def mrgE (a b : api_Banded) (k : Nat) : List Int := (List.range k).map fun j => (mrg a b j).2.1
def mrgX (a b : api_Banded) (k : Nat) : List Int := ((List.range k).filter fun j => (mrg a b j).2.2).map fun (j : Nat) => (j : Int)
theorem mrgZ_len (a b : api_Banded) (k : Nat) : (mrgZ a b k).length = k := by simp [mrgZ]
theorem mrgE_len (a b : api_Banded) (k : Nat) : (mrgE a b k).length = k := by simp [mrgE]
theorem mrgX_len (a b : api_Banded) (k : Nat) : (mrgX a b k).length ≤ k := by
  unfold mrgX; rw [List.length_map]; exact Nat.le_trans (List.length_filter_le _ _) (by simp)
theorem mrg_snoc (a b : api_Banded) (k : Nat) : mrgZ a b (k + 1) = mrgZ a b k ++ [(mrg a b k).1] ∧ mrgE a b (k + 1) = mrgE a b k ++ [(mrg a b k).2.1] ∧ mrgX a b (k + 1) = (if (mrg a b k).2.2 = true then mrgX a b k ++ [(k : Int)] else mrgX a b k) := by
  unfold mrgZ mrgE mrgX
  rw [List.range_succ]
  refine ⟨by simp, by simp, ?_⟩
  rw [List.filter_append]
  cases h : (mrg a b k).2.2 <;> simp [h]
/-- The bounds of what is computed. -/
structure Cell (x e y f : Int) : Prop where
  x : x = -2147483648 ∨ (-1048576 ≤ x ∧ x ≤ 1048576)
  y : y = -2147483648 ∨ (-1048576 ≤ y ∧ y ≤ 1048576)
  e : 0 ≤ e ∧ e ≤ 1048576
  f : 0 ≤ f ∧ f ≤ 1048576
theorem cell_of {a b : api_Banded} (f : Fits2 a b) {k : Nat} (hk : k < a.Grid.Z.length) : Cell (a.Grid.Z.getD k default) (a.Err.getD k default) (b.Grid.Z.getD k default) (b.Err.getD k default) :=
  have hkb : k < b.Grid.Z.length := by rw [f.len]; exact hk
  ⟨f.ga.z k hk, f.gb.z k hkb, f.ga.e k (by rw [f.ga.elen]; exact hk), f.gb.e k (by rw [f.gb.elen]; exact hkb)⟩
theorem guards {α : Type} {k : Nat} (hk : k ≤ 4096) {t : Option α} : gdO (decide ((k + 1) * 8 ≤ 140737488355328)) (gdO (decide (k + 1 ≤ 4611686018427387904)) t) = t := by
  have g1 : decide ((k + 1) * 8 ≤ 140737488355328) = true := by simp; omega
  have g2 : decide (k + 1 ≤ 4611686018427387904) = true := by simp; omega
  rw [g1, g2]; rfl
theorem merge_v {n : Nat} (hn : 4096 < n) {a b : api_Banded} (f : Fits2 a b) (hs : Short n [a, b]) (hc : codeF [a, b] = 0) :
    change_Merge n a b = some (api_Banded.mk (api_Grid.mk a.Grid.X0 a.Grid.Y0 a.Grid.Step a.Grid.Width a.Grid.Height (mrgZ a b a.Grid.Z.length)) (mrgE a b a.Grid.Z.length), mrgX a b a.Grid.Z.length, 0) := by
  have hlen := good_short f.ga
  apply Ok.eq
  unfold change_Merge
  refine Ok.bde (fit_v hs) ?_
  rw [hc]
  refine Ok.cd (fun h => by simp at h) (fun _ => ?_)
  refine Ok.bd (R := fun o => o = (mrgZ a b a.Grid.Z.length, mrgE a b a.Grid.Z.length, mrgX a b a.Grid.Z.length)) ?_ (fun r hr => by subst hr; exact ok_some.2 rfl)
  refine ok_loop (fun s : List Int × List Int × List Int × Int => ∃ k : Nat, k ≤ a.Grid.Z.length ∧ s = (mrgZ a b k, mrgE a b k, mrgX a b k, (k : Int))) (fun s => a.Grid.Z.length - s.2.2.2.toNat) ?_ n _ ⟨0, Nat.zero_le _, rfl⟩ (by simp; omega)
  rintro again _ ⟨k, hk, rfl⟩ ih
  simp only
  by_cases hlt : k < a.Grid.Z.length
  · have hkb : k < b.Grid.Z.length := by rw [f.len]; exact hlt
    refine Ok.cd (fun _ => ?_) (fun h => by simp at h; omega)
    refine Ok.gd (by rw [inR_nat]; simpa using hlt) (Ok.gd (by rw [inR_nat, f.ga.elen]; simpa using hlt) (Ok.gd (by rw [inR_nat]; simpa using hkb) (Ok.gd (by rw [inR_nat, f.gb.elen]; simpa using hkb) ?_)))
    have hC := cell_of f hlt
    obtain ⟨s1, s2, s3⟩ := mrg_snoc a b k
    have lX := mrgX_len a b k
    simp only [gt_nat, mrgZ_len, mrgE_len, guards (show k ≤ 4096 by omega), guards (show (mrgX a b k).length ≤ 4096 by omega)]
    have hw : wrapF .i64 ((k : Int) + 1) = ((k + 1 : Nat) : Int) := by rw [wrap64_in (by omega) (by omega)]; omega
    rw [hw]
    have next : ∀ z e X, z = (mrg a b k).1 → e = (mrg a b k).2.1 → X = (if (mrg a b k).2.2 = true then mrgX a b k ++ [(k : Int)] else mrgX a b k) → Ok (again (mrgZ a b k ++ [z], mrgE a b k ++ [e], X, ((k + 1 : Nat) : Int))) (fun o => o = (mrgZ a b a.Grid.Z.length, mrgE a b a.Grid.Z.length, mrgX a b a.Grid.Z.length)) := by
      intro z e X hz he hX
      refine ih _ ⟨k + 1, hlt, ?_⟩ (by simp; omega)
      rw [s1, s2, s3, hz, he, hX]
    unfold mrg mrgC at next
    generalize a.Grid.Z.getD k default = x at *
    generalize a.Err.getD k default = e at *
    generalize b.Grid.Z.getD k default = y at *
    generalize b.Err.getD k default = g at *
    unfold isN at next
    refine Ok.cd (fun hx => ?_) (fun hx => ?_)
    · refine Ok.cd (fun hy => ?_) (fun hy => ?_)
      · rw [hx, hy] at next; exact next _ _ _ rfl rfl rfl
      · rw [hx, hy] at next; exact next _ _ _ rfl rfl rfl
    · refine Ok.cd (fun hy => ?_) (fun hy => ?_)
      · rw [hx, hy] at next; exact next _ _ _ rfl rfl rfl
      · rw [hx, hy] at next
        have hx' : x ≠ -2147483648 := by simpa using hx
        have hy' : y ≠ -2147483648 := by simpa using hy
        have bx := hC.x
        have by' := hC.y
        have be := hC.e
        have bf := hC.f
        rw [wrap64_in (n := x - e) (by omega) (by omega), wrap64_in (n := y - g) (by omega) (by omega), wrap64_in (n := x + e) (by omega) (by omega), wrap64_in (n := y + g) (by omega) (by omega)]
        have b1 : -2097152 ≤ mx (x - e) (y - g) ∧ mx (x - e) (y - g) ≤ 2097152 := by unfold mx; split <;> omega
        have b2 : -2097152 ≤ mn (x + e) (y + g) ∧ mn (x + e) (y + g) ≤ 2097152 := by unfold mn; split <;> omega
        generalize mx (x - e) (y - g) = lo at *
        generalize mn (x + e) (y + g) = hi at *
        rw [wrap64_in (n := lo + hi) (by omega) (by omega), show (2 : Int) ^ 1 = 2 from rfl, Int.fdiv_eq_ediv_of_nonneg (lo + hi) (show (0 : Int) ≤ 2 by omega)]
        have b3 : -2097152 ≤ (lo + hi) / 2 ∧ (lo + hi) / 2 ≤ 2097152 := by omega
        rw [wrap64_in (n := hi - (lo + hi) / 2) (by omega) (by omega)]
        refine Ok.cd (fun hle => ?_) (fun hle => ?_)
        · rw [hle] at next; exact next _ _ _ rfl rfl rfl
        · rw [hle] at next; exact next _ _ _ rfl rfl rfl
  · obtain rfl : k = a.Grid.Z.length := by omega
    refine Ok.cd (fun h => by simp at h) (fun _ => ok_some.2 rfl)
theorem merge_fail {n : Nat} {a b : api_Banded} (hs : Short n [a, b]) (hc : codeF [a, b] ≠ 0) : change_Merge n a b = some (api_Banded.mk (api_Grid.mk 0 0 0 0 0 []) [], [], codeF [a, b]) := by
  apply Ok.eq
  unfold change_Merge
  refine Ok.bde (fit_v hs) ?_
  refine Ok.cd (fun _ => ok_some.2 rfl) (fun h => ?_)
  simp at h; exact (hc h).elim
/-- The reference's search for the half. -/
theorem half_v {n : Nat} (hn : 3 < n) {lo hi : Int} (h1 : -2097152 ≤ lo ∧ lo ≤ 2097152) (h2 : -2097152 ≤ hi ∧ hi ≤ 2097152) (hle : lo ≤ hi) :
    loopO (α := Int) (β := Int) n (fun again z => (cdO (decide ((wrapF .i64 (2 * (wrapF .i64 (z + 1)))) ≤ (wrapF .i64 (lo + hi)))) (again (wrapF .i64 (z + (mx 1 (wrapF .i64 ((wrapF .i64 ((wrapF .i64 (lo + hi)) - (wrapF .i64 (2 * z)))).tdiv 2)))))) (some z))) lo = some ((lo + hi) / 2) := by
  apply Ok.eq
  rw [wrap64_in (n := lo + hi) (by omega) (by omega)]
  refine ok_loop (fun z : Int => (z = lo ∨ z = (lo + hi) / 2) ∧ lo ≤ z ∧ 2 * z ≤ lo + hi) (fun z => if z = (lo + hi) / 2 then 0 else 1) ?_ n lo ⟨.inl rfl, by omega, by omega⟩ (by split <;> omega)
  rintro again z ⟨hz, hz1, hz2⟩ ih
  rw [wrap64_in (n := z + 1) (by omega) (by omega), wrap64_in (n := 2 * (z + 1)) (by omega) (by omega), wrap64_in (n := 2 * z) (by omega) (by omega), wrap64_in (n := lo + hi - 2 * z) (by omega) (by omega)]
  refine Ok.cd (fun h => ?_) (fun h => ?_)
  · have h : 2 * (z + 1) ≤ lo + hi := by simpa using h
    have e1 : (lo + hi - 2 * z).tdiv 2 = (lo + hi) / 2 - z := by rw [Int.tdiv_eq_ediv_of_nonneg (by omega)]; omega
    rw [e1, wrap64_in (n := (lo + hi) / 2 - z) (by omega) (by omega)]
    have e2 : mx 1 ((lo + hi) / 2 - z) = (lo + hi) / 2 - z := by unfold mx; split <;> omega
    rw [e2, show z + ((lo + hi) / 2 - z) = (lo + hi) / 2 by omega, wrap64_in (by omega) (by omega)]
    refine ih _ ⟨.inr rfl, by omega, by omega⟩ ?_
    rw [if_pos rfl, if_neg (by omega)]; omega
  · have h : ¬ 2 * (z + 1) ≤ lo + hi := by simpa using h
    exact ok_some.2 (by omega)
theorem merged_v {n : Nat} (hn : 4096 < n) {a b : api_Banded} (f : Fits2 a b) :
    fiduciallaw59_merged n a b = some (api_Banded.mk (api_Grid.mk a.Grid.X0 a.Grid.Y0 a.Grid.Step a.Grid.Width a.Grid.Height (mrgZ a b a.Grid.Z.length)) (mrgE a b a.Grid.Z.length), mrgX a b a.Grid.Z.length) := by
  have hlen := good_short f.ga
  apply Ok.eq
  unfold fiduciallaw59_merged
  refine Ok.bd (R := fun o => o = (mrgZ a b a.Grid.Z.length, mrgE a b a.Grid.Z.length, mrgX a b a.Grid.Z.length)) ?_ (fun r hr => by subst hr; exact ok_some.2 rfl)
  refine ok_loop (fun s : List Int × List Int × List Int × Int => ∃ k : Nat, k ≤ a.Grid.Z.length ∧ s = (mrgZ a b k, mrgE a b k, mrgX a b k, (k : Int))) (fun s => a.Grid.Z.length - s.2.2.2.toNat) ?_ n _ ⟨0, Nat.zero_le _, rfl⟩ (by simp; omega)
  rintro again _ ⟨k, hk, rfl⟩ ih
  simp only
  by_cases hlt : k < a.Grid.Z.length
  · have hkb : k < b.Grid.Z.length := by rw [f.len]; exact hlt
    have ga : inR (k : Int) a.Err.length = true := by rw [inR_nat, f.ga.elen]; simpa using hlt
    have gb : inR (k : Int) b.Err.length = true := by rw [inR_nat, f.gb.elen]; simpa using hkb
    refine Ok.cd (fun _ => ?_) (fun h => by simp at h; omega)
    refine Ok.gd (by rw [inR_nat]; simpa using hlt) (Ok.gd (by rw [inR_nat]; simpa using hkb) ?_)
    have hC := cell_of f hlt
    obtain ⟨s1, s2, s3⟩ := mrg_snoc a b k
    have lX := mrgX_len a b k
    simp only [gt_nat, mrgZ_len, mrgE_len, guards (show k ≤ 4096 by omega), guards (show (mrgX a b k).length ≤ 4096 by omega)]
    have hw : wrapF .i64 ((k : Int) + 1) = ((k + 1 : Nat) : Int) := by rw [wrap64_in (by omega) (by omega)]; omega
    rw [hw]
    have next : ∀ z e X, z = (mrg a b k).1 → e = (mrg a b k).2.1 → X = (if (mrg a b k).2.2 = true then mrgX a b k ++ [(k : Int)] else mrgX a b k) → Ok (again (mrgZ a b k ++ [z], mrgE a b k ++ [e], X, ((k + 1 : Nat) : Int))) (fun o => o = (mrgZ a b a.Grid.Z.length, mrgE a b a.Grid.Z.length, mrgX a b a.Grid.Z.length)) := by
      intro z e X hz he hX
      refine ih _ ⟨k + 1, hlt, ?_⟩ (by simp; omega)
      rw [s1, s2, s3, hz, he, hX]
    unfold mrg mrgC at next
    generalize a.Grid.Z.getD k default = x at *
    generalize a.Err.getD k default = e at *
    generalize b.Grid.Z.getD k default = y at *
    generalize b.Err.getD k default = g at *
    unfold isN at next
    refine Ok.cd (fun hx => ?_) (fun hx => ?_)
    · have hx : (x == -2147483648) = false := by simpa using hx
      refine Ok.cd (fun hy => ?_) (fun hy => ?_)
      · have hy : (y == -2147483648) = false := by simpa using hy
        rw [hx, hy] at next
        refine Ok.gd ga (Ok.gd gb ?_)
        have hx' : x ≠ -2147483648 := by simpa using hx
        have hy' : y ≠ -2147483648 := by simpa using hy
        have bx := hC.x
        have by' := hC.y
        have be := hC.e
        have bf := hC.f
        rw [wrap64_in (n := x - e) (by omega) (by omega), wrap64_in (n := y - g) (by omega) (by omega), wrap64_in (n := x + e) (by omega) (by omega), wrap64_in (n := y + g) (by omega) (by omega)]
        have b1 : -2097152 ≤ mx (x - e) (y - g) ∧ mx (x - e) (y - g) ≤ 2097152 := by unfold mx; split <;> omega
        have b2 : -2097152 ≤ mn (x + e) (y + g) ∧ mn (x + e) (y + g) ≤ 2097152 := by unfold mn; split <;> omega
        generalize mx (x - e) (y - g) = lo at *
        generalize mn (x + e) (y + g) = hi at *
        refine Ok.cd (fun hle => ?_) (fun hle => ?_)
        · have hle : decide (lo ≤ hi) = false := by simp at hle ⊢; omega
          rw [hle] at next; exact next _ _ _ rfl rfl rfl
        · have hle' : decide (lo ≤ hi) = true := by simp at hle ⊢; omega
          refine Ok.bde (half_v (by omega) b1 b2 (by simpa using hle')) ?_
          have b3 : -2097152 ≤ (lo + hi) / 2 ∧ (lo + hi) / 2 ≤ 2097152 := by omega
          rw [wrap64_in (n := hi - (lo + hi) / 2) (by omega) (by omega)]
          rw [hle'] at next; exact next _ _ _ rfl rfl rfl
      · have hy : (y == -2147483648) = true := by simpa using hy
        rw [hx, hy] at next
        exact Ok.gd ga (next _ _ _ rfl rfl rfl)
    · have hx : (x == -2147483648) = true := by simpa using hx
      refine Ok.cd (fun hy => ?_) (fun hy => ?_)
      · have hy : (y == -2147483648) = false := by simpa using hy
        rw [hx, hy] at next
        exact Ok.gd gb (next _ _ _ rfl rfl rfl)
      · have hy : (y == -2147483648) = true := by simpa using hy
        rw [hx, hy] at next
        exact next _ _ _ (by simpa using (beq_iff_eq.1 hx).symm) rfl rfl
  · obtain rfl : k = a.Grid.Z.length := by omega
    refine Ok.cd (fun h => by simp at h) (fun _ => ok_some.2 rfl)

/-- A list is equal to itself, element by element. -/
theorem self_loop {n : Nat} {s : List Int} (hn : s.length < n) (hl : s.length ≤ 9223372036854775806) :
    loopO (α := Int) (β := Sum (Unit) (Bool)) n (fun again x => (cdO (decide (x < (s.length : Int))) (gdO (inR x s.length) (gdO (inR x s.length) (cdO (((gt s x) : Int) != (gt s x)) (some (Sum.inr (false))) (again (wrapF .i64 (x + 1)))))) (some (Sum.inl ())))) 0 = some (.inl ()) := by
  apply Ok.eq
  refine ok_range (len := s.length) (fun _ => True) hn hl trivial ?_ ?_
  · intro again k hk _ ih
    refine Ok.cd (fun _ => ?_) (fun h => by simp at h; omega)
    refine Ok.gd (by rw [inR_nat]; simpa using hk) (Ok.gd (by rw [inR_nat]; simpa using hk) ?_)
    refine Ok.cd (fun h => by simp at h) (fun _ => ih trivial)
  · intro again _
    exact Ok.cd (fun h => by simp at h) (fun _ => ok_some.2 rfl)
theorem same_self {n : Nat} {a : api_Banded} (h1 : a.Grid.Z.length < n) (h2 : a.Grid.Z.length ≤ 9223372036854775806) (h3 : a.Err.length < n) (h4 : a.Err.length ≤ 9223372036854775806) : fiduciallaw59_same n a a = some true := by
  apply Ok.eq
  unfold fiduciallaw59_same
  refine Ok.cd (fun h => by simp at h) (fun _ => ?_)
  refine Ok.cd (fun h => by simp at h) (fun _ => ?_)
  refine Ok.cd (fun h => by simp at h) (fun _ => ?_)
  refine Ok.cd (fun h => by simp at h) (fun _ => ?_)
  refine Ok.cd (fun h => by simp at h) (fun _ => ?_)
  refine Ok.cd (fun h => by simp at h) (fun _ => ?_)
  refine Ok.cd (fun h => by simp at h) (fun _ => ?_)
  refine Ok.bde (self_loop h1 h2) ?_
  exact Ok.bde (self_loop h3 h4) (ok_some.2 rfl)
theorem equal_self {n : Nat} {s : List Int} (hn : s.length < n) (hl : s.length ≤ 9223372036854775806) : slices_Equal_int_int n s s = some true := by
  apply Ok.eq
  unfold slices_Equal_int_int
  refine Ok.cd (fun h => by simp at h) (fun _ => ?_)
  exact Ok.bde (self_loop hn hl) (ok_some.2 rfl)
theorem contains_i {n : Nat} {s : List Int} {v : Int} (hn : s.length < n) (hl : s.length ≤ 9223372036854775806) : slices_Contains_int_int n s v = some (s.any fun y => v == y) := by
  unfold slices_Contains_int_int
  have : slices_Index_int_int n s v = some (idxB (fun y => v == y) s) := loop_index (p := fun y => v == y) hn hl
  rw [this]
  show some (decide (idxB (fun y => v == y) s ≥ 0)) = _
  rw [idxB_ge]
theorem mrgX_any (a b : api_Banded) {m k : Nat} (hk : k < m) : (mrgX a b m).any (fun y => (k : Int) == y) = (mrg a b k).2.2 := by
  unfold mrgX
  rw [List.any_map, Bool.eq_iff_iff, List.any_eq_true]
  constructor
  · rintro ⟨j, hj, he⟩
    have := (List.mem_filter.1 hj).2
    simp only [Function.comp, beq_iff_eq] at he
    obtain rfl : k = j := by omega
    exact this
  · intro h
    exact ⟨k, List.mem_filter.2 ⟨List.mem_range.2 hk, h⟩, by simp⟩
theorem merges_v (a b : api_Banded) (parts : List Int) (h0 : Bytes parts) : fiduciallaw59_ChangeMerges 5000 a b parts = some true := by
  apply Ok.eq
  unfold fiduciallaw59_ChangeMerges
  refine Ok.bde known59_v ?_
  refine Ok.cd (fun h => by cases h) (fun _ => ?_)
  refine Ok.bde (few_v (by simp) (by simp)) ?_
  refine Ok.cd (fun h => ok_some.2 rfl) (fun hfew => ?_)
  have hfew : fewB [a, b] = true := by simpa using hfew
  have hs := short_of_few (l := [a, b]) (by simp) hfew
  by_cases hc : codeF [a, b] = 0
  · have f := codeF_two hc
    have hlen := good_short f.ga
    refine Ok.bde (merge_v (by decide) f hs hc) ?_
    refine Ok.bde (fits_v hs) ?_
    rw [hc]
    refine Ok.cd (fun h => by simp at h) (fun _ => ?_)
    refine Ok.bde (merged_v (by decide) f) ?_
    refine Ok.cd (fun h => by simp at h) (fun _ => ?_)
    refine Ok.bde (same_self (by simp [mrgZ_len]; omega) (by simp [mrgZ_len]; omega) (by simp [mrgE_len]; omega) (by simp [mrgE_len]; omega)) ?_
    refine Ok.cd (fun h => by simp at h) (fun _ => ?_)
    have lX := mrgX_len a b a.Grid.Z.length
    refine Ok.bde (equal_self (by simp only; omega) (by simp only; omega)) ?_
    refine Ok.cd (fun h => by simp at h) (fun _ => ?_)
    refine Ok.bd (R := fun o => match o with | .inl _ => True | .inr r => r = true) ?_ ?_
    · obtain ⟨m, hm⟩ : ∃ m : Nat, m = min parts.length a.Grid.Z.length := ⟨_, rfl⟩
      have hmn : mn (parts.length : Int) (a.Grid.Z.length : Int) = (m : Int) := by unfold mn; split <;> omega
      rw [hmn]
      refine ok_range (len := m) (fun _ => True) (by omega) (by omega) trivial ?_ ?_
      · intro again k hk _ ih
        have hka : k < a.Grid.Z.length := by omega
        have hkb : k < b.Grid.Z.length := by rw [f.len]; exact hka
        have hkp : k < parts.length := by omega
        refine Ok.cd (fun _ => ?_) (fun h => by simp at h; omega)
        refine Ok.gd (by rw [inR_nat]; simpa using hka) ?_
        simp only [gt_nat]
        refine Ok.cd (fun _ => ih trivial) (fun hx => ?_)
        refine Ok.gd (by rw [inR_nat]; simpa using hkb) ?_
        refine Ok.cd (fun _ => ih trivial) (fun hy => ?_)
        refine Ok.gd (by rw [inR_nat]; simpa using hkp) ?_
        have p0 := h0 k hkp
        refine Ok.bde (truth_v f.ga hka p0.1 p0.2) ?_
        refine Ok.gd (by rw [inR_nat, f.gb.elen]; simpa using hkb) ?_
        have ea := f.ga.e k (by rw [f.ga.elen]; exact hka)
        have ta := truth_bd ea.1 p0.1 p0.2
        have hC := cell_of f hka
        have hX := mrgX_any a b hka
        have hZ : (mrgZ a b a.Grid.Z.length).getD k default = (mrg a b k).1 := getD_map_range hka
        have hE : (mrgE a b a.Grid.Z.length).getD k default = (mrg a b k).2.1 := getD_map_range hka
        have htr : truthS a k (parts.getD k default) = a.Grid.Z.getD k default - a.Err.getD k default + (truthS a k (parts.getD k default) - (a.Grid.Z.getD k default - a.Err.getD k default)) := by omega
        have tlo : a.Grid.Z.getD k default - a.Err.getD k default ≤ truthS a k (parts.getD k default) ∧ truthS a k (parts.getD k default) ≤ a.Grid.Z.getD k default + a.Err.getD k default := by
          unfold truthS; omega
        rw [hZ, hE]
        unfold mrg mrgC isN at *
        generalize truthS a k (parts.getD k default) = t at *
        generalize a.Grid.Z.getD k default = x at *
        generalize a.Err.getD k default = e at *
        generalize b.Grid.Z.getD k default = y at *
        generalize b.Err.getD k default = g at *
        have bx := hC.x
        have by' := hC.y
        have be := hC.e
        have bf := hC.f
        have hx' : x ≠ -2147483648 := by simpa using hx
        have hy' : y ≠ -2147483648 := by simpa using hy
        rw [hx, hy]
        rw [hx, hy] at hX
        rw [wrap64_in (n := y - g) (by omega) (by omega), wrap64_in (n := y + g) (by omega) (by omega)]
        refine Ok.cd (fun _ => ih trivial) (fun hlo => ?_)
        refine Ok.cd (fun _ => ih trivial) (fun hhi => ?_)
        have hlo : ¬ t < y - g := by simpa using hlo
        have hhi : ¬ t > y + g := by simpa using hhi
        have l1 : mx (x - e) (y - g) ≤ t := by unfold mx; split <;> omega
        have l2 : t ≤ mn (x + e) (y + g) := by unfold mn; split <;> omega
        have b1 : -2097152 ≤ mx (x - e) (y - g) ∧ mx (x - e) (y - g) ≤ 2097152 := by unfold mx; split <;> omega
        have b2 : -2097152 ≤ mn (x + e) (y + g) ∧ mn (x + e) (y + g) ≤ 2097152 := by unfold mn; split <;> omega
        have hd : decide (mx (x - e) (y - g) ≤ mn (x + e) (y + g)) = true := by simp; omega
        rw [hd] at hX ⊢
        simp only [cond_false, cond_true] at hX ⊢
        refine Ok.bde (contains_i (by omega) (by omega)) ?_
        rw [hX]
        refine Ok.cd (fun h => by cases h) (fun _ => ?_)
        refine Ok.gd (by rw [inR_nat]; simp [mrgZ_len]; omega) (Ok.gd (by rw [inR_nat]; simp [mrgE_len]; omega) ?_)
        generalize mx (x - e) (y - g) = lo at *
        generalize mn (x + e) (y + g) = hi at *
        have b3 : -2097152 ≤ (lo + hi) / 2 ∧ (lo + hi) / 2 ≤ 2097152 := by omega
        have w1 := wrap64_in (n := (lo + hi) / 2 - (hi - (lo + hi) / 2)) (by omega) (by omega)
        have w2 := wrap64_in (n := (lo + hi) / 2 + (hi - (lo + hi) / 2)) (by omega) (by omega)
        refine Ok.cd (fun h => ?_) (fun _ => ?_)
        · have h : t < wrapF .i64 ((lo + hi) / 2 - (hi - (lo + hi) / 2)) := of_decide_eq_true h
          rw [w1] at h; omega
        refine Ok.cd (fun h => ?_) (fun _ => ih trivial)
        have h : t > wrapF .i64 ((lo + hi) / 2 + (hi - (lo + hi) / 2)) := of_decide_eq_true h
        rw [w2] at h; omega
      · intro again _
        exact Ok.cd (fun h => by simp at h) (fun _ => ok_some.2 trivial)
    · rintro (_ | r) h
      · exact ok_some.2 rfl
      · exact ok_some.2 h
  · refine Ok.bde (merge_fail hs hc) ?_
    refine Ok.bde (fits_v hs) ?_
    refine Ok.cd (fun _ => ?_) (fun h => by simp at h; exact (hc h).elim)
    refine Ok.cd (fun _ => ?_) (fun h => by simp at h)
    refine Ok.bde (same_self (by simp) (by simp) (by simp) (by simp)) ?_
    exact Ok.cd (fun _ => ok_some.2 rfl) (fun h => by cases h)
end Go.L
