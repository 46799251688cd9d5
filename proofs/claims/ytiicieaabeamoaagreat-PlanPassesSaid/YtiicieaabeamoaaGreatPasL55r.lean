import Derived.Test.YtiicieaabeamoaaGreatPasL55a
set_option linter.all false
namespace Go.L
open Go Go.Eng
structure RowIn (N num den p : Int) : Prop where
 n : 1 ≤ N ∧ N ≤ 1048576
 num : 1 ≤ num ∧ num ≤ 2199023255552
 den : 1 ≤ den ∧ den ≤ 1048576
 p : 0 ≤ p ∧ p ≤ 95
def ra (num den : Int) : Int := num / (2 * den)
def rb (N num den : Int) : Int := N - num / (2 * den)
def rd (num den p : Int) : Int := (100 - p) * num / (100 * den)
theorem ra_in {N num den p : Int} (h : RowIn N num den p) : 0 ≤ ra num den ∧ ra num den ≤ 2199023255552 := by
 have h1 := h.num; have h2 := h.den
 unfold ra
 have e1 := Int.ediv_nonneg (show 0 ≤ num by omega) (show 0 ≤ 2 * den by omega)
 have e2 := Int.ediv_le_self (2 * den) (show 0 ≤ num by omega)
 omega
theorem rd_in {N num den p : Int} (h : RowIn N num den p) : 0 ≤ rd num den p ∧ rd num den p ≤ 219902325555200 := by
 have h1 := h.num; have h2 := h.den; have h3 := h.p
 unfold rd
 have m1 := Int.mul_le_mul (show 100 - p ≤ 100 by omega) h1.2 (by omega) (by omega)
 have m2 := Int.mul_nonneg (show 0 ≤ 100 - p by omega) (show 0 ≤ num by omega)
 have e1 := Int.ediv_nonneg m2 (show 0 ≤ 100 * den by omega)
 have e2 := Int.ediv_le_self (100 * den) m2
 omega
theorem rexp {N num den p : Int} (h : RowIn N num den p) :
  wrapF .i64 (2 * den) = 2 * den ∧ wrapF .i64 (100 * den) = 100 * den ∧ wrapF .i64 (num.tdiv (2 * den)) = ra num den ∧ wrapF .i64 (N - ra num den) = rb N num den ∧
  wrapF .i64 ((wrapF .i64 (wrapF .i64 (100 - p) * num)).tdiv (100 * den)) = rd num den p := by
 have h0 := h.n; have h1 := h.num; have h2 := h.den; have h3 := h.p
 have ha := ra_in h; have hd := rd_in h
 have m1 := Int.mul_le_mul (show 100 - p ≤ 100 by omega) h1.2 (by omega) (by omega)
 have m2 := Int.mul_nonneg (show 0 ≤ 100 - p by omega) (show 0 ≤ num by omega)
 have e1 : num.tdiv (2 * den) = ra num den := Int.tdiv_eq_ediv_of_nonneg (by omega)
 have e2 : ((100 - p) * num).tdiv (100 * den) = rd num den p := Int.tdiv_eq_ediv_of_nonneg m2
 refine ⟨wrap64_in (by omega) (by omega), wrap64_in (by omega) (by omega), ?_, ?_, ?_⟩
 · rw [e1, wrap64_in (by omega) (by omega)]
 · rw [wrap64_in (by omega) (by omega)]; rfl
 · rw [wrap64_in (n := 100 - p) (by omega) (by omega), wrap64_in (n := (100 - p) * num) (by omega) (by omega), e2, wrap64_in (by omega) (by omega)]
def rm (a b d : Int) : Nat := ((b - a + d - 1) / d).toNat
theorem rm_spec {a b d : Int} (hab : a < b) (hd : 1 ≤ d) : 1 ≤ rm a b d ∧ a + ((rm a b d : Nat) : Int) * d ≥ b ∧ (∀ k : Nat, k < rm a b d → a + (k : Int) * d < b) ∧ ((rm a b d : Nat) : Int) = (b - a + d - 1) / d := by
 have hq := Int.mul_ediv_add_emod (b - a + d - 1) d
 have hr := Int.emod_nonneg (b - a + d - 1) (show d ≠ 0 by omega)
 have hr2 := Int.emod_lt_of_pos (b - a + d - 1) (show 0 < d by omega)
 have h1 : 1 ≤ (b - a + d - 1) / d := (Int.le_ediv_iff_mul_le (by omega)).2 (by omega)
 have e : ((rm a b d : Nat) : Int) = (b - a + d - 1) / d := by unfold rm; omega
 refine ⟨by omega, ?_, fun k hk => ?_, e⟩
 · rw [e, Int.mul_comm]; omega
 · have hk1 : (k : Int) + 1 ≤ (b - a + d - 1) / d := by omega
   have := (Int.le_ediv_iff_mul_le (show 0 < d by omega)).1 hk1
   rw [Int.add_mul, Int.one_mul] at this
   omega
def stps (a d : Int) (k : Nat) : List Int := (List.range k).map fun i : Nat => a + (i : Int) * d
theorem stps_len (a d : Int) (k : Nat) : (stps a d k).length = k := by simp [stps]
theorem stps_succ (a d : Int) (k : Nat) : stps a d (k + 1) = stps a d k ++ [a + (k : Int) * d] := by simp [stps, List.range_succ]
def rcnt (a b d : Int) : Int := if b ≤ a then 1 else if d = 0 then 0 else (rm a b d : Int) + 1
def rlst (N a b d : Int) (c : Nat) : List Int := if b ≤ a then [max b (min a (N / 2))] else stps a d (min (rm a b d) c) ++ [b]
theorem newRow_v {n : Nat} {N num den p : Int} (h : RowIn N num den p) : plan_newRow n N num den p = some (plan_row.mk (ra num den) (rb N num den) (rd num den p)) := by
 obtain ⟨e1, e2, e3, e4, e5⟩ := rexp h
 have h2 := h.den
 unfold plan_newRow
 rw [e1, e2, e3, e4, e5]
 have d1 : (!decide (2 * den = 0)) = true := by simp; omega
 have d2 : (!decide (100 * den = 0)) = true := by simp; omega
 rw [d1, d2]; rfl
theorem count_v {n : Nat} {a b d : Int} (ha : 0 ≤ a ∧ a ≤ 2199023255552) (hb : -2199023255552 ≤ b ∧ b ≤ 1048576) (hd : 0 ≤ d ∧ d ≤ 219902325555200) : fiducial_plan_row_count n (plan_row.mk a b d) = some (rcnt a b d) := by
 unfold fiducial_plan_row_count rcnt
 by_cases h1 : b ≤ a
 · simp [cdO, h1]
 · by_cases h2 : d = 0
   · simp [cdO, h1, h2]
   · obtain ⟨g1, g2, g3, g4⟩ := rm_spec (show a < b by omega) (show 1 ≤ d by omega)
     have hq : 0 ≤ (b - a + d - 1) / d := by omega
     have hq2 := Int.ediv_le_self d (show 0 ≤ b - a + d - 1 by omega)
     simp only [h1, h2, decide_false, cdO, if_false]
     have b1 : (d == 0) = false := by simpa using h2
     have e : wrapF .i64 ((wrapF .i64 ((wrapF .i64 ((wrapF .i64 ((wrapF .i64 (b - a)) + d)) - 1)).tdiv d)) + 1) = (rm a b d : Int) + 1 := by
      rw [wrap64_in (n := b - a) (by omega) (by omega), wrap64_in (n := b - a + d) (by omega) (by omega), wrap64_in (n := b - a + d - 1) (by omega) (by omega), Int.tdiv_eq_ediv_of_nonneg (by omega), ← g4]
      rw [← g4] at hq2
      rw [wrap64_in (n := (rm a b d : Int)) (by omega) (by omega), wrap64_in (by omega) (by omega)]
     simp only [b1, Bool.not_false, gdO, e]
theorem mnmx {x b a : Int} (h : b ≤ a) : mn (mx x b) a = max b (min a x) := by unfold mn mx; omega
theorem list_v {n : Nat} {N a b d : Int} (hN : 1 ≤ N ∧ N ≤ 1048576) (ha : 0 ≤ a ∧ a ≤ 2199023255552) (hb : b ≤ 1048576) (hd : 0 ≤ d ∧ d ≤ 219902325555200) (h0 : rcnt a b d ≠ 0) (hc : rcnt a b d ≤ 256) (hn : 1000 ≤ n) :
  fiducial_plan_row_list n (plan_row.mk a b d) N = some (rlst N a b d 300) := by
 apply Ok.eq
 unfold fiducial_plan_row_list rlst
 unfold rcnt at h0 hc
 by_cases h1 : b ≤ a
 · refine Ok.cd (fun _ => ok_some.2 ?_) (fun h => absurd h1 (of_decide_eq_false h))
   rw [if_pos h1, Int.tdiv_eq_ediv_of_nonneg (by omega), wrap64_in (by omega) (by omega)]
   show [mn (mx (N / 2) b) a] = _
   rw [mnmx h1]
 · rw [if_neg h1] at h0 hc
   rw [if_neg h1]
   by_cases h2 : d = 0
   · rw [if_pos h2] at h0; exact absurd rfl h0
   rw [if_neg h2] at hc
   obtain ⟨g1, g2, g3, g4⟩ := rm_spec (show a < b by omega) (show 1 ≤ d by omega)
   have hmin : min (rm a b d) 300 = rm a b d := by omega
   rw [hmin]
   refine Ok.cd (fun h => absurd (of_decide_eq_true h) h1) (fun _ => ?_)
   refine Ok.bd (R := fun o => o = stps a d (rm a b d)) ?_ ?_
   · refine ok_loop (fun s : List Int × Int => ∃ k : Nat, k ≤ rm a b d ∧ s.1 = stps a d k ∧ s.2 = a + (k : Int) * d) (fun s => 900 - s.1.length) ?_ n _ ⟨0, by omega, rfl, by simp⟩ ?_
     · rintro again ⟨l, x⟩ ⟨k, hk, e1, e2⟩ ih
       simp only at e1 e2
       subst e1; subst e2
       refine Ok.cd (fun hlt => ?_) (fun hge => ?_)
       · have hlt := of_decide_eq_true hlt
         have hkm : k < rm a b d := by
          rcases Nat.lt_or_ge k (rm a b d) with h | h
          · exact h
          · have : k = rm a b d := by omega
            rw [this] at hlt; exfalso; first | omega | (simp only at hlt; omega)
         have hx := g3 k hkm
         have hx0 := Int.mul_nonneg (show (0 : Int) ≤ (k : Int) by omega) hd.1
         refine Ok.gd (by rw [stps_len]; simp; omega) (Ok.gd (by rw [stps_len]; simp; omega) ?_)
         refine ih _ ⟨k + 1, hkm, (stps_succ a d k).symm, ?_⟩ ?_
         · simp only
           rw [wrap64_in (by omega) (by omega)]
           have : ((k + 1 : Nat) : Int) * d = (k : Int) * d + d := by rw [Int.natCast_add, Int.add_mul]; simp
           rw [this]; omega
         · simp only [List.length_append, stps_len, List.length_singleton]; omega
       · have hge := of_decide_eq_false hge
         have hkm : k = rm a b d := by
          rcases Nat.lt_or_ge k (rm a b d) with h | h
          · exact absurd (g3 k h) hge
          · omega
         rw [hkm]; exact ok_some.2 rfl
     · simp; omega
   · rintro o rfl
     exact Ok.gd (by rw [stps_len]; simp; omega) (Ok.gd (by rw [stps_len]; simp; omega) (ok_some.2 rfl))
end Go.L

