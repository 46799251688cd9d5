import Derived.Test.YtjpoeeeifgomiaaGreatFewL55b
import Derived.Test.YtjpoeeeifgomiaaGreatFewL55r
import Derived.Test.YtjpoeeeifgomiaaGreatFewL02o
set_option linter.unusedVariables false
set_option linter.unusedSimpArgs false
namespace Go.L
open Go Go.Eng
theorem abs_ok {n : Nat} {x : api_Rat} {v : Int} {k : Nat} (hn : 5000 ≤ n) (hk : k ≤ 60) (hx : R.Qx x (Rat.divInt v 1) k) : Ok (fiducialref02_Abs n x) fun z => R.Qx z (Rat.divInt (v.natAbs : Int) 1) k := by
  unfold fiducialref02_Abs
  refine Ok.bde (R.qSign_ok hn hk hx) ?_
  rw [sgn_one]
  have h0 := sgn_cases v
  refine Ok.cd (fun h => ?_) (fun h => ?_)
  · have h := of_decide_eq_true h
    refine Ok.bd (R.qNeg_ok hn hk hx) fun z hz => ok_some.2 ?_
    rw [neg_one, show -v = (v.natAbs : Int) by omega] at hz; exact hz
  · have h := of_decide_eq_false h
    refine Ok.bde (R.qValue_ok hn hk hx) (ok_some.2 ?_)
    rw [show v = (v.natAbs : Int) by omega] at hx; exact hx
theorem near_ok {n : Nat} (hn : 5000 ≤ n) {x l : api_Rat} {v a p q : Int} (hx : R.Qx x (Rat.divInt v 1) 3) (hl : R.Qx l (Rat.divInt p q) 3) (hq : 0 < q) (ha : -9223372036854775808 ≤ a ∧ a ≤ 9223372036854775807) :
    fiduciallaw55_near n x a l = some (decide (2 * ((v - a).natAbs : Int) * q ≤ p)) := by
  apply Ok.eq
  unfold fiduciallaw55_near
  refine Ok.bd (R.qWhole_ok hn ha.1 ha.2) fun w hw => Ok.bd (R.qSub_ok hn (j := 3) (k := 3) (by omega) hx hw) fun d hd => ?_
  rw [sub_one] at hd
  refine Ok.bd (abs_ok hn (by omega) hd) fun e he => Ok.bd (R.qAdd_ok hn (j := 7) (k := 7) (by omega) he he) fun f hf => ?_
  rw [add_one] at hf
  refine Ok.bde (R.qCompare_ok hn (j := 15) (k := 3) (by omega) hf hl) (ok_some.2 ?_)
  rw [sgn_sub (by omega) hq]
  apply decide_eq_decide.2
  have h0 := sgn_cases ((((v - a).natAbs : Int) + ((v - a).natAbs : Int)) * q - p * 1)
  have e : (((v - a).natAbs : Int) + ((v - a).natAbs : Int)) * q = 2 * ((v - a).natAbs : Int) * q := by congr 1; omega
  rw [e] at h0 ⊢
  omega
structure Cov (l : List Int) (N p q c : Int) : Prop where
  ne : l ≠ []
  fst : 2 * (max 0 (l.getD 0 default)) * q ≤ p
  lst : 2 * (N - l.getD (l.length - 1) default) * q ≤ p
  stp : ∀ i, 1 ≤ i → i < l.length → (l.getD i default - l.getD (i - 1) default) * (100 * q) ≤ (100 - c) * p
theorem w64s {k : Nat} (h : k ≤ 1000000) : wrapF .i64 ((k : Int) + 1) = ((k + 1 : Nat) : Int) := by rw [wrap64_in (by omega) (by omega)]; omega
theorem w64p {k : Nat} (h : 1 ≤ k ∧ k ≤ 1000000) : wrapF .i64 ((k : Int) - 1) = ((k - 1 : Nat) : Int) := by rw [wrap64_in (by omega) (by omega)]; omega
theorem covers_ok {n : Nat} (hn : 5000 ≤ n) {l : List Int} (hl : l.length ≤ 300) (hw : ∀ a ∈ l, -9223372036854775808 ≤ a ∧ a ≤ 9223372036854775807) {N p q c : Int} (hN : 1 ≤ N ∧ N ≤ 1048576) (hq : 0 < q) (hc : 0 ≤ c ∧ c ≤ 95)
    {len : api_Rat} (hx : R.Qx len (Rat.divInt p q) 3) : Ok (fiduciallaw55_covers n l N len c) fun b => b = true → Cov l N p q c := by
  unfold fiduciallaw55_covers
  refine Ok.cd (fun _ => ok_some.2 fun h => by cases h) (fun hne => ?_)
  have hne : l.length ≠ 0 := by simpa using hne
  have hin : ∀ k, k < l.length → -9223372036854775808 ≤ l.getD k default ∧ l.getD k default ≤ 9223372036854775807 := fun k hk => hw _ (by
    simp only [List.getD, List.getElem?_eq_getElem hk, Option.getD_some]; exact List.getElem_mem hk)
  have hf := hin 0 (by omega)
  have hla := hin (l.length - 1) (by omega)
  have e0 : gt l 0 = l.getD 0 default := rfl
  have e1 : wrapF .i64 ((l.length : Int) - 1) = ((l.length - 1 : Nat) : Int) := by rw [wrap64_in (by omega) (by omega)]; omega
  refine Ok.gd (by rw [inR_iff]; omega) ?_
  rw [e0, e1, gt_nat]
  generalize hF : l.getD 0 default = F at *
  generalize hL : l.getD (l.length - 1) default = La at *
  have m1 : mn 0 F = min 0 F := mn_eq 0 F
  have m2 : mx N La = max N La := mx_eq N La
  rw [m1, m2]
  refine Ok.bd (R.qWhole_ok hn (by omega) (by omega)) fun x1 hx1 => Ok.bde (near_ok hn hx1 hx hq hf) (Ok.cd (fun _ => ok_some.2 fun h => by cases h) (fun h1 => ?_))
  have h1 : 2 * ((min 0 F - F).natAbs : Int) * q ≤ p := by simpa using h1
  refine Ok.gd (by rw [inR_nat]; simp; omega) ?_
  refine Ok.bd (R.qWhole_ok hn (by omega) (by omega)) fun x2 hx2 => Ok.bde (near_ok hn hx2 hx hq hla) (Ok.cd (fun _ => ok_some.2 fun h => by cases h) (fun h2 => ?_))
  have h2 : 2 * ((max N La - La).natAbs : Int) * q ≤ p := by simpa using h2
  rw [wrap64_in (n := 100 - c) (by omega) (by omega)]
  refine Ok.bd (R.qOf_ok hn (by omega) (by omega) (by omega) (by omega) (by omega)) fun pt hpt => Ok.bd (R.qMul_ok hn (j := 3) (k := 3) (by omega) hpt.1 hx) fun most hmost => ?_
  rw [Rat.divInt_mul_divInt] at hmost
  have f1 : 2 * (max 0 F) * q ≤ p := by rw [show max 0 F = ((min 0 F - F).natAbs : Int) by omega]; exact h1
  have f2 : 2 * (N - La) * q ≤ p := by
    have : 2 * (N - La) ≤ 2 * ((max N La - La).natAbs : Int) := by omega
    have := Int.mul_le_mul_of_nonneg_right this (show 0 ≤ q by omega)
    omega
  clear e1 e0 m1 m2
  refine Ok.bd (R := fun o => match o with | .inl _ => ∀ i, 1 ≤ i → i < l.length → (l.getD i default - l.getD (i - 1) default) * (100 * q) ≤ (100 - c) * p | .inr r => r = false) ?_ ?_
  · refine ok_loop (fun x : Int => ∃ k : Nat, x = (k : Int) ∧ 1 ≤ k ∧ k ≤ l.length ∧ ∀ i, 1 ≤ i → i < k → (l.getD i default - l.getD (i - 1) default) * (100 * q) ≤ (100 - c) * p) (fun x => 400 - x.toNat) ?_ n 1 ⟨1, rfl, by omega, by omega, fun i h1 h2 => by omega⟩ (by simp; omega)
    rintro again x ⟨k, rfl, k1, k2, hk⟩ ih
    refine Ok.cd (fun hlt => ?_) (fun hge => ?_)
    · have hlt : k < l.length := by simpa using hlt
      have ek : wrapF .i64 ((k : Int) - 1) = ((k - 1 : Nat) : Int) := w64p (by omega)
      rw [ek]
      clear ek
      refine Ok.gd (by rw [inR_nat]; simpa using hlt) (Ok.gd (by rw [inR_nat]; simp; omega) ?_)
      rw [gt_nat, gt_nat]
      refine Ok.cd (fun _ => ok_some.2 rfl) (fun hs => ?_)
      have hs := of_decide_eq_false hs
      refine Ok.bde (out_v (by simp; omega) (by simp)) ?_
      rw [any2]
      refine Ok.cd (fun _ => ok_some.2 rfl) (fun hnear => ?_)
      have hnear : near (l.getD k default) ∧ near (l.getD (k - 1) default) := by
        have := of_decide_eq_false hnear
        exact Decidable.of_not_not this
      generalize hA : l.getD k default = A at *
      generalize hB : l.getD (k - 1) default = B at *
      have n1 := hnear.1; have n2 := hnear.2
      unfold near at n1 n2
      clear hs
      rw [wrap64_in (n := A - B) (by omega) (by omega)]
      refine Ok.bd (R.qWhole_ok hn (by omega) (by omega)) fun y hy => Ok.bde (R.qCompare_ok hn (j := 3) (k := 6) (by omega) hy hmost) ?_
      rw [sgn_sub (by omega) (by omega)]
      refine Ok.cd (fun _ => ok_some.2 rfl) (fun hcmp => ?_)
      have hcmp := of_decide_eq_false hcmp
      have h0 := sgn_cases ((A - B) * (100 * q) - (100 - c) * p * 1)
      have hstep : (A - B) * (100 * q) ≤ (100 - c) * p := by omega
      clear hcmp h0
      rw [w64s (by omega)]
      refine ih _ ⟨k + 1, rfl, by omega, by omega, fun i i1 i2 => ?_⟩ (by simp; omega)
      by_cases hik : i = k
      · subst hik; rw [hA, hB]; exact hstep
      · exact hk i i1 (by omega)
    · have hge := of_decide_eq_false hge
      exact ok_some.2 fun i i1 i2 => hk i i1 (by omega)
  · rintro (_ | r) h
    · exact ok_some.2 fun _ => ⟨fun e => hne (by rw [e]; rfl), by rw [hF]; exact f1, by rw [hL]; exact f2, h⟩
    · exact ok_some.2 fun hr => by rw [h] at hr; cases hr
theorem cov_least {l : List Int} {N p q c : Int} (h : RowIn N p q c) (k : Cov l N p q c) : rcnt (ra p q) (rb N p q) (rd p q c) ≤ l.length := by
  have hq := h.den
  have hne : 0 < l.length := by
    rcases Nat.eq_zero_or_pos l.length with e | e
    · exact absurd (List.length_eq_zero_iff.1 e) k.ne
    · exact e
  have f1 : l.getD 0 default ≤ ra p q := by
    have : max 0 (l.getD 0 default) ≤ p / (2 * q) := (Int.le_ediv_iff_mul_le (by omega)).2 (by have := k.fst; grind)
    unfold ra; omega
  have f2 : rb N p q ≤ l.getD (l.length - 1) default := by
    have : N - l.getD (l.length - 1) default ≤ p / (2 * q) := (Int.le_ediv_iff_mul_le (by omega)).2 (by have := k.lst; grind)
    unfold rb; omega
  have f3 : ∀ i, 1 ≤ i → i < l.length → l.getD i default - l.getD (i - 1) default ≤ rd p q c := fun i i1 i2 => (Int.le_ediv_iff_mul_le (by omega)).2 (k.stp i i1 i2)
  have f4 : ∀ i, i < l.length → l.getD i default ≤ ra p q + (i : Int) * rd p q c := by
    intro i
    induction i with
    | zero => intro _; simp; exact f1
    | succ i ih =>
      intro hi
      have h1 := ih (by omega)
      have h2 := f3 (i + 1) (by omega) hi
      rw [show i + 1 - 1 = i by omega] at h2
      have : ((i + 1 : Nat) : Int) * rd p q c = (i : Int) * rd p q c + rd p q c := by rw [Int.natCast_add, Int.add_mul]; simp
      rw [this]; omega
  have f5 := f4 (l.length - 1) (by omega)
  have hd := rd_in h
  generalize ra p q = a at *
  generalize rb N p q = b at *
  generalize rd p q c = d at *
  unfold rcnt
  by_cases h1 : b ≤ a
  · rw [if_pos h1]; omega
  rw [if_neg h1]
  by_cases h2 : d = 0
  · rw [if_pos h2]; omega
  rw [if_neg h2]
  obtain ⟨g1, g2, g3, g4⟩ := rm_spec (show a < b by omega) (show 1 ≤ d by omega)
  have : ¬ l.length - 1 < rm a b d := fun hlt => by have := g3 _ hlt; omega
  omega
end Go.L

