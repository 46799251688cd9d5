import Derived.Test.YtkhmlbchphhokaaGreatHisL59c
import Derived.Test.YtkhmlbchphhokaaGreatPl6hemhhfkj
set_option linter.unusedVariables false
set_option linter.unusedSimpArgs false
namespace Go.L
open Go Go.Eng
theorem zloH {b : api_Banded} (g : Good b) {k : Nat} (hk : k < b.Grid.Z.length) : -2147483648 ≤ b.Grid.Z.getD k default ∧ b.Grid.Z.getD k default ≤ 1048576 := by
  have := g.z k hk; omega
theorem both_vH {n : Nat} {a b : api_Banded} (f : Fits2 a b) {k : Nat} (hk : k < a.Grid.Z.length) : fiduciallaw59_both n a b k = some (dif a b k, bnd a b k, isOk a b k) := by
  have e1 : inR (k : Int) a.Grid.Z.length = true := by rw [inR_nat]; simpa using hk
  have e2 : inR (k : Int) b.Grid.Z.length = true := by rw [inR_nat, f.len]; simpa using hk
  have e3 : inR (k : Int) a.Err.length = true := by rw [inR_nat, f.ga.elen]; simpa using hk
  have e4 : inR (k : Int) b.Err.length = true := by rw [inR_nat, f.gb.elen, f.len]; simpa using hk
  have z1 := zloH f.ga hk
  have z2 := zloH f.gb (k := k) (by rw [f.len]; exact hk)
  have w1 := f.ga.e k (by rw [f.ga.elen]; exact hk)
  have w2 := f.gb.e k (by rw [f.gb.elen, f.len]; exact hk)
  unfold fiduciallaw59_both
  rw [e1, e2, e3, e4]
  simp only [gt_nat, gdO, isOk, isN]
  rw [wrap64_in (by omega) (by omega), wrap64_in (by omega) (by omega)]
  by_cases h1 : (a.Grid.Z.getD k default == -2147483648) = true
  · have : (a.Grid.Z.getD k default != -2147483648) = false := by simpa using h1
    rw [this, h1]; rfl
  · have h1' : (a.Grid.Z.getD k default == -2147483648) = false := by simpa using h1
    have : (a.Grid.Z.getD k default != -2147483648) = true := by simpa using h1
    rw [this, h1', Bool.false_or]; rfl
theorem lverd_vH {n : Nat} {a b : api_Banded} (f : Fits2 a b) {k : Nat} (hk : k < a.Grid.Z.length) : fiduciallaw59_verdict n a b k = some (verd a b k) := by
  have w1 := f.ga.e k (by rw [f.ga.elen]; exact hk)
  have w2 := f.gb.e k (by rw [f.gb.elen, f.len]; exact hk)
  unfold fiduciallaw59_verdict verd
  rw [both_vH f hk]
  cases isOk a b k with
  | false => rfl
  | true =>
  simp only [bdO, if_true]
  rw [wrap64_in (by unfold bnd; omega) (by unfold bnd; omega)]
  by_cases h1 : dif a b k > bnd a b k
  · simp [h1, cdO]
  · by_cases h2 : dif a b k < -bnd a b k
    · have : dif a b k < 0 - bnd a b k := by omega
      simp [h1, h2, cdO, this]
    · have : ¬ dif a b k < 0 - bnd a b k := by omega
      simp [h1, h2, cdO, this]
def fidx (p : Nat → Bool) : Nat → Int
  | 0 => -1
  | m + 1 => if fidx p m < 0 then (if p m = true then (m : Int) else fidx p m) else fidx p m
theorem fidx_hit {p : Nat → Bool} {k : Nat} (h : fidx p k = -1) (hp : p k = true) : ∀ m, k < m → fidx p m = k
  | 0, hm => by omega
  | m + 1, hm => by
    by_cases he : k = m
    · subst he; simp [fidx, h, hp]
    · have := fidx_hit h hp m (by omega)
      simp only [fidx, this]
      rw [if_neg (by omega)]
theorem fidx_no {p : Nat → Bool} {k : Nat} (h : fidx p k = -1) (hp : p k = false) : fidx p (k + 1) = -1 := by simp [fidx, h, hp]
def isV (v : Int) : Bool := v == 1 || v == 2
def chg : List (Int × Bool) := [(1, true), (2, true)]
theorem chg_v (v : Int) : getM false chg v = isV v := by
  simp only [chg, getM, isV]
  cases v == 1 <;> cases v == 2 <;> rfl
def pk (l : List api_Banded) (k i : Nat) : Bool := isV (verd (l.getD 0 default) (l.getD i default) k)
def AllFit (l : List api_Banded) : Prop := ∀ i, i < l.length → Fits2 (l.getD 0 default) (l.getD i default)
theorem gt_zero {l : List api_Banded} : gt l 0 = l.getD 0 default := rfl
theorem allFit_of {l : List api_Banded} (h : codeF l = 0) (h0 : 0 < l.length) : AllFit l := by
  unfold codeF at h
  cases hf : l.find? (fun b => codeB b != 0) with
  | some b =>
    rw [hf] at h
    have := List.find?_some hf
    simp only at h
    rw [h] at this; simp at this
  | none =>
    rw [hf] at h
    simp only at h
    have hall := List.find?_eq_none.1 hf
    have hg : ∀ i, i < l.length → Good (l.getD i default) := fun i hi => by
      have := hall (l.getD i default) (by simp only [List.getD, List.getElem?_eq_getElem hi, Option.getD_some]; exact List.getElem_mem hi)
      exact good_of (by simpa using this)
    have hany : l.any (fun b => !sameG (l.getD 0 default).Grid b.Grid) = false := by
      cases ha : l.any (fun b => !sameG (l.getD 0 default).Grid b.Grid) with
      | false => rfl
      | true => rw [ha] at h; simp at h
    intro i hi
    have hs := any_false_iff.1 hany i hi
    simp [sameG] at hs
    obtain ⟨⟨⟨⟨h1, h2⟩, h3⟩, h4⟩, h5⟩ := hs
    have gA := hg 0 h0
    have gB := hg i hi
    refine ⟨gA, gB, ?_, h1, h2, h3, h4, h5⟩
    have a1 := gA.len; have a2 := gB.len
    simp only [List.getD] at a1 a2 h4 h5 ⊢
    rw [← h4, ← h5] at a2
    omega
theorem close_v {n : Nat} {l : List api_Banded} (hf : AllFit l) {i k : Nat} (hi : i < l.length) (hk : k < (l.getD 0 default).Grid.Z.length) : change_History_1_w n (l.getD i default) chg l k = some (pk l k i) := by
  unfold change_History_1_w
  rw [show inR 0 l.length = true by simp [inR]; omega]
  simp only [gdO, gt_zero]
  rw [verdict_v (hf i hi) hk]
  simp only [bdO, chg_v]
  rfl
theorem index_v {n : Nat} {l : List api_Banded} (hf : AllFit l) {k : Nat} (hk : k < (l.getD 0 default).Grid.Z.length) (hn : l.length < n) (hl : l.length ≤ 9223372036854775806) :
    slices_IndexFunc_fiducial_api_Banded_fiducial_api_Banded_w_of_change_History_1 n l chg l k = some (fidx (pk l k) l.length) := by
  apply Ok.eq
  unfold slices_IndexFunc_fiducial_api_Banded_fiducial_api_Banded_w_of_change_History_1
  refine Ok.bd (R := fun o => match o with | .inl _ => fidx (pk l k) l.length = -1 | .inr r => r = fidx (pk l k) l.length) ?_ ?_
  · refine ok_range (len := l.length) (fun j => fidx (pk l k) j = -1) hn hl rfl ?_ ?_
    · intro again j hj hP ih
      refine Ok.cd (fun _ => ?_) (fun h => by simp at h; omega)
      refine Ok.gd (by rw [inR_nat]; simpa using hj) ?_
      rw [gt_nat]
      refine Ok.bde (close_v hf hj hk) ?_
      refine Ok.cd (fun h => ok_some.2 (fidx_hit hP h _ hj).symm) (fun h => ih (fidx_no hP h))
    · intro again hP
      exact Ok.cd (fun h => by simp at h) (fun _ => ok_some.2 hP)
  · rintro (_ | r) h
    · exact ok_some.2 (by simp only at h; exact h.symm)
    · exact ok_some.2 h
theorem ext_range {l : List Int} {F : Nat → Int} {m : Nat} (hl : l.length = m) (h : ∀ j, j < m → l.getD j default = F j) : l = (List.range m).map F := by
  apply List.ext_getElem (by simp [hl])
  intro i h1 h2
  have := h i (by omega)
  simp [List.getD, h1] at this
  simp [this]
def hisF (l : List api_Banded) (k : Nat) : Int := fidx (pk l k) l.length
theorem history_v {n : Nat} (hn : 4096 < n) {l : List api_Banded} (hs : Short n l) (h0 : 0 < l.length) (h16 : l.length ≤ 16) (hc : codeF l = 0) :
    change_History n l = some ((List.range (l.getD 0 default).Grid.Z.length).map (hisF l), 0) := by
  have hf := allFit_of hc h0
  have hlen := good_short (hf 0 h0).ga
  generalize hm : (l.getD 0 default).Grid.Z.length = m at *
  apply Ok.eq
  unfold change_History
  simp only [gt_zero, hm]
  refine Ok.cd (fun h => by simp at h; subst h; simp at h0) (fun _ => ?_)
  refine Ok.cd (fun h => by simp at h; omega) (fun _ => ?_)
  refine Ok.bde (fit_v hs) ?_
  rw [hc]
  refine Ok.cd (fun h => by simp at h) (fun _ => ?_)
  refine Ok.gd (by simp [inR]; omega) (Ok.gd (by simp) (Ok.gd (by simp; omega) (Ok.gd (by simp; omega) ?_)))
  refine Ok.bd (R := fun o => o = (List.range m).map (hisF l)) ?_ (fun o h => ok_some.2 (by rw [h]))
  refine ok_rangeG (len := m) (fun (c : List (Int × Bool) × List Int) i => (c.1, c.2, i)) (fun k c => c.1 = chg ∧ c.2.length = m ∧ ∀ j, j < k → c.2.getD j default = hisF l j) (by omega) (by omega) (c0 := (_, _)) ⟨rfl, by simp, by intro j hj; omega⟩ ?_ ?_
  · rintro again k ⟨c1, c2⟩ hk ⟨h1, h2, h3⟩ ih
    simp only at h1 h2 h3 ⊢
    subst h1
    refine Ok.cd (fun _ => ?_) (fun h => by simp at h; omega)
    refine Ok.bde (index_v hf (k := k) (by rw [hm]; exact hk) hs.1 hs.2.1) ?_
    refine Ok.gd (by rw [inR_nat, h2]; simpa using hk) ?_
    refine ih (chg, c2.set (k : Int).toNat (fidx (pk l k) l.length)) ⟨rfl, by simp [h2], ?_⟩
    intro j hj
    by_cases hjk : j = k
    · subst hjk
      simp [List.getD, h2, hk]; rfl
    · have := h3 j (by omega)
      simp only [List.getD] at this ⊢
      rw [Int.toNat_natCast, List.getElem?_set_ne (by omega)]
      exact this
  · rintro again ⟨c1, c2⟩ ⟨h1, h2, h3⟩
    exact Ok.cd (fun h => by simp at h) (fun _ => ok_some.2 (ext_range h2 h3))
theorem history_16 {n : Nat} {l : List api_Banded} (h16 : 16 < l.length) : change_History n l = some ([], 3) := by
  apply Ok.eq
  unfold change_History
  refine Ok.cd (fun h => by simp at h; subst h; simp at h16) (fun _ => ?_)
  exact Ok.cd (fun h => ok_some.2 rfl) (fun h => by simp at h; omega)
theorem history_bad {n : Nat} {l : List api_Banded} (hs : Short n l) (h0 : 0 < l.length) (h16 : l.length ≤ 16) (hc : codeF l ≠ 0) : change_History n l = some ([], codeF l) := by
  apply Ok.eq
  unfold change_History
  refine Ok.cd (fun h => by simp at h; subst h; simp at h0) (fun _ => ?_)
  refine Ok.cd (fun h => by simp at h; omega) (fun _ => ?_)
  refine Ok.bde (fit_v hs) ?_
  exact Ok.cd (fun h => ok_some.2 rfl) (fun h => by simp at h; exact (hc h).elim)
theorem self_loopH {n : Nat} {s : List Int} (hn : s.length < n) (hl : s.length ≤ 9223372036854775806) :
    loopO (α := Int) (β := Sum (Unit) (Bool)) n (fun again x => (cdO (decide (x < (s.length : Int))) (gdO (inR x s.length) (gdO (inR x s.length) (cdO (((gt s x) : Int) != (gt s x)) (some (Sum.inr (false))) (again (wrapF .i64 (x + 1)))))) (some (Sum.inl ())))) 0 = some (.inl ()) := by
  apply Ok.eq
  refine ok_range (len := s.length) (fun _ => True) hn hl trivial ?_ ?_
  · intro again k hk _ ih
    refine Ok.cd (fun _ => ?_) (fun h => by simp at h; omega)
    refine Ok.gd (by rw [inR_nat]; simpa using hk) (Ok.gd (by rw [inR_nat]; simpa using hk) ?_)
    refine Ok.cd (fun h => by simp at h) (fun _ => ih trivial)
  · intro again _
    exact Ok.cd (fun h => by simp at h) (fun _ => ok_some.2 rfl)
theorem equal_selfH {n : Nat} {s : List Int} (hn : s.length < n) (hl : s.length ≤ 9223372036854775806) : slices_Equal_int_int n s s = some true := by
  apply Ok.eq
  unfold slices_Equal_int_int
  refine Ok.cd (fun h => by simp at h) (fun _ => ?_)
  exact Ok.bde (self_loopH hn hl) (ok_some.2 rfl)
theorem his_v (l : List api_Banded) : fiduciallaw59_ChangeHistories 5000 l = some true := by
  apply Ok.eq
  unfold fiduciallaw59_ChangeHistories
  refine Ok.bde known59_v ?_
  refine Ok.cd (fun h => by cases h) (fun _ => ?_)
  refine Ok.cd (fun h => ok_some.2 rfl) (fun h18 => ?_)
  have h18 : l.length ≤ 18 := by simp at h18; omega
  refine Ok.bde (few_v (by omega) (by omega)) ?_
  refine Ok.cd (fun h => ok_some.2 rfl) (fun hfew => ?_)
  have hfew : fewB l = true := by simpa using hfew
  have hs := short_of_few (l := l) (by omega) hfew
  have bad : ∀ (c : Int) (h : List Int × Int), c ≠ 0 → h = ([], c) → ∀ (t : Option Bool), Ok (cdO ((c : Int) != 0) (bdO (α := Bool) (cdO ((h.2 : Int) == c) (some (((h.1.length : Int) : Int) == 0)) (some (false))) fun x => some x) t) (· = true) := by
    rintro c h hc rfl t
    refine Ok.cd (fun _ => ?_) (fun h => by simp at h; exact (hc h).elim)
    refine Ok.bd (R := fun o => o = true) ?_ (fun o h => ok_some.2 h)
    exact Ok.cd (fun _ => ok_some.2 rfl) (fun h => by simp at h)
  by_cases h0 : l.length = 0
  · have : l = [] := List.length_eq_zero_iff.1 h0
    subst this
    exact ⟨true, by kernel_rfl, rfl⟩
  by_cases h16 : 16 < l.length
  · refine Ok.bde (history_16 h16) ?_
    refine Ok.bd (R := fun c => c = 3) ?_ ?_
    · refine Ok.cd (fun h => by simp at h; subst h; simp at h0) (fun _ => ?_)
      exact Ok.cd (fun h => ok_some.2 rfl) (fun h => by simp at h; omega)
    · rintro c rfl
      exact bad 3 _ (by decide) rfl _
  have code : Ok (cdO (((l.length : Int) : Int) == 0) (some (6)) (cdO (decide ((l.length : Int) > 16)) (some (3)) (bdO (fiduciallaw59_fits 5000 l) fun v15 => (some (v15))))) (fun c => c = codeF l) := by
    refine Ok.cd (fun h => by simp at h; subst h; simp at h0) (fun _ => ?_)
    refine Ok.cd (fun h => by simp at h; omega) (fun _ => ?_)
    exact Ok.bde (fits_v hs) (ok_some.2 rfl)
  by_cases hc : codeF l = 0
  rotate_left
  · refine Ok.bde (history_bad hs (by omega) (by omega) hc) ?_
    refine Ok.bd code ?_
    rintro c rfl
    exact bad _ _ hc rfl _
  have hf := allFit_of hc (by omega)
  have hlen := good_short (hf 0 (by omega)).ga
  refine Ok.bde (history_v (by decide) hs (by omega) (by omega) hc) ?_
  refine Ok.bd code ?_
  rintro c rfl
  rw [hc]
  generalize hm : (l.getD 0 default).Grid.Z.length = m at *
  refine Ok.cd (fun h => by simp at h) (fun _ => ?_)
  simp only [gt_zero, hm]
  refine Ok.gd (by simp [inR]; omega) ?_
  refine Ok.bd (R := fun o => o = (List.range m).map (hisF l)) ?_ ?_
  · refine ok_rangeR (len := m) (fun k c => c = (List.range k).map (hisF l)) (by omega) (by omega) rfl ?_ ?_
    · rintro again k c hk rfl ih
      refine Ok.cd (fun _ => ?_) (fun h => by simp at h; omega)
      refine Ok.bd (R := fun o => o = hisF l k) ?_ ?_
      · refine ok_rangeR (len := l.length) (fun i c => c = fidx (pk l k) i) (by omega) (by omega) rfl ?_ ?_
        · rintro again i c hi rfl ih
          refine Ok.cd (fun _ => ?_) (fun h => by simp at h; omega)
          refine Ok.gd (by rw [inR_nat]; simpa using hi) ?_
          rw [gt_nat]
          refine Ok.bde (lverd_vH (hf i hi) (by rw [hm]; exact hk)) ?_
          refine Ok.cd (fun h => ?_) (fun h => ?_)
          · have h : fidx (pk l k) i < 0 := by simpa using h
            have step : ∀ (b : Bool), pk l k i = b → fidx (pk l k) (i + 1) = if b = true then (i : Int) else fidx (pk l k) i := by
              intro b hb; simp only [fidx, hb]; rw [if_pos h]
            refine Ok.cd (fun h1 => ih _ ?_) (fun h1 => Ok.cd (fun h2 => ih _ ?_) (fun h2 => ih _ ?_))
            · rw [step true (by unfold pk isV; rw [h1]; rfl)]; rfl
            · rw [step true (by unfold pk isV; rw [h2]; simp)]; rfl
            · rw [step false (by unfold pk isV; rw [h1, h2]; rfl)]; rfl
          · have h : ¬ fidx (pk l k) i < 0 := by simpa using h
            refine ih _ ?_
            simp only [fidx]; rw [if_neg h]
        · rintro again c rfl
          exact Ok.cd (fun h => by simp at h) (fun _ => ok_some.2 rfl)
      · rintro o rfl
        refine Ok.gd (by simp; omega) (Ok.gd (by simp; omega) ?_)
        exact ih _ (by rw [List.range_succ, List.map_append]; rfl)
    · rintro again c rfl
      exact Ok.cd (fun h => by simp at h) (fun _ => ok_some.2 rfl)
  · rintro o rfl
    refine Ok.cd (fun _ => ?_) (fun h => by simp at h)
    exact Ok.bde (equal_selfH (by simp; omega) (by simp; omega)) (ok_some.2 rfl)
end Go.L

