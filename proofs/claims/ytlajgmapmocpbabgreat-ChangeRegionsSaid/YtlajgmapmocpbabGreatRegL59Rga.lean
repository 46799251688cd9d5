import Derived.Test.YtlajgmapmocpbabGreatRegL59c
import Derived.Test.YtlajgmapmocpbabGreatRegLgr
set_option linter.unusedVariables false
set_option linter.unusedSimpArgs false
namespace Go.L
open Go Go.Eng
theorem zlo {b : api_Banded} (g : Good b) {k : Nat} (hk : k < b.Grid.Z.length) : -2147483648 ≤ b.Grid.Z.getD k default ∧ b.Grid.Z.getD k default ≤ 1048576 := by
  have := g.z k hk; omega
theorem both_v {n : Nat} {a b : api_Banded} (f : Fits2 a b) {k : Nat} (hk : k < a.Grid.Z.length) : fiduciallaw59_both n a b k = some (dif a b k, bnd a b k, isOk a b k) := by
  have e1 : inR (k : Int) a.Grid.Z.length = true := by rw [inR_nat]; simpa using hk
  have e2 : inR (k : Int) b.Grid.Z.length = true := by rw [inR_nat, f.len]; simpa using hk
  have e3 : inR (k : Int) a.Err.length = true := by rw [inR_nat, f.ga.elen]; simpa using hk
  have e4 : inR (k : Int) b.Err.length = true := by rw [inR_nat, f.gb.elen, f.len]; simpa using hk
  have z1 := zlo f.ga hk
  have z2 := zlo f.gb (k := k) (by rw [f.len]; exact hk)
  have w1 := f.ga.e k (by rw [f.ga.elen]; exact hk)
  have w2 := f.gb.e k (by rw [f.gb.elen, f.len]; exact hk)
  unfold fiduciallaw59_both
  rw [e1, e2, e3, e4]
  simp only [gt_nat, gdO, isOk, isN]
  rw [wrap64_in (by omega) (by omega), wrap64_in (by omega) (by omega)]
  by_cases h1 : (a.Grid.Z.getD k default == -2147483648) = true
  · have : (a.Grid.Z.getD k default != -2147483648) = false := by simpa using h1
    rw [this, h1]; rfl
  · have h1' : (a.Grid.Z.getD k default == -2147483648) = false := by simpa using h1
    have : (a.Grid.Z.getD k default != -2147483648) = true := by simpa using h1
    rw [this, h1', Bool.false_or]; rfl
theorem lverd_v {n : Nat} {a b : api_Banded} (f : Fits2 a b) {k : Nat} (hk : k < a.Grid.Z.length) : fiduciallaw59_verdict n a b k = some (verd a b k) := by
  have w1 := f.ga.e k (by rw [f.ga.elen]; exact hk)
  have w2 := f.gb.e k (by rw [f.gb.elen, f.len]; exact hk)
  unfold fiduciallaw59_verdict verd
  rw [both_v f hk]
  cases isOk a b k with
  | false => rfl
  | true =>
  simp only [bdO, if_true]
  rw [wrap64_in (by unfold bnd; omega) (by unfold bnd; omega)]
  by_cases h1 : dif a b k > bnd a b k
  · simp [h1, cdO]
  · by_cases h2 : dif a b k < -bnd a b k
    · have : dif a b k < 0 - bnd a b k := by omega
      simp [h1, h2, cdO, this]
    · have : ¬ dif a b k < 0 - bnd a b k := by omega
      simp [h1, h2, cdO, this]
def Ed (vd : Nat → Int) (w m : Nat) (u v : Nat) : Prop := u < m ∧ v < m ∧ vd u = vd v ∧ ((v = u + 1 ∧ v % w ≠ 0) ∨ v = u + w ∨ (u = v + 1 ∧ u % w ≠ 0) ∨ u = v + w)
theorem ed_symm (vd : Nat → Int) (w m : Nat) (a b : Nat) (h : Ed vd w m a b) : Ed vd w m b a := by
  obtain ⟨h1, h2, h3, h4⟩ := h
  refine ⟨h2, h1, h3.symm, ?_⟩
  rcases h4 with h | h | h | h
  · exact .inr (.inr (.inl h))
  · exact .inr (.inr (.inr h))
  · exact .inl h
  · exact .inr (.inl h)
noncomputable def cellsR (E : Nat → Nat → Prop) (m k : Nat) : List Int := ((List.range m).filter fun u => @decide (Rc E k u) (Classical.propDecidable _)).map fun u : Nat => (u : Int)
noncomputable def regR (E : Nat → Nat → Prop) (m : Nat) (vd : Nat → Int) (t : Nat) : List api_Region := ((List.range t).filter fun k => @decide (Mn E k ∧ (vd k = 1 ∨ vd k = 2)) (Classical.propDecidable _)).map fun k => api_Region.mk (vd k) (cellsR E m k)
theorem regR_yes {E : Nat → Nat → Prop} {m : Nat} {vd : Nat → Int} {t : Nat} (h : Mn E t ∧ (vd t = 1 ∨ vd t = 2)) : regR E m vd (t + 1) = regR E m vd t ++ [api_Region.mk (vd t) (cellsR E m t)] := by
  unfold regR
  rw [List.range_succ, List.filter_append, List.map_append]
  simp [h]
theorem regR_no {E : Nat → Nat → Prop} {m : Nat} {vd : Nat → Int} {t : Nat} (h : ¬ (Mn E t ∧ (vd t = 1 ∨ vd t = 2))) : regR E m vd (t + 1) = regR E m vd t := by
  unfold regR
  rw [List.range_succ, List.filter_append, List.map_append]
  simp [h]
theorem regR_len (E : Nat → Nat → Prop) (m : Nat) (vd : Nat → Int) (t : Nat) : (regR E m vd t).length ≤ t := by
  unfold regR
  rw [List.length_map]
  have := List.length_filter_le (fun k => @decide (Mn E k ∧ (vd k = 1 ∨ vd k = 2)) (Classical.propDecidable _)) (List.range t)
  simpa using this
def labF (m : Nat) (l : List Int) : Nat → Int := fun u => if u < m then l.getD u default else (u : Int)
theorem labF_in {m : Nat} {l : List Int} {u : Nat} (h : u < m) : labF m l u = l.getD u default := by unfold labF; rw [if_pos h]
theorem labF_op {m : Nat} {l : List Int} (hl : l.length = m) {k n : Nat} (hk : k < m) (hn : n < m) : labF m ((l.set k (mn (l.getD k default) (l.getD n default))).set n (mn (l.getD k default) (l.getD n default))) = op2 (labF m l) k n := by
  funext u
  unfold op2
  rw [labF_in hk, labF_in hn]
  unfold labF
  by_cases hu : u < m
  · rw [if_pos hu, if_pos hu]
    simp only [List.getD, List.getElem?_set, List.length_set, hl]
    by_cases h1 : n = u
    · subst h1; simp [hn]
    · by_cases h2 : k = u
      · subst h2; simp [h1, hk]
      · have h1' : ¬ u = n := fun e => h1 e.symm
        have h2' : ¬ u = k := fun e => h2 e.symm
        simp [h1, h2, h1', h2']
  · rw [if_neg hu, if_neg hu, if_neg (by omega)]
def Dn (E : Nat → Nat → Prop) (w k x : Nat) (u v : Nat) : Prop := E u v ∧ (u < k ∧ (v = u + 1 ∨ v = u + w) ∨ u = k ∧ (1 ≤ x ∧ v = k + 1 ∨ 2 ≤ x ∧ v = k + w))
theorem lab_self {E : Nat → Nat → Prop} {lab : Nat → Int} (h : Lg E lab) {z : Nat} (hz : Mn E z) : lab z = (z : Int) := by
  obtain ⟨j, h1, h2, h3⟩ := h z
  have := hz j h2
  rw [h1]; omega
theorem lregions_v {n : Nat} (hn : 100 < n) {a b : api_Banded} (f : Fits2 a b) {m w : Nat} (hm : a.Grid.Z.length = m) (h64 : m ≤ 64) (hw : (w : Int) = a.Grid.Width) : fiduciallaw59_regions n a b = some (regR (Ed (verd a b) w m) m (verd a b) m) := by
  have hw2 := f.ga.w
  have hs := ed_symm (verd a b) w m
  generalize hE : Ed (verd a b) w m = E at *
  have hEm : ∀ u v, E u v → u < m ∧ v < m := fun u v h => by rw [← hE] at h; exact ⟨h.1, h.2.1⟩
  apply Ok.eq
  unfold fiduciallaw59_regions
  rw [hm]
  refine Ok.gd (decide_eq_true (by omega)) (Ok.gd (decide_eq_true (by omega)) (Ok.gd (decide_eq_true (by omega)) (Ok.bde (b := (m : Int)) (by simp) ?_)))
  refine Ok.bd (R := fun l => l.length = m ∧ ∀ j, j < m → l.getD j default = (j : Int)) ?_ ?_
  · refine ok_rangeR (len := m) (fun k (l : List Int) => l.length = m ∧ ∀ j, j < k → l.getD j default = (j : Int)) (by omega) (by omega) ⟨by simp, fun j hj => by omega⟩ ?_ ?_
    · rintro again k l hk ⟨hl, hv⟩ ih
      dsimp only
      refine Ok.cd (fun _ => ?_) (fun h => by have := of_decide_eq_false h; omega)
      refine Ok.gd (by rw [inR_nat, hl]; exact decide_eq_true hk) (ih _ ⟨by simpa using hl, fun j hj => ?_⟩)
      have ek : ((k : Int)).toNat = k := by omega
      rw [ek]
      simp only [List.getD, List.getElem?_set, hl]
      by_cases h1 : k = j
      · subst h1; simp [hk]
      · have := hv j (by omega)
        simpa [List.getD, h1] using this
    · rintro again l h
      dsimp only
      exact Ok.cd (fun h => by have := of_decide_eq_true h; omega) (fun _ => ok_some.2 h)
  rintro l0 ⟨hl0, hv0⟩
  have lg0 : Lg E (labF m l0) := fun u => by
    by_cases hu : u < m
    · exact ⟨u, by rw [labF_in hu, hv0 u hu], .refl u, Nat.le_refl _⟩
    · exact ⟨u, by unfold labF; rw [if_neg hu], .refl u, Nat.le_refl _⟩
  refine Ok.bd (R := fun l => l.length = m ∧ Lg E (labF m l) ∧ ∀ z, z < m → Mn E z → bad E m z (labF m l) = 0) ?_ ?_
  · refine ok_rangeR (len := m) (fun t (l : List Int) => l.length = m ∧ Lg E (labF m l) ∧ ∀ z, z < m → Mn E z → bad E m z (labF m l) ≤ m - t) (by omega) (by omega) ⟨hl0, lg0, fun z _ _ => bad_le E m z _⟩ ?_ ?_
    · rintro again t l ht ⟨hl, lg, hb⟩ ih
      dsimp only
      rw [hl0]
      refine Ok.cd (fun _ => ?_) (fun h => by have := of_decide_eq_false h; omega)
      refine Ok.bd (R := fun l' => l'.length = m ∧ Pr E (labF m l) (labF m l') (Dn E w m 0)) ?_ ?_
      · refine ok_rangeR (len := m) (fun k (l' : List Int) => l'.length = m ∧ Pr E (labF m l) (labF m l') (Dn E w k 0)) (by omega) (by omega) ⟨hl, (Pr.start lg).more fun u v h => by rcases h.2 with h | h <;> omega⟩ ?_ ?_
        · rintro again2 k l' hk ⟨hl', pr⟩ ih2
          dsimp only
          rw [hl]
          refine Ok.cd (fun _ => ?_) (fun h => by have := of_decide_eq_false h; omega)
          refine Ok.bd (R := fun l'' => l''.length = m ∧ Pr E (labF m l) (labF m l'') (Dn E w (k + 1) 0)) ?_ (fun l'' h => ih2 _ h)
          refine ok_rangeR (len := 2) (fun x (l' : List Int) => l'.length = m ∧ Pr E (labF m l) (labF m l') (Dn E w k x)) (by omega) (by omega) ⟨hl', pr⟩ ?_ ?_
          · rintro again3 x l' hx ⟨hl', pr⟩ ih3
            dsimp only
            refine Ok.cd (fun _ => ?_) (fun h => by have := of_decide_eq_false h; omega)
            obtain ⟨nx, hnx, hD⟩ : ∃ nx : Nat, gt [wrapF .i64 ((k : Int) + 1), wrapF .i64 ((k : Int) + a.Grid.Width)] (x : Int) = (nx : Int) ∧ ((x = 0 ∧ nx = k + 1) ∨ (x = 1 ∧ nx = k + w)) := by
              have g0 : ∀ A B : Int, gt [A, B] ((0 : Nat) : Int) = A := fun _ _ => rfl
              have g1 : ∀ A B : Int, gt [A, B] ((1 : Nat) : Int) = B := fun _ _ => rfl
              rcases (show x = 0 ∨ x = 1 by omega) with rfl | rfl
              · exact ⟨k + 1, by rw [g0]; rw [wrap64_in (by omega) (by omega)]; omega, .inl ⟨rfl, rfl⟩⟩
              · exact ⟨k + w, by rw [g1]; rw [wrap64_in (by omega) (by omega)]; omega, .inr ⟨rfl, rfl⟩⟩
            have key : ∀ u v, Dn E w k (x + 1) u v → Dn E w k x u v ∨ (u = k ∧ v = nx) := by
              rintro u v ⟨h1, h2⟩
              rcases h2 with h2 | ⟨h2, h3⟩
              · exact .inl ⟨h1, .inl h2⟩
              · rcases hD with ⟨rfl, rfl⟩ | ⟨rfl, rfl⟩
                · rcases h3 with ⟨_, h3⟩ | ⟨h4, h3⟩
                  · exact .inr ⟨h2, h3⟩
                  · omega
                · rcases h3 with ⟨_, h3⟩ | ⟨_, h3⟩
                  · exact .inl ⟨h1, .inr ⟨h2, .inl ⟨by omega, h3⟩⟩⟩
                  · exact .inr ⟨h2, h3⟩
            refine Ok.gd (by rw [inR_nat]; exact decide_eq_true hx) (Ok.bde (b := (nx : Int)) (by rw [hnx]) ?_)
            rw [hl', wrap64_in (n := (k : Int) + 1) (by omega) (by omega)]
            clear hnx
            refine Ok.bd (R := fun o => match o with | .inl _ => ¬ E k nx | .inr _ => E k nx) ?_ ?_
            · refine Ok.cd (fun h => ?_) (fun h => ?_)
              · have h := of_decide_eq_true h
                exact ok_some.2 (fun e => by have := (hEm _ _ e).2; omega)
              · have hlt := of_decide_eq_false h
                clear h
                have hnm : nx < m := by omega
                have fin : ∀ {c : Bool}, (c = true ↔ verd a b k ≠ verd a b nx) → (nx = k + 1 → nx % w ≠ 0) → Ok (cdO c (some (Sum.inl ())) (some (Sum.inr ()))) (fun o : Sum Unit Unit => match o with | .inl _ => ¬ E k nx | .inr _ => E k nx) := by
                  intro c hc hmod
                  refine Ok.cd (fun h => ok_some.2 ?_) (fun h => ok_some.2 ?_)
                  · show ¬ E k nx
                    rw [← hE]; exact fun e => hc.1 h e.2.2.1
                  · show E k nx
                    rw [← hE]
                    have hv : verd a b k = verd a b nx := by
                      apply Classical.byContradiction
                      intro hv; rw [hc.2 hv] at h; cases h
                    refine ⟨hk, hnm, hv, ?_⟩
                    rcases hD with ⟨_, h2⟩ | ⟨_, h2⟩
                    · exact .inl ⟨h2, hmod h2⟩
                    · exact .inr (.inl h2)
                have v1 := lverd_v (n := n) f (k := k) (by rw [hm]; exact hk)
                have v2 := lverd_v (n := n) f (k := nx) (by rw [hm]; exact hnm)
                refine Ok.cd (fun h => ?_) (fun h => ?_)
                · have hk1 : nx = k + 1 := by have : (nx : Int) = (k : Int) + 1 := by simpa using h
                                              omega
                  refine Ok.gd (by simp; omega) (Ok.cd (fun h2 => ok_some.2 ?_) (fun h2 => ?_))
                  · show ¬ E k nx
                    have h3 : (nx : Int).tmod a.Grid.Width = 0 := by simpa using h2
                    rw [← hw, Int.tmod_eq_emod_of_nonneg (by omega)] at h3
                    have h4 : nx % w = 0 := by omega
                    rw [← hE]
                    rintro ⟨_, _, _, e | e | e | e⟩ <;> omega
                  · refine Ok.bde v1 (Ok.bde v2 (fin (by simp) (fun _ => ?_)))
                    have h3 : ¬ (nx : Int).tmod a.Grid.Width = 0 := by simpa using h2
                    rw [← hw, Int.tmod_eq_emod_of_nonneg (by omega)] at h3
                    omega
                · have hk1 : nx ≠ k + 1 := by
                    intro e; rw [e] at h; simp at h
                  exact Ok.bde v1 (Ok.bde v2 (fin (by simp) (fun e => (hk1 e).elim)))
            · rintro (_ | _) ho
              · refine ih3 _ ⟨hl', pr.more fun u v h => ?_⟩
                rcases key u v h with h1 | ⟨rfl, rfl⟩
                · exact h1
                · exact (ho h.1).elim
              · have hnm := (hEm _ _ ho).2
                refine Ok.gd (by rw [inR_nat]; exact decide_eq_true hk) (Ok.gd (by rw [inR_nat]; exact decide_eq_true hnm) (Ok.bde rfl (ih3 _ ⟨by simpa using hl', ?_⟩)))
                rw [gt_nat, gt_nat]
                have e1 : ((k : Int)).toNat = k := by omega
                have e2 : ((nx : Int)).toNat = nx := by omega
                rw [e1, e2, labF_op hl' hk hnm]
                exact (pr.op hs ho (by omega)).more fun u v h => key u v h
          · rintro again3 l' ⟨hl', pr⟩
            dsimp only
            refine Ok.cd (fun h => by have := of_decide_eq_true h; omega) (fun _ => ok_some.2 ⟨hl', pr.more fun u v h => ⟨h.1, ?_⟩⟩)
            rcases h.2 with ⟨h1, h2⟩ | ⟨h1, h2⟩
            · by_cases huk : u < k
              · exact .inl ⟨huk, h2⟩
              · have : u = k := by omega
                subst this
                exact .inr ⟨rfl, by rcases h2 with h2 | h2; exact .inl ⟨by omega, h2⟩; exact .inr ⟨Nat.le_refl _, h2⟩⟩
            · omega
        · rintro again2 l' h
          dsimp only
          rw [hl]
          exact Ok.cd (fun h => by have := of_decide_eq_true h; omega) (fun _ => ok_some.2 h)
      · rintro l' ⟨hl', pr⟩
        refine ih _ ⟨hl', pr.lg, fun z hz hmz => ?_⟩
        have := bad_step hEm hz hmz pr (fun u v h => by
          have hh := h
          rw [← hE] at hh
          have hu := (hEm _ _ h).1
          have hv := (hEm _ _ h).2
          rcases hh.2.2.2 with e | e | e | e
          · exact .inl ⟨h, .inl ⟨hu, .inl e.1⟩⟩
          · exact .inl ⟨h, .inl ⟨hu, .inr e⟩⟩
          · exact .inr ⟨hs _ _ h, .inl ⟨hv, .inl e.1⟩⟩
          · exact .inr ⟨hs _ _ h, .inl ⟨hv, .inr e⟩⟩) hs (lab_self lg hmz)
        have := hb z hz hmz
        omega
    · rintro again l ⟨hl, lg, hb⟩
      dsimp only
      rw [hl0]
      exact Ok.cd (fun h => by have := of_decide_eq_true h; omega) (fun _ => ok_some.2 ⟨hl, lg, fun z hz hmz => by have := hb z hz hmz; omega⟩)
  rintro l ⟨hl, lg, hb⟩
  have lab_at : ∀ u, u < m → ∀ z, Mn E z → Rc E z u → l.getD u default = (z : Int) := fun u hu z hz hr => by
    have hzu : z ≤ u := hz u hr
    have := bad_zero (hb z (by omega) hz) hu hr
    rwa [labF_in hu] at this
  have lab_min : ∀ u, u < m → (l.getD u default = (u : Int) ↔ Mn E u) := fun u hu => by
    obtain ⟨z, h1, h2⟩ := mn_ex E u
    have e := lab_at u hu z h2 (h1.symm hs)
    constructor
    · intro h; have : z = u := by omega
      subst this; exact h2
    · intro h
      exact lab_at u hu u h (.refl u)
  refine Ok.bd (R := fun o => o = regR E m (verd a b) m) ?_ (fun o h => ok_some.2 h)
  refine ok_rangeR (len := m) (fun t (o : List api_Region) => o = regR E m (verd a b) t) (by omega) (by omega) rfl ?_ ?_
  · rintro again t o ht rfl ih
    dsimp only
    rw [hl]
    refine Ok.cd (fun _ => ?_) (fun h => by have := of_decide_eq_false h; omega)
    refine Ok.bde (lverd_v f (by rw [hm]; exact ht)) ?_
    refine Ok.bd (R := fun o => match o with | .inl _ => ¬ (Mn E t ∧ (verd a b t = 1 ∨ verd a b t = 2)) | .inr _ => Mn E t ∧ (verd a b t = 1 ∨ verd a b t = 2)) ?_ ?_
    · refine Ok.gd (by rw [inR_nat]; exact decide_eq_true ht) ?_
      rw [gt_nat]
      refine Ok.cd (fun h => ok_some.2 ?_) (fun h => ?_)
      · have h : l.getD t default ≠ (t : Int) := by simpa using h
        exact fun e => h ((lab_min t ht).2 e.1)
      · have h : l.getD t default = (t : Int) := by simpa using h
        have hmn := (lab_min t ht).1 h
        refine Ok.cd (fun h1 => Ok.cd (fun h2 => ok_some.2 ?_) (fun h2 => ok_some.2 ?_)) (fun h1 => ok_some.2 ?_)
        · have h1 : verd a b t ≠ 1 := by simpa using h1
          have h2 : verd a b t ≠ 2 := by simpa using h2
          exact fun e => by rcases e.2 with e | e; exact h1 e; exact h2 e
        · have h2 : verd a b t = 2 := by simpa using h2
          exact ⟨hmn, .inr h2⟩
        · have h1 : verd a b t = 1 := by simpa using h1
          exact ⟨hmn, .inl h1⟩
    · rintro (_ | _) ho
      · exact ih _ (regR_no ho).symm
      · refine Ok.bd (R := fun r => r = cellsR E m t) ?_ ?_
        · refine ok_rangeR (len := m) (fun s (r : List Int) => r = ((List.range s).filter fun u => @decide (Rc E t u) (Classical.propDecidable _)).map fun u : Nat => (u : Int)) (by omega) (by omega) rfl ?_ ?_
          · rintro again2 s r hsm rfl ih2
            dsimp only
            have hlen : (((List.range s).filter fun u => @decide (Rc E t u) (Classical.propDecidable _)).map fun u : Nat => (u : Int)).length ≤ s := by
              rw [List.length_map]
              have := List.length_filter_le (fun u => @decide (Rc E t u) (Classical.propDecidable _)) (List.range s)
              simpa using this
            refine Ok.cd (fun _ => ?_) (fun h => by have := of_decide_eq_false h; omega)
            refine Ok.gd (by rw [inR_nat]; exact decide_eq_true hsm) ?_
            rw [gt_nat]
            obtain ⟨z, h1, h2⟩ := mn_ex E s
            have e := lab_at s hsm z h2 (h1.symm hs)
            refine Ok.cd (fun h => Ok.gd (decide_eq_true (by omega)) (Ok.gd (decide_eq_true (by omega)) (ih2 _ ?_))) (fun h => ih2 _ ?_)
            · have h : l.getD s default = (t : Int) := by simpa using h
              have : z = t := by omega
              subst this
              rw [List.range_succ, List.filter_append, List.map_append]
              simp [h1.symm hs]
            · have h : ¬ l.getD s default = (t : Int) := by simpa using h
              have hn : ¬ Rc E t s := fun hr => h (lab_at s hsm t ho.1 hr)
              rw [List.range_succ, List.filter_append, List.map_append]
              simp [hn]
          · rintro again2 r rfl
            dsimp only
            exact Ok.cd (fun h => by have := of_decide_eq_true h; omega) (fun _ => ok_some.2 rfl)
        · rintro r rfl
          have := regR_len E m (verd a b) t
          exact Ok.gd (decide_eq_true (by omega)) (Ok.gd (decide_eq_true (by omega)) (ih _ (regR_yes ho).symm))
  · rintro again o rfl
    dsimp only
    rw [hl]
    exact Ok.cd (fun h => by have := of_decide_eq_true h; omega) (fun _ => ok_some.2 rfl)
end Go.L

