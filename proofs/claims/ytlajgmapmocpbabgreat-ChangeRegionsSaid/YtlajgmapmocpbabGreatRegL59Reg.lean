import Derived.Test.YtlajgmapmocpbabGreatRegL59Rgb
import Derived.Test.YtlajgmapmocpbabGreatSc10phlckink
set_option linter.unusedVariables false
set_option linter.unusedSimpArgs false
namespace Go.L
open Go Go.Eng
theorem Fl.perm {E : Nat → Nat → Prop} {m t : Nat} {d0 d : List Bool} {A O A' O' : List Nat} (h : Fl E m t d0 d A O) (hp : (A ++ O).Perm (A' ++ O')) : Fl E m t d0 d A' O' :=
  ⟨h.len, hp.nodup_iff.1 h.nd, fun u hu => h.mem u (hp.mem_iff.2 hu), hp.mem_iff.1 h.st, fun u hu => by rw [h.dn u hu, hp.mem_iff]⟩
theorem tx_fun {w x q v v' : Nat} (hx : x < 4) (h : Tx w x q v) (h' : Tx w x q v') : v = v' := by
  rcases (show x = 0 ∨ x = 1 ∨ x = 2 ∨ x = 3 by omega) with rfl | rfl | rfl | rfl
  · have := h.1; have := h'.1; omega
  · have := h.1; have := h'.1; omega
  · have e : v = q + w := h; have e' : v' = q + w := h'; omega
  · have e : q = v + w := h; have e' : q = v' + w := h'; omega
theorem cells_len (E : Nat → Nat → Prop) (m k : Nat) : (cellsR E m k).length ≤ m := by
  unfold cellsR
  rw [List.length_map]
  have := List.length_filter_le (fun u => @decide (Rc E k u) (Classical.propDecidable _)) (List.range m)
  simpa using this
theorem cells_pw (E : Nat → Nat → Prop) (m k : Nat) : (cellsR E m k).Pairwise (fun a b => decide (a ≤ b) = true) := by
  unfold cellsR
  rw [List.pairwise_map]
  refine List.Pairwise.imp (R := fun a b : Nat => a < b) (fun h => decide_eq_true (by omega)) (List.Pairwise.filter _ List.pairwise_lt_range)
theorem isrt_cells {E : Nat → Nat → Prop} {m k : Nat} {r : List Int} (h : r.Perm (cellsR E m k)) : isrt r = cellsR E m k :=
  List.Perm.eq_of_pairwise (le := fun a b => decide (a ≤ b) = true) (fun a b _ _ h1 h2 => by simp at h1 h2; omega) (isrt_pw r) (cells_pw E m k) ((isrt_perm r).trans h)
theorem d_bd (x : Nat) : (-1 ≤ dX x ∧ dX x ≤ 1) ∧ (-1 ≤ dY x ∧ dY x ≤ 1) := by
  unfold dX dY
  refine ⟨?_, ?_⟩ <;> (split <;> omega)
theorem cregions_v {a b : api_Banded} (f : Fits2 a b) (hS : Short 5000 [a, b]) (hc : codeF [a, b] = 0) {m w : Nat} (hm : a.Grid.Z.length = m) (h64 : m ≤ 64) (hw : (w : Int) = a.Grid.Width) : change_Regions 5000 a b = some (regR (Ed (verd a b) w m) m (verd a b) m, 0) := by
  have hw2 := f.ga.w
  have hh2 := f.ga.h
  obtain ⟨h, hh⟩ : ∃ h : Nat, (h : Int) = a.Grid.Height := ⟨a.Grid.Height.toNat, by omega⟩
  have hmw : m = w * h := by
    have := f.ga.len
    rw [hm, ← hw, ← hh] at this
    exact_mod_cast this
  have hs := ed_symm (verd a b) w m
  have etx := fun q v => ed_tx (vd := verd a b) (w := w) (m := m) (q := q) (v := v)
  generalize hE : Ed (verd a b) w m = E at *
  have hEm : ∀ u v, E u v → u < m ∧ v < m ∧ verd a b u = verd a b v := fun u v h => by rw [← hE] at h; exact ⟨h.1, h.2.1, h.2.2.1⟩
  have hvd : ∀ u v, Rc E u v → verd a b v = verd a b u := fun u v hr => hr.inv (P := fun x => verd a b x = verd a b u) (fun p q e hp => by rw [← (hEm p q e).2.2]; exact hp) rfl
  apply Ok.eq
  unfold change_Regions
  refine Ok.bde (fit_v hS) ?_
  rw [hc]
  refine Ok.cd (fun h => by cases h) (fun _ => Ok.bde (verdicts_v (by omega) f) ?_)
  rw [hm]
  have hva : ∀ u, u < m → ((List.range m).map (verd a b)).getD u default = verd a b u := fun u hu => getD_map_range hu
  have hvl : ((List.range m).map (verd a b)).length = m := by simp
  generalize (List.range m).map (verd a b) = vs at *
  rw [hvl]
  refine Ok.gd (decide_eq_true (by omega)) (Ok.gd (decide_eq_true (by omega)) (Ok.gd (decide_eq_true (by omega)) ?_))
  refine Ok.bd (R := fun o => o = regR E m (verd a b) m) ?_ (fun o ho => ok_some.2 (by rw [ho]))
  refine ok_rangeG (γ := List Bool × List api_Region) (len := m) (fun c k => (c.1, c.2, k)) (fun t c => c.1.length = m ∧ (∀ u, u < m → (c.1.getD u default = true ↔ (∃ j, j < t ∧ Rc E j u) ∧ (verd a b u = 1 ∨ verd a b u = 2))) ∧ c.2 = regR E m (verd a b) t) (by omega) (by omega) (c0 := (List.replicate ((m : Nat) : Int).toNat false, [])) ⟨by simp, fun u hu => ?_, rfl⟩ ?_ ?_
  · have e : (List.replicate ((m : Nat) : Int).toNat false).getD u default = false := by simp [List.getD, hu]
    dsimp only
    rw [e]
    constructor
    · intro h; cases h
    · rintro ⟨⟨j, hj, _⟩, _⟩; omega
  · rintro again t ⟨d0, o⟩ ht ⟨hl0, hd0, ho⟩ ih
    dsimp only at hl0 hd0 ho ⊢
    refine Ok.cd (fun _ => ?_) (fun h => by have := of_decide_eq_false h; omega)
    refine Ok.gd (by rw [inR_nat]; exact decide_eq_true ht) ?_
    refine Ok.bd (R := fun o => match o with | .inl _ => d0.getD t default = true ∨ ¬ (verd a b t = 1 ∨ verd a b t = 2) | .inr _ => d0.getD t default = false ∧ (verd a b t = 1 ∨ verd a b t = 2)) ?_ ?_
    · refine Ok.gd (by rw [inR_nat, hl0]; exact decide_eq_true ht) ?_
      rw [gt_nat, gt_nat, hva t ht]
      refine Ok.cd (fun h => ok_some.2 (.inl h)) (fun h => Ok.cd (fun h1 => Ok.cd (fun h2 => ok_some.2 (.inr ?_)) (fun h2 => ok_some.2 ⟨h, .inr (by simpa using h2)⟩)) (fun h1 => ok_some.2 ⟨h, .inl (by simpa using h1)⟩))
      have h1 : verd a b t ≠ 1 := by simpa using h1
      have h2 : verd a b t ≠ 2 := by simpa using h2
      exact fun e => by rcases e with e | e; exact h1 e; exact h2 e
    · rintro (_ | _) hq
      · refine ih (d0, o) ⟨hl0, fun u hu => ?_, ?_⟩
        · rw [hd0 u hu]
          constructor
          · rintro ⟨⟨j, h1, h2⟩, h3⟩; exact ⟨⟨j, by omega, h2⟩, h3⟩
          · rintro ⟨⟨j, h1, h2⟩, h3⟩
            refine ⟨?_, h3⟩
            by_cases hjt : j < t
            · exact ⟨j, hjt, h2⟩
            · have : j = t := by omega
              subst this
              rcases hq with hq | hq
              · obtain ⟨⟨i, i1, i2⟩, _⟩ := (hd0 j ht).1 hq
                exact ⟨i, i1, i2.trans h2⟩
              · rw [hvd j u h2] at h3; exact (hq h3).elim
        · dsimp only
          rw [ho]
          refine (regR_no ?_).symm
          rintro ⟨h1, h2⟩
          rcases hq with hq | hq
          · obtain ⟨⟨i, i1, i2⟩, _⟩ := (hd0 t ht).1 hq
            have := h1 i (i2.symm hs)
            omega
          · exact hq h2
      · obtain ⟨hq1, hq2⟩ := hq
        have hmn : Mn E t := by
          intro u hu
          apply Classical.byContradiction
          intro hlt
          have := (hd0 t ht).2 ⟨⟨u, by omega, hu.symm hs⟩, hq2⟩
          rw [hq1] at this; cases this
        have hfree : ∀ u, u < m → Rc E t u → d0.getD u default = false := by
          intro u hu hr
          cases hd : d0.getD u default with
          | false => rfl
          | true =>
            obtain ⟨⟨j, j1, j2⟩, _⟩ := (hd0 u hu).1 hd
            have := hmn j (hr.trans (j2.symm hs))
            omega
        refine Ok.gd (by rw [inR_nat, hl0]; exact decide_eq_true ht) ?_
        refine Ok.bd (R := fun o => o.1.length = m ∧ (∀ u, u < m → (o.1.getD u default = true ↔ d0.getD u default = true ∨ Rc E t u)) ∧ o.2.Perm (cellsR E m t)) ?_ ?_
        · refine ok_loop (fun s : List Bool × List Int × List Int => ∃ rs os : List Nat, s.2.1 = rs.map (fun u : Nat => (u : Int)) ∧ s.2.2 = os.map (fun u : Nat => (u : Int)) ∧ Fl E m t d0 s.1 rs os ∧ ∀ u, u ∈ rs → ∀ v, E u v → v ∈ rs ++ os) (fun s => 2 * (m - (s.2.1.length + s.2.2.length)) + s.2.2.length) ?_ 5000 _ ?_ ?_
          · rintro again2 ⟨d, r, op⟩ ⟨rs, os, hr, hop, fl, cl⟩ ih2
            dsimp only at hr hop fl ih2 ⊢
            subst hr hop
            have hle := nodup_le fl.nd (fun u hu => (fl.mem u hu).1)
            rw [List.length_append] at hle
            have hos : os = [] ∨ ∃ L c, os = L ++ [c] := by
              rcases List.eq_nil_or_concat os with h | ⟨L, c, h⟩
              · exact .inl h
              · exact .inr ⟨L, c, by rw [h, List.concat_eq_append]⟩
            rcases hos with rfl | ⟨os', q, rfl⟩
            · refine Ok.cd (fun h => by simp at h) (fun _ => ok_some.2 ⟨fl.len, fun u hu => ?_, ?_⟩)
              · rw [fl.dn u hu, List.append_nil]
                constructor
                · rintro (h | h)
                  · exact .inl h
                  · exact .inr (fl.mem u (by rw [List.append_nil]; exact h)).2
                · rintro (h | h)
                  · exact .inl h
                  · exact .inr (h.inv (P := fun x => x ∈ rs) (fun p q e hp => by have := cl p hp q e; rwa [List.append_nil] at this) (by have := fl.st; rwa [List.append_nil] at this))
              · unfold cellsR
                refine List.Perm.map _ ?_
                have hnd := fl.nd
                rw [List.append_nil] at hnd
                rw [List.perm_ext_iff_of_nodup hnd (List.nodup_range.filter _)]
                intro u
                rw [List.mem_filter, List.mem_range]
                constructor
                · intro hu
                  have := fl.mem u (by rw [List.append_nil]; exact hu)
                  exact ⟨this.1, by simp only [decide_eq_true_eq]; exact this.2⟩
                · rintro ⟨hu, hr⟩
                  have hr : Rc E t u := by simpa only [decide_eq_true_eq] using hr
                  exact hr.inv (P := fun x => x ∈ rs) (fun p q e hp => by have := cl p hp q e; rwa [List.append_nil] at this) (by have := fl.st; rwa [List.append_nil] at this)
            · have hqm := fl.mem q (by simp)
              have hvq := hvd t q hqm.2
              have hlen : ((os' ++ [q]).map (fun u : Nat => (u : Int))).length = os'.length + 1 := by simp
              have hrl : (rs.map (fun u : Nat => (u : Int))).length = rs.length := by simp
              rw [List.length_append, List.length_singleton] at hle
              have ew : wrapF .i64 (((os'.length + 1 : Nat) : Int) - 1) = (os'.length : Int) := by rw [wrap64_in (by omega) (by omega)]; omega
              have egt : gt ((os' ++ [q]).map (fun u : Nat => (u : Int))) (os'.length : Int) = (q : Int) := by rw [gt_nat]; simp [List.getD]
              have etk : ((os' ++ [q]).map (fun u : Nat => (u : Int))).take ((os'.length : Int)).toNat = os'.map (fun u : Nat => (u : Int)) := by simp
              rw [hlen, ew, egt, etk, hrl]
              refine Ok.cd (fun _ => ?_) (fun h => by have := of_decide_eq_false h; omega)
              refine Ok.gd (by rw [inR_nat]; exact decide_eq_true (by omega)) (Ok.bde rfl (Ok.gd (by rw [inS_iff]; omega) (Ok.gd (decide_eq_true (by omega)) (Ok.gd (decide_eq_true (by omega)) ?_))))
              refine Ok.bd (R := fun o : List Bool × List Int => ∃ ps : List Nat, o.2 = (os' ++ ps).map (fun u : Nat => (u : Int)) ∧ Fl E m t d0 o.1 (rs ++ [q]) (os' ++ ps) ∧ ∀ v, E q v → v ∈ rs ++ [q] ++ (os' ++ ps)) ?_ ?_
              · refine ok_rangeG (γ := List Bool × List Int) (len := 4) (fun c k => (c.1, c.2, k)) (fun x c => ∃ ps : List Nat, c.2 = (os' ++ ps).map (fun u : Nat => (u : Int)) ∧ Fl E m t d0 c.1 (rs ++ [q]) (os' ++ ps) ∧ ∀ y, y < x → ∀ v, v < m → Tx w y q v → verd a b v = verd a b t → v ∈ rs ++ [q] ++ (os' ++ ps)) (by omega) (by omega) (c0 := (d, os'.map (fun u : Nat => (u : Int)))) ⟨[], by simp, fl.perm (by rw [List.append_nil, List.append_assoc]; exact List.Perm.append_left _ List.perm_append_comm), fun y hy => by omega⟩ ?_ ?_
                · rintro again3 x ⟨d', op'⟩ hx ⟨ps, hop', fl', cl'⟩ ih3
                  dsimp only at hop' fl' cl' ⊢
                  subst hop'
                  have hle' := nodup_le fl'.nd (fun u hu => (fl'.mem u hu).1)
                  rw [List.length_append] at hle'
                  refine Ok.cd (fun _ => ?_) (fun h => by have := of_decide_eq_false h; omega)
                  refine Ok.gd (by rw [inR_nat]; exact decide_eq_true hx) (Ok.gd (by simp; omega) ?_)
                  have hb := d_bd x
                  have hqh : q / w < h := Nat.div_lt_of_lt_mul (by rw [← hmw]; exact hqm.1)
                  have hqw := Nat.mod_lt q (show 0 < w by omega)
                  have em : ((q : Int)).tmod a.Grid.Width = ((q % w : Nat) : Int) := by rw [← hw, Int.tmod_eq_emod_of_nonneg (by omega)]; rfl
                  have ed : ((q : Int)).tdiv a.Grid.Width = ((q / w : Nat) : Int) := by rw [← hw, Int.tdiv_eq_ediv_of_nonneg (by omega)]; rfl
                  rw [(dirs x hx).1, (dirs x hx).2, em, ed]
                  obtain ⟨cx, ex⟩ : ∃ cx : Int, cx = ((q % w : Nat) : Int) + dX x := ⟨_, rfl⟩
                  obtain ⟨cy, ey⟩ : ∃ cy : Int, cy = ((q / w : Nat) : Int) + dY x := ⟨_, rfl⟩
                  have gin := dir_in (w := w) (h := h) (q := q) (by omega) hx (by rw [← hmw]; exact hqm.1) ex ey
                  have gout := fun v hv hT => dir_out (w := w) (h := h) (q := q) (x := x) (v := v) (by omega) hx (by rw [← hmw]; exact hqm.1) hv hT ex ey
                  rw [← hmw] at gin gout
                  generalize q / w = Q at *
                  generalize q % w = M at *
                  rw [wrap64_in (n := (Q : Int)) (by omega) (by omega), ← ex, ← ey, wrap64_in (n := cx) (by omega) (by omega), wrap64_in (n := cy) (by omega) (by omega)]
                  refine Ok.bde rfl (Ok.bde rfl (Ok.bde rfl ?_))
                  rw [← hw, ← hh]
                  generalize hN : wrapF .i64 (wrapF .i64 (cy * (w : Int)) + cx) = N
                  have gN : 0 ≤ cx → cx < w → 0 ≤ cy → cy < h → ∃ v : Nat, N = (v : Int) ∧ v < m ∧ Tx w x q v := by
                    intro a1 a2 a3 a4
                    obtain ⟨v, v1, v2, v3⟩ := gin a1 a2 a3 a4
                    refine ⟨v, ?_, v2, v3⟩
                    have hp : 0 ≤ cy * (w : Int) := Int.mul_nonneg a3 (by omega)
                    rw [← hN, wrap64_in (n := cy * (w : Int)) (by omega) (by omega), v1, wrap64_in (by omega) (by omega)]
                  clear hN
                  refine Ok.bd (R := fun c => (c = true → ∃ v : Nat, N = (v : Int) ∧ v < m ∧ Tx w x q v ∧ d'.getD v default = false ∧ verd a b v = verd a b t) ∧ (c = false → ∀ v, v < m → Tx w x q v → d'.getD v default = true ∨ verd a b v ≠ verd a b t)) ?_ ?_
                  · have no : ¬ (0 ≤ cx ∧ cx < w ∧ 0 ≤ cy ∧ cy < h) → Ok (some false) (fun c => (c = true → ∃ v : Nat, N = (v : Int) ∧ v < m ∧ Tx w x q v ∧ d'.getD v default = false ∧ verd a b v = verd a b t) ∧ (c = false → ∀ v, v < m → Tx w x q v → d'.getD v default = true ∨ verd a b v ≠ verd a b t)) := by
                      intro hn
                      refine ok_some.2 ⟨fun h => (by cases h), fun _ v hv hT => ?_⟩
                      have := gout v hv hT
                      exact (hn ⟨this.1, this.2.1, this.2.2.1, this.2.2.2.1⟩).elim
                    refine Ok.cd (fun h1 => ?_) (fun h1 => no (fun e => by have := of_decide_eq_false h1; omega))
                    refine Ok.cd (fun h2 => ?_) (fun h2 => no (fun e => by have := of_decide_eq_false h2; omega))
                    refine Ok.cd (fun h3 => ?_) (fun h3 => no (fun e => by have := of_decide_eq_false h3; omega))
                    refine Ok.cd (fun h4 => ?_) (fun h4 => no (fun e => by have := of_decide_eq_false h4; omega))
                    obtain ⟨v, rfl, v2, v3⟩ := gN (of_decide_eq_true h1) (of_decide_eq_true h2) (of_decide_eq_true h3) (of_decide_eq_true h4)
                    refine Ok.gd (by rw [inR_nat, fl'.len]; exact decide_eq_true v2) ?_
                    rw [gt_nat, gt_nat, gt_nat, hva v v2, hva t ht]
                    refine Ok.cd (fun h5 => Ok.gd (by rw [inR_nat]; exact decide_eq_true v2) (ok_some.2 ⟨fun h6 => ⟨v, rfl, v2, v3, by simpa using h5, by simpa using h6⟩, fun h6 u hu hT => .inr ?_⟩)) (fun h5 => ok_some.2 ⟨fun h6 => (by cases h6), fun _ u hu hT => .inl ?_⟩)
                    · rw [← tx_fun hx v3 hT]; simpa using h6
                    · rw [← tx_fun hx v3 hT]; simpa using h5
                  · rintro c ⟨c1, c2⟩
                    refine Ok.cd (fun hc => ?_) (fun hc => ?_)
                    · obtain ⟨v, rfl, v2, v3, v4, v5⟩ := c1 hc
                      have hr : Rc E t v := hqm.2.step ((etx q v).2 ⟨hqm.1, v2, by rw [hvq, v5], x, hx, v3⟩)
                      have ev : ((v : Int)).toNat = v := by omega
                      have hml : ((os' ++ ps).map (fun u : Nat => (u : Int))).length = (os' ++ ps).length := by simp
                      rw [ev, hml]
                      refine Ok.gd (by rw [inR_nat, fl'.len]; exact decide_eq_true v2) (Ok.gd (decide_eq_true (by omega)) (Ok.gd (decide_eq_true (by omega)) (ih3 (_, _) ⟨ps ++ [v], by simp, ?_, ?_⟩)))
                      · rw [← List.append_assoc]; exact fl'.push v2 hr v4
                      · intro y hy u hu hT huv
                        by_cases hyx : y < x
                        · have := cl' y hyx u hu hT huv
                          simp only [List.mem_append] at this ⊢
                          rcases this with h | h | h
                          · exact .inl h
                          · exact .inr (.inl h)
                          · exact .inr (.inr (.inl h))
                        · have : y = x := by omega
                          subst this
                          rw [tx_fun hx hT v3]
                          simp
                    · refine ih3 (_, _) ⟨ps, rfl, fl', ?_⟩
                      intro y hy u hu hT huv
                      by_cases hyx : y < x
                      · exact cl' y hyx u hu hT huv
                      · have : y = x := by omega
                        subst this
                        rcases c2 hc u hu hT with h | h
                        · have hr : Rc E t u := hqm.2.step ((etx q u).2 ⟨hqm.1, hu, by rw [hvq, huv], y, hx, hT⟩)
                          rcases (fl'.dn u hu).1 h with h | h
                          · rw [hfree u hu hr] at h; cases h
                          · exact h
                        · exact (h huv).elim
                · rintro again3 ⟨d', op'⟩ ⟨ps, hop', fl', cl'⟩
                  dsimp only at hop' fl' cl' ⊢
                  refine Ok.cd (fun h => by simp at h) (fun _ => ok_some.2 ⟨ps, hop', fl', fun v hv => ?_⟩)
                  obtain ⟨e1, e2, e3, x, hx, e4⟩ := (etx q v).1 hv
                  exact cl' x hx v e2 e4 (by rw [← e3, hvq])
              · rintro ⟨d', op'⟩ ⟨ps, hop', fl', cl'⟩
                dsimp only at hop' fl' cl' ⊢
                subst hop'
                have hle' := nodup_le fl'.nd (fun u hu => (fl'.mem u hu).1)
                simp only [List.length_append, List.length_singleton] at hle'
                refine ih2 _ ⟨rs ++ [q], os' ++ ps, by simp, rfl, fl', fun u hu v hv => ?_⟩ ?_
                · rw [List.mem_append, List.mem_singleton] at hu
                  rcases hu with hu | rfl
                  · have := cl u hu v hv
                    simp only [List.mem_append, List.mem_singleton] at this ⊢
                    rcases this with h | h | h
                    · exact .inl (.inl h)
                    · exact .inr (.inl h)
                    · exact .inl (.inr h)
                  · exact cl' v hv
                · simp only [List.length_append, List.length_map, List.length_singleton]
                  omega
          · have et : ((t : Int)).toNat = t := by omega
            refine ⟨[], [t], rfl, rfl, ⟨by simpa using hl0, by simp, fun u hu => ?_, by simp, fun u hu => ?_⟩, fun u hu => by cases hu⟩
            · have : u = t := by simpa using hu
              subst this
              exact ⟨ht, .refl _⟩
            · rw [et, List.nil_append, List.mem_singleton]
              simp only [List.getD, List.getElem?_set, hl0]
              by_cases h1 : t = u
              · subst h1; simp [ht]
              · have h1' : ¬ u = t := fun e => h1 e.symm
                simp [h1, h1']
          · simp only [List.length_nil, List.length_singleton]
            omega
        · rintro ⟨d1, r⟩ ⟨r1, r2, r3⟩
          dsimp only at r1 r2 r3 ⊢
          have hcl := cells_len E m t
          have hrl := r3.length_eq
          refine Ok.bde (b := cellsR E m t) (by unfold slices_Sort_int_int_w; rw [isrt_cells r3]; have : decide (r.length < 4611686018427387904) = true := decide_eq_true (by omega); rw [this]; rfl) ?_
          refine Ok.gd (decide_eq_true hrl.symm) ?_
          have hol := regR_len E m (verd a b) t
          rw [← ho] at hol
          refine Ok.gd (decide_eq_true (by omega)) (Ok.gd (decide_eq_true (by omega)) (ih (_, _) ⟨r1, fun u hu => ?_, ?_⟩))
          · dsimp only
            rw [r2 u hu, hd0 u hu]
            constructor
            · rintro (⟨⟨j, h1, h2⟩, h3⟩ | h1)
              · exact ⟨⟨j, by omega, h2⟩, h3⟩
              · exact ⟨⟨t, by omega, h1⟩, by rw [hvd t u h1]; exact hq2⟩
            · rintro ⟨⟨j, h1, h2⟩, h3⟩
              by_cases hjt : j < t
              · exact .inl ⟨⟨j, hjt, h2⟩, h3⟩
              · have : j = t := by omega
                subst this
                exact .inr h2
          · dsimp only
            rw [ho, gt_nat, hva t ht]
            exact (regR_yes ⟨hmn, hq2⟩).symm
  · rintro again ⟨d, o⟩ ⟨_, _, ho⟩
    dsimp only at ho ⊢
    exact Ok.cd (fun h => by have := of_decide_eq_true h; omega) (fun _ => ok_some.2 ho)
theorem equal_self {n : Nat} {s : List Int} (hn : s.length < n) (hl : s.length ≤ 9223372036854775806) : slices_Equal_int_int n s s = some true := by
  apply Ok.eq
  unfold slices_Equal_int_int
  refine Ok.cd (fun h => by simp at h) (fun _ => ?_)
  refine Ok.bd (R := fun o => match o with | .inl _ => True | .inr r => r = true) ?_ ?_
  · refine ok_range (len := s.length) (fun _ => True) hn hl trivial ?_ ?_
    · intro again k hk _ ih
      refine Ok.cd (fun _ => ?_) (fun h => by simp at h; omega)
      refine Ok.gd (by rw [inR_nat]; simpa using hk) (Ok.gd (by rw [inR_nat]; simpa using hk) ?_)
      exact Ok.cd (fun h => by simp at h) (fun _ => ih trivial)
    · intro again _
      exact Ok.cd (fun h => by simp at h) (fun _ => ok_some.2 trivial)
  · rintro (_ | r) h
    · exact ok_some.2 rfl
    · exact ok_some.2 h
theorem reg_self {x : api_Region} (h : x.Cells.length ≤ 64) : fiduciallaw59_ChangeRegions_1 5000 x x = some true := by
  unfold fiduciallaw59_ChangeRegions_1
  rw [equal_self (by omega) (by omega)]
  simp [cdO, bdO]
theorem eqf_self {s : List api_Region} (hl : s.length ≤ 64) (hc : ∀ j, j < s.length → (s.getD j default).Cells.length ≤ 64) : slices_EqualFunc_fiducial_api_Region_fiducial_api_Region_fiducial_api_Region_fiducial_api_Region_of_fiduciallaw59_ChangeRegions_1 5000 s s = some true := by
  apply Ok.eq
  unfold slices_EqualFunc_fiducial_api_Region_fiducial_api_Region_fiducial_api_Region_fiducial_api_Region_of_fiduciallaw59_ChangeRegions_1
  refine Ok.cd (fun h => by simp at h) (fun _ => ?_)
  refine Ok.bd (R := fun o => match o with | .inl _ => True | .inr r => r = true) ?_ ?_
  · refine ok_range (len := s.length) (fun _ => True) (by omega) (by omega) trivial ?_ ?_
    · intro again k hk _ ih
      refine Ok.cd (fun _ => ?_) (fun h => by have := of_decide_eq_false h; omega)
      refine Ok.gd (by rw [inR_nat]; exact decide_eq_true hk) (Ok.gd (by rw [inR_nat]; exact decide_eq_true hk) ?_)
      rw [gt_nat]
      exact Ok.bde (reg_self (hc k hk)) (Ok.cd (fun h => by cases h) (fun _ => ih trivial))
    · intro again _
      exact Ok.cd (fun h => by have := of_decide_eq_true h; omega) (fun _ => ok_some.2 trivial)
  · rintro (_ | r) h
    · exact ok_some.2 rfl
    · exact ok_some.2 h
theorem regR_cells (E : Nat → Nat → Prop) (m : Nat) (vd : Nat → Int) (t : Nat) : ∀ j, j < (regR E m vd t).length → ((regR E m vd t).getD j default).Cells.length ≤ m := by
  intro j hj
  have hmem : (regR E m vd t).getD j default ∈ regR E m vd t := by
    simp only [List.getD, List.getElem?_eq_getElem hj, Option.getD_some]; exact List.getElem_mem hj
  generalize (regR E m vd t).getD j default = x at *
  unfold regR at hmem
  obtain ⟨k, _, rfl⟩ := List.mem_map.1 hmem
  exact cells_len E m k
theorem regions_law (a b : api_Banded) : fiduciallaw59_ChangeRegions 5000 a b = some true := by
  apply Ok.eq
  unfold fiduciallaw59_ChangeRegions
  refine Ok.bde known59_v (Ok.cd (fun h => by cases h) (fun _ => Ok.bde (few_v (by simp) (by simp)) (Ok.cd (fun _ => ok_some.2 rfl) (fun hfew => ?_))))
  have hfew : fewB [a, b] = true := by simpa using hfew
  have hS := short_of_few (l := [a, b]) (by simp) hfew
  by_cases hc : codeF [a, b] = 0
  · have f := codeF_two hc
    have h64 : a.Grid.Z.length ≤ 64 := by
      have := hfew
      unfold fewB at this
      simp at this
      omega
    have hw2 := f.ga.w
    have hw : ((a.Grid.Width.toNat : Nat) : Int) = a.Grid.Width := by omega
    refine Ok.bde (cregions_v f hS hc rfl h64 hw) (Ok.bde (fits_v hS) ?_)
    rw [hc]
    refine Ok.cd (fun h => by cases h) (fun _ => Ok.cd (fun _ => ?_) (fun h => by cases h))
    refine Ok.bde (lregions_v (by omega) f rfl h64 hw) ?_
    have hl := regR_len (Ed (verd a b) a.Grid.Width.toNat a.Grid.Z.length) a.Grid.Z.length (verd a b) a.Grid.Z.length
    have hcl := regR_cells (Ed (verd a b) a.Grid.Width.toNat a.Grid.Z.length) a.Grid.Z.length (verd a b) a.Grid.Z.length
    exact Ok.bde (eqf_self (s := regR (Ed (verd a b) a.Grid.Width.toNat a.Grid.Z.length) a.Grid.Z.length (verd a b) a.Grid.Z.length) (Nat.le_trans hl h64) (fun j hj => Nat.le_trans (hcl j hj) h64)) (ok_some.2 rfl)
  · refine Ok.bde (b := ([], codeF [a, b])) ?_ (Ok.bde (fits_v hS) ?_)
    · unfold change_Regions
      rw [fit_v hS]
      have : (codeF [a, b] != 0) = true := by simpa using hc
      show cdO (codeF [a, b] != 0) _ _ = _
      rw [this]; rfl
    · refine Ok.cd (fun _ => Ok.cd (fun _ => ok_some.2 rfl) (fun h => by simp at h)) (fun h => by simp at h; exact (hc h).elim)
end Go.L

