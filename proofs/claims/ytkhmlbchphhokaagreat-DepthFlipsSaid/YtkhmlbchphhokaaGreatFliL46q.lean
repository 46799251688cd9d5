import Derived.Test.YtkhmlbchphhokaaGreatFliL46p
set_option linter.all false
namespace Go.L
open Go Go.Eng
def vF (f : api_Field) (u : Nat) : Int := f.V.getD u default
noncomputable def spkL (f : api_Field) (step least : Int) : List Int := (List.range f.V.length).map (spk (vF f) step least (wN f) f.V.length)
theorem mx_le_iff {a b c : Int} : mx a b ≤ c ↔ a ≤ c ∧ b ≤ c := by unfold mx; split <;> omega
theorem cast_at {L : List Nat} {k : Nat} (h : k < L.length) : gt (L.map (fun u : Nat => (u : Int))) (k : Int) = ((L.getD k 0 : Nat) : Int) := by
 rw [gt_nat]; simp [List.getD, h]
theorem speckles_ok {n : Nat} (hn : 4096 < n) {f : api_Field} (hf : OkF f) (h64 : f.V.length ≤ 80) {step : Int} (hs0 : 0 ≤ step) (least : Int) :
  depth_Speckles n f step least = some (api_Field.mk f.Width f.Height (spkL f step least), 0) := by
 have hW := wN_eq hf
 have hWp := wN_pos hf
 have hw64 := hf.w
 have hh64 := hf.h
 obtain ⟨h, hh⟩ : ∃ h : Nat, (h : Int) = f.Height := ⟨f.Height.toNat, by omega⟩
 have hmw : f.V.length = wN f * h := by
  have := rows hf
  rw [this, ← hh, Int.toNat_natCast]
 have hval := hf.v
 have hcv : depth_Check n f = some 0 := by rw [check_v (by omega) (by omega), okF_iff.2 hf]; rfl
 apply Ok.eq
 unfold depth_Speckles nbs spkL
 refine Ok.bde hcv (Ok.cd (fun h => by cases h) (fun _ => Ok.cd (fun h => by have := of_decide_eq_true h; omega) (fun _ => ?_)))
 refine Ok.bde (blank_v hn hf) ?_
 generalize hm : f.V.length = m at *
 generalize wN f = w at *
 have hs := es_symm (vF f) step w m
 generalize hE : Es (vF f) step w m = E at *
 have hVv : ∀ u, f.V.getD u default = vF f u := fun u => rfl
 have hpos : ∀ u v, Rc E u v → 0 ≤ vF f v → 0 ≤ vF f u := fun u v hr => by rw [← hE] at hr; exact es_pos hr
 have hEd : ∀ q v, E q v ↔ q < m ∧ v < m ∧ nr (vF f) step q v ∧ ∃ x, x < 4 ∧ Tx w x q v := fun q v => by rw [← hE]; exact Iff.rfl
 have hspk : ∀ u, spk (vF f) step least w m u = if 0 ≤ vF f u ∧ least ≤ cnt E m u then vF f u else -1 := fun u => by unfold spk; rw [hE]
 refine Ok.gd (decide_eq_true (by omega)) (Ok.gd (decide_eq_true (by omega)) (Ok.gd (decide_eq_true (by omega)) ?_))
 refine Ok.bd (R := fun o => o = (List.range m).map (spk (vF f) step least w m)) ?_ (fun o ho => ok_some.2 (by rw [ho]))
 refine ok_rangeG (γ := List Int × List Bool) (len := m) (fun c k => (c.1, c.2, k)) (fun t c => c.1.length = m ∧ c.2.length = m ∧ (∀ u, u < m → (c.2.getD u default = true ↔ 0 ≤ vF f u ∧ ∃ j, j < t ∧ Rc E j u)) ∧ (∀ u, u < m → c.1.getD u default = if c.2.getD u default = true ∧ least ≤ cnt E m u then vF f u else -1)) (by omega) (by omega) (c0 := (List.replicate m (-1), List.replicate ((m : Nat) : Int).toNat false)) ⟨by simp, by simp, fun u hu => ?_, fun u hu => ?_⟩ ?_ ?_
 · have e : (List.replicate ((m : Nat) : Int).toNat false).getD u default = false := by simp [List.getD, hu]
   dsimp only
   rw [e]
   constructor
   · intro h; cases h
   · rintro ⟨_, j, hj, _⟩; omega
 · have e : (List.replicate ((m : Nat) : Int).toNat false).getD u default = false := by simp [List.getD, hu]
   dsimp only
   rw [e, getD_rep hu]; simp
 · rintro again t ⟨o0, d0⟩ ht ⟨hlo, hld, hd0, ho0⟩ ih
   dsimp only at hlo hld hd0 ho0 ⊢
   refine Ok.cd (fun _ => ?_) (fun h => by have := of_decide_eq_false h; omega)
   refine Ok.gd (by rw [inR_nat]; exact decide_eq_true ht) ?_
   rw [gt_nat, hVv]
   have skip : (∀ u, u < m → 0 ≤ vF f u → Rc E t u → ∃ j, j < t ∧ Rc E j u) → Ok (again (o0, d0, wrapF .i64 ((t : Int) + 1))) (fun o => o = (List.range m).map (spk (vF f) step least w m)) := by
    intro hsk
    refine ih (o0, d0) ⟨hlo, hld, fun u hu => ?_, ho0⟩
    dsimp only
    rw [hd0 u hu]
    constructor
    · rintro ⟨h1, j, h2, h3⟩; exact ⟨h1, j, by omega, h3⟩
    · rintro ⟨h1, j, h2, h3⟩
      refine ⟨h1, ?_⟩
      by_cases hjt : j < t
      · exact ⟨j, hjt, h3⟩
      · have : j = t := by omega
        subst this
        exact hsk u hu h1 h3
   refine Ok.cd (fun hneg => ?_) (fun hnn => ?_)
   · have hneg := of_decide_eq_true hneg
     refine skip fun u hu h0 hr => ?_
     have := hpos t u hr h0
     omega
   have hnn : 0 ≤ vF f t := by have := of_decide_eq_false hnn; omega
   refine Ok.gd (by rw [inR_nat, hld]; exact decide_eq_true ht) ?_
   rw [gt_nat]
   refine Ok.cd (fun hsn => ?_) (fun hsn => ?_)
   · obtain ⟨_, j, j1, j2⟩ := (hd0 t ht).1 hsn
     exact skip fun u hu h0 hr => ⟨j, j1, j2.trans hr⟩
   have hfree : ∀ u, u < m → Rc E t u → d0.getD u default = false := by
    intro u hu hr
    cases hd : d0.getD u default with
    | false => rfl
    | true =>
     obtain ⟨_, j, j1, j2⟩ := (hd0 u hu).1 hd
     have := (hd0 t ht).2 ⟨hnn, j, j1, j2.trans (hr.symm hs)⟩
     rw [hsn] at this; cases this
   refine Ok.bd (R := fun o : List Bool × List Int => o.1.length = m ∧ (∀ u, u < m → (o.1.getD u default = true ↔ d0.getD u default = true ∨ Rc E t u)) ∧ ∃ rs : List Nat, o.2 = rs.map (fun u : Nat => (u : Int)) ∧ rs.Nodup ∧ ∀ u, u ∈ rs ↔ u < m ∧ Rc E t u) ?_ ?_
   · refine ok_loop (fun s : List Bool × List Int × Int => ∃ rs os : List Nat, s.2.1 = (rs ++ os).map (fun u : Nat => (u : Int)) ∧ s.2.2 = (rs.length : Int) ∧ Fl E m t d0 s.1 rs os ∧ ∀ u, u ∈ rs → ∀ v, E u v → v ∈ rs ++ os) (fun s => m - s.2.2.toNat) ?_ n _ ?_ ?_
     · rintro again2 ⟨d, r, at_⟩ ⟨rs, os, hr, hat, fl, cl⟩ ih2
       dsimp only at hr hat fl ih2 ⊢
       subst hr hat
       have hle := nodup_le fl.nd (fun u hu => (fl.mem u hu).1)
       rw [List.length_append] at hle
       have hrl : ((rs ++ os).map (fun u : Nat => (u : Int))).length = rs.length + os.length := by simp
       rw [hrl]
       cases os with
       | nil =>
        refine Ok.cd (fun h => by simp at h) (fun _ => ok_some.2 ⟨fl.len, fun u hu => ?_, rs, by simp, by have := fl.nd; rwa [List.append_nil] at this, fun u => ?_⟩)
        · rw [fl.dn u hu, List.append_nil]
          constructor
          · rintro (h | h)
            · exact .inl h
            · exact .inr (fl.mem u (by rw [List.append_nil]; exact h)).2
          · rintro (h | h)
            · exact .inl h
            · exact .inr (h.inv (P := fun x => x ∈ rs) (fun p q e hp => by have := cl p hp q e; rwa [List.append_nil] at this) (by have := fl.st; rwa [List.append_nil] at this))
        · constructor
          · intro hu; exact fl.mem u (by rw [List.append_nil]; exact hu)
          · rintro ⟨hu, h⟩
            exact h.inv (P := fun x => x ∈ rs) (fun p q e hp => by have := cl p hp q e; rwa [List.append_nil] at this) (by have := fl.st; rwa [List.append_nil] at this)
       | cons q os =>
        have hqm := fl.mem q (by simp)
        rw [List.length_cons] at hle
        have egt : gt ((rs ++ q :: os).map (fun u : Nat => (u : Int))) (rs.length : Int) = (q : Int) := by rw [cast_at (by simp)]; simp [List.getD]
        have hqp : 0 ≤ vF f q := hpos q t (hqm.2.symm hs) hnn
        rw [egt]
        refine Ok.cd (fun _ => ?_) (fun h => by have := of_decide_eq_false h; simp at this; omega)
        refine Ok.gd (by rw [inR_nat]; exact decide_eq_true (by simp)) (Ok.gd (by simp; omega) ?_)
        have hqh : q / w < h := Nat.div_lt_of_lt_mul (by rw [← hmw]; exact hqm.1)
        have hqw := Nat.mod_lt q hWp
        have em : ((q : Int)).tmod f.Width = ((q % w : Nat) : Int) := by rw [← hW, Int.tmod_eq_emod_of_nonneg (by omega)]; rfl
        have ed : ((q : Int)).tdiv f.Width = ((q / w : Nat) : Int) := by rw [← hW, Int.tdiv_eq_ediv_of_nonneg (by omega)]; rfl
        have gin := fun x hx => dir_in (w := w) (h := h) (q := q) (x := x) (by omega) hx (by rw [← hmw]; exact hqm.1) rfl rfl
        have gout := fun x hx v hv hT => dir_out (w := w) (h := h) (q := q) (x := x) (v := v) (by omega) hx (by rw [← hmw]; exact hqm.1) hv hT rfl rfl
        rw [← hmw] at gin gout
        generalize q / w = Q at *
        generalize q % w = M at *
        rw [em, ed, wrap64_in (n := (Q : Int)) (by omega) (by omega)]
        have hdirs := fun x hx => dirs (M := (M : Int)) (Q := (Q : Int)) (by omega) (by omega) x hx
        rw [show [A2.mk (wrapF .i64 ((M : Int) - 1)) (Q : Int), A2.mk (wrapF .i64 ((M : Int) + 1)) (Q : Int), A2.mk (M : Int) (wrapF .i64 ((Q : Int) - 1)), A2.mk (M : Int) (wrapF .i64 ((Q : Int) + 1))] = nb4 (M : Int) (Q : Int) from rfl]
        have hnbl : (nb4 (M : Int) (Q : Int)).length = 4 := rfl
        generalize nb4 (M : Int) (Q : Int) = NB at *
        refine Ok.bd (R := fun o : List Bool × List Int => ∃ ps : List Nat, o.2 = (rs ++ q :: os ++ ps).map (fun u : Nat => (u : Int)) ∧ Fl E m t d0 o.1 (rs ++ [q]) (os ++ ps) ∧ ∀ v, E q v → v ∈ rs ++ [q] ++ (os ++ ps)) ?_ ?_
        · refine ok_rangeG (γ := List Bool × List Int) (len := 4) (fun c k => (c.1, c.2, k)) (fun x c => ∃ ps : List Nat, c.2 = (rs ++ q :: os ++ ps).map (fun u : Nat => (u : Int)) ∧ Fl E m t d0 c.1 (rs ++ [q]) (os ++ ps) ∧ ∀ y, y < x → ∀ v, v < m → Tx w y q v → nr (vF f) step q v → v ∈ rs ++ [q] ++ (os ++ ps)) (by omega) (by omega) (c0 := (d, (rs ++ q :: os).map (fun u : Nat => (u : Int)))) ⟨[], by simp, fl.to (by simp), fun y hy => by omega⟩ ?_ ?_
          · rintro again3 x ⟨d', op'⟩ hx ⟨ps, hop', fl', cl'⟩ ih3
            dsimp only at hop' fl' cl' ⊢
            subst hop'
            have hle' := nodup_le fl'.nd (fun u hu => (fl'.mem u hu).1)
            simp only [List.length_append, List.length_cons, List.length_nil] at hle'
            have stay : (∀ v, v < m → Tx w x q v → nr (vF f) step q v → v ∈ rs ++ [q] ++ (os ++ ps)) → Ok (again3 (d', (rs ++ q :: os ++ ps).map (fun u : Nat => (u : Int)), wrapF .i64 ((x : Int) + 1))) (fun o : List Bool × List Int => ∃ ps : List Nat, o.2 = (rs ++ q :: os ++ ps).map (fun u : Nat => (u : Int)) ∧ Fl E m t d0 o.1 (rs ++ [q]) (os ++ ps) ∧ ∀ v, E q v → v ∈ rs ++ [q] ++ (os ++ ps)) := by
             intro hst
             refine ih3 (d', _) ⟨ps, rfl, fl', fun y hy v hv hT hN => ?_⟩
             by_cases hyx : y < x
             · exact cl' y hyx v hv hT hN
             · have : y = x := by omega
               subst this
               exact hst v hv hT hN
            refine Ok.cd (fun _ => ?_) (fun h => by have := of_decide_eq_false h; omega)
            refine Ok.gd (by rw [inR_nat, hnbl]; exact decide_eq_true hx) ?_
            have hb := d_bd x
            rw [(hdirs x hx).1, (hdirs x hx).2]
            have gin := gin x hx
            have gout := gout x hx
            generalize (M : Int) + dX x = cx at *
            generalize (Q : Int) + dY x = cy at *
            have none : ¬ (0 ≤ cx ∧ cx < f.Width ∧ 0 ≤ cy ∧ cy < f.Height) → ∀ v, v < m → Tx w x q v → nr (vF f) step q v → v ∈ rs ++ [q] ++ (os ++ ps) := by
             intro hn v hv hT
             have := gout v hv hT
             exact (hn ⟨this.1, by omega, this.2.2.1, by omega⟩).elim
            refine Ok.cd (fun h1 => stay (none fun e => by have := of_decide_eq_true h1; omega)) (fun h1 => ?_)
            refine Ok.cd (fun h2 => stay (none fun e => by have := of_decide_eq_true h2; omega)) (fun h2 => ?_)
            refine Ok.cd (fun h3 => stay (none fun e => by have := of_decide_eq_true h3; omega)) (fun h3 => ?_)
            refine Ok.cd (fun h4 => stay (none fun e => by have := of_decide_eq_true h4; omega)) (fun h4 => ?_)
            have h1 := of_decide_eq_false h1
            have h2 := of_decide_eq_false h2
            have h3 := of_decide_eq_false h3
            have h4 := of_decide_eq_false h4
            obtain ⟨v, v1, v2, v3⟩ := gin (by omega) (by omega) (by omega) (by omega)
            have hp : 0 ≤ cy * (w : Int) := Int.mul_nonneg (by omega) (by omega)
            rw [← hW, wrap64_in (n := cy * (w : Int)) (by omega) (by omega), v1, wrap64_in (n := (v : Int)) (by omega) (by omega)]
            have fun1 : ∀ u, Tx w x q u → u = v := fun u hT => tx_fun hx hT v3
            refine Ok.gd (by rw [inR_nat, fl'.len]; exact decide_eq_true v2) ?_
            rw [gt_nat]
            refine Ok.cd (fun h5 => ?_) (fun h5 => stay fun u hu hT hN => ?_)
            rotate_left
            · rw [fun1 u hT] at hN ⊢
              have h5 : d'.getD v default = true := by simpa using h5
              have hr : Rc E t v := hqm.2.step ((hEd q v).2 ⟨hqm.1, v2, hN, x, hx, v3⟩)
              rcases (fl'.dn v v2).1 h5 with hh | hh
              · rw [hfree v v2 hr] at hh; cases hh
              · exact hh
            have h5 : d'.getD v default = false := by simpa using h5
            refine Ok.gd (by rw [inR_nat]; exact decide_eq_true v2) ?_
            rw [gt_nat, hVv]
            refine Ok.cd (fun h6 => ?_) (fun h6 => stay fun u hu hT hN => by
             rw [fun1 u hT] at hN; have := of_decide_eq_false h6; have := hN.2.1; omega)
            have h6 := of_decide_eq_true h6
            refine Ok.gd (by rw [inR_nat]; exact decide_eq_true hqm.1) ?_
            rw [gt_nat, hVv]
            have b1 := hval q (by omega)
            have b2 := hval v (by omega)
            rw [hVv] at b1 b2
            rw [wrap64_in (n := vF f q - vF f v) (by omega) (by omega), wrap64_in (n := vF f v - vF f q) (by omega) (by omega)]
            refine Ok.cd (fun h7 => ?_) (fun h7 => stay fun u hu hT hN => by
             rw [fun1 u hT] at hN; exact (of_decide_eq_false h7 (mx_le_iff.2 hN.2.2)).elim)
            have h7 := mx_le_iff.1 (of_decide_eq_true h7)
            have hN : nr (vF f) step q v := ⟨hqp, h6, h7.1, h7.2⟩
            have hr : Rc E t v := hqm.2.step ((hEd q v).2 ⟨hqm.1, v2, hN, x, hx, v3⟩)
            refine Ok.gd (decide_eq_true (by simp; omega)) (Ok.gd (decide_eq_true (by simp; omega)) ?_)
            have ev : ((v : Int)).toNat = v := by omega
            rw [ev]
            refine ih3 (_, _) ⟨ps ++ [v], by simp, ?_, ?_⟩
            · rw [← List.append_assoc]; exact fl'.push v2 hr h5
            · intro y hy u hu hT hNu
              by_cases hyx : y < x
              · have := cl' y hyx u hu hT hNu
                simp only [List.mem_append] at this ⊢
                rcases this with h | h | h
                · exact .inl h
                · exact .inr (.inl h)
                · exact .inr (.inr (.inl h))
              · have : y = x := by omega
                subst this
                rw [fun1 u hT]
                simp
          · rintro again3 ⟨d', op'⟩ ⟨ps, hop', fl', cl'⟩
            dsimp only at hop' fl' cl' ⊢
            refine Ok.cd (fun h => by simp at h) (fun _ => ok_some.2 ⟨ps, hop', fl', fun v hv => ?_⟩)
            obtain ⟨e1, e2, e3, x, hx, e4⟩ := (hEd q v).1 hv
            exact cl' x hx v e2 e4 e3
        · rintro ⟨d', op'⟩ ⟨ps, hop', fl', cl'⟩
          dsimp only at hop' fl' cl' ⊢
          subst hop'
          have hle' := nodup_le fl'.nd (fun u hu => (fl'.mem u hu).1)
          simp only [List.length_append, List.length_cons, List.length_nil] at hle'
          rw [wrap64_in (by omega) (by omega)]
          refine ih2 _ ⟨rs ++ [q], os ++ ps, by simp, by simp, fl', fun u hu v hv => ?_⟩ ?_
          · rw [List.mem_append, List.mem_singleton] at hu
            rcases hu with hu | rfl
            · have := cl u hu v hv
              simp only [List.mem_append, List.mem_cons, List.not_mem_nil, or_false] at this ⊢
              rcases this with h | h | h
              · exact .inl (.inl h)
              · exact .inl (.inr h)
              · exact .inr (.inl h)
            · exact cl' v hv
          · dsimp only
            omega
     · have et : ((t : Int)).toNat = t := by omega
       refine ⟨[], [t], rfl, rfl, ⟨by simpa using hld, by simp, fun u hu => ?_, by simp, fun u hu => ?_⟩, fun u hu => by cases hu⟩
       · have : u = t := by simpa using hu
         subst this
         exact ⟨ht, .refl _⟩
       · rw [et, List.nil_append, List.mem_singleton]
         simp only [List.getD, List.getElem?_set, hld]
         by_cases h1 : t = u
         · subst h1; simp [ht]
         · have h1' : ¬ u = t := fun e => h1 e.symm
           simp [h1, h1']
     · dsimp only; omega
   · rintro ⟨d1, r⟩ ⟨hl1, hd1, rs, hr, hnd, hmem⟩
     dsimp only at hl1 hd1 hr ⊢
     subst hr
     have hcnt := cnt_of hnd hmem
     have hle := nodup_le hnd (fun u hu => ((hmem u).1 hu).1)
     have hrl : (rs.map (fun u : Nat => (u : Int))).length = rs.length := by simp
     rw [hrl, hcnt]
     have hcu : ∀ u, Rc E t u → cnt E m u = cnt E m t := fun u hu => by unfold cnt; rw [cellsN_eq hs hu]
     have hdn : ∀ u, u < m → (d1.getD u default = true ↔ 0 ≤ vF f u ∧ ∃ j, j < t + 1 ∧ Rc E j u) := by
      intro u hu
      rw [hd1 u hu, hd0 u hu]
      constructor
      · rintro (⟨h1, j, h2, h3⟩ | h1)
        · exact ⟨h1, j, by omega, h3⟩
        · exact ⟨hpos u t (h1.symm hs) hnn, t, by omega, h1⟩
      · rintro ⟨h1, j, h2, h3⟩
        by_cases hjt : j < t
        · exact .inl ⟨h1, j, hjt, h3⟩
        · have : j = t := by omega
          subst this
          exact .inr h3
     have hold : ∀ u, u < m → ¬ Rc E t u → d1.getD u default = d0.getD u default := by
      intro u hu hnr
      rw [Bool.eq_iff_iff, hd1 u hu]
      exact ⟨fun h => h.elim id fun h => (hnr h).elim, .inl⟩
     refine Ok.cd (fun hbig => ?_) (fun hsm => ?_)
     · have hbig := of_decide_eq_true hbig
       refine Ok.bd (R := fun o : List Int => o.length = m ∧ ∀ u, u < m → o.getD u default = if u ∈ rs then vF f u else o0.getD u default) ?_ ?_
       · refine ok_rangeR (len := rs.length) (fun k (o : List Int) => o.length = m ∧ ∀ u, u < m → o.getD u default = if u ∈ rs.take k then vF f u else o0.getD u default) (by omega) (by omega) ⟨hlo, fun u hu => by simp⟩ ?_ ?_
         · rintro again4 k o hk ⟨h1, h2⟩ ih4
           dsimp only
           have hq : rs.getD k 0 ∈ rs := by simp only [List.getD, List.getElem?_eq_getElem hk, Option.getD_some]; exact List.getElem_mem hk
           have hqm := ((hmem _).1 hq).1
           have htk : rs.take (k + 1) = rs.take k ++ [rs.getD k 0] := by rw [List.take_add_one]; simp [List.getD, hk]
           rw [cast_at hk]
           generalize rs.getD k 0 = q at *
           refine Ok.cd (fun _ => ?_) (fun h => by have := of_decide_eq_false h; omega)
           refine Ok.gd (by rw [inR_nat]; exact decide_eq_true hk) (Ok.gd (by rw [inR_nat]; exact decide_eq_true hqm) (Ok.gd (by rw [inR_nat, h1]; exact decide_eq_true hqm) ?_))
           refine ih4 _ ⟨by simpa using h1, fun u hu => ?_⟩
           have hmk : u ∈ rs.take (k + 1) ↔ u ∈ rs.take k ∨ u = q := by rw [htk, List.mem_append, List.mem_singleton]
           rw [Int.toNat_natCast, getD_set (by omega), gt_nat, hVv]
           by_cases huq : u = q
           · rw [if_pos huq, if_pos (hmk.2 (.inr huq)), huq]
           · rw [if_neg huq, h2 u hu]
             by_cases hut : u ∈ rs.take k
             · rw [if_pos hut, if_pos (hmk.2 (.inl hut))]
             · rw [if_neg hut, if_neg (fun h => (hmk.1 h).elim hut huq)]
         · rintro again4 o ⟨h1, h2⟩
           dsimp only
           refine Ok.cd (fun h => by have := of_decide_eq_true h; omega) (fun _ => ok_some.2 ⟨h1, fun u hu => ?_⟩)
           have := h2 u hu
           rwa [List.take_length] at this
       · rintro o ⟨h1, h2⟩
         refine ih (o, d1) ⟨h1, hl1, hdn, fun u hu => ?_⟩
         dsimp only
         rw [h2 u hu]
         by_cases hur : Rc E t u
         · rw [if_pos ((hmem u).2 ⟨hu, hur⟩), if_pos ⟨(hd1 u hu).2 (.inr hur), by rw [hcu u hur]; omega⟩]
         · rw [if_neg (fun e => hur ((hmem u).1 e).2), ho0 u hu, hold u hu hur]
     · have hsm := of_decide_eq_false hsm
       refine ih (o0, d1) ⟨hlo, hl1, hdn, fun u hu => ?_⟩
       dsimp only
       rw [ho0 u hu]
       by_cases hur : Rc E t u
       · rw [if_neg (fun e => by rw [hfree u hu hur] at e; cases e.1), if_neg (fun e => by have := e.2; rw [hcu u hur] at this; omega)]
       · rw [hold u hu hur]
 · rintro again ⟨o0, d0⟩ ⟨hlo, hld, hd0, ho0⟩
   dsimp only at hlo hld hd0 ho0 ⊢
   refine Ok.cd (fun h => by have := of_decide_eq_true h; omega) (fun _ => ok_some.2 (list_at hlo fun j hj => ?_))
   rw [ho0 j hj, hspk]
   have : (d0.getD j default = true) ↔ 0 ≤ vF f j := by
    rw [hd0 j hj]
    exact ⟨fun h => h.1, fun h => ⟨h, j, hj, .refl j⟩⟩
   simp only [this]
end Go.L

