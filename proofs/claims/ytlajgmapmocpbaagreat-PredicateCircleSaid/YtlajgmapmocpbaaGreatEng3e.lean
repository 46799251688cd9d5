/- The engine, part 3: an operation's abstract answer is right. -/
import Derived.Test.YtlajgmapmocpbaaGreatEng2e
set_option linter.unusedSimpArgs false
set_option linter.unusedVariables false
namespace Go.Eng
open Go Go.RowKit

theorem run_size {P : Program} {t : TypeId} {n : Nat} (h : tSize P t = some n) (w : World) : (sizeOf t).run P w = .ok n w := by
  unfold tSize at h
  split at h
  · rename_i i hi; cases h; simp [sizeOf, typeInfo, hi]
  · cases h
theorem run_agg {P : Program} {t : TypeId} {b : Bool} (h : tAgg P t = some b) (w : World) : (isAgg t).run P w = .ok b w := by
  unfold tAgg at h
  cases hd : P.underlying t with
  | none => simp [hd] at h
  | some d => cases d <;> simp [hd] at h <;> subst h <;> simp [isAgg, run_underlying hd]
theorem run_zero {P : Program} {t : TypeId} {z : List AV} (h : tZero P t = some z) (w : World) : ∃ zv i, P.info? t = some i ∧ i.zero = some zv ∧ (zeroValue t).run P w = .ok zv w ∧ z = zv.cells.toList.map .at := by
  unfold tZero at h
  split at h
  · rename_i i hi
    split at h
    · rename_i zv hz; cases h; exact ⟨zv, i, hi, hz, by simp [zeroValue, typeInfo, hi, hz], rfl⟩
    · cases h
  · cases h

theorem addr_add (b o n : Nat) : (⟨b, o, none⟩ : Addr).add n = ⟨b, o + n, none⟩ := by unfold Addr.add; split <;> simp_all

section
variable {P : Program} {out : Nat → Prop} {B : Nat → Prop} {w : World} {π : List (Option PB)} {H : List Blk}

theorem blk_cells (hI : Inv out B w π H) {i : Nat} {p : PB} {cs : List AV} (hH : H[i]? = some (.own cs) ∨ H[i]? = some (.fix cs)) (hp : π[i]? = some (some p)) : RvC w (muOf out π H) π cs p.blk p.off := by
  rcases hH with h | h
  · exact (hI.ok i _ p h hp).2
  · exact hI.ok i _ p h hp

theorem cellsFrom_sound (hI : Inv out B w π H) {a : AV} {v : Value} {cs : List AV} (hv : Rv w (muOf out π H) π a v) (h : cellsFrom H a = some cs) :
    ∃ b o, v = .pointer (some ⟨b, o, none⟩) ∧ RvC w (muOf out π H) π cs b o := by
  unfold cellsFrom at h
  split at h
  · rename_i i off
    obtain ⟨p, hp, rfl⟩ := hv
    split at h
    · rename_i c hc; cases h; exact ⟨_, _, rfl, RvC.drop off c _ _ (blk_cells hI (.inl hc) hp)⟩
    · rename_i c hc; cases h; exact ⟨_, _, rfl, RvC.drop off c _ _ (blk_cells hI (.inr hc) hp)⟩
    · cases h
  · rename_i c off
    cases h
    obtain ⟨b, o, rfl, _, h3⟩ := hv
    exact ⟨_, _, rfl, RvC.drop off c _ _ h3.lift⟩
  · cases h

theorem cellAt_sound (hI : Inv out B w π H) {a : AV} {v : Value} {A : AV} (hv : Rv w (muOf out π H) π a v) (h : cellAt H a = some A) :
    ∃ ad u, v = .pointer (some ad) ∧ w.cell? ad = some u ∧ Rv w (muOf out π H) π A u := by
  unfold cellAt at h
  split at h
  · rename_i i off
    obtain ⟨p, hp, rfl⟩ := hv
    split at h
    · rename_i c hc
      obtain ⟨u, h1, _, h2⟩ := RvC.get c _ _ off A (blk_cells hI (.inl hc) hp) h
      exact ⟨_, u, rfl, h1, h2⟩
    · rename_i c hc
      obtain ⟨u, h1, _, h2⟩ := RvC.get c _ _ off A (blk_cells hI (.inr hc) hp) h
      exact ⟨_, u, rfl, h1, h2⟩
    · cases h
  · rename_i c off
    obtain ⟨b, o, rfl, _, h3⟩ := hv
    obtain ⟨u, h1, _, h2⟩ := RvC.get c _ _ off A h3.lift h
    exact ⟨_, u, rfl, h1, h2⟩
  · cases h

theorem RvC_loads {mu : Nat → Prop} {cs : List AV} {b o n : Nat} (h : RvC w mu π cs b o) (hn : n ≤ cs.length) :
    ∃ vs : List Value, vs.length = n ∧ RvL w mu π (cs.take n) vs ∧ (∀ v ∈ vs, v.oneCell' = true) ∧ (∀ j v, vs[j]? = some v → w.cell? ((⟨b, o, none⟩ : Addr).add j) = some v) := by
  obtain ⟨vs, h1, h2, h3, h4⟩ := RvC.list (cs.take n) b o (RvC.take n cs b o h)
  refine ⟨vs, by simp [h1]; omega, h2, h3, fun j v hj => ?_⟩
  rw [addr_add]; exact h4 j v hj

theorem loadA_sound (hI : Inv out B w π H) {t : TypeId} {a : AV} {v : Value} {A : AV} (hv : Rv w (muOf out π H) π a v) (h : loadA P H t a = some A) :
    ∃ u, (Instr.loadAt t v).run P w = .ok u w ∧ Rv w (muOf out π H) π A u := by
  unfold loadA at h
  split at h
  · rename_i hagg
    split at h
    · rename_i n cs hn hcs
      split at h
      · rename_i hle
        cases h
        obtain ⟨b, o, rfl, hc⟩ := cellsFrom_sound hI hv hcs
        obtain ⟨vs, h1, h2, _, h4⟩ := RvC_loads hc (by simpa using hle)
        refine ⟨.agg vs.toArray, ?_, ⟨vs.toArray, rfl, h2⟩⟩
        have hl := run_loadCells_list (P := P) w ⟨b, o, none⟩ vs h4
        rw [h1] at hl
        simp [Instr.loadAt, Instr.sureAddr, loadVar, run_agg hagg, run_size hn, hl]
      · cases h
    · cases h
  · rename_i hagg
    obtain ⟨ad, u, rfl, h1, h2⟩ := cellAt_sound hI hv h
    exact ⟨u, by simp [Instr.loadAt, Instr.sureAddr, loadVar, run_agg hagg, h1], h2⟩
  · cases h

/-- Stores, one cell behind the other. -/
theorem store_cells {i : Nat} {p : PB} (hp : π[i]? = some (some p)) : ∀ (xs : List AV) (vs : List Value) (k off : Nat) (cs : List AV) (w : World) (H : List Blk), Inv out B w π H → H[i]? = some (.own cs) →
    RvL w (muOf out π H) π xs vs → (∀ v ∈ vs, v.oneCell' = true) → off + k + xs.length ≤ cs.length →
    ∃ w', (storeCells ⟨p.blk, p.off + off, none⟩ vs k).run P w = .ok () w' ∧ Ext B w w' (muOf out π H) (muOf out π (H.set i (.own (setCells cs (off + k) xs)))) π π ∧ Inv out B w' π (H.set i (.own (setCells cs (off + k) xs)))
  | [], vs, k, off, cs, w, H, hI, hH, hv, _, _ => by
    cases hv
    have he : H.set i (.own (setCells cs (off + k) [])) = H := by
      apply List.ext_getElem?
      intro j
      rw [List.getElem?_set]
      split
      · rename_i hij; subst hij; rw [if_pos (getElem?_lt hH)]; exact hH.symm
      · rfl
    rw [he]
    exact ⟨w, rfl, Ext.refl _ _ _, hI⟩
  | x :: xs, vs, k, off, cs, w, H, hI, hH, hv, h1, hl => by
    obtain ⟨v, vs', rfl, hx, hxs⟩ := hv
    have hlen : off + k < cs.length := by simp at hl; omega
    obtain ⟨⟨c, e, hheap, hsz⟩, hC⟩ := hI.ok i _ p hH hp
    have hb := RvC.bound hC hheap (by intro e0; subst e0; simp at hlen)
    obtain ⟨u, hu, _, _⟩ := RvC.get cs _ _ (off + k) cs[off + k] hC (List.getElem?_eq_getElem hlen)
    have hfro : w.frozen? ⟨p.blk, p.off + (off + k), none⟩ = false := by simp [World.frozen?, hheap]
    have hst : (store ((⟨p.blk, p.off + off, none⟩ : Addr).add k) v).run P w = .ok () (w.setCell ⟨p.blk, p.off + (off + k), none⟩ v) := by
      rw [addr_add, show p.off + off + k = p.off + (off + k) by omega, run_store P w _ v _ (h1 v (by simp)), hu]
      simp [hfro]
    have hstep := Inv.setBlk hI hH hp rfl (.own (cs.set (off + k) x)) (w' := w.setCell ⟨p.blk, p.off + (off + k), none⟩ v) (by simp) (fun b hb => Below.heap_setCell w _ v b hb) rfl rfl rfl (fun hE => by
      refine ⟨?_, ?_⟩
      · refine ⟨c.setIfInBounds (p.off + (off + k)) v, e, ?_, by simpa using hsz⟩
        simp [World.setCell, Array.getElem?_modify, hheap]
      · obtain ⟨us, g1, g2, g3, g4⟩ := RvC.list cs _ _ hC
        refine RvC_of_list (cs.set (off + k) x) (us.set (off + k) v) _ _ (RvL.set cs us _ x v (RvL.ext hE cs us g2) (Rv.ext hE x v hx)) ?_ ?_
        · intro y hy
          rcases List.mem_or_eq_of_mem_set hy with hy | rfl
          · exact g3 y hy
          · exact h1 _ (by simp)
        · intro j y hj
          rw [List.getElem?_set] at hj
          split at hj
          · rename_i hjk
            subst hjk
            split at hj
            · cases hj; exact World.cell?_setCell_same w _ _ hu
            · cases hj
          · rename_i hjk
            rw [World.cell?_setCell_other w _ _ _ (by intro e0; injection e0 with e1 e2; omega)]
            exact g4 j y hj)
    obtain ⟨hE, hI'⟩ := hstep
    obtain ⟨w', r1, r2, r3⟩ := store_cells hp xs vs' (k + 1) off (cs.set (off + k) x) (w.setCell ⟨p.blk, p.off + (off + k), none⟩ v) (H.set i (.own (cs.set (off + k) x))) hI' (by
        rw [List.getElem?_set, if_pos rfl, if_pos (getElem?_lt hH)]) (RvL.ext hE xs vs' hxs) (fun y hy => h1 y (by simp [hy])) (by simp at hl ⊢; omega)
    refine ⟨w', by simp only [storeCells, Sem.run_bind, hst, Result.andThen_ok, r1], ?_, ?_⟩
    · rw [List.set_set] at r2
      exact hE.trans (by simpa [setCells, Nat.add_assoc] using r2)
    · rw [List.set_set] at r3
      simpa [setCells, Nat.add_assoc] using r3

theorem storeA_sound (hI : Inv out B w π H) {t : TypeId} {a x : AV} {va vx : Value} {ws : List (Nat × Blk)} (ha : Rv w (muOf out π H) π a va) (hx : Rv w (muOf out π H) π x vx) (h : storeA P H t a x = some ws) :
    ∃ w', (Instr.storeAt t va vx).run P w = .ok () w' ∧ Ext B w w' (muOf out π H) (muOf out π (updAll H ws)) π π ∧ Inv out B w' π (updAll H ws) := by
  unfold storeA at h
  split at h
  · rename_i i off
    obtain ⟨p, hp, rfl⟩ := ha
    split at h
    · rename_i cs n hH hn
      split at h
      · rename_i hc
        cases h
        simp only [Bool.and_eq_true, decide_eq_true_eq] at hc
        obtain ⟨h1, h2⟩ := cellsOf_sound hx hc.2
        have hl := RvL.length _ _ h1
        obtain ⟨w', r1, r2, r3⟩ := store_cells (P := P) hp (cellsOf x) vx.cells.toList 0 off cs w H hI hH h1 h2 (by omega)
        have hu : updAll H [(i, .own (setCells cs off (cellsOf x)))] = H.set i (.own (setCells cs off (cellsOf x))) := by simp [updAll, upd, getElem?_lt hH]
        rw [Nat.add_zero] at r2 r3
        refine ⟨w', ?_, by rw [hu]; exact r2, by rw [hu]; exact r3⟩
        have hsz : vx.cells.size = n := by rw [← Array.length_toList, hl, hc.1.1]
        simp [Instr.storeAt, Instr.sureAddr, storeVar, run_size hn, hsz, r1]
      · cases h
    · cases h
  · cases h
end

/- Aggregates. -/
def setL : List Value → Nat → List Value → List Value
  | l, _, [] => l
  | l, off, x :: xs => setL (l.set off x) (off + 1) xs

theorem RvL_setCells {mu : Nat → Prop} {π : List (Option PB)} {w : World} : ∀ (xs : List AV) (vs : List Value) (cs : List AV) (us : List Value) (off : Nat), RvL w mu π xs vs → RvL w mu π cs us → RvL w mu π (setCells cs off xs) (setL us off vs)
  | [], vs, cs, us, off, h, k => by cases h; exact k
  | x :: xs, vs, cs, us, off, h, k => by
    obtain ⟨v, vs', rfl, h1, h2⟩ := h
    exact RvL_setCells xs vs' _ _ _ h2 (RvL.set cs us off x v k h1)

theorem length_setL : ∀ (vs us : List Value) (off : Nat), (setL us off vs).length = us.length
  | [], _, _ => rfl
  | v :: vs, us, off => by simp [setL, length_setL vs]

theorem mem_setL {x : Value} : ∀ (vs us : List Value) (off : Nat), x ∈ setL us off vs → x ∈ us ∨ x ∈ vs
  | [], _, _, h => .inl h
  | v :: vs, us, off, h => by
    rcases mem_setL vs _ _ h with h | h
    · rcases List.mem_or_eq_of_mem_set h with h | rfl
      · exact .inl h
      · exact .inr (by simp)
    · exact .inr (by simp [h])

theorem foldl_setL (off : Nat) : ∀ (l : List Value) (k : Nat) (cells : Array Value),
    ((l.zipIdx k).foldl (fun (cs : Array Value) (p : Value × Nat) => cs.setIfInBounds (off + p.2) p.1) cells).toList = setL cells.toList (off + k) l
  | [], _, _ => rfl
  | v :: l, k, cells => by
    simp only [List.zipIdx_cons, List.foldl_cons, setL]
    rw [foldl_setL off l (k + 1)]
    simp [Nat.add_assoc]

theorem fill_step (off : Nat) (v : Value) (cells : Array Value) :
    (v.cells.zipIdx.foldl (fun (cs : Array Value) (p : Value × Nat) => cs.setIfInBounds (off + p.2) p.1) cells).toList = setL cells.toList off v.cells.toList := by
  rw [← Array.foldl_toList, Array.toList_zipIdx]
  exact foldl_setL off v.cells.toList 0 cells

theorem fillA_sound {mu : Nat → Prop} {π : List (Option PB)} {w : World} {place : Nat → Option (Nat × Nat)} : ∀ (ps : List (Nat × AV)) (qs : List (Nat × Value)) (cs : List AV) (cv : Array Value) (r : List AV),
    ps.map (·.1) = qs.map (·.1) → RvL w mu π (ps.map (·.2)) (qs.map (·.2)) → RvL w mu π cs cv.toList → (∀ v ∈ cv.toList, v.oneCell' = true) → fillA place cs ps = some r →
    ∃ rv, Instr.fill place cv qs = some rv ∧ RvL w mu π r rv.toList ∧ rv.size = cv.size ∧ (∀ v ∈ rv.toList, v.oneCell' = true)
  | [], qs, cs, cv, r, h1, _, h3, h4, h5 => by
    cases qs with
    | nil => simp [fillA] at h5; subst h5; exact ⟨cv, rfl, h3, rfl, h4⟩
    | cons q qs => simp at h1
  | (i, x) :: ps, qs, cs, cv, r, h1, h2, h3, h4, h5 => by
    cases qs with
    | nil => simp at h1
    | cons q qs =>
      obtain ⟨j, v⟩ := q
      simp only [List.map_cons, List.cons.injEq] at h1
      obtain ⟨rfl, h1⟩ := h1
      obtain ⟨v', vs', e, hx, hxs⟩ := h2
      simp only [List.map_cons, List.cons.injEq] at e
      obtain ⟨rfl, rfl⟩ := e
      unfold fillA at h5
      unfold Instr.fill
      split at h5
      · cases h5
      · rename_i off size hpl
        split at h5
        · rename_i hc
          simp only [Bool.and_eq_true, decide_eq_true_eq] at hc
          obtain ⟨g1, g2⟩ := cellsOf_sound hx hc.2
          have hl := RvL.length _ _ g1
          have hl2 := RvL.length _ _ h3
          simp only [Array.length_toList] at hl hl2
          have e1 : v.cells.size = size := by omega
          have e2 : ¬ cv.size < off + v.cells.size := by omega
          obtain ⟨rv, r1, r2, r3, r4⟩ := fillA_sound ps qs (setCells cs off (cellsOf x)) (v.cells.zipIdx.foldl (fun (cs : Array Value) (p : Value × Nat) => cs.setIfInBounds (off + p.2) p.1) cv) r h1 hxs (by
              rw [fill_step]; exact RvL_setCells _ _ _ _ _ g1 h3) (by
              rw [fill_step]; intro y hy
              rcases mem_setL _ _ _ hy with hy | hy
              · exact h4 y hy
              · exact g2 y hy) h5
          refine ⟨rv, ?_, r2, ?_, r4⟩
          · simp only [hpl]
            rw [if_neg (by simp [e1]; omega)]
            exact r1
          · rw [r3, ← Array.length_toList, fill_step, length_setL, Array.length_toList]
        · cases h5

theorem placesA_sound {P : Program} (w : World) : ∀ (fs : List Field) (pl : List (Nat × Nat)), placesA P fs = some pl → (fs.mapM (m := Sem) fun f => do pure (f.offset, ← sizeOf f.type)).run P w = .ok pl w
  | [], pl, h => by simp [placesA] at h; subst h; simp
  | f :: fs, pl, h => by
    unfold placesA at h
    split at h
    · rename_i n l hn hl
      cases h
      have ih := placesA_sound w fs l hl
      simp only [List.mapM_cons, Sem.run_bind, run_size hn, Result.andThen_ok, Sem.run_pure, ih]
    · cases h

theorem RvL_zeros {mu : Nat → Prop} {π : List (Option PB)} {w : World} (z : List Value) : ∀ n : Nat, RvL w mu π (zerosA (z.map .at) n) ((List.replicate n z).flatten)
  | 0 => rfl
  | n + 1 => by
    simp only [zerosA, List.replicate_succ, List.flatten_cons]
    exact RvL.append _ _ _ _ (RvL_map_at z) (RvL_zeros z n)

theorem flatten_replicate_get (z : List Value) (hz : 0 < z.length) : ∀ (n j : Nat), j < n * z.length → ((List.replicate n z).flatten)[j]? = z[j % z.length]?
  | 0, j, h => by simp at h
  | n + 1, j, h => by
    simp only [List.replicate_succ, List.flatten_cons]
    by_cases hj : j < z.length
    · rw [List.getElem?_append_left hj, Nat.mod_eq_of_lt hj]
    · rw [List.getElem?_append_right (by omega), flatten_replicate_get z hz n (j - z.length) (by rw [Nat.add_mul, Nat.one_mul] at h; omega)]
      congr 1
      rw [← Nat.mod_eq_sub_mod (by omega)]

theorem madeCells_eq (z : Array Value) (n : Nat) (hz : 0 < z.size) : (madeCells z (n * z.size)).toList = (List.replicate n z.toList).flatten := by
  apply List.ext_getElem?
  intro j
  by_cases hj : j < n * z.size
  · rw [flatten_replicate_get z.toList (by simpa using hz) n j (by simpa using hj)]
    simp [madeCells, hj, Nat.mod_lt _ hz, getElem!_pos]
  · rw [List.getElem?_eq_none (by simp [madeCells]; omega), List.getElem?_eq_none (by simp; omega)]

theorem all_zero {z : List Value} (h : (z.map AV.at).all isCell = true) : ∀ v ∈ z, v.oneCell' = true := by
  simpa [isCell, List.all_map] using h
theorem oneCell_flatten {z : List Value} (h : ∀ v ∈ z, v.oneCell' = true) (n : Nat) : ∀ v ∈ (List.replicate n z).flatten, v.oneCell' = true := by
  intro v hv
  simp only [List.mem_flatten, List.mem_replicate] at hv
  obtain ⟨l, ⟨_, rfl⟩, hv⟩ := hv
  exact h v hv

section
variable {P : Program} {out : Nat → Prop} {B : Nat → Prop} {w : World} {π : List (Option PB)} {H : List Blk}

/-- A new row of cells. -/
theorem new_row (hI : Inv out B w π H) {n : Nat} (hn : n ≤ H.length) (hf : ∀ q, π[n]? ≠ some (some q)) (cs : List AV) (vs : Array Value) (e : TypeId) (h : RvL w (muOf out π H) π cs (vs.toList.take cs.length)) (h1 : ∀ v ∈ vs.toList.take cs.length, v.oneCell' = true) :
    Ext B w (w.alloc (.cells vs e)) (muOf out π H) (muOf out (upd π n (some ⟨w.heap.size, 0, vs.size⟩)) (updAll H [(n, .own cs)])) π (upd π n (some ⟨w.heap.size, 0, vs.size⟩)) ∧
    Inv out B (w.alloc (.cells vs e)) (upd π n (some ⟨w.heap.size, 0, vs.size⟩)) (updAll H [(n, .own cs)]) := by
  have hE := ext_alloc hI (.cells vs e) (.own cs) ⟨w.heap.size, 0, vs.size⟩ rfl hn hf
  refine ⟨hE, hI.alloc _ _ _ rfl hn hf ⟨⟨vs, e, (by show (w.heap.push _)[w.heap.size]? = _; simp), rfl⟩, ?_⟩⟩
  refine RvC_of_list cs (vs.toList.take cs.length) _ _ (RvL.ext hE _ _ h) h1 fun j v hj => ?_
  rw [Nat.zero_add, World.cell?_alloc_new]
  rw [List.getElem?_take] at hj
  split at hj
  · simpa using hj
  · cases hj

theorem new_row_all (hI : Inv out B w π H) {n : Nat} (hn : n ≤ H.length) (hf : ∀ q, π[n]? ≠ some (some q)) (cs : List AV) (vs : Array Value) (e : TypeId) (h : RvL w (muOf out π H) π cs vs.toList) (h1 : ∀ v ∈ vs.toList, v.oneCell' = true) :
    Ext B w (w.alloc (.cells vs e)) (muOf out π H) (muOf out (upd π n (some ⟨w.heap.size, 0, vs.size⟩)) (updAll H [(n, .own cs)])) π (upd π n (some ⟨w.heap.size, 0, vs.size⟩)) ∧
    Inv out B (w.alloc (.cells vs e)) (upd π n (some ⟨w.heap.size, 0, vs.size⟩)) (updAll H [(n, .own cs)]) := by
  have hl := RvL.length _ _ h
  have ht : vs.toList.take cs.length = vs.toList := by rw [← hl, List.take_length]
  exact new_row hI hn hf cs vs e (by rw [ht]; exact h) (by rw [ht]; exact h1)

theorem last_pi (hI : Inv out B w π H) {n : Nat} (hn : n ≤ H.length) (p : PB) : (upd π n (some p))[n]? = some (some p) := by rw [upd_get (by have := hI.len; omega), if_pos rfl]
end
end Go.Eng
