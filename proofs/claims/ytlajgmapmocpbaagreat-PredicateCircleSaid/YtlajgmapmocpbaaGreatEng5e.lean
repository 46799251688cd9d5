/- The engine, part 5: operations that make memory. -/
import Derived.Test.YtlajgmapmocpbaaGreatEng4e
set_option linter.unusedSimpArgs false
set_option linter.unusedVariables false
namespace Go.Eng
open Go Go.RowKit

section
variable {P : Program} {out : Nat → Prop} {B : Nat → Prop} {w : World} {π : List (Option PB)} {H : List Blk}

theorem Inv.same {w' : World} (hI : Inv out B w π H) (hh : w'.heap = w.heap) (ho : w'.os = w.os) (ht : w'.tape = w.tape) (hu : w'.output = w.output) :
    Ext B w w' (muOf out π H) (muOf out π H) π π ∧ Inv out B w' π H := by
  have hE : Ext B w w' (muOf out π H) (muOf out π H) π π := ⟨fun _ _ => by rw [hh], by rw [hh]; exact Nat.le_refl _, fun b _ h => ⟨by rw [hh], h⟩, fun _ _ h => h, ho, ht, hu⟩
  exact ⟨hE, hI.len, by rw [hh]; exact hI.bound, hI.out_lt, by rw [hh]; exact hI.base, fun i x p h1 h2 => BlkOk.ext hE (fun _ => by rw [hh]) (hI.ok i x p h1 h2), hI.sep⟩

theorem zeros_len (z : List AV) : ∀ n : Nat, (zerosA z n).length = n * z.length
  | 0 => by simp [zerosA]
  | n + 1 => by simp [zerosA, zeros_len z n, Nat.add_mul, Nat.add_comm]

theorem pi_kept (hI : Inv out B w π H) {n : Nat} (hn : n ≤ H.length) (p : Option PB) (x : Blk) : ∀ j, (∀ b, (j, b) ∉ [(n, x)]) → (upd π n p)[j]? = π[j]? := by
  intro j hj
  rw [upd_get (by have := hI.len; omega), if_neg]
  rintro rfl
  exact hj x (by simp)

theorem alloc_sound (hI : Inv out B w π H) {nid : Nat} (hn : nid ≤ H.length) (hf : ∀ q, π[nid]? ≠ some (some q)) {t : TypeId} {z : List AV} (hz : tZero P t = some z) (h1 : z.all isCell = true) :
    OSound P out B w π H (do pure (.value (← Instr.alloc t true (.tuple #[])))) (.eff (.hp nid 0) [(nid, .own z)]) := by
  obtain ⟨zv, _, hi, hzv, hrun, rfl⟩ := run_zero hz w
  obtain ⟨hE, hI'⟩ := new_row_all hI hn hf (zv.cells.toList.map .at) zv.cells t (RvL_map_at _) (all_zero h1)
  refine ⟨_, .pointer (some ⟨w.heap.size, 0, none⟩), _, _, by simp [Instr.alloc, hrun, newVar, newRow], .inl rfl, hE, hI', ⟨_, last_pi hI hn _, rfl⟩, pi_kept hI hn _ _⟩

theorem box_sound (hI : Inv out B w π H) {nid : Nat} (hn : nid ≤ H.length) (hf : ∀ q, π[nid]? ≠ some (some q)) {t : TypeId} {x : AV} {v : Value} (hx : Rv w (muOf out π H) π x v) (h1 : (cellsOf x).all isCell = true) :
    OSound P out B w π H (do pure (.value (← Instr.box t v))) (.eff (.hp nid 0) [(nid, .own (cellsOf x))]) := by
  obtain ⟨g1, g2⟩ := cellsOf_sound hx h1
  obtain ⟨hE, hI'⟩ := new_row_all hI hn hf (cellsOf x) v.cells t g1 g2
  exact ⟨_, .pointer (some ⟨w.heap.size, 0, none⟩), _, _, by simp [Instr.box, newVar, newRow], .inl rfl, hE, hI', ⟨_, last_pi hI hn _, rfl⟩, pi_kept hI hn _ _⟩

/-- The parts of a literal, as they are and as they read. -/
def partsR (w : World) (mu : Nat → Prop) (π : List (Option PB)) (ρ : Operand → AV) (ρc : Operand → Value) (l : List (Nat × Operand)) : Prop :=
  RvL w mu π ((l.map fun p => (p.1, ρ p.2)).map (·.2)) ((l.map fun p => (p.1, ρc p.2)).map (·.2))
theorem partsR_of {ρ : Operand → AV} {ρc : Operand → Value} {mu : Nat → Prop} (hρ : ∀ x, Rv w mu π (ρ x) (ρc x)) : ∀ l : List (Nat × Operand), partsR w mu π ρ ρc l
  | [] => rfl
  | (_, x) :: l => ⟨_, _, rfl, hρ x, partsR_of hρ l⟩
theorem RvL_map {ρ : Operand → AV} {ρc : Operand → Value} {mu : Nat → Prop} (hρ : ∀ x, Rv w mu π (ρ x) (ρc x)) : ∀ l : List Operand, RvL w mu π (l.map ρ) (l.map ρc)
  | [] => rfl
  | x :: l => ⟨_, _, rfl, hρ x, RvL_map hρ l⟩

theorem tZero_cells {t : TypeId} {z : List AV} (h : tZero P t = some z) : ∃ zv : Value, (∀ w, (zeroValue t).run P w = .ok zv w) ∧ z = zv.cells.toList.map .at := by
  unfold tZero at h
  split at h
  · rename_i i hi
    split at h
    · rename_i zv hz; cases h; exact ⟨zv, fun w => by simp [zeroValue, typeInfo, hi, hz], rfl⟩
    · cases h
  · cases h

theorem buildSlice_sound (hI : Inv out B w π H) {nid : Nat} (hnid : nid ≤ H.length) (hf0 : ∀ q, π[nid]? ≠ some (some q)) {ρ : Operand → AV} {ρc : Operand → Value} (hρ : ∀ x, Rv w (muOf out π H) π (ρ x) (ρc x)) {t e : TypeId} {len n : Nat} {z cs : List AV} {parts : Array (Nat × Operand)}
    (hu : P.underlying t = some (.slice e)) (hn : tSize P e = some n) (hz : tZero P e = some z) (h1 : len * n ≤ 16777216) (h2 : z.length = n) (h3 : z.all isCell = true)
    (hf : fillA (fun i => some (i * n, n)) (zerosA z len) (parts.toList.map fun p => (p.1, ρ p.2)) = some cs) :
    OSound P out B w π H (do pure (.value (← Instr.buildSlice t len (parts.map fun (i, x) => (i, ρc x))))) (.eff (.hs nid 0 len n) [(nid, .own cs)]) := by
  obtain ⟨zv, hrun, rfl⟩ := tZero_cells hz
  have hzs : zv.cells.size = n := by simpa using h2
  have hz1 := all_zero h3
  have hcells : ∀ z0 : Array Value, (if len * n = 0 then z0 = #[] else z0 = zv.cells) → ((Array.range (len * n)).map (z0[· % z0.size]!)).toList = (List.replicate len zv.cells.toList).flatten := by
    intro z0 h0
    by_cases hl : len * n = 0
    · rw [if_pos hl] at h0; subst h0
      rw [hl]
      rcases Nat.mul_eq_zero.1 hl with e0 | e0
      · simp [e0]
      · have : zv.cells = #[] := by rw [← Array.size_eq_zero_iff]; omega
        simp [this]
    · rw [if_neg hl] at h0; subst h0
      have hpos : 0 < zv.cells.size := by
        rw [hzs]; exact Nat.pos_of_ne_zero fun e0 => hl (by rw [e0]; simp)
      have := madeCells_eq zv.cells len hpos
      rw [hzs] at this
      simpa [madeCells] using this
  have hparts : (parts.map fun p : Nat × Operand => (p.1, ρc p.2)).toList = parts.toList.map fun p => (p.1, ρc p.2) := by simp
  have fin : ∀ z0 : Array Value, ((Array.range (len * n)).map (z0[· % z0.size]!)).toList = (List.replicate len zv.cells.toList).flatten →
      ∃ rv, Instr.fill (fun i => some (i * n, n)) ((Array.range (len * n)).map (z0[· % z0.size]!)) (parts.map fun p : Nat × Operand => (p.1, ρc p.2)).toList = some rv ∧ RvL w (muOf out π H) π cs rv.toList ∧ (∀ v ∈ rv.toList, v.oneCell' = true) ∧ rv.size = len * n := by
    intro z0 h0
    obtain ⟨rv, r1, r2, r3, r4⟩ := fillA_sound (w := w) (π := π) (mu := muOf out π H) (place := fun i => some (i * n, n)) (parts.toList.map fun p => (p.1, ρ p.2)) (parts.toList.map fun p => (p.1, ρc p.2)) (zerosA (zv.cells.toList.map .at) len)
      ((Array.range (len * n)).map (z0[· % z0.size]!)) cs (by simp) (partsR_of hρ _) (by rw [h0]; exact RvL_zeros _ _) (by rw [h0]; exact oneCell_flatten hz1 _) hf
    exact ⟨rv, by rw [hparts]; exact r1, r2, r4, by rw [r3]; simp⟩
  have hle : ¬ 16777216 < len * n := by omega
  by_cases hl : len * n = 0
  · obtain ⟨rv, r1, r2, r3, r4⟩ := fin #[] (hcells #[] (by rw [if_pos hl]))
    obtain ⟨hE, hI'⟩ := new_row_all hI hnid hf0 cs rv e r2 r3
    refine ⟨_, .slice (some ⟨w.heap.size, 0, none⟩) len len, _, _, ?_, .inl rfl, hE, hI', .inr ⟨_, _, _, last_pi hI hnid _, rfl, Nat.le_refl _, rfl, fun _ => ⟨rfl, ?_⟩⟩, pi_kept hI hnid _ _⟩
    · have hle' : ¬ len * n > 2 ^ 24 := by simpa using hle
      simp only [Instr.buildSlice, Sem.run_bind, run_underlying hu, Result.andThen_ok, run_size hn, Sem.run_ite, if_neg hle', if_pos hl, Sem.run_pure]
      rw [r1]
      rfl
    · simp [r4]
  · obtain ⟨rv, r1, r2, r3, r4⟩ := fin zv.cells (hcells zv.cells (by rw [if_neg hl]))
    obtain ⟨hE, hI'⟩ := new_row_all hI hnid hf0 cs rv e r2 r3
    refine ⟨_, .slice (some ⟨w.heap.size, 0, none⟩) len len, _, _, ?_, .inl rfl, hE, hI', .inr ⟨_, _, _, last_pi hI hnid _, rfl, Nat.le_refl _, rfl, fun _ => ⟨rfl, ?_⟩⟩, pi_kept hI hnid _ _⟩
    · have hle' : ¬ len * n > 2 ^ 24 := by simpa using hle
      simp only [Instr.buildSlice, Sem.run_bind, run_underlying hu, Result.andThen_ok, run_size hn, Sem.run_ite, if_neg hle', if_neg hl, hrun, Sem.run_pure]
      rw [r1]
      rfl
    · simp [r4]

theorem build_struct_sound {mu : Nat → Prop} {ρ : Operand → AV} {ρc : Operand → Value} (hρ : ∀ x, Rv w mu π (ρ x) (ρc x)) {t : TypeId} {fs : Array Field} {z cs : List AV} {pl : List (Nat × Nat)} {parts : Array (Nat × Operand)}
    (hu : P.underlying t = some (.struct fs)) (hz : tZero P t = some z) (hp : placesA P fs.toList = some pl) (h1 : z.all isCell = true) (hf : fillA (fun i => pl[i]?) z (parts.toList.map fun p => (p.1, ρ p.2)) = some cs) :
    ∃ u, (Instr.build t (parts.map fun (i, x) => (i, ρc x))).run P w = .ok u w ∧ Rv w mu π (.agg cs) u := by
  obtain ⟨zv, hrun, rfl⟩ := tZero_cells hz
  obtain ⟨rv, r1, r2, r3, r4⟩ := fillA_sound (w := w) (π := π) (mu := mu) (place := fun i => pl[i]?) (parts.toList.map fun p : Nat × Operand => (p.1, ρ p.2)) (parts.toList.map fun p : Nat × Operand => (p.1, ρc p.2)) (zv.cells.toList.map .at) zv.cells cs (by simp) (partsR_of hρ parts.toList) (RvL_map_at _) (all_zero h1) hf
  have hparts : (parts.map fun p : Nat × Operand => (p.1, ρc p.2)).toList = parts.toList.map fun p => (p.1, ρc p.2) := by simp
  refine ⟨.agg rv, ?_, rv, rfl, r2⟩
  have hpl : (fs.mapM (m := Sem) fun f => do pure (f.offset, ← sizeOf f.type)).run P w = .ok pl.toArray w := by
    rw [Array.mapM_eq_mapM_toList]
    have := placesA_sound (P := P) w fs.toList pl hp
    simp only [Sem.run_map, this, Result.andThen_ok]
  simp only [Instr.build, Sem.run_bind, hrun, Result.andThen_ok, run_underlying hu, hpl, hparts]
  have e : (fun x : Nat => pl.toArray[x]?) = (fun i : Nat => pl[i]?) := by funext i; simp
  simp only [e, r1]
  rfl

theorem build_array_sound {mu : Nat → Prop} {ρ : Operand → AV} {ρc : Operand → Value} (hρ : ∀ x, Rv w mu π (ρ x) (ρc x)) {t e : TypeId} {len n : Nat} {z cs : List AV} {parts : Array (Nat × Operand)}
    (hu : P.underlying t = some (.array len e)) (hz : tZero P t = some z) (hn : tSize P e = some n) (h1 : z.all isCell = true) (hf : fillA (fun i => some (i * n, n)) z (parts.toList.map fun p => (p.1, ρ p.2)) = some cs) :
    ∃ u, (Instr.build t (parts.map fun (i, x) => (i, ρc x))).run P w = .ok u w ∧ Rv w mu π (.agg cs) u := by
  obtain ⟨zv, hrun, rfl⟩ := tZero_cells hz
  obtain ⟨rv, r1, r2, r3, r4⟩ := fillA_sound (w := w) (π := π) (mu := mu) (place := fun i => some (i * n, n)) (parts.toList.map fun p : Nat × Operand => (p.1, ρ p.2)) (parts.toList.map fun p : Nat × Operand => (p.1, ρc p.2)) (zv.cells.toList.map .at) zv.cells cs (by simp) (partsR_of hρ parts.toList) (RvL_map_at _) (all_zero h1) hf
  have hparts : (parts.map fun p : Nat × Operand => (p.1, ρc p.2)).toList = parts.toList.map fun p => (p.1, ρc p.2) := by simp
  refine ⟨.agg rv, ?_, rv, rfl, r2⟩
  simp only [Instr.build, Sem.run_bind, hrun, Result.andThen_ok, run_underlying hu, run_size hn, hparts]
  rw [r1]
  rfl

theorem makeSlice_sound (hI : Inv out B w π H) {nid : Nat} (hnid : nid ≤ H.length) (hf0 : ∀ q, π[nid]? ≠ some (some q)) {t e : TypeId} {kl kc : IntKind} {l c : Int} {n by_ : Nat} {z : List AV} (hu : P.underlying t = some (.slice e)) (hn : tSize P e = some n) (hb : tBytes P e = some by_) (hz : tZero P e = some z)
    (h0 : 0 ≤ l) (hlc : l ≤ c) (hby : (by_ : Int) * c ≤ 281474976710656) (h63 : c ≤ 9223372036854775807) (hzl : z.length = n) (hn0 : 0 < n) (h3 : z.all isCell = true) :
    OSound P out B w π H (do pure (.value (← Instr.makeSlice t (.int kl l) (.int kc c)))) (.eff (.hs nid 0 l.toNat n) [(nid, .own (zerosA z c.toNat))]) := by
  obtain ⟨zv, i, hi, hzv, hrun, rfl⟩ := run_zero hz w
  have hsz : i.size = n := by simpa [tSize, hi] using hn
  have hbs : i.bytes = by_ := by simpa [tBytes, hi] using hb
  have hzs : zv.cells.size = n := by simpa using hzl
  have hm := run_make (P := P) w t e i zv hu hi hzv kl kc l c h0 hlc (by rw [hbs]; exact hby) h63
  have he : (madeCells zv.cells (c.toNat * i.size)).toList = (List.replicate c.toNat zv.cells.toList).flatten := by
    rw [hsz, ← hzs]; exact madeCells_eq zv.cells c.toNat (by omega)
  obtain ⟨hE, hI'⟩ := new_row_all hI hnid hf0 (zerosA (zv.cells.toList.map .at) c.toNat) (madeCells zv.cells (c.toNat * i.size)) e (by rw [he]; exact RvL_zeros _ _) (by rw [he]; exact oneCell_flatten (all_zero h3) _)
  exact ⟨_, .slice (some ⟨w.heap.size, 0, none⟩) l.toNat c.toNat, _, _, by simp [hm], .inl rfl, hE, hI', .inr ⟨_, _, _, last_pi hI hnid _, rfl, by omega, rfl, fun _ => ⟨rfl, by simp [size_madeCells, hsz]⟩⟩, pi_kept hI hnid _ _⟩
end

section
variable {P : Program} {out : Nat → Prop} {B : Nat → Prop} {w : World} {π : List (Option PB)} {H : List Blk}

/-- A slice whose cells are known: what it is in memory. -/
theorem sliceCells_sound (hI : Inv out B w π H) {n : Nat} {x : AV} {v : Value} {cs : List AV} {m : Nat} (hx : Rv w (muOf out π H) π x v) (h : sliceCells H n x = some (cs, m)) :
    ∃ a cap, v = .slice a m cap ∧ (a = none → m = 0) ∧ m ≤ cap ∧ ∃ vs : List Value, vs.length = m * n ∧ RvL w (muOf out π H) π cs vs ∧ (∀ u ∈ vs, u.oneCell' = true) ∧ (∀ b, a = some b → ∀ j u, vs[j]? = some u → w.cell? (b.add j) = some u) := by
  unfold sliceCells at h
  split at h
  · cases h; cases hx; exact ⟨none, 0, rfl, fun _ => rfl, Nat.le_refl _, [], by simp, rfl, by simp, fun b hb => by cases hb⟩
  · rename_i nl c len
    split at h
    · rename_i hl
      simp only [decide_eq_true_eq] at hl
      cases h
      rcases hx with ⟨_, rfl, rfl, rfl⟩ | ⟨b, o, cap, rfl, h2, h3, h4⟩ | ⟨rfl, rfl, a, cap, rfl⟩
      rotate_left 2
      · exact ⟨some a, cap, rfl, fun _ => rfl, Nat.zero_le _, [], by simp, rfl, by simp, fun b hb j u hj => by simp at hj⟩
      · exact ⟨none, 0, rfl, fun _ => rfl, Nat.le_refl _, [], by simp, rfl, by simp, fun b hb => by cases hb⟩
      · obtain ⟨vs, g1, g2, g3, g4⟩ := RvC_loads h4.lift (Nat.le_refl _)
        rw [List.take_length] at g2
        exact ⟨_, cap, rfl, (fun e => by cases e), h2, vs, by rw [g1]; exact hl, g2, g3, fun b' hb' => by cases hb'; exact g4⟩
    · cases h
  · rename_i i off len es
    rcases hx with ⟨rfl, rfl⟩ | ⟨p, a, cap, h1, rfl, h2, hsp, h3⟩
    · have : cs = [] ∧ m = 0 := by
        split at h
        · split at h
          · cases h; simp
          · cases h
        · split at h
          · cases h; simp
          · cases h
        · cases h
      obtain ⟨rfl, rfl⟩ := this
      exact ⟨none, 0, rfl, fun _ => rfl, Nat.le_refl _, [], by simp, rfl, by simp, fun b hb => by cases hb⟩
    have key : ∀ c : List AV, (H[i]? = some (.own c) ∨ H[i]? = some (.fix c)) → off + len * n ≤ c.length → cs = (c.drop off).take (len * n) → m = len →
        ∃ a' cap', Value.slice (some a) len cap = .slice a' m cap' ∧ (a' = none → m = 0) ∧ m ≤ cap' ∧ ∃ vs : List Value, vs.length = m * n ∧ RvL w (muOf out π H) π cs vs ∧ (∀ u ∈ vs, u.oneCell' = true) ∧ (∀ b, a' = some b → ∀ j u, vs[j]? = some u → w.cell? (b.add j) = some u) := by
      intro c hc hle e1 e2
      subst e1; subst e2
      obtain ⟨vs, g1, g2, g3, g4⟩ := RvC_loads (n := m * n) (RvC.drop off c _ _ (blk_cells hI hc h1)) (by simp; omega)
      refine ⟨_, cap, rfl, (fun e => by cases e), h2, vs, g1, g2, g3, fun b hb => ?_⟩
      cases hb
      intro j u hj
      by_cases hcap : 0 < cap
      · rw [(h3 hcap).1]; exact g4 j u hj
      · have : vs.length = 0 := by rw [g1]; have : m = 0 := by omega
                                   simp [this]
        rw [List.length_eq_zero_iff] at this
        subst this; simp at hj
    split at h
    · rename_i c hc
      split at h
      · rename_i hle; cases h; exact key c (.inl hc) (by simpa using hle) rfl rfl
      · cases h
    · rename_i c hc
      split at h
      · rename_i hle; cases h; exact key c (.inr hc) (by simpa using hle) rfl rfl
      · cases h
    · cases h
  · cases h

theorem run_firstCells_any {n m cap : Nat} {a : Option Addr} {vs : List Value} (w : World) (hl : vs.length = m * n) (h0 : a = none → m = 0) (h : ∀ b, a = some b → ∀ j u, vs[j]? = some u → w.cell? (b.add j) = some u) :
    (Builtin.firstCells n m (.slice a m cap)).run P w = .ok vs.toArray w := by
  cases a with
  | none =>
    have : vs = [] := by rw [← List.length_eq_zero_iff, hl, h0 rfl]; simp
    subst this; rfl
  | some b => exact run_firstCells_some w n m b m cap vs hl (h b rfl)

theorem append_sound (hI : Inv out B w π H) {nid : Nat} (hnid : nid ≤ H.length) (hf0 : ∀ q, π[nid]? ≠ some (some q)) {t t' e e' ty : TypeId} {n by_ : Nat} {z : List AV} {s x : AV} {vs vx : Value} {r : ORes} (ht : P.underlying t = some (.slice e)) (ht' : P.underlying t' = some (.slice e'))
    (hn : tSize P e = some n) (hb : tBytes P e = some by_) (hz : tZero P e = some z) (hzl : z.length = n) (hs : Rv w (muOf out π H) π s vs) (hx : Rv w (muOf out π H) π x vx) (h : appendA H nid n by_ s x = some r) :
    OSound P out B w π H (do pure (.value (← Builtin.append_ #[t, t'] ty #[vs, vx]))) r := by
  obtain ⟨zv, i, hi, hzv, hrun, rfl⟩ := run_zero hz w
  have hsz : i.size = n := by simpa [tSize, hi] using hn
  have hbs : i.bytes = by_ := by simpa [tBytes, hi] using hb
  unfold appendA at h
  split at h
  · cases h
  · rename_i new m hc
    obtain ⟨a, cap, rfl, h0, h1, us, hul, husR, hus1, hcell⟩ := sliceCells_sound hI hx hc
    have hfc := run_firstCells_any (P := P) (cap := cap) w hul h0 hcell
    have hfd := run_firstCells_any (P := P) (cap := cap) w.drew hul h0 (by simpa using hcell)
    have nothing : m = 0 → us = [] ∧ new = [] := by
      intro hm
      have hnil : us = [] := by rw [← List.length_eq_zero_iff, hul, hm]; simp
      subst hnil
      have := RvL.length _ _ husR
      exact ⟨rfl, by rw [← List.length_eq_zero_iff]; simpa using this.symm⟩
    have fin : m = 0 → ∀ (b : Option Addr) (l c : Nat), l ≤ c → (Builtin.append_ #[t, t'] ty #[.slice b l c, .slice a m cap]).run P w = .ok (.slice b l c) w := by
      intro hm b l c hlc
      obtain ⟨rfl, _⟩ := nothing hm
      subst hm
      cases b with
      | none => simp [Builtin.append_, run_underlying ht, run_underlying ht', run_size hn, Builtin.lenOf, hlc, hfc]
      | some b => simp [Builtin.append_, run_underlying ht, run_underlying ht', run_size hn, Builtin.lenOf, hlc, hfc, storeCells]
    by_cases hm0 : m = 0
    · -- nothing is put behind it
      obtain ⟨hus0, hnew0⟩ := nothing hm0
      have fin0 := fin hm0
      clear hfc hfd nothing fin hul husR hus1 hcell
      split at h
      · split at h
        · cases h; cases hs
          obtain ⟨hE, hI'⟩ := hI.addFree hnid hf0 (.own new)
          refine ⟨_, .slice none 0 0, w, upd π nid none, by simp only [Sem.run_bind, fin0 none 0 0 (Nat.le_refl _), Result.andThen_ok]; rfl, .inl rfl, hE, hI', .inl ⟨hm0, rfl⟩, pi_kept hI hnid _ _⟩
        · cases h
      · split at h
        · cases h
          have hs' := hs
          rcases hs with ⟨rfl, rfl, rfl, rfl⟩ | ⟨b, o, c, rfl, g2, _⟩ | ⟨rfl, rfl, a, c, rfl⟩
          · exact OSound.value (fin0 _ _ _ (Nat.le_refl _)) hs'
          · exact OSound.value (fin0 _ _ _ g2) hs'
          · exact OSound.value (fin0 _ _ _ (Nat.zero_le _)) hs'
        · cases h
      · rename_i i' off len es
        split at h
        · rename_i cs hH
          split at h
          · rename_i hcond
            simp only [Bool.and_eq_true, decide_eq_true_eq] at hcond
            obtain ⟨⟨⟨⟨rfl, k0⟩, k1⟩, k2⟩, k3⟩ := hcond
            cases h
            subst hm0; subst hnew0
            rcases hs with ⟨rfl, rfl⟩ | ⟨p, b, scap, h1', rfl, h2, hsp, h3⟩
            · obtain ⟨hE0, hI0⟩ := hI.kill i' (w' := w) rfl rfl rfl rfl
              obtain ⟨hE, hI'⟩ := hI0.addFree (by simpa using hnid) hf0 (.own ((cs.drop off).take (0 * es) ++ []))
              have hupd : updAll H [(i', .dead), (nid, .own ((cs.drop off).take (0 * es) ++ []))] = upd (H.set i' .dead) nid (.own ((cs.drop off).take (0 * es) ++ [])) := by simp [updAll, upd, getElem?_lt hH]
              rw [← hupd] at hE hI'
              exact ⟨_, .slice none 0 0, w, upd π nid none, by simp only [Sem.run_bind, fin0 none 0 0 (Nat.le_refl _), Result.andThen_ok]; rfl, .inl rfl, hE0.trans hE, hI', .inl ⟨rfl, rfl⟩, fun j hj => pi_kept hI hnid none (.own ((cs.drop off).take (0 * es) ++ [])) j (fun b hb => hj b (by simp at hb ⊢; exact .inr hb))⟩
            · obtain ⟨⟨c, te, hheap, hcs⟩, hC⟩ := hI.ok i' _ p hH h1'
              obtain ⟨hE, hI'⟩ := hI.grow hH h1' rfl (.own ((cs.drop off).take (len * es) ++ [])) ⟨p.blk, p.off + off, p.size⟩ rfl hnid hf0 (w' := w) rfl (fun _ _ => rfl) rfl rfl rfl (fun hE => by
                refine ⟨⟨c, te, hheap, hcs⟩, ?_⟩
                have hcc := RvC.ext hE ((cs.drop off).take (len * es)) _ _ rfl (RvC.take (len * es) _ _ _ (RvC.drop off cs _ _ hC))
                simpa using hcc)
              have hupd : updAll H [(i', .dead), (nid, .own ((cs.drop off).take (len * es) ++ []))] = upd (H.set i' .dead) nid (.own ((cs.drop off).take (len * es) ++ [])) := by simp [updAll, upd, getElem?_lt hH]
              rw [← hupd] at hE hI'
              refine ⟨_, .slice (some b) len scap, w, _, by simp only [Sem.run_bind, fin0 (some b) len scap h2, Result.andThen_ok]; rfl, .inl rfl, hE, hI', .inr ⟨⟨p.blk, p.off + off, p.size⟩, b, scap, last_pi hI hnid _, rfl, by omega, hsp, fun hc0 => ?_⟩, fun j hj => pi_kept hI hnid _ (.own ((cs.drop off).take (len * es) ++ [])) j (fun b hb => hj b (by simp at hb ⊢; exact .inr hb))⟩
              obtain ⟨e1, e2⟩ := h3 hc0
              exact ⟨by rw [e1, Nat.add_zero], by simpa using e2⟩
          · cases h
        · cases h
      · cases h
    obtain ⟨m, rfl⟩ : ∃ m', m = m' + 1 := ⟨m - 1, by omega⟩
    clear fin nothing hm0
    change us.length = (m + 1) * n at hul
    split at h
    · -- behind nil
      split at h
      · rename_i hcond
        simp only [Bool.and_eq_true, decide_eq_true_eq] at hcond
        obtain ⟨⟨k1, k2⟩, k3⟩ := hcond
        cases h; cases hs
        have hfit := growslice_fits (need := m + 1) (old := 0) (bytes := by_) (by omega) k1
        have g1 : ¬ 9223372036854775807 < ((m : Int) + 1) := by omega
        have g2 : ¬ 281474976710656 < Builtin.nextslicecap (m + 1) 0 * by_ := by omega
        obtain ⟨hE0, hI0⟩ := hI.same (w' := w.drew) rfl rfl rfl rfl
        have hlen := RvL.length _ _ husR
        obtain ⟨hE, hI'⟩ := new_row hI0 hnid hf0 new (us.toArray ++ Builtin.zeroCells zv.cells (grownCap w (m + 1) 0 e - (m + 1))) e (by
            have : (us.toArray ++ Builtin.zeroCells zv.cells (grownCap w (m + 1) 0 e - (m + 1))).toList.take new.length = us := by simp [← hlen]
            rw [this]; exact RvL.ext hE0 _ _ husR) (by
            have : (us.toArray ++ Builtin.zeroCells zv.cells (grownCap w (m + 1) 0 e - (m + 1))).toList.take new.length = us := by simp [← hlen]
            rw [this]; exact hus1)
        have hge : m + 1 ≤ grownCap w (m + 1) 0 e := by simp [grownCap, Question.cut]
        have hzsz : zv.cells.size = n := by simpa using hzl
        have e0 : (grownCap w (m + 1) 0 e - (m + 1)) * n + (m + 1) * n = grownCap w (m + 1) 0 e * n := by rw [← Nat.add_mul]; congr 1; omega
        refine ⟨_, .slice (some ⟨w.heap.size, 0, none⟩) (m + 1) (grownCap w (m + 1) 0 e), _, _, ?_, .inl rfl, hE0.trans hE, hI', .inr ⟨_, _, _, last_pi hI hnid _, rfl, hge, rfl, fun _ => ⟨rfl, ?_⟩⟩, pi_kept hI hnid _ _⟩
        · simp [Builtin.append_, run_underlying ht, run_underlying ht', sizeOf, typeInfo, zeroValue, hi, hzv, Builtin.lenOf, hsz, hbs, g1, g2, Question.forced, run_firstCells_none, hfd, newRow, grownCap]
        · simp only [Array.size_append, List.size_toArray, hul, size_zeroCells, hzsz]
          omega
      · cases h
    · split at h
      · rename_i h9; simp at h9
      · cases h
    · -- behind a slice of the call's own
      rename_i i' off len es
      split at h
      · rename_i cs hH
        split at h
        · rename_i hcond
          simp only [Bool.and_eq_true, decide_eq_true_eq] at hcond
          obtain ⟨⟨⟨⟨rfl, k0⟩, k1⟩, k2⟩, k3⟩ := hcond
          cases h
          rcases hs with ⟨rfl, rfl⟩ | ⟨p, b, scap, h1', rfl, h2, hsp, h3⟩
          · -- a nil slice
            have hfit := growslice_fits (need := m + 1) (old := 0) (bytes := by_) (by omega) (by simpa using k2)
            have g1 : ¬ 9223372036854775807 < ((m : Int) + 1) := by omega
            have g2 : ¬ 281474976710656 < Builtin.nextslicecap (m + 1) 0 * by_ := by omega
            obtain ⟨hE0, hI0⟩ := hI.kill i' (w' := w.drew) rfl rfl rfl rfl
            have hlen := RvL.length _ _ husR
            obtain ⟨hE, hI'⟩ := new_row hI0 (by simpa using hnid) hf0 ((cs.drop off).take (0 * es) ++ new) (us.toArray ++ Builtin.zeroCells zv.cells (grownCap w (m + 1) 0 e - (m + 1))) e (by
                have : (us.toArray ++ Builtin.zeroCells zv.cells (grownCap w (m + 1) 0 e - (m + 1))).toList.take ((cs.drop off).take (0 * es) ++ new).length = us := by simp [← hlen]
                rw [this]; simpa using RvL.ext hE0 _ _ husR) (by
                have : (us.toArray ++ Builtin.zeroCells zv.cells (grownCap w (m + 1) 0 e - (m + 1))).toList.take ((cs.drop off).take (0 * es) ++ new).length = us := by simp [← hlen]
                rw [this]; exact hus1)
            have hge : m + 1 ≤ grownCap w (m + 1) 0 e := by simp [grownCap, Question.cut]
            have hzsz : zv.cells.size = es := by simpa using hzl
            have e0 : (grownCap w (m + 1) 0 e - (m + 1)) * es + (m + 1) * es = grownCap w (m + 1) 0 e * es := by rw [← Nat.add_mul]; congr 1; omega
            have hupd : updAll H [(i', .dead), (nid, .own ((cs.drop off).take (0 * es) ++ new))] = updAll (H.set i' .dead) [(nid, .own ((cs.drop off).take (0 * es) ++ new))] := by simp [updAll, upd, getElem?_lt hH]
            rw [← hupd] at hE hI'
            refine ⟨_, .slice (some ⟨w.heap.size, 0, none⟩) (m + 1) (grownCap w (m + 1) 0 e), _, _, ?_, .inl rfl, hE0.trans hE, hI', .inr ⟨_, ⟨w.heap.size, 0, none⟩, grownCap w (m + 1) 0 e, last_pi hI hnid _, by rw [Nat.zero_add], by rw [Nat.zero_add]; exact hge, rfl, fun _ => ⟨rfl, ?_⟩⟩, fun j hj => pi_kept hI hnid _ (.own ((cs.drop off).take (0 * es) ++ new)) j (fun b hb => hj b (by simp at hb ⊢; exact .inr hb))⟩
            · simp [Builtin.append_, run_underlying ht, run_underlying ht', sizeOf, typeInfo, zeroValue, hi, hzv, Builtin.lenOf, hsz, hbs, g1, g2, Question.forced, run_firstCells_none, hfd, newRow, grownCap]
            · simp only [Array.size_append, List.size_toArray, hul, size_zeroCells, hzsz]
              omega
          obtain ⟨⟨c, te, hheap, hcs⟩, hC⟩ := hI.ok i' _ p hH h1'
          have hzsz : zv.cells.size = es := by simpa using hzl
          obtain ⟨os, o1, o2, o3, o4⟩ := RvC_loads (n := len * es) (RvC.drop off cs _ _ hC) (by simp; omega)
          have oldcell : ∀ (w' : World), (∀ ad, w'.cell? ad = w.cell? ad) → ∀ b', some b = some b' → ∀ j u, os[j]? = some u → w'.cell? (b'.add j) = some u := by
            intro w' hw' b' hb' j u hj
            cases hb'
            rw [hw']
            by_cases hcap : 0 < scap
            · rw [(h3 hcap).1]; exact o4 j u hj
            · have : os.length = 0 := by
                rw [o1]; have : len = 0 := by omega
                simp [this]
              rw [List.length_eq_zero_iff] at this
              subst this; simp at hj
          by_cases hroom : len + (m + 1) ≤ scap
          · -- in place
            obtain ⟨hb', hfit⟩ := h3 (by omega)
            subst hb'
            have hK : p.off + off + len * es + us.length ≤ c.size := by
              rw [hul, hcs]
              have : len * es + (m + 1) * es ≤ scap * es := by rw [← Nat.add_mul]; exact Nat.mul_le_mul_right _ hroom
              omega
            have hst := run_storeCells_at P p.blk (p.off + off + len * es) te us 0 c w hheap (by simpa using hK) hus1
            simp only [Nat.add_zero] at hst
            have hrunA : (Builtin.append_ #[t, t'] ty #[.slice (some ⟨p.blk, p.off + off, none⟩) len scap, .slice a (m + 1) cap]).run P w =
                .ok (.slice (some ⟨p.blk, p.off + off, none⟩) (len + (m + 1)) scap) (w.setRow p.blk (c.toList.take (p.off + off + len * es) ++ us ++ c.toList.drop (p.off + off + len * es + us.length)).toArray) := by
              simp [Builtin.append_, run_underlying ht, run_underlying ht', run_size hn, Builtin.lenOf, hroom, hfc, addr_add, hst]
            obtain ⟨hE, hI'⟩ := hI.grow hH h1' rfl (.own ((cs.drop off).take (len * es) ++ new)) ⟨p.blk, p.off + off, p.size⟩ rfl hnid hf0 (w' := w.setRow p.blk (c.toList.take (p.off + off + len * es) ++ us ++ c.toList.drop (p.off + off + len * es + us.length)).toArray)
              (by simp) (fun b hb => by simp only [World.setRow, Array.getElem?_modify]; rw [if_neg (by omega)]) rfl rfl rfl (fun hE => by
                refine ⟨⟨_, te, setRow_heap w _ c _ te _ hheap, ?_⟩, ?_⟩
                · simp; omega
                · refine RvC_of_list _ (os ++ us) _ _ (RvL.append _ _ _ _ (RvL.ext hE _ _ o2) (RvL.ext hE _ _ husR)) ?_ ?_
                  · intro u hu
                    rcases List.mem_append.1 hu with hu | hu
                    · exact o3 u hu
                    · exact hus1 u hu
                  · intro j u hj
                    simp only [World.cell?, setRow_heap w _ c _ te _ hheap]
                    simp only [Option.isSome_none, Bool.false_eq_true, if_false, List.getElem?_toArray]
                    have hlt : (c.toList.take (p.off + off + len * es)).length = p.off + off + len * es := by simp; omega
                    rw [List.append_assoc]
                    by_cases hjl : j < os.length
                    · rw [List.getElem?_append_left hjl] at hj
                      rw [List.getElem?_append_left (by rw [hlt]; omega), List.getElem?_take, if_pos (by omega)]
                      have := o4 j u hj
                      rw [addr_add] at this
                      simp only [World.cell?, hheap] at this
                      simpa using this
                    · rw [List.getElem?_append_right (by omega)] at hj
                      rw [List.getElem?_append_right (by rw [hlt]; omega), hlt, show p.off + off + j - (p.off + off + len * es) = j - os.length by omega]
                      rw [List.getElem?_append_left (getElem?_lt hj)]
                      exact hj)
            have hupd : updAll H [(i', .dead), (nid, .own ((cs.drop off).take (len * es) ++ new))] = upd (H.set i' .dead) nid (.own ((cs.drop off).take (len * es) ++ new)) := by simp [updAll, upd, getElem?_lt hH]
            rw [← hupd] at hE hI'
            refine ⟨_, .slice (some ⟨p.blk, p.off + off, none⟩) (len + (m + 1)) scap, _, _, by simp only [Sem.run_bind, hrunA, Result.andThen_ok]; rfl, .inl rfl, hE, hI', .inr ⟨_, _, _, last_pi hI hnid _, rfl, hroom, rfl, fun _ => ⟨rfl, ?_⟩⟩, fun j hj => pi_kept hI hnid _ (.own ((cs.drop off).take (len * es) ++ new)) j (fun b hb => hj b (by simp at hb ⊢; exact .inr hb))⟩
            simpa using hfit
          · -- a new array
            have hfit := growslice_fits (need := len + (m + 1)) (old := scap) (bytes := by_) (by omega) k2
            have g1 : ¬ 9223372036854775807 < ((len : Int) + ((m : Int) + 1)) := by omega
            have g2 : ¬ 281474976710656 < Builtin.nextslicecap (len + (m + 1)) scap * by_ := by omega
            obtain ⟨hE0, hI0⟩ := Inv.setBlk hI hH h1' rfl .dead (w' := w.drew) rfl (fun _ _ => rfl) rfl rfl rfl (fun _ => trivial)
            have hlen := RvL.length _ _ husR
            have hfo := run_firstCells_any (P := P) (cap := scap) (a := some b) w.drew o1 (fun e => by cases e) (oldcell w.drew (fun _ => by simp))
            have hol := RvL.length _ _ o2
            have htk : (os.toArray ++ us.toArray ++ Builtin.zeroCells zv.cells (grownCap w (len + (m + 1)) scap e - (len + (m + 1)))).toList.take ((cs.drop off).take (len * es) ++ new).length = os ++ us := by
              simp only [Array.toList_append, List.length_append]
              rw [← hol, ← hlen, ← List.length_append, List.take_left]
            obtain ⟨hE, hI'⟩ := new_row hI0 (by simpa using hnid) hf0 ((cs.drop off).take (len * es) ++ new) (os.toArray ++ us.toArray ++ Builtin.zeroCells zv.cells (grownCap w (len + (m + 1)) scap e - (len + (m + 1)))) e
              (by rw [htk]; exact RvL.ext hE0 _ _ (RvL.append _ _ _ _ o2 husR)) (by
                rw [htk]; intro u hu
                rcases List.mem_append.1 hu with hu | hu
                · exact o3 u hu
                · exact hus1 u hu)
            have hge : len + (m + 1) ≤ grownCap w (len + (m + 1)) scap e := by simp [grownCap, Question.cut]
            have e0 : (grownCap w (len + (m + 1)) scap e - (len + (m + 1))) * es + (len * es + (m + 1) * es) = grownCap w (len + (m + 1)) scap e * es := by
              rw [← Nat.add_mul, ← Nat.add_mul]; congr 1; omega
            have hupd : updAll H [(i', .dead), (nid, .own ((cs.drop off).take (len * es) ++ new))] = updAll (H.set i' .dead) [(nid, .own ((cs.drop off).take (len * es) ++ new))] := by simp [updAll, upd, getElem?_lt hH]
            rw [← hupd] at hE hI'
            refine ⟨_, .slice (some ⟨w.heap.size, 0, none⟩) (len + (m + 1)) (grownCap w (len + (m + 1)) scap e), _, _, ?_, .inl rfl, hE0.trans hE, hI', .inr ⟨_, _, _, last_pi hI hnid _, rfl, hge, rfl, fun _ => ⟨rfl, ?_⟩⟩, fun j hj => pi_kept hI hnid _ (.own ((cs.drop off).take (len * es) ++ new)) j (fun b hb => hj b (by simp at hb ⊢; exact .inr hb))⟩
            · simp [Builtin.append_, run_underlying ht, run_underlying ht', sizeOf, typeInfo, zeroValue, hi, hzv, Builtin.lenOf, hsz, hbs, g1, g2, hroom, Question.forced, hfo, hfd, newRow, grownCap]
              congr 2
              apply Array.ext'
              simp [List.append_assoc]
            · simp only [Array.size_append, List.size_toArray, o1, hul, size_zeroCells, hzsz]
              omega
        · cases h
      · cases h
    · cases h
end

/-- No function of the program is the one that the model answers by itself. -/
def NoNG (P : Program) : Prop := ∀ (f : Nat) (fn : Func), P.funcs[f]? = some fn → fn.name ≠ "runtime.NumGoroutine"

section
variable {P : Program} {out : Nat → Prop} {B : Nat → Prop} {w : World} {π : List (Option PB)} {H : List Blk}

theorem callFunc_run (hng : NoNG P) {f : FuncId} (h : callable P f = true) (args : Array Value) (w : World) : (callFunc f args).run P w = .ok (.enter f args) w := by
  unfold callable at h
  split at h
  · rename_i fn hf
    have hn := hng f fn hf
    have hb : ¬ fn.body = none := by intro e; simp [e] at h
    simp [callFunc, hf, hn, hb]
  · cases h

theorem builtinA_sound (hI : Inv out B w π H) {nid : Nat} (hnid : nid ≤ H.length) (hf0 : ∀ q, π[nid]? ≠ some (some q)) {b : Builtin} {at_ : Array TypeId} {ty : TypeId} {consts : Array Bool} {args : List AV} {vs : List Value} {r : ORes} (hv : RvL w (muOf out π H) π args vs) (h : builtinA P H nid b at_ ty args = some r) :
    OSound P out B w π H (builtin b at_ ty consts vs.toArray) r := by
  unfold builtinA at h
  split at h
  · rename_i x
    obtain ⟨v, vs', rfl, hx, rfl⟩ := hv
    split at h
    · rename_i t ht
      refine ofP_sound h fun A hA => ?_
      have : ∃ u, (Builtin.len_ at_ ty #[v]).run P w = .ok u w ∧ Rv w (muOf out π H) π A u := by
        unfold lenA at hA
        split at hA
        · rename_i e nl cs len hu
          cases hA
          rcases hx with ⟨_, rfl, _, rfl⟩ | ⟨b, o, cap, rfl, _⟩ | ⟨rfl, _, a, cap, rfl⟩
          rotate_left 2
          · exact ⟨.int .i64 0, by simp [Builtin.len_, ht, run_underlying hu, goInt], rfl⟩
          · exact ⟨.int .i64 0, by simp [Builtin.len_, ht, run_underlying hu, goInt], rfl⟩
          · exact ⟨.int .i64 len, by simp [Builtin.len_, ht, run_underlying hu, goInt], rfl⟩
        · rename_i e b off len es hu
          cases hA
          rcases hx with ⟨rfl, rfl⟩ | ⟨p, a, cap, _, rfl, _⟩
          · exact ⟨.int .i64 0, by simp [Builtin.len_, ht, run_underlying hu, goInt], rfl⟩
          · exact ⟨.int .i64 len, by simp [Builtin.len_, ht, run_underlying hu, goInt], rfl⟩
        · rename_i e hu
          cases hA; cases hx
          exact ⟨.int .i64 0, by simp [Builtin.len_, ht, run_underlying hu, goInt], rfl⟩
        · rename_i s hu
          cases hA; cases hx
          exact ⟨.int .i64 s.size, by simp [Builtin.len_, ht, run_underlying hu, goInt], rfl⟩
        · rename_i y n e hu
          cases hA
          exact ⟨.int .i64 n, by simp [Builtin.len_, ht, run_underlying hu, goInt], rfl⟩
        · cases hA
      obtain ⟨u, h1, h2⟩ := this
      exact OSound.value h1 h2
    · cases h
  · rename_i s x
    obtain ⟨v, vs', rfl, hs, u, vs'', rfl, hx, rfl⟩ := hv
    split at h
    · rename_i t t' h1 h2
      split at h
      · rename_i e e' hu hu'
        split at h
        · rename_i n by_ z hn hb hz
          split at h
          · rename_i hzl
            have := append_sound hI hnid hf0 (ty := ty) hu hu' hn hb hz (by simpa using hzl) hs hx h
            have e1 : (Builtin.append_ at_ ty #[v, u]).run P = (Builtin.append_ #[t, t'] ty #[v, u]).run P := by
              funext w
              simp only [Builtin.append_, h1, h2]
              rfl
            have e2 : (do pure (Next.value (← Builtin.append_ at_ ty #[v, u])) : Sem Next).run P = (do pure (Next.value (← Builtin.append_ #[t, t'] ty #[v, u])) : Sem Next).run P := by
              funext w; simp only [Sem.run_bind, e1]
            cases r with
            | pure A => obtain ⟨nx, y, k1, k2⟩ := this; exact ⟨nx, y, by rw [← e2] at k1; exact k1, k2⟩
            | eff A H' => obtain ⟨nx, y, w', π', k1, k2⟩ := this; exact ⟨nx, y, w', π', by rw [← e2] at k1; exact k1, k2⟩
            | call f as => obtain ⟨y, k1, k2⟩ := this; exact ⟨y, by rw [← e2] at k1; exact k1, k2⟩
          · cases h
        · cases h
      · cases h
    · cases h
  · split at h
    · rename_i us hus
      have := toVs_sound args vs us hv hus
      subst this
      split at h
      · rename_i y hy
        cases h
        exact OSound.value (pureRun_sound hy w) rfl
      · cases h
    · cases h
  · split at h
    · rename_i us hus
      have := toVs_sound args vs us hv hus
      subst this
      split at h
      · rename_i y hy
        cases h
        exact OSound.value (pureRun_sound hy w) rfl
      · cases h
    · cases h
  · cases h

theorem evalOp_sound (hng : NoNG P) (hI : Inv out B w π H) {nid : Nat} (hnid : nid ≤ H.length) (hf0 : ∀ q, π[nid]? ≠ some (some q)) {ρ : Operand → AV} {ρc : Operand → Value} (hρ : ∀ x, Rv w (muOf out π H) π (ρ x) (ρc x)) {o : Oper} {r : ORes} (h : evalOp P ρ H nid o = some r) :
    OSound P out B w π H (execOp ρc o) r := by
  unfold evalOp at h
  unfold execOp
  cases hop : o.op <;> simp only [hop, opPick, opAlloc, opBox, opBuild, opBuildSlice, opStore, opNilCheck, opConvert, opMakeSlice, opSlice, opCall] at h ⊢
  case move x => cases h; exact ⟨_, _, rfl, .inl rfl, hρ x⟩
  case «assign» x => cases h; exact ⟨_, _, rfl, .inl rfl, hρ x⟩
  case pick c a b =>
    split at h
    · rename_i t hc
      cases h
      have hcv : ρc c = .bool t := by have := hρ c; rw [hc] at this; exact this
      refine ⟨_, if t then ρc a else ρc b, ?_, .inl rfl, pick_sound (hρ a) (hρ b)⟩
      simp [hcv, asBool]
    · cases h
  case alloc t =>
    split at h
    · rename_i z hz
      split at h
      · rename_i h1; cases h; exact alloc_sound hI hnid hf0 hz h1
      · cases h
    · cases h
  case box t x =>
    split at h
    · rename_i h1; cases h; exact box_sound hI hnid hf0 (hρ x) h1
    · cases h
  case build t parts =>
    split at h
    · rename_i z fs hz hu
      split at h
      · rename_i pl hpl
        split at h
        · rename_i h1
          split at h
          · rename_i cs hcs
            cases h
            obtain ⟨u, r1, r2⟩ := build_struct_sound (w := w) (π := π) hρ hu hz hpl h1 hcs
            exact OSound.value r1 r2
          · cases h
        · cases h
      · cases h
    · rename_i z len e hz hu
      split at h
      · rename_i n hn
        split at h
        · rename_i h1
          split at h
          · rename_i cs hcs
            cases h
            obtain ⟨u, r1, r2⟩ := build_array_sound (w := w) (π := π) hρ hu hz hn h1 hcs
            exact OSound.value r1 r2
          · cases h
        · cases h
      · cases h
    · cases h
  case buildSlice t len parts =>
    split at h
    · rename_i e hu
      split at h
      · rename_i n z hn hz
        split at h
        · rename_i hc
          simp only [Bool.and_eq_true, decide_eq_true_eq] at hc
          split at h
          · rename_i cs hcs
            cases h
            exact buildSlice_sound hI hnid hf0 hρ hu hn hz hc.1.1 hc.1.2 hc.2 hcs
          · cases h
        · cases h
      · cases h
    · cases h
  case load t a =>
    refine ofP_sound h fun A hA => ?_
    obtain ⟨u, r1, r2⟩ := loadA_sound hI (hρ a) hA
    exact OSound.value r1 r2
  case store t a x =>
    split at h
    · rename_i H' hH'
      cases h
      obtain ⟨w', r1, r2, r3⟩ := storeA_sound hI (hρ a) (hρ x) hH'
      exact ⟨.skip, undef, w', π, by simp [r1], .inr ⟨rfl, rfl⟩, r2, r3, trivial, fun _ _ => rfl⟩
    · cases h
  case nilCheck x =>
    have hx := hρ x
    split at h
    · rename_i b off hb
      cases h
      rw [hb] at hx
      have hx' := hx
      obtain ⟨p, _, hp⟩ := hx
      refine ⟨_, ρc x, ?_, .inl rfl, hx'⟩
      rw [hp]; rfl
    · rename_i cs off hb
      cases h
      rw [hb] at hx
      have hx' := hx
      obtain ⟨b, o, hp, _⟩ := hx
      refine ⟨_, ρc x, ?_, .inl rfl, hx'⟩
      rw [hp]; rfl
    · rename_i f a c hb
      cases h
      rw [hb] at hx
      have hx' := hx
      obtain ⟨fs, cs, hp, _⟩ := hx
      refine ⟨_, ρc x, ?_, .inl rfl, hx'⟩
      rw [hp]; rfl
    · cases h
  case binOp op t x y yt =>
    refine ofP_sound h fun A hA => ?_
    obtain ⟨u, r1, r2⟩ := binOpA_sound (P := P) (hρ x) (hρ y) hA
    exact OSound.value r1 r2
  case unOp op t x => exact optV_sound (hρ x) (fun a b e hb => by subst e; exact pureRun_sound hb w) h
  case convert s d x =>
    split at h
    · rename_i v hv
      cases h
      exact OSound.value (convA_sound (P := P) (w := w) (hρ x) hv) rfl
    · exact optV_sound (hρ x) (fun a b e hb => by subst e; exact pureRun_sound hb w) h
  case makeFunc fn fs cs =>
    cases fn <;> simp only at h
    case func f =>
      cases h
      refine OSound.value (v := .func (.func f) (fs.map ρc) (cs.map ρc)) rfl ⟨fs.map ρc, cs.map ρc, rfl, ?_, ?_⟩
      · rw [Array.toList_map]; exact RvL_map hρ _
      · rw [Array.toList_map]; exact RvL_map hρ _
    all_goals cases h
  case makeSlice t l c =>
    split at h
    · rename_i e kl il kc ic hu hl hc
      split at h
      · rename_i n by_ z hn hb hz
        split at h
        · rename_i hcond
          simp only [Bool.and_eq_true, decide_eq_true_eq] at hcond
          obtain ⟨⟨⟨⟨⟨⟨k1, k2⟩, k3⟩, k4⟩, k5⟩, k6⟩, k7⟩ := hcond
          cases h
          have e1 := kindA_sound (hρ l) hl
          have e2 := kindA_sound (hρ c) hc
          rw [e1, e2]
          exact makeSlice_sound hI hnid hf0 hu hn hb hz k1 k2 k3 k4 k5 k6 k7
        · cases h
      · cases h
    · cases h
  case slice t x lo hi mx =>
    cases mx with
    | some m => simp only at h; cases h
    | none =>
      have ho : ∀ y : Option Operand, optR w (muOf out π H) π (y.map ρ) (y.map ρc) := by
        intro y; cases y with
        | none => trivial
        | some y => exact hρ y
      simp only at h
      split at h
      · rename_i s hs
        have hx : ρc x = .string s := by have := hρ x; rw [hs] at this; exact this
        have opt : ∀ (y : Option Operand) (z : Option Value), (match y with | none => some none | some a => (toV (ρ a)).map some) = some z → y.map ρc = z := by
          intro y z hz
          cases y with
          | none => cases hz; rfl
          | some a =>
            simp only at hz
            cases ha : toV (ρ a) with
            | none => simp [ha] at hz
            | some b => simp [ha] at hz; subst hz; simp [toV_sound _ _ _ (hρ a) ha]
        split at h
        · rename_i l hh hl hh'
          have e1 := opt lo l hl
          have e2 := opt hi hh hh'
          split at h
          · rename_i r' hr'
            cases h
            rw [hx]
            simp only [Option.map_none]
            rw [e1, e2]
            exact OSound.value (pureRun_sound hr' w) rfl
          · cases h
        · cases h
      · refine ofP_sound h fun A hA => ?_
        obtain ⟨u, r1, r2⟩ := sliceA_sound hI (hρ x) (ho lo) (ho hi) hA
        exact OSound.value r1 r2
  case fieldAddr s x f =>
    refine ofP_sound h fun A hA => ?_
    obtain ⟨u, r1, r2⟩ := fieldAddrA_sound (P := P) (w := w) (hρ x) hA
    exact OSound.value r1 r2
  case field s x f =>
    refine ofP_sound h fun A hA => ?_
    obtain ⟨u, r1, r2⟩ := fieldA_sound (P := P) (w := w) (hρ x) hA
    exact OSound.value r1 r2
  case indexAddr t x ix =>
    refine ofP_sound h fun A hA => ?_
    obtain ⟨u, r1, r2⟩ := indexAddrA_sound (P := P) (w := w) (hρ x) (hρ ix) hA
    exact OSound.value r1 r2
  case index t x ix =>
    refine ofP_sound h fun A hA => ?_
    obtain ⟨u, r1, r2⟩ := indexA_sound (P := P) (w := w) (hρ x) (hρ ix) hA
    exact OSound.value r1 r2
  case extract t ix =>
    split at h
    · rename_i vs hvs
      refine ofP_sound h fun A hA => ?_
      have ht := hρ t
      rw [hvs] at ht
      obtain ⟨us, hu, hr⟩ := ht
      obtain ⟨u, r1, r2⟩ := RvL.get _ _ _ _ hr hA
      rw [hu]
      exact OSound.value (v := u) (by simp [Instr.extract, ← Array.getElem?_toList, r1]) r2
    · cases h
  case call c =>
    cases hcal : c.callee <;> simp only [hcal] at h
    case value f =>
      split at h
      · rename_i g fs cs hf
        split at h
        · rename_i hc
          cases h
          have hfv := hρ f
          rw [hf] at hfv
          obtain ⟨a, b, e1, h1, h2⟩ := hfv
          refine ⟨a ++ c.args.map ρc ++ b, ?_, ?_⟩
          · simp [resolve, hcal, e1, Deferred.ofValue, invoke, callFunc_run hng hc]
          · simp only [Array.toList_append, Array.toList_map]
            exact RvL.append _ _ _ _ (RvL.append _ _ _ _ h1 (RvL_map hρ _)) h2
        · cases h
      · cases h
    case builtin b =>
      have ea : (c.args.toList.map ρc).toArray = c.args.map ρc := by apply Array.ext'; simp
      have e : ∃ consts, ∀ w, (do let d ← resolve ρc c o.type; invoke d.target d.args : Sem Next).run P w = (builtin b c.argTypes o.type consts (c.args.toList.map ρc).toArray).run P w :=
        ⟨_, fun w => by rw [ea]; simp only [resolve, hcal, invoke, Sem.run_bind, Sem.run_pure, Result.andThen_ok]; rfl⟩
      obtain ⟨consts, e⟩ := e
      have := builtinA_sound (consts := consts) hI hnid hf0 (RvL_map hρ c.args.toList) h
      cases r with
      | pure A => obtain ⟨nx, y, k1, k2⟩ := this; exact ⟨nx, y, by rw [e]; exact k1, k2⟩
      | eff A H' => obtain ⟨nx, y, w', π', k1, k2⟩ := this; exact ⟨nx, y, w', π', by rw [e]; exact k1, k2⟩
      | call f as => obtain ⟨y, k1, k2⟩ := this; exact ⟨y, by rw [e]; exact k1, k2⟩
    case invoke => cases h
  all_goals cases h
end
end Go.Eng
