/- A grid with bounds, as a function is handed it: its cells. -/
import Derived.Test.YtlajgmapmocpbaaRows
import Derived.ProofKit
import Derived.Test.YtlajgmapmocpbaaChecks3
set_option linter.unusedSimpArgs false
set_option linter.unusedVariables false
namespace Go.Proofs.Ytlajgmapmocpbaa
open Go.ChangeShapes Go.WideShapes Go.ChangeAt Go.RowKit
open Go Go.Proofs Go.Eng

def nobody : Nat → Prop := fun _ => False

/-- A cell that holds an integer. -/
theorem cell_int {P : Program} {W : World} {r : Reach} {base : Nat} {t : TypeId} {v : Value} (ht : P.underlying t = some (.int .i64)) (h : Cell.okWide P W r base t v) : ∃ n, v = .int .i64 n := by
  cases v <;> simp [Cell.okWide, Cell.ok, ht] at h
  case int k n => exact ⟨n, by rw [h.1]⟩

/-- A cell that holds a slice of ints. -/
theorem cell_ints {H : Type} {enc : TypeId × Value → H} {P : Program} {W : World} {r : Reach} {base : Nat} {t e : TypeId} {v : Value} {fuel : Nat} {x : DataW H × List MemPlace} (ht : P.underlying t = some (.slice e)) (he : P.underlying e = some (.int .i64)) (hc : P.cellsOf e = 1)
    (h : Cell.okWide P W r base t v) (hd : DataW.trod enc P W 0 (fun _ => true) true fuel t [v] = some x) : ∃ zs : List Int, zs.length ≤ 9223372036854775807 ∧ Rv W nobody [] (.sl true (zs.map iv) zs.length) v := by
  rcases open_ints ht he hc hd with ⟨hcs, _⟩ | ⟨a, len, cap, zs, hcs, _, hl, hm, hz, _, hcell, _⟩
  · simp only [List.cons.injEq, and_true] at hcs
    exact ⟨[], by simp, .inl ⟨rfl, rfl, rfl, hcs⟩⟩
  · simp only [List.cons.injEq, and_true] at hcs
    subst hcs
    have hs : a.spot = none := by simp [Cell.okWide, Cell.ok, ht, World.has] at h; exact h.2.2.2.1
    obtain ⟨ab, ao, asp⟩ := a
    simp only at hs; subst hs
    simp only [if_true] at hz
    have hlen : (zs.take len).length = len := by rw [List.length_take]; omega
    have hmx : maxLen = 9223372036854775807 := rfl
    refine ⟨zs.take len, by omega, ?_⟩
    rw [hlen]
    refine .inr ⟨ab, ao, cap, rfl, hl, fun _ h => h, ?_⟩
    refine RvC_of_list _ ((zs.take len).map fun n => .int .i64 n) _ _ ?_ ?_ ?_
    · refine RvL.of_forall _ _ (by simp) fun i c v h1 h2 => ?_
      simp only [List.getElem?_map] at h1 h2
      cases hi : (zs.take len)[i]? with
      | none => rw [hi] at h1; cases h1
      | some n =>
        rw [hi] at h1 h2
        simp only [Option.map_some, Option.some.injEq] at h1 h2
        subst h1; subst h2; rfl
    · intro u hu
      obtain ⟨n, _, rfl⟩ := List.mem_map.1 hu
      rfl
    · intro j u hj
      simp only [List.getElem?_map] at hj
      cases hi : (zs.take len)[j]? with
      | none => rw [hi] at hj; cases hj
      | some n =>
        rw [hi] at hj
        simp only [Option.map_some, Option.some.injEq] at hj
        subst hj
        have hjl : j < len := by have := (List.getElem?_eq_some_iff.1 hi).1; omega
        have := hcell j (by omega)
        rw [List.getElem?_take_of_lt hjl] at hi
        rw [List.getD_eq_getElem?_getD, hi] at this
        by_cases hj0 : j = 0
        · subst hj0; simpa [Addr.add] using this
        · simpa [Addr.add, hj0] using this

theorem fields_of {P : Program} {t : TypeId} {l : List (TypeId × Nat)} (h : (fieldsOf P t).map (fun fs => fs.map fun f => (f.type, f.offset)) = some l) : ∃ fs : Array Field, P.underlying t = some (.struct fs) ∧ (fs.toList.map fun f => (f.type, f.offset)) = l := by
  unfold fieldsOf at h
  split at h
  · rename_i fs hfs; simp only [Option.map_some, Option.some.injEq] at h; exact ⟨fs, hfs, h⟩
  · cases h
theorem st_banded : ∃ fs : Array Field, Try.prog.underlying 26 = some (.struct fs) ∧ (fs.toList.map fun f => (f.type, f.offset)) = [(24, 0), (22, 6)] := fields_of (by kernel_rfl)
theorem st_grid : ∃ fs : Array Field, Try.prog.underlying 24 = some (.struct fs) ∧ (fs.toList.map fun f => (f.type, f.offset)) = [(3, 0), (3, 1), (3, 2), (3, 3), (3, 4), (22, 5)] := fields_of (by kernel_rfl)
theorem ts_banded : Try.prog.cellTypes Try.prog.depth 26 = some [3, 3, 3, 3, 3, 22, 22] := by kernel_rfl

set_option maxRecDepth 100000 in
theorem open_bnd {H : Type} {enc : TypeId × Value → H} {W : World} {base : Nat} {v : Value} {d : DataW H} {p : List MemPlace} (hv : Value.okWide Try.prog W .any base 26 v) (h : DataW.Trod enc Try.prog W 0 (fun _ => true) true 26 v d p) :
    ∃ b : Bnd, Rv W nobody [] (.agg b.cells) v := by
  obtain ⟨fs, hfs, hff⟩ := st_banded
  obtain ⟨gs, hgs, hgf⟩ := st_grid
  obtain ⟨cs, rfl, hcs, ts, hts, _, hcell⟩ : ∃ cs, v = .agg cs ∧ cs.size = Try.prog.cellsOf 26 ∧ Row.okWide Try.prog W .any base 26 cs := by
    unfold Value.okWide at hv; rw [hfs] at hv; exact hv
  rw [ts_banded] at hts
  cases hts
  have h7 : Try.prog.cellsOf 26 = 7 := by kernel_rfl
  have h6 : Try.prog.cellsOf 24 = 6 := by kernel_rfl
  have h1 : Try.prog.cellsOf 3 = 1 := by kernel_rfl
  have h1' : Try.prog.cellsOf 22 = 1 := by kernel_rfl
  rw [h7] at hcs
  obtain ⟨l⟩ := cs
  simp only [List.size_toArray] at hcs
  rcases l with _ | ⟨c0, l⟩
  · simp at hcs
  rcases l with _ | ⟨c1, l⟩
  · simp at hcs
  rcases l with _ | ⟨c2, l⟩
  · simp at hcs
  rcases l with _ | ⟨c3, l⟩
  · simp at hcs
  rcases l with _ | ⟨c4, l⟩
  · simp at hcs
  rcases l with _ | ⟨c5, l⟩
  · simp at hcs
  rcases l with _ | ⟨c6, l⟩
  · simp at hcs
  rcases l with _ | ⟨c7, l⟩
  rotate_left
  · simp only [List.length_cons] at hcs; omega
  · have cell : ∀ (i : Nat) (v : Value) (u : TypeId), i < 7 → [c0, c1, c2, c3, c4, c5, c6][i]? = some v → [3, 3, 3, 3, 3, 22, 22][i]? = some u → Cell.okWide Try.prog W .any base u v := by
      intro i v u hi h1 h2
      obtain ⟨u', hu, hc⟩ := hcell i v (by rw [← Array.getElem?_toList]; exact h1)
      rw [Nat.mod_eq_of_lt (by simpa using hi), h2] at hu
      simp only [Option.some.injEq] at hu
      rw [hu]; exact hc
    obtain ⟨z0, rfl⟩ := cell_int tU3 (cell 0 c0 _ (by omega) rfl rfl)
    obtain ⟨z1, rfl⟩ := cell_int tU3 (cell 1 c1 _ (by omega) rfl rfl)
    obtain ⟨z2, rfl⟩ := cell_int tU3 (cell 2 c2 _ (by omega) rfl rfl)
    obtain ⟨z3, rfl⟩ := cell_int tU3 (cell 3 c3 _ (by omega) rfl rfl)
    obtain ⟨z4, rfl⟩ := cell_int tU3 (cell 4 c4 _ (by omega) rfl rfl)
    obtain ⟨fuel, hd⟩ := h
    obtain ⟨xs, n, rfl, _, _, hxl, hx⟩ := DataW.trod_struct hfs hd
    have field : ∀ (fs : Array Field) (i t o : Nat), (fs.toList.map fun f => (f.type, f.offset))[i]? = some (t, o) → ∃ f, fs[i]? = some f ∧ f.type = t ∧ f.offset = o := by
      intro fs i t o hi
      rw [List.getElem?_map, Array.getElem?_toList] at hi
      cases hf : fs[i]? with
      | none => rw [hf] at hi; cases hi
      | some f => rw [hf] at hi; simp at hi; exact ⟨f, rfl, hi.1, hi.2⟩
    obtain ⟨f0, e0, t0, o0⟩ := field fs 0 _ _ (by rw [hff]; rfl)
    obtain ⟨f1, e1, t1, o1⟩ := field fs 1 _ _ (by rw [hff]; rfl)
    have hg := hx 0 f0 e0
    have he := hx 1 f1 e1
    rw [t0, o0, h6] at hg
    rw [t1, o1, h1'] at he
    have hsz : fs.size = 2 := by have := congrArg List.length hff; simpa using this
    obtain ⟨y0, hy0⟩ : ∃ y, xs[0]? = some y := ⟨_, List.getElem?_eq_getElem (by omega)⟩
    obtain ⟨y1, hy1⟩ : ∃ y, xs[1]? = some y := ⟨_, List.getElem?_eq_getElem (by omega)⟩
    rw [hy0] at hg
    rw [hy1] at he
    obtain ⟨ws, m, rfl, _, _, hwl, hw⟩ := DataW.trod_struct hgs hg
    obtain ⟨f5, e5, t5, o5⟩ := field gs 5 _ _ (by rw [hgf]; rfl)
    have hz := hw 5 f5 e5
    rw [t5, o5, h1'] at hz
    have hsz2 : gs.size = 6 := by have := congrArg List.length hgf; simpa using this
    obtain ⟨y5, hy5⟩ : ∃ y, ws[5]? = some y := ⟨_, List.getElem?_eq_getElem (by omega)⟩
    rw [hy5] at hz
    obtain ⟨zs, hzl, hzr⟩ := cell_ints tU22 tU3 h1 (cell 5 c5 _ (by omega) rfl rfl) hz
    obtain ⟨es, hel, her⟩ := cell_ints tU22 tU3 h1 (cell 6 c6 _ (by omega) rfl rfl) he
    exact ⟨⟨⟨z0, z1, z2, z3, z4, zs, hzl⟩, es, hel⟩, _, rfl, _, _, rfl, rfl, _, _, rfl, rfl, _, _, rfl, rfl, _, _, rfl, rfl, _, _, rfl, rfl, _, _, rfl, hzr, _, _, rfl, her, rfl⟩
end Go.Proofs.Ytlajgmapmocpbaa
