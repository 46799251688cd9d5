/- The engine, part 10: a region that draws its order. -/
import Derived.Test.YtlajgmapmocpbaaGreatEng9e
set_option linter.unusedSimpArgs false
set_option linter.unusedVariables false
namespace Go.Eng
open Go Go.RowKit

theorem appendA_nid {H : List Blk} {nid n by_ : Nat} {s x : AV} {r : ORes} (h : appendA H nid n by_ s x = some r) :
    (∃ v ws y, r = .eff v ws ∧ (nid, y) ∈ ws) ∨ ∀ nid', appendA H nid' n by_ s x = some r := by
  unfold appendA at h
  split at h
  · cases h
  · rename_i new m h9
    split at h
    · split at h
      · cases h; exact .inl ⟨_, _, _, rfl, by simp; rfl⟩
      · cases h
    · split at h
      · rename_i h8
        cases h
        refine .inr fun nid' => ?_
        simp only [appendA, h9, h8]
      · cases h
    · split at h
      · split at h
        · cases h; exact .inl ⟨_, _, _, rfl, by simp; exact .inr rfl⟩
        · cases h
      · cases h
    · cases h

theorem builtinA_nid {P : Program} {H : List Blk} {nid : Nat} {b : Builtin} {at_ : Array TypeId} {ty : TypeId} {args : List AV} {r : ORes} (h : builtinA P H nid b at_ ty args = some r) :
    (∃ v ws y, r = .eff v ws ∧ (nid, y) ∈ ws) ∨ ∀ nid', builtinA P H nid' b at_ ty args = some r := by
  cases b
  case append =>
    match args with
    | [s, x] =>
      simp only [builtinA] at h ⊢
      cases h1 : at_[0]? with
      | none => simp [h1] at h
      | some t =>
        cases h2 : at_[1]? with
        | none => simp [h1, h2] at h
        | some t' =>
          simp only [h1, h2] at h ⊢
          split at h
          · split at h
            · split at h
              · rename_i n z by_ _ _ _ _ _
                rcases appendA_nid h with hh | hh
                · exact .inl hh
                · refine .inr fun nid' => ?_
                  exact hh nid'
              · cases h
            · cases h
          · cases h
    | [] => exact .inr fun _ => h
    | [_] => exact .inr fun _ => h
    | _ :: _ :: _ :: _ => exact .inr fun _ => h
  all_goals (refine .inr fun _ => ?_; rcases args with _ | ⟨x, _ | ⟨y, _ | ⟨z, l⟩⟩⟩ <;> exact h)

/-- An operation's answer hangs on the free number only where it takes it. -/
theorem evalOp_nid {P : Program} {ρ : Operand → AV} {H : List Blk} {nid : Nat} {o : Oper} {r : ORes} (h : evalOp P ρ H nid o = some r) :
    (∃ v ws x, r = .eff v ws ∧ (nid, x) ∈ ws) ∨ ∀ nid', evalOp P ρ H nid' o = some r := by
  unfold evalOp at h
  unfold evalOp
  cases hop : o.op <;> simp only [hop, opAlloc, opBox, opBuildSlice, opMakeSlice, opCall] at h ⊢
  case alloc t =>
    split at h
    · split at h
      · cases h; exact .inl ⟨_, _, _, rfl, by simp; rfl⟩
      · cases h
    · cases h
  case box t x =>
    split at h
    · cases h; exact .inl ⟨_, _, _, rfl, by simp; rfl⟩
    · cases h
  case buildSlice t n ps =>
    split at h
    · split at h
      · split at h
        · split at h
          · cases h; exact .inl ⟨_, _, _, rfl, by simp; rfl⟩
          · cases h
        · cases h
      · cases h
    · cases h
  case makeSlice t l c =>
    split at h
    · split at h
      · split at h
        · cases h; exact .inl ⟨_, _, _, rfl, by simp; rfl⟩
        · cases h
      · cases h
    · cases h
  case makeFunc fn fs cs => cases fn <;> first | exact .inr fun _ => h | exact .inr fun _ => by simpa using h
  case slice t x lo hi mx => cases mx <;> first | exact .inr fun _ => h | exact .inr fun _ => by simpa using h
  case call c =>
    cases hc : c.callee <;> simp only [hc] at h ⊢
    case value f => exact .inr fun _ => h
    case builtin b => exact builtinA_nid h
    case invoke => cases h
  all_goals exact .inr fun _ => h

def pad (L : Nat) (H : List Blk) : List Blk := H ++ deads (L - H.length)
theorem pad_length {L : Nat} {H : List Blk} (h : H.length ≤ L) : (pad L H).length = L := by simp [pad, deads]; omega
theorem pad_get {L b : Nat} {H : List Blk} (h : b < H.length) : (pad L H)[b]? = H[b]? := by simp only [pad]; rw [List.getElem?_append_left h]
theorem pad_self {H : List Blk} : pad H.length H = H := by simp [pad, deads]
theorem pad_deads {L n : Nat} {H : List Blk} (h : H.length + n ≤ L) : pad L (H ++ deads n) = pad L H := by
  simp only [pad, deads, List.length_append, List.length_replicate, List.append_assoc, List.replicate_append_replicate]
  rw [show n + (L - (H.length + n)) = L - H.length by omega]

theorem upd_pad {L i : Nat} {H : List Blk} {x : Blk} (hi : i ≤ H.length) (hL : (upd H i x).length ≤ L) : pad L (upd H i x) = upd (pad L H) i x := by
  have hl := upd_length (x := x) hi
  by_cases he : i = H.length
  · subst he
    rw [if_pos rfl] at hl
    have hlt : H.length < (pad L H).length := by rw [pad_length (by omega)]; omega
    unfold upd
    rw [if_neg (by omega), if_pos hlt]
    simp only [pad, deads, List.length_append, List.length_singleton]
    rw [List.set_append_right _ _ (Nat.le_refl _), Nat.sub_self]
    obtain ⟨m, hm⟩ : ∃ m, L - H.length = m + 1 := ⟨L - H.length - 1, by omega⟩
    rw [hm, show L - (H.length + 1) = m by omega, List.replicate_succ, List.set_cons_zero]
    simp
  · have hlt : i < H.length := by omega
    rw [if_neg he] at hl
    have hlt' : i < (pad L H).length := by rw [pad_length (by omega)]; omega
    unfold upd
    rw [if_pos hlt, if_pos hlt']
    simp only [pad, List.length_set]
    rw [List.set_append_left _ _ hlt]

theorem updAll_pad {L : Nat} : ∀ (ws : List (Nat × Blk)) (H : List Blk), (∀ i ∈ idsW ws, i ≤ H.length) → (updAll H ws).length ≤ L →
    pad L (updAll H ws) = updAll (pad L H) ws ∧ H.length ≤ (updAll H ws).length ∧ ∀ i ∈ idsW ws, i < (updAll H ws).length
  | [], H, _, _ => ⟨rfl, Nat.le_refl _, by simp [idsW]⟩
  | (i, x) :: ws, H, hi, hL => by
    have hi0 : i ≤ H.length := hi i (by simp [idsW])
    have hl := upd_length (x := x) hi0
    have hge : H.length ≤ (upd H i x).length := by rw [hl]; split <;> omega
    have hgt : i < (upd H i x).length := by rw [hl]; split <;> omega
    obtain ⟨h1, h2, h3⟩ := updAll_pad ws (upd H i x) (fun j hj => Nat.le_trans (hi j (by simp [idsW] at hj ⊢; exact .inr hj)) hge) hL
    refine ⟨?_, Nat.le_trans hge h2, ?_⟩
    · rw [updAll, h1, updAll, upd_pad hi0 (Nat.le_trans h2 hL)]
    · intro j hj
      simp only [idsW, List.map_cons, List.mem_cons] at hj
      rcases hj with rfl | hj
      · exact Nat.lt_of_lt_of_le hgt h2
      · exact h3 j hj

theorem entOk_ids {len : Nat} {e : Ent} (h : entOk len e = true) : (∀ b ∈ e.rd, b < len) ∧ (∀ i ∈ idsW e.ws, i ≤ len + e.n ∧ (0 < e.n → i < len + e.n)) ∧ (∀ j, j < e.n → len + j ∈ idsW e.ws) := by
  simp only [entOk, Bool.and_eq_true, List.all_eq_true, decide_eq_true_eq] at h
  obtain ⟨h1, h2⟩ := h
  refine ⟨h1, ?_, ?_⟩
  · intro i hi
    simp only [idsW, List.mem_map] at hi
    obtain ⟨p, hp, rfl⟩ := hi
    cases hn : e.n with
    | zero => simp only [hn, List.all_eq_true, decide_eq_true_eq] at h2; exact ⟨by have := h2 p hp; omega, by omega⟩
    | succ n => simp only [hn, Bool.and_eq_true, List.all_eq_true, decide_eq_true_eq] at h2; have := h2.1 p hp; omega
  · intro j hj
    cases hn : e.n with
    | zero => omega
    | succ n =>
      simp only [hn, Bool.and_eq_true, List.all_eq_true, decide_eq_true_eq] at h2
      have := h2.2 j (by simp; omega)
      simpa [idsW] using this

/-- A step with an entry, on padded blocks. -/
theorem stepA_pad {P : Program} {call : CallF} {ops : List Oper} {o : Oper} {st st1 : St} {e : Ent} {L : Nat} (h : stepA P call ops o st = some (st1, some e)) (hok : entOk st.heap.length e = true) (hL : st1.heap.length ≤ L) :
    e.o = o ∧ e.nid = st.heap.length ∧ st.heap.length ≤ st1.heap.length ∧ (∀ i ∈ idsW e.ws, i < st1.heap.length) ∧ applyE e ⟨st.slots, pad L st.heap⟩ = ⟨st1.slots, pad L st1.heap⟩ := by
  obtain ⟨_, hids, _⟩ := entOk_ids hok
  unfold stepA at h
  split at h
  · split at h
    · rename_i v hv
      rw [putK_eq] at h; cases h
      exact ⟨rfl, rfl, Nat.le_refl _, by simp [idsW], rfl⟩
    · rename_i v ws hv
      rw [putK_eq] at h; cases h
      obtain ⟨h1, h2, h3⟩ := updAll_pad (L := L) ws st.heap (fun i hi => by have := (hids i hi).1; simpa using this) hL
      exact ⟨rfl, rfl, h2, h3, by simp only [applyE, h1]⟩
    · split at h
      · rename_i f args _ v ws rd n hc
        rw [putK_eq] at h; cases h
        simp only at hids hL
        obtain ⟨h1, h2, h3⟩ := updAll_pad (L := L) ws (st.heap ++ deads n) (fun i hi => by have := (hids i hi).1; simp [deads]; omega) hL
        have hd : (st.heap ++ deads n).length = st.heap.length + n := by simp [deads]
        have hle : st.heap.length + n ≤ L := by omega
        refine ⟨rfl, rfl, by simp only; omega, h3, ?_⟩
        simp only [applyE]
        rw [h1, pad_deads hle]
      · rw [putK_eq] at h; cases h
      · cases h
    · cases h
  · rw [putK_eq] at h; cases h
    exact ⟨rfl, rfl, Nat.le_refl _, by simp [idsW], rfl⟩
  · cases h

theorem foldE_true_shift : ∀ (es : List Ent) (k j : Nat) (st : St), foldE es (fun _ => true) k st = foldE es (fun _ => true) j st
  | [], _, _, _ => rfl
  | e :: es, k, j, st => by simp only [foldE, if_true]; exact foldE_true_shift es _ _ _

/-- What the record says of the run in the text's order. -/
theorem trace_sound {P : Program} {call : CallF} {ops : List Oper} {L : Nat} : ∀ (rest : List Oper) (st st' : St) (es : List Ent), traceOps P call ops rest st = some (st', es) → st'.heap.length ≤ L →
    st.heap.length ≤ st'.heap.length ∧ es.length = rest.length ∧ Below st'.heap.length es ∧ foldE es (fun _ => true) 0 ⟨st.slots, pad L st.heap⟩ = ⟨st'.slots, pad L st'.heap⟩ ∧
    ∀ (j : Nat) (e : Ent), es[j]? = some e → ∃ o stj st1, rest[j]? = some o ∧ stepA P call ops o stj = some (st1, some e) ∧ entOk stj.heap.length e = true ∧ e.o = o ∧ e.nid = stj.heap.length ∧ st.heap.length ≤ stj.heap.length ∧
      stj.heap.length ≤ L ∧ foldE (es.take j) (fun _ => true) 0 ⟨st.slots, pad L st.heap⟩ = ⟨stj.slots, pad L stj.heap⟩
  | [], st, st', es, h, hL => by
    cases h
    exact ⟨Nat.le_refl _, rfl, by simp [Below], rfl, by simp⟩
  | o :: rest, st, st', es, h, hL => by
    simp only [traceOps] at h
    split at h
    · rename_i st1 e h1
      split at h
      · rename_i st2 es2 hok h2
        cases h
        obtain ⟨i1, i2, i3, i4, i5⟩ := trace_sound rest st1 st' es2 h2 hL
        obtain ⟨p1, p2, p3, p4, p5⟩ := stepA_pad (L := L) h1 hok (by omega)
        refine ⟨by omega, by simp [i2], ?_, ?_, ?_⟩
        · intro x hx i hi
          rcases List.mem_cons.1 hx with rfl | hx
          · exact Nat.lt_of_lt_of_le (p4 i hi) i1
          · exact i3 x hx i hi
        · simp only [foldE, if_true]
          rw [p5, foldE_true_shift es2 (0 + 1) 0, i4]
        · intro j x hj
          cases j with
          | zero =>
            simp at hj; subst hj
            exact ⟨o, st, st1, rfl, h1, hok, p1, p2, Nat.le_refl _, by omega, rfl⟩
          | succ j =>
            obtain ⟨o', stj, stk, g1, g2, g3, g4, g5, g6, g7, g8⟩ := i5 j x (by simpa using hj)
            refine ⟨o', stj, stk, by simpa using g1, g2, g3, g4, g5, by omega, g7, ?_⟩
            simp only [List.take_succ_cons, foldE, if_true]
            rw [p5, foldE_true_shift _ (0 + 1) 0, g8]
      · cases h
    · cases h

theorem foldE_take : ∀ (es : List Ent) (i k : Nat) (st : St), foldE es (fun j => decide (j < k + i)) k st = foldE (es.take i) (fun _ => true) k st
  | [], i, k, st => by simp [foldE]
  | e :: es, 0, k, st => by
    have : ∀ (es : List Ent) (m : Nat) (st : St), k ≤ m → foldE es (fun j => decide (j < k + 0)) m st = st := by
      intro es
      induction es with
      | nil => intro _ _ _; rfl
      | cons x es ih => intro m st hm; simp only [foldE]; rw [if_neg (by simp; omega)]; exact ih (m + 1) st (by omega)
    rw [this _ k st (Nat.le_refl _)]; rfl
  | e :: es, i + 1, k, st => by
    simp only [foldE, List.take_succ_cons, if_true]
    rw [if_pos (by simp)]
    have := foldE_take es i (k + 1) (applyE e st)
    rw [← this]
    congr 1
    funext j
    congr 1
    simp only [eq_iff_iff]; omega
end Go.Eng
