/- The engine, part 9: a region in the text's order; a region that draws its order. -/
import Derived.Test.YtlajgmapmocpbaaGreatEng8e
set_option linter.unusedSimpArgs false
set_option linter.unusedVariables false
namespace Go.Eng
open Go Go.RowKit

section
variable {P : Program} {out : Nat → Prop} {B : Nat → Prop}

theorem evalOps_sound (hng : NoNG P) {call : CallF} (hcall : CallsOk P call) {ops : Array Oper} {Q : Exit → Act → World → Prop} : ∀ (l : List Oper) (k : Nat) (st st' : St) (w : World) (π : List (Option PB)) (a : Act), (∀ j, l[j]? = ops[k + j]?) →
    evalOps P call ops.toList l st = some st' → Rep out B w π st a →
    (∀ a' w' π', Rep out B w' π' st' a' → Ext B w w' (muOf out π st.heap) (muOf out π' st'.heap) π π' → Q .normal a' w') → wpOps P ops Q (List.range' k l.length) a w
  | [], k, st, st', w, π, a, _, h, hR, hQ => by
    cases h
    exact hQ a w π hR (Ext.refl _ _ _)
  | o :: l, k, st, st', w, π, a, hl, h, hR, hQ => by
    simp only [evalOps] at h
    split at h
    · rename_i st1 oe h1
      have ho : ops[k]? = some o := by simpa using (hl 0).symm
      simp only [List.length_cons, List.range'_succ, wpOps, ho]
      refine stepA_sound hng hcall hR h1 (K := wpOps P ops Q (List.range' (k + 1) l.length)) (Q := Q) fun a' w' π' hR' hE' => ?_
      refine evalOps_sound hng hcall l (k + 1) st1 st' w' π' a' (fun j => ?_) h hR' fun a'' w'' π'' hR'' hE'' => hQ a'' w'' π'' hR'' (hE'.trans hE'')
      have := hl (j + 1)
      simpa [Nat.add_assoc, Nat.add_comm 1 j] using this
    · cases h
end

/- A region that draws its order. Temporaries and blocks are variables; two operations of which neither must come first do not meet; so what has been carried out reads as the same operations in the text's order. -/
def idsW (ws : List (Nat × Blk)) : List Nat := ws.map (·.1)

theorem updAll_length : ∀ (ws : List (Nat × Blk)) (h : List Blk), (∀ i ∈ idsW ws, i < h.length) → (updAll h ws).length = h.length
  | [], _, _ => rfl
  | (i, x) :: ws, h, hl => by
    have hi : i < h.length := hl i (by simp [idsW])
    have e : (upd h i x).length = h.length := by rw [upd_length (by omega), if_neg (by omega)]
    rw [updAll, updAll_length ws _ (fun j hj => by rw [e]; exact hl j (by simp [idsW] at hj ⊢; exact .inr hj)), e]

theorem updAll_other {b : Nat} : ∀ (ws : List (Nat × Blk)) (h : List Blk), (∀ i ∈ idsW ws, i < h.length) → b ∉ idsW ws → (updAll h ws)[b]? = h[b]?
  | [], _, _, _ => rfl
  | (i, x) :: ws, h, hl, hb => by
    have hi : i < h.length := hl i (by simp [idsW])
    have e : (upd h i x).length = h.length := by rw [upd_length (by omega), if_neg (by omega)]
    rw [updAll, updAll_other ws _ (fun j hj => by rw [e]; exact hl j (by simp [idsW] at hj ⊢; exact .inr hj)) (fun hb' => hb (by simp [idsW] at hb' ⊢; exact .inr hb')), upd_get (by omega), if_neg]
    rintro rfl; exact hb (by simp [idsW])

theorem updAll_agree {b : Nat} : ∀ (ws : List (Nat × Blk)) (h k : List Blk), h.length = k.length → (∀ i ∈ idsW ws, i < h.length) → (b ∈ idsW ws ∨ h[b]? = k[b]?) → (updAll h ws)[b]? = (updAll k ws)[b]?
  | [], _, _, _, _, hb => by rcases hb with hb | hb; (simp [idsW] at hb); exact hb
  | (i, x) :: ws, h, k, hlen, hl, hb => by
    have hi : i < h.length := hl i (by simp [idsW])
    have e1 : (upd h i x).length = h.length := by rw [upd_length (by omega), if_neg (by omega)]
    have e2 : (upd k i x).length = k.length := by rw [upd_length (by omega), if_neg (by omega)]
    refine updAll_agree ws _ _ (by omega) (fun j hj => by rw [e1]; exact hl j (by simp [idsW] at hj ⊢; exact .inr hj)) ?_
    by_cases hbi : b = i
    · right; subst hbi; rw [upd_get (by omega), upd_get (by omega), if_pos rfl, if_pos rfl]
    · rcases hb with hb | hb
      · left
        simp only [idsW, List.map_cons, List.mem_cons] at hb ⊢
        exact hb.resolve_left hbi
      · right; rw [upd_get (by omega), upd_get (by omega), if_neg hbi, if_neg hbi]; exact hb

theorem putA_length (s : List AV) (d : Option Tmp) (v : AV) : (putA s d v).length = s.length := by cases d <;> simp [putA]
theorem putA_other {s : List AV} {d : Option Tmp} {v : AV} {t : Nat} (h : t ∉ d.toList) : (putA s d v)[t]? = s[t]? := by
  cases d with
  | none => rfl
  | some d => simp only [putA]; rw [List.getElem?_set, if_neg]; rintro rfl; exact h (by simp)
theorem putA_agree {s r : List AV} {d : Option Tmp} {v : AV} {t : Nat} (hl : s.length = r.length) (h : t ∈ d.toList ∨ s[t]? = r[t]?) : (putA s d v)[t]? = (putA r d v)[t]? := by
  cases d with
  | none => rcases h with h | h; (simp at h); exact h
  | some d =>
    simp only [putA]
    rw [List.getElem?_set, List.getElem?_set, hl]
    split
    · rfl
    · rename_i hne
      rcases h with h | h
      · simp at h; exact (hne h.symm).elim
      · exact h

def applyE (e : Ent) (st : St) : St := ⟨putA st.slots e.o.dst e.v, updAll st.heap e.ws⟩
/-- The selected entries, in the text's order. -/
def foldE : List Ent → (Nat → Bool) → Nat → St → St
  | [], _, _, st => st
  | e :: es, s, k, st => foldE es s (k + 1) (if s k then applyE e st else st)

def Below (L : Nat) (es : List Ent) : Prop := ∀ e ∈ es, ∀ i ∈ idsW e.ws, i < L

theorem foldE_len {L : Nat} : ∀ (es : List Ent) (s : Nat → Bool) (k : Nat) (st : St), Below L es → st.heap.length = L → (foldE es s k st).heap.length = L ∧ (foldE es s k st).slots.length = st.slots.length
  | [], _, _, _, _, h => ⟨h, rfl⟩
  | e :: es, s, k, st, hb, h => by
    simp only [foldE]
    split
    · have h1 := foldE_len es s (k + 1) (applyE e st) (fun x hx => hb x (by simp [hx])) (by rw [applyE]; simp only; rw [updAll_length _ _ (by rw [h]; exact hb e (by simp)), h])
      exact ⟨h1.1, by rw [h1.2]; simp [applyE, putA_length]⟩
    · exact foldE_len es s (k + 1) st (fun x hx => hb x (by simp [hx])) h

theorem foldE_heap {L b : Nat} : ∀ (es : List Ent) (s r : Nat → Bool) (k : Nat) (st su : St), Below L es → st.heap.length = L → su.heap.length = L → st.heap[b]? = su.heap[b]? →
    (∀ (j : Nat) (e : Ent), es[j]? = some e → b ∈ idsW e.ws → s (k + j) = r (k + j)) → (foldE es s k st).heap[b]? = (foldE es r k su).heap[b]?
  | [], _, _, _, _, _, _, _, _, h, _ => h
  | e :: es, s, r, k, st, su, hb, h1, h2, h, hs => by
    have hbe := hb e (by simp)
    have hb' : Below L es := fun x hx => hb x (by simp [hx])
    have hs' : ∀ (j : Nat) (e' : Ent), es[j]? = some e' → b ∈ idsW e'.ws → s (k + 1 + j) = r (k + 1 + j) := fun j e' h3 h4 => by
      have := hs (j + 1) e' (by simpa using h3) h4
      simpa [Nat.add_assoc, Nat.add_comm 1 j] using this
    have l1 : (applyE e st).heap.length = L := by simp only [applyE]; rw [updAll_length _ _ (by rw [h1]; exact hbe), h1]
    have l2 : (applyE e su).heap.length = L := by simp only [applyE]; rw [updAll_length _ _ (by rw [h2]; exact hbe), h2]
    simp only [foldE]
    by_cases hbw : b ∈ idsW e.ws
    · have := hs 0 e rfl hbw
      simp only [Nat.add_zero] at this
      rw [this]
      split
      · exact foldE_heap es s r (k + 1) _ _ hb' l1 l2 (updAll_agree _ _ _ (by omega) (by rw [h1]; exact hbe) (.inl hbw)) hs'
      · exact foldE_heap es s r (k + 1) _ _ hb' h1 h2 h hs'
    · have o1 : (applyE e st).heap[b]? = st.heap[b]? := updAll_other _ _ (by rw [h1]; exact hbe) hbw
      have o2 : (applyE e su).heap[b]? = su.heap[b]? := updAll_other _ _ (by rw [h2]; exact hbe) hbw
      split <;> split <;> refine foldE_heap es s r (k + 1) _ _ hb' (by assumption) (by assumption) ?_ hs' <;> simp only [o1, o2, h]

theorem foldE_slots {t : Nat} : ∀ (es : List Ent) (s r : Nat → Bool) (k : Nat) (st su : St), st.slots.length = su.slots.length → st.slots[t]? = su.slots[t]? →
    (∀ (j : Nat) (e : Ent), es[j]? = some e → t ∈ e.o.dst.toList → s (k + j) = r (k + j)) → (foldE es s k st).slots[t]? = (foldE es r k su).slots[t]?
  | [], _, _, _, _, _, _, h, _ => h
  | e :: es, s, r, k, st, su, hl, h, hs => by
    have hs' : ∀ (j : Nat) (e' : Ent), es[j]? = some e' → t ∈ e'.o.dst.toList → s (k + 1 + j) = r (k + 1 + j) := fun j e' h3 h4 => by
      have := hs (j + 1) e' (by simpa using h3) h4
      simpa [Nat.add_assoc, Nat.add_comm 1 j] using this
    have l1 : (applyE e st).slots.length = st.slots.length := putA_length _ _ _
    have l2 : (applyE e su).slots.length = su.slots.length := putA_length _ _ _
    simp only [foldE]
    by_cases hbw : t ∈ e.o.dst.toList
    · have := hs 0 e rfl hbw
      simp only [Nat.add_zero] at this
      rw [this]
      split
      · exact foldE_slots es s r (k + 1) _ _ (by omega) (putA_agree hl (.inl hbw)) hs'
      · exact foldE_slots es s r (k + 1) _ _ hl h hs'
    · have o1 : (applyE e st).slots[t]? = st.slots[t]? := putA_other hbw
      have o2 : (applyE e su).slots[t]? = su.slots[t]? := putA_other hbw
      split <;> split <;> refine foldE_slots es s r (k + 1) _ _ (by omega) ?_ hs' <;> simp only [o1, o2, h]

/-- An entry more: as if it had come in its place, where what it writes none of the later selected ones writes. -/
theorem foldE_insert_heap {L b : Nat} : ∀ (es : List Ent) (s : Nat → Bool) (k i : Nat) (st : St) (e : Ent), Below L es → st.heap.length = L → es[i]? = some e → s (k + i) = false → b ∈ idsW e.ws →
    (∀ (j : Nat) (e' : Ent), i < j → es[j]? = some e' → b ∈ idsW e'.ws → s (k + j) = false) →
    (foldE es (fun j => s j || decide (j = k + i)) k st).heap[b]? = (updAll (foldE es s k st).heap e.ws)[b]?
  | [], _, _, _, _, _, _, _, h, _, _, _ => by simp at h
  | e0 :: es, s, k, 0, st, e, hb, hL, h, hs, hbw, hlater => by
    simp only [List.getElem?_cons_zero, Option.some.injEq] at h
    subst h
    have hbe := hb e0 (by simp)
    have hb' : Below L es := fun x hx => hb x (by simp [hx])
    simp only [Nat.add_zero] at hs
    simp only [foldE, Nat.add_zero, hs, Bool.false_eq_true, if_false, decide_true, Bool.false_or, if_true]
    have hlen := (foldE_len es s (k + 1) st hb' hL).1
    have l1 : (applyE e0 st).heap.length = L := by simp only [applyE]; rw [updAll_length _ _ (by rw [hL]; exact hbe), hL]
    have hno : ∀ (r : Nat → Bool) (su : St), su.heap.length = L → (∀ (j : Nat) (e' : Ent), es[j]? = some e' → b ∈ idsW e'.ws → r (k + 1 + j) = false) → (foldE es r (k + 1) su).heap[b]? = su.heap[b]? := by
      intro r su hsu hr
      have := foldE_heap (b := b) es r (fun _ => false) (k + 1) su su hb' hsu hsu rfl (fun j e' h1 h2 => hr j e' h1 h2)
      rw [this]
      clear this
      have hid : ∀ (es : List Ent) (k : Nat) (su : St), foldE es (fun _ => false) k su = su := by
        intro es; induction es with
        | nil => intro _ _; rfl
        | cons x es ih => intro k su; simp [foldE, ih]
      rw [hid]
    have hl' : ∀ (j : Nat) (e' : Ent), es[j]? = some e' → b ∈ idsW e'.ws → s (k + 1 + j) = false := fun j e' h1 h2 => by
      have := hlater (j + 1) e' (by omega) (by simpa using h1) h2
      simpa [Nat.add_assoc, Nat.add_comm 1 j] using this
    rw [hno _ _ l1 (fun j e' h1 h2 => by simp [hl' j e' h1 h2]; omega)]
    refine updAll_agree _ _ _ (by omega) (by rw [hL]; exact hbe) (.inl hbw)
  | e0 :: es, s, k, i + 1, st, e, hb, hL, h, hs, hbw, hlater => by
    have hbe := hb e0 (by simp)
    have hb' : Below L es := fun x hx => hb x (by simp [hx])
    simp only [foldE]
    have hk : decide (k = k + (i + 1)) = false := by simp
    simp only [hk, Bool.or_false]
    have l1 : (if s k then applyE e0 st else st).heap.length = L := by
      split
      · simp only [applyE]; rw [updAll_length _ _ (by rw [hL]; exact hbe), hL]
      · exact hL
    have := foldE_insert_heap es s (k + 1) i (if s k then applyE e0 st else st) e hb' l1 (by simpa using h) (by rw [← hs]; congr 1; omega) hbw (fun j e' h0 h1 h2 => by
      have := hlater (j + 1) e' (by omega) (by simpa using h1) h2
      rw [← this]; congr 1; omega)
    rw [← this]
    simp only [show k + 1 + i = k + (i + 1) by omega]

theorem foldE_none : ∀ (es : List Ent) (k : Nat) (su : St), foldE es (fun _ => false) k su = su := by
  intro es; induction es with
  | nil => intro _ _; rfl
  | cons x es ih => intro k su; simp [foldE, ih]

theorem foldE_slots_len : ∀ (es : List Ent) (s : Nat → Bool) (k : Nat) (st : St), (foldE es s k st).slots.length = st.slots.length
  | [], _, _, _ => rfl
  | e :: es, s, k, st => by
    simp only [foldE]
    split
    · rw [foldE_slots_len es s (k + 1) (applyE e st)]; exact putA_length _ _ _
    · exact foldE_slots_len es s (k + 1) st

theorem foldE_insert_slots {t : Nat} : ∀ (es : List Ent) (s : Nat → Bool) (k i : Nat) (st : St) (e : Ent), es[i]? = some e → s (k + i) = false → t ∈ e.o.dst.toList →
    (∀ (j : Nat) (e' : Ent), i < j → es[j]? = some e' → t ∈ e'.o.dst.toList → s (k + j) = false) →
    (foldE es (fun j => s j || decide (j = k + i)) k st).slots[t]? = (putA (foldE es s k st).slots e.o.dst e.v)[t]?
  | [], _, _, _, _, _, h, _, _, _ => by simp at h
  | e0 :: es, s, k, 0, st, e, h, hs, hbw, hlater => by
    simp only [List.getElem?_cons_zero, Option.some.injEq] at h
    subst h
    simp only [Nat.add_zero] at hs
    simp only [foldE, Nat.add_zero, hs, Bool.false_eq_true, if_false, decide_true, Bool.false_or, if_true]
    have hno : ∀ (r : Nat → Bool) (su : St), (∀ (j : Nat) (e' : Ent), es[j]? = some e' → t ∈ e'.o.dst.toList → r (k + 1 + j) = false) → (foldE es r (k + 1) su).slots[t]? = su.slots[t]? := by
      intro r su hr
      rw [foldE_slots (t := t) es r (fun _ => false) (k + 1) su su rfl rfl (fun j e' h1 h2 => hr j e' h1 h2), foldE_none]
    have hl' : ∀ (j : Nat) (e' : Ent), es[j]? = some e' → t ∈ e'.o.dst.toList → s (k + 1 + j) = false := fun j e' h1 h2 => by
      have := hlater (j + 1) e' (by omega) (by simpa using h1) h2
      simpa [Nat.add_assoc, Nat.add_comm 1 j] using this
    rw [hno _ _ (fun j e' h1 h2 => by simp [hl' j e' h1 h2]; omega)]
    exact putA_agree (by rw [foldE_slots_len]) (.inl hbw)
  | e0 :: es, s, k, i + 1, st, e, h, hs, hbw, hlater => by
    simp only [foldE]
    have hk : decide (k = k + (i + 1)) = false := by simp
    simp only [hk, Bool.or_false]
    have := foldE_insert_slots es s (k + 1) i (if s k then applyE e0 st else st) e (by simpa using h) (by rw [← hs]; congr 1; omega) hbw (fun j e' h0 h1 h2 => by
      have := hlater (j + 1) e' (by omega) (by simpa using h1) h2
      rw [← this]; congr 1; omega)
    rw [← this]
    simp only [show k + 1 + i = k + (i + 1) by omega]
end Go.Eng
