import Derived.Test.YtlpfiiejhikalaaGreatEng8Trks
set_option linter.all false
namespace Go.Eng
open Go Go.RowKit
variable [Dr]
section
variable {P : Program} {out : Nat -> Prop} {B : Nat -> Prop}
theorem nB (hng : tm P) {call : dN} (hcall : gL P call) {ops : Array Oper} {Q : Exit -> Act -> World -> Prop} : ∀ (l : List Oper) (k : Nat) (st st' : St) (w : World) (Z : List (Option PB)) (a : Act), (∀ j, l[j]? = ops[k + j]?) ->
  e9 P call ops.toList l st = some st' -> Rep out B w Z st a ->
  (∀ a' w' Z', Rep out B w' Z' st' a' -> Ext B w w' (aH out Z st.heap) (aH out Z' st'.heap) Z Z' -> Q .normal a' w') -> wpOps P ops Q (List.range' k l.length) a w
 | [], k, st, st', w, Z, a, _, h, hR, hQ => by
  cases h
  exact hQ a w Z hR (Ext.refl _ _ _)
 | o :: l, k, st, st', w, Z, a, hl, h, hR, hQ => by
  simp only [e9] at h
  split at h
  · rename_i st1 oe h1
    have ho : ops[k]? = some o := by simpa using (hl 0).symm
    simp only [List.length_cons, List.range'_succ, wpOps, ho]
    refine uA hng hcall hR h1 (K := wpOps P ops Q (List.range' (k + 1) l.length)) (Q := Q) fun a' w' Z' hR' hE' => ?_
    refine nB hng hcall l (k + 1) st1 st' w' Z' a' (fun j => ?_) h hR' fun a'' w'' Z'' hR'' hE'' => hQ a'' w'' Z'' hR'' (hE'.trans hE'')
    have := hl (j + 1)
    simpa [Nat.add_assoc, Nat.add_comm 1 j] using this
  · cases h
end
def dp (ws : List (Nat × Blk)) : List Nat := ws.map (·.1)
theorem fU : ∀ (ws : List (Nat × Blk)) (h : List Blk), (∀ i ∈ dp ws, i < h.length) -> (aO h ws).length = h.length
 | [], _, _ => rfl
 | (i, x) :: ws, h, hl => by
  have hi : i < h.length := hl i (by simp [dp])
  have e : (upd h i x).length = h.length := by rw [cJ (by omega), if_neg (by omega)]
  rw [aO, fU ws _ (fun j hj => by rw [e]; exact hl j (by simp [dp] at hj ⊢; exact .inr hj)), e]
theorem jH {b : Nat} : ∀ (ws : List (Nat × Blk)) (h : List Blk), (∀ i ∈ dp ws, i < h.length) -> b ∉ dp ws -> (aO h ws)[b]? = h[b]?
 | [], _, _, _ => rfl
 | (i, x) :: ws, h, hl, hb => by
  have hi : i < h.length := hl i (by simp [dp])
  have e : (upd h i x).length = h.length := by rw [cJ (by omega), if_neg (by omega)]
  rw [aO, jH ws _ (fun j hj => by rw [e]; exact hl j (by simp [dp] at hj ⊢; exact .inr hj)) (fun hb' => hb (by simp [dp] at hb' ⊢; exact .inr hb')), er (by omega), if_neg]
  rintro rfl; exact hb (by simp [dp])
theorem lM {b : Nat} : ∀ (ws : List (Nat × Blk)) (h k : List Blk), h.length = k.length -> (∀ i ∈ dp ws, i < h.length) -> (b ∈ dp ws \/ h[b]? = k[b]?) -> (aO h ws)[b]? = (aO k ws)[b]?
 | [], _, _, _, _, hb => by rcases hb with hb | hb; (simp [dp] at hb); exact hb
 | (i, x) :: ws, h, k, hlen, hl, hb => by
  have hi : i < h.length := hl i (by simp [dp])
  have e1 : (upd h i x).length = h.length := by rw [cJ (by omega), if_neg (by omega)]
  have e2 : (upd k i x).length = k.length := by rw [cJ (by omega), if_neg (by omega)]
  refine lM ws _ _ (by omega) (fun j hj => by rw [e1]; exact hl j (by simp [dp] at hj ⊢; exact .inr hj)) ?_
  by_cases hbi : b = i
  · right; subst hbi; rw [er (by omega), er (by omega), if_pos rfl, if_pos rfl]
  · rcases hb with hb | hb
    · left
      simp only [dp, List.map_cons, List.mem_cons] at hb ⊢
      exact hb.resolve_left hbi
    · right; rw [er (by omega), er (by omega), if_neg hbi, if_neg hbi]; exact hb
theorem ku (s : List AV) (d : Option Tmp) (v : AV) : (eS s d v).length = s.length := by cases d <;> simp [eS]
theorem nW {s : List AV} {d : Option Tmp} {v : AV} {t : Nat} (h : t ∉ d.toList) : (eS s d v)[t]? = s[t]? := by
 cases d with
 | none => rfl
 | some d => simp only [eS]; rw [List.getElem?_set, if_neg]; rintro rfl; exact h (by simp)
theorem qH {s r : List AV} {d : Option Tmp} {v : AV} {t : Nat} (hl : s.length = r.length) (h : t ∈ d.toList \/ s[t]? = r[t]?) : (eS s d v)[t]? = (eS r d v)[t]? := by
 cases d with
 | none => rcases h with h | h; (simp at h); exact h
 | some d =>
  simp only [eS]
  rw [List.getElem?_set, List.getElem?_set, hl]
  split
  · rfl
  · rename_i hne
    rcases h with h | h
    · simp at h; exact (hne h.symm).elim
    · exact h
def dA (e : Ent) (st : St) : St := ⟨eS st.slots e.o.dst e.v, aO st.heap e.ws⟩
def bV : List Ent -> (Nat -> Bool) -> Nat -> St -> St
 | [], _, _, st => st
 | e :: es, s, k, st => bV es s (k + 1) (if s k then dA e st else st)
def Below (L : Nat) (es : List Ent) : Prop := ∀ e ∈ es, ∀ i ∈ dp e.ws, i < L
theorem jM {L : Nat} : ∀ (es : List Ent) (s : Nat -> Bool) (k : Nat) (st : St), Below L es -> st.heap.length = L -> (bV es s k st).heap.length = L /\ (bV es s k st).slots.length = st.slots.length
 | [], _, _, _, _, h => ⟨h, rfl⟩
 | e :: es, s, k, st, hb, h => by
  simp only [bV]
  split
  · have h1 := jM es s (k + 1) (dA e st) (fun x hx => hb x (by simp [hx])) (by rw [dA]; simp only; rw [fU _ _ (by rw [h]; exact hb e (by simp)), h])
    exact ⟨h1.1, by rw [h1.2]; simp [dA, ku]⟩
  · exact jM es s (k + 1) st (fun x hx => hb x (by simp [hx])) h
theorem fL {L b : Nat} : ∀ (es : List Ent) (s r : Nat -> Bool) (k : Nat) (st su : St), Below L es -> st.heap.length = L -> su.heap.length = L -> st.heap[b]? = su.heap[b]? ->
  (∀ (j : Nat) (e : Ent), es[j]? = some e -> b ∈ dp e.ws -> s (k + j) = r (k + j)) -> (bV es s k st).heap[b]? = (bV es r k su).heap[b]?
 | [], _, _, _, _, _, _, _, _, h, _ => h
 | e :: es, s, r, k, st, su, hb, h1, h2, h, hs => by
  have hbe := hb e (by simp)
  have hb' : Below L es := fun x hx => hb x (by simp [hx])
  have hs' : ∀ (j : Nat) (e' : Ent), es[j]? = some e' -> b ∈ dp e'.ws -> s (k + 1 + j) = r (k + 1 + j) := fun j e' h3 h4 => by
   have := hs (j + 1) e' (by simpa using h3) h4
   simpa [Nat.add_assoc, Nat.add_comm 1 j] using this
  have l1 : (dA e st).heap.length = L := by simp only [dA]; rw [fU _ _ (by rw [h1]; exact hbe), h1]
  have l2 : (dA e su).heap.length = L := by simp only [dA]; rw [fU _ _ (by rw [h2]; exact hbe), h2]
  simp only [bV]
  by_cases hbw : b ∈ dp e.ws
  · have := hs 0 e rfl hbw
    simp only [Nat.add_zero] at this
    rw [this]
    split
    · exact fL es s r (k + 1) _ _ hb' l1 l2 (lM _ _ _ (by omega) (by rw [h1]; exact hbe) (.inl hbw)) hs'
    · exact fL es s r (k + 1) _ _ hb' h1 h2 h hs'
  · have o1 : (dA e st).heap[b]? = st.heap[b]? := jH _ _ (by rw [h1]; exact hbe) hbw
    have o2 : (dA e su).heap[b]? = su.heap[b]? := jH _ _ (by rw [h2]; exact hbe) hbw
    split <;> split <;> refine fL es s r (k + 1) _ _ hb' (by assumption) (by assumption) ?_ hs' <;> simp only [o1, o2, h]
theorem fE {t : Nat} : ∀ (es : List Ent) (s r : Nat -> Bool) (k : Nat) (st su : St), st.slots.length = su.slots.length -> st.slots[t]? = su.slots[t]? ->
  (∀ (j : Nat) (e : Ent), es[j]? = some e -> t ∈ e.o.dst.toList -> s (k + j) = r (k + j)) -> (bV es s k st).slots[t]? = (bV es r k su).slots[t]?
 | [], _, _, _, _, _, _, h, _ => h
 | e :: es, s, r, k, st, su, hl, h, hs => by
  have hs' : ∀ (j : Nat) (e' : Ent), es[j]? = some e' -> t ∈ e'.o.dst.toList -> s (k + 1 + j) = r (k + 1 + j) := fun j e' h3 h4 => by
   have := hs (j + 1) e' (by simpa using h3) h4
   simpa [Nat.add_assoc, Nat.add_comm 1 j] using this
  have l1 : (dA e st).slots.length = st.slots.length := ku _ _ _
  have l2 : (dA e su).slots.length = su.slots.length := ku _ _ _
  simp only [bV]
  by_cases hbw : t ∈ e.o.dst.toList
  · have := hs 0 e rfl hbw
    simp only [Nat.add_zero] at this
    rw [this]
    split
    · exact fE es s r (k + 1) _ _ (by omega) (qH hl (.inl hbw)) hs'
    · exact fE es s r (k + 1) _ _ hl h hs'
  · have o1 : (dA e st).slots[t]? = st.slots[t]? := nW hbw
    have o2 : (dA e su).slots[t]? = su.slots[t]? := nW hbw
    split <;> split <;> refine fE es s r (k + 1) _ _ (by omega) ?_ hs' <;> simp only [o1, o2, h]
theorem iH {L b : Nat} : ∀ (es : List Ent) (s : Nat -> Bool) (k i : Nat) (st : St) (e : Ent), Below L es -> st.heap.length = L -> es[i]? = some e -> s (k + i) = false -> b ∈ dp e.ws ->
  (∀ (j : Nat) (e' : Ent), i < j -> es[j]? = some e' -> b ∈ dp e'.ws -> s (k + j) = false) ->
  (bV es (fun j => s j || decide (j = k + i)) k st).heap[b]? = (aO (bV es s k st).heap e.ws)[b]?
 | [], _, _, _, _, _, _, _, h, _, _, _ => by simp at h
 | e0 :: es, s, k, 0, st, e, hb, hL, h, hs, hbw, hlater => by
  simp only [List.getElem?_cons_zero, Option.some.injEq] at h
  subst h
  have hbe := hb e0 (by simp)
  have hb' : Below L es := fun x hx => hb x (by simp [hx])
  simp only [Nat.add_zero] at hs
  simp only [bV, Nat.add_zero, hs, Bool.false_eq_true, if_false, decide_true, Bool.false_or, if_true]
  have hlen := (jM es s (k + 1) st hb' hL).1
  have l1 : (dA e0 st).heap.length = L := by simp only [dA]; rw [fU _ _ (by rw [hL]; exact hbe), hL]
  have hno : ∀ (r : Nat -> Bool) (su : St), su.heap.length = L -> (∀ (j : Nat) (e' : Ent), es[j]? = some e' -> b ∈ dp e'.ws -> r (k + 1 + j) = false) -> (bV es r (k + 1) su).heap[b]? = su.heap[b]? := by
   intro r su hsu hr
   have := fL (b := b) es r (fun _ => false) (k + 1) su su hb' hsu hsu rfl (fun j e' h1 h2 => hr j e' h1 h2)
   rw [this]
   clear this
   have hid : ∀ (es : List Ent) (k : Nat) (su : St), bV es (fun _ => false) k su = su := by
    intro es; induction es with
    | nil => intro _ _; rfl
    | cons x es ih => intro k su; simp [bV, ih]
   rw [hid]
  have hl' : ∀ (j : Nat) (e' : Ent), es[j]? = some e' -> b ∈ dp e'.ws -> s (k + 1 + j) = false := fun j e' h1 h2 => by
   have := hlater (j + 1) e' (by omega) (by simpa using h1) h2
   simpa [Nat.add_assoc, Nat.add_comm 1 j] using this
  rw [hno _ _ l1 (fun j e' h1 h2 => by simp [hl' j e' h1 h2]; omega)]
  refine lM _ _ _ (by omega) (by rw [hL]; exact hbe) (.inl hbw)
 | e0 :: es, s, k, i + 1, st, e, hb, hL, h, hs, hbw, hlater => by
  have hbe := hb e0 (by simp)
  have hb' : Below L es := fun x hx => hb x (by simp [hx])
  simp only [bV]
  have hk : decide (k = k + (i + 1)) = false := by simp
  simp only [hk, Bool.or_false]
  have l1 : (if s k then dA e0 st else st).heap.length = L := by
   split
   · simp only [dA]; rw [fU _ _ (by rw [hL]; exact hbe), hL]
   · exact hL
  have := iH es s (k + 1) i (if s k then dA e0 st else st) e hb' l1 (by simpa using h) (by rw [<- hs]; congr 1; omega) hbw (fun j e' h0 h1 h2 => by
   have := hlater (j + 1) e' (by omega) (by simpa using h1) h2
   rw [<- this]; congr 1; omega)
  rw [<- this]
  simp only [show k + 1 + i = k + (i + 1) by omega]
theorem nG : ∀ (es : List Ent) (k : Nat) (su : St), bV es (fun _ => false) k su = su := by
 intro es; induction es with
 | nil => intro _ _; rfl
 | cons x es ih => intro k su; simp [bV, ih]
theorem jw : ∀ (es : List Ent) (s : Nat -> Bool) (k : Nat) (st : St), (bV es s k st).slots.length = st.slots.length
 | [], _, _, _ => rfl
 | e :: es, s, k, st => by
  simp only [bV]
  split
  · rw [jw es s (k + 1) (dA e st)]; exact ku _ _ _
  · exact jw es s (k + 1) st
theorem j8 {t : Nat} : ∀ (es : List Ent) (s : Nat -> Bool) (k i : Nat) (st : St) (e : Ent), es[i]? = some e -> s (k + i) = false -> t ∈ e.o.dst.toList ->
  (∀ (j : Nat) (e' : Ent), i < j -> es[j]? = some e' -> t ∈ e'.o.dst.toList -> s (k + j) = false) ->
  (bV es (fun j => s j || decide (j = k + i)) k st).slots[t]? = (eS (bV es s k st).slots e.o.dst e.v)[t]?
 | [], _, _, _, _, _, h, _, _, _ => by simp at h
 | e0 :: es, s, k, 0, st, e, h, hs, hbw, hlater => by
  simp only [List.getElem?_cons_zero, Option.some.injEq] at h
  subst h
  simp only [Nat.add_zero] at hs
  simp only [bV, Nat.add_zero, hs, Bool.false_eq_true, if_false, decide_true, Bool.false_or, if_true]
  have hno : ∀ (r : Nat -> Bool) (su : St), (∀ (j : Nat) (e' : Ent), es[j]? = some e' -> t ∈ e'.o.dst.toList -> r (k + 1 + j) = false) -> (bV es r (k + 1) su).slots[t]? = su.slots[t]? := by
   intro r su hr
   rw [fE (t := t) es r (fun _ => false) (k + 1) su su rfl rfl (fun j e' h1 h2 => hr j e' h1 h2), nG]
  have hl' : ∀ (j : Nat) (e' : Ent), es[j]? = some e' -> t ∈ e'.o.dst.toList -> s (k + 1 + j) = false := fun j e' h1 h2 => by
   have := hlater (j + 1) e' (by omega) (by simpa using h1) h2
   simpa [Nat.add_assoc, Nat.add_comm 1 j] using this
  rw [hno _ _ (fun j e' h1 h2 => by simp [hl' j e' h1 h2]; omega)]
  exact qH (by rw [jw]) (.inl hbw)
 | e0 :: es, s, k, i + 1, st, e, h, hs, hbw, hlater => by
  simp only [bV]
  have hk : decide (k = k + (i + 1)) = false := by simp
  simp only [hk, Bool.or_false]
  have := j8 es s (k + 1) i (if s k then dA e0 st else st) e (by simpa using h) (by rw [<- hs]; congr 1; omega) hbw (fun j e' h0 h1 h2 => by
   have := hlater (j + 1) e' (by omega) (by simpa using h1) h2
   rw [<- this]; congr 1; omega)
  rw [<- this]
  simp only [show k + 1 + i = k + (i + 1) by omega]
end Go.Eng


namespace Go.Eng
open Go Go.RowKit
variable [Dr]
theorem tT {H : List Blk} {nid n by_ : Nat} {s x : AV} {r : bc} (h : fX H nid n by_ s x = some r) :
  (∃ v ws y, r = .eff v ws /\ (nid, y) ∈ ws) \/ ∀ nid', fX H nid' n by_ s x = some r := by
 unfold fX at h
 split at h
 · cases h
 · rename_i new m h9
   split at h
   · split at h
     · cases h; exact .inl ⟨_, _, _, rfl, by simp; rfl⟩
     · cases h
   · split at h
     · rename_i h8
       cases h
       refine .inr fun nid' => ?_
       simp only [fX, h9, h8]
     · cases h
   · split at h
     · split at h
       · cases h; exact .inl ⟨_, _, _, rfl, by simp; exact .inr rfl⟩
       · cases h
     · split at h
       · cases h; exact .inl ⟨_, _, _, rfl, by simp; exact .inr rfl⟩
       · cases h
     · cases h
   · split at h
     · rename_i hH
       split at h
       · rename_i h8
         split at h
         · rename_i h7
           cases h
           refine .inr fun nid' => ?_
           simp only [fX, h9, hH, h8, h7]
         · cases h; exact .inl ⟨_, _, _, rfl, by simp; rfl⟩
       · cases h
     · cases h
   · cases h
theorem tb {P : Program} {H : List Blk} {nid : Nat} {b : Builtin} {at_ : Array TypeId} {ty : TypeId} {args : List AV} {r : bc} (h : jr P H nid b at_ ty args = some r) :
  (∃ v ws y, r = .eff v ws /\ (nid, y) ∈ ws) \/ ∀ nid', jr P H nid' b at_ ty args = some r := by
 cases b
 case append =>
  match args with
  | [s, x] =>
   simp only [jr] at h ⊢
   cases h1 : at_[0]? with
   | none => simp [h1] at h
   | some t =>
    cases h2 : at_[1]? with
    | none => simp [h1, h2] at h
    | some t' =>
     simp only [h1, h2] at h ⊢
     split at h
     · split at h
       · split at h
         · rename_i n z by_ _ _ _ _ _
           rcases tT h with hh | hh
           · exact .inl hh
           · refine .inr fun nid' => ?_
             exact hh nid'
         · cases h
       · cases h
     · split at h
       · unfold oF at h
         split at h
         · split at h
           · cases h; exact .inl ⟨_, _, _, rfl, by simp; rfl⟩
           · cases h
         · cases h
       · cases h
     · cases h
  | [] => exact .inr fun _ => h
  | [_] => exact .inr fun _ => h
  | _ :: _ :: _ :: _ => exact .inr fun _ => h
 all_goals (refine .inr fun _ => ?_; rcases args with _ | ⟨x, _ | ⟨y, _ | ⟨z, l⟩⟩⟩ <;> exact h)
theorem rz {P : Program} {ρ : Operand -> AV} {H : List Blk} {nid : Nat} {o : Oper} {r : bc} (h : evalOp P ρ H nid o = some r) :
  (∃ v ws x, r = .eff v ws /\ (nid, x) ∈ ws) \/ ∀ nid', evalOp P ρ H nid' o = some r := by
 unfold evalOp at h
 unfold evalOp
 cases hop : o.op <;> simp only [hop, mX, sG, gF, iv, o9, jf] at h ⊢
 case alloc t =>
  split at h
  · split at h
    · cases h; exact .inl ⟨_, _, _, rfl, by simp; rfl⟩
    · cases h
  · cases h
 case box t x =>
  split at h
  · cases h; exact .inl ⟨_, _, _, rfl, by simp; rfl⟩
  · cases h
 case buildSlice t n ps =>
  split at h
  · split at h
    · split at h
      · split at h
        · cases h; exact .inl ⟨_, _, _, rfl, by simp; rfl⟩
        · cases h
      · cases h
    · cases h
  · cases h
 case makeSlice t l c =>
  split at h
  · split at h
    · split at h
      · cases h; exact .inl ⟨_, _, _, rfl, by simp; rfl⟩
      · cases h
    · cases h
  · cases h
 case makeMap t r =>
  unfold kY at h
  split at h
  · cases h; exact .inl ⟨_, _, _, rfl, by simp; rfl⟩
  · split at h
    · cases h; exact .inl ⟨_, _, _, rfl, by simp; rfl⟩
    · cases h
 case range t x =>
  unfold jE at h
  split at h
  · cases h; exact .inl ⟨_, _, _, rfl, by simp; rfl⟩
  · cases h
 case makeFunc fn fs cs => cases fn <;> first | exact .inr fun _ => h | exact .inr fun _ => by simpa using h
 case slice t x lo hi mx => cases mx <;> first | exact .inr fun _ => h | exact .inr fun _ => by simpa using h
 case call c =>
  cases hc : c.callee <;> simp only [hc] at h ⊢
  case value f => exact .inr fun _ => h
  case builtin b => exact tb h
  case invoke => cases h
 all_goals exact .inr fun _ => h
def pad (L : Nat) (H : List Blk) : List Blk := H ++ ft (L - H.length)
theorem lL {L : Nat} {H : List Blk} (h : H.length <= L) : (pad L H).length = L := by simp [pad, ft]; omega
theorem ta {L b : Nat} {H : List Blk} (h : b < H.length) : (pad L H)[b]? = H[b]? := by simp only [pad]; rw [List.getElem?_append_left h]
theorem yx {H : List Blk} : pad H.length H = H := by simp [pad, ft]
theorem xO {L n : Nat} {H : List Blk} (h : H.length + n <= L) : pad L (H ++ ft n) = pad L H := by
 simp only [pad, ft, List.length_append, List.length_replicate, List.append_assoc, List.replicate_append_replicate]
 rw [show n + (L - (H.length + n)) = L - H.length by omega]
theorem Ad {L i : Nat} {H : List Blk} {x : Blk} (hi : i <= H.length) (hL : (upd H i x).length <= L) : pad L (upd H i x) = upd (pad L H) i x := by
 have hl := cJ (x := x) hi
 by_cases he : i = H.length
 · subst he
   rw [if_pos rfl] at hl
   have hlt : H.length < (pad L H).length := by rw [lL (by omega)]; omega
   unfold upd
   rw [if_neg (by omega), if_pos hlt]
   simp only [pad, ft, List.length_append, List.length_singleton]
   rw [List.set_append_right _ _ (Nat.le_refl _), Nat.sub_self]
   obtain ⟨m, hm⟩ : ∃ m, L - H.length = m + 1 := ⟨L - H.length - 1, by omega⟩
   rw [hm, show L - (H.length + 1) = m by omega, List.replicate_succ, List.set_cons_zero]
   simp
 · have hlt : i < H.length := by omega
   rw [if_neg he] at hl
   have hlt' : i < (pad L H).length := by rw [lL (by omega)]; omega
   unfold upd
   rw [if_pos hlt, if_pos hlt']
   simp only [pad, List.length_set]
   rw [List.set_append_left _ _ hlt]
theorem n3 {L : Nat} : ∀ (ws : List (Nat × Blk)) (H : List Blk), (∀ i ∈ dp ws, i <= H.length) -> (aO H ws).length <= L ->
  pad L (aO H ws) = aO (pad L H) ws /\ H.length <= (aO H ws).length /\ ∀ i ∈ dp ws, i < (aO H ws).length
 | [], H, _, _ => ⟨rfl, Nat.le_refl _, by simp [dp]⟩
 | (i, x) :: ws, H, hi, hL => by
  have hi0 : i <= H.length := hi i (by simp [dp])
  have hl := cJ (x := x) hi0
  have hge : H.length <= (upd H i x).length := by rw [hl]; split <;> omega
  have hgt : i < (upd H i x).length := by rw [hl]; split <;> omega
  obtain ⟨h1, h2, h3⟩ := n3 ws (upd H i x) (fun j hj => Nat.le_trans (hi j (by simp [dp] at hj ⊢; exact .inr hj)) hge) hL
  refine ⟨?_, Nat.le_trans hge h2, ?_⟩
  · rw [aO, h1, aO, Ad hi0 (Nat.le_trans h2 hL)]
  · intro j hj
    simp only [dp, List.map_cons, List.mem_cons] at hj
    rcases hj with rfl | hj
    · exact Nat.lt_of_lt_of_le hgt h2
    · exact h3 j hj
theorem k8 {len : Nat} {e : Ent} (h : jC len e = true) : (∀ b ∈ e.rd, b < len) /\ (∀ i ∈ dp e.ws, i <= len + e.n /\ (0 < e.n -> i < len + e.n)) /\ (∀ j, j < e.n -> len + j ∈ dp e.ws) := by
 simp only [jC, Bool.and_eq_true, List.all_eq_true, decide_eq_true_eq] at h
 obtain ⟨h1, h2⟩ := h
 refine ⟨h1, ?_, ?_⟩
 · intro i hi
   simp only [dp, List.mem_map] at hi
   obtain ⟨p, hp, rfl⟩ := hi
   cases hn : e.n with
   | zero => simp only [hn, List.all_eq_true, decide_eq_true_eq] at h2; exact ⟨by have := h2 p hp; omega, by omega⟩
   | succ n => simp only [hn, Bool.and_eq_true, List.all_eq_true, decide_eq_true_eq] at h2; have := h2.1 p hp; omega
 · intro j hj
   cases hn : e.n with
   | zero => omega
   | succ n =>
    simp only [hn, Bool.and_eq_true, List.all_eq_true, decide_eq_true_eq] at h2
    have := h2.2 j (by simp; omega)
    simpa [dp] using this
theorem xM {P : Program} {call : dN} {ops : List Oper} {o : Oper} {st st1 : St} {e : Ent} {L : Nat} (h : gP P call ops o st = some (st1, some e)) (hok : jC st.heap.length e = true) (hL : st1.heap.length <= L) :
  e.o = o /\ e.nid = st.heap.length /\ st.heap.length <= st1.heap.length /\ (∀ i ∈ dp e.ws, i < st1.heap.length) /\ dA e ⟨st.slots, pad L st.heap⟩ = ⟨st1.slots, pad L st1.heap⟩ := by
 obtain ⟨_, hids, _⟩ := k8 hok
 unfold gP at h
 split at h
 · split at h
   · rename_i v hv
     rw [dz] at h; cases h
     exact ⟨rfl, rfl, Nat.le_refl _, by simp [dp], rfl⟩
   · rename_i v ws hv
     rw [dz] at h; cases h
     obtain ⟨h1, h2, h3⟩ := n3 (L := L) ws st.heap (fun i hi => by have := (hids i hi).1; simpa using this) hL
     exact ⟨rfl, rfl, h2, h3, by simp only [dA, h1]⟩
   · split at h
     · rename_i f args _ v ws rd n hc
       rw [dz] at h; cases h
       simp only at hids hL
       obtain ⟨h1, h2, h3⟩ := n3 (L := L) ws (st.heap ++ ft n) (fun i hi => by have := (hids i hi).1; simp [ft]; omega) hL
       have hd : (st.heap ++ ft n).length = st.heap.length + n := by simp [ft]
       have hle : st.heap.length + n <= L := by omega
       refine ⟨rfl, rfl, by simp only; omega, h3, ?_⟩
       simp only [dA]
       rw [h1, xO hle]
     · rw [dz] at h; cases h
     · cases h
   · cases h
 · rw [dz] at h; cases h
   exact ⟨rfl, rfl, Nat.le_refl _, by simp [dp], rfl⟩
 · cases h
theorem iX : ∀ (es : List Ent) (k j : Nat) (st : St), bV es (fun _ => true) k st = bV es (fun _ => true) j st
 | [], _, _, _ => rfl
 | e :: es, k, j, st => by simp only [bV, if_true]; exact iX es _ _ _
theorem pX {P : Program} {call : dN} {ops : List Oper} {L : Nat} : ∀ (rest : List Oper) (st st' : St) (es : List Ent), dY P call ops rest st = some (st', es) -> st'.heap.length <= L ->
  st.heap.length <= st'.heap.length /\ es.length = rest.length /\ Below st'.heap.length es /\ bV es (fun _ => true) 0 ⟨st.slots, pad L st.heap⟩ = ⟨st'.slots, pad L st'.heap⟩ /\
  ∀ (j : Nat) (e : Ent), es[j]? = some e -> ∃ o stj st1, rest[j]? = some o /\ gP P call ops o stj = some (st1, some e) /\ jC stj.heap.length e = true /\ e.o = o /\ e.nid = stj.heap.length /\ st.heap.length <= stj.heap.length /\
   stj.heap.length <= L /\ bV (es.take j) (fun _ => true) 0 ⟨st.slots, pad L st.heap⟩ = ⟨stj.slots, pad L stj.heap⟩
 | [], st, st', es, h, hL => by
  cases h
  exact ⟨Nat.le_refl _, rfl, by simp [Below], rfl, by simp⟩
 | o :: rest, st, st', es, h, hL => by
  simp only [dY] at h
  split at h
  · rename_i st1 e h1
    split at h
    · rename_i st2 es2 hok h2
      cases h
      obtain ⟨i1, i2, i3, i4, i5⟩ := pX rest st1 st' es2 h2 hL
      obtain ⟨p1, p2, p3, p4, p5⟩ := xM (L := L) h1 hok (by omega)
      refine ⟨by omega, by simp [i2], ?_, ?_, ?_⟩
      · intro x hx i hi
        rcases List.mem_cons.1 hx with rfl | hx
        · exact Nat.lt_of_lt_of_le (p4 i hi) i1
        · exact i3 x hx i hi
      · simp only [bV, if_true]
        rw [p5, iX es2 (0 + 1) 0, i4]
      · intro j x hj
        cases j with
        | zero =>
         simp at hj; subst hj
         exact ⟨o, st, st1, rfl, h1, hok, p1, p2, Nat.le_refl _, by omega, rfl⟩
        | succ j =>
         obtain ⟨o', stj, stk, g1, g2, g3, g4, g5, g6, g7, g8⟩ := i5 j x (by simpa using hj)
         refine ⟨o', stj, stk, by simpa using g1, g2, g3, g4, g5, by omega, g7, ?_⟩
         simp only [List.take_succ_cons, bV, if_true]
         rw [p5, iX _ (0 + 1) 0, g8]
    · cases h
  · cases h
theorem nK : ∀ (es : List Ent) (i k : Nat) (st : St), bV es (fun j => decide (j < k + i)) k st = bV (es.take i) (fun _ => true) k st
 | [], i, k, st => by simp [bV]
 | e :: es, 0, k, st => by
  have : ∀ (es : List Ent) (m : Nat) (st : St), k <= m -> bV es (fun j => decide (j < k + 0)) m st = st := by
   intro es
   induction es with
   | nil => intro _ _ _; rfl
   | cons x es ih => intro m st hm; simp only [bV]; rw [if_neg (by simp; omega)]; exact ih (m + 1) st (by omega)
  rw [this _ k st (Nat.le_refl _)]; rfl
 | e :: es, i + 1, k, st => by
  simp only [bV, List.take_succ_cons, if_true]
  rw [if_pos (by simp)]
  have := nK es i (k + 1) (dA e st)
  rw [<- this]
  congr 1
  funext j
  congr 1
  simp only [eq_iff_iff]; omega
end Go.Eng


namespace Go.Eng
open Go Go.RowKit
variable [Dr]
theorem lq (acc : List Nat) (i : Nat) : ∀ (l : List Edge) (s : Nat), (l.foldl (fun s e => if Region.binds .any e then s ||| (2 ^ e.on ||| acc.getD e.on 0) else s) s).testBit i = true ->
  s.testBit i = true \/ ∃ e ∈ l, Region.binds .any e = true /\ (e.on = i \/ (acc.getD e.on 0).testBit i = true)
 | [], _, h => .inl h
 | e :: l, s, h => by
  simp only [List.foldl_cons] at h
  rcases lq acc i l _ h with h | ⟨e', h1, h2⟩
  · split at h
    · rename_i hb
      simp only [Nat.testBit_or, Bool.or_eq_true] at h
      rcases h with h | h | h
      · exact .inl h
      · refine .inr ⟨e, by simp, hb, .inl ?_⟩
        rw [Nat.testBit_two_pow] at h
        simpa using h
      · exact .inr ⟨e, by simp, hb, .inr h⟩
    · exact .inl h
  · exact .inr ⟨e', by simp [h1], h2⟩
theorem me : ∀ (l : List Oper) (acc : List Nat) (j : Nat), j < acc.length -> (oa acc l)[j]? = acc[j]?
 | [], _, _, _ => rfl
 | o :: l, acc, j, h => by
  rw [oa, me l _ j (by simp; omega), List.getElem?_append_left h]
theorem uM : ∀ (l : List Oper) (acc : List Nat) (j : Nat) (o : Oper), l[j]? = some o -> ∃ acc', (oa acc l)[acc.length + j]? = some (qp acc' o) /\ acc'.length = acc.length + j /\ ∀ k, k < acc'.length -> (oa acc l)[k]? = acc'[k]?
 | [], _, _, _, h => by simp at h
 | o :: l, acc, 0, o', h => by
  simp at h; subst h
  refine ⟨acc, ?_, rfl, fun k hk => me (o :: l) acc k hk⟩
  rw [oa, me l _ _ (by simp)]
  simp
 | o :: l, acc, j + 1, o', h => by
  obtain ⟨acc', h1, h2, h3⟩ := uM l (acc ++ [qp acc o]) j o' (by simpa using h)
  refine ⟨acc', ?_, by simp at h2; omega, fun k hk => by rw [oa]; exact h3 k hk⟩
  rw [oa]
  simpa [Nat.add_assoc, Nat.add_comm 1 j] using h1
theorem mm : ∀ (l : List Oper) (k j : Nat) (o : Oper), lF l k = true -> l[j]? = some o -> ∀ e ∈ o.after.toList, Region.binds .any e = true -> e.on < k + j
 | [], _, _, _, _, h => by simp at h
 | o :: l, k, 0, o', hk, h => by
  simp at h; subst h
  simp only [lF, Bool.and_eq_true, List.all_eq_true] at hk
  intro e he hb
  have := hk.1 e he
  simpa [hb] using this
 | o :: l, k, j + 1, o', hk, h => by
  simp only [lF, Bool.and_eq_true] at hk
  intro e he hb
  have := mm l (k + 1) j o' hk.2 (by simpa using h) e he hb
  omega
theorem mi {ops : List Oper} (hok : lF ops 0 = true) {s : Nat -> Bool} (hcl : ∀ (j : Nat) (o : Oper), ops[j]? = some o -> s j = true -> ∀ e ∈ o.after.toList, Region.binds .any e = true -> s e.on = true) :
  ∀ (j : Nat) (o : Oper), ops[j]? = some o -> (∀ e ∈ o.after.toList, Region.binds .any e = true -> s e.on = true) -> ∀ i, ((oa [] ops).getD j 0).testBit i = true -> s i = true := by
 intro j
 induction j using Nat.strongRecOn with
 | _ j ih =>
  intro o ho he i hi
  obtain ⟨acc', h1, h2, h3⟩ := uM ops [] j o ho
  simp only [List.length_nil, Nat.zero_add] at h1 h2
  rw [List.getD_eq_getElem?_getD, h1] at hi
  simp only [Option.getD_some, qp] at hi
  rcases lq acc' i _ _ hi with h | ⟨e, he1, he2, he3⟩
  · simp at h
  · have hon := he e he1 he2
    rcases he3 with rfl | he3
    · exact hon
    · have hlt : e.on < j := by have := mm ops 0 j o hok ho e he1 he2; omega
      cases ho' : ops[e.on]? with
      | none =>
       have := List.getElem?_eq_none_iff.1 ho'
       have := (List.getElem?_eq_some_iff.1 ho).1
       omega
      | some o' =>
       refine ih e.on hlt o' ho' (hcl e.on o' ho' hon) i ?_
       rw [List.getD_eq_getElem?_getD, h3 e.on (by omega), <- List.getD_eq_getElem?_getD]
       exact he3
theorem oC {ops : List Oper} {b : Ent} {m : Nat} : ∀ (l : List Ent) (k i : Nat) (a : Ent), mw ops b m l k = true -> l[i]? = some a -> (m.testBit (k + i) = true \/ uB ops a b = true \/ nq ops a b (l.drop (i + 1)) = true) /\ ∀ p ∈ a.ws, p.1 < b.nid
 | [], _, _, _, _, h => by simp at h
 | x :: l, k, 0, a, hf, h => by
  simp at h; subst h
  simp only [mw, Bool.and_eq_true, Bool.or_eq_true, List.all_eq_true, decide_eq_true_eq] at hf
  exact ⟨by simpa [or_assoc] using hf.1.1, hf.1.2⟩
 | x :: l, k, i + 1, a, hf, h => by
  simp only [mw, Bool.and_eq_true] at hf
  have := oC l (k + 1) i a hf.2 (by simpa using h)
  rwa [show k + 1 + i = k + (i + 1) by omega] at this
theorem kx {ops : List Oper} {bef : List Nat} {all : List Ent} : ∀ (l : List Ent) (k j i : Nat) (a b : Ent), kC ops bef all l k = true -> l[j]? = some b -> i < k + j -> all[i]? = some a ->
  ((bef.getD (k + j) 0).testBit i = true \/ uB ops a b = true \/ nq ops a b ((all.take (k + j)).drop (i + 1)) = true) /\ ∀ p ∈ a.ws, p.1 < b.nid
 | [], _, _, _, _, _, _, h, _, _ => by simp at h
 | x :: l, k, 0, i, a, b, hf, h, hi, ha => by
  simp at h; subst h
  simp only [kC, Bool.and_eq_true] at hf
  have := oC _ 0 i a hf.1 (by rw [List.getElem?_take, if_pos (by omega)]; exact ha)
  simpa using this
 | x :: l, k, j + 1, i, a, b, hf, h, hi, ha => by
  simp only [kC, Bool.and_eq_true] at hf
  have := kx l (k + 1) j i a b hf.2 (by simpa using h) (by omega) ha
  rwa [show k + 1 + j = k + (j + 1) by omega] at this
theorem ib {l k : List Nat} (h : nM l k = true) {x : Nat} (hx : x ∈ l) : x ∉ k := by
 simp only [nM, List.all_eq_true, Bool.not_eq_true', List.contains_eq_mem] at h
 have := h x hx
 simpa using this
theorem qY {l : List Operand} {t : Tmp} (h : Operand.tmp t ∈ l) : t ∈ vu l := by
 simp only [vu, List.mem_filterMap]
 exact ⟨_, h, rfl⟩
theorem sd {s r : List AV} {x : Operand} (h : ∀ t, x = .tmp t -> s[t]? = r[t]?) : evA s x = evA r x := by
 cases x with
 | tmp t => simp only [evA, nf, List.getD_eq_getElem?_getD, h t rfl]
 | _ => rfl
theorem rX {ops : List Oper} {o : Oper} {s r : List AV} (h : ∀ t ∈ di ops o, s[t]? = r[t]?) : cE ops o s = cE ops o r := by
 unfold cE
 cases hg : o.guard with
 | none => rfl
 | some g =>
  obtain ⟨j, want⟩ := g
  simp only
  cases hj : ops[j]? with
  | none => rfl
  | some oj =>
   simp only
   cases hd : oj.dst with
   | none => rfl
   | some d =>
    simp only
    have : s[d]? = r[d]? := h d (by simp [di, hg, hj, hd])
    simp only [nf, List.getD_eq_getElem?_getD, this]
theorem vG {P : Program} (hng : tm P) {call : dN} (hcall : gL P call) {ops : Array Oper} {o : Oper} {stj st1 sx : St} {e : Ent} (h : gP P call ops.toList o stj = some (st1, some e)) (hok : jC stj.heap.length e = true)
  (hle : stj.heap.length + e.n <= sx.heap.length) (hs : ∀ t ∈ di ops.toList o, sx.slots[t]? = stj.slots[t]?) (hh : (∀ b ∈ e.rd, sx.heap[b]? = stj.heap[b]?) \/ ((∃ t m k, o.op = .lookup t m k false) /\ ∀ r, evalOp P (evA stj.slots) stj.heap stj.heap.length o = some r -> evalOp P (evA stj.slots) sx.heap stj.heap.length o = some r))
  {out : Nat -> Prop} {B : Nat -> Prop} {w : World} {Z : List (Option PB)} {a : Act} (hR : Rep out B w Z sx a) (hfree : ∀ b ∈ dp e.ws, stj.heap.length <= b -> ∀ q, Z[b]? ≠ some (some q))
  {K : Act -> World -> Prop} {Q : Exit -> Act -> World -> Prop}
  (hK : ∀ a' w' Z', Rep out B w' Z' (dA e sx) a' -> Ext B w w' (aH out Z sx.heap) (aH out Z' (dA e sx).heap) Z Z' -> (∀ j, j ∉ dp e.ws -> Z'[j]? = Z[j]?) -> K a' w') :
  if Region.wanted o (yielded ops a.tmps) then o.wp P a w K Q \/ (o.asks P a w /\ LetsOut Q) else K (a.put o.dst undef) w := by
 obtain ⟨hrd, hids, hnew⟩ := k8 hok
 have hkeep : ∀ {ws : List (Nat × Blk)} {Z' : List (Option PB)}, (∀ j, (∀ b, (j, b) ∉ ws) -> Z'[j]? = Z[j]?) -> ∀ j, j ∉ dp ws -> Z'[j]? = Z[j]? := by
  intro ws Z' hk j hj
  refine hk j fun b hb => hj ?_
  simp only [dp, List.mem_map]
  exact ⟨_, hb, rfl⟩
 have hwn : cE ops.toList o sx.slots = cE ops.toList o stj.slots := rX hs
 have hop : ∀ x ∈ o.op.operands.toList, evA stj.slots x = evA sx.slots x := by
  intro x hx
  refine (sd fun t ht => ?_).symm
  subst ht
  exact hs t (by simp only [di, List.mem_append]; exact .inl (qY hx))
 unfold gP at h
 split at h
 · rename_i hw
   rw [<- hwn] at hw
   rw [if_pos (jd hR.slots hw)]
   refine .inl ?_
   unfold Oper.wp
   have moved : ∀ r, evalOp P (evA stj.slots) stj.heap stj.heap.length o = some r -> ((∀ b ∈ lB stj.heap (evA stj.slots) o, sx.heap[b]? = stj.heap[b]?) \/ ((∃ t m k, o.op = .lookup t m k false) /\ ∀ r, evalOp P (evA stj.slots) stj.heap stj.heap.length o = some r -> evalOp P (evA stj.slots) sx.heap stj.heap.length o = some r)) -> evalOp P (evA sx.slots) sx.heap stj.heap.length o = some r := by
    intro r hr hb
    rw [<- qW hop]
    rcases hb with hb | ⟨_, hb⟩
    · rw [<- hr]
      exact (uP fun b hm => (hb b hm).symm).symm
    · exact hb r hr
   split at h
   · rename_i v hv
     rw [dz] at h
     cases h
     have hv' := moved _ hv hh
     rcases rz hv' with ⟨_, _, _, e1, _⟩ | hany
     · cases e1
     obtain ⟨nx, u, h1, h2, h3⟩ := gJ hng hR.inv (Nat.le_refl _) (mO hR.inv) (ja hR.slots) (hany sx.heap.length)
     rw [h1]
     rcases h2 with rfl | ⟨rfl, rfl⟩
     · exact hK _ _ Z (Rep.ext hR.defers hR.slots (Ext.refl _ _ _) hR.inv h3) (Ext.refl _ _ _) fun _ _ => rfl
     · exact hK _ _ Z (Rep.ext hR.defers hR.slots (Ext.refl _ _ _) hR.inv h3) (Ext.refl _ _ _) fun _ _ => rfl
   · rename_i v ws hv
     rw [dz] at h
     cases h
     have hv' := moved _ hv hh
     have : ∃ n, n <= sx.heap.length /\ (∀ q, Z[n]? ≠ some (some q)) /\ evalOp P (evA sx.slots) sx.heap n o = some (.eff v ws) := by
      rcases rz hv' with ⟨_, _, y, e1, h0⟩ | hany
      · cases e1
        refine ⟨stj.heap.length, by simp only at hle; omega, hfree _ ?_ (Nat.le_refl _), hv'⟩
        simp only [dp, List.mem_map]
        exact ⟨_, h0, rfl⟩
      · exact ⟨sx.heap.length, Nat.le_refl _, mO hR.inv, hany _⟩
     obtain ⟨n, hn, hf, hv''⟩ := this
     obtain ⟨nx, u, w', Z', h1, h2, h3, h4, h5, h6⟩ := gJ hng hR.inv hn hf (ja hR.slots) hv''
     rw [h1]
     rcases h2 with rfl | ⟨rfl, rfl⟩
     · exact hK _ _ Z' (Rep.ext hR.defers hR.slots h3 h4 h5) h3 (hkeep h6)
     · exact hK _ _ Z' (Rep.ext hR.defers hR.slots h3 h4 h5) h3 (hkeep h6)
   · rename_i f args hv
     have hv' : evalOp P (evA sx.slots) sx.heap sx.heap.length o = some (.call f args) := by
      have e1 : evalOp P (evA sx.slots) stj.heap stj.heap.length o = some (.call f args) := by rw [<- qW hop]; exact hv
      unfold evalOp at e1 ⊢
      cases ho : o.op <;> simp only [ho] at e1 ⊢
      case call c =>
       unfold o9 at e1 ⊢
       cases hc : c.callee <;> simp only [hc] at e1 ⊢
       case value g => exact e1
       case builtin b =>
        exfalso
        unfold jr at e1
        split at e1
        · split at e1
          · split at e1
            · cases e1
            · unfold bc.ofP at e1; split at e1 <;> cases e1
          · cases e1
        · split at e1
          · split at e1
            · split at e1
              · split at e1
                · unfold fX at e1
                  split at e1
                  · cases e1
                  · split at e1
                    · split at e1 <;> cases e1
                    · split at e1 <;> cases e1
                    · split at e1
                      · split at e1 <;> cases e1
                      · split at e1 <;> cases e1
                      · cases e1
                    · split at e1
                      · split at e1
                        · split at e1 <;> cases e1
                        · cases e1
                      · cases e1
                    · cases e1
                · cases e1
              · cases e1
            · split at e1
              · unfold oF at e1; (repeat' split at e1) <;> cases e1
              · cases e1
            · cases e1
          · cases e1
        · split at e1
          · split at e1
            · split at e1
              · unfold qR at e1; (repeat' split at e1) <;> cases e1
              · cases e1
            · cases e1
          · cases e1
        · split at e1
          · split at e1
            · split at e1
              · unfold n5 at e1; (repeat' split at e1) <;> cases e1
              · cases e1
            · cases e1
          · cases e1
        · split at e1
          · split at e1 <;> cases e1
          · cases e1
        · split at e1
          · split at e1 <;> cases e1
          · cases e1
        · split at e1
          · split at e1 <;> cases e1
          · cases e1
        · cases e1
       case invoke => cases e1
      case makeFunc fn fs cs => exfalso; cases fn <;> simp [jf] at e1
      case slice t x lo hi mx =>
       exfalso
       cases mx with
       | some m => simp [jf] at e1
       | none => simp only [oP, bc.ofP] at e1; (repeat' split at e1) <;> cases e1
      case makeMap t r =>
       exfalso; simp only [jf, kY] at e1; (repeat' split at e1) <;> cases e1
      case lookup t x ix ok =>
       exfalso; simp only [jf, bc.ofP] at e1; (repeat' split at e1) <;> cases e1
      case mapUpdate t m k x =>
       exfalso; simp only [jf, fA] at e1; (repeat' split at e1) <;> cases e1
      case insert t m k x =>
       exfalso; simp only [jf, fA] at e1; (repeat' split at e1) <;> cases e1
      case mapEntry t m k =>
       exfalso; simp only [jf, orE, eR, fy] at e1; (repeat' split at e1) <;> first | (cases e1; done) | (rename_i hz; (repeat' split at hz) <;> cases hz <;> cases e1)
      case entryStore t m k x =>
       exfalso; simp only [jf, orE, dv, dr] at e1; (repeat' split at e1) <;> first | (cases e1; done) | (rename_i hz; (repeat' split at hz) <;> cases hz <;> cases e1)
      case range t x =>
       exfalso; simp only [jf, jE] at e1; (repeat' split at e1) <;> cases e1
      case entry it =>
       exfalso; simp only [jf, fD] at e1; (repeat' split at e1) <;> cases e1
      all_goals exfalso
      all_goals try simp only [jf, rl, mX, sG, og, gF, oy, kf, lu, iv, bc.ofP, zH] at e1
      all_goals (repeat' split at e1) <;> first | cases e1 | skip
     obtain ⟨vs, h1, h2⟩ := gJ hng hR.inv (Nat.le_refl _) (mO hR.inv) (ja hR.slots) hv'
     rw [h1]
     simp only [Oper.upon]
     split at h
     · rename_i v ws rd n hc
       rw [dz] at h
       cases h
       simp only at hnew hids hle hfree
       have hh := hh.resolve_right fun hx => by
        obtain ⟨⟨t, m, k, ht⟩, _⟩ := hx
        unfold evalOp at hv
        rw [ht] at hv
        simp only [jf, bc.ofP] at hv
        (repeat' split at hv) <;> cases hv
       have := hcall _ _ _ _ hc sx.heap hle (fun b hb _ => hh b hb) out B w Z vs.toList hR.inv (fun j g1 g2 => hfree j (by
         have := hnew (j - stj.heap.length) (by omega)
         rwa [show stj.heap.length + (j - stj.heap.length) = j by omega] at this) g1) h2
       rw [Array.toArray_toList] at this
       refine this.mono ?_
       rintro e w'' ⟨u, Z', rfl, g1, g2, g3, g4⟩
       exact hK _ _ Z' (Rep.ext hR.defers hR.slots g1 g2 g3) g1 (hkeep g4)
     · rw [dz] at h; cases h
     · cases h
   · cases h
 · rename_i hw
   rw [<- hwn] at hw
   rw [jd hR.slots hw]
   simp only [Bool.false_eq_true, if_false]
   rw [dz] at h
   cases h
   exact hK _ _ Z (Rep.ext hR.defers hR.slots (Ext.refl _ _ _) hR.inv rfl) (Ext.refl _ _ _) fun _ _ => rfl
 · cases h
theorem getD_set_true {l : Array Bool} {i j : Nat} (hi : i < l.size) : (l.setIfInBounds i true).getD j false = (l.getD j false || decide (j = i)) := by
 simp only [Array.getD_eq_getD_getElem?, Array.getElem?_setIfInBounds]
 by_cases h : i = j
 · subst h; simp [hi]
 · have h' : ¬ j = i := fun e => h e.symm
   simp [h, h']
theorem getD_none {n : Nat} (i : Nat) : (Array.replicate n false).getD i false = false := by
 rw [Array.getD_eq_getD_getElem?, Array.getElem?_replicate]
 split <;> rfl
theorem zO {l : Array Bool} {i : Nat} (h : l.getD i true = false) : i < l.size /\ l.getD i false = false := by
 rw [Array.getD_eq_getD_getElem?] at h ⊢
 cases hl : l[i]? with
 | none => rw [hl] at h; simp at h
 | some x => rw [hl] at h; exact ⟨(Array.getElem?_eq_some_iff.1 hl).1, by simpa using h⟩
theorem sJ {ops : List Oper} {a b : Ent} {mid : List Ent} (h : nq ops a b mid = true) : a.ws = [] /\ nM a.o.dst.toList (di ops b.o) = true /\ nM a.o.dst.toList b.o.dst.toList = true /\ nM b.o.dst.toList (di ops a.o) = true := by
 unfold nq at h
 split at h
 · simp only [Bool.and_eq_true] at h
   obtain ⟨⟨⟨⟨⟨_, h6⟩, h7⟩, h8⟩, h9⟩, _⟩ := h
   exact ⟨List.isEmpty_iff.1 h6, h7, h8, h9⟩
 · cases h
theorem oM {ops : List Oper} {es : List Ent} (hfree : kC ops (oa [] ops) es es 0 = true) {i j : Nat} {a b : Ent} (hij : i < j) (ha : es[i]? = some a) (hb : es[j]? = some b)
  (hm : (∃ x, x ∈ dp a.ws /\ (x ∈ b.rd \/ x ∈ dp b.ws)) \/ (∃ t, t ∈ a.o.dst.toList /\ (t ∈ di ops b.o \/ t ∈ b.o.dst.toList)) \/ (∃ t, t ∈ b.o.dst.toList /\ t ∈ di ops a.o)) :
  ((oa [] ops).getD j 0).testBit i = true := by
 have := (kx es 0 j i a b hfree hb (by omega) ha).1
 rw [Nat.zero_add] at this
 rcases this with h | h | h
 · exact h
 · exfalso
   simp only [uB, Bool.and_eq_true] at h
   obtain ⟨⟨⟨⟨⟨h1, h2⟩, h3⟩, h4⟩, h5⟩, h6⟩ := h
   rcases hm with ⟨x, hx, hx' | hx'⟩ | ⟨t, ht, ht' | ht'⟩ | ⟨t, ht, ht'⟩
   · exact ib h4 hx hx'
   · exact ib h5 hx hx'
   · exact ib h1 ht ht'
   · exact ib h2 ht ht'
   · exact ib h3 ht ht'
 · exfalso
   obtain ⟨h0, h1, h2, h3⟩ := sJ h
   rcases hm with ⟨x, hx, _⟩ | ⟨t, ht, ht' | ht'⟩ | ⟨t, ht, ht'⟩
   · rw [h0] at hx; simp [dp] at hx
   · exact ib h1 ht ht'
   · exact ib h2 ht ht'
   · exact ib h3 ht ht'
theorem yX {ops : List Oper} {es : List Ent} (hfree : kC ops (oa [] ops) es es 0 = true) {i j : Nat} {a b : Ent} (hij : i < j) (ha : es[i]? = some a) (hb : es[j]? = some b) {x : Nat} (hx : x ∈ dp b.ws) (hr : x ∈ a.rd) :
  ((oa [] ops).getD j 0).testBit i = true \/ nq ops a b ((es.take j).drop (i + 1)) = true := by
 have := (kx es 0 j i a b hfree hb (by omega) ha).1
 rw [Nat.zero_add] at this
 rcases this with h | h | h
 · exact .inl h
 · exfalso
   simp only [uB, Bool.and_eq_true] at h
   exact ib h.2 hx hr
 · exact .inr h
theorem so : ∀ (l : List Value), oL l = true -> lR l l = some true
 | [], _ => rfl
 | .int k x :: l, h => by
  have hk : IntKind.nk k k = true \/ IntKind.nk k k = false := by cases IntKind.nk k k <;> simp
  have hk : IntKind.nk k k = true := by cases k <;> first | rfl | (simp [oL] at h; done)
  simp only [lR, hk, so l (by simpa [oL] using h)]
  simp
theorem zt {P : Program} {t : TypeId} {k : Value} (h : dV P t k = true) : kEq k k = some true := by
 unfold dV at h
 split at h
 · rename_i k1 k2 n hu
   have hk : IntKind.nk k2 k2 = true := by
    have := IntKind.ko h
    subst this; exact h
   simp [kEq, hk]
 · simp [kEq]
 · rename_i d a _
   have : oL a.toList = true := by
    unfold jG at h
    split at h
    · simp only [Bool.and_eq_true] at h; exact h.2
    · simp only [Bool.and_eq_true] at h; exact h.1.2
    · cases h
   simp only [kEq, so _ this]
 · cases h
theorem Bv {k v : Value} (h : kEq k v = some true) : v = k := by
 unfold kEq at h
 split at h
 · rename_i a b
   obtain ⟨h1, _⟩ := o5 _ _ h
   rw [Array.toList_inj.1 h1]
 · split at h
   · rename_i hb
     have e := IntKind.ko hb
     subst e
     simp only [Option.some.injEq, beq_iff_eq] at h
     rw [h]
   · cases h
 · simp only [Option.some.injEq, beq_iff_eq] at h
   rw [h]
 · cases h
theorem p7 {k : Value} : ∀ (es : List (Value × AV)) (i0 i : Nat) (A : AV), gA k es i0 = some (some (i, A)) -> ∃ j, i = i0 + j /\ es[j]? = some (k, A)
 | [], _, _, _, h => by simp [gA] at h
 | (k', A') :: es, i0, i, A, h => by
  simp only [gA] at h
  split at h
  · rename_i hk
    cases h
    exact ⟨0, rfl, by rw [Bv hk]; rfl⟩
  · obtain ⟨j, h1, h2⟩ := p7 es (i0 + 1) i A h
    exact ⟨j + 1, by omega, by simpa using h2⟩
  · cases h
theorem qw {k : Value} {z : AV} (hk : kEq k k = some true) : ∀ (es : List (Value × AV)) (i0 : Nat), gA k es i0 = some none -> gA k (es ++ [(k, z)]) i0 = some (some (i0 + es.length, z))
 | [], i0, _ => by simp [gA, hk]
 | (k', A') :: es, i0, h => by
  simp only [gA] at h
  simp only [List.cons_append, gA]
  split at h
  · cases h
  · rw [qw hk es (i0 + 1) h]
    congr 3
    simp; omega
  · cases h
theorem uy {P : Program} {H H' : List Blk} {t : TypeId} {x k : AV} {A : AV} (hl : dj P H t x k false = some A) {b : Nat} (hx : x = .mp b) {H1 : List Blk} (h1 : H1[b]? = H[b]?) {v : AV} {ws : List (Nat × Blk)} (he : eR P H1 t x k = some (.eff v ws)) :
  ∃ X, ws = [(b, X)] /\ (H'[b]? = some X -> dj P H' t x k false = some A) := by
 subst hx
 unfold eR at he
 unfold dj at hl
 have hm : fO H1 (.mp b) = fO H (.mp b) := by simp only [fO, h1]
 rw [hm] at he
 split at hl
 · rename_i kt e b' es kv hu hma hk0
   obtain ⟨hHb, rfl⟩ : H[b]? = some (.map es) /\ b' = b := by
    simp only [fO] at hma
    split at hma
    · rename_i es' hb'; cases hma; exact ⟨hb', rfl⟩
    · cases hma
   rw [hu, hma, hk0] at he
   simp only at he
   split at hl
   · rename_i z i A' hk hz hf
     rw [hk, hz, hf] at he
     simp only at he
     cases he
     refine ⟨_, rfl, fun hX => ?_⟩
     obtain ⟨j, hj, hg⟩ := p7 es 0 i A' hf
     have hset : es.set i (kv, A') = es := by
      rw [Nat.zero_add] at hj
      subst hj
      apply List.ext_getElem?
      intro q
      rw [List.getElem?_set]
      split
      · rename_i hq; subst hq
        rw [if_pos (List.getElem?_eq_some_iff.1 hg).1, hg]
      · rfl
     rw [hset] at hX
     simp only [dj, hu, fO, hX, hk0, hk, hz, hf]
     exact hl
   · rename_i z hk hz hf
     rw [hk, hz, hf] at he
     simp only at he
     cases he
     refine ⟨_, rfl, fun hX => ?_⟩
     have hfl := qw (z := z) (zt hk) es 0 hf
     simp only [dj, hu, fO, hX, hk0, hk, hz, hfl]
     exact hl
   · cases hl
 · cases hl
theorem noR {P : Program} {H H1 : List Blk} {t : TypeId} {x k k' : AV} {A : AV} (hl : dj P H t x k false = some A) {b : Nat} (hx : x = .mp b) (h1 : H1[b]? = H[b]?) : fy P H1 t (.mp b) k' = none := by
 subst hx
 unfold dj at hl
 split at hl
 · rename_i kt e b' es kv hu hma hk0
   simp only [fO] at hma
   split at hma
   · rename_i es' hb'
     have : jS H1 (.mp b) = none := by simp only [jS, h1, hb']
     simp only [fy, this]
     split
     · rename_i e1 _; cases e1
     · rfl
   · cases hma
 · cases hl
theorem vF {P : Program} (hng : tm P) (hm : P.follows .mixedOrders = true) {call : dN} (hcall : gL P call) {ops : Array Oper} {id : Nat} {st st' : St} (h : gC P call ops.toList true st = some st')
  {out : Nat -> Prop} {B : Nat -> Prop} {w : World} {Z : List (Option PB)} {a : Act} (hR : Rep out B w Z st a) {Q : Exit -> Act -> World -> Prop}
  (hQ : ∀ a' w' Z', Rep out B w' Z' st' a' -> Ext B w w' (aH out Z st.heap) (aH out Z' st'.heap) Z Z' -> Q .normal a' w') : (Code.region id ops true).wp P Q a w := by
 unfold gC at h
 simp only at h
 split at h
 · rename_i stq es htr
   split at h
   · rename_i hok
     cases h
     simp only [Bool.and_eq_true] at hok
     obtain ⟨hedge, hfree⟩ := hok
     obtain ⟨L, hLdef⟩ : ∃ L, L = st'.heap.length := ⟨_, rfl⟩
     obtain ⟨t1, t2, t3, t4, t5⟩ := pX (L := L) ops.toList st st' es htr (by omega)
     rw [<- hLdef] at t3
     obtain ⟨st0, hst0⟩ : ∃ st0 : St, st0 = ⟨st.slots, pad L st.heap⟩ := ⟨_, rfl⟩
     have h0len : st0.heap.length = L := by rw [hst0]; exact lL (by omega)
     obtain ⟨hEd, hId⟩ := hR.inv.same (w' := { w with drawn := w.drawn + 1 }) rfl rfl rfl rfl (fun _ => Nat.le_succ _)
     obtain ⟨hI0, hE0⟩ := hId.extend (L - st.heap.length)
     obtain ⟨Z0, hπ0⟩ : ∃ Z0, Z0 = Z ++ List.replicate (L - st.heap.length) none := ⟨_, rfl⟩
     rw [<- hπ0] at hI0 hE0
     have hR0 : Rep out B { w with drawn := w.drawn + 1 } Z0 st0 a := by
      rw [hst0]
      exact ⟨hR.defers, RvL.ext hE0 _ _ (RvL.ext hEd _ _ hR.slots), hI0⟩
     have hfresh0 : ∀ b, st.heap.length <= b -> ∀ q, Z0[b]? ≠ some (some q) := by
      intro b hb q hq
      have := hR.inv.len
      rw [hπ0, List.getElem?_append_right (by omega)] at hq
      have := List.mem_of_getElem? hq
      simp at this
     have hE00 : Ext B w { w with drawn := w.drawn + 1 } (aH out Z st.heap) (aH out Z0 st0.heap) Z Z0 := by rw [hst0]; exact hEd.trans hE0
     clear hE0 hEd hId hI0
     refine wp_region_any hm ?_
     have key : ∀ (fuel : Nat) (listed : Array Bool) (a : Act) (w1 : World) (Z1 : List (Option PB)), listed.size = ops.size -> ((List.range ops.size).countP fun i => !listed.getD i false) = fuel ->
       (∀ (j : Nat) (o : Oper), ops.toList[j]? = some o -> listed.getD j false = true -> ∀ e ∈ o.after.toList, Region.binds .any e = true -> listed.getD e.on false = true) ->
       Rep out B w1 Z1 (bV es (fun j => listed.getD j false) 0 st0) a ->
       Ext B w w1 (aH out Z st.heap) (aH out Z1 (bV es (fun j => listed.getD j false) 0 st0).heap) Z Z1 ->
       (∀ b, st.heap.length <= b -> (∀ (j : Nat) (e : Ent), es[j]? = some e -> listed.getD j false = true -> b ∉ dp e.ws) -> ∀ q, Z1[b]? ≠ some (some q)) ->
       wpAny P .any ops Q fuel listed a w1 := by
      intro fuel
      induction fuel with
      | zero =>
       intro listed a w1 Z1 hsz hcount hcl hR1 hE1 hf1
       have hall : ∀ i, i < ops.size -> listed.getD i false = true := by
        intro i hi
        rw [List.countP_eq_zero] at hcount
        have := hcount i (by simpa using hi)
        simpa using this
       have hfin : bV es (fun j => listed.getD j false) 0 st0 = st' := by
        have e1 : bV es (fun j => listed.getD j false) 0 st0 = bV es (fun _ => true) 0 st0 := by
         have hs : ∀ (j : Nat) (e : Ent), es[j]? = some e -> listed.getD (0 + j) false = true := fun j e he => by
          rw [Nat.zero_add]; exact hall j (by have := aE he; rw [t2] at this; simpa using this)
         have l1 := jM es (fun j => listed.getD j false) 0 st0 t3 h0len
         have l2 := jM es (fun _ => true) 0 st0 t3 h0len
         have es1 : (bV es (fun j => listed.getD j false) 0 st0).slots = (bV es (fun _ => true) 0 st0).slots :=
          List.ext_getElem? fun t => fE es _ _ 0 st0 st0 rfl rfl fun j e he _ => hs j e he
         have es2 : (bV es (fun j => listed.getD j false) 0 st0).heap = (bV es (fun _ => true) 0 st0).heap :=
          List.ext_getElem? fun b => fL es _ _ 0 st0 st0 t3 h0len h0len rfl fun j e he _ => hs j e he
         cases hA : bV es (fun j => listed.getD j false) 0 st0
         cases hB : bV es (fun _ => true) 0 st0
         rw [hA, hB] at es1 es2
         simp only at es1 es2
         rw [es1, es2]
        rw [e1, hst0, t4, hLdef, yx]
       refine ⟨?_, ?_⟩
       · unfold Region.ready
         rw [List.filter_eq_nil_iff]
         intro i hi
         have hi' : i < ops.size := by simpa using hi
         have h1 := hall i hi'
         have h2 : listed.getD i true = true := by
          rw [Array.getD_eq_getD_getElem?] at h1 ⊢
          cases hl : listed[i]? with
          | none => rfl
          | some x => rw [hl] at h1; simpa using h1
         simp [h2]
       · rw [hfin] at hR1 hE1
         exact hQ a w1 Z1 hR1 hE1
      | succ fuel ih =>
       intro listed a w1 Z1 hsz hcount hcl hR1 hE1 hf1
       refine ⟨?_, ?_⟩
       ·
        intro hnil
        exfalso
        have hex : ∃ i, i < ops.size /\ listed.getD i false = false := by
         have hpos : 0 < (List.range ops.size).countP fun i => !listed.getD i false := by omega
         rw [List.countP_pos_iff] at hpos
         obtain ⟨i, h1, h2⟩ := hpos
         exact ⟨i, by simpa using h1, by simpa using h2⟩
        have hmin : ∃ i, i < ops.size /\ listed.getD i false = false /\ ∀ k, k < i -> listed.getD k false = true := by
         obtain ⟨i, h1, h2⟩ := hex
         induction i using Nat.strongRecOn with
         | _ i ihm =>
          by_cases hk : ∃ k, k < i /\ listed.getD k false = false
          · obtain ⟨k, k1, k2⟩ := hk
            exact ihm k k1 (by omega) k2
          · exact ⟨i, h1, h2, fun k hki => by
             cases hv : listed.getD k false with
             | true => rfl
             | false => exact (hk ⟨k, hki, hv⟩).elim⟩
        obtain ⟨i, h1, h2, h3⟩ := hmin
        have hmem : i ∈ Region.ready .any ops listed := by
         unfold Region.ready
         rw [List.mem_filter]
         refine ⟨by simpa using h1, ?_⟩
         have hlt : i < listed.size := by omega
         have e1 : listed.getD i true = false := by
          rw [Array.getD_eq_getD_getElem?] at h2 ⊢
          rw [Array.getElem?_eq_getElem hlt] at h2 ⊢
          simpa using h2
         have e2 : ops[i]? = some ops[i] := Array.getElem?_eq_getElem h1
         rw [e1, e2]
         simp only [Bool.not_false, Bool.true_and, Option.map_some, Option.getD_some, Array.all_eq_true']
         intro e he
         cases hb : Region.binds .any e with
         | false => rfl
         | true =>
          have := mm ops.toList 0 i ops[i] hedge (by simp [h1]) e (by simpa using he) hb
          simp only [Bool.not_true, Bool.false_or]
          exact h3 _ (by omega)
        rw [hnil] at hmem
        cases hmem
       · intro i hi
         unfold Region.ready at hi
         rw [List.mem_filter] at hi
         obtain ⟨hi0, hi1⟩ := hi
         have hi0 : i < ops.size := by simpa using hi0
         simp only [Bool.and_eq_true, Bool.not_eq_true'] at hi1
         obtain ⟨hi1, hi2⟩ := hi1
         obtain ⟨hilt, hsel⟩ := zO hi1
         obtain ⟨o, ho⟩ : ∃ o, ops[i]? = some o := ⟨ops[i], Array.getElem?_eq_getElem hi0⟩
         have ho' : ops.toList[i]? = some o := by rw [Array.getElem?_toList]; exact ho
         rw [ho] at hi2
         simp only [Option.map_some, Option.getD_some, Array.all_eq_true'] at hi2
         have hdeps : ∀ e ∈ o.after.toList, Region.binds .any e = true -> listed.getD e.on false = true := by
          intro e he hb
          have := hi2 e (by simpa using he)
          simpa [hb] using this
         obtain ⟨e, he⟩ : ∃ e, es[i]? = some e := by
          have : i < es.length := by rw [t2]; simpa using hi0
          exact ⟨es[i], geT this⟩
         obtain ⟨o2, stj, st1, g1, g2, g3, g4, g5, g6, g7, g8⟩ := t5 i e he
         rw [ho'] at g1
         cases g1
         subst g4
         have before_in : ∀ j b, j < i -> es[j]? = some b -> ((∃ x, x ∈ dp b.ws /\ (x ∈ e.rd \/ x ∈ dp e.ws)) \/ (∃ t, t ∈ b.o.dst.toList /\ (t ∈ di ops.toList e.o \/ t ∈ e.o.dst.toList)) \/ (∃ t, t ∈ e.o.dst.toList /\ t ∈ di ops.toList b.o)) ->
           listed.getD j false = true := by
          intro j b hj hb hmt
          have hbit := oM hfree hj hb he hmt
          exact mi hedge (s := fun j => listed.getD j false) hcl i e.o ho' hdeps j hbit
         have after_out : ∀ j b, i < j -> es[j]? = some b -> ((∃ x, x ∈ dp e.ws /\ (x ∈ b.rd \/ x ∈ dp b.ws)) \/ (∃ t, t ∈ e.o.dst.toList /\ (t ∈ di ops.toList b.o \/ t ∈ b.o.dst.toList)) \/ (∃ t, t ∈ b.o.dst.toList /\ t ∈ di ops.toList e.o)) ->
           listed.getD j false = false := by
          intro j b hj hb hmt
          have hbit := oM hfree hj he hb hmt
          cases hv : listed.getD j false with
          | false => rfl
          | true =>
           have hjlt : j < ops.toList.length := by rw [<- t2]; exact aE hb
           have := mi hedge (s := fun j => listed.getD j false) hcl j ops.toList[j] (geT hjlt) (hcl j _ (geT hjlt) hv) i hbit
           rw [this] at hsel; cases hsel
         have hXlen := jM es (fun j => listed.getD j false) 0 st0 t3 h0len
         have hprefix : bV es (fun j => decide (j < 0 + i)) 0 st0 = ⟨stj.slots, pad L stj.heap⟩ := by rw [nK, hst0, g8]
         have hslots : ∀ t ∈ di ops.toList e.o, (bV es (fun j => listed.getD j false) 0 st0).slots[t]? = stj.slots[t]? := by
          intro t ht
          have := fE (t := t) es (fun j => listed.getD j false) (fun j => decide (j < 0 + i)) 0 st0 st0 rfl rfl (fun j b hb hw => by
           simp only [Nat.zero_add]
           rcases Nat.lt_trichotomy j i with hlt | rfl | hgt
           · rw [before_in j b hlt hb (.inr (.inl ⟨t, hw, .inl ht⟩))]; simp [hlt]
           · rw [hsel]; simp
           · rw [after_out j b hgt hb (.inr (.inr ⟨t, hw, ht⟩))]; simp; omega)
          rw [this, hprefix]
         have hrdlt := (k8 g3).1
         have war_out : ∀ j b, i < j -> es[j]? = some b -> ∀ x, x ∈ dp b.ws -> x ∈ e.rd -> listed.getD j false = false \/ nq ops.toList e b ((es.take j).drop (i + 1)) = true := by
          intro j b hj hb x hx hr
          rcases yX hfree hj he hb hx hr with hbit | hs
          · left
            cases hv : listed.getD j false with
            | false => rfl
            | true =>
             have hjlt : j < ops.toList.length := by rw [<- t2]; exact aE hb
             have := mi hedge (s := fun j => listed.getD j false) hcl j ops.toList[j] (geT hjlt) (hcl j _ (geT hjlt) hv) i hbit
             rw [this] at hsel; cases hsel
          · exact .inr hs
         have hheap : (∀ b ∈ e.rd, (bV es (fun j => listed.getD j false) 0 st0).heap[b]? = stj.heap[b]?) \/ ((∃ t m k, e.o.op = .lookup t m k false) /\ ∀ r, evalOp P (evA stj.slots) stj.heap stj.heap.length e.o = some r -> evalOp P (evA stj.slots) (bV es (fun j => listed.getD j false) 0 st0).heap stj.heap.length e.o = some r) := by
          by_cases hex : ∃ j b, i < j /\ es[j]? = some b /\ listed.getD j false = true /\ nq ops.toList e b ((es.take j).drop (i + 1)) = true
          · right
            obtain ⟨j, b, hij, hb, hlj, hsoft⟩ := hex
            obtain ⟨sw, sd1, sd2, sd3⟩ := sJ hsoft
            unfold nq at hsoft
            split at hsoft
            · rename_i t m k t' m' k' hop1 hop2
              simp only [Bool.and_eq_true] at hsoft
              obtain ⟨⟨⟨⟨⟨⟨⟨⟨⟨q1, q2⟩, q3⟩, q4⟩, q5⟩, _⟩, _⟩, _⟩, _⟩, qm⟩ := hsoft
              obtain rfl := Nat.eq_of_beq_eq_true q1
              obtain rfl := Nat.eq_of_beq_eq_true q2
              obtain rfl := Nat.eq_of_beq_eq_true q3
              refine ⟨⟨_, _, _, hop1⟩, fun r hr => ?_⟩
              have hmid : ∀ q c, i < q -> q < j -> es[q]? = some c -> (∀ x ∈ dp c.ws, x ∉ e.rd) /\ m ∉ c.o.dst.toList /\ k ∉ c.o.dst.toList := by
               intro q c h1 h2 hc
               have hmem : c ∈ (es.take j).drop (i + 1) := by
                refine List.mem_of_getElem? (i := q - (i + 1)) ?_
                rw [List.getElem?_drop, show i + 1 + (q - (i + 1)) = q by omega, List.getElem?_take, if_pos h2]; exact hc
               have := List.all_eq_true.1 qm c hmem
               simp only [Bool.and_eq_true, Bool.not_eq_true'] at this
               obtain ⟨⟨h3, h4⟩, h5⟩ := this
               exact ⟨fun x hx => ib h3 hx, by simpa using h4, by simpa using h5⟩
              obtain ⟨o3, sj, sj1, f1, f2, f3, f4, f5, f6, f7, f8⟩ := t5 j b hb
              have hpj : bV es (fun q => decide (q < 0 + j)) 0 st0 = ⟨sj.slots, pad L sj.heap⟩ := by rw [nK, hst0, f8]
              have rd1 : ∀ y ∈ b.o.op.operands.toList, ∀ t, y = .tmp t -> t ∈ di ops.toList b.o := fun y hy t ht => by
               subst ht
               simp only [di, List.mem_append]; exact .inl (qY hy)
              have hsl : ∀ y, y ∈ [m, k] -> stj.slots[y]? = sj.slots[y]? := by
               intro y hy
               have hyr : y ∈ di ops.toList b.o := rd1 (.tmp y) (by rw [hop2]; simp [Op.operands] at hy ⊢; rcases hy with h | h <;> simp [h]) y rfl
               have := fE (t := y) es (fun q => decide (q < 0 + i)) (fun q => decide (q < 0 + j)) 0 st0 st0 rfl rfl (fun q c hc hw => by
                simp only [Nat.zero_add]
                rcases Nat.lt_trichotomy q i with hlt | rfl | hgt
                · simp [hlt, Nat.lt_trans hlt hij]
                · rw [he] at hc; cases hc; exact (ib sd1 hw hyr).elim
                · by_cases hqj : q < j
                  · obtain ⟨_, z1, z2⟩ := hmid q c hgt hqj hc
                    simp at hy
                    rcases hy with h | h
                    · exact (z1 (h ▸ hw)).elim
                    · exact (z2 (h ▸ hw)).elim
                  · simp; omega)
               rw [hprefix, hpj] at this
               exact this
              have hev : ∀ y, y ∈ [m, k] -> evA sj.slots (.tmp y) = evA stj.slots (.tmp y) := fun y hy => (sd fun t ht => by cases ht; exact hsl y hy).symm
              have eo : ∀ (ρ : Operand -> AV) (H : List Blk) (nid : Nat), evalOp P ρ H nid e.o = bc.ofP (dj P H t (ρ (.tmp m)) (ρ (.tmp k)) false) := fun ρ H nid => by
               unfold evalOp; rw [hop1]; rfl
              rw [eo] at hr ⊢
              cases hla : dj P stj.heap t (evA stj.slots (.tmp m)) (evA stj.slots (.tmp k)) false with
              | none => rw [hla] at hr; cases hr
              | some A =>
               rw [hla] at hr
               obtain ⟨b0, hb0⟩ : ∃ b0, evA stj.slots (.tmp m) = .mp b0 := by
                unfold dj fO at hla
                split at hla
                · rename_i hma _
                  split at hma
                  · exact ⟨_, by assumption⟩
                  · cases hma
                · cases hla
               have g1 : e.o.guard = none := by simpa using q4
               have g1' : b.o.guard = none := by simpa using q5
               have hrd : e.rd = [b0] := by
                have h0 := g2
                unfold gP at h0
                have hw : cE ops.toList e.o stj.slots = some true := by unfold cE; rw [g1]
                rw [hw] at h0
                simp only [eo, hla, bc.ofP] at h0
                rw [dz] at h0
                have h0 := congrArg (fun z => (z.bind fun w => w.2).map (·.rd)) h0
                simp only [Option.bind_some, Option.map_some, Option.some.injEq] at h0
                rw [<- h0]
                unfold lB
                rw [hop1]
                simp only [hb0, cI]
               have hb0lt : b0 < stj.heap.length := by
                have := (k8 g3).1 b0 (by rw [hrd]; simp)
                exact this
               have hsame : sj.heap[b0]? = stj.heap[b0]? := by
                have := fL (b := b0) es (fun q => decide (q < 0 + i)) (fun q => decide (q < 0 + j)) 0 st0 st0 t3 h0len h0len rfl (fun q c hc hw => by
                 simp only [Nat.zero_add]
                 rcases Nat.lt_trichotomy q i with hlt | rfl | hgt
                 · simp [hlt, Nat.lt_trans hlt hij]
                 · rw [he] at hc; cases hc; rw [sw] at hw; simp [dp] at hw
                 · by_cases hqj : q < j
                   · exact ((hmid q c hgt hqj hc).1 b0 hw (by rw [hrd]; simp)).elim
                   · simp; omega)
                rw [hprefix, hpj] at this
                simp only at this
                rw [ta hb0lt] at this
                have hb0j : b0 < sj.heap.length := by
                 by_cases hc : sj.heap.length <= b0
                 · exfalso
                   have h9 : (pad L sj.heap)[b0]? = some .dead := by
                    have hb0L : b0 < L := by omega
                    simp only [pad, ft]
                    rw [List.getElem?_append_right hc, List.getElem?_replicate, if_pos (by omega)]
                   rw [h9] at this
                   unfold dj at hla
                   rw [hb0] at hla
                   simp only [fO, this] at hla
                   (repeat' split at hla) <;> simp_all
                 · omega
                rw [ta hb0j] at this
                exact this.symm
               have h0 := f2
               rw [<- f4] at h0
               unfold gP at h0
               have hw : cE ops.toList b.o sj.slots = some true := by unfold cE; rw [g1']
               have eb : evalOp P (evA sj.slots) sj.heap sj.heap.length b.o = eR P sj.heap t (evA sj.slots (.tmp m)) (evA sj.slots (.tmp k)) := by
                have e1 : evalOp P (evA sj.slots) sj.heap sj.heap.length b.o = orE (eR P sj.heap t (evA sj.slots (.tmp m)) (evA sj.slots (.tmp k))) (fy P sj.heap t (evA sj.slots (.tmp m)) (evA sj.slots (.tmp k))) := by
                 unfold evalOp; rw [hop2]; rfl
                rw [e1, hev m (by simp), hb0, noR hla hb0 hsame]
                cases eR P sj.heap t (.mp b0) (evA sj.slots (.tmp k)) <;> rfl
               rw [hw] at h0
               simp only [eb, hev m (by simp), hev k (by simp)] at h0
               split at h0
               · rename_i v hv; unfold eR at hv; (repeat' split at hv) <;> cases hv
               · rename_i v ws hv
                 rw [dz] at h0
                 have hws := congrArg (fun z => (z.bind fun w => w.2).map (·.ws)) h0
                 simp only [Option.bind_some, Option.map_some, Option.some.injEq] at hws
                 obtain ⟨X, hX, hfin⟩ := uy (H' := (bV es (fun j => listed.getD j false) 0 st0).heap) hla hb0 hsame hv
                 rw [hfin ?_]
                 · exact hr
                 have hbw : b0 ∈ dp b.ws := by rw [<- hws, hX]; simp [dp]
                 have hins := iH (b := b0) es (fun q => decide (q < 0 + i)) 0 j st0 b t3 h0len hb (by simp; omega) hbw (fun q c hq hc hw => by simp; omega)
                 have hagree := fL (b := b0) es (fun j => listed.getD j false) (fun q => decide (q < 0 + i) || decide (q = 0 + j)) 0 st0 st0 t3 h0len h0len rfl (fun q c hc hw => by
                  simp only [Nat.zero_add]
                  rcases Nat.lt_trichotomy q i with hlt | rfl | hgt
                  · rw [before_in q c hlt hc (.inl ⟨b0, hw, .inl (by rw [hrd]; simp)⟩)]; simp [hlt]
                  · rw [he] at hc; cases hc; rw [sw] at hw; simp [dp] at hw
                  · by_cases hqj : q = j
                    · subst hqj; rw [hlj]; simp
                    · have hf : listed.getD q false = false := by
                       rcases war_out q c hgt hc b0 hw (by rw [hrd]; simp) with h | h
                       · exact h
                       · exfalso
                         rcases Nat.lt_or_ge q j with h1 | h1
                         · exact (hmid q c hgt h1 hc).1 b0 hw (by rw [hrd]; simp)
                         · have hmem : b ∈ (es.take q).drop (i + 1) := by
                            refine List.mem_of_getElem? (i := j - (i + 1)) ?_
                            rw [List.getElem?_drop, show i + 1 + (j - (i + 1)) = j by omega, List.getElem?_take, if_pos (by omega)]; exact hb
                           unfold nq at h
                           split at h
                           · simp only [Bool.and_eq_true] at h
                             have h2 := List.all_eq_true.1 h.2 b hmem
                             simp only [Bool.and_eq_true] at h2
                             exact ib h2.1.1 hbw (by rw [hrd]; simp)
                           · cases h
                      rw [hf]; simp; omega)
                 rw [hagree, hins, hprefix, <- hws, hX]
                 simp only [aO]
                 rw [er (by have := lL (H := stj.heap) (L := L) (by omega); omega), if_pos rfl]
               · rename_i f as hv; unfold eR at hv; (repeat' split at hv) <;> cases hv
               · cases h0
            · cases hsoft
          · left
            intro b hb
            have := fL (b := b) es (fun j => listed.getD j false) (fun j => decide (j < 0 + i)) 0 st0 st0 t3 h0len h0len rfl (fun j x hx hw => by
             simp only [Nat.zero_add]
             rcases Nat.lt_trichotomy j i with hlt | rfl | hgt
             · rw [before_in j x hlt hx (.inl ⟨b, hw, .inl hb⟩)]; simp [hlt]
             · rw [hsel]; simp
             · have hf : listed.getD j false = false := by
                rcases war_out j x hgt hx b hw hb with h | h
                · exact h
                · cases hv : listed.getD j false with
                  | false => rfl
                  | true => exact (hex ⟨j, x, hgt, hx, hv, h⟩).elim
               rw [hf]; simp; omega)
            rw [this, hprefix]
            exact ta (hrdlt b hb)
         have hfreeE : ∀ b ∈ dp e.ws, stj.heap.length <= b -> ∀ q, Z1[b]? ≠ some (some q) := by
          intro b hb hbl
          refine hf1 b (by omega) fun j x hx hl hbx => ?_
          rcases Nat.lt_trichotomy j i with hlt | rfl | hgt
          · have := (kx es 0 i j x e hfree he (by omega) hx).2
            simp only [dp, List.mem_map] at hbx
            obtain ⟨p, hp, rfl⟩ := hbx
            have := this p hp
            omega
          · rw [hsel] at hl; cases hl
          · rw [after_out j x hgt hx (.inl ⟨b, hb, .inr hbx⟩)] at hl; cases hl
         have hroom : stj.heap.length + e.n <= L := by
          rcases Nat.eq_zero_or_pos e.n with h0 | h0
          · omega
          · have h1 := (k8 g3).2.2 (e.n - 1) (by omega)
            have h2 := t3 e (List.mem_of_getElem? he) _ h1
            omega
         have hafter : dA e (bV es (fun j => listed.getD j false) 0 st0) = bV es (fun j => (listed.setIfInBounds i true).getD j false) 0 st0 := by
          have hfun : (fun j => (listed.setIfInBounds i true).getD j false) = fun j => listed.getD j false || decide (j = 0 + i) := by
           funext j; rw [getD_set_true hilt, Nat.zero_add]
          rw [hfun]
          have hin : ∀ x ∈ dp e.ws, x < L := t3 e (List.mem_of_getElem? he)
          have e1 : (bV es (fun j => listed.getD j false || decide (j = 0 + i)) 0 st0).slots = eS (bV es (fun j => listed.getD j false) 0 st0).slots e.o.dst e.v := by
           refine List.ext_getElem? fun t => ?_
           by_cases ht : t ∈ e.o.dst.toList
           · exact j8 es (fun j => listed.getD j false) 0 i st0 e he (by simpa using hsel) ht fun j b hij hb hw => by
              rw [Nat.zero_add]; exact after_out j b hij hb (.inr (.inl ⟨t, ht, .inr hw⟩))
           · rw [nW ht]
             refine fE es _ _ 0 st0 st0 rfl rfl fun j b hb hw => ?_
             have : ¬ 0 + j = 0 + i := by
              intro e0
              obtain rfl : j = i := by omega
              rw [he] at hb; cases hb; exact ht hw
             rw [decide_eq_false this, Bool.or_false]
          have e2 : (bV es (fun j => listed.getD j false || decide (j = 0 + i)) 0 st0).heap = aO (bV es (fun j => listed.getD j false) 0 st0).heap e.ws := by
           refine List.ext_getElem? fun b => ?_
           by_cases hb : b ∈ dp e.ws
           · exact iH es (fun j => listed.getD j false) 0 i st0 e t3 h0len he (by simpa using hsel) hb fun j x hij hx hw => by
              rw [Nat.zero_add]; exact after_out j x hij hx (.inl ⟨b, hb, .inr hw⟩)
           · rw [jH _ _ (by rw [hXlen.1]; exact hin) hb]
             refine fL es _ _ 0 st0 st0 t3 h0len h0len rfl fun j x hx hw => ?_
             have : ¬ 0 + j = 0 + i := by
              intro e0
              obtain rfl : j = i := by omega
              rw [he] at hx; cases hx; exact hb hw
             rw [decide_eq_false this, Bool.or_false]
          unfold dA
          cases hF : bV es (fun j => listed.getD j false || decide (j = 0 + i)) 0 st0
          rw [hF] at e1 e2
          simp only at e1 e2
          rw [e1, e2]
         unfold wpOp
         rw [ho]
         simp only
         refine vG hng hcall g2 g3 (by rw [hXlen.1]; exact hroom) hslots hheap hR1 hfreeE fun a' w' Z' hR' hE' hk' => ?_
         rw [hafter] at hR' hE'
         refine ih (listed.setIfInBounds i true) a' w' Z' (by simpa using hsz) ?_ ?_ hR' (hE1.trans hE') ?_
         · have hc2 : ((List.range ops.size).countP fun j => !listed.getD j false) = ((List.range ops.size).countP fun j => !(listed.setIfInBounds i true).getD j false) + 1 := by
            have gen : ∀ (l : List Nat), l.Nodup -> i ∈ l -> (l.countP fun j => !listed.getD j false) = (l.countP fun j => !(listed.setIfInBounds i true).getD j false) + 1 := by
             intro l
             induction l with
             | nil => intro _ h; cases h
             | cons x l ihl =>
              intro hnd hmem
              rw [List.nodup_cons] at hnd
              rw [List.countP_cons, List.countP_cons, getD_set_true hilt]
              by_cases hx : x = i
              · subst hx
                have hsame : (l.countP fun j => !listed.getD j false) = l.countP fun j => !(listed.setIfInBounds x true).getD j false := by
                 refine List.countP_congr fun y hy => ?_
                 rw [getD_set_true hilt]
                 have : ¬ y = x := by rintro rfl; exact hnd.1 hy
                 simp [this]
                rw [hsame, hsel]; simp
              · have := ihl hnd.2 (by
                 rcases List.mem_cons.1 hmem with e0 | e0
                 · exact (hx e0.symm).elim
                 · exact e0)
                rw [this]
                simp [hx]; omega
            exact gen _ List.nodup_range (by simpa using hi0)
           omega
         · intro j oj hj hs e' he' hb
           rw [getD_set_true hilt] at hs ⊢
           rw [Bool.or_eq_true] at hs ⊢
           left
           rcases hs with hs | hs
           · exact hcl j oj hj hs e' he' hb
           · obtain rfl : j = i := by simpa using hs
             rw [ho'] at hj; cases hj
             exact hdeps e' he' hb
         · intro b hb hno q hq
           have hbe : b ∉ dp e.ws := hno i e he (by rw [getD_set_true hilt]; simp)
           rw [hk' b hbe] at hq
           refine hf1 b hb (fun j x hx hl => hno j x hx ?_) q hq
           rw [getD_set_true hilt, hl]; simp
     refine key ops.size (Array.replicate ops.size false) a { w with drawn := w.drawn + 1 } Z0 (by simp) ?_ ?_ ?_ ?_ ?_
     · have : ∀ i, (Array.replicate ops.size false).getD i false = false := fun i => getD_none i
       simp only [this, Bool.not_false]
       simp
     · intro j o _ hj
       have : ∀ i, (Array.replicate ops.size false).getD i false = false := fun i => getD_none i
       rw [this] at hj; cases hj
     · have : (fun j => (Array.replicate ops.size false).getD j false) = fun _ => false := by funext i; exact getD_none i
       rw [this, nG]; exact hR0
     · have : (fun j => (Array.replicate ops.size false).getD j false) = fun _ => false := by funext i; exact getD_none i
       rw [this, nG]; exact hE00
     · intro b hb _; exact hfresh0 b hb
   · cases h
 · cases h
end Go.Eng

