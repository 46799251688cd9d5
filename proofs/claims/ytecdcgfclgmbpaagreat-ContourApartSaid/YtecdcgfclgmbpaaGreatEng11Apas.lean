import Derived.Test.YtecdcgfclgmbpaaGreatEng8Apas
set_option linter.all false
namespace Go.Eng
open Go Go.RowKit
variable [Dr]
section
variable {P : Program} {out : Nat -> Prop} {B : Nat -> Prop}
theorem rA (q : rB P) {call : dz} (m : fP P call) {ops : Array Oper} {Q : Exit -> Act -> World -> Prop} : ∀ (l : List Oper) (k : Nat) (st st' : St) (w : World) (π : List (Option PB)) (a : Act), (∀ j, l[j]? = ops[k + j]?) ->
  ga P call ops.toList l st = some st' -> Rep out B w π st a ->
  (∀ a' w' π', Rep out B w' π' st' a' -> Ext B w w' (aJ out π st.heap) (aJ out π' st'.heap) π π' -> Q .normal a' w') -> wpOps P ops Q (List.range' k l.length) a w
 | [], k, st, st', w, π, a, _, h, D, E => by
  cases h
  exact E a w π D (Ext.refl _ _ _)
 | o :: l, k, st, st', w, π, a, O, h, D, E => by
  simp only [ga] at h
  split at h
  · rename_i st1 U h1
    have T : ops[k]? = some o := by simpa using (O 0).symm
    simp only [List.length_cons, List.range'_succ, wpOps, T]
    refine yZ q m D h1 (K := wpOps P ops Q (List.range' (k + 1) l.length)) (Q := Q) fun a' w' π' I J => ?_
    refine rA q m l (k + 1) st1 st' w' π' a' (fun j => ?_) h I fun M N π'' z C => E M N π'' z (J.trans C)
    have := O (j + 1)
    simpa [Nat.add_assoc, Nat.add_comm 1 j] using this
  · cases h
end
def dV (ws : List (Nat × Blk)) : List Nat := ws.map (·.1)
theorem iB : ∀ (ws : List (Nat × Blk)) (h : List Blk), (∀ i ∈ dV ws, i < h.length) -> (aM h ws).length = h.length
 | [], _, _ => rfl
 | (i, x) :: ws, h, m => by
  have hi : i < h.length := m i (by simp [dV])
  have e : (upd h i x).length = h.length := by rw [dm (by omega), if_neg (by omega)]
  rw [aM, iB ws _ (fun j q => by rw [e]; exact m j (by simp [dV] at q ⊢; exact .inr q)), e]
theorem mi {b : Nat} : ∀ (ws : List (Nat × Blk)) (h : List Blk), (∀ i ∈ dV ws, i < h.length) -> b ∉ dV ws -> (aM h ws)[b]? = h[b]?
 | [], _, _, _ => rfl
 | (i, x) :: ws, h, q, hb => by
  have hi : i < h.length := q i (by simp [dV])
  have e : (upd h i x).length = h.length := by rw [dm (by omega), if_neg (by omega)]
  rw [aM, mi ws _ (fun j z => by rw [e]; exact q j (by simp [dV] at z ⊢; exact .inr z)) (fun m => hb (by simp [dV] at m ⊢; exact .inr m)), fb (by omega), if_neg]
  rintro rfl; exact hb (by simp [dV])
theorem pe {b : Nat} : ∀ (ws : List (Nat × Blk)) (h k : List Blk), h.length = k.length -> (∀ i ∈ dV ws, i < h.length) -> (b ∈ dV ws \/ h[b]? = k[b]?) -> (aM h ws)[b]? = (aM k ws)[b]?
 | [], _, _, _, _, hb => by rcases hb with hb | hb; (simp [dV] at hb); exact hb
 | (i, x) :: ws, h, k, hlen, q, hb => by
  have hi : i < h.length := q i (by simp [dV])
  have e1 : (upd h i x).length = h.length := by rw [dm (by omega), if_neg (by omega)]
  have e2 : (upd k i x).length = k.length := by rw [dm (by omega), if_neg (by omega)]
  refine pe ws _ _ (by omega) (fun j z => by rw [e1]; exact q j (by simp [dV] at z ⊢; exact .inr z)) ?_
  by_cases m : b = i
  · right; subst m; rw [fb (by omega), fb (by omega), if_pos rfl, if_pos rfl]
  · rcases hb with hb | hb
    · left
      simp only [dV, List.map_cons, List.mem_cons] at hb ⊢
      exact hb.resolve_left m
    · right; rw [fb (by omega), fb (by omega), if_neg m, if_neg m]; exact hb
theorem nD (s : List AV) (d : Option Tmp) (v : AV) : (fS s d v).length = s.length := by cases d <;> simp [fS]
theorem sc {s : List AV} {d : Option Tmp} {v : AV} {t : Nat} (h : t ∉ d.toList) : (fS s d v)[t]? = s[t]? := by
 cases d with
 | none => rfl
 | some d => simp only [fS]; rw [List.getElem?_set, if_neg]; rintro rfl; exact h (by simp)
theorem vI {s r : List AV} {d : Option Tmp} {v : AV} {t : Nat} (m : s.length = r.length) (h : t ∈ d.toList \/ s[t]? = r[t]?) : (fS s d v)[t]? = (fS r d v)[t]? := by
 cases d with
 | none => rcases h with h | h; (simp at h); exact h
 | some d =>
  simp only [fS]
  rw [List.getElem?_set, List.getElem?_set, m]
  split
  · rfl
  · rename_i j
    rcases h with h | h
    · simp at h; exact (j h.symm).elim
    · exact h
def dX (e : Ent) (st : St) : St := ⟨fS st.slots e.o.dst e.v, aM st.heap e.ws⟩
def cg : List Ent -> (Nat -> Bool) -> Nat -> St -> St
 | [], _, _, st => st
 | e :: es, s, k, st => cg es s (k + 1) (if s k then dX e st else st)
def Below (L : Nat) (es : List Ent) : Prop := ∀ e ∈ es, ∀ i ∈ dV e.ws, i < L
theorem mB {L : Nat} : ∀ (es : List Ent) (s : Nat -> Bool) (k : Nat) (st : St), Below L es -> st.heap.length = L -> (cg es s k st).heap.length = L /\ (cg es s k st).slots.length = st.slots.length
 | [], _, _, _, _, h => ⟨h, rfl⟩
 | e :: es, s, k, st, hb, h => by
  simp only [cg]
  split
  · have h1 := mB es s (k + 1) (dX e st) (fun x hx => hb x (by simp [hx])) (by rw [dX]; simp only; rw [iB _ _ (by rw [h]; exact hb e (by simp)), h])
    exact ⟨h1.1, by rw [h1.2]; simp [dX, nD]⟩
  · exact mB es s (k + 1) st (fun x hx => hb x (by simp [hx])) h
theorem ig {L b : Nat} : ∀ (es : List Ent) (s r : Nat -> Bool) (k : Nat) (st z : St), Below L es -> st.heap.length = L -> z.heap.length = L -> st.heap[b]? = z.heap[b]? ->
  (∀ (j : Nat) (e : Ent), es[j]? = some e -> b ∈ dV e.ws -> s (k + j) = r (k + j)) -> (cg es s k st).heap[b]? = (cg es r k z).heap[b]?
 | [], _, _, _, _, _, _, _, _, h, _ => h
 | e :: es, s, r, k, st, z, hb, h1, h2, h, hs => by
  have m := hb e (by simp)
  have C : Below L es := fun x hx => hb x (by simp [hx])
  have D : ∀ (j : Nat) (E : Ent), es[j]? = some E -> b ∈ dV E.ws -> s (k + 1 + j) = r (k + 1 + j) := fun j E I J => by
   have := hs (j + 1) E (by simpa using I) J
   simpa [Nat.add_assoc, Nat.add_comm 1 j] using this
  have l1 : (dX e st).heap.length = L := by simp only [dX]; rw [iB _ _ (by rw [h1]; exact m), h1]
  have l2 : (dX e z).heap.length = L := by simp only [dX]; rw [iB _ _ (by rw [h2]; exact m), h2]
  simp only [cg]
  by_cases q : b ∈ dV e.ws
  · have := hs 0 e rfl q
    simp only [Nat.add_zero] at this
    rw [this]
    split
    · exact ig es s r (k + 1) _ _ C l1 l2 (pe _ _ _ (by omega) (by rw [h1]; exact m) (.inl q)) D
    · exact ig es s r (k + 1) _ _ C h1 h2 h D
  · have M : (dX e st).heap[b]? = st.heap[b]? := mi _ _ (by rw [h1]; exact m) q
    have N : (dX e z).heap[b]? = z.heap[b]? := mi _ _ (by rw [h2]; exact m) q
    split <;> split <;> refine ig es s r (k + 1) _ _ C (by assumption) (by assumption) ?_ D <;> simp only [M, N, h]
theorem gY {t : Nat} : ∀ (es : List Ent) (s r : Nat -> Bool) (k : Nat) (st q : St), st.slots.length = q.slots.length -> st.slots[t]? = q.slots[t]? ->
  (∀ (j : Nat) (e : Ent), es[j]? = some e -> t ∈ e.o.dst.toList -> s (k + j) = r (k + j)) -> (cg es s k st).slots[t]? = (cg es r k q).slots[t]?
 | [], _, _, _, _, _, _, h, _ => h
 | e :: es, s, r, k, st, q, D, h, hs => by
  have z : ∀ (j : Nat) (C : Ent), es[j]? = some C -> t ∈ C.o.dst.toList -> s (k + 1 + j) = r (k + 1 + j) := fun j C E I => by
   have := hs (j + 1) C (by simpa using E) I
   simpa [Nat.add_assoc, Nat.add_comm 1 j] using this
  have l1 : (dX e st).slots.length = st.slots.length := nD _ _ _
  have l2 : (dX e q).slots.length = q.slots.length := nD _ _ _
  simp only [cg]
  by_cases m : t ∈ e.o.dst.toList
  · have := hs 0 e rfl m
    simp only [Nat.add_zero] at this
    rw [this]
    split
    · exact gY es s r (k + 1) _ _ (by omega) (vI D (.inl m)) z
    · exact gY es s r (k + 1) _ _ D h z
  · have J : (dX e st).slots[t]? = st.slots[t]? := sc m
    have M : (dX e q).slots[t]? = q.slots[t]? := sc m
    split <;> split <;> refine gY es s r (k + 1) _ _ (by omega) ?_ z <;> simp only [J, M, h]
theorem jZ {L b : Nat} : ∀ (es : List Ent) (s : Nat -> Bool) (k i : Nat) (st : St) (e : Ent), Below L es -> st.heap.length = L -> es[i]? = some e -> s (k + i) = false -> b ∈ dV e.ws ->
  (∀ (j : Nat) (q : Ent), i < j -> es[j]? = some q -> b ∈ dV q.ws -> s (k + j) = false) ->
  (cg es (fun j => s j || decide (j = k + i)) k st).heap[b]? = (aM (cg es s k st).heap e.ws)[b]?
 | [], _, _, _, _, _, _, _, h, _, _, _ => by simp at h
 | e0 :: es, s, k, 0, st, e, hb, E, h, hs, I, m => by
  simp only [List.getElem?_cons_zero, Option.some.injEq] at h
  subst h
  have C := hb e0 (by simp)
  have D : Below L es := fun x hx => hb x (by simp [hx])
  simp only [Nat.add_zero] at hs
  simp only [cg, Nat.add_zero, hs, Bool.false_eq_true, if_false, decide_true, Bool.false_or, if_true]
  have hlen := (mB es s (k + 1) st D E).1
  have l1 : (dX e0 st).heap.length = L := by simp only [dX]; rw [iB _ _ (by rw [E]; exact C), E]
  have M : ∀ (r : Nat -> Bool) (z : St), z.heap.length = L -> (∀ (j : Nat) (q : Ent), es[j]? = some q -> b ∈ dV q.ws -> r (k + 1 + j) = false) -> (cg es r (k + 1) z).heap[b]? = z.heap[b]? := by
   intro r z J T
   have := ig (b := b) es r (fun _ => false) (k + 1) z z D J J rfl (fun j q h1 h2 => T j q h1 h2)
   rw [this]
   clear this
   have N : ∀ (es : List Ent) (k : Nat) (z : St), cg es (fun _ => false) k z = z := by
    intro es; induction es with
    | nil => intro _ _; rfl
    | cons x es U => intro k z; simp [cg, U]
   rw [N]
  have O : ∀ (j : Nat) (q : Ent), es[j]? = some q -> b ∈ dV q.ws -> s (k + 1 + j) = false := fun j q h1 h2 => by
   have := m (j + 1) q (by omega) (by simpa using h1) h2
   simpa [Nat.add_assoc, Nat.add_comm 1 j] using this
  rw [M _ _ l1 (fun j q h1 h2 => by simp [O j q h1 h2]; omega)]
  refine pe _ _ _ (by omega) (by rw [E]; exact C) (.inl I)
 | e0 :: es, s, k, i + 1, st, e, hb, E, h, hs, I, m => by
  have C := hb e0 (by simp)
  have D : Below L es := fun x hx => hb x (by simp [hx])
  simp only [cg]
  have Y : decide (k = k + (i + 1)) = false := by simp
  simp only [Y, Bool.or_false]
  have l1 : (if s k then dX e0 st else st).heap.length = L := by
   split
   · simp only [dX]; rw [iB _ _ (by rw [E]; exact C), E]
   · exact E
  have := jZ es s (k + 1) i (if s k then dX e0 st else st) e D l1 (by simpa using h) (by rw [<- hs]; congr 1; omega) I (fun j q h0 h1 h2 => by
   have := m (j + 1) q (by omega) (by simpa using h1) h2
   rw [<- this]; congr 1; omega)
  rw [<- this]
  simp only [show k + 1 + i = k + (i + 1) by omega]
theorem r6 : ∀ (es : List Ent) (k : Nat) (j : St), cg es (fun _ => false) k j = j := by
 intro es; induction es with
 | nil => intro _ _; rfl
 | cons x es m => intro k j; simp [cg, m]
theorem lW : ∀ (es : List Ent) (s : Nat -> Bool) (k : Nat) (st : St), (cg es s k st).slots.length = st.slots.length
 | [], _, _, _ => rfl
 | e :: es, s, k, st => by
  simp only [cg]
  split
  · rw [lW es s (k + 1) (dX e st)]; exact nD _ _ _
  · exact lW es s (k + 1) st
theorem mR {t : Nat} : ∀ (es : List Ent) (s : Nat -> Bool) (k i : Nat) (st : St) (e : Ent), es[i]? = some e -> s (k + i) = false -> t ∈ e.o.dst.toList ->
  (∀ (j : Nat) (q : Ent), i < j -> es[j]? = some q -> t ∈ q.o.dst.toList -> s (k + j) = false) ->
  (cg es (fun j => s j || decide (j = k + i)) k st).slots[t]? = (fS (cg es s k st).slots e.o.dst e.v)[t]?
 | [], _, _, _, _, _, h, _, _, _ => by simp at h
 | e0 :: es, s, k, 0, st, e, h, hs, z, m => by
  simp only [List.getElem?_cons_zero, Option.some.injEq] at h
  subst h
  simp only [Nat.add_zero] at hs
  simp only [cg, Nat.add_zero, hs, Bool.false_eq_true, if_false, decide_true, Bool.false_or, if_true]
  have D : ∀ (r : Nat -> Bool) (C : St), (∀ (j : Nat) (q : Ent), es[j]? = some q -> t ∈ q.o.dst.toList -> r (k + 1 + j) = false) -> (cg es r (k + 1) C).slots[t]? = C.slots[t]? := by
   intro r C I
   rw [gY (t := t) es r (fun _ => false) (k + 1) C C rfl rfl (fun j q h1 h2 => I j q h1 h2), r6]
  have E : ∀ (j : Nat) (q : Ent), es[j]? = some q -> t ∈ q.o.dst.toList -> s (k + 1 + j) = false := fun j q h1 h2 => by
   have := m (j + 1) q (by omega) (by simpa using h1) h2
   simpa [Nat.add_assoc, Nat.add_comm 1 j] using this
  rw [D _ _ (fun j q h1 h2 => by simp [E j q h1 h2]; omega)]
  exact vI (by rw [lW]) (.inl z)
 | e0 :: es, s, k, i + 1, st, e, h, hs, z, m => by
  simp only [cg]
  have J : decide (k = k + (i + 1)) = false := by simp
  simp only [J, Bool.or_false]
  have := mR es s (k + 1) i (if s k then dX e0 st else st) e (by simpa using h) (by rw [<- hs]; congr 1; omega) z (fun j q M h1 h2 => by
   have := m (j + 1) q (by omega) (by simpa using h1) h2
   rw [<- this]; congr 1; omega)
  rw [<- this]
  simp only [show k + 1 + i = k + (i + 1) by omega]
end Go.Eng


namespace Go.Eng
open Go Go.RowKit
variable [Dr]
theorem Ad {H : List Blk} {nid n by_ : Nat} {s x : AV} {r : bs} (h : ki H nid n by_ s x = some r) :
  (∃ v ws y, r = .eff v ws /\ (nid, y) ∈ ws) \/ ∀ j, ki H j n by_ s x = some r := by
 unfold ki at h
 split at h
 · cases h
 · rename_i new m q
   split at h
   · split at h
     · cases h; exact .inl ⟨_, _, _, rfl, by simp; rfl⟩
     · cases h
   · split at h
     · rename_i z
       cases h
       refine .inr fun j => ?_
       simp only [ki, q, z]
     · cases h
   · split at h
     · split at h
       · cases h; exact .inl ⟨_, _, _, rfl, by simp; exact .inr rfl⟩
       · cases h
     · cases h
   · cases h
theorem yO {P : Program} {H : List Blk} {nid : Nat} {b : Builtin} {at_ : Array TypeId} {ty : TypeId} {args : List AV} {r : bs} (h : lC P H nid b at_ ty args = some r) :
  (∃ v ws y, r = .eff v ws /\ (nid, y) ∈ ws) \/ ∀ j, lC P H j b at_ ty args = some r := by
 cases b
 case append =>
  match args with
  | [s, x] =>
   simp only [lC] at h ⊢
   cases h1 : at_[0]? with
   | none => simp [h1] at h
   | some t =>
    cases h2 : at_[1]? with
    | none => simp [h1, h2] at h
    | some q =>
     simp only [h1, h2] at h ⊢
     split at h
     · split at h
       · split at h
         · rename_i n z by_ _ _ _ _ _
           rcases Ad h with m | m
           · exact .inl m
           · refine .inr fun j => ?_
             exact m j
         · cases h
       · cases h
     · split at h
       · unfold sR at h
         split at h
         · split at h
           · cases h; exact .inl ⟨_, _, _, rfl, by simp; rfl⟩
           · cases h
         · cases h
       · cases h
     · cases h
  | [] => exact .inr fun _ => h
  | [_] => exact .inr fun _ => h
  | _ :: _ :: _ :: _ => exact .inr fun _ => h
 all_goals (refine .inr fun _ => ?_; rcases args with _ | ⟨x, _ | ⟨y, _ | ⟨z, l⟩⟩⟩ <;> exact h)
theorem vj {P : Program} {ρ : Operand -> AV} {H : List Blk} {nid : Nat} {o : Oper} {r : bs} (h : evalOp P ρ H nid o = some r) :
  (∃ v ws x, r = .eff v ws /\ (nid, x) ∈ ws) \/ ∀ j, evalOp P ρ H j o = some r := by
 unfold evalOp at h
 unfold evalOp
 cases m : o.op <;> simp only [m, qJ, xh, jf, jM, tp, lE] at h ⊢
 case alloc t =>
  split at h
  · split at h
    · cases h; exact .inl ⟨_, _, _, rfl, by simp; rfl⟩
    · cases h
  · cases h
 case box t x =>
  split at h
  · cases h; exact .inl ⟨_, _, _, rfl, by simp; rfl⟩
  · cases h
 case buildSlice t n ps =>
  split at h
  · split at h
    · split at h
      · split at h
        · cases h; exact .inl ⟨_, _, _, rfl, by simp; rfl⟩
        · cases h
      · cases h
    · cases h
  · cases h
 case makeSlice t l c =>
  split at h
  · split at h
    · split at h
      · cases h; exact .inl ⟨_, _, _, rfl, by simp; rfl⟩
      · cases h
    · cases h
  · cases h
 case makeMap t r =>
  unfold oC at h
  split at h
  · cases h; exact .inl ⟨_, _, _, rfl, by simp; rfl⟩
  · split at h
    · cases h; exact .inl ⟨_, _, _, rfl, by simp; rfl⟩
    · cases h
 case range t x =>
  unfold my at h
  split at h
  · cases h; exact .inl ⟨_, _, _, rfl, by simp; rfl⟩
  · cases h
 case makeFunc fn q cs => cases fn <;> first | exact .inr fun _ => h | exact .inr fun _ => by simpa using h
 case slice t x z hi mx => cases mx <;> first | exact .inr fun _ => h | exact .inr fun _ => by simpa using h
 case call c =>
  cases hc : c.callee <;> simp only [hc] at h ⊢
  case value f => exact .inr fun _ => h
  case builtin b => exact yO h
  case invoke => cases h
 all_goals exact .inr fun _ => h
def pad (L : Nat) (H : List Blk) : List Blk := H ++ gN (L - H.length)
theorem pq {L : Nat} {H : List Blk} (h : H.length <= L) : (pad L H).length = L := by simp [pad, gN]; omega
theorem yg {L b : Nat} {H : List Blk} (h : b < H.length) : (pad L H)[b]? = H[b]? := by simp only [pad]; rw [List.getElem?_append_left h]
theorem Dz {H : List Blk} : pad H.length H = H := by simp [pad, gN]
theorem CB {L n : Nat} {H : List Blk} (h : H.length + n <= L) : pad L (H ++ gN n) = pad L H := by
 simp only [pad, gN, List.length_append, List.length_replicate, List.append_assoc, List.replicate_append_replicate]
 rw [show n + (L - (H.length + n)) = L - H.length by omega]
theorem EC {L i : Nat} {H : List Blk} {x : Blk} (hi : i <= H.length) (C : (upd H i x).length <= L) : pad L (upd H i x) = upd (pad L H) i x := by
 have z := dm (x := x) hi
 by_cases he : i = H.length
 · subst he
   rw [if_pos rfl] at z
   have j : H.length < (pad L H).length := by rw [pq (by omega)]; omega
   unfold upd
   rw [if_neg (by omega), if_pos j]
   simp only [pad, gN, List.length_append, List.length_singleton]
   rw [List.set_append_right _ _ (Nat.le_refl _), Nat.sub_self]
   obtain ⟨m, hm⟩ : ∃ m, L - H.length = m + 1 := ⟨L - H.length - 1, by omega⟩
   rw [hm, show L - (H.length + 1) = m by omega, List.replicate_succ, List.set_cons_zero]
   simp
 · have j : i < H.length := by omega
   rw [if_neg he] at z
   have q : i < (pad L H).length := by rw [pq (by omega)]; omega
   unfold upd
   rw [if_pos j, if_pos q]
   simp only [pad, List.length_set]
   rw [List.set_append_left _ _ j]
theorem sf {L : Nat} : ∀ (ws : List (Nat × Blk)) (H : List Blk), (∀ i ∈ dV ws, i <= H.length) -> (aM H ws).length <= L ->
  pad L (aM H ws) = aM (pad L H) ws /\ H.length <= (aM H ws).length /\ ∀ i ∈ dV ws, i < (aM H ws).length
 | [], H, _, _ => ⟨rfl, Nat.le_refl _, by simp [dV]⟩
 | (i, x) :: ws, H, hi, D => by
  have q : i <= H.length := hi i (by simp [dV])
  have E := dm (x := x) q
  have z : H.length <= (upd H i x).length := by rw [E]; split <;> omega
  have C : i < (upd H i x).length := by rw [E]; split <;> omega
  obtain ⟨h1, h2, I⟩ := sf ws (upd H i x) (fun j m => Nat.le_trans (hi j (by simp [dV] at m ⊢; exact .inr m)) z) D
  refine ⟨?_, Nat.le_trans z h2, ?_⟩
  · rw [aM, h1, aM, EC q (Nat.le_trans h2 D)]
  · intro j m
    simp only [dV, List.map_cons, List.mem_cons] at m
    rcases m with rfl | m
    · exact Nat.lt_of_lt_of_le C h2
    · exact I j m
theorem oK {len : Nat} {e : Ent} (h : me len e = true) : (∀ b ∈ e.rd, b < len) /\ (∀ i ∈ dV e.ws, i <= len + e.n /\ (0 < e.n -> i < len + e.n)) /\ (∀ j, j < e.n -> len + j ∈ dV e.ws) := by
 simp only [me, Bool.and_eq_true, List.all_eq_true, decide_eq_true_eq] at h
 obtain ⟨h1, h2⟩ := h
 refine ⟨h1, ?_, ?_⟩
 · intro i hi
   simp only [dV, List.mem_map] at hi
   obtain ⟨p, hp, rfl⟩ := hi
   cases m : e.n with
   | zero => simp only [m, List.all_eq_true, decide_eq_true_eq] at h2; exact ⟨by have := h2 p hp; omega, by omega⟩
   | succ n => simp only [m, Bool.and_eq_true, List.all_eq_true, decide_eq_true_eq] at h2; have := h2.1 p hp; omega
 · intro j q
   cases m : e.n with
   | zero => omega
   | succ n =>
    simp only [m, Bool.and_eq_true, List.all_eq_true, decide_eq_true_eq] at h2
    have := h2.2 j (by simp; omega)
    simpa [dV] using this
theorem CD {P : Program} {call : dz} {ops : List Oper} {o : Oper} {st st1 : St} {e : Ent} {L : Nat} (h : jr P call ops o st = some (st1, some e)) (m : me st.heap.length e = true) (q : st1.heap.length <= L) :
  e.o = o /\ e.nid = st.heap.length /\ st.heap.length <= st1.heap.length /\ (∀ i ∈ dV e.ws, i < st1.heap.length) /\ dX e ⟨st.slots, pad L st.heap⟩ = ⟨st1.slots, pad L st1.heap⟩ := by
 obtain ⟨_, j, _⟩ := oK m
 unfold jr at h
 split at h
 · split at h
   · rename_i v C
     rw [dY] at h; cases h
     exact ⟨rfl, rfl, Nat.le_refl _, by simp [dV], rfl⟩
   · rename_i v ws C
     rw [dY] at h; cases h
     obtain ⟨h1, h2, z⟩ := sf (L := L) ws st.heap (fun i hi => by have := (j i hi).1; simpa using this) q
     exact ⟨rfl, rfl, h2, z, by simp only [dX, h1]⟩
   · split at h
     · rename_i f args _ v ws rd n hc
       rw [dY] at h; cases h
       simp only at j q
       obtain ⟨h1, h2, z⟩ := sf (L := L) ws (st.heap ++ gN n) (fun i hi => by have := (j i hi).1; simp [gN]; omega) q
       have hd : (st.heap ++ gN n).length = st.heap.length + n := by simp [gN]
       have hle : st.heap.length + n <= L := by omega
       refine ⟨rfl, rfl, by simp only; omega, z, ?_⟩
       simp only [dX]
       rw [h1, CB hle]
     · rw [dY] at h; cases h
     · cases h
   · cases h
 · rw [dY] at h; cases h
   exact ⟨rfl, rfl, Nat.le_refl _, by simp [dV], rfl⟩
 · cases h
theorem kR : ∀ (es : List Ent) (k j : Nat) (st : St), cg es (fun _ => true) k st = cg es (fun _ => true) j st
 | [], _, _, _ => rfl
 | e :: es, k, j, st => by simp only [cg, if_true]; exact kR es _ _ _
theorem uo {P : Program} {call : dz} {ops : List Oper} {L : Nat} : ∀ (rest : List Oper) (st st' : St) (es : List Ent), fq P call ops rest st = some (st', es) -> st'.heap.length <= L ->
  st.heap.length <= st'.heap.length /\ es.length = rest.length /\ Below st'.heap.length es /\ cg es (fun _ => true) 0 ⟨st.slots, pad L st.heap⟩ = ⟨st'.slots, pad L st'.heap⟩ /\
  ∀ (j : Nat) (e : Ent), es[j]? = some e -> ∃ o m st1, rest[j]? = some o /\ jr P call ops o m = some (st1, some e) /\ me m.heap.length e = true /\ e.o = o /\ e.nid = m.heap.length /\ st.heap.length <= m.heap.length /\
   m.heap.length <= L /\ cg (es.take j) (fun _ => true) 0 ⟨st.slots, pad L st.heap⟩ = ⟨m.slots, pad L m.heap⟩
 | [], st, st', es, h, E => by
  cases h
  exact ⟨Nat.le_refl _, rfl, by simp [Below], rfl, by simp⟩
 | o :: rest, st, st', es, h, E => by
  simp only [fq] at h
  split at h
  · rename_i st1 e h1
    split at h
    · rename_i J q z h2
      cases h
      obtain ⟨i1, i2, i3, i4, i5⟩ := uo rest st1 st' q h2 E
      obtain ⟨M, N, p3, O, I⟩ := CD (L := L) h1 z (by omega)
      refine ⟨by omega, by simp [i2], ?_, ?_, ?_⟩
      · intro x hx i hi
        rcases List.mem_cons.1 hx with rfl | hx
        · exact Nat.lt_of_lt_of_le (O i hi) i1
        · exact i3 x hx i hi
      · simp only [cg, if_true]
        rw [I, kR q (0 + 1) 0, i4]
      · intro j x C
        cases j with
        | zero =>
         simp at C; subst C
         exact ⟨o, st, st1, rfl, h1, z, M, N, Nat.le_refl _, by omega, rfl⟩
        | succ j =>
         obtain ⟨o', m, D, g1, T, U, Y, g5, g6, g7, g8⟩ := i5 j x (by simpa using C)
         refine ⟨o', m, D, by simpa using g1, T, U, Y, g5, by omega, g7, ?_⟩
         simp only [List.take_succ_cons, cg, if_true]
         rw [I, kR _ (0 + 1) 0, g8]
    · cases h
  · cases h
theorem rR : ∀ (es : List Ent) (i k : Nat) (st : St), cg es (fun j => decide (j < k + i)) k st = cg (es.take i) (fun _ => true) k st
 | [], i, k, st => by simp [cg]
 | e :: es, 0, k, st => by
  have : ∀ (es : List Ent) (m : Nat) (st : St), k <= m -> cg es (fun j => decide (j < k + 0)) m st = st := by
   intro es
   induction es with
   | nil => intro _ _ _; rfl
   | cons x es q => intro m st hm; simp only [cg]; rw [if_neg (by simp; omega)]; exact q (m + 1) st (by omega)
  rw [this _ k st (Nat.le_refl _)]; rfl
 | e :: es, i + 1, k, st => by
  simp only [cg, List.take_succ_cons, if_true]
  rw [if_pos (by simp)]
  have := rR es i (k + 1) (dX e st)
  rw [<- this]
  congr 1
  funext j
  congr 1
  simp only [eq_iff_iff]; omega
end Go.Eng


namespace Go.Eng
open Go Go.RowKit
variable [Dr]
theorem oH (acc : List Nat) (i : Nat) : ∀ (l : List Edge) (s : Nat), (l.foldl (fun s e => if Region.binds .any e then s ||| (2 ^ e.on ||| acc.getD e.on 0) else s) s).testBit i = true ->
  s.testBit i = true \/ ∃ e ∈ l, Region.binds .any e = true /\ (e.on = i \/ (acc.getD e.on 0).testBit i = true)
 | [], _, h => .inl h
 | e :: l, s, h => by
  simp only [List.foldl_cons] at h
  rcases oH acc i l _ h with h | ⟨j, h1, h2⟩
  · split at h
    · rename_i hb
      simp only [Nat.testBit_or, Bool.or_eq_true] at h
      rcases h with h | h | h
      · exact .inl h
      · refine .inr ⟨e, by simp, hb, .inl ?_⟩
        rw [Nat.testBit_two_pow] at h
        simpa using h
      · exact .inr ⟨e, by simp, hb, .inr h⟩
    · exact .inl h
  · exact .inr ⟨j, by simp [h1], h2⟩
theorem qn : ∀ (l : List Oper) (acc : List Nat) (j : Nat), j < acc.length -> (rQ acc l)[j]? = acc[j]?
 | [], _, _, _ => rfl
 | o :: l, acc, j, h => by
  rw [rQ, qn l _ j (by simp; omega), List.getElem?_append_left h]
theorem zH : ∀ (l : List Oper) (acc : List Nat) (j : Nat) (o : Oper), l[j]? = some o -> ∃ m, (rQ acc l)[acc.length + j]? = some (u5 m o) /\ m.length = acc.length + j /\ ∀ k, k < m.length -> (rQ acc l)[k]? = m[k]?
 | [], _, _, _, h => by simp at h
 | o :: l, acc, 0, o', h => by
  simp at h; subst h
  refine ⟨acc, ?_, rfl, fun k q => qn (o :: l) acc k q⟩
  rw [rQ, qn l _ _ (by simp)]
  simp
 | o :: l, acc, j + 1, o', h => by
  obtain ⟨m, h1, h2, z⟩ := zH l (acc ++ [u5 acc o]) j o' (by simpa using h)
  refine ⟨m, ?_, by simp at h2; omega, fun k q => by rw [rQ]; exact z k q⟩
  rw [rQ]
  simpa [Nat.add_assoc, Nat.add_comm 1 j] using h1
theorem p5 : ∀ (l : List Oper) (k j : Nat) (o : Oper), po l k = true -> l[j]? = some o -> ∀ e ∈ o.after.toList, Region.binds .any e = true -> e.on < k + j
 | [], _, _, _, _, h => by simp at h
 | o :: l, k, 0, o', m, h => by
  simp at h; subst h
  simp only [po, Bool.and_eq_true, List.all_eq_true] at m
  intro e he hb
  have := m.1 e he
  simpa [hb] using this
 | o :: l, k, j + 1, o', m, h => by
  simp only [po, Bool.and_eq_true] at m
  intro e he hb
  have := p5 l (k + 1) j o' m.2 (by simpa using h) e he hb
  omega
theorem qi {ops : List Oper} (I : po ops 0 = true) {s : Nat -> Bool} (J : ∀ (j : Nat) (o : Oper), ops[j]? = some o -> s j = true -> ∀ e ∈ o.after.toList, Region.binds .any e = true -> s e.on = true) :
  ∀ (j : Nat) (o : Oper), ops[j]? = some o -> (∀ e ∈ o.after.toList, Region.binds .any e = true -> s e.on = true) -> ∀ i, ((rQ [] ops).getD j 0).testBit i = true -> s i = true := by
 intro j
 induction j using Nat.strongRecOn with
 | _ j O =>
  intro o M he i hi
  obtain ⟨z, h1, h2, T⟩ := zH ops [] j o M
  simp only [List.length_nil, Nat.zero_add] at h1 h2
  rw [List.getD_eq_getElem?_getD, h1] at hi
  simp only [Option.getD_some, u5] at hi
  rcases oH z i _ _ hi with h | ⟨e, C, D, m⟩
  · simp at h
  · have E := he e C D
    rcases m with rfl | m
    · exact E
    · have N : e.on < j := by have := p5 ops 0 j o I M e C D; omega
      cases q : ops[e.on]? with
      | none =>
       have := List.getElem?_eq_none_iff.1 q
       have := (List.getElem?_eq_some_iff.1 M).1
       omega
      | some o' =>
       refine O e.on N o' q (J e.on o' q E) i ?_
       rw [List.getD_eq_getElem?_getD, T e.on (by omega), <- List.getD_eq_getElem?_getD]
       exact m
theorem sT {ops : List Oper} {b : Ent} {m : Nat} : ∀ (l : List Ent) (k i : Nat) (a : Ent), qj ops b m l k = true -> l[i]? = some a -> (m.testBit (k + i) = true \/ zF ops a b = true \/ rm ops a b (l.drop (i + 1)) = true) /\ ∀ p ∈ a.ws, p.1 < b.nid
 | [], _, _, _, _, h => by simp at h
 | x :: l, k, 0, a, j, h => by
  simp at h; subst h
  simp only [qj, Bool.and_eq_true, Bool.or_eq_true, List.all_eq_true, decide_eq_true_eq] at j
  exact ⟨by simpa [or_assoc] using j.1.1, j.1.2⟩
 | x :: l, k, i + 1, a, j, h => by
  simp only [qj, Bool.and_eq_true] at j
  have := sT l (k + 1) i a j.2 (by simpa using h)
  rwa [show k + 1 + i = k + (i + 1) by omega] at this
theorem nC {ops : List Oper} {m : List Nat} {all : List Ent} : ∀ (l : List Ent) (k j i : Nat) (a b : Ent), nu ops m all l k = true -> l[j]? = some b -> i < k + j -> all[i]? = some a ->
  ((m.getD (k + j) 0).testBit i = true \/ zF ops a b = true \/ rm ops a b ((all.take (k + j)).drop (i + 1)) = true) /\ ∀ p ∈ a.ws, p.1 < b.nid
 | [], _, _, _, _, _, _, h, _, _ => by simp at h
 | x :: l, k, 0, i, a, b, q, h, hi, ha => by
  simp at h; subst h
  simp only [nu, Bool.and_eq_true] at q
  have := sT _ 0 i a q.1 (by rw [List.getElem?_take, if_pos (by omega)]; exact ha)
  simpa using this
 | x :: l, k, j + 1, i, a, b, q, h, hi, ha => by
  simp only [nu, Bool.and_eq_true] at q
  have := nC l (k + 1) j i a b q.2 (by simpa using h) (by omega) ha
  rwa [show k + 1 + j = k + (j + 1) by omega] at this
theorem jC {l k : List Nat} (h : se l k = true) {x : Nat} (hx : x ∈ l) : x ∉ k := by
 simp only [se, List.all_eq_true, Bool.not_eq_true', List.contains_eq_mem] at h
 have := h x hx
 simpa using this
theorem vU {l : List Operand} {t : Tmp} (h : Operand.tmp t ∈ l) : t ∈ AB l := by
 simp only [AB, List.mem_filterMap]
 exact ⟨_, h, rfl⟩
theorem xE {s r : List AV} {x : Operand} (h : ∀ t, x = .tmp t -> s[t]? = r[t]?) : evA s x = evA r x := by
 cases x with
 | tmp t => simp only [evA, th, List.getD_eq_getElem?_getD, h t rfl]
 | _ => rfl
theorem wJ {ops : List Oper} {o : Oper} {s r : List AV} (h : ∀ t ∈ dQ ops o, s[t]? = r[t]?) : cS ops o s = cS ops o r := by
 unfold cS
 cases m : o.guard with
 | none => rfl
 | some g =>
  obtain ⟨j, want⟩ := g
  simp only
  cases q : ops[j]? with
  | none => rfl
  | some oj =>
   simp only
   cases hd : oj.dst with
   | none => rfl
   | some d =>
    simp only
    have : s[d]? = r[d]? := h d (by simp [dQ, m, q, hd])
    simp only [th, List.getD_eq_getElem?_getD, this]
theorem AH {P : Program} (U : rB P) {call : dz} (Y : fP P call) {ops : Array Oper} {o : Oper} {z st1 D : St} {e : Ent} (h : jr P call ops.toList o z = some (st1, some e)) (a4 : me z.heap.length e = true)
  (hle : z.heap.length + e.n <= D.heap.length) (hs : ∀ t ∈ dQ ops.toList o, D.slots[t]? = z.slots[t]?) (hh : (∀ b ∈ e.rd, D.heap[b]? = z.heap[b]?) \/ ((∃ t m k, o.op = .lookup t m k false) /\ ∀ r, evalOp P (evA z.slots) z.heap z.heap.length o = some r -> evalOp P (evA z.slots) D.heap z.heap.length o = some r))
  {out : Nat -> Prop} {B : Nat -> Prop} {w : World} {π : List (Option PB)} {a : Act} (C : Rep out B w π D a) (E : ∀ b ∈ dV e.ws, z.heap.length <= b -> ∀ q, π[b]? ≠ some (some q))
  {K : Act -> World -> Prop} {Q : Exit -> Act -> World -> Prop}
  (hK : ∀ a' w' π', Rep out B w' π' (dX e D) a' -> Ext B w w' (aJ out π D.heap) (aJ out π' (dX e D).heap) π π' -> (∀ j, j ∉ dV e.ws -> π'[j]? = π[j]?) -> K a' w') :
  if Region.wanted o (yielded ops a.tmps) then o.wp P a w K Q \/ (o.asks P a w /\ LetsOut Q) else K (a.put o.dst undef) w := by
 obtain ⟨a5, a0, T⟩ := oK a4
 have I : ∀ {ws : List (Nat × Blk)} {π' : List (Option PB)}, (∀ j, (∀ b, (j, b) ∉ ws) -> π'[j]? = π[j]?) -> ∀ j, j ∉ dV ws -> π'[j]? = π[j]? := by
  intro ws π' hk j hj
  refine hk j fun b hb => hj ?_
  simp only [dV, List.mem_map]
  exact ⟨_, hb, rfl⟩
 have a1 : cS ops.toList o D.slots = cS ops.toList o z.slots := wJ hs
 have a2 : ∀ x ∈ o.op.operands.toList, evA z.slots x = evA D.slots x := by
  intro x hx
  refine (xE fun t ht => ?_).symm
  subst ht
  exact hs t (by simp only [dQ, List.mem_append]; exact .inl (vU hx))
 unfold jr at h
 split at h
 · rename_i hw
   rw [<- a1] at hw
   rw [if_pos (kZ C.slots hw)]
   refine .inl ?_
   unfold Oper.wp
   have M : ∀ r, evalOp P (evA z.slots) z.heap z.heap.length o = some r -> ((∀ b ∈ oO z.heap (evA z.slots) o, D.heap[b]? = z.heap[b]?) \/ ((∃ t m k, o.op = .lookup t m k false) /\ ∀ r, evalOp P (evA z.slots) z.heap z.heap.length o = some r -> evalOp P (evA z.slots) D.heap z.heap.length o = some r)) -> evalOp P (evA D.slots) D.heap z.heap.length o = some r := by
    intro r hr hb
    rw [<- wo a2]
    rcases hb with hb | ⟨_, hb⟩
    · rw [<- hr]
      exact (zZ fun b hm => (hb b hm).symm).symm
    · exact hb r hr
   split at h
   · rename_i v O
     rw [dY] at h
     cases h
     have J := M _ O hh
     rcases vj J with ⟨_, _, _, e1, _⟩ | N
     · cases e1
     obtain ⟨nx, u, h1, h2, h3⟩ := jj U C.inv (Nat.le_refl _) (q8 C.inv) (jd C.slots) (N D.heap.length)
     rw [h1]
     rcases h2 with rfl | ⟨rfl, rfl⟩
     · exact hK _ _ π (Rep.ext C.defers C.slots (Ext.refl _ _ _) C.inv h3) (Ext.refl _ _ _) fun _ _ => rfl
     · exact hK _ _ π (Rep.ext C.defers C.slots (Ext.refl _ _ _) C.inv h3) (Ext.refl _ _ _) fun _ _ => rfl
   · rename_i v ws O
     rw [dY] at h
     cases h
     have J := M _ O hh
     have : ∃ n, n <= D.heap.length /\ (∀ q, π[n]? ≠ some (some q)) /\ evalOp P (evA D.slots) D.heap n o = some (.eff v ws) := by
      rcases vj J with ⟨_, _, y, e1, h0⟩ | N
      · cases e1
        refine ⟨z.heap.length, by simp only at hle; omega, E _ ?_ (Nat.le_refl _), J⟩
        simp only [dV, List.mem_map]
        exact ⟨_, h0, rfl⟩
      · exact ⟨D.heap.length, Nat.le_refl _, q8 C.inv, N _⟩
     obtain ⟨n, hn, hf, a3⟩ := this
     obtain ⟨nx, u, w', π', h1, h2, h3, h4, h5, h6⟩ := jj U C.inv hn hf (jd C.slots) a3
     rw [h1]
     rcases h2 with rfl | ⟨rfl, rfl⟩
     · exact hK _ _ π' (Rep.ext C.defers C.slots h3 h4 h5) h3 (I h6)
     · exact hK _ _ π' (Rep.ext C.defers C.slots h3 h4 h5) h3 (I h6)
   · rename_i f args O
     have J : evalOp P (evA D.slots) D.heap D.heap.length o = some (.call f args) := by
      have e1 : evalOp P (evA D.slots) z.heap z.heap.length o = some (.call f args) := by rw [<- wo a2]; exact O
      unfold evalOp at e1 ⊢
      cases ho : o.op <;> simp only [ho] at e1 ⊢
      case call c =>
       unfold tp at e1 ⊢
       cases hc : c.callee <;> simp only [hc] at e1 ⊢
       case value g => exact e1
       case builtin b =>
        exfalso
        unfold lC at e1
        split at e1
        · split at e1
          · unfold bs.ofP at e1; split at e1 <;> cases e1
          · cases e1
        · split at e1
          · split at e1
            · split at e1
              · split at e1
                · unfold ki at e1
                  split at e1
                  · cases e1
                  · split at e1
                    · split at e1 <;> cases e1
                    · split at e1 <;> cases e1
                    · split at e1
                      · split at e1 <;> cases e1
                      · cases e1
                    · cases e1
                · cases e1
              · cases e1
            · split at e1
              · unfold sR at e1; (repeat' split at e1) <;> cases e1
              · cases e1
            · cases e1
          · cases e1
        · split at e1
          · split at e1
            · split at e1
              · unfold vR at e1; (repeat' split at e1) <;> cases e1
              · cases e1
            · cases e1
          · cases e1
        · split at e1
          · split at e1
            · split at e1
              · unfold rW at e1; (repeat' split at e1) <;> cases e1
              · cases e1
            · cases e1
          · cases e1
        · split at e1
          · split at e1 <;> cases e1
          · cases e1
        · split at e1
          · split at e1 <;> cases e1
          · cases e1
        · split at e1
          · split at e1 <;> cases e1
          · cases e1
        · cases e1
       case invoke => cases e1
      case makeFunc fn fs cs => exfalso; cases fn <;> simp [lE] at e1
      case slice t x lo hi mx =>
       exfalso
       cases mx with
       | some m => simp [lE] at e1
       | none => simp only [sB, bs.ofP] at e1; (repeat' split at e1) <;> cases e1
      case makeMap t r =>
       exfalso; simp only [lE, oC] at e1; (repeat' split at e1) <;> cases e1
      case lookup t x ix ok =>
       exfalso; simp only [lE, bs.ofP] at e1; (repeat' split at e1) <;> cases e1
      case mapUpdate t m k x =>
       exfalso; simp only [lE, gO] at e1; (repeat' split at e1) <;> cases e1
      case insert t m k x =>
       exfalso; simp only [lE, gO] at e1; (repeat' split at e1) <;> cases e1
      case mapEntry t m k =>
       exfalso; simp only [lE, lB] at e1; (repeat' split at e1) <;> cases e1
      case entryStore t m k x =>
       exfalso; simp only [lE, km] at e1; (repeat' split at e1) <;> cases e1
      case range t x =>
       exfalso; simp only [lE, my] at e1; (repeat' split at e1) <;> cases e1
      case entry it =>
       exfalso; simp only [lE, hU] at e1; (repeat' split at e1) <;> cases e1
      all_goals exfalso
      all_goals try simp only [lE, vO, qJ, xh, sC, jf, tb, nk, og, jM, bs.ofP, DZ] at e1
      all_goals (repeat' split at e1) <;> first | cases e1 | skip
     obtain ⟨vs, h1, h2⟩ := jj U C.inv (Nat.le_refl _) (q8 C.inv) (jd C.slots) J
     rw [h1]
     simp only [Oper.upon]
     split at h
     · rename_i v ws rd n hc
       rw [dY] at h
       cases h
       simp only at T a0 hle E
       have hh := hh.resolve_right fun hx => by
        obtain ⟨⟨t, m, k, ht⟩, _⟩ := hx
        unfold evalOp at O
        rw [ht] at O
        simp only [lE, bs.ofP] at O
        (repeat' split at O) <;> cases O
       have := Y _ _ _ _ hc D.heap hle (fun b hb _ => hh b hb) out B w π vs.toList C.inv (fun j g1 g2 => E j (by
         have := T (j - z.heap.length) (by omega)
         rwa [show z.heap.length + (j - z.heap.length) = j by omega] at this) g1) h2
       rw [Array.toArray_toList] at this
       refine this.mono ?_
       rintro e a6 ⟨u, π', rfl, g1, g2, g3, g4⟩
       exact hK _ _ π' (Rep.ext C.defers C.slots g1 g2 g3) g1 (I g4)
     · rw [dY] at h; cases h
     · cases h
   · cases h
 · rename_i hw
   rw [<- a1] at hw
   rw [kZ C.slots hw]
   simp only [Bool.false_eq_true, if_false]
   rw [dY] at h
   cases h
   exact hK _ _ π (Rep.ext C.defers C.slots (Ext.refl _ _ _) C.inv rfl) (Ext.refl _ _ _) fun _ _ => rfl
 · cases h
theorem getD_set_true {l : Array Bool} {i j : Nat} (hi : i < l.size) : (l.setIfInBounds i true).getD j false = (l.getD j false || decide (j = i)) := by
 simp only [Array.getD_eq_getD_getElem?, Array.getElem?_setIfInBounds]
 by_cases h : i = j
 · subst h; simp [hi]
 · have m : ¬ j = i := fun e => h e.symm
   simp [h, m]
theorem getD_none {n : Nat} (i : Nat) : (Array.replicate n false).getD i false = false := by
 rw [Array.getD_eq_getD_getElem?, Array.getElem?_replicate]
 split <;> rfl
theorem Fa {l : Array Bool} {i : Nat} (h : l.getD i true = false) : i < l.size /\ l.getD i false = false := by
 rw [Array.getD_eq_getD_getElem?] at h ⊢
 cases j : l[i]? with
 | none => rw [j] at h; simp at h
 | some x => rw [j] at h; exact ⟨(Array.getElem?_eq_some_iff.1 j).1, by simpa using h⟩
theorem xi {ops : List Oper} {a b : Ent} {j : List Ent} (h : rm ops a b j = true) : a.ws = [] /\ se a.o.dst.toList (dQ ops b.o) = true /\ se a.o.dst.toList b.o.dst.toList = true /\ se b.o.dst.toList (dQ ops a.o) = true := by
 unfold rm at h
 split at h
 · simp only [Bool.and_eq_true] at h
   obtain ⟨⟨⟨⟨⟨_, m⟩, q⟩, z⟩, C⟩, _⟩ := h
   exact ⟨List.isEmpty_iff.1 m, q, z, C⟩
 · cases h
theorem sI {ops : List Oper} {es : List Ent} (z : nu ops (rQ [] ops) es es 0 = true) {i j : Nat} {a b : Ent} (E : i < j) (ha : es[i]? = some a) (hb : es[j]? = some b)
  (hm : (∃ x, x ∈ dV a.ws /\ (x ∈ b.rd \/ x ∈ dV b.ws)) \/ (∃ t, t ∈ a.o.dst.toList /\ (t ∈ dQ ops b.o \/ t ∈ b.o.dst.toList)) \/ (∃ t, t ∈ b.o.dst.toList /\ t ∈ dQ ops a.o)) :
  ((rQ [] ops).getD j 0).testBit i = true := by
 have := (nC es 0 j i a b z hb (by omega) ha).1
 rw [Nat.zero_add] at this
 rcases this with h | h | h
 · exact h
 · exfalso
   simp only [zF, Bool.and_eq_true] at h
   obtain ⟨⟨⟨⟨⟨h1, h2⟩, D⟩, I⟩, J⟩, N⟩ := h
   rcases hm with ⟨x, hx, C | C⟩ | ⟨t, q, m | m⟩ | ⟨t, q, m⟩
   · exact jC I hx C
   · exact jC J hx C
   · exact jC h1 q m
   · exact jC h2 q m
   · exact jC D q m
 · exfalso
   obtain ⟨M, h1, h2, D⟩ := xi h
   rcases hm with ⟨x, hx, _⟩ | ⟨t, q, m | m⟩ | ⟨t, q, m⟩
   · rw [M] at hx; simp [dV] at hx
   · exact jC h1 q m
   · exact jC h2 q m
   · exact jC D q m
theorem DF {ops : List Oper} {es : List Ent} (m : nu ops (rQ [] ops) es es 0 = true) {i j : Nat} {a b : Ent} (q : i < j) (ha : es[i]? = some a) (hb : es[j]? = some b) {x : Nat} (hx : x ∈ dV b.ws) (z : x ∈ a.rd) :
  ((rQ [] ops).getD j 0).testBit i = true \/ rm ops a b ((es.take j).drop (i + 1)) = true := by
 have := (nC es 0 j i a b m hb (by omega) ha).1
 rw [Nat.zero_add] at this
 rcases this with h | h | h
 · exact .inl h
 · exfalso
   simp only [zF, Bool.and_eq_true] at h
   exact jC h.2 hx z
 · exact .inr h
theorem xr : ∀ (l : List Value), sZ l = true -> ph l l = some true
 | [], _ => rfl
 | .int k x :: l, h => by
  have j : IntKind.rO k k = true \/ IntKind.rO k k = false := by cases IntKind.rO k k <;> simp
  have j : IntKind.rO k k = true := by cases k <;> first | rfl | (simp [sZ] at h; done)
  simp only [ph, j, xr l (by simpa [sZ] using h)]
  simp
theorem Dq {P : Program} {t : TypeId} {k : Value} (h : iI P t k = true) : kEq k k = some true := by
 unfold iI at h
 split at h
 · rename_i q j n hu
   have m : IntKind.rO j j = true := by
    have := IntKind.mz h
    subst this; exact h
   simp [kEq, m]
 · simp [kEq]
 · rename_i d a _
   have : sZ a.toList = true := by
    unfold mw at h
    split at h
    · simp only [Bool.and_eq_true] at h; exact h.2
    · simp only [Bool.and_eq_true] at h; exact h.1.2
    · cases h
   simp only [kEq, xr _ this]
 · cases h
theorem Gw {k v : Value} (h : kEq k v = some true) : v = k := by
 unfold kEq at h
 split at h
 · rename_i a b
   obtain ⟨h1, _⟩ := tl _ _ h
   rw [Array.toList_inj.1 h1]
 · split at h
   · rename_i hb
     have e := IntKind.mz hb
     subst e
     simp only [Option.some.injEq, beq_iff_eq] at h
     rw [h]
   · cases h
 · simp only [Option.some.injEq, beq_iff_eq] at h
   rw [h]
 · cases h
theorem uq {k : Value} : ∀ (es : List (Value × AV)) (i0 i : Nat) (A : AV), jX k es i0 = some (some (i, A)) -> ∃ j, i = i0 + j /\ es[j]? = some (k, A)
 | [], _, _, _, h => by simp [jX] at h
 | (k', q) :: es, i0, i, A, h => by
  simp only [jX] at h
  split at h
  · rename_i m
    cases h
    exact ⟨0, rfl, by rw [Gw m]; rfl⟩
  · obtain ⟨j, h1, h2⟩ := uq es (i0 + 1) i A h
    exact ⟨j + 1, by omega, by simpa using h2⟩
  · cases h
theorem wI {k : Value} {z : AV} (j : kEq k k = some true) : ∀ (es : List (Value × AV)) (i0 : Nat), jX k es i0 = some none -> jX k (es ++ [(k, z)]) i0 = some (some (i0 + es.length, z))
 | [], i0, _ => by simp [jX, j]
 | (k', m) :: es, i0, h => by
  simp only [jX] at h
  simp only [List.cons_append, jX]
  split at h
  · cases h
  · rw [wI j es (i0 + 1) h]
    congr 3
    simp; omega
  · cases h
theorem y0 {P : Program} {H H' : List Blk} {t : TypeId} {x k : AV} {A : AV} (C : eN P H t x k false = some A) {b : Nat} (hx : x = .mp b) {H1 : List Blk} (h1 : H1[b]? = H[b]?) {v : AV} {ws : List (Nat × Blk)} (he : lB P H1 t x k = some (.eff v ws)) :
  ∃ X, ws = [(b, X)] /\ (H'[b]? = some X -> eN P H' t x k false = some A) := by
 subst hx
 unfold lB at he
 unfold eN at C
 have hm : jk H1 (.mp b) = jk H (.mp b) := by simp only [jk, h1]
 rw [hm] at he
 split at C
 · rename_i kt e b' es kv hu m D
   obtain ⟨a0, rfl⟩ : H[b]? = some (.map es) /\ b' = b := by
    simp only [jk] at m
    split at m
    · rename_i es' O; cases m; exact ⟨O, rfl⟩
    · cases m
   rw [hu, m, D] at he
   simp only at he
   split at C
   · rename_i z i U E J I
     rw [E, J, I] at he
     simp only at he
     cases he
     refine ⟨_, rfl, fun N => ?_⟩
     obtain ⟨j, Y, hg⟩ := uq es 0 i U I
     have M : es.set i (kv, U) = es := by
      rw [Nat.zero_add] at Y
      subst Y
      apply List.ext_getElem?
      intro q
      rw [List.getElem?_set]
      split
      · rename_i hq; subst hq
        rw [if_pos (List.getElem?_eq_some_iff.1 hg).1, hg]
      · rfl
     rw [M] at N
     simp only [eN, hu, jk, N, D, E, J, I]
     exact C
   · rename_i z E J I
     rw [E, J, I] at he
     simp only at he
     cases he
     refine ⟨_, rfl, fun N => ?_⟩
     have T := wI (z := z) (Dq E) es 0 I
     simp only [eN, hu, jk, N, D, E, J, T]
     exact C
   · cases C
 · cases C
theorem AD {P : Program} (m2 : rB P) (hm : P.follows .mixedOrders = true) {call : dz} (e9 : fP P call) {ops : Array Oper} {id : Nat} {st st' : St} (h : ja P call ops.toList true st = some st')
  {out : Nat -> Prop} {B : Nat -> Prop} {w : World} {π : List (Option PB)} {a : Act} (hR : Rep out B w π st a) {Q : Exit -> Act -> World -> Prop}
  (hQ : ∀ a' w' π', Rep out B w' π' st' a' -> Ext B w w' (aJ out π st.heap) (aJ out π' st'.heap) π π' -> Q .normal a' w') : (Code.region id ops true).wp P Q a w := by
 unfold ja at h
 simp only at h
 split at h
 · rename_i o0 es m3
   split at h
   · rename_i k3
     cases h
     simp only [Bool.and_eq_true] at k3
     obtain ⟨a4, a5⟩ := k3
     obtain ⟨L, b6⟩ : ∃ L, L = st'.heap.length := ⟨_, rfl⟩
     obtain ⟨t1, t2, t3, t4, t5⟩ := uo (L := L) ops.toList st st' es m3 (by omega)
     rw [<- b6] at t3
     obtain ⟨D, a2⟩ : ∃ D : St, D = ⟨st.slots, pad L st.heap⟩ := ⟨_, rfl⟩
     have E : D.heap.length = L := by rw [a2]; exact pq (by omega)
     obtain ⟨g0, k4⟩ := hR.inv.same (w' := { w with drawn := w.drawn + 1 }) rfl rfl rfl rfl (fun _ => Nat.le_succ _)
     obtain ⟨g9, c5⟩ := k4.extend (L - st.heap.length)
     obtain ⟨π0, hπ0⟩ : ∃ π0, π0 = π ++ List.replicate (L - st.heap.length) none := ⟨_, rfl⟩
     rw [<- hπ0] at g9 c5
     have m4 : Rep out B { w with drawn := w.drawn + 1 } π0 D a := by
      rw [a2]
      exact ⟨hR.defers, RvL.ext c5 _ _ (RvL.ext g0 _ _ hR.slots), g9⟩
     have b7 : ∀ b, st.heap.length <= b -> ∀ q, π0[b]? ≠ some (some q) := by
      intro b hb q hq
      have := hR.inv.len
      rw [hπ0, List.getElem?_append_right (by omega)] at hq
      have := List.mem_of_getElem? hq
      simp at this
     have k5 : Ext B w { w with drawn := w.drawn + 1 } (aJ out π st.heap) (aJ out π0 D.heap) π π0 := by rw [a2]; exact g0.trans c5
     clear c5 g0 k4 g9
     refine wp_region_any hm ?_
     have key : ∀ (fuel : Nat) (C : Array Bool) (a : Act) (w1 : World) (π1 : List (Option PB)), C.size = ops.size -> ((List.range ops.size).countP fun i => !C.getD i false) = fuel ->
       (∀ (j : Nat) (o : Oper), ops.toList[j]? = some o -> C.getD j false = true -> ∀ e ∈ o.after.toList, Region.binds .any e = true -> C.getD e.on false = true) ->
       Rep out B w1 π1 (cg es (fun j => C.getD j false) 0 D) a ->
       Ext B w w1 (aJ out π st.heap) (aJ out π1 (cg es (fun j => C.getD j false) 0 D).heap) π π1 ->
       (∀ b, st.heap.length <= b -> (∀ (j : Nat) (e : Ent), es[j]? = some e -> C.getD j false = true -> b ∉ dV e.ws) -> ∀ q, π1[b]? ≠ some (some q)) ->
       wpAny P .any ops Q fuel C a w1 := by
      intro fuel
      induction fuel with
      | zero =>
       intro C a w1 π1 k6 a6 b1 c6 c7 h6
       have e6 : ∀ i, i < ops.size -> C.getD i false = true := by
        intro i hi
        rw [List.countP_eq_zero] at a6
        have := a6 i (by simpa using hi)
        simpa using this
       have b8 : cg es (fun j => C.getD j false) 0 D = st' := by
        have e1 : cg es (fun j => C.getD j false) 0 D = cg es (fun _ => true) 0 D := by
         have hs : ∀ (j : Nat) (e : Ent), es[j]? = some e -> C.getD (0 + j) false = true := fun j e he => by
          rw [Nat.zero_add]; exact e6 j (by have := aT he; rw [t2] at this; simpa using this)
         have l1 := mB es (fun j => C.getD j false) 0 D t3 E
         have l2 := mB es (fun _ => true) 0 D t3 E
         have h7 : (cg es (fun j => C.getD j false) 0 D).slots = (cg es (fun _ => true) 0 D).slots :=
          List.ext_getElem? fun t => gY es _ _ 0 D D rfl rfl fun j e he _ => hs j e he
         have h8 : (cg es (fun j => C.getD j false) 0 D).heap = (cg es (fun _ => true) 0 D).heap :=
          List.ext_getElem? fun b => ig es _ _ 0 D D t3 E E rfl fun j e he _ => hs j e he
         cases hA : cg es (fun j => C.getD j false) 0 D
         cases hB : cg es (fun _ => true) 0 D
         rw [hA, hB] at h7 h8
         simp only at h7 h8
         rw [h7, h8]
        rw [e1, a2, t4, b6, Dz]
       refine ⟨?_, ?_⟩
       · unfold Region.ready
         rw [List.filter_eq_nil_iff]
         intro i hi
         have m5 : i < ops.size := by simpa using hi
         have h1 := e6 i m5
         have h2 : C.getD i true = true := by
          rw [Array.getD_eq_getD_getElem?] at h1 ⊢
          cases hl : C[i]? with
          | none => rfl
          | some x => rw [hl] at h1; simpa using h1
         simp [h2]
       · rw [b8] at c6 c7
         exact hQ a w1 π1 c6 c7
      | succ fuel ih =>
       intro C a w1 π1 k6 a6 b1 c6 c7 h6
       refine ⟨?_, ?_⟩
       ·
        intro k7
        exfalso
        have hex : ∃ i, i < ops.size /\ C.getD i false = false := by
         have e7 : 0 < (List.range ops.size).countP fun i => !C.getD i false := by omega
         rw [List.countP_pos_iff] at e7
         obtain ⟨i, h1, h2⟩ := e7
         exact ⟨i, by simpa using h1, by simpa using h2⟩
        have k8 : ∃ i, i < ops.size /\ C.getD i false = false /\ ∀ k, k < i -> C.getD k false = true := by
         obtain ⟨i, h1, h2⟩ := hex
         induction i using Nat.strongRecOn with
         | _ i m6 =>
          by_cases hk : ∃ k, k < i /\ C.getD k false = false
          · obtain ⟨k, k1, k2⟩ := hk
            exact m6 k k1 (by omega) k2
          · exact ⟨i, h1, h2, fun k m7 => by
             cases hv : C.getD k false with
             | true => rfl
             | false => exact (hk ⟨k, m7, hv⟩).elim⟩
        obtain ⟨i, h1, h2, h3⟩ := k8
        have a0 : i ∈ Region.ready .any ops C := by
         unfold Region.ready
         rw [List.mem_filter]
         refine ⟨by simpa using h1, ?_⟩
         have M : i < C.size := by omega
         have e1 : C.getD i true = false := by
          rw [Array.getD_eq_getD_getElem?] at h2 ⊢
          rw [Array.getElem?_eq_getElem M] at h2 ⊢
          simpa using h2
         have e2 : ops[i]? = some ops[i] := Array.getElem?_eq_getElem h1
         rw [e1, e2]
         simp only [Bool.not_false, Bool.true_and, Option.map_some, Option.getD_some, Array.all_eq_true']
         intro e he
         cases hb : Region.binds .any e with
         | false => rfl
         | true =>
          have := p5 ops.toList 0 i ops[i] a4 (by simp [h1]) e (by simpa using he) hb
          simp only [Bool.not_true, Bool.false_or]
          exact h3 _ (by omega)
        rw [k7] at a0
        cases a0
       · intro i hi
         unfold Region.ready at hi
         rw [List.mem_filter] at hi
         obtain ⟨b9, c8⟩ := hi
         have b9 : i < ops.size := by simpa using b9
         simp only [Bool.and_eq_true, Bool.not_eq_true'] at c8
         obtain ⟨c8, j0⟩ := c8
         obtain ⟨a3, O⟩ := Fa c8
         obtain ⟨o, ho⟩ : ∃ o, ops[i]? = some o := ⟨ops[i], Array.getElem?_eq_getElem b9⟩
         have j1 : ops.toList[i]? = some o := by rw [Array.getElem?_toList]; exact ho
         rw [ho] at j0
         simp only [Option.map_some, Option.getD_some, Array.all_eq_true'] at j0
         have c0 : ∀ e ∈ o.after.toList, Region.binds .any e = true -> C.getD e.on false = true := by
          intro e he hb
          have := j0 e (by simpa using he)
          simpa [hb] using this
         obtain ⟨e, he⟩ : ∃ e, es[i]? = some e := by
          have : i < es.length := by rw [t2]; simpa using b9
          exact ⟨es[i], geT this⟩
         obtain ⟨o2, I, st1, g1, g2, g3, g4, g5, g6, g7, g8⟩ := t5 i e he
         rw [j1] at g1
         cases g1
         subst g4
         have T : ∀ j b, j < i -> es[j]? = some b -> ((∃ x, x ∈ dV b.ws /\ (x ∈ e.rd \/ x ∈ dV e.ws)) \/ (∃ t, t ∈ b.o.dst.toList /\ (t ∈ dQ ops.toList e.o \/ t ∈ e.o.dst.toList)) \/ (∃ t, t ∈ e.o.dst.toList /\ t ∈ dQ ops.toList b.o)) ->
           C.getD j false = true := by
          intro j b hj hb j2
          have a7 := sI a5 hj hb he j2
          exact qi a4 (s := fun j => C.getD j false) b1 i e.o j1 c0 j a7
         have J : ∀ j b, i < j -> es[j]? = some b -> ((∃ x, x ∈ dV e.ws /\ (x ∈ b.rd \/ x ∈ dV b.ws)) \/ (∃ t, t ∈ e.o.dst.toList /\ (t ∈ dQ ops.toList b.o \/ t ∈ b.o.dst.toList)) \/ (∃ t, t ∈ b.o.dst.toList /\ t ∈ dQ ops.toList e.o)) ->
           C.getD j false = false := by
          intro j b hj hb j2
          have a7 := sI a5 hj he hb j2
          cases hv : C.getD j false with
          | false => rfl
          | true =>
           have a8 : j < ops.toList.length := by rw [<- t2]; exact aT hb
           have := qi a4 (s := fun j => C.getD j false) b1 j ops.toList[j] (geT a8) (b1 j _ (geT a8) hv) i a7
           rw [this] at O; cases O
         have c1 := mB es (fun j => C.getD j false) 0 D t3 E
         have N : cg es (fun j => decide (j < 0 + i)) 0 D = ⟨I.slots, pad L I.heap⟩ := by rw [rR, a2, g8]
         have c9 : ∀ t ∈ dQ ops.toList e.o, (cg es (fun j => C.getD j false) 0 D).slots[t]? = I.slots[t]? := by
          intro t ht
          have := gY (t := t) es (fun j => C.getD j false) (fun j => decide (j < 0 + i)) 0 D D rfl rfl (fun j b hb hw => by
           simp only [Nat.zero_add]
           rcases Nat.lt_trichotomy j i with M | rfl | U
           · rw [T j b M hb (.inr (.inl ⟨t, hw, .inl ht⟩))]; simp [M]
           · rw [O]; simp
           · rw [J j b U hb (.inr (.inr ⟨t, hw, ht⟩))]; simp; omega)
          rw [this, N]
         have j3 := (oK g3).1
         have a9 : ∀ j b, i < j -> es[j]? = some b -> ∀ x, x ∈ dV b.ws -> x ∈ e.rd -> C.getD j false = false \/ rm ops.toList e b ((es.take j).drop (i + 1)) = true := by
          intro j b hj hb x hx hr
          rcases DF a5 hj he hb hx hr with a7 | hs
          · left
            cases hv : C.getD j false with
            | false => rfl
            | true =>
             have a8 : j < ops.toList.length := by rw [<- t2]; exact aT hb
             have := qi a4 (s := fun j => C.getD j false) b1 j ops.toList[j] (geT a8) (b1 j _ (geT a8) hv) i a7
             rw [this] at O; cases O
          · exact .inr hs
         have j4 : (∀ b ∈ e.rd, (cg es (fun j => C.getD j false) 0 D).heap[b]? = I.heap[b]?) \/ ((∃ t m k, e.o.op = .lookup t m k false) /\ ∀ r, evalOp P (evA I.slots) I.heap I.heap.length e.o = some r -> evalOp P (evA I.slots) (cg es (fun j => C.getD j false) 0 D).heap I.heap.length e.o = some r) := by
          by_cases hex : ∃ j b, i < j /\ es[j]? = some b /\ C.getD j false = true /\ rm ops.toList e b ((es.take j).drop (i + 1)) = true
          · right
            obtain ⟨j, b, b4, hb, m8, Y⟩ := hex
            obtain ⟨sw, m9, o1, o4⟩ := xi Y
            unfold rm at Y
            split at Y
            · rename_i t m k t' m' k' c2 e8
              simp only [Bool.and_eq_true] at Y
              obtain ⟨⟨⟨⟨⟨⟨⟨⟨⟨q1, q2⟩, q3⟩, q4⟩, q5⟩, _⟩, _⟩, _⟩, _⟩, qm⟩ := Y
              obtain rfl := Nat.eq_of_beq_eq_true q1
              obtain rfl := Nat.eq_of_beq_eq_true q2
              obtain rfl := Nat.eq_of_beq_eq_true q3
              refine ⟨⟨_, _, _, c2⟩, fun r hr => ?_⟩
              have c3 : ∀ q c, i < q -> q < j -> es[q]? = some c -> (∀ x ∈ dV c.ws, x ∉ e.rd) /\ m ∉ c.o.dst.toList /\ k ∉ c.o.dst.toList := by
               intro q c h1 h2 hc
               have a0 : c ∈ (es.take j).drop (i + 1) := by
                refine List.mem_of_getElem? (i := q - (i + 1)) ?_
                rw [List.getElem?_drop, show i + 1 + (q - (i + 1)) = q by omega, List.getElem?_take, if_pos h2]; exact hc
               have := List.all_eq_true.1 qm c a0
               simp only [Bool.and_eq_true, Bool.not_eq_true'] at this
               obtain ⟨⟨h3, h4⟩, h5⟩ := this
               exact ⟨fun x hx => jC h3 hx, by simpa using h4, by simpa using h5⟩
              obtain ⟨o3, sj, o5, f1, f2, f3, f4, f5, f6, f7, f8⟩ := t5 j b hb
              have k9 : cg es (fun q => decide (q < 0 + j)) 0 D = ⟨sj.slots, pad L sj.heap⟩ := by rw [rR, a2, f8]
              have n0 : ∀ y ∈ b.o.op.operands.toList, ∀ t, y = .tmp t -> t ∈ dQ ops.toList b.o := fun y hy t ht => by
               subst ht
               simp only [dQ, List.mem_append]; exact .inl (vU hy)
              have n1 : ∀ y, y ∈ [m, k] -> I.slots[y]? = sj.slots[y]? := by
               intro y hy
               have n3 : y ∈ dQ ops.toList b.o := n0 (.tmp y) (by rw [e8]; simp [Op.operands] at hy ⊢; rcases hy with h | h <;> simp [h]) y rfl
               have := gY (t := y) es (fun q => decide (q < 0 + i)) (fun q => decide (q < 0 + j)) 0 D D rfl rfl (fun q c hc hw => by
                simp only [Nat.zero_add]
                rcases Nat.lt_trichotomy q i with M | rfl | U
                · simp [M, Nat.lt_trans M b4]
                · rw [he] at hc; cases hc; exact (jC m9 hw n3).elim
                · by_cases c4 : q < j
                  · obtain ⟨_, z1, z2⟩ := c3 q c U c4 hc
                    simp at hy
                    rcases hy with h | h
                    · exact (z1 (h ▸ hw)).elim
                    · exact (z2 (h ▸ hw)).elim
                  · simp; omega)
               rw [N, k9] at this
               exact this
              have l0 : ∀ y, y ∈ [m, k] -> evA sj.slots (.tmp y) = evA I.slots (.tmp y) := fun y hy => (xE fun t ht => by cases ht; exact n1 y hy).symm
              have eo : ∀ (ρ : Operand -> AV) (H : List Blk) (nid : Nat), evalOp P ρ H nid e.o = bs.ofP (eN P H t (ρ (.tmp m)) (ρ (.tmp k)) false) := fun ρ H nid => by
               unfold evalOp; rw [c2]; rfl
              rw [eo] at hr ⊢
              cases a1 : eN P I.heap t (evA I.slots (.tmp m)) (evA I.slots (.tmp k)) false with
              | none => rw [a1] at hr; cases hr
              | some A =>
               rw [a1] at hr
               obtain ⟨b0, j5⟩ : ∃ b0, evA I.slots (.tmp m) = .mp b0 := by
                unfold eN jk at a1
                split at a1
                · rename_i l3 _
                  split at l3
                  · exact ⟨_, by assumption⟩
                  · cases l3
                · cases a1
               have g1 : e.o.guard = none := by simpa using q4
               have n4 : b.o.guard = none := by simpa using q5
               have b5 : e.rd = [b0] := by
                have h0 := g2
                unfold jr at h0
                have hw : cS ops.toList e.o I.slots = some true := by unfold cS; rw [g1]
                rw [hw] at h0
                simp only [eo, a1, bs.ofP] at h0
                rw [dY] at h0
                have h0 := congrArg (fun z => (z.bind fun w => w.2).map (·.rd)) h0
                simp only [Option.bind_some, Option.map_some, Option.some.injEq] at h0
                rw [<- h0]
                unfold oO
                rw [c2]
                simp only [j5, dG]
               have j6 : b0 < I.heap.length := by
                have := (oK g3).1 b0 (by rw [b5]; simp)
                exact this
               have b3 : sj.heap[b0]? = I.heap[b0]? := by
                have := ig (b := b0) es (fun q => decide (q < 0 + i)) (fun q => decide (q < 0 + j)) 0 D D t3 E E rfl (fun q c hc hw => by
                 simp only [Nat.zero_add]
                 rcases Nat.lt_trichotomy q i with M | rfl | U
                 · simp [M, Nat.lt_trans M b4]
                 · rw [he] at hc; cases hc; rw [sw] at hw; simp [dV] at hw
                 · by_cases c4 : q < j
                   · exact ((c3 q c U c4 hc).1 b0 hw (by rw [b5]; simp)).elim
                   · simp; omega)
                rw [N, k9] at this
                simp only at this
                rw [yg j6] at this
                have l4 : b0 < sj.heap.length := by
                 by_cases hc : sj.heap.length <= b0
                 · exfalso
                   have h9 : (pad L sj.heap)[b0]? = some .dead := by
                    have n9 : b0 < L := by omega
                    simp only [pad, gN]
                    rw [List.getElem?_append_right hc, List.getElem?_replicate, if_pos (by omega)]
                   rw [h9] at this
                   unfold eN at a1
                   rw [j5] at a1
                   simp only [jk, this] at a1
                   (repeat' split at a1) <;> simp_all
                 · omega
                rw [yg l4] at this
                exact this.symm
               have h0 := f2
               rw [<- f4] at h0
               unfold jr at h0
               have hw : cS ops.toList b.o sj.slots = some true := by unfold cS; rw [n4]
               have eb : evalOp P (evA sj.slots) sj.heap sj.heap.length b.o = lB P sj.heap t (evA sj.slots (.tmp m)) (evA sj.slots (.tmp k)) := by
                unfold evalOp; rw [e8]; rfl
               rw [hw] at h0
               simp only [eb, l0 m (by simp), l0 k (by simp)] at h0
               split at h0
               · rename_i v hv; unfold lB at hv; (repeat' split at hv) <;> cases hv
               · rename_i v ws hv
                 rw [dY] at h0
                 have j7 := congrArg (fun z => (z.bind fun w => w.2).map (·.ws)) h0
                 simp only [Option.bind_some, Option.map_some, Option.some.injEq] at j7
                 obtain ⟨X, hX, b8⟩ := y0 (H' := (cg es (fun j => C.getD j false) 0 D).heap) a1 j5 b3 hv
                 rw [b8 ?_]
                 · exact hr
                 have l5 : b0 ∈ dV b.ws := by rw [<- j7, hX]; simp [dV]
                 have l6 := jZ (b := b0) es (fun q => decide (q < 0 + i)) 0 j D b t3 E hb (by simp; omega) l5 (fun q c hq hc hw => by simp; omega)
                 have e3 := ig (b := b0) es (fun j => C.getD j false) (fun q => decide (q < 0 + i) || decide (q = 0 + j)) 0 D D t3 E E rfl (fun q c hc hw => by
                  simp only [Nat.zero_add]
                  rcases Nat.lt_trichotomy q i with M | rfl | U
                  · rw [T q c M hc (.inl ⟨b0, hw, .inl (by rw [b5]; simp)⟩)]; simp [M]
                  · rw [he] at hc; cases hc; rw [sw] at hw; simp [dV] at hw
                  · by_cases c4 : q = j
                    · subst c4; rw [m8]; simp
                    · have hf : C.getD q false = false := by
                       rcases a9 q c U hc b0 hw (by rw [b5]; simp) with h | h
                       · exact h
                       · exfalso
                         rcases Nat.lt_or_ge q j with h1 | h1
                         · exact (c3 q c U h1 hc).1 b0 hw (by rw [b5]; simp)
                         · have a0 : b ∈ (es.take q).drop (i + 1) := by
                            refine List.mem_of_getElem? (i := j - (i + 1)) ?_
                            rw [List.getElem?_drop, show i + 1 + (j - (i + 1)) = j by omega, List.getElem?_take, if_pos (by omega)]; exact hb
                           unfold rm at h
                           split at h
                           · simp only [Bool.and_eq_true] at h
                             have h2 := List.all_eq_true.1 h.2 b a0
                             simp only [Bool.and_eq_true] at h2
                             exact jC h2.1.1 l5 (by rw [b5]; simp)
                           · cases h
                      rw [hf]; simp; omega)
                 rw [e3, l6, N, <- j7, hX]
                 simp only [aM]
                 rw [fb (by have := pq (H := I.heap) (L := L) (by omega); omega), if_pos rfl]
               · rename_i f as hv; unfold lB at hv; (repeat' split at hv) <;> cases hv
               · cases h0
            · cases Y
          · left
            intro b hb
            have := ig (b := b) es (fun j => C.getD j false) (fun j => decide (j < 0 + i)) 0 D D t3 E E rfl (fun j x hx hw => by
             simp only [Nat.zero_add]
             rcases Nat.lt_trichotomy j i with M | rfl | U
             · rw [T j x M hx (.inl ⟨b, hw, .inl hb⟩)]; simp [M]
             · rw [O]; simp
             · have hf : C.getD j false = false := by
                rcases a9 j x U hx b hw hb with h | h
                · exact h
                · cases hv : C.getD j false with
                  | false => rfl
                  | true => exact (hex ⟨j, x, U, hx, hv, h⟩).elim
               rw [hf]; simp; omega)
            rw [this, N]
            exact yg (j3 b hb)
         have e4 : ∀ b ∈ dV e.ws, I.heap.length <= b -> ∀ q, π1[b]? ≠ some (some q) := by
          intro b hb o6
          refine h6 b (by omega) fun j x hx hl j8 => ?_
          rcases Nat.lt_trichotomy j i with M | rfl | U
          · have := (nC es 0 i j x e a5 he (by omega) hx).2
            simp only [dV, List.mem_map] at j8
            obtain ⟨p, hp, rfl⟩ := j8
            have := this p hp
            omega
          · rw [O] at hl; cases hl
          · rw [J j x U hx (.inl ⟨b, hb, .inr j8⟩)] at hl; cases hl
         have j9 : I.heap.length + e.n <= L := by
          rcases Nat.eq_zero_or_pos e.n with h0 | h0
          · omega
          · have h1 := (oK g3).2.2 (e.n - 1) (by omega)
            have h2 := t3 e (List.mem_of_getElem? he) _ h1
            omega
         have e5 : dX e (cg es (fun j => C.getD j false) 0 D) = cg es (fun j => (C.setIfInBounds i true).getD j false) 0 D := by
          have l7 : (fun j => (C.setIfInBounds i true).getD j false) = fun j => C.getD j false || decide (j = 0 + i) := by
           funext j; rw [getD_set_true a3, Nat.zero_add]
          rw [l7]
          have n5 : ∀ x ∈ dV e.ws, x < L := t3 e (List.mem_of_getElem? he)
          have e1 : (cg es (fun j => C.getD j false || decide (j = 0 + i)) 0 D).slots = fS (cg es (fun j => C.getD j false) 0 D).slots e.o.dst e.v := by
           refine List.ext_getElem? fun t => ?_
           by_cases ht : t ∈ e.o.dst.toList
           · exact mR es (fun j => C.getD j false) 0 i D e he (by simpa using O) ht fun j b b4 hb hw => by
              rw [Nat.zero_add]; exact J j b b4 hb (.inr (.inl ⟨t, ht, .inr hw⟩))
           · rw [sc ht]
             refine gY es _ _ 0 D D rfl rfl fun j b hb hw => ?_
             have : ¬ 0 + j = 0 + i := by
              intro e0
              obtain rfl : j = i := by omega
              rw [he] at hb; cases hb; exact ht hw
             rw [decide_eq_false this, Bool.or_false]
          have e2 : (cg es (fun j => C.getD j false || decide (j = 0 + i)) 0 D).heap = aM (cg es (fun j => C.getD j false) 0 D).heap e.ws := by
           refine List.ext_getElem? fun b => ?_
           by_cases hb : b ∈ dV e.ws
           · exact jZ es (fun j => C.getD j false) 0 i D e t3 E he (by simpa using O) hb fun j x b4 hx hw => by
              rw [Nat.zero_add]; exact J j x b4 hx (.inl ⟨b, hb, .inr hw⟩)
           · rw [mi _ _ (by rw [c1.1]; exact n5) hb]
             refine ig es _ _ 0 D D t3 E E rfl fun j x hx hw => ?_
             have : ¬ 0 + j = 0 + i := by
              intro e0
              obtain rfl : j = i := by omega
              rw [he] at hx; cases hx; exact hb hw
             rw [decide_eq_false this, Bool.or_false]
          unfold dX
          cases hF : cg es (fun j => C.getD j false || decide (j = 0 + i)) 0 D
          rw [hF] at e1 e2
          simp only at e1 e2
          rw [e1, e2]
         unfold wpOp
         rw [ho]
         simp only
         refine AH m2 e9 g2 g3 (by rw [c1.1]; exact j9) c9 j4 c6 e4 fun a' w' π' l8 l9 n6 => ?_
         rw [e5] at l8 l9
         refine ih (C.setIfInBounds i true) a' w' π' (by simpa using k6) ?_ ?_ l8 (c7.trans l9) ?_
         · have o7 : ((List.range ops.size).countP fun j => !C.getD j false) = ((List.range ops.size).countP fun j => !(C.setIfInBounds i true).getD j false) + 1 := by
            have gen : ∀ (l : List Nat), l.Nodup -> i ∈ l -> (l.countP fun j => !C.getD j false) = (l.countP fun j => !(C.setIfInBounds i true).getD j false) + 1 := by
             intro l
             induction l with
             | nil => intro _ h; cases h
             | cons x l n7 =>
              intro k0 a0
              rw [List.nodup_cons] at k0
              rw [List.countP_cons, List.countP_cons, getD_set_true a3]
              by_cases hx : x = i
              · subst hx
                have b3 : (l.countP fun j => !C.getD j false) = l.countP fun j => !(C.setIfInBounds x true).getD j false := by
                 refine List.countP_congr fun y hy => ?_
                 rw [getD_set_true a3]
                 have : ¬ y = x := by rintro rfl; exact k0.1 hy
                 simp [this]
                rw [b3, O]; simp
              · have := n7 k0.2 (by
                 rcases List.mem_cons.1 a0 with e0 | e0
                 · exact (hx e0.symm).elim
                 · exact e0)
                rw [this]
                simp [hx]; omega
            exact gen _ List.nodup_range (by simpa using b9)
           omega
         · intro j oj hj hs e' m0 hb
           rw [getD_set_true a3] at hs ⊢
           rw [Bool.or_eq_true] at hs ⊢
           left
           rcases hs with hs | hs
           · exact b1 j oj hj hs e' m0 hb
           · obtain rfl : j = i := by simpa using hs
             rw [j1] at hj; cases hj
             exact c0 e' m0 hb
         · intro b hb m1 q hq
           have n8 : b ∉ dV e.ws := m1 i e he (by rw [getD_set_true a3]; simp)
           rw [n6 b n8] at hq
           refine h6 b hb (fun j x hx hl => m1 j x hx ?_) q hq
           rw [getD_set_true a3, hl]; simp
     refine key ops.size (Array.replicate ops.size false) a { w with drawn := w.drawn + 1 } π0 (by simp) ?_ ?_ ?_ ?_ ?_
     · have : ∀ i, (Array.replicate ops.size false).getD i false = false := fun i => getD_none i
       simp only [this, Bool.not_false]
       simp
     · intro j o _ hj
       have : ∀ i, (Array.replicate ops.size false).getD i false = false := fun i => getD_none i
       rw [this] at hj; cases hj
     · have : (fun j => (Array.replicate ops.size false).getD j false) = fun _ => false := by funext i; exact getD_none i
       rw [this, r6]; exact m4
     · have : (fun j => (Array.replicate ops.size false).getD j false) = fun _ => false := by funext i; exact getD_none i
       rw [this, r6]; exact k5
     · intro b hb _; exact b7 b hb
   · cases h
 · cases h
end Go.Eng

