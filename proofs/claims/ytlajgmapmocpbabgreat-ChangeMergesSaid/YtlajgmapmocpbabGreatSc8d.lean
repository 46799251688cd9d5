/- The engine, part 26: many operations in one step, for printed proofs. -/
import Derived.Test.YtlajgmapmocpbabGreatSc7d
import Derived.KernelRfl
set_option linter.unusedSimpArgs false
set_option linter.unusedVariables false
set_option linter.unusedVariables false
namespace Go.Eng
open Go Go.RowKit

/-- The state behind some operations. -/
noncomputable def opsSt (P : Program) (call : CallF) (ops l : List Oper) (s : List AV) (h : List Blk) : St := match evalOps P call ops l ⟨s, h⟩ with | some st => st | none => ⟨s, h⟩
noncomputable def opsOk (P : Program) (call : CallF) (ops l : List Oper) (s : List AV) (h : List Blk) : Bool := match evalOps P call ops l ⟨s, h⟩ with | some _ => true | none => false
theorem opsOk_eq {P : Program} {call : CallF} {ops l : List Oper} {s : List AV} {h : List Blk} (e : opsOk P call ops l s h = true) : evalOps P call ops l ⟨s, h⟩ = some (opsSt P call ops l s h) := by
  unfold opsOk at e
  unfold opsSt
  split at e
  · rename_i st hst; rw [hst]
  · cases e
section
variable {P : Program} {call : CallF} {ops l : List Oper} {s : List AV} {h : List Blk} {K : List AV → List Blk → Prop} {KT : List AV → List Blk → List Ent → Prop}
/-- The next n operations. -/
theorem EVO.mu (n : Nat) (hk : EVO P call ops (l.drop n) (opsSt P call ops (l.take n) s h).slots (opsSt P call ops (l.take n) s h).heap K) (e : opsOk P call ops (l.take n) s h = true := by kernel_rfl) : EVO P call ops l s h K := by
  have := EVO.many (l1 := l.take n) (l2 := l.drop n) (s1 := (opsSt P call ops (l.take n) s h).slots) (h1 := (opsSt P call ops (l.take n) s h).heap) (by rw [opsOk_eq e]) hk
  rwa [List.take_append_drop] at this
noncomputable def trSt (P : Program) (call : CallF) (ops l : List Oper) (s : List AV) (h : List Blk) : St := match traceOps P call ops l ⟨s, h⟩ with | some (st, _) => st | none => ⟨s, h⟩
noncomputable def trOk (P : Program) (call : CallF) (ops l : List Oper) (s : List AV) (h : List Blk) : Bool := match traceOps P call ops l ⟨s, h⟩ with | some _ => true | none => false
theorem EVT.mu (n : Nat) (hk : EVT P call ops (l.drop n) (trSt P call ops (l.take n) s h).slots (trSt P call ops (l.take n) s h).heap (fun s' h' es => KT s' h' (trEs P call ops (l.take n) s h ++ es))) (e : trOk P call ops (l.take n) s h = true := by kernel_rfl) : EVT P call ops l s h KT := by
  have := EVT.many (l1 := l.take n) (l2 := l.drop n) (s1 := (trSt P call ops (l.take n) s h).slots) (h1 := (trSt P call ops (l.take n) s h).heap) (by
    unfold trOk at e
    unfold trSt
    split at e
    · rename_i st hst; rw [hst]
    · cases e) hk
  rwa [List.take_append_drop] at this
end
section
variable {P : Program} {K : Nat} {k : List Fr} {F : X → St → Prop} {d : Code} {i : Nat} {l : List Oper} {s : List AV} {h : List Blk}
/-- A region of plain operations, its end's state unwritten. -/
theorem CQ.ru (G : Fine P) (hk : CQ K P k F .normal ⟨(opsSt P (callOf []) l l s h).slots, (opsSt P (callOf []) l l s h).heap⟩) (e : opsOk P (callOf []) l l s h = true := by kernel_rfl) : CQ K P (.c (.region i l.toArray false) :: k) F .normal ⟨s, h⟩ :=
  CQ.region G callOf_nil ⟨_, opsOk_eq e, hk⟩
/-- The same, its end's state written anew. -/
noncomputable def opsM (P : Program) (l : List Oper) (s : List AV) (h : List Blk) (keep : List Nat) : Option St := match evalOps P (callOf []) l l ⟨s, h⟩ with | some st => some ⟨maskS keep st.slots 0, st.heap⟩ | none => none
theorem CQ.rn (G : Fine P) (keep : List Nat) (s' : List AV) (h' : List Blk) (hk : CQ K P (.c d :: k) F .normal ⟨s', h'⟩) (e : opsM P l s h keep = some ⟨s', h'⟩ := by kernel_rfl) : CQ K P (.c (.region i l.toArray false) :: .c d :: k) F .normal ⟨s, h⟩ := by
  unfold opsM at e
  split at e
  · rename_i st hst
    obtain ⟨s1, h1⟩ := st
    exact CQ.region G callOf_nil ⟨_, hst, CQ.wk ((Wk.mask keep).to (Option.some.inj e)) hk⟩
  · cases e
/-- A region with calls, all of them on the heap that it starts with. -/
theorem CQ.g1 (G : Fine P) {f : FuncId} {args : List AV} {r : CRes} (c : CallOk P f args h r) (he : EVO P (callOf [{ f := f, args := args, H := h, r := r : CE }]) l l s h (fun s' h' => CQ K P k F .normal ⟨s', h'⟩)) : CQ K P (.c (.region i l.toArray false) :: k) F .normal ⟨s, h⟩ := CQ.region G (callOf_one c) he
theorem CQ.t1 (G : Fine P) {f : FuncId} {args : List AV} {r : CRes} (c : CallOk P f args h r) (he : EVT P (callOf [{ f := f, args := args, H := h, r := r : CE }]) l l s h (fun s' h' es => drawOk l es = true ∧ CQ K P k F .normal ⟨s', h'⟩)) : CQ K P (.c (.region i l.toArray true) :: k) F .normal ⟨s, h⟩ := CQ.regionT G (callOf_one c) he
end
theorem callOf_cons {P : Program} {f : FuncId} {args : List AV} {H : List Blk} {r : CRes} {L : List CE} (c : CallOk P f args H r) (cs : CallsOk P (callOf L)) : CallsOk P (callOf ({ f := f, args := args, H := H, r := r : CE } :: L)) := fun g a H' r' e => by
  simp only [callOf] at e
  split at e
  · rename_i hk
    cases e
    obtain ⟨rfl, rfl, rfl⟩ := hk
    exact c
  · exact cs g a H' r' e
/-- A writing call, its answer unwritten. -/
theorem callOk_mutU {P : Program} {f : FuncId} {args args0 : List AV} {H H0 H1 : List Blk} {r : AV} (K m : Nat) (keep : List (Nat × Bool)) (ts : List Bool) (hrun : FnMut K P f args0 H0 r H1)
    (hpure : pureK H keep) (hpt : pureT ts H1) (hlen1 : H1.length = K + m) (hlent : ts.length = H1.length)
    (hargs : rnL keep args = args0) (hH : rnH H keep keep = H0)
    (hn : nodupK keep = true := by kernel_rfl) (hlt : keep.all (fun q => Nat.blt q.1 H.length) = true := by kernel_rfl) (hK : Nat.ble K keep.length = true := by kernel_rfl) :
    CallOk P f args H (.loc (rfA (fun k => (tgtN K keep H.length m)[k]?) r) (wsMut K keep H.length m ts H1) (keep.map (·.1)) m) :=
  callOk_mut K keep ts hrun hpure hpt hlen1 hlent hn hlt hK hargs hH rfl rfl rfl
/-! What a heap keeps under new numbers, told by the kernel. -/
theorem pKo {H : List Blk} {b : Nat} {l : List (Nat × Bool)} {α : Type} (c : α → List AV) (hc : ∀ x, idsOfL (c x) = []) (e : List α) (rest : pureK H l) (hb : H[b]? = some (.own (e.flatMap c)) := by kernel_rfl) : pureK H ((b, false) :: l) :=
  ⟨by rw [hb]; exact ids_flat hc e, rest⟩
theorem pKf {H : List Blk} {b : Nat} {l : List (Nat × Bool)} {α : Type} (c : α → List AV) (hc : ∀ x, idsOfL (c x) = []) (e : List α) (rest : pureK H l) (hb : H[b]? = some (.fix (e.flatMap c)) := by kernel_rfl) : pureK H ((b, false) :: l) :=
  ⟨by rw [hb]; exact ids_flat hc e, rest⟩
theorem pKn {H : List Blk} {b : Nat} {l : List (Nat × Bool)} (rest : pureK H l) (hb : H[b]? = none := by kernel_rfl) : pureK H ((b, false) :: l) := ⟨by rw [hb]; trivial, rest⟩
def idsB : Option Blk → List Nat
  | some (.own cs) => idsOfL cs
  | some (.fix cs) => idsOfL cs
  | some (.map es) => idsOfM es
  | _ => []
theorem pKc {H : List Blk} {b : Nat} {l : List (Nat × Bool)} (rest : pureK H l) (hb : idsB H[b]? = [] := by kernel_rfl) : pureK H ((b, false) :: l) := by
  refine ⟨?_, rest⟩
  generalize H[b]? = o at *
  cases o with
  | none => trivial
  | some x => cases x <;> first | exact hb | trivial
theorem pKt {H : List Blk} {b : Nat} {l : List (Nat × Bool)} (rest : pureK H l) : pureK H ((b, true) :: l) := rest
theorem pK0 {H : List Blk} : pureK H [] := trivial
attribute [irreducible] opsSt opsOk opsM trSt trOk
end Go.Eng
