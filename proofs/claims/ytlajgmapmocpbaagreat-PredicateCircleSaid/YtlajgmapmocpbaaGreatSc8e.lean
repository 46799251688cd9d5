/- The engine, part 26: many operations in one step, for printed proofs. -/
import Derived.Test.YtlajgmapmocpbaaGreatSc7e
import Derived.KernelRfl
set_option linter.unusedSimpArgs false
set_option linter.unusedVariables false
set_option linter.unusedVariables false
namespace Go.Eng
open Go Go.RowKit

/-- The state behind some operations. -/
noncomputable def opsSt (P : Program) (call : CallF) (ops l : List Oper) (s : List AV) (h : List Blk) : St := match evalOps P call ops l ⟨s, h⟩ with | some st => st | none => ⟨s, h⟩
noncomputable def opsOk (P : Program) (call : CallF) (ops l : List Oper) (s : List AV) (h : List Blk) : Bool := match evalOps P call ops l ⟨s, h⟩ with | some _ => true | none => false
theorem opsOk_eq {P : Program} {call : CallF} {ops l : List Oper} {s : List AV} {h : List Blk} (e : opsOk P call ops l s h = true) : evalOps P call ops l ⟨s, h⟩ = some (opsSt P call ops l s h) := by
  unfold opsOk at e
  unfold opsSt
  split at e
  · rename_i st hst; rw [hst]
  · cases e
section
variable {P : Program} {call : CallF} {ops l : List Oper} {s : List AV} {h : List Blk} {K : List AV → List Blk → Prop} {KT : List AV → List Blk → List Ent → Prop}
/-- The next n operations. -/
theorem EVO.mu (n : Nat) (hk : EVO P call ops (l.drop n) (opsSt P call ops (l.take n) s h).slots (opsSt P call ops (l.take n) s h).heap K) (e : opsOk P call ops (l.take n) s h = true := by kernel_rfl) : EVO P call ops l s h K := by
  have := EVO.many (l1 := l.take n) (l2 := l.drop n) (s1 := (opsSt P call ops (l.take n) s h).slots) (h1 := (opsSt P call ops (l.take n) s h).heap) (by rw [opsOk_eq e]) hk
  rwa [List.take_append_drop] at this
noncomputable def trSt (P : Program) (call : CallF) (ops l : List Oper) (s : List AV) (h : List Blk) : St := match traceOps P call ops l ⟨s, h⟩ with | some (st, _) => st | none => ⟨s, h⟩
noncomputable def trOk (P : Program) (call : CallF) (ops l : List Oper) (s : List AV) (h : List Blk) : Bool := match traceOps P call ops l ⟨s, h⟩ with | some _ => true | none => false
theorem EVT.mu (n : Nat) (hk : EVT P call ops (l.drop n) (trSt P call ops (l.take n) s h).slots (trSt P call ops (l.take n) s h).heap (fun s' h' es => KT s' h' (trEs P call ops (l.take n) s h ++ es))) (e : trOk P call ops (l.take n) s h = true := by kernel_rfl) : EVT P call ops l s h KT := by
  have := EVT.many (l1 := l.take n) (l2 := l.drop n) (s1 := (trSt P call ops (l.take n) s h).slots) (h1 := (trSt P call ops (l.take n) s h).heap) (by
    unfold trOk at e
    unfold trSt
    split at e
    · rename_i st hst; rw [hst]
    · cases e) hk
  rwa [List.take_append_drop] at this
end
section
variable {P : Program} {K : Nat} {k : List Fr} {F : X → St → Prop} {d : Code} {i : Nat} {l : List Oper} {s : List AV} {h : List Blk}
/-- A region of plain operations, its end's state unwritten. -/
theorem CQ.ru (G : Fine P) (hk : CQ K P k F .normal ⟨(opsSt P (callOf []) l l s h).slots, (opsSt P (callOf []) l l s h).heap⟩) (e : opsOk P (callOf []) l l s h = true := by kernel_rfl) : CQ K P (.c (.region i l.toArray false) :: k) F .normal ⟨s, h⟩ :=
  CQ.region G callOf_nil ⟨_, opsOk_eq e, hk⟩
/-- The same, its end's state written anew. -/
noncomputable def opsM (P : Program) (l : List Oper) (s : List AV) (h : List Blk) (keep : List Nat) : Option St := match evalOps P (callOf []) l l ⟨s, h⟩ with | some st => some ⟨maskS keep st.slots 0, st.heap⟩ | none => none
theorem CQ.rn (G : Fine P) (keep : List Nat) (s' : List AV) (h' : List Blk) (hk : CQ K P (.c d :: k) F .normal ⟨s', h'⟩) (e : opsM P l s h keep = some ⟨s', h'⟩ := by kernel_rfl) : CQ K P (.c (.region i l.toArray false) :: .c d :: k) F .normal ⟨s, h⟩ := by
  unfold opsM at e
  split at e
  · rename_i st hst
    obtain ⟨s1, h1⟩ := st
    exact CQ.region G callOf_nil ⟨_, hst, CQ.wk ((Wk.mask keep).to (Option.some.inj e)) hk⟩
  · cases e
/-- A region with calls, all of them on the heap that it starts with. -/
theorem CQ.g1 (G : Fine P) {f : FuncId} {args : List AV} {r : CRes} (c : CallOk P f args h r) (he : EVO P (callOf [{ f := f, args := args, H := h, r := r : CE }]) l l s h (fun s' h' => CQ K P k F .normal ⟨s', h'⟩)) : CQ K P (.c (.region i l.toArray false) :: k) F .normal ⟨s, h⟩ := CQ.region G (callOf_one c) he
theorem CQ.t1 (G : Fine P) {f : FuncId} {args : List AV} {r : CRes} (c : CallOk P f args h r) (he : EVT P (callOf [{ f := f, args := args, H := h, r := r : CE }]) l l s h (fun s' h' es => drawOk l es = true ∧ CQ K P k F .normal ⟨s', h'⟩)) : CQ K P (.c (.region i l.toArray true) :: k) F .normal ⟨s, h⟩ := CQ.regionT G (callOf_one c) he
end
theorem callOf_cons {P : Program} {f : FuncId} {args : List AV} {H : List Blk} {r : CRes} {L : List CE} (c : CallOk P f args H r) (cs : CallsOk P (callOf L)) : CallsOk P (callOf ({ f := f, args := args, H := H, r := r : CE } :: L)) := fun g a H' r' e => by
  simp only [callOf] at e
  split at e
  · rename_i hk
    cases e
    obtain ⟨rfl, rfl, rfl⟩ := hk
    exact c
  · exact cs g a H' r' e
/-- A writing call, its answer unwritten. -/
theorem callOk_mutU {P : Program} {f : FuncId} {args args0 : List AV} {H H0 H1 : List Blk} {r : AV} (K m : Nat) (keep : List (Nat × Bool)) (ts : List Bool) (hrun : FnMut K P f args0 H0 r H1)
    (hpure : pureK H keep) (hpt : pureT ts H1) (hlen1 : H1.length = K + m) (hlent : ts.length = H1.length)
    (hargs : rnL keep args = args0) (hH : rnH H keep keep = H0)
    (hn : nodupK keep = true := by kernel_rfl) (hlt : keep.all (fun q => Nat.blt q.1 H.length) = true := by kernel_rfl) (hK : Nat.ble K keep.length = true := by kernel_rfl) :
    CallOk P f args H (.loc (rfA (fun k => (tgtN K keep H.length m)[k]?) r) (wsMut K keep H.length m ts H1) (keep.map (·.1)) m) :=
  callOk_mut K keep ts hrun hpure hpt hlen1 hlent hn hlt hK hargs hH rfl rfl rfl
/-! What a heap keeps under new numbers, told by the kernel. -/
theorem pKo {H : List Blk} {b : Nat} {l : List (Nat × Bool)} {α : Type} (c : α → List AV) (hc : ∀ x, idsOfL (c x) = []) (e : List α) (rest : pureK H l) (hb : H[b]? = some (.own (e.flatMap c)) := by kernel_rfl) : pureK H ((b, false) :: l) :=
  ⟨by rw [hb]; exact ids_flat hc e, rest⟩
theorem pKf {H : List Blk} {b : Nat} {l : List (Nat × Bool)} {α : Type} (c : α → List AV) (hc : ∀ x, idsOfL (c x) = []) (e : List α) (rest : pureK H l) (hb : H[b]? = some (.fix (e.flatMap c)) := by kernel_rfl) : pureK H ((b, false) :: l) :=
  ⟨by rw [hb]; exact ids_flat hc e, rest⟩
theorem pKn {H : List Blk} {b : Nat} {l : List (Nat × Bool)} (rest : pureK H l) (hb : H[b]? = none := by kernel_rfl) : pureK H ((b, false) :: l) := ⟨by rw [hb]; trivial, rest⟩
def idsB : Option Blk → List Nat
  | some (.own cs) => idsOfL cs
  | some (.fix cs) => idsOfL cs
  | some (.map es) => idsOfM es
  | _ => []
theorem pKc {H : List Blk} {b : Nat} {l : List (Nat × Bool)} (rest : pureK H l) (hb : idsB H[b]? = [] := by kernel_rfl) : pureK H ((b, false) :: l) := by
  refine ⟨?_, rest⟩
  generalize H[b]? = o at *
  cases o with
  | none => trivial
  | some x => cases x <;> first | exact hb | trivial
theorem pKt {H : List Blk} {b : Nat} {l : List (Nat × Bool)} (rest : pureK H l) : pureK H ((b, true) :: l) := rest
theorem pK0 {H : List Blk} : pureK H [] := trivial
def slH (b e : Bool) (lo hi : Nat) (f : Nat → Nat → AV) : Option ORes := ORes.ofP (match (match b with | true => some (lo, hi) | false => none), e with | some (l, h), true => some (f l h) | _, _ => none)
theorem slH_t {b : Bool} {lo hi : Nat} {f : Nat → Nat → AV} {v : AV} (h : b = true) (hv : f lo hi = v) : slH b true lo hi f = some (.pure v) := by subst h; subst hv; rfl
/-- The cells of an own block behind some place are forgotten. -/
theorem Wk.cut (b : Nat) {K : Nat} {cs : List AV} {s : List AV} {h : List Blk} (m : Nat) (hb : h[b]? = some (.own cs)) : Wk K ⟨s, h⟩ ⟨s, h.set b (.own (cs.take m))⟩ := fun out B w π a hR => by
  have hI := hR.inv
  have hil := getElem?_lt hb
  have g : ∀ {k : Nat} {x : Blk}, (h.set b (.own (cs.take m)))[k]? = some x → (k = b ∧ x = .own (cs.take m)) ∨ (k ≠ b ∧ h[k]? = some x) := by
    intro k x hk
    by_cases hki : k = b
    · subst hki
      rw [List.getElem?_set_self hil] at hk
      exact .inl ⟨rfl, (Option.some.inj hk).symm⟩
    · rw [List.getElem?_set_ne (fun e => hki e.symm)] at hk
      exact .inr ⟨hki, hk⟩
  have old : ∀ {k : Nat} {x : Blk}, (h.set b (.own (cs.take m)))[k]? = some x → ∃ y, h[k]? = some y ∧ y.isLive = x.isLive ∧ y.isMut = x.isMut := by
    intro k x hk
    rcases g hk with ⟨rfl, rfl⟩ | ⟨_, hk⟩
    · exact ⟨_, hb, rfl, rfl⟩
    · exact ⟨x, hk, rfl, rfl⟩
  have hmu : muOf out π (h.set b (.own (cs.take m))) = muOf out π h := by
    funext c
    apply propext
    constructor
    · rintro (hb | ⟨k, x, p, h1, h2, h3, h4⟩)
      · exact .inl hb
      · obtain ⟨y, y1, _, y3⟩ := old h1
        exact .inr ⟨k, y, p, y1, by rw [y3]; exact h2, h3, h4⟩
    · rintro (hb' | ⟨k, x, p, h1, h2, h3, h4⟩)
      · exact .inl hb'
      · by_cases hki : k = b
        · subst hki
          exact .inr ⟨k, .own (cs.take m), p, List.getElem?_set_self hil, rfl, h3, h4⟩
        · exact .inr ⟨k, x, p, by rw [List.getElem?_set_ne (fun e => hki e.symm)]; exact h1, h2, h3, h4⟩
  refine ⟨π, ⟨hR.defers, ?_, ?_⟩, fun b hb => ?_, PinK.refl π⟩
  · simp only [hmu]; exact hR.slots
  · refine ⟨by simpa using hI.len, hI.bound, hI.out_lt, ?_, ?_, ?_⟩
    · intro k x p h1 h2 h3
      obtain ⟨y, y1, y2, _⟩ := old h1
      exact hI.base k y p y1 h2 (by rw [y2]; exact h3)
    · intro k x p h1 h2
      simp only [hmu]
      rcases g h1 with ⟨rfl, rfl⟩ | ⟨_, hk⟩
      · obtain ⟨o1, o2⟩ := hI.ok k _ p hb h2
        exact ⟨o1, RvC.take m cs _ _ o2⟩
      · exact hI.ok k x p hk h2
    · intro k l x y p q hkl h1 h2 h3 h4 h5 h6
      obtain ⟨x', x1, _, x3⟩ := old h1
      obtain ⟨y', y1, y2, _⟩ := old h2
      exact hI.sep k l x' y' p q hkl x1 y1 h3 h4 (by rw [x3]; exact h5) (by rw [y2]; exact h6)
  · rw [hmu] at hb; exact hb
/-- A shorter slice of an own block: what lies behind it is forgotten. -/
theorem Wk.cutS (i b : Nat) {K : Nat} {α : Type} {c : α → List AV} {es : Nat} (hc : ∀ x, (c x).length = es) (l : List α) (k : Nat) {s : List AV} {h : List Blk} (hk : k ≤ l.length) (hs : getS s i = .hs b 0 k es) (hb : h[b]? = some (.own (l.flatMap c))) :
    Wk K ⟨s, h⟩ ⟨s.set i (.hs b 0 (l.take k).length es), h.set b (.own ((l.take k).flatMap c))⟩ :=
  ((Wk.cut b (k * es) hb).to (by rw [flat_take hc])).trans (Wk.relen i (b := b) (len := k) (es := es) (l.take k).length hs (by rw [List.length_take]; omega))
theorem Wk.cutC (i j b : Nat) {K : Nat} {α : Type} {c : α → List AV} {es : Nat} (hc : ∀ x, (c x).length = es) (l : List α) (k : Nat) {s : List AV} {h : List Blk} {cs : List AV} (hk : k ≤ l.length) (hib : i ≠ b) (hi : h[i]? = some (.own cs)) (hs : cs[j]? = some (.hs b 0 k es)) (hb : h[b]? = some (.own (l.flatMap c))) :
    Wk K ⟨s, h⟩ ⟨s, (h.set b (.own ((l.take k).flatMap c))).set i (.own (cs.set j (.hs b 0 (l.take k).length es)))⟩ :=
  ((Wk.cut b (k * es) hb).to (by rw [flat_take hc])).trans (Wk.recell i j (b := b) (len := k) (es := es) (l.take k).length (by rw [List.getElem?_set_ne (fun e => hib e.symm)]; exact hi) hs (by rw [List.length_take]; omega))
attribute [irreducible] opsSt opsOk opsM trSt trOk
end Go.Eng
