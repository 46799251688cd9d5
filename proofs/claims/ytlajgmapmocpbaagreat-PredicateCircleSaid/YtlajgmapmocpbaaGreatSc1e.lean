/- The engine, part 19: code by what holds of a state that may be known by less. -/
import Derived.Test.YtlajgmapmocpbaaGreatEng18e
set_option linter.unusedSimpArgs false
set_option linter.unusedVariables false
set_option linter.unusedVariables false
namespace Go.Eng
open Go Go.RowKit

variable {K : Nat}
/-- The first K places stay. -/
def PinK (K : Nat) (π π' : List (Option PB)) : Prop := ∀ i, i < K → ∀ p, π[i]? = some (some p) → π'[i]? = some (some p)
theorem PinK.refl (π : List (Option PB)) : PinK K π π := fun _ _ _ h => h
theorem PinK.trans {π π' π'' : List (Option PB)} (h : PinK K π π') (k : PinK K π' π'') : PinK K π π'' := fun i hi p hp => k i hi p (h i hi p hp)
theorem Ext.pin {B : Nat → Prop} {w w' : World} {mu mu' : Nat → Prop} {π π' : List (Option PB)} (h : Ext B w w' mu mu' π π') : PinK K π π' := fun i _ p hp => h.pre i p hp
/-- What a step keeps; of the own blocks' numbers the first K. -/
structure EK (K : Nat) (B : Nat → Prop) (w w' : World) (mu mu' : Nat → Prop) (π π' : List (Option PB)) : Prop where
  low : ∀ b, B b → w'.heap[b]? = w.heap[b]?
  size : w.heap.size ≤ w'.heap.size
  keep : ∀ b, b < w.heap.size → ¬ mu b → w'.heap[b]? = w.heap[b]? ∧ ¬ mu' b
  os : w'.os = w.os
  tape : w'.tape = w.tape
  output : w'.output = w.output
  pin : PinK K π π'
theorem EK.trans {B : Nat → Prop} {w w' w'' : World} {mu mu' mu'' : Nat → Prop} {π π' π'' : List (Option PB)} (h : EK K B w w' mu mu' π π') (k : EK K B w' w'' mu' mu'' π' π'') : EK K B w w'' mu mu'' π π'' :=
  ⟨fun b hb => (k.low b hb).trans (h.low b hb), Nat.le_trans h.size k.size, fun b hb hm => by
    have h1 := h.keep b hb hm
    have h2 := k.keep b (Nat.lt_of_lt_of_le hb h.size) h1.2
    exact ⟨h2.1.trans h1.1, h2.2⟩, k.os.trans h.os, k.tape.trans h.tape, k.output.trans h.output, h.pin.trans k.pin⟩
theorem EK.less {B : Nat → Prop} {w : World} {mu mu' : Nat → Prop} {π π' : List (Option PB)} (h : ∀ b, mu' b → mu b) (hp : PinK K π π') : EK K B w w mu mu' π π' :=
  ⟨fun _ _ => rfl, Nat.le_refl _, fun b _ hm => ⟨rfl, fun hb => hm (h b hb)⟩, rfl, rfl, rfl, hp⟩
theorem EK.id {B : Nat → Prop} {w : World} {mu : Nat → Prop} {π : List (Option PB)} : EK K B w w mu mu π π := EK.less (fun _ h => h) (PinK.refl π)
theorem Ext.ek {B : Nat → Prop} {w w' : World} {mu mu' : Nat → Prop} {π π' : List (Option PB)} (h : Ext B w w' mu mu' π π') : EK K B w w' mu mu' π π' :=
  ⟨h.low, h.size, h.keep, h.os, h.tape, h.output, h.pin⟩

/-- From a state the code comes to what holds. -/
def SC (K : Nat) (P : Program) (st : St) (c : Code) (Q : X → St → Prop) : Prop :=
  ∀ (out : Nat → Prop) (B : Nat → Prop) (w : World) (π : List (Option PB)) (a : Act) (R : Exit → Act → World → Prop), Rep out B w π st a →
    (∀ x st' a' w' π', Q x st' → Rep out B w' π' st' a' → EK K B w w' (muOf out π st.heap) (muOf out π' st'.heap) π π' → R x.toExit a' w') → c.wp P R a w

/-- The same memory, known by less. -/
def Wk (K : Nat) (st st' : St) : Prop := ∀ (out : Nat → Prop) (B : Nat → Prop) (w : World) (π : List (Option PB)) (a : Act), Rep out B w π st a →
  ∃ π', Rep out B w π' st' a ∧ (∀ b, muOf out π' st'.heap b → muOf out π st.heap b) ∧ PinK K π π'
theorem Wk.refl (st : St) : Wk K st st := fun _ _ _ π _ h => ⟨π, h, fun _ h => h, PinK.refl π⟩
theorem Wk.trans {a b c : St} (h : Wk K a b) (k : Wk K b c) : Wk K a c := fun out B w π x hR => by
  obtain ⟨π1, h1, h2, h3⟩ := h out B w π x hR
  obtain ⟨π2, k1, k2, k3⟩ := k out B w π1 x h1
  exact ⟨π2, k1, fun b hb => h2 b (k2 b hb), h3.trans k3⟩

/-- What is left to be done. -/
inductive Fr where
  | c (d : Code)
  | b (id : Nat)

def CQ (K : Nat) (P : Program) : List Fr → (X → St → Prop) → X → St → Prop
  | [], F, x, st => F x st
  | .c d :: k, F, .normal, st => SC K P st d (CQ K P k F)
  | .c _ :: k, F, .exit j, st => CQ K P k F (.exit j) st
  | .c _ :: k, F, .ret, st => CQ K P k F .ret st
  | .b i :: k, F, .exit j, st => match decide (j = i) with | true => CQ K P k F .normal st | false => CQ K P k F (.exit j) st
  | .b _ :: k, F, .normal, st => CQ K P k F .normal st
  | .b _ :: k, F, .ret, st => CQ K P k F .ret st

/-- Where an exit leads. -/
def unwind (j : Nat) : List Fr → Option (List Fr)
  | [] => none
  | .c _ :: k => unwind j k
  | .b i :: k => match decide (j = i) with | true => some k | false => unwind j k

/-- A program of which the engine may speak. -/
structure Fine (P : Program) : Prop where
  ng : NoNG P
  mo : P.follows .mixedOrders = true

section
variable {P : Program} {k : List Fr} {F : X → St → Prop} {st : St}

theorem SC.mono {c : Code} {Q Q' : X → St → Prop} (h : SC K P st c Q) (hQ : ∀ x st', Q x st' → Q' x st') : SC K P st c Q' :=
  fun out B w π a R hR hr => h out B w π a R hR fun x st' a' w' π' hq => hr x st' a' w' π' (hQ x st' hq)
theorem SC.wk {c : Code} {Q : X → St → Prop} {st' : St} (h : Wk K st st') (hs : SC K P st' c Q) : SC K P st c Q :=
  fun out B w π a R hR hr => by
    obtain ⟨π', h1, h2, h3⟩ := h out B w π a hR
    exact hs out B w π' a R h1 fun x st2 a2 w2 π2 hq hR2 hE => hr x st2 a2 w2 π2 hq hR2 ((EK.less h2 h3).trans hE)

theorem CQ_ret : ∀ (k : List Fr) {F : X → St → Prop} {st : St}, F .ret st → CQ K P k F .ret st
  | [], _, _, h => h
  | .c _ :: k, _, _, h => CQ_ret k h
  | .b _ :: k, _, _, h => CQ_ret k h
theorem CQ_exit {j : Nat} : ∀ (k : List Fr) {k' : List Fr} {F : X → St → Prop} {st : St}, unwind j k = some k' → CQ K P k' F .normal st → CQ K P k F (.exit j) st
  | [], _, _, _, h, _ => by cases h
  | .c _ :: k, _, _, _, h, hc => CQ_exit k h hc
  | .b i :: k, k', F, st, h, hc => by
    simp only [unwind] at h
    simp only [CQ]
    split at h
    · cases h; exact hc
    · exact CQ_exit k h hc
theorem CQ_out {j : Nat} : ∀ (k : List Fr) {F : X → St → Prop} {st : St}, unwind j k = none → F (.exit j) st → CQ K P k F (.exit j) st
  | [], _, _, _, hc => hc
  | .c _ :: k, _, _, h, hc => CQ_out k h hc
  | .b i :: k, F, st, h, hc => by
    simp only [unwind] at h
    simp only [CQ]
    split at h
    · cases h
    · exact CQ_out k h hc

theorem CQ.seq {a b : Code} (h : CQ K P (.c a :: .c b :: k) F .normal st) : CQ K P (.c (.seq a b) :: k) F .normal st := by
  intro out B w π act R hR hr
  refine wp_seq (h out B w π act _ hR fun x st' a' w' π' hq hR' hE => ?_)
  cases x with
  | normal => exact hq out B w' π' a' R hR' fun x2 st2 a2 w2 π2 hq2 hR2 hE2 => hr x2 st2 a2 w2 π2 hq2 hR2 (hE.trans hE2)
  | exit i => exact hr _ st' a' w' π' hq hR' hE
  | ret => exact hr _ st' a' w' π' hq hR' hE
theorem CQ.block {c : Code} {i : Nat} (h : CQ K P (.c c :: .b i :: k) F .normal st) : CQ K P (.c (.block i c) :: k) F .normal st := by
  intro out B w π act R hR hr
  refine wp_block (h out B w π act _ hR fun x st' a' w' π' hq hR' hE => ?_)
  cases x with
  | normal => exact hr .normal st' a' w' π' hq hR' hE
  | ret => exact hr .ret st' a' w' π' hq hR' hE
  | exit j =>
    simp only [CQ] at hq
    by_cases hj : j = i
    · subst hj
      simp only [decide_true] at hq
      simp only [X.toExit, Exit.inBlock, if_true]
      exact hr .normal st' a' w' π' hq hR' hE
    · simp only [hj, decide_false] at hq
      simp only [X.toExit, Exit.inBlock, if_neg hj]
      exact hr (.exit j) st' a' w' π' hq hR' hE
theorem CQ.skip (h : CQ K P k F .normal st) : CQ K P (.c .skip :: k) F .normal st := fun out B w π act R hR hr => wp_skip (hr .normal st act w π h hR EK.id)
theorem CQ.label {i : Nat} (h : CQ K P k F .normal st) : CQ K P (.c (.label i) :: k) F .normal st := fun out B w π act R hR hr => wp_label (hr .normal st act w π h hR EK.id)
theorem CQ.retx (h : CQ K P k F .ret st) : CQ K P (.c .ret :: k) F .normal st := fun out B w π act R hR hr => wp_ret (hr .ret st act w π h hR EK.id)
theorem CQ.exitx {i : Nat} (h : CQ K P k F (.exit i) st) : CQ K P (.c (.exit i) :: k) F .normal st := fun out B w π act R hR hr => wp_exit (hr (.exit i) st act w π h hR EK.id)
theorem CQ.ret (h : F .ret st) : CQ K P (.c .ret :: k) F .normal st := CQ.retx (CQ_ret k h)
theorem CQ.exit {i : Nat} {k' : List Fr} (hu : unwind i k = some k') (h : CQ K P k' F .normal st) : CQ K P (.c (.exit i) :: k) F .normal st := CQ.exitx (CQ_exit k hu h)
theorem CQ.leave {i : Nat} (hu : unwind i k = none) (h : F (.exit i) st) : CQ K P (.c (.exit i) :: k) F .normal st := CQ.exitx (CQ_out k hu h)
theorem CQ.pop {i : Nat} (h : CQ K P k F .normal st) : CQ K P (.b i :: k) F .normal st := h
theorem CQ.nil (h : F .normal st) : CQ K P [] F .normal st := h
theorem CQ.cond {c : Operand} {a b : Code} {t : Bool} (hv : evA st.slots c = .at (.bool t)) (h1 : t = true → CQ K P (.c a :: k) F .normal st) (h2 : t = false → CQ K P (.c b :: k) F .normal st) : CQ K P (.c (.cond c a b) :: k) F .normal st := by
  intro out B w π act R hR hr
  have he : act.eval c = .bool t := by have := evA_sound hR.slots c; rw [hv] at this; exact this
  cases t with
  | true => exact wp_cond_true he (h1 rfl out B w π act R hR hr)
  | false => exact wp_cond_false he (h2 rfl out B w π act R hR hr)
theorem CQ.wk {d : Code} {st' : St} (h : Wk K st st') (hs : CQ K P (.c d :: k) F .normal st') : CQ K P (.c d :: k) F .normal st := SC.wk h hs

theorem CQ.region (G : Fine P) {call : CallF} (hcall : CallsOk P call) {i : Nat} {l : List Oper} {s : List AV} {h : List Blk} (he : EVO P call l l s h (fun s' h' => CQ K P k F .normal ⟨s', h'⟩)) : CQ K P (.c (.region i l.toArray false) :: k) F .normal ⟨s, h⟩ := by
  intro out B w π act R hR hr
  obtain ⟨st', e, hq⟩ := he
  refine evalRegion_sound G.ng G.mo hcall (st' := st') (by simpa [evalRegion] using e) hR fun a' w' π' hR' hE => ?_
  exact hr .normal st' a' w' π' hq hR' hE.ek
theorem CQ.regionT (G : Fine P) {call : CallF} (hcall : CallsOk P call) {i : Nat} {l : List Oper} {s : List AV} {h : List Blk} (he : EVT P call l l s h (fun s' h' es => drawOk l es = true ∧ CQ K P k F .normal ⟨s', h'⟩)) : CQ K P (.c (.region i l.toArray true) :: k) F .normal ⟨s, h⟩ := by
  intro out B w π act R hR hr
  obtain ⟨st', es, e, hd, hq⟩ := he
  unfold drawOk at hd
  refine evalRegion_sound G.ng G.mo hcall (st' := st') (draw := true) (ops := l.toArray) ?_ hR fun a' w' π' hR' hE => ?_
  · simp only [evalRegion, e, hd]
  · exact hr .normal st' a' w' π' hq hR' hE.ek

/-- A loop's head comes again. -/
def loopF (K : Nat) {α : Type} (σ : α → St) (I : Nat → α → Prop) (n : Nat) (Q : X → St → Prop) : X → St → Prop
  | .normal, st' => ∃ m a', m < n ∧ I m a' ∧ Wk K st' (σ a')
  | x, st' => Q x st'
theorem loopF_back {α : Type} {σ : α → St} {I : Nat → α → Prop} {n : Nat} {Q : X → St → Prop} (a' : α) (h : I n a') (hw : Wk K st (σ a')) : loopF K σ I (n + 1) Q .normal st := ⟨n, a', Nat.lt_succ_self n, h, hw⟩

theorem SC.loop {α : Type} {c : Code} {Q : X → St → Prop} (σ : α → St) (I : Nat → α → Prop) (hb : ∀ n a, I n a → CQ K P [.c c] (loopF K σ I n Q) .normal (σ a)) {m : Nat} {a0 : α} (h0 : I m a0) : SC K P (σ a0) (.loop c) Q := by
  intro out B w π act R hR hr
  refine wp_loop_rounds (m + 1) ?_
  have key : ∀ (N n : Nat) (a : α) (w1 : World) (π1 : List (Option PB)) (act1 : Act), n < N → I n a → Rep out B w1 π1 (σ a) act1 → EK K B w w1 (muOf out π (σ a0).heap) (muOf out π1 (σ a).heap) π π1 → Code.rounds P c R N act1 w1 := by
    intro N
    induction N with
    | zero => intro n a w1 π1 act1 hn; omega
    | succ N ih =>
      intro n a w1 π1 act1 hn hI hR1 hE1
      rw [rounds_succ]
      refine hb n a hI out B w1 π1 act1 _ hR1 fun x st' a' w' π' hq hR' hE' => ?_
      cases x with
      | normal =>
        obtain ⟨m', a2, hm, hI2, hw⟩ := hq
        obtain ⟨π2, g1, g2, g3⟩ := hw out B w' π' a' hR'
        exact ih m' a2 w' π2 a' (by omega) hI2 g1 (hE1.trans (hE'.trans (EK.less g2 g3)))
      | exit i => exact hr (.exit i) st' a' w' π' hq hR' (hE1.trans hE')
      | ret => exact hr .ret st' a' w' π' hq hR' (hE1.trans hE')
  exact key (m + 1) m a0 w π act (Nat.lt_succ_self m) h0 hR EK.id
/-- A loop, with what holds behind it. -/
theorem CQ.loop {α : Type} {c : Code} (σ : α → St) (I : Nat → α → Prop) (Q : X → St → Prop) {m : Nat} (a0 : α) (h0 : I m a0) (hw : Wk K st (σ a0)) (hb : ∀ n a, I n a → CQ K P [.c c] (loopF K σ I n Q) .normal (σ a)) (ha : ∀ x st', Q x st' → CQ K P k F x st') : CQ K P (.c (.loop c) :: k) F .normal st :=
  SC.wk hw ((SC.loop σ I hb h0).mono ha)

/-! Operations. -/
section
variable {call : CallF} {ops rest : List Oper} {o : Oper} {s : List AV} {h : List Blk} {K : List AV → List Blk → Prop} {KT : List AV → List Blk → List Ent → Prop} {v : AV} {ws : List (Nat × Blk)}

theorem EVO.done {N : Nat} {k : List Fr} {F : X → St → Prop} (hk : CQ N P k F .normal ⟨s, h⟩) : EVO P call ops [] s h (fun s' h' => CQ N P k F .normal ⟨s', h'⟩) := ⟨_, rfl, hk⟩
theorem EVO.pure (hw : wantedA ops o s = some true) (he : evalOp P (evA s) h h.length o = some (.pure v)) (hk : EVO P call ops rest (putA s o.dst v) h K) : EVO P call ops (o :: rest) s h K :=
  EVO_cons_iff.2 ((stepA_true hw (K := fun st => EVO P call ops rest st.slots st.heap K)).2 (by rw [he]; exact hk))
theorem EVO.eff (hw : wantedA ops o s = some true) (he : evalOp P (evA s) h h.length o = some (.eff v ws)) (hk : EVO P call ops rest (putA s o.dst v) (updAll h ws) K) : EVO P call ops (o :: rest) s h K :=
  EVO_cons_iff.2 ((stepA_true hw (K := fun st => EVO P call ops rest st.slots st.heap K)).2 (by rw [he]; exact hk))
theorem EVO.cal {f : FuncId} {args : List AV} {rd : List Nat} {n : Nat} (hw : wantedA ops o s = some true) (he : evalOp P (evA s) h h.length o = some (.call f args)) (hc : call f args h = some (.loc v ws rd n)) (hk : EVO P call ops rest (putA s o.dst v) (updAll (h ++ deads n) ws) K) : EVO P call ops (o :: rest) s h K :=
  EVO_cons_iff.2 ((stepA_true hw (K := fun st => EVO P call ops rest st.slots st.heap K)).2 (by rw [he, EVP_call, hc]; exact hk))
theorem EVO.skip (hw : wantedA ops o s = some false) (hk : EVO P call ops rest (putA s o.dst (.at undef)) h K) : EVO P call ops (o :: rest) s h K :=
  EVO_cons_iff.2 ((stepA_false hw (K := fun st => EVO P call ops rest st.slots st.heap K)).2 hk)
theorem evalOps_app : ∀ (l1 l2 : List Oper) (st : St), evalOps P call ops (l1 ++ l2) st = match evalOps P call ops l1 st with | some st' => evalOps P call ops l2 st' | none => none
  | [], l2, st => rfl
  | o :: l1, l2, st => by
    simp only [List.cons_append, evalOps]
    split
    · exact evalOps_app l1 l2 _
    · rfl
/-- Many operations at once. -/
theorem EVO.many {l1 l2 : List Oper} {s1 : List AV} {h1 : List Blk} (he : evalOps P call ops l1 ⟨s, h⟩ = some ⟨s1, h1⟩) (hk : EVO P call ops l2 s1 h1 K) : EVO P call ops (l1 ++ l2) s h K := by
  obtain ⟨st', e, hq⟩ := hk
  refine ⟨st', ?_, hq⟩
  rw [evalOps_app, he]; exact e

noncomputable def entP (o : Oper) (s : List AV) (h : List Blk) (v : AV) (ws : List (Nat × Blk)) : Ent := ⟨o, h.length, v, ws, readsOf (evA s) o, 0⟩
theorem EVT.done (hd : KT s h []) : EVT P call ops [] s h KT := ⟨_, [], rfl, hd⟩
theorem EVT.step {st1 : St} {e : Ent} (hs : stepA P call ops o ⟨s, h⟩ = some (st1, some e)) (hok : entOk h.length e = true) (hk : EVT P call ops rest st1.slots st1.heap (fun s' h' es => KT s' h' (e :: es))) : EVT P call ops (o :: rest) s h KT := by
  obtain ⟨st', es, e1, hq⟩ := hk
  refine ⟨st', e :: es, ?_, hq⟩
  simp only [traceOps, hs, hok, e1]
theorem EVT.pure (hw : wantedA ops o s = some true) (he : evalOp P (evA s) h h.length o = some (.pure v)) (hok : entOk h.length (entP o s h v []) = true) (hk : EVT P call ops rest (putA s o.dst v) h (fun s' h' es => KT s' h' (entP o s h v [] :: es))) : EVT P call ops (o :: rest) s h KT :=
  EVT.step (st1 := ⟨putA s o.dst v, h⟩) (by simp only [stepA, hw, he, putK_eq, entP]) hok hk
theorem EVT.eff (hw : wantedA ops o s = some true) (he : evalOp P (evA s) h h.length o = some (.eff v ws)) (hok : entOk h.length (entP o s h v ws) = true) (hk : EVT P call ops rest (putA s o.dst v) (updAll h ws) (fun s' h' es => KT s' h' (entP o s h v ws :: es))) : EVT P call ops (o :: rest) s h KT :=
  EVT.step (st1 := ⟨putA s o.dst v, updAll h ws⟩) (by simp only [stepA, hw, he, putK_eq, entP]) hok hk
def entC (o : Oper) (h : List Blk) (v : AV) (ws : List (Nat × Blk)) (rd : List Nat) (n : Nat) : Ent := ⟨o, h.length, v, ws, rd, n⟩
theorem EVT.cal {f : FuncId} {args : List AV} {rd : List Nat} {n : Nat} (hw : wantedA ops o s = some true) (he : evalOp P (evA s) h h.length o = some (.call f args)) (hc : call f args h = some (.loc v ws rd n)) (hok : entOk h.length (entC o h v ws rd n) = true)
    (hk : EVT P call ops rest (putA s o.dst v) (updAll (h ++ deads n) ws) (fun s' h' es => KT s' h' (entC o h v ws rd n :: es))) : EVT P call ops (o :: rest) s h KT :=
  EVT.step (st1 := ⟨putA s o.dst v, updAll (h ++ deads n) ws⟩) (by simp only [stepA, hw, he, hc, putK_eq, entC]) hok hk
def entS (o : Oper) (h : List Blk) : Ent := ⟨o, h.length, .at undef, [], [], 0⟩
theorem EVT.skip (hw : wantedA ops o s = some false) (hok : entOk h.length (entS o h) = true) (hk : EVT P call ops rest (putA s o.dst (.at undef)) h (fun s' h' es => KT s' h' (entS o h :: es))) : EVT P call ops (o :: rest) s h KT :=
  EVT.step (st1 := ⟨putA s o.dst (.at undef), h⟩) (by simp only [stepA, hw, putK_eq, entS]) hok hk
theorem traceOps_app : ∀ (l1 l2 : List Oper) (st st1 st2 : St) (es1 es2 : List Ent), traceOps P call ops l1 st = some (st1, es1) → traceOps P call ops l2 st1 = some (st2, es2) → traceOps P call ops (l1 ++ l2) st = some (st2, es1 ++ es2)
  | [], l2, st, st1, st2, es1, es2, h1, h2 => by simp only [traceOps] at h1; cases h1; exact h2
  | o :: l1, l2, st, st1, st2, es1, es2, h1, h2 => by
    simp only [traceOps] at h1
    simp only [List.cons_append, traceOps]
    split at h1
    · split at h1
      · rename_i st'' es hok htr
        cases h1
        simp only [hok, traceOps_app l1 l2 _ _ _ _ _ htr h2]; rfl
      · cases h1
    · cases h1
/-- The entries of a stretch. -/
noncomputable def trEs (P : Program) (call : CallF) (ops l : List Oper) (s : List AV) (h : List Blk) : List Ent := match traceOps P call ops l ⟨s, h⟩ with | some (_, es) => es | none => []
theorem EVT.many {l1 l2 : List Oper} {s1 : List AV} {h1 : List Blk} (he : (match traceOps P call ops l1 ⟨s, h⟩ with | some (st, _) => some st | none => none) = some ⟨s1, h1⟩) (hk : EVT P call ops l2 s1 h1 (fun s' h' es => KT s' h' (trEs P call ops l1 s h ++ es))) : EVT P call ops (l1 ++ l2) s h KT := by
  obtain ⟨st', es, e, hq⟩ := hk
  split at he
  · rename_i st1 es1 e1
    cases he
    refine ⟨st', es1 ++ es, traceOps_app _ _ _ _ _ _ _ e1 e, ?_⟩
    have : trEs P call ops l1 s h = es1 := by simp only [trEs, e1]
    rw [this] at hq; exact hq
  · cases he
end
end
end Go.Eng
