import Derived.Test.YtlpfiiejhikalaaGreatEng16Trks
set_option linter.all false
set_option linter.unusedVariables false
namespace Go.Eng
open Go Go.RowKit
variable [Dr]
variable {K : Nat}
def jX (K : Nat) (Z Z' : List (Option PB)) : Prop := ∀ i, i < K -> ∀ p, Z[i]? = some (some p) -> Z'[i]? = some (some p)
theorem jX.refl (Z : List (Option PB)) : jX K Z Z := fun _ _ _ h => h
theorem jX.trans {Z Z' Z'' : List (Option PB)} (h : jX K Z Z') (k : jX K Z' Z'') : jX K Z Z'' := fun i hi p hp => k i hi p (h i hi p hp)
theorem Ext.pin {B : Nat -> Prop} {w w' : World} {mu mu' : Nat -> Prop} {Z Z' : List (Option PB)} (h : Ext B w w' mu mu' Z Z') : jX K Z Z' := fun i _ p hp => h.pre i p hp
structure EK (K : Nat) (B : Nat -> Prop) (w w' : World) (mu mu' : Nat -> Prop) (Z Z' : List (Option PB)) : Prop where
 low : ∀ b, B b -> w'.heap[b]? = w.heap[b]?
 size : w.heap.size <= w'.heap.size
 keep : ∀ b, b < w.heap.size -> ¬ mu b -> w'.heap[b]? = w.heap[b]? /\ ¬ mu' b
 os : w'.os = w.os
 tape : w'.tape = w.tape
 output : w'.output = w.output
 pin : jX K Z Z'
 drawn : Dr.d = true -> w.drawn <= w'.drawn
theorem EK.trans {B : Nat -> Prop} {w w' w'' : World} {mu mu' mu'' : Nat -> Prop} {Z Z' Z'' : List (Option PB)} (h : EK K B w w' mu mu' Z Z') (k : EK K B w' w'' mu' mu'' Z' Z'') : EK K B w w'' mu mu'' Z Z'' :=
 ⟨fun b hb => (k.low b hb).trans (h.low b hb), Nat.le_trans h.size k.size, fun b hb hm => by
  have h1 := h.keep b hb hm
  have h2 := k.keep b (Nat.lt_of_lt_of_le hb h.size) h1.2
  exact ⟨h2.1.trans h1.1, h2.2⟩, k.os.trans h.os, k.tape.trans h.tape, k.output.trans h.output, h.pin.trans k.pin, fun e => Nat.le_trans (h.drawn e) (k.drawn e)⟩
theorem EK.less {B : Nat -> Prop} {w : World} {mu mu' : Nat -> Prop} {Z Z' : List (Option PB)} (h : ∀ b, mu' b -> mu b) (hp : jX K Z Z') : EK K B w w mu mu' Z Z' :=
 ⟨fun _ _ => rfl, Nat.le_refl _, fun b _ hm => ⟨rfl, fun hb => hm (h b hb)⟩, rfl, rfl, rfl, hp, fun _ => Nat.le_refl _⟩
theorem EK.id {B : Nat -> Prop} {w : World} {mu : Nat -> Prop} {Z : List (Option PB)} : EK K B w w mu mu Z Z := EK.less (fun _ h => h) (jX.refl Z)
theorem Ext.ek {B : Nat -> Prop} {w w' : World} {mu mu' : Nat -> Prop} {Z Z' : List (Option PB)} (h : Ext B w w' mu mu' Z Z') : EK K B w w' mu mu' Z Z' :=
 ⟨h.low, h.size, h.keep, h.os, h.tape, h.output, h.pin, h.drawn⟩
def SC (K : Nat) (P : Program) (st : St) (c : Code) (Q : X -> St -> Prop) : Prop :=
 ∀ (out : Nat -> Prop) (B : Nat -> Prop) (w : World) (Z : List (Option PB)) (a : Act) (R : Exit -> Act -> World -> Prop), Rep out B w Z st a ->
  (∀ x st' a' w' Z', Q x st' -> Rep out B w' Z' st' a' -> EK K B w w' (aH out Z st.heap) (aH out Z' st'.heap) Z Z' -> R x.vQ a' w') -> c.wp P R a w
def Wk (K : Nat) (st st' : St) : Prop := ∀ (out : Nat -> Prop) (B : Nat -> Prop) (w : World) (Z : List (Option PB)) (a : Act), Rep out B w Z st a ->
 ∃ Z', Rep out B w Z' st' a /\ (∀ b, aH out Z' st'.heap b -> aH out Z st.heap b) /\ jX K Z Z'
theorem Wk.refl (st : St) : Wk K st st := fun _ _ _ Z _ h => ⟨Z, h, fun _ h => h, jX.refl Z⟩
theorem Wk.trans {a b c : St} (h : Wk K a b) (k : Wk K b c) : Wk K a c := fun out B w Z x hR => by
 obtain ⟨Z1, h1, h2, h3⟩ := h out B w Z x hR
 obtain ⟨Z2, k1, k2, k3⟩ := k out B w Z1 x h1
 exact ⟨Z2, k1, fun b hb => h2 b (k2 b hb), h3.trans k3⟩
inductive Fr where
 | c (d : Code)
 | b (id : Nat)
def CQ (K : Nat) (P : Program) : List Fr -> (X -> St -> Prop) -> X -> St -> Prop
 | [], F, x, st => F x st
 | .c d :: k, F, .normal, st => SC K P st d (CQ K P k F)
 | .c _ :: k, F, .exit j, st => CQ K P k F (.exit j) st
 | .c _ :: k, F, .ret, st => CQ K P k F .ret st
 | .b i :: k, F, .exit j, st => match decide (j = i) with | true => CQ K P k F .normal st | false => CQ K P k F (.exit j) st
 | .b _ :: k, F, .normal, st => CQ K P k F .normal st
 | .b _ :: k, F, .ret, st => CQ K P k F .ret st
def unwind (j : Nat) : List Fr -> Option (List Fr)
 | [] => none
 | .c _ :: k => unwind j k
 | .b i :: k => match decide (j = i) with | true => some k | false => unwind j k
structure lH (P : Program) : Prop where
 ng : tm P
 mo : P.follows .mixedOrders = true
section
variable {P : Program} {k : List Fr} {F : X -> St -> Prop} {st : St}
theorem SC.mono {c : Code} {Q Q' : X -> St -> Prop} (h : SC K P st c Q) (hQ : ∀ x st', Q x st' -> Q' x st') : SC K P st c Q' :=
 fun out B w Z a R hR hr => h out B w Z a R hR fun x st' a' w' Z' hq => hr x st' a' w' Z' (hQ x st' hq)
theorem SC.wk {c : Code} {Q : X -> St -> Prop} {st' : St} (h : Wk K st st') (hs : SC K P st' c Q) : SC K P st c Q :=
 fun out B w Z a R hR hr => by
  obtain ⟨Z', h1, h2, h3⟩ := h out B w Z a hR
  exact hs out B w Z' a R h1 fun x st2 a2 w2 Z2 hq hR2 hE => hr x st2 a2 w2 Z2 hq hR2 ((EK.less h2 h3).trans hE)
theorem fp : ∀ (k : List Fr) {F : X -> St -> Prop} {st : St}, F .ret st -> CQ K P k F .ret st
 | [], _, _, h => h
 | .c _ :: k, _, _, h => fp k h
 | .b _ :: k, _, _, h => fp k h
theorem a8 {j : Nat} : ∀ (k : List Fr) {k' : List Fr} {F : X -> St -> Prop} {st : St}, unwind j k = some k' -> CQ K P k' F .normal st -> CQ K P k F (.exit j) st
 | [], _, _, _, h, _ => by cases h
 | .c _ :: k, _, _, _, h, hc => a8 k h hc
 | .b i :: k, k', F, st, h, hc => by
  simp only [unwind] at h
  simp only [CQ]
  split at h
  · cases h; exact hc
  · exact a8 k h hc
theorem vZ {j : Nat} : ∀ (k : List Fr) {F : X -> St -> Prop} {st : St}, unwind j k = none -> F (.exit j) st -> CQ K P k F (.exit j) st
 | [], _, _, _, hc => hc
 | .c _ :: k, _, _, h, hc => vZ k h hc
 | .b i :: k, F, st, h, hc => by
  simp only [unwind] at h
  simp only [CQ]
  split at h
  · cases h
  · exact vZ k h hc
theorem CQ.seq {a b : Code} (h : CQ K P (.c a :: .c b :: k) F .normal st) : CQ K P (.c (.seq a b) :: k) F .normal st := by
 intro out B w Z act R hR hr
 refine wp_seq (h out B w Z act _ hR fun x st' a' w' Z' hq hR' hE => ?_)
 cases x with
 | normal => exact hq out B w' Z' a' R hR' fun x2 st2 a2 w2 Z2 hq2 hR2 hE2 => hr x2 st2 a2 w2 Z2 hq2 hR2 (hE.trans hE2)
 | exit i => exact hr _ st' a' w' Z' hq hR' hE
 | ret => exact hr _ st' a' w' Z' hq hR' hE
theorem CQ.block {c : Code} {i : Nat} (h : CQ K P (.c c :: .b i :: k) F .normal st) : CQ K P (.c (.block i c) :: k) F .normal st := by
 intro out B w Z act R hR hr
 refine wp_block (h out B w Z act _ hR fun x st' a' w' Z' hq hR' hE => ?_)
 cases x with
 | normal => exact hr .normal st' a' w' Z' hq hR' hE
 | ret => exact hr .ret st' a' w' Z' hq hR' hE
 | exit j =>
  simp only [CQ] at hq
  by_cases hj : j = i
  · subst hj
    simp only [decide_true] at hq
    simp only [X.vQ, Exit.inBlock, if_true]
    exact hr .normal st' a' w' Z' hq hR' hE
  · simp only [hj, decide_false] at hq
    simp only [X.vQ, Exit.inBlock, if_neg hj]
    exact hr (.exit j) st' a' w' Z' hq hR' hE
theorem CQ.skip (h : CQ K P k F .normal st) : CQ K P (.c .skip :: k) F .normal st := fun out B w Z act R hR hr => wp_skip (hr .normal st act w Z h hR EK.id)
theorem CQ.label {i : Nat} (h : CQ K P k F .normal st) : CQ K P (.c (.label i) :: k) F .normal st := fun out B w Z act R hR hr => wp_label (hr .normal st act w Z h hR EK.id)
theorem CQ.DF (h : CQ K P k F .ret st) : CQ K P (.c .ret :: k) F .normal st := fun out B w Z act R hR hr => wp_ret (hr .ret st act w Z h hR EK.id)
theorem CQ.zg {i : Nat} (h : CQ K P k F (.exit i) st) : CQ K P (.c (.exit i) :: k) F .normal st := fun out B w Z act R hR hr => wp_exit (hr (.exit i) st act w Z h hR EK.id)
theorem CQ.ret (h : F .ret st) : CQ K P (.c .ret :: k) F .normal st := CQ.DF (fp k h)
theorem CQ.exit {i : Nat} {k' : List Fr} (hu : unwind i k = some k') (h : CQ K P k' F .normal st) : CQ K P (.c (.exit i) :: k) F .normal st := CQ.zg (a8 k hu h)
theorem CQ.leave {i : Nat} (hu : unwind i k = none) (h : F (.exit i) st) : CQ K P (.c (.exit i) :: k) F .normal st := CQ.zg (vZ k hu h)
theorem CQ.pop {i : Nat} (h : CQ K P k F .normal st) : CQ K P (.b i :: k) F .normal st := h
theorem CQ.nil (h : F .normal st) : CQ K P [] F .normal st := h
theorem CQ.cond {c : Operand} {a b : Code} {t : Bool} (hv : evA st.slots c = .at (.bool t)) (h1 : t = true -> CQ K P (.c a :: k) F .normal st) (h2 : t = false -> CQ K P (.c b :: k) F .normal st) : CQ K P (.c (.cond c a b) :: k) F .normal st := by
 intro out B w Z act R hR hr
 have he : act.eval c = .bool t := by have := ja hR.slots c; rw [hv] at this; exact this
 cases t with
 | true => exact wp_cond_true he (h1 rfl out B w Z act R hR hr)
 | false => exact wp_cond_false he (h2 rfl out B w Z act R hR hr)
theorem CQ.wk {d : Code} {st' : St} (h : Wk K st st') (hs : CQ K P (.c d :: k) F .normal st') : CQ K P (.c d :: k) F .normal st := SC.wk h hs
theorem CQ.region (G : lH P) {call : dN} (hcall : gL P call) {i : Nat} {l : List Oper} {s : List AV} {h : List Blk} (he : EVO P call l l s h (fun s' h' => CQ K P k F .normal ⟨s', h'⟩)) : CQ K P (.c (.region i l.toArray false) :: k) F .normal ⟨s, h⟩ := by
 intro out B w Z act R hR hr
 obtain ⟨st', e, hq⟩ := he
 refine k9 G.ng G.mo hcall (st' := st') (by simpa [gC] using e) hR fun a' w' Z' hR' hE => ?_
 exact hr .normal st' a' w' Z' hq hR' hE.ek
theorem CQ.ba (G : lH P) {call : dN} (hcall : gL P call) {i : Nat} {l : List Oper} {s : List AV} {h : List Blk} (he : EVT P call l l s h (fun s' h' es => pB l es = true /\ CQ K P k F .normal ⟨s', h'⟩)) : CQ K P (.c (.region i l.toArray true) :: k) F .normal ⟨s, h⟩ := by
 intro out B w Z act R hR hr
 obtain ⟨st', es, e, hd, hq⟩ := he
 unfold pB at hd
 refine k9 G.ng G.mo hcall (st' := st') (draw := true) (ops := l.toArray) ?_ hR fun a' w' Z' hR' hE => ?_
 · simp only [gC, e, hd]
 · exact hr .normal st' a' w' Z' hq hR' hE.ek
def xf (K : Nat) {α : Type} (σ : α -> St) (I : Nat -> α -> Prop) (n : Nat) (Q : X -> St -> Prop) : X -> St -> Prop
 | .normal, st' => ∃ m a', m < n /\ I m a' /\ Wk K st' (σ a')
 | x, st' => Q x st'
theorem aF {α : Type} {σ : α -> St} {I : Nat -> α -> Prop} {n : Nat} {Q : X -> St -> Prop} (a' : α) (h : I n a') (hw : Wk K st (σ a')) : xf K σ I (n + 1) Q .normal st := ⟨n, a', Nat.lt_succ_self n, h, hw⟩
theorem SC.loop {α : Type} {c : Code} {Q : X -> St -> Prop} (σ : α -> St) (I : Nat -> α -> Prop) (hb : ∀ n a, I n a -> CQ K P [.c c] (xf K σ I n Q) .normal (σ a)) {m : Nat} {a0 : α} (h0 : I m a0) : SC K P (σ a0) (.loop c) Q := by
 intro out B w Z act R hR hr
 refine wp_loop_rounds (m + 1) ?_
 have key : ∀ (N n : Nat) (a : α) (w1 : World) (Z1 : List (Option PB)) (act1 : Act), n < N -> I n a -> Rep out B w1 Z1 (σ a) act1 -> EK K B w w1 (aH out Z (σ a0).heap) (aH out Z1 (σ a).heap) Z Z1 -> Code.rounds P c R N act1 w1 := by
  intro N
  induction N with
  | zero => intro n a w1 Z1 act1 hn; omega
  | succ N ih =>
   intro n a w1 Z1 act1 hn hI hR1 hE1
   rw [rounds_succ]
   refine hb n a hI out B w1 Z1 act1 _ hR1 fun x st' a' w' Z' hq hR' hE' => ?_
   cases x with
   | normal =>
    obtain ⟨m', a2, hm, hI2, hw⟩ := hq
    obtain ⟨Z2, g1, g2, g3⟩ := hw out B w' Z' a' hR'
    exact ih m' a2 w' Z2 a' (by omega) hI2 g1 (hE1.trans (hE'.trans (EK.less g2 g3)))
   | exit i => exact hr (.exit i) st' a' w' Z' hq hR' (hE1.trans hE')
   | ret => exact hr .ret st' a' w' Z' hq hR' (hE1.trans hE')
 exact key (m + 1) m a0 w Z act (Nat.lt_succ_self m) h0 hR EK.id
theorem CQ.loop {α : Type} {c : Code} (σ : α -> St) (I : Nat -> α -> Prop) (Q : X -> St -> Prop) {m : Nat} (a0 : α) (h0 : I m a0) (hw : Wk K st (σ a0)) (hb : ∀ n a, I n a -> CQ K P [.c c] (xf K σ I n Q) .normal (σ a)) (ha : ∀ x st', Q x st' -> CQ K P k F x st') : CQ K P (.c (.loop c) :: k) F .normal st :=
 SC.wk hw ((SC.loop σ I hb h0).mono ha)
section
variable {call : dN} {ops rest : List Oper} {o : Oper} {s : List AV} {h : List Blk} {K : List AV -> List Blk -> Prop} {KT : List AV -> List Blk -> List Ent -> Prop} {v : AV} {ws : List (Nat × Blk)}
theorem EVO.done {N : Nat} {k : List Fr} {F : X -> St -> Prop} (hk : CQ N P k F .normal ⟨s, h⟩) : EVO P call ops [] s h (fun s' h' => CQ N P k F .normal ⟨s', h'⟩) := ⟨_, rfl, hk⟩
theorem EVO.pure (hw : cE ops o s = some true) (he : evalOp P (evA s) h h.length o = some (.pure v)) (hk : EVO P call ops rest (eS s o.dst v) h K) : EVO P call ops (o :: rest) s h K :=
 iJ.2 ((lD hw (K := fun st => EVO P call ops rest st.slots st.heap K)).2 (by rw [he]; exact hk))
theorem EVO.eff (hw : cE ops o s = some true) (he : evalOp P (evA s) h h.length o = some (.eff v ws)) (hk : EVO P call ops rest (eS s o.dst v) (aO h ws) K) : EVO P call ops (o :: rest) s h K :=
 iJ.2 ((lD hw (K := fun st => EVO P call ops rest st.slots st.heap K)).2 (by rw [he]; exact hk))
theorem EVO.cal {f : FuncId} {args : List AV} {rd : List Nat} {n : Nat} (hw : cE ops o s = some true) (he : evalOp P (evA s) h h.length o = some (.call f args)) (hc : call f args h = some (.loc v ws rd n)) (hk : EVO P call ops rest (eS s o.dst v) (aO (h ++ ft n) ws) K) : EVO P call ops (o :: rest) s h K :=
 iJ.2 ((lD hw (K := fun st => EVO P call ops rest st.slots st.heap K)).2 (by rw [he, y7, hc]; exact hk))
theorem EVO.skip (hw : cE ops o s = some false) (hk : EVO P call ops rest (eS s o.dst (.at undef)) h K) : EVO P call ops (o :: rest) s h K :=
 iJ.2 ((vg hw (K := fun st => EVO P call ops rest st.slots st.heap K)).2 hk)
theorem pI : ∀ (l1 l2 : List Oper) (st : St), e9 P call ops (l1 ++ l2) st = match e9 P call ops l1 st with | some st' => e9 P call ops l2 st' | none => none
 | [], l2, st => rfl
 | o :: l1, l2, st => by
  simp only [List.cons_append, e9]
  split
  · exact pI l1 l2 _
  · rfl
theorem EVO.many {l1 l2 : List Oper} {s1 : List AV} {h1 : List Blk} (he : e9 P call ops l1 ⟨s, h⟩ = some ⟨s1, h1⟩) (hk : EVO P call ops l2 s1 h1 K) : EVO P call ops (l1 ++ l2) s h K := by
 obtain ⟨st', e, hq⟩ := hk
 refine ⟨st', ?_, hq⟩
 rw [pI, he]; exact e
noncomputable def oN (o : Oper) (s : List AV) (h : List Blk) (v : AV) (ws : List (Nat × Blk)) : Ent := ⟨o, h.length, v, ws, lB h (evA s) o, 0⟩
theorem EVT.done (hd : KT s h []) : EVT P call ops [] s h KT := ⟨_, [], rfl, hd⟩
theorem EVT.step {st1 : St} {e : Ent} (hs : gP P call ops o ⟨s, h⟩ = some (st1, some e)) (hok : jC h.length e = true) (hk : EVT P call ops rest st1.slots st1.heap (fun s' h' es => KT s' h' (e :: es))) : EVT P call ops (o :: rest) s h KT := by
 obtain ⟨st', es, e1, hq⟩ := hk
 refine ⟨st', e :: es, ?_, hq⟩
 simp only [dY, hs, hok, e1]
theorem EVT.pure (hw : cE ops o s = some true) (he : evalOp P (evA s) h h.length o = some (.pure v)) (hok : jC h.length (oN o s h v []) = true) (hk : EVT P call ops rest (eS s o.dst v) h (fun s' h' es => KT s' h' (oN o s h v [] :: es))) : EVT P call ops (o :: rest) s h KT :=
 EVT.step (st1 := ⟨eS s o.dst v, h⟩) (by simp only [gP, hw, he, dz, oN]) hok hk
theorem EVT.eff (hw : cE ops o s = some true) (he : evalOp P (evA s) h h.length o = some (.eff v ws)) (hok : jC h.length (oN o s h v ws) = true) (hk : EVT P call ops rest (eS s o.dst v) (aO h ws) (fun s' h' es => KT s' h' (oN o s h v ws :: es))) : EVT P call ops (o :: rest) s h KT :=
 EVT.step (st1 := ⟨eS s o.dst v, aO h ws⟩) (by simp only [gP, hw, he, dz, oN]) hok hk
def yj (o : Oper) (h : List Blk) (v : AV) (ws : List (Nat × Blk)) (rd : List Nat) (n : Nat) : Ent := ⟨o, h.length, v, ws, rd, n⟩
theorem EVT.cal {f : FuncId} {args : List AV} {rd : List Nat} {n : Nat} (hw : cE ops o s = some true) (he : evalOp P (evA s) h h.length o = some (.call f args)) (hc : call f args h = some (.loc v ws rd n)) (hok : jC h.length (yj o h v ws rd n) = true)
  (hk : EVT P call ops rest (eS s o.dst v) (aO (h ++ ft n) ws) (fun s' h' es => KT s' h' (yj o h v ws rd n :: es))) : EVT P call ops (o :: rest) s h KT :=
 EVT.step (st1 := ⟨eS s o.dst v, aO (h ++ ft n) ws⟩) (by simp only [gP, hw, he, hc, dz, yj]) hok hk
def Bi (o : Oper) (h : List Blk) : Ent := ⟨o, h.length, .at undef, [], [], 0⟩
theorem EVT.skip (hw : cE ops o s = some false) (hok : jC h.length (Bi o h) = true) (hk : EVT P call ops rest (eS s o.dst (.at undef)) h (fun s' h' es => KT s' h' (Bi o h :: es))) : EVT P call ops (o :: rest) s h KT :=
 EVT.step (st1 := ⟨eS s o.dst (.at undef), h⟩) (by simp only [gP, hw, dz, Bi]) hok hk
theorem oT : ∀ (l1 l2 : List Oper) (st st1 st2 : St) (es1 es2 : List Ent), dY P call ops l1 st = some (st1, es1) -> dY P call ops l2 st1 = some (st2, es2) -> dY P call ops (l1 ++ l2) st = some (st2, es1 ++ es2)
 | [], l2, st, st1, st2, es1, es2, h1, h2 => by simp only [dY] at h1; cases h1; exact h2
 | o :: l1, l2, st, st1, st2, es1, es2, h1, h2 => by
  simp only [dY] at h1
  simp only [List.cons_append, dY]
  split at h1
  · split at h1
    · rename_i st'' es hok htr
      cases h1
      simp only [hok, oT l1 l2 _ _ _ _ _ htr h2]; rfl
    · cases h1
  · cases h1
noncomputable def zL (P : Program) (call : dN) (ops l : List Oper) (s : List AV) (h : List Blk) : List Ent := match dY P call ops l ⟨s, h⟩ with | some (_, es) => es | none => []
theorem EVT.many {l1 l2 : List Oper} {s1 : List AV} {h1 : List Blk} (he : (match dY P call ops l1 ⟨s, h⟩ with | some (st, _) => some st | none => none) = some ⟨s1, h1⟩) (hk : EVT P call ops l2 s1 h1 (fun s' h' es => KT s' h' (zL P call ops l1 s h ++ es))) : EVT P call ops (l1 ++ l2) s h KT := by
 obtain ⟨st', es, e, hq⟩ := hk
 split at he
 · rename_i st1 es1 e1
   cases he
   refine ⟨st', es1 ++ es, oT _ _ _ _ _ _ _ e1 e, ?_⟩
   have : zL P call ops l1 s h = es1 := by simp only [zL, e1]
   rw [this] at hq; exact hq
 · cases he
end
end
end Go.Eng


set_option linter.unusedVariables false
namespace Go.Eng
open Go Go.RowKit
variable [Dr]
variable {K : Nat}
section
variable {w w' : World} {mu mu' : Nat -> Prop} {Z Z' : List (Option PB)}
mutual
theorem iL (hmu : ∀ b, mu' b -> mu b) : (A : AV) -> (v : Value) -> jh A = [] -> Rv w mu Z A v -> Rv w mu' Z' A v
 | .unk, _, _, _ => trivial
 | .at x, v, _, h => h
 | .sl nl cs len, v, _, h => (Rv.ext (B := fun _ => False) (w' := w) (Z := []) (Z' := []) ⟨fun _ _ => rfl, Nat.le_refl _, fun b _ hb => ⟨rfl, fun hb' => hb (hmu b hb')⟩, fun _ _ h => h, rfl, rfl, rfl, fun _ => Nat.le_refl _⟩ (.sl nl cs len) v h)
 | .pp cs off, v, _, h => (Rv.ext (B := fun _ => False) (w' := w) (Z := []) (Z' := []) ⟨fun _ _ => rfl, Nat.le_refl _, fun b _ hb => ⟨rfl, fun hb' => hb (hmu b hb')⟩, fun _ _ h => h, rfl, rfl, rfl, fun _ => Nat.le_refl _⟩ (.pp cs off) v h)
 | .agg cs, v, hr, h => by
  obtain ⟨vs, rfl, hv⟩ := h
  exact ⟨vs, rfl, jb hmu cs _ (by simpa [jh] using hr) hv⟩
 | .tup cs, v, hr, h => by
  obtain ⟨vs, rfl, hv⟩ := h
  exact ⟨vs, rfl, jb hmu cs _ (by simpa [jh] using hr) hv⟩
 | .fn f fs cs, v, hr, h => by
  obtain ⟨a, c, rfl, h1, h2⟩ := h
  simp only [jh, List.append_eq_nil_iff] at hr
  exact ⟨a, c, rfl, jb hmu fs _ hr.1 h1, jb hmu cs _ hr.2 h2⟩
 | .hs .., _, hr, _ | .hc .., _, hr, _ | .hp .., _, hr, _ | .mp .., _, hr, _ => by simp [jh] at hr
theorem jb (hmu : ∀ b, mu' b -> mu b) : (cs : List AV) -> (vs : List Value) -> cn cs = [] -> RvL w mu Z cs vs -> RvL w mu' Z' cs vs
 | [], _, _, h => h
 | c :: cs, vs, hr, h => by
  obtain ⟨v, vs', rfl, h1, h2⟩ := h
  simp only [cn, List.append_eq_nil_iff] at hr
  exact ⟨v, vs', rfl, iL hmu c v hr.1 h1, jb hmu cs vs' hr.2 h2⟩
end
theorem gN (hmu : ∀ b, mu' b -> mu b) : ∀ (cs : List AV) (b o : Nat), cn cs = [] -> RvC w mu Z cs b o -> RvC w mu' Z' cs b o
 | [], _, _, _, h => trivial
 | c :: cs, b, o, hr, h => by
  obtain ⟨⟨v, h1, h2, h3⟩, h4⟩ := h
  simp only [cn, List.append_eq_nil_iff] at hr
  exact ⟨⟨v, h1, h2, iL hmu c v hr.1 h3⟩, gN hmu cs b (o + 1) hr.2 h4⟩
end
structure r9 (w : World) (mu mu' : Nat -> Prop) (Z : List (Option PB)) (H : List Blk) (ok : Nat -> Bool) : Prop where
 look : DL w mu mu' Z H ok
 rows : ∀ (b : Nat) (p : PB) (rs : List RC), ok b = true -> H[b]? = some (.rows rs) -> Z[b]? = some (some p) -> RvC w mu' Z (rs.map frz) p.blk p.off /\ ¬ mu' p.blk
def Sn (H : List Blk) (ok : Nat -> Bool) (A A' : AV) : Prop := ∀ (w : World) (mu mu' : Nat -> Prop) (Z : List (Option PB)) (v : Value), r9 w mu mu' Z H ok -> (∀ b, mu' b -> mu b) -> Rv w mu Z A v -> Rv w mu' [] A' v
def SnL (H : List Blk) (ok : Nat -> Bool) (A A' : List AV) : Prop := ∀ (w : World) (mu mu' : Nat -> Prop) (Z : List (Option PB)) (v : List Value), r9 w mu mu' Z H ok -> (∀ b, mu' b -> mu b) -> RvL w mu Z A v -> RvL w mu' [] A' v
def SnC (H : List Blk) (ok : Nat -> Bool) (A A' : List AV) : Prop := ∀ (w : World) (mu mu' : Nat -> Prop) (Z : List (Option PB)) (b o : Nat), r9 w mu mu' Z H ok -> (∀ b, mu' b -> mu b) -> RvC w mu Z A b o -> RvC w mu' [] A' b o
section
variable {H : List Blk} {ok : Nat -> Bool}
theorem SnL.nil : SnL H ok [] [] := fun _ _ _ _ _ _ _ h => h
theorem SnL.cons {A A' : AV} {As As' : List AV} (h : Sn H ok A A') (k : SnL H ok As As') : SnL H ok (A :: As) (A' :: As') := fun w mu mu' Z v hL hm hv => by
 obtain ⟨u, us, rfl, h1, h2⟩ := hv
 exact ⟨u, us, rfl, h w mu mu' Z u hL hm h1, k w mu mu' Z us hL hm h2⟩
theorem SnL.pure {As : List AV} (h : cn As = []) : SnL H ok As As := fun w mu mu' Z v hL hm hv => jb hm As v h hv
theorem SnC.nil : SnC H ok [] [] := fun _ _ _ _ _ _ _ _ _ => trivial
theorem SnC.cons {A A' : AV} {As As' : List AV} (h : Sn H ok A A') (k : SnC H ok As As') : SnC H ok (A :: As) (A' :: As') := fun w mu mu' Z b o hL hm hv => by
 obtain ⟨⟨u, h1, h2, h3⟩, h4⟩ := hv
 exact ⟨⟨u, h1, h2, h w mu mu' Z u hL hm h3⟩, k w mu mu' Z b (o + 1) hL hm h4⟩
theorem SnC.pure {As : List AV} (h : cn As = []) : SnC H ok As As := fun w mu mu' Z b o hL hm hv => gN hm As b o h hv
theorem Sn.pure {A : AV} (h : jh A = []) : Sn H ok A A := fun w mu mu' Z v hL hm hv => iL hm A v h hv
theorem Sn.unk {A : AV} : Sn H ok A .unk := fun _ _ _ _ _ _ _ _ => trivial
theorem Sn.iS : Sn H ok (.at (.slice none 0 0)) (.sl true [] 0) := fun w mu mu' Z v hL hm hv => .inl ⟨rfl, rfl, rfl, hv⟩
theorem Sn.agg {cs cs' : List AV} (h : SnL H ok cs cs') : Sn H ok (.agg cs) (.agg cs') := fun w mu mu' Z v hL hm hv => by
 obtain ⟨vs, rfl, h1⟩ := hv
 exact ⟨vs, rfl, h w mu mu' Z _ hL hm h1⟩
theorem Sn.tup {cs cs' : List AV} (h : SnL H ok cs cs') : Sn H ok (.tup cs) (.tup cs') := fun w mu mu' Z v hL hm hv => by
 obtain ⟨vs, rfl, h1⟩ := hv
 exact ⟨vs, rfl, h w mu mu' Z _ hL hm h1⟩
theorem Sn.fn {f : FuncId} {fs fs' cs cs' : List AV} (h : SnL H ok fs fs') (k : SnL H ok cs cs') : Sn H ok (.fn f fs cs) (.fn f fs' cs') := fun w mu mu' Z v hL hm hv => by
 obtain ⟨a, c, rfl, h1, h2⟩ := hv
 exact ⟨a, c, rfl, h w mu mu' Z _ hL hm h1, k w mu mu' Z _ hL hm h2⟩
theorem Sn.hp {b off : Nat} {cs cs' : List AV} (hok : ok b = true) (hb : H[b]? = some (.own cs) \/ H[b]? = some (.fix cs)) (h : SnC H ok cs cs') : Sn H ok (.hp b off) (.pp cs' off) := fun w mu mu' Z v hL hm hv => by
 obtain ⟨p, hp, rfl⟩ := hv
 obtain ⟨g1, g2⟩ := hL.look b p cs hok hb hp
 exact ⟨p.blk, p.off, rfl, fun _ => g2, h w mu mu' Z _ _ hL hm g1⟩
theorem Sn.hs {b len es : Nat} {cs cs' : List AV} (hok : ok b = true) (hb : H[b]? = some (.own cs) \/ H[b]? = some (.fix cs)) (h : SnC H ok cs cs') (h0 : len = 0 -> cs' = []) : Sn H ok (.hs b 0 len es) (.sl true cs' len) := fun w mu mu' Z v hL hm hv => by
 rcases hv with ⟨rfl, rfl⟩ | ⟨p, a, cap, h1, rfl, h2, hsp, h3⟩
 · exact .inl ⟨rfl, rfl, h0 rfl, rfl⟩
 · obtain ⟨g1, g2⟩ := hL.look b p cs hok hb h1
   obtain ⟨ab, ao, asp⟩ := a
   simp only at hsp; subst hsp
   by_cases hcap : 0 < cap
   · obtain ⟨e1, _⟩ := h3 hcap
     cases e1
     exact .inr (.inl ⟨_, _, cap, rfl, h2, fun _ => g2, h w mu mu' Z _ _ hL hm g1⟩)
   · have : cs' = [] := h0 (by omega)
     subst this
     exact .inr (.inl ⟨ab, ao, cap, rfl, h2, fun h => (h rfl).elim, trivial⟩)
end
def bo (P : Program) (f : FuncId) (args : List AV) (r : AV) : Prop := ∀ (out : Nat -> Prop) (w : World) (vs : List Value), (∀ b, out b -> b < w.heap.size) -> RvL w out [] args vs ->
  Calls P f vs.toArray w fun e w' => ∃ u, e = .returned u /\ Ext (Lo w.heap.size) w w' out out [] [] /\ Rv w' out [] r u
section
variable {P : Program}
def aS (P : Program) (rs : List ResultVar) (r : AV) : X -> St -> Prop
 | .exit _, _ => False
 | _, st => ∃ vs, dx P st rs = some vs /\ Sn st.heap (fun _ => true) (fR vs) r
theorem aS.ret {rs : List ResultVar} {r : AV} {st : St} {vs : List AV} (h : dx P st rs = some vs) (k : Sn st.heap (fun _ => true) (fR vs) r) : aS P rs r .ret st := ⟨vs, h, k⟩
theorem aS.normal {rs : List ResultVar} {r : AV} {st : St} {vs : List AV} (h : dx P st rs = some vs) (k : Sn st.heap (fun _ => true) (fR vs) r) : aS P rs r .normal st := ⟨vs, h, k⟩
theorem yV {out : Nat -> Prop} {w : World} {B : Nat -> Prop} {Z : List (Option PB)} {H : List Blk} (hI : Inv out B w Z H) : r9 w (aH out Z H) out Z H (fun _ => true) := by
 refine ⟨?_, ?_⟩
 · intro b p cs _ hbl hp
   refine ⟨fB hI hbl hp, fun ho => ?_⟩
   have hlive : ∃ y, H[b]? = some y /\ y.isLive = true := by rcases hbl with h | h <;> exact ⟨_, h, rfl⟩
   obtain ⟨y, hy, hyl⟩ := hlive
   exact (hI.base b y p hy hp hyl).1 (hI.out_lt _ ho)
 · intro b p rs _ hb hp
   exact ⟨RvW.frz (mu := aH out Z H) (fun _ h => .inl h) rs _ _ _ (fun k len es cs q e1 e2 ho => (hI.baseO b _ p q.1 hb hp (.inr ⟨k, len, es, cs, q, e1, e2, rfl⟩)).1 (hI.out_lt _ ho)) (hI.ok b _ p hb hp).2.1, fun ho => (hI.base b _ p hb hp rfl).1 (hI.out_lt _ ho)⟩
theorem bo.body (G : lH P) {f : FuncId} {fn : Func} (hf : P.funcs[f]? = some fn) {c : Code} (hb : fn.body = some c) {args : List AV} {r : AV} {s : List AV} {rs : List ResultVar} (hs : args ++ oO (fn.ntmps - args.length) = s) (hrs : fn.results.toList = rs)
  (h : CQ 0 P [.c c] (aS P rs r) .normal ⟨s, []⟩) : bo P f args r := by
 intro out w vs hout ha
 subst hs
 subst hrs
 refine calls_of_wp hf hb ?_
 have hlen := RvL.length _ _ ha
 have hI0 : Inv out (Lo w.heap.size) w [] [] := ⟨rfl, fun _ h => h, hout, by simp, by simp, by simp⟩
 have hR : Rep out (Lo w.heap.size) w [] ⟨args ++ oO (fn.ntmps - args.length), []⟩ { tmps := vs.toArray ++ Array.replicate (fn.ntmps - vs.toArray.size) undef, defers := [] } := by
  refine ⟨rfl, ?_, hI0⟩
  simp only [Array.toList_append, Array.toList_replicate, List.size_toArray, hlen]
  rw [od]
  refine RvL.append _ _ _ _ ha ?_
  refine RvL.lj _ _ (by simp [oO]) fun i x y h1 h2 => ?_
  have := List.mem_of_getElem? h1
  simp [oO] at this
  rw [this.2]; trivial
 refine h out (Lo w.heap.size) w [] _ _ hR fun x st' a' w' Z' hq hR' hE => ?_
 rw [od] at hE
 have fin : ∀ vs', dx P st' fn.results.toList = some vs' -> Sn st'.heap (fun _ => true) (fR vs') r -> ∃ u, (results fn a'.tmps).run P w' = .ok u w' /\ ∃ u', (Ending.returned u) = .returned u' /\ Ext (Lo w.heap.size) w w' out out [] [] /\ Rv w' out [] r u' := by
  intro vs' hv hsn
  obtain ⟨u, r1, r2⟩ := kF hR' hv
  exact ⟨u, r1, u, rfl, ⟨hE.low, hE.size, fun b hb hnb => ⟨hE.low b hb, hnb⟩, by simp, hE.os, hE.tape, hE.output, hE.drawn⟩, hsn w' _ out Z' u (yV hR'.inv) (fun b hb => .inl hb) r2⟩
 cases x with
 | normal => obtain ⟨vs', h1, h2⟩ := hq; exact ⟨hR'.defers, fin vs' h1 h2⟩
 | ret => obtain ⟨vs', h1, h2⟩ := hq; exact ⟨hR'.defers, fin vs' h1 h2⟩
 | exit id => exact hq.elim
theorem sE {f : FuncId} {args args' : List AV} {H : List Blk} {l : List Nat} {r : AV} {out : Nat -> Prop} {B : Nat -> Prop} {w : World} {Z : List (Option PB)} {vs : List Value} {H' : List Blk} (hag : ∀ b ∈ l, b < H.length -> H'[b]? = H[b]?) (hI : Inv out B w Z H') (ha : RvL w (aH out Z H') Z args vs)
  (hsn : SnL H (fun b => l.contains b) args args') (hrun : bo P f args' r) :
  Inv out B w Z (aO H' (dc H l)) /\ Ext B w w (aH out Z H') (aH out Z (aO H' (dc H l))) Z Z /\
  Calls P f vs.toArray w fun e w' => ∃ u, e = .returned u /\ Ext (Lo w.heap.size) w w' (aH out Z (aO H' (dc H l))) (aH out Z (aO H' (dc H l))) [] [] /\ Rv w' (aH out Z (aO H' (dc H l))) [] r u := by
 obtain ⟨hfI, hfE, hfl, hf1, hf2⟩ := jc l H' H hI (fun b hb hlt => .inl (hag b hb hlt))
 have hmu := Ext.s7 hfI hfE
 have hL : r9 w (aH out Z H') (aH out Z (aO H' (dc H l))) Z H (fun b => l.contains b) := by
  refine ⟨?_, ?_⟩
  rotate_left
  · intro b p rs hok hbl hp
    have hbm : b ∈ l := by simpa using hok
    have hblt : b < H.length := aE hbl
    have hfx := hf1 b hbm _ _ hbl rfl
    refine ⟨fB hfI (.inr hfx) hp, ?_⟩
    rintro (h | ⟨i, x, q, h1, h2, h3, h4⟩)
    · exact (hfI.base b _ p hfx hp rfl).1 (hI.out_lt _ h)
    · by_cases hib : i = b
      · subst hib; rw [hfx] at h1; cases h1; simp [Blk.eh] at h2
      · exact hfI.sepO i b x _ q p _ hib h1 hfx h3 hp h2 h4 rfl
  intro b p cs hok hbl hp
  have hbm : b ∈ l := by simpa using hok
  have hblt : b < H.length := by rcases hbl with h | h <;> exact aE h
  have hbl' : H'[b]? = some (.own cs) \/ H'[b]? = some (.fix cs) := by rw [hag b hbm hblt]; exact hbl
  refine ⟨fB hI hbl' hp, ?_⟩
  have hlive : ∃ y, H'[b]? = some y /\ y.isLive = true := by rcases hbl' with h | h <;> exact ⟨_, h, rfl⟩
  obtain ⟨y, hy, hyl⟩ := hlive
  have hge := hI.base b y p hy hp hyl
  have hfx : (aO H' (dc H l))[b]? = some (.fix cs) := by
   rcases hbl with h | h
   · exact hf1 b hbm _ cs h rfl
   · rw [hf2 b (fun x cs' _ h' e => by rw [h] at h'; cases h'; cases e), hag b hbm hblt]; exact h
  rintro (h | ⟨i, x, q, h1, h2, h3, h4⟩)
  · exact hge.1 (hI.out_lt _ h)
  · by_cases hib : i = b
    · subst hib; rw [hfx] at h1; cases h1; simp [Blk.eh] at h2
    · exact hfI.sepO i b x (.fix cs) q p _ hib h1 hfx h3 hp h2 h4 rfl
 have ha' : RvL w (aH out Z (aO H' (dc H l))) [] args' vs := hsn w _ _ Z vs hL hmu ha
 exact ⟨hfI, hfE, hrun _ w vs (wB hfI) ha'⟩
theorem gw {f : FuncId} {args args' : List AV} {H : List Blk} {l : List Nat} {r : AV} (hsn : SnL H (fun b => l.contains b) args args') (hrun : bo P f args' r) : ik P f args H (.loc r (dc H l) l 0) := by
 intro H' hlen hag out B w Z vs hI hπ ha
 obtain ⟨hfI, hfE, hc⟩ := sE hag hI ha hsn hrun
 refine hc.mono ?_
 rintro e w' ⟨u, rfl, k1, k2⟩
 obtain ⟨g1, g2⟩ := hfI.CH (w' := w') (fun b hb => k1.low b hb) k1.size k1.os k1.tape k1.output k1.drawn
 exact ⟨u, Z, rfl, hfE.trans g2, g1, k2.lift, fun _ _ => rfl⟩
theorem dd {f : FuncId} {args args' : List AV} {H : List Blk} {l : List Nat} {r : AV} (hr : lJ r = false) (hsn : SnL H (fun b => l.contains b) args args') (hrun : bo P f args' r) : ik P f args H (.loc r [] l 0) := by
 intro H' hlen hag out B w Z vs hI hπ ha
 obtain ⟨hfI, hfE, hc⟩ := sE hag hI ha hsn hrun
 refine hc.mono ?_
 rintro e w' ⟨u, rfl, k1, k2⟩
 obtain ⟨g1, g2⟩ := hI.CH (w' := w') (fun b hb => k1.low b hb) k1.size k1.os k1.tape k1.output k1.drawn
 exact ⟨u, Z, rfl, g2, g1, sV _ _ hr k2, fun _ _ => rfl⟩
structure CE where
 f : FuncId
 args : List AV
 H : List Blk
 r : qe
open Classical in
noncomputable def cw : List CE -> dN
 | [] => fun _ _ _ => none
 | e :: L => fun f args H => if f = e.f /\ args = e.args /\ H = e.H then some e.r else cw L f args H
theorem o0 : ∀ (L : List CE), (∀ e ∈ L, ik P e.f e.args e.H e.r) -> gL P (cw L)
 | [], _ => fun f args H r h => by cases h
 | e :: L, hL => fun f args H r h => by
  simp only [cw] at h
  split at h
  · rename_i hk
    cases h
    obtain ⟨rfl, rfl, rfl⟩ := hk
    exact hL e (by simp)
  · exact o0 L (fun x hx => hL x (by simp [hx])) f args H r h
theorem aK : gL P (cw []) := o0 [] (by simp)
theorem q9 {e : CE} (h : ik P e.f e.args e.H e.r) : gL P (cw [e]) := o0 [e] (by simpa using h)
theorem yh {e : CE} {L : List CE} : cw (e :: L) e.f e.args e.H = some e.r := by simp [cw]
end
def lv (keep : List Nat) : List AV -> Nat -> List AV
 | [], _ => []
 | x :: s, i => (match memN keep i with | true => x | false => .unk) :: lv keep s (i + 1)
where
 memN : List Nat -> Nat -> Bool
 | [], _ => false
 | y :: l, i => match Nat.beq y i with | true => true | false => memN l i
theorem sX {w : World} {mu : Nat -> Prop} {Z : List (Option PB)} (keep : List Nat) : ∀ (s : List AV) (vs : List Value) (i : Nat), RvL w mu Z s vs -> RvL w mu Z (lv keep s i) vs
 | [], _, _, h => h
 | c :: s, _, i, h => by
  obtain ⟨v, vs', rfl, h1, h2⟩ := h
  refine ⟨v, vs', rfl, ?_, sX keep s vs' (i + 1) h2⟩
  cases lv.memN keep i
  · trivial
  · exact h1
theorem Wk.mask (keep : List Nat) {s : List AV} {h : List Blk} : Wk K ⟨s, h⟩ ⟨lv keep s 0, h⟩ := fun out B w Z a hR => ⟨Z, ⟨hR.defers, sX keep _ _ _ hR.slots, hR.inv⟩, fun _ h => h, jX.refl Z⟩
theorem Wk.slot (i : Nat) {A' : AV} {s : List AV} {h : List Blk} (hA : ∀ (out : Nat -> Prop) (B : Nat -> Prop) (w : World) (Z : List (Option PB)) (v : Value), Inv out B w Z h -> Rv w (aH out Z h) Z (s.getD i .unk) v -> Rv w (aH out Z h) Z A' v) : Wk K ⟨s, h⟩ ⟨s.set i A', h⟩ := fun out B w Z a hR => by
 refine ⟨Z, ⟨hR.defers, ?_, hR.inv⟩, fun _ h => h, jX.refl Z⟩
 have hs := hR.slots
 simp only at hs ⊢
 by_cases hi : i < s.length
 · obtain ⟨v, h1, h2⟩ := RvL.get _ _ i s[i] hs (geT hi)
   have he : s.getD i .unk = s[i] := by simp [List.getD, hi]
   have := hA out B w Z v hR.inv (by rw [he]; exact h2)
   have hset := RvL.set s a.tmps.toList i A' v hs this
   have : a.tmps.toList.set i v = a.tmps.toList := by
    apply List.ext_getElem?
    intro j
    rw [List.getElem?_set]
    split
    · rename_i hij; subst hij
      rw [if_pos (aE h1)]; exact h1.symm
    · rfl
   rw [this] at hset; exact hset
 · rw [List.set_eq_of_length_le (by omega)]; exact hs
theorem Wk.nil (i es : Nat) {s : List AV} {h : List Blk} (hs : ox s i = .at (.slice none 0 0)) : Wk K ⟨s, h⟩ ⟨s.set i (.hs h.length 0 0 es), h ++ [.own []]⟩ := fun out B w Z a hR => by
 have hl := hR.inv.len
 simp only at hl
 have h1 : Wk K ⟨s, h⟩ ⟨s.set i (.hs h.length 0 0 es), h⟩ := Wk.slot i fun out B w Z v hI hv => by
  rw [<- nf, hs] at hv
  exact .inl ⟨rfl, hv⟩
 obtain ⟨Z1, g1, g2, g3⟩ := h1 out B w Z a hR
 have gH : ∀ {j : Nat} {x : Blk} {p : PB}, (h ++ [.own []])[j]? = some x -> (Z1 ++ [none])[j]? = some (some p) -> h[j]? = some x /\ Z1[j]? = some (some p) := by
  intro j x p e1 e2
  have hl1 := g1.inv.len
  simp only at hl1
  by_cases hj : j < h.length
  · rw [List.getElem?_append_left hj] at e1
    rw [List.getElem?_append_left (by omega)] at e2
    exact ⟨e1, e2⟩
  · rw [List.getElem?_append_right (by omega)] at e2
    have := List.mem_of_getElem? e2
    simp at this
 have hmu : ∀ b, aH out (Z1 ++ [none]) (h ++ [.own []]) b -> aH out Z1 h b := by
  rintro b (ho | ⟨j, x, p, e1, e2, e3, e4⟩)
  · exact .inl ho
  · obtain ⟨f1, f2⟩ := gH e1 e3
    exact .inr ⟨j, x, p, f1, e2, f2, e4⟩
 have hE : Ext B w w (aH out Z1 h) (aH out (Z1 ++ [none]) (h ++ [.own []])) Z1 (Z1 ++ [none]) := ⟨fun _ _ => rfl, Nat.le_refl _, fun b _ hb => ⟨rfl, fun hb' => hb (hmu b hb')⟩, fun j p hp => by
  rw [List.getElem?_append_left (aE hp)]; exact hp, rfl, rfl, rfl, fun _ => Nat.le_refl _⟩
 refine ⟨Z1 ++ [none], ⟨g1.defers, RvL.ext hE _ _ g1.slots, ?_⟩, fun b hb => g2 b (hmu b hb), g3.trans hE.pin⟩
 have hI := g1.inv
 refine ⟨by have := hI.len; simp at this ⊢; omega, hI.bound, hI.out_lt, ?_, ?_, ?_⟩
 · intro j x p b e1 e2 e3
   obtain ⟨f1, f2⟩ := gH e1 e2
   exact hI.baseO j x p b f1 f2 e3
 · intro j x p e1 e2
   obtain ⟨f1, f2⟩ := gH e1 e2
   exact cS.ext hE (fun _ _ => rfl) (hI.ok j x p f1 f2)
 · intro i' j x y p q b hij e1 e2 e3 e4 e5 e6 e7
   obtain ⟨f1, f3⟩ := gH e1 e3
   obtain ⟨f2, f4⟩ := gH e2 e4
   exact hI.sepO i' j x y p q b hij f1 f2 f3 f4 e5 e6 e7
theorem Wk.fix (b : Nat) {cs : List AV} {s : List AV} {h : List Blk} (hb : h[b]? = some (.own cs)) : Wk K ⟨s, h⟩ ⟨s, h.set b (.fix cs)⟩ := fun out B w Z a hR => by
 obtain ⟨g1, g2⟩ := hR.inv.tN (b := b) (.inl hb)
 have hu : upd h b (.fix cs) = h.set b (.fix cs) := by simp [upd, aE hb]
 rw [hu] at g1 g2
 exact ⟨Z, ⟨hR.defers, RvL.ext g2 _ _ hR.slots, g1⟩, Ext.s7 g1 g2, jX.refl Z⟩
theorem ui {out : Nat -> Prop} {w : World} {B : Nat -> Prop} {Z : List (Option PB)} {H : List Blk} (hI : Inv out B w Z H) : ∀ (b : Nat) (p : PB) (cs : List AV), H[b]? = some (.fix cs) -> Z[b]? = some (some p) -> RvC w (aH out Z H) Z cs p.blk p.off /\ ¬ aH out Z H p.blk := by
 intro b p cs hb hp
 refine ⟨fB hI (.inr hb) hp, ?_⟩
 rintro (h | ⟨i, x, q, h1, h2, h3, h4⟩)
 · exact (hI.base b _ p hb hp rfl).1 (hI.out_lt _ h)
 · by_cases hib : i = b
   · subst hib; rw [hb] at h1; cases h1; simp [Blk.eh] at h2
   · exact hI.sepO i b x (.fix cs) q p _ hib h1 hb h3 hp h2 h4 rfl
theorem Wk.Bb (i : Nat) {b len es : Nat} {cs : List AV} {s : List AV} {h : List Blk} (hs : ox s i = .hs b 0 len es) (hb : h[b]? = some (.fix cs)) (hp : cn cs = []) (h0 : len = 0 -> cs = []) : Wk K ⟨s, h⟩ ⟨s.set i (.sl true cs len), h⟩ := Wk.slot i fun out B w Z v hI hv => by
 rw [<- nf, hs] at hv
 rcases hv with ⟨rfl, rfl⟩ | ⟨p, a, cap, h1, rfl, h2, hsp, h3⟩
 · exact .inl ⟨rfl, rfl, h0 rfl, rfl⟩
 · obtain ⟨g1, g2⟩ := ui hI b p cs hb h1
   obtain ⟨ab, ao, asp⟩ := a
   simp only at hsp; subst hsp
   by_cases hcap : 0 < cap
   · obtain ⟨e1, _⟩ := h3 hcap
     cases e1
     exact .inr (.inl ⟨_, _, cap, rfl, h2, fun _ => g2, gN (fun _ h => h) cs _ _ hp g1⟩)
   · have : cs = [] := h0 (by omega)
     subst this
     exact .inr (.inl ⟨ab, ao, cap, rfl, h2, fun h => (h rfl).elim, trivial⟩)
def posOf : List (Nat × Bool) -> Nat -> Nat -> Option Nat
 | [], _, _ => none
 | (y, _) :: l, b, k => match Nat.beq y b with | true => some k | false => posOf l b (k + 1)
mutual
def rfA (ρ : Nat -> Option Nat) : AV -> AV
 | .hs b off len es => match ρ b with | some c => .hs c off len es | none => .unk
 | .hc b off len cap es => match ρ b with | some c => .hc c off len cap es | none => .unk
 | .hp b off => match ρ b with | some c => .hp c off | none => .unk
 | .mp b => match ρ b with | some c => .mp c | none => .unk
 | .agg cs => .agg (rfL ρ cs)
 | .tup cs => .tup (rfL ρ cs)
 | .fn f fs cs => .fn f (rfL ρ fs) (rfL ρ cs)
 | x => x
def rfL (ρ : Nat -> Option Nat) : List AV -> List AV
 | [] => []
 | c :: cs => rfA ρ c :: rfL ρ cs
end
def rfM (ρ : Nat -> Option Nat) : List (Value × AV) -> List (Value × AV)
 | [] => []
 | (k, a) :: l => (k, rfA ρ a) :: rfM ρ l
def j5 : List (Value × AV) -> List Nat
 | [] => []
 | (_, a) :: l => jh a ++ j5 l
def rfR (ρ : Nat -> Option Nat) : List RC -> List RC
 | [] => []
 | .row len es cs :: l => .row len es cs :: rfR ρ l
 | .av a :: l => .av (rfA ρ a) :: rfR ρ l
def iG : List RC -> List Nat
 | [] => []
 | .row _ _ _ :: l => iG l
 | .av a :: l => jh a ++ iG l
def rfB (ρ : Nat -> Option Nat) : Bool -> Blk -> Blk
 | true, .own cs => .own (rfL ρ cs)
 | true, .fix cs => .fix (rfL ρ cs)
 | true, .map es => .map (rfM ρ es)
 | true, .dead => .dead
 | true, .iter m n seen => match ρ m with | some c => .iter c n seen | none => .dead
 | true, .rows rs => .rows (rfR ρ rs)
 | true, .mapr .. => .dead
 | false, x => x
def rnH (H : List Blk) (keep : List (Nat × Bool)) : List (Nat × Bool) -> List Blk
 | [] => []
 | (b, t) :: l => (match H[b]? with | some x => rfB (fun b => posOf keep b 0) t x | none => .dead) :: rnH H keep l
def rnL (keep : List (Nat × Bool)) (l : List AV) : List AV := rfL (fun b => posOf keep b 0) l
def DG (slots : List Nat) (keep : List (Nat × Bool)) (st : St) : St := ⟨rnL keep (lv slots st.slots 0), rnH st.heap keep keep⟩
def rD : Option Blk -> Prop
 | some (.own cs) => cn cs = []
 | some (.fix cs) => cn cs = []
 | some (.map es) => j5 es = []
 | some (.iter ..) => False
 | some (.rows rs) => iG rs = []
 | some (.mapr _ _ l) => iG (l.map (·.2)) = []
 | _ => True
def gu (H : List Blk) : List (Nat × Bool) -> Prop
 | [] => True
 | (b, false) :: l => rD H[b]? /\ gu H l
 | (_, true) :: l => gu H l
def mq : List (Nat × Bool) -> Bool
 | [] => true
 | (b, _) :: l => (match posOf l b 0 with | none => true | some _ => false) && mq l
section
variable {ρ : Nat -> Option Nat} {w : World} {mu mu' : Nat -> Prop} {Z Z' : List (Option PB)}
mutual
theorem qI (hmu : ∀ b, mu' b -> mu b) (hπ : ∀ b c p, ρ b = some c -> Z[b]? = some (some p) -> Z'[c]? = some (some p)) : (A : AV) -> (v : Value) -> Rv w mu Z A v -> Rv w mu' Z' (rfA ρ A) v
 | .unk, _, _ => by simp only [rfA]; trivial
 | .at x, v, h => by simp only [rfA]; exact h
 | .sl nl cs len, v, h => by simp only [rfA]; exact iL hmu (.sl nl cs len) v rfl h
 | .pp cs off, v, h => by simp only [rfA]; exact iL hmu (.pp cs off) v rfl h
 | .hs b off len es, v, h => by
  simp only [rfA]
  cases hk : ρ b with
  | none => trivial
  | some c =>
   rcases h with h | ⟨p, a, cap, h1, h2⟩
   · exact .inl h
   · exact .inr ⟨p, a, cap, hπ b c p hk h1, h2⟩
 | .hc b off len cap es, v, h => by
  simp only [rfA]
  cases hk : ρ b with
  | none => trivial
  | some c => obtain ⟨p, a, h1, h2⟩ := h; exact ⟨p, a, hπ b c p hk h1, h2⟩
 | .hp b off, v, h => by
  simp only [rfA]
  cases hk : ρ b with
  | none => trivial
  | some c => obtain ⟨p, h1, h2⟩ := h; exact ⟨p, hπ b c p hk h1, h2⟩
 | .mp b, v, h => by
  simp only [rfA]
  cases hk : ρ b with
  | none => trivial
  | some c => obtain ⟨p, h1, h2⟩ := h; exact ⟨p, hπ b c p hk h1, h2⟩
 | .agg cs, v, h => by
  simp only [rfA]
  obtain ⟨vs, rfl, h1⟩ := h
  exact ⟨vs, rfl, nL hmu hπ cs _ h1⟩
 | .tup cs, v, h => by
  simp only [rfA]
  obtain ⟨vs, rfl, h1⟩ := h
  exact ⟨vs, rfl, nL hmu hπ cs _ h1⟩
 | .fn f fs cs, v, h => by
  simp only [rfA]
  obtain ⟨a, c, rfl, h1, h2⟩ := h
  exact ⟨a, c, rfl, nL hmu hπ fs _ h1, nL hmu hπ cs _ h2⟩
theorem nL (hmu : ∀ b, mu' b -> mu b) (hπ : ∀ b c p, ρ b = some c -> Z[b]? = some (some p) -> Z'[c]? = some (some p)) : (cs : List AV) -> (vs : List Value) -> RvL w mu Z cs vs -> RvL w mu' Z' (rfL ρ cs) vs
 | [], _, h => by simp only [rfL]; exact h
 | c :: cs, _, h => by
  simp only [rfL]
  obtain ⟨v, vs', rfl, h1, h2⟩ := h
  exact ⟨v, vs', rfl, qI hmu hπ c v h1, nL hmu hπ cs vs' h2⟩
end
theorem wz (hmu : ∀ b, mu' b -> mu b) (hπ : ∀ b c p, ρ b = some c -> Z[b]? = some (some p) -> Z'[c]? = some (some p)) : ∀ (cs : List AV) (b o : Nat), RvC w mu Z cs b o -> RvC w mu' Z' (rfL ρ cs) b o
 | [], _, _, _ => by simp only [rfL]; trivial
 | c :: cs, b, o, h => by
  simp only [rfL]
  obtain ⟨⟨v, h1, h2, h3⟩, h4⟩ := h
  exact ⟨⟨v, h1, h2, qI hmu hπ c v h3⟩, wz hmu hπ cs b (o + 1) h4⟩
theorem y5 (hmu : ∀ b, mu' b -> mu b) (hπ : ∀ b c p, ρ b = some c -> Z[b]? = some (some p) -> Z'[c]? = some (some p)) : ∀ (i : Nat) (es : List (Value × AV)) (l : List MapEntry), RvM w mu Z i es l -> RvM w mu' Z' i (rfM ρ es) l
 | _, [], _, h => by simp only [rfM]; exact h
 | i, (k, a) :: es, _, h => by
  simp only [rfM]
  obtain ⟨e, l', rfl, h2, h0, h3, h4⟩ := h
  exact ⟨e, l', rfl, h2, h0, qI hmu hπ a _ h3, y5 hmu hπ (i + 1) es l' h4⟩
theorem ph (hmu : ∀ b, mu' b -> mu b) : ∀ (i : Nat) (es : List (Value × AV)) (l : List MapEntry), j5 es = [] -> RvM w mu Z i es l -> RvM w mu' Z' i es l
 | _, [], _, _, h => h
 | i, (k, a) :: es, _, hr, h => by
  simp only [j5, List.append_eq_nil_iff] at hr
  obtain ⟨e, l', rfl, h2, h0, h3, h4⟩ := h
  exact ⟨e, l', rfl, h2, h0, iL hmu a _ hr.1 h3, ph hmu (i + 1) es l' hr.2 h4⟩
theorem jl.sF (hmu : ∀ b, mu' b -> mu b) {s : Option (Nat × Nat × Nat)} {len es : Nat} {cs : List AV} {v : Value} (h : jl w mu s len es cs v) : jl w mu' s len es cs v :=
 jl.ext (B := fun _ => False) (Z := []) (Z' := []) ⟨fun _ _ => rfl, Nat.le_refl _, fun b _ hb => ⟨rfl, fun hb' => hb (hmu b hb')⟩, fun _ _ h => h, rfl, rfl, rfl, fun _ => Nat.le_refl _⟩ (fun _ _ => rfl) h
theorem wo (hmu : ∀ b, mu' b -> mu b) (hπ : ∀ b c p, ρ b = some c -> Z[b]? = some (some p) -> Z'[c]? = some (some p)) : ∀ (rs : List RC) (ss : Nat -> Option (Nat × Nat × Nat)) (b o : Nat), RvW w mu Z rs ss b o -> RvW w mu' Z' (rfR ρ rs) ss b o
 | [], _, _, _, _ => trivial
 | .row len es cs :: l, ss, b, o, h => by
  obtain ⟨⟨v, h1, h2⟩, h3⟩ := h
  exact ⟨⟨v, h1, jl.sF hmu h2⟩, wo hmu hπ l _ _ _ h3⟩
 | .av a :: l, ss, b, o, h => by
  obtain ⟨⟨v, h1, h2, h3⟩, h4⟩ := h
  exact ⟨⟨v, h1, h2, qI hmu hπ a v h3⟩, wo hmu hπ l _ _ _ h4⟩
theorem o6 (hmu : ∀ b, mu' b -> mu b) : ∀ (rs : List RC) (ss : Nat -> Option (Nat × Nat × Nat)) (b o : Nat), iG rs = [] -> RvW w mu Z rs ss b o -> RvW w mu' Z' rs ss b o
 | [], _, _, _, _, _ => trivial
 | .row len es cs :: l, ss, b, o, hr, h => by
  obtain ⟨⟨v, h1, h2⟩, h3⟩ := h
  exact ⟨⟨v, h1, jl.sF hmu h2⟩, o6 hmu l _ _ _ hr h3⟩
 | .av a :: l, ss, b, o, hr, h => by
  simp only [iG, List.append_eq_nil_iff] at hr
  obtain ⟨⟨v, h1, h2, h3⟩, h4⟩ := h
  exact ⟨⟨v, h1, h2, iL hmu a v hr.1 h3⟩, o6 hmu l _ _ _ hr.2 h4⟩
theorem mP : ∀ (rs : List RC) (k len es : Nat) (cs : List AV), (rfR ρ rs)[k]? = some (.row len es cs) -> rs[k]? = some (.row len es cs)
 | [], k, _, _, _, h => by simp [rfR] at h
 | .row l e c :: rs, 0, len, es, cs, h => by simpa [rfR] using h
 | .av a :: rs, 0, len, es, cs, h => by simp [rfR] at h
 | .row l e c :: rs, k + 1, len, es, cs, h => by simpa using mP rs k len es cs (by simpa [rfR] using h)
 | .av a :: rs, k + 1, len, es, cs, h => by simpa using mP rs k len es cs (by simpa [rfR] using h)
theorem lK.rf {rs : List RC} {p : PB} (h : lK rs p) : lK (rfR ρ rs) p :=
 ⟨fun k len es cs q h1 h2 => h.1 k len es cs q (mP rs _ _ _ _ h1) h2, fun k k' len es len' es' cs cs' q q' hk h1 h2 h3 h4 => h.2 k k' len es len' es' cs cs' q q' hk (mP rs _ _ _ _ h1) (mP rs _ _ _ _ h2) h3 h4⟩
theorem tD : ∀ (l : List (Value × RC)), iG (l.map (·.2)) = [] -> j5 (l.map rcE) = []
 | [], _ => rfl
 | (k, .row _ _ _) :: l, h => by simpa [rcE, j5, jh] using tD l (by simpa [iG] using h)
 | (k, .av a) :: l, h => by
  simp only [List.map_cons, iG, List.append_eq_nil_iff] at h
  simp only [List.map_cons, rcE, j5, h.1, List.nil_append]
  exact tD l h.2
theorem dR {t : Bool} {y : Blk} {p : PB} {b : Nat} (h : (rfB ρ t y).owns p b) : y.owns p b := by
 cases t with
 | false => cases y <;> exact h
 | true =>
  cases y with
  | rows rs =>
   rcases h with h | ⟨k, len, es, cs, q, h1, h2, h3⟩
   · exact .inl h
   · exact .inr ⟨k, len, es, cs, q, mP rs _ _ _ _ h1, h2, h3⟩
  | own cs => exact h
  | fix cs => exact h
  | map es => exact h
  | dead => exact h
  | iter m n seen =>
   simp only [rfB] at h
   split at h
   · exact h
   · exact h.elim
  | mapr d ez l => exact h.elim
theorem vT (hmu : ∀ b, mu' b -> mu b) (hπ : ∀ b c p, ρ b = some c -> Z[b]? = some (some p) -> Z'[c]? = some (some p)) {t : Bool} {y : Blk} {p : PB} (hp : t = false -> rD (some y)) (hok : cS w mu Z p y) : cS w mu' Z' p (rfB ρ t y) := by
 cases t with
 | true =>
  cases y with
  | own cs => exact ⟨hok.1, wz hmu hπ cs _ _ hok.2⟩
  | fix cs => exact wz hmu hπ cs _ _ hok
  | dead => trivial
  | map es => obtain ⟨a, h1, h2⟩ := hok; exact ⟨a, h1, y5 hmu hπ 0 es _ h2⟩
  | iter m n seen =>
   obtain ⟨h0, q, h1, h2⟩ := hok
   cases hk : ρ m with
   | none => simp only [rfB, hk]; trivial
   | some c => simp only [rfB, hk]; exact ⟨h0, q, hπ m c q hk h1, h2⟩
  | rows rs => exact ⟨hok.1, wo hmu hπ rs _ _ _ hok.2.1, hok.2.2.rf⟩
  | mapr d ez l => trivial
 | false =>
  have hp := hp rfl
  cases y with
  | own cs => exact ⟨hok.1, gN hmu cs _ _ hp hok.2⟩
  | fix cs => exact gN hmu cs _ _ hp hok
  | dead => trivial
  | map es => obtain ⟨a, h1, h2⟩ := hok; exact ⟨a, h1, ph hmu 0 es _ hp h2⟩
  | iter m n seen => exact hp.elim
  | rows rs => exact ⟨hok.1, o6 hmu rs _ _ _ hp hok.2.1, hok.2.2⟩
  | mapr d ez l =>
   obtain ⟨a, h1, h2, h3, h4⟩ := hok
   exact ⟨a, h1, ph hmu 0 _ _ (tD l hp) h2, fun k key len es cs hk => by
    obtain ⟨e, e1, e2⟩ := h3 k key len es cs hk
    exact ⟨e, e1, jl.sF hmu e2⟩, h4⟩
end
theorem py : ∀ (l : List (Nat × Bool)) (b k c : Nat), posOf l b k = some c -> ∃ (j : Nat) (t : Bool), c = k + j /\ l[j]? = some (b, t)
 | [], b, k, c, h => by cases h
 | (y, t) :: l, b, k, c, h => by
  simp only [posOf] at h
  split at h
  · rename_i hb
    cases h
    exact ⟨0, t, rfl, by rw [Nat.eq_of_beq_eq_true hb]; rfl⟩
  · obtain ⟨j, t', rfl, h2⟩ := py l b (k + 1) c h
    exact ⟨j + 1, t', by omega, by simpa using h2⟩
theorem lP : ∀ (l : List (Nat × Bool)) (b k : Nat), posOf l b k = none -> ∀ (j : Nat) (t : Bool), l[j]? ≠ some (b, t)
 | [], b, k, _, j, t => by simp
 | (y, t0) :: l, b, k, h, j, t => by
  simp only [posOf] at h
  split at h
  · cases h
  · rename_i hb
    cases j with
    | zero =>
     intro e
     simp only [List.getElem?_cons_zero, Option.some.injEq, Prod.mk.injEq] at e
     obtain ⟨rfl, _⟩ := e
     simp at hb
    | succ j => simpa using lP l b (k + 1) h j t
theorem mN : ∀ (l : List (Nat × Bool)), mq l = true -> ∀ (i j b : Nat) (t t' : Bool), l[i]? = some (b, t) -> l[j]? = some (b, t') -> i = j
 | [], _, i, j, b, t, t', h, _ => by simp at h
 | (y, t0) :: l, hn, i, j, b, t, t', h1, h2 => by
  simp only [mq, Bool.and_eq_true] at hn
  obtain ⟨hn1, hn2⟩ := hn
  have hno : posOf l y 0 = none := by
   cases h : posOf l y 0 with
   | none => rfl
   | some c => rw [h] at hn1; cases hn1
  cases i with
  | zero =>
   simp only [List.getElem?_cons_zero, Option.some.injEq, Prod.mk.injEq] at h1
   obtain ⟨rfl, _⟩ := h1
   cases j with
   | zero => rfl
   | succ j => exact (lP l y 0 hno j t' (by simpa using h2)).elim
  | succ i =>
   cases j with
   | zero =>
    simp only [List.getElem?_cons_zero, Option.some.injEq, Prod.mk.injEq] at h2
    obtain ⟨rfl, _⟩ := h2
    exact (lP l y 0 hno i t (by simpa using h1)).elim
   | succ j => rw [mN l hn2 i j b t t' (by simpa using h1) (by simpa using h2)]
theorem tf {H : List Blk} {keep : List (Nat × Bool)} : ∀ (l : List (Nat × Bool)) (j : Nat) (x : Blk), (rnH H keep l)[j]? = some x -> x.isLive = true -> ∃ b t y, l[j]? = some (b, t) /\ H[b]? = some y /\ rfB (fun b => posOf keep b 0) t y = x
 | [], j, x, h, _ => by simp [rnH] at h
 | (b, t) :: l, j, x, h, hx => by
  simp only [rnH] at h
  cases j with
  | zero =>
   simp only [List.getElem?_cons_zero, Option.some.injEq] at h
   cases hb : H[b]? with
   | none => rw [hb] at h; subst h; simp [Blk.isLive] at hx
   | some y => rw [hb] at h; exact ⟨b, t, y, rfl, hb, h⟩
  | succ j =>
   obtain ⟨b', t', y, h1, h2, h3⟩ := tf l j x (by simpa using h) hx
   exact ⟨b', t', y, by simpa using h1, h2, h3⟩
theorem nN {H : List Blk} {keep : List (Nat × Bool)} : ∀ (l : List (Nat × Bool)), (rnH H keep l).length = l.length
 | [] => rfl
 | (b, t) :: l => by simp [rnH, nN l]
theorem lG {ρ : Nat -> Option Nat} {t : Bool} {y : Blk} (h : (rfB ρ t y).eh = true) : y.eh = true := by cases t <;> cases y <;> first | rfl | (simp_all [rfB, Blk.eh]; done)
theorem mT {H : List Blk} : ∀ (l : List (Nat × Bool)), gu H l -> ∀ (j b : Nat), l[j]? = some (b, false) -> rD H[b]?
 | [], _, j, b, h => by simp at h
 | (y, false) :: l, hp, j, b, h => by
  cases j with
  | zero => simp only [List.getElem?_cons_zero, Option.some.injEq, Prod.mk.injEq] at h; obtain ⟨rfl, _⟩ := h; exact hp.1
  | succ j => exact mT l hp.2 j b (by simpa using h)
 | (y, true) :: l, hp, j, b, h => by
  cases j with
  | zero => simp at h
  | succ j => exact mT l hp j b (by simpa using h)
def Ao : Nat -> Nat -> List (Nat × Bool) -> Bool
 | 0, _, _ => true
 | _ + 1, _, [] => false
 | K + 1, i, (b, _) :: l => match Nat.beq b i with | true => Ao K (i + 1) l | false => false
theorem u9 : ∀ (K i : Nat) (l : List (Nat × Bool)), Ao K i l = true -> ∀ j, j < K -> ∃ t, l[j]? = some (i + j, t)
 | 0, _, _, _, j, hj => absurd hj (Nat.not_lt_zero j)
 | K + 1, i, [], h, _, _ => by cases h
 | K + 1, i, (b, t) :: l, h, j, hj => by
  simp only [Ao] at h
  split at h
  · rename_i hb
    have hb := Nat.eq_of_beq_eq_true hb
    subst hb
    cases j with
    | zero => exact ⟨t, rfl⟩
    | succ j =>
     obtain ⟨t', h'⟩ := u9 K (b + 1) l h j (by omega)
     exact ⟨t', by rw [List.getElem?_cons_succ, h', show b + 1 + j = b + (j + 1) by omega]⟩
  · cases h
theorem Wk.gc (slots : List Nat) (keep : List (Nat × Bool)) {st : St} (hn : mq keep = true) (hp : gu st.heap keep) (hpin : Ao K 0 keep = true := by kernel_rfl) : Wk K st (DG slots keep st) := fun out B w Z a hR => by
 obtain ⟨s, H⟩ := st
 simp only at hp
 have hI := hR.inv
 have hl := hI.len
 simp only at hI hl
 obtain ⟨Z', hπ'⟩ : ∃ Z' : List (Option PB), Z' = keep.map fun q => (Z[q.1]?).getD none := ⟨_, rfl⟩
 have hπ : ∀ b c p, posOf keep b 0 = some c -> Z[b]? = some (some p) -> Z'[c]? = some (some p) := by
  intro b c p h1 h2
  obtain ⟨j, t, rfl, h3⟩ := py keep b 0 c h1
  rw [hπ', List.getElem?_map, Nat.zero_add, h3]
  simp [h2]
 have back : ∀ {j : Nat} {x : Blk} {p : PB}, (rnH H keep keep)[j]? = some x -> x.isLive = true -> Z'[j]? = some (some p) -> ∃ b t y, keep[j]? = some (b, t) /\ H[b]? = some y /\ rfB (fun b => posOf keep b 0) t y = x /\ Z[b]? = some (some p) := by
  intro j x p h1 h2 h3
  obtain ⟨b, t, y, g1, g2, g3⟩ := tf keep j x h1 h2
  refine ⟨b, t, y, g1, g2, g3, ?_⟩
  rw [hπ', List.getElem?_map, g1] at h3
  simp only [Option.map_some, Option.some.injEq] at h3
  cases hb : Z[b]? with
  | none => rw [hb] at h3; cases h3
  | some q => rw [hb] at h3; simp only [Option.getD_some] at h3; rw [h3]
 have hmu : ∀ b, aH out Z' (rnH H keep keep) b -> aH out Z H b := by
  rintro b (ho | ⟨j, x, p, e1, e2, e3, e4⟩)
  · exact .inl ho
  · obtain ⟨b', t, y, g1, g2, g3, g4⟩ := back e1 (Blk.bS e2) e3
    exact .inr ⟨b', y, p, g2, lG (by rw [g3]; exact e2), g4, dR (by rw [g3]; exact e4)⟩
 refine ⟨Z', ⟨hR.defers, ?_, ?_⟩, hmu, fun j hj p hp => ?_⟩
 rotate_left 2
 · obtain ⟨t, ht⟩ := u9 K 0 keep hpin j hj
   rw [Nat.zero_add] at ht
   rw [hπ', List.getElem?_map, ht]
   simp [hp]
 · exact nL hmu hπ _ _ (sX slots _ _ _ hR.slots)
 · refine ⟨by rw [hπ', List.length_map]; exact (nN keep).symm, hI.bound, hI.out_lt, ?_, ?_, ?_⟩
   · intro j x p b0 e1 e2 e3
     obtain ⟨b, t, y, g1, g2, g3, g4⟩ := back e1 (Blk.cU e3) e2
     exact hI.baseO b y p b0 g2 g4 (dR (by rw [g3]; exact e3))
   · intro j x p e1 e2
     cases hx : x.isLive with
     | false => cases x <;> simp_all [Blk.isLive, cS]
     | true =>
      obtain ⟨b, t, y, g1, g2, g3, g4⟩ := back e1 hx e2
      have hok := hI.ok b y p g2 g4
      subst g3
      exact vT hmu hπ (fun ht => by subst ht; have := mT keep hp j b g1; rw [g2] at this; exact this) hok
   · intro i j x y p q b0 hij e1 e2 e3 e4 e5 e6 e7
     obtain ⟨b, t, z, g1, g2, g3, g4⟩ := back e1 (Blk.bS e5) e3
     obtain ⟨b', t', z', k1, k2, k3, k4⟩ := back e2 (Blk.cU e7) e4
     refine hI.sepO b b' z z' p q b0 ?_ g2 k2 g4 k4 (lG (by rw [g3]; exact e5)) (dR (by rw [g3]; exact e6)) (dR (by rw [k3]; exact e7))
     rintro rfl
     exact hij (mN keep hn i j b t t' g1 k1)
theorem Wk.to {a b c : St} (h : Wk K a b) (e : b = c := by kernel_rfl) : Wk K a c := e ▸ h
end Go.Eng


set_option linter.unusedVariables false
namespace Go.Eng
open Go Go.RowKit
variable [Dr]
variable {K : Nat}
def slT {α : Type} (c : α -> List AV) (l : List α) : AV := .sl true (l.flatMap c) l.length
def iC (k : IntKind) (n : Int) : List AV := [.at (.int k n)]
def bC (b : Bool) : List AV := [.at (.bool b)]
def gt {α : Type} [Inhabited α] (l : List α) (i : Int) : α := l.getD i.toNat default
def inR (i : Int) (n : Nat) : Bool := decide (0 <= i) && decide (i < (n : Int))
def inS (lo hi : Int) (n : Nat) : Bool := decide (0 <= lo) && decide (lo <= hi) && decide (hi <= (n : Int))
theorem ax {i : Int} {n : Nat} (h : inR i n = true) : i.toNat < n := by
 simp only [inR, Bool.and_eq_true, decide_eq_true_eq] at h; omega
section
variable {α : Type} {c : α -> List AV} {es : Nat} {l : List α}
theorem gR (hc : ∀ x, (c x).length = es) : ∀ l : List α, (l.flatMap c).length = l.length * es
 | [] => by simp
 | x :: l => by simp only [List.flatMap_cons, List.length_append, hc, gR hc l, List.length_cons, Nat.add_mul, Nat.one_mul]; omega
theorem oY (hc : ∀ x, (c x).length = es) : ∀ (l : List α) (i : Nat), (l.flatMap c).drop (i * es) = (l.drop i).flatMap c
 | l, 0 => by simp
 | [], i + 1 => by simp
 | x :: l, i + 1 => by
  rw [List.flatMap_cons, List.drop_succ_cons, <- oY hc l i, show (i + 1) * es = (c x).length + i * es by rw [hc, Nat.add_mul, Nat.one_mul, Nat.add_comm], List.drop_append]
  simp
theorem mM (hc : ∀ x, (c x).length = es) : ∀ (l : List α) (i : Nat), (l.flatMap c).take (i * es) = (l.take i).flatMap c
 | l, 0 => by simp
 | [], i + 1 => by simp
 | x :: l, i + 1 => by
  rw [List.flatMap_cons, List.take_succ_cons, List.flatMap_cons, <- mM hc l i, show (i + 1) * es = (c x).length + i * es by rw [hc, Nat.add_mul, Nat.one_mul, Nat.add_comm], List.take_append]
  simp [List.take_of_length_le]
theorem pw [Inhabited α] : ∀ (l : List α) (i : Nat), i < l.length -> l.drop i = l.getD i default :: l.drop (i + 1)
 | [], i, h => by simp at h
 | x :: l, 0, h => by simp
 | x :: l, i + 1, h => by simpa using pw l i (by simpa using h)
theorem xr [Inhabited α] (hc : ∀ x, (c x).length = es) {i : Nat} (hi : i < l.length) : ((l.flatMap c).drop (i * es)) = c (l.getD i default) ++ (l.drop (i + 1)).flatMap c := by
 rw [oY hc, pw l i hi, List.flatMap_cons]
theorem aC [Inhabited α] (hc : ∀ x, (c x).length = es) {i j k : Nat} {A : AV} (hi : i < l.length) (hk : k < es) (hj : j = i * es + k) (hA : (c (l.getD i default))[k]? = some A) : (l.flatMap c)[j]? = some A := by
 have : (l.flatMap c)[j]? = ((l.flatMap c).drop (i * es))[k]? := by rw [List.getElem?_drop, hj]
 rw [this, xr hc hi, List.getElem?_append_left (by rw [hc]; exact hk), hA]
theorem xy [Inhabited α] (hc : ∀ x, (c x).length = es) {i j k n : Nat} (hi : i < l.length) (hk : k + n <= es) (hj : j = i * es + k) : ((l.flatMap c).drop j).take n = ((c (l.getD i default)).drop k).take n := by
 rw [hj, <- List.drop_drop, xr hc hi, List.drop_append_of_le_length (by rw [hc]; omega), List.take_append_of_le_length (by rw [List.length_drop, hc]; omega)]
theorem xZ [Inhabited α] (hc : ∀ x, (c x).length = es) {i j k n : Nat} (hi : i < l.length) (hk : k + n <= es) (hj : j = i * es + k) : decide (n <= ((l.flatMap c).drop j).length) = true := by
 rw [decide_eq_true_eq, List.length_drop, gR hc, hj]
 have : (i + 1) * es <= l.length * es := Nat.mul_le_mul_right _ hi
 rw [Nat.add_mul, Nat.one_mul] at this
 omega
theorem jn : ∀ (xs cs ds : List AV) (k : Nat), k + xs.length <= cs.length -> setCells (cs ++ ds) k xs = setCells cs k xs ++ ds
 | [], _, _, _, _ => rfl
 | x :: xs, cs, ds, k, h => by
  simp only [setCells]
  rw [List.set_append_left _ _ (by simp at h; omega), jn xs (cs.set k x) ds (k + 1) (by simp at h ⊢; omega)]
theorem iU : ∀ (xs cs ds : List AV) (k : Nat), setCells (cs ++ ds) (cs.length + k) xs = cs ++ setCells ds k xs
 | [], _, _, _ => rfl
 | x :: xs, cs, ds, k => by
  simp only [setCells]
  rw [List.set_append_right _ _ (by omega), show cs.length + k - cs.length = k by omega, Nat.add_assoc, iU xs cs (ds.set k x) (k + 1)]
theorem bE [Inhabited α] (hc : ∀ x, (c x).length = es) {i j k : Nat} {xs : List AV} {x' : α} (hi : i < l.length) (hk : k + xs.length <= es) (hj : j = i * es + k) (hx : setCells (c (l.getD i default)) k xs = c x') : setCells (l.flatMap c) j xs = (l.set i x').flatMap c := by
 have hl : l = l.take i ++ l.getD i default :: l.drop (i + 1) := by rw [<- pw l i hi, List.take_append_drop]
 have hlen : (l.take i).length = i := by rw [List.length_take]; omega
 have hlen2 : ((l.take i).flatMap c).length = i * es := by rw [gR hc, hlen]
 have hs : l.set i x' = l.take i ++ x' :: l.drop (i + 1) := by
  rw [List.set_eq_take_append_cons_drop, if_pos hi]
 rw [hs]
 generalize hd : l.getD i default = d at *
 have h0 : l.flatMap c = (l.take i).flatMap c ++ (c d ++ (l.drop (i + 1)).flatMap c) := by
  rw [<- List.flatMap_cons, <- List.flatMap_append, <- hl]
 rw [h0, hj, <- hlen2, iU, jn _ _ _ _ (by rw [hc]; exact hk), hx, <- List.flatMap_cons, <- List.flatMap_append]
theorem bn (hc : ∀ x, (c x).length = es) {i j k n : Nat} (hi : i < l.length) (hk : k + n <= es) (hj : j = i * es + k) : decide (j + n <= (l.flatMap c).length) = true := by
 rw [decide_eq_true_eq, gR hc, hj]
 have : (i + 1) * es <= l.length * es := Nat.mul_le_mul_right _ hi
 rw [Nat.add_mul, Nat.one_mul] at this
 omega
theorem wV : ∀ (a b : List AV), cn (a ++ b) = cn a ++ cn b
 | [], b => rfl
 | x :: a, b => by simp [cn, wV a b]
theorem aA (hp : ∀ x, cn (c x) = []) : ∀ l : List α, cn (l.flatMap c) = []
 | [] => rfl
 | x :: l => by rw [List.flatMap_cons, wV, hp, aA hp l]; rfl
theorem nc {z : α} : ∀ n : Nat, cN (c z) n = (List.replicate n z).flatMap c
 | 0 => rfl
 | n + 1 => by simp only [cN, List.replicate_succ, List.flatMap_cons, nc n]
theorem cZ {l : List α} (h : l.length = 0) : l.flatMap c = [] := by rw [List.length_eq_zero_iff.1 h]; rfl
end
def eE (b : Bool) (v : AV) : Option AV := match b with | true => some v | false => none
def jW (b : Bool) (r : Option bc) : Option bc := match b with | true => r | false => none
def stO (b : Bool) (ws : List (Nat × Blk)) : Option bc := match (match b with | true => some ws | false => none) with | some ws => some (.eff .unk ws) | none => none
theorem aq {b : Bool} {v : AV} (h : b = true) : bc.ofP (eE b v) = some (.pure v) := by subst h; rfl
theorem aD {o : Option AV} {v : AV} (h : o = some v) : bc.ofP o = some (.pure v) := by subst h; rfl
theorem dB {b : Bool} {i : Nat} {y y' : Blk} (h : b = true) (hy : y = y') : stO b [(i, y)] = some (.eff .unk [(i, y')]) := by subst h; subst hy; rfl
section
variable {α : Type} {c : α -> List AV} {es : Nat} {l : List α}
theorem dm (hc : ∀ x, (c x).length = es) {xs : List α} {new : List AV} {i nid m by_ len : Nat} (hlen : len = l.length) (hm : xs.length = m) (hn : new = xs.flatMap c) (h2 : decide ((l.length + m) * by_ <= 140737488355328) = true) (h3 : decide (l.length + m <= 4611686018427387904) = true) :
  jW (decide (0 + len * es <= (l.flatMap c).length) && decide ((len + m) * by_ <= 140737488355328) && decide (len + m <= 4611686018427387904)) (some (.eff (.hs nid 0 (len + m) es) [(i, .dead), (nid, .own (((l.flatMap c).drop 0).take (len * es) ++ new))])) =
   some (.eff (.hs nid 0 (l ++ xs).length es) [(i, .dead), (nid, .own ((l ++ xs).flatMap c))]) := by
 subst hlen
 have h1 : decide (0 + l.length * es <= (l.flatMap c).length) = true := by rw [decide_eq_true_eq, gR hc]; omega
 have h4 : ((l.flatMap c).drop 0).take (l.length * es) = l.flatMap c := by rw [List.drop_zero, <- gR hc, List.take_length]
 rw [h1, h2, h3, h4, hn, <- List.flatMap_append, List.length_append, hm]; rfl
def Ah (b : Bool) (new : List AV) (m : Nat) (f : List AV -> Nat -> Option bc) : Option bc := match (match b with | true => some (new, m) | false => none) with | none => none | some (new, m) => f new m
theorem vv {b : Bool} {new new' : List AV} {m : Nat} {f : List AV -> Nat -> Option bc} {r : Option bc} (hb : b = true) (hn : new = new') (h : f new' m = r) : Ah b new m f = r := by subst hb; subst hn; exact h
theorem pE (hc : ∀ x, (c x).length = es) : decide ((l.flatMap c).length = l.length * es) = true := by rw [decide_eq_true_eq, gR hc]
theorem zx {z : α} {zc : List AV} {n : Int} {nid by_ : Nat} (hz : zc = c z) (h : decide (0 <= n) = true) (h2 : decide ((by_ : Int) * n <= 281474976710656) = true) (h3 : decide (n <= 9223372036854775807) = true) :
  jW (decide (0 <= n) && decide (n <= n) && decide ((by_ : Int) * n <= 281474976710656) && decide (n <= 9223372036854775807) && true && true && true) (some (.eff (.hs nid 0 n.toNat es) [(nid, .own (cN zc n.toNat))])) =
   some (.eff (.hs nid 0 (List.replicate n.toNat z).length es) [(nid, .own ((List.replicate n.toNat z).flatMap c))]) := by
 subst hz
 have : decide (n <= n) = true := by simp
 rw [h, h2, h3, this, nc, List.length_replicate]; rfl
end
def mx (x y : Int) : Int := if y > x then y else x
def mn (x y : Int) : Int := if y < x then y else x
theorem zp (x y : Int) : mx x y = max x y := by unfold mx; split <;> omega
theorem qv (x y : Int) : mn x y = min x y := by unfold mn; split <;> omega
def b7 (op : BinOp) (k : IntKind) (x y : Int) : Int :=
 match op with
 | .and => k.wrap (BitVec.ofInt k.bits x &&& BitVec.ofInt k.bits y).toNat
 | .or => k.wrap (BitVec.ofInt k.bits x ||| BitVec.ofInt k.bits y).toNat
 | .xor => k.wrap (BitVec.ofInt k.bits x ^^^ BitVec.ofInt k.bits y).toNat
 | .andNot => k.wrap (BitVec.ofInt k.bits x &&& ~~~ BitVec.ofInt k.bits y).toNat
 | _ => 0
theorem wW {k : IntKind} {n : Int} : (some (.pure (.at (.int k (k.wrap n)))) : Option bc) = some (.pure (.at (.int k (ae k n)))) := by rw [fh]
section
variable {P : Program} {ρ : Operand -> AV} {H : List Blk} {nid : Nat} {dst : Option Tmp} {ty t u : TypeId} {pos : String} {after : Array Edge} {g : Option (Nat × Bool)} {a b : Operand} {k : IntKind} {x y : Int}
theorem xI (k : IntKind) : IntKind.nk k k = true := by cases k <;> rfl
theorem yi (ha : ρ a = .at (.int k x)) (hb : ρ b = .at (.int k y)) {op : BinOp} {v : Value} (h : oW op k x y = some v) : evalOp P ρ H nid ⟨dst, .binOp op t a b u, ty, pos, after, g⟩ = some (.pure (.at v)) := by
 show bc.ofP (lI P op t a b (ρ a) (ρ b)) = _
 rw [ha, hb]
 have : lI P op t a b (.at (.int k x)) (.at (.int k y)) = some (.at v) := by
  unfold lI
  simp only [xI, h]
 rw [this]; rfl
theorem jy (ha : ρ a = .at (.int k x)) (hb : ρ b = .at (.int k y)) (h : (!decide (y = 0)) = true) : evalOp P ρ H nid ⟨dst, .binOp .rem t a b u, ty, pos, after, g⟩ = some (.pure (.at (.int k (x.tmod y)))) := by
 have hd : decide (y = 0) = false := by simpa using h
 exact yi ha hb (by simp only [oW, hd])
end
section
variable {P : Program} {call : dN} {ops rest : List Oper} {s : List AV} {h : List Blk} {K : List AV -> List Blk -> Prop} {KT : List AV -> List Blk -> List Ent -> Prop} {v : AV} {ws : List (Nat × Blk)}
 {dst : Option Tmp} {op : Op} {ty : TypeId} {pos : String} {after : Array Edge}
theorem EVO.p0 (he : evalOp P (evA s) h h.length ⟨dst, op, ty, pos, after, none⟩ = some (.pure v)) (hk : EVO P call ops rest (eS s dst v) h K) : EVO P call ops (⟨dst, op, ty, pos, after, none⟩ :: rest) s h K := EVO.pure rfl he hk
theorem EVO.e0 (he : evalOp P (evA s) h h.length ⟨dst, op, ty, pos, after, none⟩ = some (.eff v ws)) (hk : EVO P call ops rest (eS s dst v) (aO h ws) K) : EVO P call ops (⟨dst, op, ty, pos, after, none⟩ :: rest) s h K := EVO.eff rfl he hk
end
section
variable {P : Program} {call : dN} {ops rest : List Oper} {o : Oper} {s : List AV} {h : List Blk} {KT : List AV -> List Blk -> List Ent -> Prop} {v : AV} {ws : List (Nat × Blk)}
theorem EVT.p0 (hw : cE ops o s = some true) (he : evalOp P (evA s) h h.length o = some (.pure v)) (hok : jC h.length (oN o s h v []) = true) (hk : EVT P call ops rest (eS s o.dst v) h (fun s' h' es => KT s' h' (oN o s h v [] :: es))) : EVT P call ops (o :: rest) s h KT := EVT.pure hw he hok hk
end
theorem CQ.cT {P : Program} {k : List Fr} {F : X -> St -> Prop} {st : St} {c : Operand} {a b : Code} (hv : evA st.slots c = .at (.bool true)) (h : CQ K P (.c a :: k) F .normal st) : CQ K P (.c (.cond c a b) :: k) F .normal st := CQ.cond hv (fun _ => h) (fun e => by cases e)
theorem CQ.cF {P : Program} {k : List Fr} {F : X -> St -> Prop} {st : St} {c : Operand} {a b : Code} (hv : evA st.slots c = .at (.bool false)) (h : CQ K P (.c b :: k) F .normal st) : CQ K P (.c (.cond c a b) :: k) F .normal st := CQ.cond hv (fun e => by cases e) (fun _ => h)
theorem CQ.cut {P : Program} {k : List Fr} {F : X -> St -> Prop} {st : St} {d : Code} (Q : X -> St -> Prop) (h1 : CQ K P [.c d] Q .normal st) (h2 : ∀ x st', Q x st' -> CQ K P k F x st') : CQ K P (.c d :: k) F .normal st := SC.mono (Q := CQ K P [] Q) h1 h2
theorem ay (k : IntKind) : ∀ x, (iC k x).length = 1 := fun _ => rfl
theorem an (k : IntKind) : ∀ x, cn (iC k x) = [] := fun _ => rfl
def slC {α : Type} (c : α -> List AV) (l : List α) : List AV := [slT c l]
theorem fr {α : Type} (c : α -> List AV) : ∀ x, (slC c x).length = 1 := fun _ => rfl
theorem gX {α : Type} (c : α -> List AV) : ∀ x, cn (slC c x) = [] := fun _ => rfl
theorem cz {α : Type} {c : α -> List AV} {es : Nat} {l : List α} [Inhabited α] (hc : ∀ x, (c x).length = es) {i j k n : Nat} {cs : List AV} (hi : i < l.length) (hk : k + n <= es) (hj : j = i * es + k) (hcs : ((c (l.getD i default)).drop k).take n = cs) :
  bc.ofP (eE (decide (n <= ((l.flatMap c).drop j).length)) (.agg (((l.flatMap c).drop j).take n))) = some (.pure (.agg cs)) := by
 rw [xy hc hi hk hj, hcs]; exact aq (xZ hc hi hk hj)
theorem dw {b : Bool} (h : b = true) : (b && true) = true := by subst h; rfl
theorem yA {lo hi : Int} {n : Nat} (h : inS lo hi n = true) : hi.toNat <= n := by
 simp only [inS, Bool.and_eq_true, decide_eq_true_eq] at h; omega
theorem uE {α : Type} {c : α -> List AV} {es : Nat} (hl : ∀ x, (c x).length = es) (h0 : 0 < es) (hc : ∀ x y, c x = c y -> x = y) : ∀ l l' : List α, l.flatMap c = l'.flatMap c -> l = l'
 | [], [], _ => rfl
 | [], y :: l', h => by have := congrArg List.length h; simp only [List.flatMap_nil, List.flatMap_cons, List.length_append, List.length_nil, hl] at this; omega
 | x :: l, [], h => by have := congrArg List.length h; simp only [List.flatMap_nil, List.flatMap_cons, List.length_append, List.length_nil, hl] at this; omega
 | x :: l, y :: l', h => by
  simp only [List.flatMap_cons] at h
  obtain ⟨h1, h2⟩ := List.append_inj h (by rw [hl, hl])
  rw [hc x y h1, uE hl h0 hc l l' h2]
theorem Aj {α : Type} {c : α -> List AV} {es : Nat} (hl : ∀ x, (c x).length = es) (h0 : 0 < es) (hc : ∀ x y, c x = c y -> x = y) {l l' : List α} : slT c l = slT c l' ↔ l = l' := by
 constructor
 · intro h
   unfold slT at h
   injection h with _ h _
   exact uE hl h0 hc l l' h
 · rintro rfl; rfl
theorem Bk (k : IntKind) : ∀ x y, iC k x = iC k y -> x = y := fun x y h => by unfold iC at h; injection h with h; injection h with h; injection h
theorem uu {k : IntKind} {l l' : List Int} : slT (iC k) l = slT (iC k) l' ↔ l = l' := Aj (ay k) (by decide) (Bk k)
theorem Wk.eG (i : Nat) {b len es : Nat} (len' : Nat) {s : List AV} {h : List Blk} (hs : ox s i = .hs b 0 len es) (hl : len = len') : Wk K ⟨s, h⟩ ⟨s.set i (.hs b 0 len' es), h⟩ := Wk.slot i fun out B w Z v hI hv => by
 rw [<- nf, hs, hl] at hv
 exact hv
theorem CQ.tC {P : Program} {k : List Fr} {F : X -> St -> Prop} {d : Code} {t : Nat} {cs : List AV} {len : Nat} {s : List AV} {h : List Blk} (hs : ox s t = .sl true cs len) (h1 : len = 0 -> CQ K P (.c d :: k) F .normal ⟨s.set t (.at (.slice none 0 0)), h⟩) (h2 : CQ K P (.c d :: k) F .normal ⟨s.set t (.sl false cs len), h⟩) : CQ K P (.c d :: k) F .normal ⟨s, h⟩ := by
 intro out B w Z act R hR hr
 have hv := iq hR.slots t
 rw [hs] at hv
 have hset : ∀ A', Rv w (aH out Z h) Z A' (act.tmps.getD t undef) -> Rep out B w Z ⟨s.set t A', h⟩ act := by
  intro A' hA'
  refine ⟨hR.defers, ?_, hR.inv⟩
  have hss := hR.slots
  simp only at hss ⊢
  by_cases hi : t < s.length
  · obtain ⟨v, g1, g2⟩ := RvL.get _ _ t s[t] hss (geT hi)
    have e2 : act.tmps.getD t undef = v := by
     rw [Array.getElem?_toList] at g1
     rw [Array.getD_eq_getD_getElem?, g1]; rfl
    rw [e2] at hA'
    have hst := RvL.set s act.tmps.toList t A' v hss hA'
    have : act.tmps.toList.set t v = act.tmps.toList := by
     apply List.ext_getElem?
     intro j
     rw [List.getElem?_set]
     split
     · rename_i hij; subst hij
       rw [if_pos (aE g1)]; exact g1.symm
     · rfl
    rw [this] at hst; exact hst
  · rw [List.set_eq_of_length_le (by omega)]; exact hss
 rcases hv with ⟨_, e1, e2, e3⟩ | e
 · exact h1 e1 out B w Z act R (hset _ e3) hr
 · exact h2 out B w Z act R (hset (.sl false cs len) (.inr e)) hr
theorem xu {e : CE} {L : List CE} {H : List Blk} (hH : H = e.H) : cw (e :: L) e.f e.args H = some e.r := by subst hH; exact yh
theorem pN {e : CE} {L : List CE} {f : FuncId} {args : List AV} {H : List Blk} {r : qe} (hne : f = e.f -> args = e.args -> r = e.r) (h : cw L f args H = some r) : cw (e :: L) f args H = some r := by
 simp only [cw]
 split
 · rename_i hk; rw [hne hk.1 hk.2.1]
 · exact h
def aP {α β : Type} : Nat -> ((α -> Option β) -> α -> Option β) -> α -> Option β
 | 0, _, _ => none
 | n + 1, f, a => f (aP n f) a
theorem CQ.aP {P : Program} {k : List Fr} {F : X -> St -> Prop} {st : St} {α β : Type} {c : Code} {f : (α -> Option β) -> α -> Option β} {m : Nat} {a0 : α} {o : β} (σ : α -> St) (Q : X -> St -> Prop) (h0 : aP m f a0 = some o) (hw : Wk K st (σ a0))
  (hb : ∀ m a, f (Go.Eng.aP m f) a = some o -> CQ K P [.c c] (xf K σ (fun m a => Go.Eng.aP m f a = some o) (m + 1) Q) .normal (σ a)) (ha : ∀ x st', Q x st' -> CQ K P k F x st') : CQ K P (.c (.loop c) :: k) F .normal st :=
 CQ.loop σ (fun m a => Go.Eng.aP m f a = some o) Q a0 h0 hw (fun n a h => by
  cases n with
  | zero => cases h
  | succ n => exact hb n a h) ha
def gdO {α : Type} (b : Bool) (t : Option α) : Option α := match b with | true => t | false => none
def cdO {α : Type} (b : Bool) (t e : Option α) : Option α := match b with | true => t | false => e
def bdO {α β : Type} (x : Option α) (f : α -> Option β) : Option β := match x with | some a => f a | none => none
theorem gd {α : Type} {b : Bool} {t : Option α} {r : α} (h : gdO b t = some r) : b = true /\ t = some r := by cases b; cases h; exact ⟨rfl, h⟩
theorem cB {α : Type} {b : Bool} {t e : Option α} {r : α} (hb : b = true) (h : cdO b t e = some r) : t = some r := by subst hb; exact h
theorem cC {α : Type} {b : Bool} {t e : Option α} {r : α} (hb : b = false) (h : cdO b t e = some r) : e = some r := by subst hb; exact h
theorem bd {α β : Type} {x : Option α} {f : α -> Option β} {r : β} (h : bdO x f = some r) : ∃ a, x = some a /\ f a = some r := by cases x; cases h; exact ⟨_, rfl, h⟩
def mkS : Nat -> Nat -> List (Nat × AV) -> List AV
 | 0, _, _ => []
 | n + 1, i, [] => .unk :: mkS n (i + 1) []
 | n + 1, i, (t, A) :: l => match Nat.beq t i with | true => A :: mkS n (i + 1) l | false => .unk :: mkS n (i + 1) ((t, A) :: l)
theorem CQ.norm {P : Program} {k : List Fr} {F : X -> St -> Prop} {d : Code} {s s' : List AV} {h h' : List Blk} (keep : List Nat) (e : lv keep s 0 = s') (e2 : h = h') (hk : CQ K P (.c d :: k) F .normal ⟨s', h'⟩) : CQ K P (.c d :: k) F .normal ⟨s, h⟩ := CQ.wk ((Wk.mask keep).to (by rw [e, e2])) hk
end Go.Eng

