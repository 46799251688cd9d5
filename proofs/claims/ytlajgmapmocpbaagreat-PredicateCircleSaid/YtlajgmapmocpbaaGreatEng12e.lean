/- The engine, part 12: code and bodies are right. -/
import Derived.Test.YtlajgmapmocpbaaGreatEng11e
set_option linter.unusedSimpArgs false
set_option linter.unusedVariables false
namespace Go.Eng
open Go Go.RowKit

def X.toExit : X → Exit
  | .normal => .normal
  | .exit id => .exit id
  | .ret => .ret

section
variable {P : Program} {out : Nat → Prop} {B : Nat → Prop}

theorem evalRegion_sound (hng : NoNG P) (hm : P.follows .mixedOrders = true) {call : CallF} (hcall : CallsOk P call) {ops : Array Oper} {id : Nat} {draw : Bool} {st st' : St} (h : evalRegion P call ops.toList draw st = some st')
    {w : World} {π : List (Option PB)} {a : Act} (hR : Rep out B w π st a) {Q : Exit → Act → World → Prop}
    (hQ : ∀ a' w' π', Rep out B w' π' st' a' → Ext B w w' (muOf out π st.heap) (muOf out π' st'.heap) π π' → Q .normal a' w') : (Code.region id ops draw).wp P Q a w := by
  cases draw with
  | true => exact draw_sound hng hm hcall h hR hQ
  | false =>
    have h' : evalOps P call ops.toList ops.toList st = some st' := h
    refine wp_region ?_
    have := evalOps_sound hng hcall (Q := Q) ops.toList 0 st st' w π a (fun j => by simp) h' hR hQ
    rw [List.range_eq_range']
    simpa using this

theorem evalCode_sound (hng : NoNG P) (hm : P.follows .mixedOrders = true) {call : CallF} (hcall : CallsOk P call) {n : Nat} : ∀ (c : Code) (st st' : St) (x : X) (w : World) (π : List (Option PB)) (a : Act) (Q : Exit → Act → World → Prop),
    evalCode P call n c st = some (x, st') → Rep out B w π st a → (∀ a' w' π', Rep out B w' π' st' a' → Ext B w w' (muOf out π st.heap) (muOf out π' st'.heap) π π' → Q x.toExit a' w') → c.wp P Q a w := by
  intro c
  induction c with
  | skip => intro st st' x w π a Q h hR hQ; simp only [evalCode] at h; cases h; exact wp_skip (hQ a w π hR (Ext.refl _ _ _))
  | label l => intro st st' x w π a Q h hR hQ; simp only [evalCode] at h; cases h; exact wp_label (hQ a w π hR (Ext.refl _ _ _))
  | region id ops draw =>
    intro st st' x w π a Q h hR hQ
    simp only [evalCode] at h
    split at h
    · rename_i st1 h1
      cases h
      exact evalRegion_sound hng hm hcall h1 hR hQ
    · cases h
  | seq c d ihc ihd =>
    intro st st' x w π a Q h hR hQ
    simp only [evalCode] at h
    split at h
    · rename_i st1 h1
      refine wp_seq (ihc st st1 .normal w π a _ h1 hR fun a' w' π' hR' hE' => ?_)
      exact ihd st1 st' x w' π' a' Q h hR' fun a'' w'' π'' hR'' hE'' => hQ a'' w'' π'' hR'' (hE'.trans hE'')
    · rename_i r hne
      refine wp_seq (ihc st st' x w π a _ h hR fun a' w' π' hR' hE' => ?_)
      have := hQ a' w' π' hR' hE'
      cases x with
      | normal => exact (hne st' h).elim
      | exit id => exact this
      | ret => exact this
  | cond o c d ihc ihd =>
    intro st st' x w π a Q h hR hQ
    simp only [evalCode] at h
    split at h
    · rename_i hc
      have hv : a.eval o = .bool true := by have := evA_sound hR.slots o; rw [hc] at this; exact this
      exact wp_cond_true hv (ihc st st' x w π a Q h hR hQ)
    · rename_i hc
      have hv : a.eval o = .bool false := by have := evA_sound hR.slots o; rw [hc] at this; exact this
      exact wp_cond_false hv (ihd st st' x w π a Q h hR hQ)
    · cases h
  | block id c ih =>
    intro st st' x w π a Q h hR hQ
    simp only [evalCode] at h
    split at h
    · rename_i id' st1 h1
      split at h
      · rename_i he
        have he : id' = id := by simpa using he
        subst he
        cases h
        refine wp_block (ih st st' (.exit id') w π a _ h1 hR fun a' w' π' hR' hE' => ?_)
        simp only [X.toExit, Exit.inBlock, if_true]
        exact hQ a' w' π' hR' hE'
      · rename_i he
        have he : ¬ id' = id := by simpa using he
        cases h
        refine wp_block (ih st st' (.exit id') w π a _ h1 hR fun a' w' π' hR' hE' => ?_)
        simp only [X.toExit, Exit.inBlock, if_neg he]
        exact hQ a' w' π' hR' hE'
    · rename_i r hne
      refine wp_block (ih st st' x w π a _ h hR fun a' w' π' hR' hE' => ?_)
      have := hQ a' w' π' hR' hE'
      cases x with
      | exit id' => exact (hne id' st' h).elim
      | normal => exact this
      | ret => exact this
  | loop c ih =>
    intro st st' x w π a Q h hR hQ
    simp only [evalCode] at h
    -- so many rounds
    have gen : ∀ (k : Nat) (st : St) (w : World) (π : List (Option PB)) (a : Act), iter (evalCode P call n c) k st = some (x, st') → Rep out B w π st a →
        (∀ a' w' π', Rep out B w' π' st' a' → Ext B w w' (muOf out π st.heap) (muOf out π' st'.heap) π π' → Q x.toExit a' w') → Code.rounds P c Q k a w := by
      intro k
      induction k with
      | zero => intro st w π a h; cases h
      | succ k ihk =>
        intro st w π a h hR hQ
        simp only [iter] at h
        split at h
        · rename_i st1 h1
          refine ih st st1 .normal w π a _ h1 hR fun a' w' π' hR' hE' => ?_
          exact ihk st1 w' π' a' h hR' fun a'' w'' π'' hR'' hE'' => hQ a'' w'' π'' hR'' (hE'.trans hE'')
        · rename_i r hne
          refine ih st st' x w π a _ h hR fun a' w' π' hR' hE' => ?_
          have := hQ a' w' π' hR' hE'
          cases x with
          | normal => exact (hne st' h).elim
          | exit id => exact this
          | ret => exact this
    exact wp_loop_rounds n (gen n st w π a h hR hQ)
  | exit id => intro st st' x w π a Q h hR hQ; simp only [evalCode] at h; cases h; exact wp_exit (hQ a w π hR (Ext.refl _ _ _))
  | ret => intro st st' x w π a Q h hR hQ; simp only [evalCode] at h; cases h; exact wp_ret (hQ a w π hR (Ext.refl _ _ _))
  | rangeFunc f ps c d _ _ => intro st st' x w π a Q h hR hQ; simp only [evalCode] at h; cases h
  | scope c _ => intro st st' x w π a Q h hR hQ; simp only [evalCode] at h; cases h
  | goto l => intro st st' x w π a Q h hR hQ; simp only [evalCode] at h; cases h
  | refuse s => intro st st' x w π a Q h hR hQ; simp only [evalCode] at h; cases h

/- A function's body. -/
def resV (a : Act) : ResultVar → Sem Value
  | .tmp t => pure (a.tmps.getD t undef)
  | .cell x t => do loadVar t (← asAddr (a.tmps.getD x undef))

theorem resultA_sound {w : World} {π : List (Option PB)} {st : St} {a : Act} (hR : Rep out B w π st a) {r : ResultVar} {v : AV} (h : resultA P st r = some v) :
    ∃ u, (resV a r).run P w = .ok u w ∧ Rv w (muOf out π st.heap) π v u := by
  cases r with
  | tmp t =>
    simp only [resultA] at h
    cases h
    exact ⟨_, rfl, slot_sound hR.slots t⟩
  | cell x t =>
    simp only [resultA] at h
    have hx := slot_sound hR.slots x
    obtain ⟨u, h1, h2⟩ := loadA_sound (P := P) hR.inv hx h
    have hp : ∃ ad, a.tmps.getD x undef = .pointer (some ad) := by
      unfold loadA at h
      split at h
      · split at h
        · rename_i n cs hn hcs
          obtain ⟨b, o, e1, _⟩ := cellsFrom_sound hR.inv hx hcs
          exact ⟨_, e1⟩
        · cases h
      · obtain ⟨ad, u, e1, _⟩ := cellAt_sound hR.inv hx h
        exact ⟨_, e1⟩
      · cases h
    obtain ⟨ad, e1⟩ := hp
    rw [e1] at h1
    refine ⟨u, ?_, h2⟩
    simp only [resV, e1]
    simpa [Instr.loadAt, Instr.sureAddr, asAddr] using h1

theorem resultsA_sound {w : World} {π : List (Option PB)} {st : St} {a : Act} (hR : Rep out B w π st a) : ∀ (rs : List ResultVar) (vs : List AV), resultsA P st rs = some vs →
    ∃ us : List Value, (rs.mapM (resV a)).run P w = .ok us w ∧ RvL w (muOf out π st.heap) π vs us
  | [], vs, h => by cases h; exact ⟨[], rfl, rfl⟩
  | r :: rs, vs, h => by
    simp only [resultsA] at h
    split at h
    · rename_i v vs' hv hvs
      cases h
      obtain ⟨u, h1, h2⟩ := resultA_sound hR hv
      obtain ⟨us, h3, h4⟩ := resultsA_sound hR rs vs' hvs
      refine ⟨u :: us, ?_, u, us, rfl, h2, h4⟩
      simp only [List.mapM_cons, Sem.run_bind, h1, Result.andThen_ok, h3, Sem.run_pure]
    · cases h

theorem packA_sound {w : World} {mu : Nat → Prop} {π : List (Option PB)} {vs : List AV} {us : List Value} (h : RvL w mu π vs us) : Rv w mu π (packA vs) (if h : us.toArray.size = 1 then us.toArray[0] else .tuple us.toArray) := by
  match vs, us, h with
  | [], _, h => cases h; exact ⟨#[], rfl, rfl⟩
  | [v], _, h =>
    obtain ⟨u, us', rfl, h1, rfl⟩ := h
    simpa [packA] using h1
  | v1 :: v2 :: vs, _, h =>
    obtain ⟨u1, us', rfl, h1, u2, us'', rfl, h2, h3⟩ := h
    have : ¬ (u1 :: u2 :: us'').toArray.size = 1 := by simp
    rw [dif_neg this]
    exact ⟨_, rfl, u1, _, rfl, h1, u2, _, rfl, h2, h3⟩

theorem results_sound {w : World} {π : List (Option PB)} {st : St} {a : Act} (hR : Rep out B w π st a) {fn : Func} {vs : List AV} (h : resultsA P st fn.results.toList = some vs) :
    ∃ u, (results fn a.tmps).run P w = .ok u w ∧ Rv w (muOf out π st.heap) π (packA vs) u := by
  obtain ⟨us, h1, h2⟩ := resultsA_sound hR _ _ h
  refine ⟨_, ?_, packA_sound h2⟩
  have key : ∀ F : ResultVar → Sem Value, (∀ r, F r = resV a r) → (fn.results.toList.mapM F).run P w = .ok us w := by
    intro F hF
    rw [show F = resV a from funext hF]
    exact h1
  unfold results
  rw [Array.mapM_eq_mapM_toList]
  simp only [Sem.run_bind, Sem.run_map]
  rw [key _ (fun r => by cases r <;> rfl)]
  rfl

/-- A body's evaluation is what a call of the function does. -/
theorem evalBody_sound (hng : NoNG P) (hm : P.follows .mixedOrders = true) {call : CallF} (hcall : CallsOk P call) {n : Nat} {f : FuncId} {fn : Func} (hf : P.funcs[f]? = some fn) {args : List AV} {H H' : List Blk} {v : AV} (h : evalBody P call n fn args H = some (v, H'))
    {w : World} {π : List (Option PB)} {vs : List Value} (hI : Inv out B w π H) (ha : RvL w (muOf out π H) π args vs) :
    Calls P f vs.toArray w fun e w' => ∃ u π', e = .returned u ∧ Ext B w w' (muOf out π H) (muOf out π' H') π π' ∧ Inv out B w' π' H' ∧ Rv w' (muOf out π' H') π' v u := by
  unfold evalBody at h
  split at h
  · cases h
  · rename_i c hc
    refine calls_of_wp hf hc ?_
    have hlen := RvL.length _ _ ha
    have hR : Rep out B w π ⟨args ++ unks (fn.ntmps - args.length), H⟩ { tmps := vs.toArray ++ Array.replicate (fn.ntmps - vs.toArray.size) undef, defers := [] } := by
      refine ⟨rfl, ?_, hI⟩
      simp only [Array.toList_append, Array.toList_replicate, List.size_toArray, hlen]
      refine RvL.append _ _ _ _ ha ?_
      refine RvL.of_forall _ _ (by simp [unks]) fun i x y h1 h2 => ?_
      have := List.mem_of_getElem? h1
      simp [unks] at this
      rw [this.2]; trivial
    have fin : ∀ (x : X) (st : St) (vs' : List AV), (∀ id, x ≠ .exit id) → evalCode P call n c ⟨args ++ unks (fn.ntmps - args.length), H⟩ = some (x, st) → resultsA P st fn.results.toList = some vs' → v = packA vs' → H' = st.heap →
        c.wp P (bodyPost P fn fun e w' => ∃ u π', e = .returned u ∧ Ext B w w' (muOf out π H) (muOf out π' H') π π' ∧ Inv out B w' π' H' ∧ Rv w' (muOf out π' H') π' v u) { tmps := vs.toArray ++ Array.replicate (fn.ntmps - vs.toArray.size) undef, defers := [] } w := by
      intro x st vs' hx he hr ev eH
      subst ev; subst eH
      refine evalCode_sound hng hm hcall c _ st x w π _ _ he hR fun a' w' π' hR' hE' => ?_
      obtain ⟨u, r1, r2⟩ := results_sound hR' hr
      cases x with
      | normal => exact ⟨hR'.defers, u, r1, u, π', rfl, hE', hR'.inv, r2⟩
      | ret => exact ⟨hR'.defers, u, r1, u, π', rfl, hE', hR'.inv, r2⟩
      | exit id => exact (hx id rfl).elim
    split at h
    · cases h
    · rename_i x st hne he
      split at h
      · rename_i vs' hr
        cases h
        exact fin x st vs' (fun id e => hne id e) he hr rfl rfl
      · cases h
    · cases h
end
end Go.Eng
