import Derived.Test.YtndmnfmpbcecaaaEng11nffnogdp
set_option linter.all false
namespace Go.Eng
open Go Go.RowKit
variable [Dr]
def X.toExit : X → Exit
 | .normal => .normal
 | .exit id => .exit id
 | .ret => .ret
section
variable {P : Program} {out : Nat → Prop} {B : Nat → Prop}
theorem evalRegion_sound (hng : NoNG P) (hm : P.follows .mixedOrders = true) {call : CallF} (hcall : CallsOk P call) {ops : Array Oper} {id : Nat} {draw : Bool} {st st' : St} (h : evalRegion P call ops.toList draw st = some st')
  {w : World} {π : List (Option PB)} {a : Act} (hR : Rep out B w π st a) {Q : Exit → Act → World → Prop}
  (hQ : ∀ a' w' π', Rep out B w' π' st' a' → Ext B w w' (muOf out π st.heap) (muOf out π' st'.heap) π π' → Q .normal a' w') : (Code.region id ops draw).wp P Q a w := by
 cases draw with
 | true => exact draw_sound hng hm hcall h hR hQ
 | false =>
  have h' : evalOps P call ops.toList ops.toList st = some st' := h
  refine wp_region ?_
  have := evalOps_sound hng hcall (Q := Q) ops.toList 0 st st' w π a (fun j => by simp) h' hR hQ
  rw [List.range_eq_range']
  simpa using this
theorem evalCode_sound (hng : NoNG P) (hm : P.follows .mixedOrders = true) {call : CallF} (hcall : CallsOk P call) {n : Nat} : ∀ (c : Code) (st st' : St) (x : X) (w : World) (π : List (Option PB)) (a : Act) (Q : Exit → Act → World → Prop),
  evalCode P call n c st = some (x, st') → Rep out B w π st a → (∀ a' w' π', Rep out B w' π' st' a' → Ext B w w' (muOf out π st.heap) (muOf out π' st'.heap) π π' → Q x.toExit a' w') → c.wp P Q a w := by
 intro c
 induction c with
 | skip => intro st st' x w π a Q h hR hQ; simp only [evalCode] at h; cases h; exact wp_skip (hQ a w π hR (Ext.refl _ _ _))
 | label l => intro st st' x w π a Q h hR hQ; simp only [evalCode] at h; cases h; exact wp_label (hQ a w π hR (Ext.refl _ _ _))
 | region id ops draw =>
  intro st st' x w π a Q h hR hQ
  simp only [evalCode] at h
  split at h
  · rename_i st1 h1
    cases h
    exact evalRegion_sound hng hm hcall h1 hR hQ
  · cases h
 | seq c d ihc ihd =>
  intro st st' x w π a Q h hR hQ
  simp only [evalCode] at h
  split at h
  · rename_i st1 h1
    refine wp_seq (ihc st st1 .normal w π a _ h1 hR fun a' w' π' hR' hE' => ?_)
    exact ihd st1 st' x w' π' a' Q h hR' fun a'' w'' π'' hR'' hE'' => hQ a'' w'' π'' hR'' (hE'.trans hE'')
  · rename_i r hne
    refine wp_seq (ihc st st' x w π a _ h hR fun a' w' π' hR' hE' => ?_)
    have := hQ a' w' π' hR' hE'
    cases x with
    | normal => exact (hne st' h).elim
    | exit id => exact this
    | ret => exact this
 | cond o c d ihc ihd =>
  intro st st' x w π a Q h hR hQ
  simp only [evalCode] at h
  split at h
  · rename_i hc
    have hv : a.eval o = .bool true := by have := evA_sound hR.slots o; rw [hc] at this; exact this
    exact wp_cond_true hv (ihc st st' x w π a Q h hR hQ)
  · rename_i hc
    have hv : a.eval o = .bool false := by have := evA_sound hR.slots o; rw [hc] at this; exact this
    exact wp_cond_false hv (ihd st st' x w π a Q h hR hQ)
  · cases h
 | block id c ih =>
  intro st st' x w π a Q h hR hQ
  simp only [evalCode] at h
  split at h
  · rename_i id' st1 h1
    split at h
    · rename_i he
      have he : id' = id := by simpa using he
      subst he
      cases h
      refine wp_block (ih st st' (.exit id') w π a _ h1 hR fun a' w' π' hR' hE' => ?_)
      simp only [X.toExit, Exit.inBlock, if_true]
      exact hQ a' w' π' hR' hE'
    · rename_i he
      have he : ¬ id' = id := by simpa using he
      cases h
      refine wp_block (ih st st' (.exit id') w π a _ h1 hR fun a' w' π' hR' hE' => ?_)
      simp only [X.toExit, Exit.inBlock, if_neg he]
      exact hQ a' w' π' hR' hE'
  · rename_i r hne
    refine wp_block (ih st st' x w π a _ h hR fun a' w' π' hR' hE' => ?_)
    have := hQ a' w' π' hR' hE'
    cases x with
    | exit id' => exact (hne id' st' h).elim
    | normal => exact this
    | ret => exact this
 | loop c ih =>
  intro st st' x w π a Q h hR hQ
  simp only [evalCode] at h
  have gen : ∀ (k : Nat) (st : St) (w : World) (π : List (Option PB)) (a : Act), iter (evalCode P call n c) k st = some (x, st') → Rep out B w π st a →
    (∀ a' w' π', Rep out B w' π' st' a' → Ext B w w' (muOf out π st.heap) (muOf out π' st'.heap) π π' → Q x.toExit a' w') → Code.rounds P c Q k a w := by
   intro k
   induction k with
   | zero => intro st w π a h; cases h
   | succ k ihk =>
    intro st w π a h hR hQ
    simp only [iter] at h
    split at h
    · rename_i st1 h1
      refine ih st st1 .normal w π a _ h1 hR fun a' w' π' hR' hE' => ?_
      exact ihk st1 w' π' a' h hR' fun a'' w'' π'' hR'' hE'' => hQ a'' w'' π'' hR'' (hE'.trans hE'')
    · rename_i r hne
      refine ih st st' x w π a _ h hR fun a' w' π' hR' hE' => ?_
      have := hQ a' w' π' hR' hE'
      cases x with
      | normal => exact (hne st' h).elim
      | exit id => exact this
      | ret => exact this
  exact wp_loop_rounds n (gen n st w π a h hR hQ)
 | exit id => intro st st' x w π a Q h hR hQ; simp only [evalCode] at h; cases h; exact wp_exit (hQ a w π hR (Ext.refl _ _ _))
 | ret => intro st st' x w π a Q h hR hQ; simp only [evalCode] at h; cases h; exact wp_ret (hQ a w π hR (Ext.refl _ _ _))
 | rangeFunc f ps c d _ _ => intro st st' x w π a Q h hR hQ; simp only [evalCode] at h; cases h
 | scope c _ => intro st st' x w π a Q h hR hQ; simp only [evalCode] at h; cases h
 | goto l => intro st st' x w π a Q h hR hQ; simp only [evalCode] at h; cases h
 | refuse s => intro st st' x w π a Q h hR hQ; simp only [evalCode] at h; cases h
def resV (a : Act) : ResultVar → Sem Value
 | .tmp t => pure (a.tmps.getD t undef)
 | .cell x t => do loadVar t (← asAddr (a.tmps.getD x undef))
theorem resultA_sound {w : World} {π : List (Option PB)} {st : St} {a : Act} (hR : Rep out B w π st a) {r : ResultVar} {v : AV} (h : resultA P st r = some v) :
  ∃ u, (resV a r).run P w = .ok u w ∧ Rv w (muOf out π st.heap) π v u := by
 cases r with
 | tmp t =>
  simp only [resultA] at h
  cases h
  exact ⟨_, rfl, slot_sound hR.slots t⟩
 | cell x t =>
  simp only [resultA] at h
  have hx := slot_sound hR.slots x
  obtain ⟨u, h1, h2⟩ := loadA_sound (P := P) hR.inv hx h
  have hp : ∃ ad, a.tmps.getD x undef = .pointer (some ad) := by
   unfold loadA at h
   split at h
   · split at h
     · rename_i n cs hn hcs
       obtain ⟨b, o, e1, _⟩ := cellsFrom_sound hR.inv hx hcs
       exact ⟨_, e1⟩
     · cases h
   · obtain ⟨ad, u, e1, _⟩ := cellAt_sound hR.inv hx h
     exact ⟨_, e1⟩
   · cases h
  obtain ⟨ad, e1⟩ := hp
  rw [e1] at h1
  refine ⟨u, ?_, h2⟩
  simp only [resV, e1]
  simpa [Instr.loadAt, Instr.sureAddr, asAddr] using h1
theorem resultsA_sound {w : World} {π : List (Option PB)} {st : St} {a : Act} (hR : Rep out B w π st a) : ∀ (rs : List ResultVar) (vs : List AV), resultsA P st rs = some vs →
  ∃ us : List Value, (rs.mapM (resV a)).run P w = .ok us w ∧ RvL w (muOf out π st.heap) π vs us
 | [], vs, h => by cases h; exact ⟨[], rfl, rfl⟩
 | r :: rs, vs, h => by
  simp only [resultsA] at h
  split at h
  · rename_i v vs' hv hvs
    cases h
    obtain ⟨u, h1, h2⟩ := resultA_sound hR hv
    obtain ⟨us, h3, h4⟩ := resultsA_sound hR rs vs' hvs
    refine ⟨u :: us, ?_, u, us, rfl, h2, h4⟩
    simp only [List.mapM_cons, Sem.run_bind, h1, Result.andThen_ok, h3, Sem.run_pure]
  · cases h
theorem packA_sound {w : World} {mu : Nat → Prop} {π : List (Option PB)} {vs : List AV} {us : List Value} (h : RvL w mu π vs us) : Rv w mu π (packA vs) (if h : us.toArray.size = 1 then us.toArray[0] else .tuple us.toArray) := by
 match vs, us, h with
 | [], _, h => cases h; exact ⟨#[], rfl, rfl⟩
 | [v], _, h =>
  obtain ⟨u, us', rfl, h1, rfl⟩ := h
  simpa [packA] using h1
 | v1 :: v2 :: vs, _, h =>
  obtain ⟨u1, us', rfl, h1, u2, us'', rfl, h2, h3⟩ := h
  have : ¬ (u1 :: u2 :: us'').toArray.size = 1 := by simp
  rw [dif_neg this]
  exact ⟨_, rfl, u1, _, rfl, h1, u2, _, rfl, h2, h3⟩
theorem results_sound {w : World} {π : List (Option PB)} {st : St} {a : Act} (hR : Rep out B w π st a) {fn : Func} {vs : List AV} (h : resultsA P st fn.results.toList = some vs) :
  ∃ u, (results fn a.tmps).run P w = .ok u w ∧ Rv w (muOf out π st.heap) π (packA vs) u := by
 obtain ⟨us, h1, h2⟩ := resultsA_sound hR _ _ h
 refine ⟨_, ?_, packA_sound h2⟩
 have key : ∀ F : ResultVar → Sem Value, (∀ r, F r = resV a r) → (fn.results.toList.mapM F).run P w = .ok us w := by
  intro F hF
  rw [show F = resV a from funext hF]
  exact h1
 unfold results
 rw [Array.mapM_eq_mapM_toList]
 simp only [Sem.run_bind, Sem.run_map]
 rw [key _ (fun r => by cases r <;> rfl)]
 rfl
theorem evalBody_sound (hng : NoNG P) (hm : P.follows .mixedOrders = true) {call : CallF} (hcall : CallsOk P call) {n : Nat} {f : FuncId} {fn : Func} (hf : P.funcs[f]? = some fn) {args : List AV} {H H' : List Blk} {v : AV} (h : evalBody P call n fn args H = some (v, H'))
  {w : World} {π : List (Option PB)} {vs : List Value} (hI : Inv out B w π H) (ha : RvL w (muOf out π H) π args vs) :
  Calls P f vs.toArray w fun e w' => ∃ u π', e = .returned u ∧ Ext B w w' (muOf out π H) (muOf out π' H') π π' ∧ Inv out B w' π' H' ∧ Rv w' (muOf out π' H') π' v u := by
 unfold evalBody at h
 split at h
 · cases h
 · rename_i c hc
   refine calls_of_wp hf hc ?_
   have hlen := RvL.length _ _ ha
   have hR : Rep out B w π ⟨args ++ unks (fn.ntmps - args.length), H⟩ { tmps := vs.toArray ++ Array.replicate (fn.ntmps - vs.toArray.size) undef, defers := [] } := by
    refine ⟨rfl, ?_, hI⟩
    simp only [Array.toList_append, Array.toList_replicate, List.size_toArray, hlen]
    refine RvL.append _ _ _ _ ha ?_
    refine RvL.of_forall _ _ (by simp [unks]) fun i x y h1 h2 => ?_
    have := List.mem_of_getElem? h1
    simp [unks] at this
    rw [this.2]; trivial
   have fin : ∀ (x : X) (st : St) (vs' : List AV), (∀ id, x ≠ .exit id) → evalCode P call n c ⟨args ++ unks (fn.ntmps - args.length), H⟩ = some (x, st) → resultsA P st fn.results.toList = some vs' → v = packA vs' → H' = st.heap →
     c.wp P (bodyPost P fn fun e w' => ∃ u π', e = .returned u ∧ Ext B w w' (muOf out π H) (muOf out π' H') π π' ∧ Inv out B w' π' H' ∧ Rv w' (muOf out π' H') π' v u) { tmps := vs.toArray ++ Array.replicate (fn.ntmps - vs.toArray.size) undef, defers := [] } w := by
    intro x st vs' hx he hr ev eH
    subst ev; subst eH
    refine evalCode_sound hng hm hcall c _ st x w π _ _ he hR fun a' w' π' hR' hE' => ?_
    obtain ⟨u, r1, r2⟩ := results_sound hR' hr
    cases x with
    | normal => exact ⟨hR'.defers, u, r1, u, π', rfl, hE', hR'.inv, r2⟩
    | ret => exact ⟨hR'.defers, u, r1, u, π', rfl, hE', hR'.inv, r2⟩
    | exit id => exact (hx id rfl).elim
   split at h
   · cases h
   · rename_i x st hne he
     split at h
     · rename_i vs' hr
       cases h
       exact fin x st vs' (fun id e => hne id e) he hr rfl rfl
     · cases h
   · cases h
end
end Go.Eng


namespace Go.Eng
open Go Go.RowKit
variable [Dr]
section
variable {w : World} {mu mu' : Nat → Prop} {π π' : List (Option PB)}
theorem mapO_RvC {f : AV → Option AV} (hf : ∀ A v A', Rv w mu π A v → f A = some A' → Rv w mu' π' A' v) : ∀ (cs cs' : List AV) (b o : Nat), RvC w mu π cs b o → mapO f cs = some cs' → RvC w mu' π' cs' b o ∧ cs'.length = cs.length
 | [], cs', b, o, _, h => by cases h; exact ⟨trivial, rfl⟩
 | c :: cs, cs', b, o, hc, h => by
  simp only [mapO] at h
  split at h
  · rename_i y ys hy hys
    cases h
    obtain ⟨⟨v, h1, h2, h3⟩, h4⟩ := hc
    obtain ⟨i1, i2⟩ := mapO_RvC hf cs ys b (o + 1) h4 hys
    exact ⟨⟨⟨v, h1, h2, hf c v y h3 hy⟩, i1⟩, by simp [i2]⟩
  · cases h
theorem mapO_RvL {f : AV → Option AV} (hf : ∀ A v A', Rv w mu π A v → f A = some A' → Rv w mu' π' A' v) : ∀ (cs cs' : List AV) (vs : List Value), RvL w mu π cs vs → mapO f cs = some cs' → RvL w mu' π' cs' vs
 | [], cs', vs, hv, h => by cases h; cases hv; rfl
 | c :: cs, cs', vs, hv, h => by
  simp only [mapO] at h
  split at h
  · rename_i y ys hy hys
    cases h
    obtain ⟨v, vs', rfl, h3, h4⟩ := hv
    exact ⟨v, vs', rfl, hf c v y h3 hy, mapO_RvL hf cs ys vs' h4 hys⟩
  · cases h
theorem Ext.less (h : ∀ b, mu' b → mu b) : Ext (fun _ => False) w w mu mu' π π := ⟨fun _ _ => rfl, Nat.le_refl _, fun b _ hb => ⟨rfl, fun hb' => hb (h b hb')⟩, fun _ _ h => h, rfl, rfl, rfl, fun _ => Nat.le_refl _⟩
def Look (w : World) (mu mu' : Nat → Prop) (π : List (Option PB)) (H : List Blk) (ok : Nat → Bool) : Prop :=
 ∀ (b : Nat) (p : PB) (cs : List AV), ok b = true → (H[b]? = some (.own cs) ∨ H[b]? = some (.fix cs)) → π[b]? = some (some p) → RvC w mu π cs p.blk p.off ∧ ¬ mu' p.blk
theorem snapA_sound {H : List Blk} {ok : Nat → Bool} (hL : Look w mu mu' π H ok) (hmu : ∀ b, mu' b → mu b) : ∀ (n : Nat) (A A' : AV) (v : Value), Rv w mu π A v → snapA H ok n A = some A' → Rv w mu' [] A' v := by
 have hE : Ext (fun _ => False) w w mu mu' [] [] := Ext.less hmu
 intro n
 induction n with
 | zero =>
  intro A A' v hA h
  cases A <;> simp only [snapA] at h
  case unk => cases h; trivial
  case «at» => cases h; exact hA
  case sl nl cs len => cases h; exact Rv.ext hE (.sl nl cs len) v hA
  case pp cs off => cases h; exact Rv.ext hE (.pp cs off) v hA
  all_goals cases h
 | succ n ih =>
  intro A A' v hA h
  cases A <;> simp only [snapA] at h
  case unk => cases h; trivial
  case «at» => cases h; exact hA
  case sl nl cs len => cases h; exact Rv.ext hE (.sl nl cs len) v hA
  case pp cs off => cases h; exact Rv.ext hE (.pp cs off) v hA
  case hs b off len es =>
   split at h
   · rename_i cs m hok hsc
     split at h
     · rename_i cs' hcs'
       cases h
       rcases hA with ⟨rfl, rfl⟩ | ⟨p, a, cap, h1, rfl, h2, hsp, h3⟩
       · have : cs = [] ∧ m = 0 := by
          simp only [sliceCells] at hsc
          split at hsc
          · split at hsc
            · cases hsc; simp
            · cases hsc
          · split at hsc
            · cases hsc; simp
            · cases hsc
          · cases hsc
         obtain ⟨rfl, rfl⟩ := this
         cases hcs'
         exact .inl ⟨rfl, rfl, rfl, rfl⟩
       obtain ⟨ab, ao, asp⟩ := a
       simp only at hsp; subst hsp
       have key : ∀ c : List AV, (H[b]? = some (.own c) ∨ H[b]? = some (.fix c)) → off + len * es ≤ c.length → cs = (c.drop off).take (len * es) → m = len → Rv w mu' [] (.sl true cs' m) (.slice (some ⟨ab, ao, none⟩) len cap) := by
        intro c hc hle e1 e2
        subst e1; subst e2
        obtain ⟨g1, g2⟩ := hL b p c hok hc h1
        have hr := RvC.take (m * es) _ _ _ (RvC.drop off c _ _ g1)
        obtain ⟨k1, k2⟩ := mapO_RvC (fun A v A' hA hA' => ih A A' v hA hA') _ cs' _ _ hr hcs'
        by_cases hcap : 0 < cap
        · obtain ⟨e1, _⟩ := h3 hcap
          cases e1
          exact .inr (.inl ⟨_, _, cap, rfl, h2, fun _ => g2, k1⟩)
        · have hm : m = 0 := by omega
          subst hm
          have : cs' = [] := by rw [← List.length_eq_zero_iff, k2]; simp
          subst this
          exact .inr (.inl ⟨_, _, cap, rfl, h2, fun h => (h rfl).elim, trivial⟩)
       simp only [sliceCells] at hsc
       split at hsc
       · rename_i c hc
         split at hsc
         · rename_i hle; cases hsc; exact key c (.inl hc) (by simpa using hle) rfl rfl
         · cases hsc
       · rename_i c hc
         split at hsc
         · rename_i hle; cases hsc; exact key c (.inr hc) (by simpa using hle) rfl rfl
         · cases hsc
       · cases hsc
     · cases h
   · cases h
  case hp b off =>
   obtain ⟨p, h1, rfl⟩ := hA
   split at h
   · rename_i c hok hc
     split at h
     · rename_i cs' hcs'
       cases h
       obtain ⟨g1, g2⟩ := hL b p c hok (.inl hc) h1
       obtain ⟨k1, _⟩ := mapO_RvC (fun A v A' hA hA' => ih A A' v hA hA') _ cs' _ _ g1 hcs'
       exact ⟨_, _, rfl, fun _ => g2, k1⟩
     · cases h
   · rename_i c hok hc
     split at h
     · rename_i cs' hcs'
       cases h
       obtain ⟨g1, g2⟩ := hL b p c hok (.inr hc) h1
       obtain ⟨k1, _⟩ := mapO_RvC (fun A v A' hA hA' => ih A A' v hA hA') _ cs' _ _ g1 hcs'
       exact ⟨_, _, rfl, fun _ => g2, k1⟩
     · cases h
   · cases h
  case mp b => cases h
  case agg cs =>
   split at h
   · rename_i cs' hcs'
     cases h
     obtain ⟨vs, rfl, hv⟩ := hA
     exact ⟨vs, rfl, mapO_RvL (fun A v A' hA hA' => ih A A' v hA hA') _ cs' _ hv hcs'⟩
   · cases h
  case tup cs =>
   split at h
   · rename_i cs' hcs'
     cases h
     obtain ⟨vs, rfl, hv⟩ := hA
     exact ⟨vs, rfl, mapO_RvL (fun A v A' hA hA' => ih A A' v hA hA') _ cs' _ hv hcs'⟩
   · cases h
  case fn f fs cs =>
   split at h
   · rename_i fs' cs' hfs' hcs'
     cases h
     obtain ⟨a, c, rfl, h1, h2⟩ := hA
     exact ⟨a, c, rfl, mapO_RvL (fun A v A' hA hA' => ih A A' v hA hA') _ fs' _ h1 hfs', mapO_RvL (fun A v A' hA hA' => ih A A' v hA hA') _ cs' _ h2 hcs'⟩
   · cases h
theorem renA_sound {H : List Blk} {ok : Nat → Bool} (hL : Look w mu mu' π H ok) (hmu : ∀ b, mu' b → mu b) {ρ : Nat → Option Nat} (hρ : ∀ b c, ρ b = some c → ∀ p, π[b]? = some (some p) → π'[c]? = some (some p)) :
  ∀ (n : Nat) (A A' : AV) (v : Value), Rv w mu π A v → renA H ok ρ n A = some A' → Rv w mu' π' A' v := by
 have hs : ∀ (n : Nat) (A A' : AV) (v : Value), Rv w mu π A v → snapA H ok n A = some A' → Rv w mu' π' A' v := fun n A A' v hA h => (snapA_sound hL hmu n A A' v hA h).lift
 have leaf : ∀ (n : Nat) (b off len es : Nat) (A' : AV) (v : Value), Rv w mu π (.hs b off len es) v → (match ρ b with | some c => some (AV.hs c off len es) | none => snapA H ok n (.hs b off len es)) = some A' → Rv w mu' π' A' v := by
  intro n b off len es A' v hA h
  split at h
  · rename_i c hc
    cases h
    rcases hA with hA | ⟨p, a, cap, h1, h2⟩
    · exact .inl hA
    · exact .inr ⟨p, a, cap, hρ b c hc p h1, h2⟩
  · exact hs n _ _ v hA h
 have leaf2 : ∀ (n : Nat) (b off : Nat) (A' : AV) (v : Value), Rv w mu π (.hp b off) v → (match ρ b with | some c => some (AV.hp c off) | none => snapA H ok n (.hp b off)) = some A' → Rv w mu' π' A' v := by
  intro n b off A' v hA h
  split at h
  · rename_i c hc
    cases h
    obtain ⟨p, h1, h2⟩ := hA
    exact ⟨p, hρ b c hc p h1, h2⟩
  · exact hs n _ _ v hA h
 intro n
 induction n with
 | zero =>
  intro A A' v hA h
  cases A <;> simp only [renA] at h
  case hs b off len es => exact leaf 0 b off len es A' v hA h
  case hp b off => exact leaf2 0 b off A' v hA h
  all_goals exact hs 0 _ A' v hA h
 | succ n ih =>
  intro A A' v hA h
  cases A <;> simp only [renA] at h
  case hs b off len es => exact leaf (n + 1) b off len es A' v hA h
  case hp b off => exact leaf2 (n + 1) b off A' v hA h
  case agg cs =>
   split at h
   · rename_i cs' hcs'
     cases h
     obtain ⟨vs, rfl, hv⟩ := hA
     exact ⟨vs, rfl, mapO_RvL (fun A v A' hA hA' => ih A A' v hA hA') _ cs' _ hv hcs'⟩
   · cases h
  case tup cs =>
   split at h
   · rename_i cs' hcs'
     cases h
     obtain ⟨vs, rfl, hv⟩ := hA
     exact ⟨vs, rfl, mapO_RvL (fun A v A' hA hA' => ih A A' v hA hA') _ cs' _ hv hcs'⟩
   · cases h
  all_goals exact hs (n + 1) _ A' v hA h
mutual
theorem noRef_any {w' : World} {mu2 : Nat → Prop} {π2 : List (Option PB)} : (A : AV) → (v : Value) → hasRef A = false → Rv w mu π A v → Rv w' mu2 π2 A v
 | .unk, _, _, _ => trivial
 | .at x, v, _, h => h
 | .agg cs, v, hr, h => by
  obtain ⟨vs, rfl, hv⟩ := h
  exact ⟨vs, rfl, noRefL_any cs _ (by simpa [hasRef] using hr) hv⟩
 | .tup cs, v, hr, h => by
  obtain ⟨vs, rfl, hv⟩ := h
  exact ⟨vs, rfl, noRefL_any cs _ (by simpa [hasRef] using hr) hv⟩
 | .fn f fs cs, v, hr, h => by
  obtain ⟨a, c, rfl, h1, h2⟩ := h
  simp only [hasRef, Bool.or_eq_false_iff] at hr
  exact ⟨a, c, rfl, noRefL_any fs _ hr.1 h1, noRefL_any cs _ hr.2 h2⟩
 | .sl .., _, hr, _ | .pp .., _, hr, _ | .hs .., _, hr, _ | .hp .., _, hr, _ | .mp .., _, hr, _ => by simp [hasRef] at hr
theorem noRefL_any {w' : World} {mu2 : Nat → Prop} {π2 : List (Option PB)} : (cs : List AV) → (vs : List Value) → hasRefL cs = false → RvL w mu π cs vs → RvL w' mu2 π2 cs vs
 | [], vs, _, h => h
 | c :: cs, vs, hr, h => by
  obtain ⟨v, vs', rfl, h1, h2⟩ := h
  simp only [hasRefL, Bool.or_eq_false_iff] at hr
  exact ⟨v, vs', rfl, noRef_any c v hr.1 h1, noRefL_any cs vs' hr.2 h2⟩
end
end
section
variable {P : Program} {out : Nat → Prop} {B : Nat → Prop} {w : World} {π : List (Option PB)} {H : List Blk}
theorem Inv.freeze1 (hI : Inv out B w π H) {b : Nat} {cs : List AV} (h : H[b]? = some (.own cs) ∨ H[b]? = some (.fix cs)) :
  Inv out B w π (upd H b (.fix cs)) ∧ Ext B w w (muOf out π H) (muOf out π (upd H b (.fix cs))) π π := by
 have hlt : b < H.length := by rcases h with h | h <;> exact getElem?_lt h
 have hu : upd H b (.fix cs) = H.set b (.fix cs) := by simp [upd, hlt]
 rw [hu]
 rcases h with h | h
 · cases hp : π[b]? with
   | none => have := List.getElem?_eq_none_iff.1 hp; have := hI.len; omega
   | some op =>
    cases op with
    | some p =>
     obtain ⟨h1, h2⟩ := hI.setBlk h hp rfl (.fix cs) (w' := w) rfl (fun _ _ => rfl) rfl rfl rfl (fun _ => Nat.le_refl _) (fun hE => RvC.ext hE cs _ _ rfl (blk_cells hI (.inl h) hp))
     exact ⟨h2, h1⟩
    | none =>
     have hmuiff : ∀ x, muOf out π (H.set b (.fix cs)) x → muOf out π H x := by
      rintro x (ho | ⟨i, y, p, g1, g2, g3, g4⟩)
      · exact .inl ho
      · rcases set_get g1 with ⟨rfl, rfl⟩ | ⟨_, g1'⟩
        · simp [Blk.isMut] at g2
        · exact .inr ⟨i, y, p, g1', g2, g3, g4⟩
     have hE : Ext B w w (muOf out π H) (muOf out π (H.set b (.fix cs))) π π := ⟨fun _ _ => rfl, Nat.le_refl _, fun x _ hx => ⟨rfl, fun hx' => hx (hmuiff x hx')⟩, fun _ _ h => h, rfl, rfl, rfl, fun _ => Nat.le_refl _⟩
     refine ⟨⟨by simp [hI.len], hI.bound, hI.out_lt, ?_, ?_, ?_⟩, hE⟩
     · intro i x q b' g1 g2 g3
       rcases set_get g1 with ⟨rfl, _⟩ | ⟨_, g1'⟩
       · rw [hp] at g2; cases g2
       · exact hI.baseO i x q b' g1' g2 g3
     · intro i x q g1 g2
       rcases set_get g1 with ⟨rfl, _⟩ | ⟨_, g1'⟩
       · rw [hp] at g2; cases g2
       · exact BlkOk.ext hE (fun _ _ => rfl) (hI.ok i x q g1' g2)
     · intro i j x y q r b' hij g1 g2 g3 g4 g5 g6 g7
       rcases set_get g1 with ⟨rfl, _⟩ | ⟨_, g1'⟩
       · rw [hp] at g3; cases g3
       · rcases set_get g2 with ⟨rfl, _⟩ | ⟨_, g2'⟩
         · rw [hp] at g4; cases g4
         · exact hI.sepO i j x y q r b' hij g1' g2' g3 g4 g5 g6 g7
 · have he : H.set b (.fix cs) = H := by
    apply List.ext_getElem?
    intro j
    rw [List.getElem?_set]
    split
    · rename_i hij; subst hij; first | exact h.symm | (rw [if_pos hlt]; exact h.symm)
    · rfl
   rw [he]
   exact ⟨hI, Ext.refl _ _ _⟩
theorem RvW.frz {mu mu2 : Nat → Prop} (hmu : ∀ c, mu2 c → mu c) : ∀ (rs : List RC) (ss : Nat → Option (Nat × Nat × Nat)) (b o : Nat), (∀ (k len es : Nat) (cs : List AV) (q : Nat × Nat × Nat), rs[k]? = some (.row len es cs) → ss k = some q → ¬ mu2 q.1) → RvW w mu π rs ss b o → RvC w mu2 π (rs.map frz) b o
 | [], _, _, _, _, _ => trivial
 | .row len es cs :: rs, ss, b, o, hq, h => by
  obtain ⟨⟨v, h1, h2⟩, h3⟩ := h
  refine ⟨⟨v, h1, ?_, ?_⟩, RvW.frz hmu rs _ b (o + 1) (fun k l' e' c' q e1 e2 => hq (k + 1) l' e' c' q (by simpa using e1) e2) h3⟩
  · rcases h2 with ⟨_, _, rfl⟩ | ⟨q, a, cap, c, e, _, rfl, _⟩ <;> rfl
  · rcases h2 with ⟨rfl, rfl, rfl⟩ | ⟨q, a, cap, c, e, g1, rfl, g3, g4, g5, g6, g7, g0, g8⟩
    · exact .inl ⟨rfl, rfl, rfl, rfl⟩
    · by_cases hc : 0 < cap
      · obtain ⟨rfl, _⟩ := g5 hc
        exact .inr (.inl ⟨_, _, cap, rfl, g3, fun _ => hq 0 len es cs q rfl g1, RvC.ext (Ext.less hmu) cs _ _ rfl g8⟩)
      · obtain rfl : len = 0 := by omega
        exact .inr (.inr ⟨rfl, g0 rfl, a, cap, rfl⟩)
 | .av A :: rs, ss, b, o, hq, h => by
  obtain ⟨⟨v, h1, h2, h3⟩, h4⟩ := h
  exact ⟨⟨v, h1, h2, Rv.ext (Ext.less hmu) A v h3⟩, RvW.frz hmu rs _ b (o + 1) (fun k l' e' c' q e1 e2 => hq (k + 1) l' e' c' q (by simpa using e1) e2) h4⟩
theorem Inv.freezeR (hI : Inv out B w π H) {b : Nat} {rs : List RC} (h : H[b]? = some (.rows rs)) :
  Inv out B w π (upd H b (.fix (rs.map frz))) ∧ Ext B w w (muOf out π H) (muOf out π (upd H b (.fix (rs.map frz)))) π π := by
 have hlt : b < H.length := getElem?_lt h
 have hu : upd H b (.fix (rs.map frz)) = H.set b (.fix (rs.map frz)) := by simp [upd, hlt]
 rw [hu]
 have hmuiff : ∀ x, muOf out π (H.set b (.fix (rs.map frz))) x → muOf out π H x := by
  rintro x (ho | ⟨i, y, p, g1, g2, g3, g4⟩)
  · exact .inl ho
  · rcases set_get g1 with ⟨rfl, rfl⟩ | ⟨_, g1'⟩
    · simp [Blk.isMut] at g2
    · exact .inr ⟨i, y, p, g1', g2, g3, g4⟩
 have hno : ∀ (p : PB) (c : Nat), π[b]? = some (some p) → (Blk.rows rs).owns p c → ¬ muOf out π (H.set b (.fix (rs.map frz))) c := by
  rintro p c hp hc (ho | ⟨i, y, q, g1, g2, g3, g4⟩)
  · exact (hI.baseO b _ p c h hp hc).1 (hI.out_lt _ ho)
  · rcases set_get g1 with ⟨rfl, rfl⟩ | ⟨hne, g1'⟩
    · simp [Blk.isMut] at g2
    · exact hI.sepO i b y _ q p c (fun e => hne e.symm) g1' h g3 hp g2 g4 hc
 have hE : Ext B w w (muOf out π H) (muOf out π (H.set b (.fix (rs.map frz)))) π π := ⟨fun _ _ => rfl, Nat.le_refl _, fun x _ hx => ⟨rfl, fun hx' => hx (hmuiff x hx')⟩, fun _ _ h => h, rfl, rfl, rfl, fun _ => Nat.le_refl _⟩
 have hfo : ∀ (p : PB) (c : Nat), (Blk.fix (rs.map frz)).owns p c → (Blk.rows rs).owns p c := fun p c h => .inl h
 refine ⟨⟨by simp [hI.len], hI.bound, hI.out_lt, ?_, ?_, ?_⟩, hE⟩
 · intro i x q c g1 g2 g3
   rcases set_get g1 with ⟨rfl, rfl⟩ | ⟨_, g1'⟩
   · exact hI.baseO b _ q c h g2 (hfo _ _ g3)
   · exact hI.baseO i x q c g1' g2 g3
 · intro i x q g1 g2
   rcases set_get g1 with ⟨rfl, rfl⟩ | ⟨_, g1'⟩
   · exact RvW.frz hmuiff rs _ _ _ (fun k len es cs s e1 e2 => hno q s.1 g2 (.inr ⟨k, len, es, cs, s, e1, e2, rfl⟩)) (hI.ok b _ q h g2).2.1
   · exact BlkOk.ext hE (fun _ _ => rfl) (hI.ok i x q g1' g2)
 · intro i j x y q r c hij g1 g2 g3 g4 g5 g6 g7
   rcases set_get g1 with ⟨rfl, rfl⟩ | ⟨_, g1'⟩
   · simp [Blk.isMut] at g5
   · rcases set_get g2 with ⟨rfl, rfl⟩ | ⟨_, g2'⟩
     · exact hI.sepO i b x _ q r c hij g1' h g3 g4 g5 g6 (hfo _ _ g7)
     · exact hI.sepO i j x y q r c hij g1' g2' g3 g4 g5 g6 g7
theorem freezeW_sound : ∀ (l : List Nat) (H' : List Blk) (H0 : List Blk), Inv out B w π H' → (∀ b ∈ l, b < H0.length → (H'[b]? = H0[b]? ∨ ∃ x cs, H0[b]? = some x ∧ fzC x = some cs ∧ H'[b]? = some (.fix cs))) →
  Inv out B w π (updAll H' (freezeW H0 l)) ∧ Ext B w w (muOf out π H') (muOf out π (updAll H' (freezeW H0 l))) π π ∧
  (updAll H' (freezeW H0 l)).length = H'.length ∧ (∀ b ∈ l, ∀ x cs, H0[b]? = some x → fzC x = some cs → (updAll H' (freezeW H0 l))[b]? = some (.fix cs)) ∧
  (∀ b, (∀ x cs, b ∈ l → H0[b]? = some x → fzC x ≠ some cs) → (updAll H' (freezeW H0 l))[b]? = H'[b]?)
 | [], H', H0, hI, _ => ⟨hI, Ext.refl _ _ _, rfl, by simp, fun _ _ => rfl⟩
 | b :: l, H', H0, hI, hag => by
  cases hb : H0[b]? with
  | none =>
   have e : freezeW H0 (b :: l) = freezeW H0 l := by simp [freezeW, hb]
   rw [e]
   obtain ⟨h1, h2, h3, h4, h5⟩ := freezeW_sound l H' H0 hI (fun x hx => hag x (by simp [hx]))
   refine ⟨h1, h2, h3, fun x hx y cs hcs he => ?_, fun x hx => h5 x fun y cs hm => hx y cs (by simp [hm])⟩
   rcases List.mem_cons.1 hx with rfl | hx
   · rw [hb] at hcs; cases hcs
   · exact h4 x hx y cs hcs he
  | some y =>
   cases hy : fzC y with
   | none =>
    have e : freezeW H0 (b :: l) = freezeW H0 l := by
     cases y <;> first | (cases hy; done) | simp [freezeW, hb]
    rw [e]
    obtain ⟨h1, h2, h3, h4, h5⟩ := freezeW_sound l H' H0 hI (fun x hx => hag x (by simp [hx]))
    refine ⟨h1, h2, h3, fun x hx z cs hcs he => ?_, fun x hx => h5 x fun z cs hm => hx z cs (by simp [hm])⟩
    rcases List.mem_cons.1 hx with rfl | hx
    · rw [hb] at hcs; cases hcs; rw [hy] at he; cases he
    · exact h4 x hx z cs hcs he
   | some cs =>
    have e : freezeW H0 (b :: l) = (b, .fix cs) :: freezeW H0 l := by
     cases y <;> first | (cases hy; done) | (simp only [fzC, Option.some.injEq] at hy; subst hy; simp [freezeW, hb])
    rw [e]
    have hlt : b < H0.length := getElem?_lt hb
    have hH' : H'[b]? = some y ∨ H'[b]? = some (.fix cs) := by
     rcases hag b (by simp) hlt with h | ⟨y', cs', h1, h1', h2⟩
     · left; rw [h]; exact hb
     · rw [hb] at h1; cases h1; rw [hy] at h1'; cases h1'; exact .inr h2
    have hlt' : b < H'.length := by rcases hH' with h | h <;> exact getElem?_lt h
    obtain ⟨hI1, hE1⟩ : Inv out B w π (upd H' b (.fix cs)) ∧ Ext B w w (muOf out π H') (muOf out π (upd H' b (.fix cs))) π π := by
     rcases hH' with h | h
     · cases y with
       | own c => simp only [fzC, Option.some.injEq] at hy; subst hy; exact hI.freeze1 (.inl h)
       | rows rs => simp only [fzC, Option.some.injEq] at hy; subst hy; exact hI.freezeR h
       | _ => cases hy
     · exact hI.freeze1 (.inr h)
    have hl1 : (upd H' b (.fix cs)).length = H'.length := by rw [upd_length (by omega), if_neg (by omega)]
    obtain ⟨h1, h2, h3, h4, h5⟩ := freezeW_sound l (upd H' b (.fix cs)) H0 hI1 (fun x hx hxl => by
     rw [upd_get (by omega)]
     split
     · rename_i e0; subst e0; exact .inr ⟨y, cs, hb, hy, rfl⟩
     · exact hag x (by simp [hx]) hxl)
    refine ⟨h1, hE1.trans h2, by rw [updAll, h3, hl1], fun x hx z cs' hcs' he => ?_, fun x hx => ?_⟩
    · by_cases hxl : x ∈ l
      · exact h4 x hxl z cs' hcs' he
      · rcases List.mem_cons.1 hx with rfl | hx
        · rw [hb] at hcs'; cases hcs'; rw [hy] at he; cases he
          rw [updAll, h5 x (fun _ _ hm => (hxl hm).elim), upd_get (by omega), if_pos rfl]
        · exact (hxl hx).elim
    · have hxb : x ≠ b := by rintro rfl; exact hx y cs (by simp) hb hy
      rw [updAll, h5 x (fun z cs' hm => hx z cs' (by simp [hm])), upd_get (by omega), if_neg hxb]
theorem Inv.past {w' : World} (hI : Inv out B w π H) (hlow : ∀ b, b < w.heap.size → w'.heap[b]? = w.heap[b]?) (hsz : w.heap.size ≤ w'.heap.size) (ho : w'.os = w.os) (ht : w'.tape = w.tape) (hu : w'.output = w.output) (hd : Dr.d = true → w.drawn ≤ w'.drawn) :
  Inv out B w' π H ∧ Ext B w w' (muOf out π H) (muOf out π H) π π := by
 have hE : Ext B w w' (muOf out π H) (muOf out π H) π π := ⟨fun b hb => hlow b (hI.bound b hb), hsz, fun b hb h => ⟨hlow b hb, h⟩, fun _ _ h => h, ho, ht, hu, hd⟩
 refine ⟨⟨hI.len, fun b hb => by have := hI.bound b hb; omega, hI.out_lt, fun i x p b h1 h2 h3 => by have := hI.baseO i x p b h1 h2 h3; exact ⟨this.1, by omega⟩, fun i x p h1 h2 => BlkOk.ext hE (fun b hb => hlow _ (hI.baseO i x p b h1 h2 hb).2) (hI.ok i x p h1 h2), hI.sepO⟩, hE⟩
theorem Inv.adoptAll (hI : Inv out B w π H) {w' : World} (hlow : ∀ b, b < w.heap.size → w'.heap[b]? = w.heap[b]?) (hsz : w.heap.size ≤ w'.heap.size) (ho : w'.os = w.os) (ht : w'.tape = w.tape) (hu : w'.output = w.output) (hd : Dr.d = true → w.drawn ≤ w'.drawn)
  {π' : List (Option PB)} {H' : List Blk} (hl : π'.length = H'.length) (hpre : ∀ (i : Nat) (p : PB), π[i]? = some (some p) → π'[i]? = some (some p))
  (hs : ∀ (j : Nat) (x : Blk) (p : PB), H'[j]? = some x → π'[j]? = some (some p) → (H[j]? = some x ∧ π[j]? = some (some p)) ∨
   (x.plain = true ∧ w.heap.size ≤ p.blk ∧ p.blk < w'.heap.size ∧ (∀ (i : Nat) (y : Blk) (q : PB), i ≠ j → H'[i]? = some y → π'[i]? = some (some q) → ¬ y.owns q p.blk) ∧
    (Ext B w w' (muOf out π H) (muOf out π' H') π π' → BlkOk w' (muOf out π' H') π' p x))) :
  Inv out B w' π' H' ∧ Ext B w w' (muOf out π H) (muOf out π' H') π π' := by
 have hE : Ext B w w' (muOf out π H) (muOf out π' H') π π' := by
  refine ⟨fun b hb => hlow b (hI.bound b hb), hsz, fun b hb hn => ⟨hlow b hb, ?_⟩, hpre, ho, ht, hu, hd⟩
  rintro (hb' | ⟨i, x, p, h1, h2, h3, h4⟩)
  · exact hn (.inl hb')
  · rcases hs i x p h1 h3 with ⟨g1, g3⟩ | ⟨g, _⟩
    · exact hn (.inr ⟨i, x, p, g1, h2, g3, h4⟩)
    · rename_i g0; have := Blk.owns_plain g h4; omega
 refine ⟨⟨hl, fun b hb => by have := hI.bound b hb; omega, hI.out_lt, ?_, ?_, ?_⟩, hE⟩
 · intro i x p b h1 h2 h3
   rcases hs i x p h1 h2 with ⟨g1, g2⟩ | ⟨g0, g1, g2, _⟩
   · have := hI.baseO i x p b g1 g2 h3; exact ⟨this.1, by omega⟩
   · have := Blk.owns_plain g0 h3; exact ⟨fun hb => by have := hI.bound _ hb; omega, by omega⟩
 · intro i x p h1 h2
   rcases hs i x p h1 h2 with ⟨g1, g2⟩ | ⟨_, _, _, _, g⟩
   · exact BlkOk.ext hE (fun b hb => hlow _ (hI.baseO i x p b g1 g2 hb).2) (hI.ok i x p g1 g2)
   · exact g hE
 · intro i j x y p q b hij h1 h2 h3 h4 h5 h6 h7
   rcases hs i x p h1 h3 with ⟨g1, g3⟩ | ⟨g0, _, _, g, _⟩
   · rcases hs j y q h2 h4 with ⟨g2, g4⟩ | ⟨g0, _, _, g, _⟩
     · exact hI.sepO i j x y p q b hij g1 g2 g3 g4 h5 h6 h7
     · have e := Blk.owns_plain g0 h7; subst e; exact g i x p hij h1 h3 h6
   · have e := Blk.owns_plain g0 h6; subst e; exact g j y q (fun e => hij e.symm) h2 h4 h7
def over (l : List (Option PB)) (n : Nat) (ps : List (Option PB)) : List (Option PB) := l.take n ++ (ps ++ l.drop (n + ps.length))
theorem over_length {l ps : List (Option PB)} {n : Nat} (h : n + ps.length ≤ l.length) : (over l n ps).length = l.length := by
 simp only [over, List.length_append, List.length_take, List.length_drop]; omega
theorem over_in {l ps : List (Option PB)} {n j : Nat} (h : n + ps.length ≤ l.length) (hj : j < ps.length) : (over l n ps)[n + j]? = ps[j]? := by
 have hlt : (l.take n).length = n := by rw [List.length_take]; omega
 rw [over, List.getElem?_append_right (by omega), hlt, List.getElem?_append_left (by omega)]
 congr 1; omega
theorem over_off {l ps : List (Option PB)} {n j : Nat} (h : n + ps.length ≤ l.length) (hj : j < n ∨ n + ps.length ≤ j) : (over l n ps)[j]? = l[j]? := by
 have hlt : (l.take n).length = n := by rw [List.length_take]; omega
 rcases hj with hj | hj
 · rw [over, List.getElem?_append_left (by omega), List.getElem?_take, if_pos hj]
 · rw [over, List.getElem?_append_right (by omega), hlt, List.getElem?_append_right (by omega), List.getElem?_drop]
   congr 1; omega
theorem numbered_get : ∀ (new : List (List AV)) (n : Nat) (H : List Blk), n + new.length ≤ H.length → (updAll H (numbered n new)).length = H.length ∧
  (∀ j, j < new.length → (updAll H (numbered n new))[n + j]? = (new[j]?).map Blk.own) ∧ (∀ j, j < n ∨ n + new.length ≤ j → (updAll H (numbered n new))[j]? = H[j]?)
 | [], n, H, h => ⟨rfl, by simp, fun _ _ => rfl⟩
 | x :: xs, n, H, h => by
  simp only [List.length_cons] at h
  have hl : (upd H n (.own x)).length = H.length := by rw [upd_length (by omega), if_neg (by omega)]
  obtain ⟨h1, h2, h3⟩ := numbered_get xs (n + 1) (upd H n (.own x)) (by omega)
  refine ⟨by simp only [numbered, updAll, h1, hl], fun j hj => ?_, fun j hj => ?_⟩
  · simp only [List.length_cons] at hj
    simp only [numbered, updAll]
    cases j with
    | zero => rw [h3 _ (.inl (by omega)), upd_get (by omega), if_pos (by omega)]; rfl
    | succ j =>
     rw [show n + (j + 1) = n + 1 + j by omega, h2 j (by omega)]
     simp
  · simp only [List.length_cons] at hj
    simp only [numbered, updAll]
    rw [h3 j (by omega), upd_get (by omega), if_neg (by omega)]
theorem numbered_mem : ∀ (new : List (List AV)) (n j : Nat), j < new.length → ∃ b, (n + j, b) ∈ numbered n new
 | [], _, _, h => by simp at h
 | x :: xs, n, 0, _ => ⟨_, List.mem_cons_self⟩
 | x :: xs, n, j + 1, h => by
  obtain ⟨b, hb⟩ := numbered_mem xs (n + 1) j (by simpa using h)
  exact ⟨b, by rw [show n + (j + 1) = n + 1 + j by omega]; exact List.mem_cons_of_mem _ hb⟩
theorem updAll_app : ∀ (a b : List (Nat × Blk)) (H : List Blk), updAll H (a ++ b) = updAll (updAll H a) b
 | [], _, _ => rfl
 | (_, _) :: a, b, _ => by simp only [List.cons_append, updAll]; exact updAll_app a b _
theorem findAt_some : ∀ (l : List Nat) (x base c : Nat), findAt l x base = some c → ∃ k, l[k]? = some x ∧ c = base + k
 | [], _, _, _, h => by simp [findAt] at h
 | y :: ys, x, base, c, h => by
  simp only [findAt] at h
  split at h
  · rename_i e; cases h; exact ⟨0, by simp [e], rfl⟩
  · obtain ⟨k, h1, h2⟩ := findAt_some ys x (base + 1) c h
    exact ⟨k + 1, by simpa using h1, by omega⟩
theorem nodupB_ne : ∀ (l : List Nat), nodupB l = true → ∀ (i j x y : Nat), i ≠ j → l[i]? = some x → l[j]? = some y → x ≠ y
 | [], _, i, _, _, _, _, h, _ => by simp at h
 | z :: l, h, i, j, x, y, hij, h1, h2 => by
  simp only [nodupB, Bool.and_eq_true, Bool.not_eq_true'] at h
  have hz : z ∉ l := by have := h.1; simpa using this
  cases i with
  | zero =>
   simp only [List.getElem?_cons_zero, Option.some.injEq] at h1
   cases j with
   | zero => exact (hij rfl).elim
   | succ j =>
    simp only [List.getElem?_cons_succ] at h2
    rintro rfl; subst h1; exact hz (List.mem_of_getElem? h2)
  | succ i =>
   simp only [List.getElem?_cons_succ] at h1
   cases j with
   | zero =>
    simp only [List.getElem?_cons_zero, Option.some.injEq] at h2
    rintro rfl; subst h2; exact hz (List.mem_of_getElem? h1)
   | succ j =>
    simp only [List.getElem?_cons_succ] at h2
    exact nodupB_ne l h.2 i j x y (by omega) h1 h2
theorem bringL_get {G : List Blk} {ok : Nat → Bool} {n : Nat} : ∀ (σ : List Nat) (new : List (List AV)), bringL G ok n σ = some new → new.length = σ.length ∧
  ∀ (k b : Nat), σ[k]? = some b → ∃ cs cs', G[b]? = some (Blk.own cs) ∧ mapO (snapA G ok n) cs = some cs' ∧ new[k]? = some cs'
 | [], new, h => by cases h; exact ⟨rfl, fun k b h => by simp at h⟩
 | b :: bs, new, h => by
  simp only [bringL] at h
  split at h
  · rename_i cs hb
    split at h
    · rename_i cs' l hcs' hl
      cases h
      obtain ⟨h1, h2⟩ := bringL_get bs l hl
      refine ⟨by simp [h1], fun k b' hk => ?_⟩
      cases k with
      | zero => simp at hk; subst hk; exact ⟨cs, cs', hb, hcs', rfl⟩
      | succ k => simpa using h2 k b' (by simpa using hk)
    · cases h
  · cases h
end
end Go.Eng


namespace Go.Eng
open Go Go.RowKit
variable [Dr]
def ExtOk (P : Program) (f : FuncId) (F : List AV → Option AV) : Prop :=
 ∀ args r, F args = some r → ∀ (out : Nat → Prop) (w : World) (vs : List Value), (∀ b, out b → b < w.heap.size) → RvL w out [] args vs →
  Calls P f vs.toArray w fun e w' => ∃ u, e = .returned u ∧ Ext (Lo w.heap.size) w w' out out [] [] ∧ Rv w' out [] r u
section
variable {P : Program} {out : Nat → Prop} {B : Nat → Prop} {w w' : World} {π πG : List (Option PB)} {H H' G : List Blk}
theorem muOf_nil : muOf out [] [] = out := by
 funext b
 apply propext
 constructor
 · rintro (h | ⟨i, x, p, h, _⟩)
   · exact h
   · simp at h
 · exact .inl
theorem muOf_lt (hI : Inv out B w π H) : ∀ b, muOf out π H b → b < w.heap.size := by
 rintro b (h | ⟨i, x, p, h1, h2, h3, h4⟩)
 · exact hI.bound _ (hI.out_lt b h)
 · exact (hI.baseO i x p b h1 h3 h4).2
theorem Ext.mu_mono (hI : Inv out B w π H) {π' : List (Option PB)} {mu : Nat → Prop} (hE : Ext B w w mu (muOf out π H) π' π) : ∀ b, muOf out π H b → mu b := by
 intro b hb
 by_cases h : mu b
 · exact h
 · exact ((hE.keep b (muOf_lt hI b hb) h).2 hb).elim
theorem bring_sound {l : List Nat} {n : Nat} {r v : AV} {ws : List (Nat × Blk)} {rd : List Nat} {m : Nat} (hb : bringA n l H G r = some (.loc v ws rd m))
  (hlen : H.length + m ≤ H'.length) (hag : ∀ b ∈ rd, b < H.length → H'[b]? = H[b]?) (hI : Inv out B w π H') (hπ : ∀ j, H.length ≤ j → j < H.length + m → ∀ q, π[j]? ≠ some (some q))
  {u : Value} (hE : Ext (Lo w.heap.size) w w' (muOf out π (updAll H' (freezeW H l))) (muOf (muOf out π (updAll H' (freezeW H l))) πG G) [] πG) (hG : Inv (muOf out π (updAll H' (freezeW H l))) (Lo w.heap.size) w' πG G)
  (hr : Rv w' (muOf (muOf out π (updAll H' (freezeW H l))) πG G) πG r u) :
  ∃ π', Ext B w w' (muOf out π H') (muOf out π' (updAll H' ws)) π π' ∧ Inv out B w' π' (updAll H' ws) ∧ Rv w' (muOf out π' (updAll H' ws)) π' v u ∧ ∀ j, (∀ b, (j, b) ∉ ws) → π'[j]? = π[j]? := by
 unfold bringA at hb
 split at hb
 · rename_i hnr
   cases hb
   obtain ⟨g1, g2⟩ := hI.past (w' := w') (fun b hb => hE.low b hb) hE.size hE.os hE.tape hE.output hE.drawn
   exact ⟨π, g2, g1, noRef_any _ _ hnr hr, fun _ _ => rfl⟩
 · simp only at hb
   split at hb
   · rename_i new r' hnd hnew hren
     cases hb
     generalize hσ : List.foldl insNat [] ((idsOf r).filter fun b => isOwnB G[b]?) = σ at *
     obtain ⟨hfI, hfE, hfl, hf1, hf2⟩ := freezeW_sound l H' H hI (fun b hb hlt => .inl (hag b hb hlt))
     generalize hHf : updAll H' (freezeW H l) = Hf at *
     obtain ⟨hnl, hng⟩ := bringL_get σ new hnew
     rw [updAll_app, hHf]
     obtain ⟨e1, e2, e3⟩ := numbered_get new H.length Hf (by omega)
     have hπl := hfI.len
     have hpsl : (σ.map fun b => (πG[b]?).getD none).length = new.length := by simp [hnl]
     generalize hps : (σ.map fun b => (πG[b]?).getD none) = ps at *
     have ol := over_length (l := π) (ps := ps) (n := H.length) (by omega)
     have oi := fun j (hj : j < ps.length) => over_in (l := π) (ps := ps) (n := H.length) (j := j) (by omega) hj
     have oo := fun j (hj : j < H.length ∨ H.length + ps.length ≤ j) => over_off (l := π) (ps := ps) (n := H.length) (j := j) (by omega) hj
     generalize hπ' : over π H.length ps = π' at *
     generalize hH'' : updAll Hf (numbered H.length new) = H'' at *
     have hps_get : ∀ (k : Nat) (p : PB), ps[k]? = some (some p) → ∃ b, σ[k]? = some b ∧ πG[b]? = some (some p) := by
      intro k p h
      rw [← hps, List.getElem?_map] at h
      cases hk : σ[k]? with
      | none => rw [hk] at h; cases h
      | some b =>
       rw [hk] at h
       refine ⟨b, rfl, ?_⟩
       cases hb : πG[b]? with
       | none => simp [hb] at h
       | some q => simpa [hb] using h
     have hpre : ∀ (i : Nat) (p : PB), π[i]? = some (some p) → π'[i]? = some (some p) := by
      intro i p h
      rw [oo i]
      · exact h
      · by_cases hi : H.length ≤ i ∧ i < H.length + new.length
        · exact (hπ i hi.1 hi.2 p h).elim
        · omega
     have key : ∀ (j : Nat) (x : Blk) (p : PB), H''[j]? = some x → π'[j]? = some (some p) → (Hf[j]? = some x ∧ π[j]? = some (some p)) ∨
       ∃ k b cs cs', j = H.length + k ∧ σ[k]? = some b ∧ πG[b]? = some (some p) ∧ G[b]? = some (.own cs) ∧ mapO (snapA G (fun b => !σ.contains b) n) cs = some cs' ∧ x = .own cs' := by
      intro j x p h1 h2
      by_cases hj : j < H.length ∨ H.length + new.length ≤ j
      · rw [e3 j hj] at h1
        rw [oo j (by omega)] at h2
        exact .inl ⟨h1, h2⟩
      · obtain ⟨k, rfl⟩ : ∃ k, j = H.length + k := ⟨j - H.length, by omega⟩
        rw [oi k (by omega)] at h2
        obtain ⟨b, hb1, hb2⟩ := hps_get k p h2
        obtain ⟨cs, cs', g1, g2, g3⟩ := hng k b hb1
        rw [e2 k (by omega), g3] at h1
        simp only [Option.map_some, Option.some.injEq] at h1
        exact .inr ⟨k, b, cs, cs', rfl, hb1, hb2, g1, g2, h1.symm⟩
     have hmuG : ∀ b, muOf out π' H'' b → muOf (muOf out π Hf) πG G b := by
      rintro b (h | ⟨i, x, p, h1, h2, h3, h4⟩)
      · exact .inl (.inl h)
      · rcases key i x p h1 h3 with ⟨g1, g2⟩ | ⟨k, b', cs, cs', _, _, g3, g4, _, rfl⟩
        · exact .inl (.inr ⟨i, x, p, g1, h2, g2, h4⟩)
        · exact .inr ⟨b', .own cs, p, g4, rfl, g3, h4⟩
     have hL : Look w' (muOf (muOf out π Hf) πG G) (muOf out π' H'') πG G (fun b => !σ.contains b) := by
      intro b p cs hok hbl hp
      refine ⟨blk_cells hG hbl hp, ?_⟩
      have hlive : ∃ y, G[b]? = some y ∧ y.isLive = true := by rcases hbl with h | h <;> exact ⟨_, h, rfl⟩
      obtain ⟨y, hy, hyl⟩ := hlive
      have hge := (hG.base b y p hy hp hyl).1
      rintro (h | ⟨i, x, q, h1, h2, h3, h4⟩)
      · exact hge (hfI.bound _ (hfI.out_lt _ h))
      · rcases key i x q h1 h3 with ⟨g1, g2⟩ | ⟨k, b', cs', cs'', _, g2, g3, g4, _, rfl⟩
        · exact hge (hfI.baseO i x q _ g1 g2 h4).2
        · refine hG.sepO b' b (.own cs') y q p _ ?_ g4 hy g3 hp rfl h4 (Blk.owns_self hyl)
          rintro rfl
          have := List.mem_of_getElem? g2
          simp [this] at hok
     obtain ⟨hA, hAE⟩ := hfI.adoptAll (w' := w') (π' := π') (H' := H'') (fun b hb => hE.low b hb) hE.size hE.os hE.tape hE.output hE.drawn (by omega) hpre (by
      intro j x p h1 h2
      rcases key j x p h1 h2 with h | ⟨k, b, cs, cs', rfl, g1, g2, g3, g4, rfl⟩
      · exact .inl h
      · refine .inr ?_
        obtain ⟨hb1, hb2⟩ := hG.base b _ p g3 g2 rfl
        have hb1 := Nat.le_of_not_lt hb1
        refine ⟨rfl, hb1, hb2, ?_, fun _ => ?_⟩
        · intro i y q hij k1 k2 k3
          rcases key i y q k1 k2 with ⟨m1, m2⟩ | ⟨k', b', ds, ds', rfl, m1, m2, m3, m4, rfl⟩
          · have := (hfI.baseO i y q _ m1 m2 k3).2; omega
          · have hne : b' ≠ b := nodupB_ne σ hnd k' k b' b (by omega) m1 g1
            exact hG.sepO b' b _ _ q p _ hne m3 g3 m2 g2 rfl k3 rfl
        · obtain ⟨o1, o2⟩ := hG.ok b _ p g3 g2
          exact ⟨o1, (mapO_RvC (fun A v A' hA hA' => snapA_sound hL hmuG _ A A' v hA hA') cs cs' _ _ o2 g4).1.lift⟩)
     refine ⟨π', hfE.trans hAE, hA, ?_, fun j hj => oo j ?_⟩
     · refine renA_sound hL hmuG (ρ := fun b => findAt σ b H.length) ?_ n r v u hr hren
       intro b c hbc p hp
       obtain ⟨k, hk, rfl⟩ := findAt_some σ b H.length c hbc
       have hkl : k < σ.length := getElem?_lt hk
       rw [oi k (by omega), ← hps, List.getElem?_map, hk]
       simp [hp]
     · by_cases hlt : j < H.length ∨ H.length + new.length ≤ j
       · omega
       · obtain ⟨k, rfl⟩ : ∃ k, j = H.length + k := ⟨j - H.length, by omega⟩
         obtain ⟨b, hb⟩ := numbered_mem new H.length k (by omega)
         exact (hj b (List.mem_append_right _ hb)).elim
   · cases hb
end
end Go.Eng

