/- The engine, part 11: regions are right. -/
import Derived.Test.YtlajgmapmocpbaaGreatEng10e
set_option linter.unusedSimpArgs false
set_option linter.unusedVariables false
namespace Go.Eng
open Go Go.RowKit

/- Masks. -/
theorem foldl_or_testBit (acc : List Nat) (i : Nat) : ∀ (l : List Edge) (s : Nat), (l.foldl (fun s e => if Region.binds .any e then s ||| (2 ^ e.on ||| acc.getD e.on 0) else s) s).testBit i = true →
    s.testBit i = true ∨ ∃ e ∈ l, Region.binds .any e = true ∧ (e.on = i ∨ (acc.getD e.on 0).testBit i = true)
  | [], _, h => .inl h
  | e :: l, s, h => by
    simp only [List.foldl_cons] at h
    rcases foldl_or_testBit acc i l _ h with h | ⟨e', h1, h2⟩
    · split at h
      · rename_i hb
        simp only [Nat.testBit_or, Bool.or_eq_true] at h
        rcases h with h | h | h
        · exact .inl h
        · refine .inr ⟨e, by simp, hb, .inl ?_⟩
          rw [Nat.testBit_two_pow] at h
          simpa using h
        · exact .inr ⟨e, by simp, hb, .inr h⟩
      · exact .inl h
    · exact .inr ⟨e', by simp [h1], h2⟩

theorem befs_prefix : ∀ (l : List Oper) (acc : List Nat) (j : Nat), j < acc.length → (befs acc l)[j]? = acc[j]?
  | [], _, _, _ => rfl
  | o :: l, acc, j, h => by
    rw [befs, befs_prefix l _ j (by simp; omega), List.getElem?_append_left h]
theorem befs_get : ∀ (l : List Oper) (acc : List Nat) (j : Nat) (o : Oper), l[j]? = some o → ∃ acc', (befs acc l)[acc.length + j]? = some (befMask acc' o) ∧ acc'.length = acc.length + j ∧ ∀ k, k < acc'.length → (befs acc l)[k]? = acc'[k]?
  | [], _, _, _, h => by simp at h
  | o :: l, acc, 0, o', h => by
    simp at h; subst h
    refine ⟨acc, ?_, rfl, fun k hk => befs_prefix (o :: l) acc k hk⟩
    rw [befs, befs_prefix l _ _ (by simp)]
    simp
  | o :: l, acc, j + 1, o', h => by
    obtain ⟨acc', h1, h2, h3⟩ := befs_get l (acc ++ [befMask acc o]) j o' (by simpa using h)
    refine ⟨acc', ?_, by simp at h2; omega, fun k hk => by rw [befs]; exact h3 k hk⟩
    rw [befs]
    simpa [Nat.add_assoc, Nat.add_comm 1 j] using h1

theorem edgesOk_get : ∀ (l : List Oper) (k j : Nat) (o : Oper), edgesOk l k = true → l[j]? = some o → ∀ e ∈ o.after.toList, Region.binds .any e = true → e.on < k + j
  | [], _, _, _, _, h => by simp at h
  | o :: l, k, 0, o', hk, h => by
    simp at h; subst h
    simp only [edgesOk, Bool.and_eq_true, List.all_eq_true] at hk
    intro e he hb
    have := hk.1 e he
    simpa [hb] using this
  | o :: l, k, j + 1, o', hk, h => by
    simp only [edgesOk, Bool.and_eq_true] at hk
    intro e he hb
    have := edgesOk_get l (k + 1) j o' hk.2 (by simpa using h) e he hb
    omega

/-- What a set of operations closed under its edges holds. -/
theorem mask_closed {ops : List Oper} (hok : edgesOk ops 0 = true) {s : Nat → Bool} (hcl : ∀ (j : Nat) (o : Oper), ops[j]? = some o → s j = true → ∀ e ∈ o.after.toList, Region.binds .any e = true → s e.on = true) :
    ∀ (j : Nat) (o : Oper), ops[j]? = some o → (∀ e ∈ o.after.toList, Region.binds .any e = true → s e.on = true) → ∀ i, ((befs [] ops).getD j 0).testBit i = true → s i = true := by
  intro j
  induction j using Nat.strongRecOn with
  | _ j ih =>
    intro o ho he i hi
    obtain ⟨acc', h1, h2, h3⟩ := befs_get ops [] j o ho
    simp only [List.length_nil, Nat.zero_add] at h1 h2
    rw [List.getD_eq_getElem?_getD, h1] at hi
    simp only [Option.getD_some, befMask] at hi
    rcases foldl_or_testBit acc' i _ _ hi with h | ⟨e, he1, he2, he3⟩
    · simp at h
    · have hon := he e he1 he2
      rcases he3 with rfl | he3
      · exact hon
      · have hlt : e.on < j := by have := edgesOk_get ops 0 j o hok ho e he1 he2; omega
        cases ho' : ops[e.on]? with
        | none =>
          have := List.getElem?_eq_none_iff.1 ho'
          have := (List.getElem?_eq_some_iff.1 ho).1
          omega
        | some o' =>
          refine ih e.on hlt o' ho' (hcl e.on o' ho' hon) i ?_
          rw [List.getD_eq_getElem?_getD, h3 e.on (by omega), ← List.getD_eq_getElem?_getD]
          exact he3

/- The check of pairs. -/
theorem freeBack_get {ops : List Oper} {b : Ent} {m : Nat} : ∀ (l : List Ent) (k i : Nat) (a : Ent), freeBack ops b m l k = true → l[i]? = some a → (m.testBit (k + i) = true ∨ free2 ops a b = true) ∧ ∀ p ∈ a.ws, p.1 < b.nid
  | [], _, _, _, _, h => by simp at h
  | x :: l, k, 0, a, hf, h => by
    simp at h; subst h
    simp only [freeBack, Bool.and_eq_true, Bool.or_eq_true, List.all_eq_true, decide_eq_true_eq] at hf
    exact ⟨by simpa using hf.1.1, hf.1.2⟩
  | x :: l, k, i + 1, a, hf, h => by
    simp only [freeBack, Bool.and_eq_true] at hf
    have := freeBack_get l (k + 1) i a hf.2 (by simpa using h)
    rwa [show k + 1 + i = k + (i + 1) by omega] at this
theorem freeAll_get {ops : List Oper} {bef : List Nat} {all : List Ent} : ∀ (l : List Ent) (k j i : Nat) (a b : Ent), freeAll ops bef all l k = true → l[j]? = some b → i < k + j → all[i]? = some a →
    ((bef.getD (k + j) 0).testBit i = true ∨ free2 ops a b = true) ∧ ∀ p ∈ a.ws, p.1 < b.nid
  | [], _, _, _, _, _, _, h, _, _ => by simp at h
  | x :: l, k, 0, i, a, b, hf, h, hi, ha => by
    simp at h; subst h
    simp only [freeAll, Bool.and_eq_true] at hf
    have := freeBack_get _ 0 i a hf.1 (by rw [List.getElem?_take, if_pos (by omega)]; exact ha)
    simpa using this
  | x :: l, k, j + 1, i, a, b, hf, h, hi, ha => by
    simp only [freeAll, Bool.and_eq_true] at hf
    have := freeAll_get l (k + 1) j i a b hf.2 (by simpa using h) (by omega) ha
    rwa [show k + 1 + j = k + (j + 1) by omega] at this

theorem disj_of {l k : List Nat} (h : disj l k = true) {x : Nat} (hx : x ∈ l) : x ∉ k := by
  simp only [disj, List.all_eq_true, Bool.not_eq_true', List.contains_eq_mem] at h
  have := h x hx
  simpa using this

theorem mem_opTmps {l : List Operand} {t : Tmp} (h : Operand.tmp t ∈ l) : t ∈ opTmps l := by
  simp only [opTmps, List.mem_filterMap]
  exact ⟨_, h, rfl⟩

theorem evA_congr {s r : List AV} {x : Operand} (h : ∀ t, x = .tmp t → s[t]? = r[t]?) : evA s x = evA r x := by
  cases x with
  | tmp t => simp only [evA, getS_eq, List.getD_eq_getElem?_getD, h t rfl]
  | _ => rfl

theorem wantedA_congr {ops : List Oper} {o : Oper} {s r : List AV} (h : ∀ t ∈ tmpReads ops o, s[t]? = r[t]?) : wantedA ops o s = wantedA ops o r := by
  unfold wantedA
  cases hg : o.guard with
  | none => rfl
  | some g =>
    obtain ⟨j, want⟩ := g
    simp only
    cases hj : ops[j]? with
    | none => rfl
    | some oj =>
      simp only
      cases hd : oj.dst with
      | none => rfl
      | some d =>
        simp only
        have : s[d]? = r[d]? := h d (by simp [tmpReads, hg, hj, hd])
        simp only [getS_eq, List.getD_eq_getElem?_getD, this]

/-- A step made elsewhere: with the same operands, and the same blocks where it looks, and its new places free. -/
theorem stepA_else {P : Program} (hng : NoNG P) {call : CallF} (hcall : CallsOk P call) {ops : Array Oper} {o : Oper} {stj st1 sx : St} {e : Ent} (h : stepA P call ops.toList o stj = some (st1, some e)) (hok : entOk stj.heap.length e = true)
    (hle : stj.heap.length + e.n ≤ sx.heap.length) (hs : ∀ t ∈ tmpReads ops.toList o, sx.slots[t]? = stj.slots[t]?) (hh : ∀ b ∈ e.rd, sx.heap[b]? = stj.heap[b]?)
    {out : Nat → Prop} {B : Nat → Prop} {w : World} {π : List (Option PB)} {a : Act} (hR : Rep out B w π sx a) (hfree : ∀ b ∈ idsW e.ws, stj.heap.length ≤ b → ∀ q, π[b]? ≠ some (some q))
    {K : Act → World → Prop} {Q : Exit → Act → World → Prop}
    (hK : ∀ a' w' π', Rep out B w' π' (applyE e sx) a' → Ext B w w' (muOf out π sx.heap) (muOf out π' (applyE e sx).heap) π π' → (∀ j, j ∉ idsW e.ws → π'[j]? = π[j]?) → K a' w') :
    if Region.wanted o (yielded ops a.tmps) then o.wp P a w K Q ∨ (o.asks P a w ∧ LetsOut Q) else K (a.put o.dst undef) w := by
  obtain ⟨hrd, hids, hnew⟩ := entOk_ids hok
  have hkeep : ∀ {ws : List (Nat × Blk)} {π' : List (Option PB)}, (∀ j, (∀ b, (j, b) ∉ ws) → π'[j]? = π[j]?) → ∀ j, j ∉ idsW ws → π'[j]? = π[j]? := by
    intro ws π' hk j hj
    refine hk j fun b hb => hj ?_
    simp only [idsW, List.mem_map]
    exact ⟨_, hb, rfl⟩
  have hwn : wantedA ops.toList o sx.slots = wantedA ops.toList o stj.slots := wantedA_congr hs
  have hop : ∀ x ∈ o.op.operands.toList, evA stj.slots x = evA sx.slots x := by
    intro x hx
    refine (evA_congr fun t ht => ?_).symm
    subst ht
    exact hs t (by simp only [tmpReads, List.mem_append]; exact .inl (mem_opTmps hx))
  unfold stepA at h
  split at h
  · rename_i hw
    rw [← hwn] at hw
    rw [if_pos (wantedA_sound hR.slots hw)]
    refine .inl ?_
    unfold Oper.wp
    have moved : ∀ r, evalOp P (evA stj.slots) stj.heap stj.heap.length o = some r → (∀ b ∈ readsOf (evA stj.slots) o, sx.heap[b]? = stj.heap[b]?) → evalOp P (evA sx.slots) sx.heap stj.heap.length o = some r := by
      intro r hr hb
      rw [← evalOp_ops hop, ← hr]
      exact evalOp_heap hb
    split at h
    · rename_i v hv
      rw [putK_eq] at h
      cases h
      have hv' := moved _ hv hh
      rcases evalOp_nid hv' with ⟨_, _, _, e1, _⟩ | hany
      · cases e1
      obtain ⟨nx, u, h1, h2, h3⟩ := evalOp_sound hng hR.inv (Nat.le_refl _) (pi_none hR.inv) (evA_sound hR.slots) (hany sx.heap.length)
      rw [h1]
      rcases h2 with rfl | ⟨rfl, rfl⟩
      · exact hK _ _ π (Rep.ext hR.defers hR.slots (Ext.refl _ _ _) hR.inv h3) (Ext.refl _ _ _) fun _ _ => rfl
      · exact hK _ _ π (Rep.ext hR.defers hR.slots (Ext.refl _ _ _) hR.inv h3) (Ext.refl _ _ _) fun _ _ => rfl
    · rename_i v ws hv
      rw [putK_eq] at h
      cases h
      have hv' := moved _ hv hh
      have : ∃ n, n ≤ sx.heap.length ∧ (∀ q, π[n]? ≠ some (some q)) ∧ evalOp P (evA sx.slots) sx.heap n o = some (.eff v ws) := by
        rcases evalOp_nid hv' with ⟨_, _, y, e1, h0⟩ | hany
        · cases e1
          refine ⟨stj.heap.length, by simp only at hle; omega, hfree _ ?_ (Nat.le_refl _), hv'⟩
          simp only [idsW, List.mem_map]
          exact ⟨_, h0, rfl⟩
        · exact ⟨sx.heap.length, Nat.le_refl _, pi_none hR.inv, hany _⟩
      obtain ⟨n, hn, hf, hv''⟩ := this
      obtain ⟨nx, u, w', π', h1, h2, h3, h4, h5, h6⟩ := evalOp_sound hng hR.inv hn hf (evA_sound hR.slots) hv''
      rw [h1]
      rcases h2 with rfl | ⟨rfl, rfl⟩
      · exact hK _ _ π' (Rep.ext hR.defers hR.slots h3 h4 h5) h3 (hkeep h6)
      · exact hK _ _ π' (Rep.ext hR.defers hR.slots h3 h4 h5) h3 (hkeep h6)
    · rename_i f args hv
      have hv' : evalOp P (evA sx.slots) sx.heap sx.heap.length o = some (.call f args) := by
        -- a call reads no block by itself
        have e1 : evalOp P (evA sx.slots) stj.heap stj.heap.length o = some (.call f args) := by rw [← evalOp_ops hop]; exact hv
        unfold evalOp at e1 ⊢
        cases ho : o.op <;> simp only [ho] at e1 ⊢
        case call c =>
          unfold opCall at e1 ⊢
          cases hc : c.callee <;> simp only [hc] at e1 ⊢
          case value g => exact e1
          case builtin b =>
            exfalso
            unfold builtinA at e1
            split at e1
            · split at e1
              · unfold ORes.ofP at e1; split at e1 <;> cases e1
              · cases e1
            · split at e1
              · split at e1
                · split at e1
                  · split at e1
                    · unfold appendA at e1
                      split at e1
                      · cases e1
                      · split at e1
                        · split at e1 <;> cases e1
                        · split at e1 <;> cases e1
                        · split at e1
                          · split at e1 <;> cases e1
                          · cases e1
                        · cases e1
                    · cases e1
                  · cases e1
                · cases e1
              · cases e1
            · split at e1
              · split at e1 <;> cases e1
              · cases e1
            · split at e1
              · split at e1 <;> cases e1
              · cases e1
            · cases e1
          case invoke => cases e1
        case makeFunc fn fs cs => exfalso; cases fn <;> simp at e1
        case slice t x lo hi mx =>
          exfalso
          cases mx with
          | some m => simp at e1
          | none => simp only [opSlice, ORes.ofP] at e1; (repeat' split at e1) <;> cases e1
        all_goals exfalso
        all_goals try simp only [opPick, opAlloc, opBox, opBuild, opBuildSlice, opStore, opNilCheck, opConvert, opMakeSlice, ORes.ofP, optV] at e1
        all_goals (repeat' split at e1) <;> first | cases e1 | skip
      obtain ⟨vs, h1, h2⟩ := evalOp_sound hng hR.inv (Nat.le_refl _) (pi_none hR.inv) (evA_sound hR.slots) hv'
      rw [h1]
      simp only [Oper.upon]
      split at h
      · rename_i v ws rd n hc
        rw [putK_eq] at h
        cases h
        simp only at hnew hids hle hfree
        have := hcall _ _ _ _ hc sx.heap hle (fun b hb _ => hh b hb) out B w π vs.toList hR.inv (fun j g1 g2 => hfree j (by
            have := hnew (j - stj.heap.length) (by omega)
            rwa [show stj.heap.length + (j - stj.heap.length) = j by omega] at this) g1) h2
        rw [Array.toArray_toList] at this
        refine this.mono ?_
        rintro e w'' ⟨u, π', rfl, g1, g2, g3, g4⟩
        exact hK _ _ π' (Rep.ext hR.defers hR.slots g1 g2 g3) g1 (hkeep g4)
      · rw [putK_eq] at h; cases h
      · cases h
    · cases h
  · rename_i hw
    rw [← hwn] at hw
    rw [wantedA_sound hR.slots hw]
    simp only [Bool.false_eq_true, if_false]
    rw [putK_eq] at h
    cases h
    exact hK _ _ π (Rep.ext hR.defers hR.slots (Ext.refl _ _ _) hR.inv rfl) (Ext.refl _ _ _) fun _ _ => rfl
  · cases h

theorem getD_set_true {l : Array Bool} {i j : Nat} (hi : i < l.size) : (l.setIfInBounds i true).getD j false = (l.getD j false || decide (j = i)) := by
  simp only [Array.getD_eq_getD_getElem?, Array.getElem?_setIfInBounds]
  by_cases h : i = j
  · subst h; simp [hi]
  · have h' : ¬ j = i := fun e => h e.symm
    simp [h, h']

theorem getD_none {n : Nat} (i : Nat) : (Array.replicate n false).getD i false = false := by
  rw [Array.getD_eq_getD_getElem?, Array.getElem?_replicate]
  split <;> rfl

theorem getD_ne {l : Array Bool} {i : Nat} (h : l.getD i true = false) : i < l.size ∧ l.getD i false = false := by
  rw [Array.getD_eq_getD_getElem?] at h ⊢
  cases hl : l[i]? with
  | none => rw [hl] at h; simp at h
  | some x => rw [hl] at h; exact ⟨(Array.getElem?_eq_some_iff.1 hl).1, by simpa using h⟩

/-- The check's word on two entries of which neither must come first. -/
theorem meet_ordered {ops : List Oper} {es : List Ent} (hfree : freeAll ops (befs [] ops) es es 0 = true) {i j : Nat} {a b : Ent} (hij : i < j) (ha : es[i]? = some a) (hb : es[j]? = some b)
    (hm : (∃ x, x ∈ idsW a.ws ∧ (x ∈ b.rd ∨ x ∈ idsW b.ws)) ∨ (∃ x, x ∈ idsW b.ws ∧ x ∈ a.rd) ∨ (∃ t, t ∈ a.o.dst.toList ∧ (t ∈ tmpReads ops b.o ∨ t ∈ b.o.dst.toList)) ∨ (∃ t, t ∈ b.o.dst.toList ∧ t ∈ tmpReads ops a.o)) :
    ((befs [] ops).getD j 0).testBit i = true := by
  have := (freeAll_get es 0 j i a b hfree hb (by omega) ha).1
  rw [Nat.zero_add] at this
  rcases this with h | h
  · exact h
  · exfalso
    simp only [free2, Bool.and_eq_true] at h
    obtain ⟨⟨⟨⟨⟨h1, h2⟩, h3⟩, h4⟩, h5⟩, h6⟩ := h
    rcases hm with ⟨x, hx, hx' | hx'⟩ | ⟨x, hx, hx'⟩ | ⟨t, ht, ht' | ht'⟩ | ⟨t, ht, ht'⟩
    · exact disj_of h4 hx hx'
    · exact disj_of h5 hx hx'
    · exact disj_of h6 hx hx'
    · exact disj_of h1 ht ht'
    · exact disj_of h2 ht ht'
    · exact disj_of h3 ht ht'

theorem draw_sound {P : Program} (hng : NoNG P) (hm : P.follows .mixedOrders = true) {call : CallF} (hcall : CallsOk P call) {ops : Array Oper} {id : Nat} {st st' : St} (h : evalRegion P call ops.toList true st = some st')
    {out : Nat → Prop} {B : Nat → Prop} {w : World} {π : List (Option PB)} {a : Act} (hR : Rep out B w π st a) {Q : Exit → Act → World → Prop}
    (hQ : ∀ a' w' π', Rep out B w' π' st' a' → Ext B w w' (muOf out π st.heap) (muOf out π' st'.heap) π π' → Q .normal a' w') : (Code.region id ops true).wp P Q a w := by
  unfold evalRegion at h
  simp only at h
  split at h
  · rename_i stq es htr
    split at h
    · rename_i hok
      cases h
      simp only [Bool.and_eq_true] at hok
      obtain ⟨hedge, hfree⟩ := hok
      obtain ⟨L, hLdef⟩ : ∃ L, L = st'.heap.length := ⟨_, rfl⟩
      obtain ⟨t1, t2, t3, t4, t5⟩ := trace_sound (L := L) ops.toList st st' es htr (by omega)
      rw [← hLdef] at t3
      -- the start, with its free places
      obtain ⟨st0, hst0⟩ : ∃ st0 : St, st0 = ⟨st.slots, pad L st.heap⟩ := ⟨_, rfl⟩
      have h0len : st0.heap.length = L := by rw [hst0]; exact pad_length (by omega)
      obtain ⟨hEd, hId⟩ := hR.inv.same (w' := { w with drawn := w.drawn + 1 }) rfl rfl rfl rfl
      obtain ⟨hI0, hE0⟩ := hId.extend (L - st.heap.length)
      obtain ⟨π0, hπ0⟩ : ∃ π0, π0 = π ++ List.replicate (L - st.heap.length) none := ⟨_, rfl⟩
      rw [← hπ0] at hI0 hE0
      have hR0 : Rep out B { w with drawn := w.drawn + 1 } π0 st0 a := by
        rw [hst0]
        exact ⟨hR.defers, RvL.ext hE0 _ _ (RvL.ext hEd _ _ hR.slots), hI0⟩
      have hfresh0 : ∀ b, st.heap.length ≤ b → ∀ q, π0[b]? ≠ some (some q) := by
        intro b hb q hq
        have := hR.inv.len
        rw [hπ0, List.getElem?_append_right (by omega)] at hq
        have := List.mem_of_getElem? hq
        simp at this
      have hE00 : Ext B w { w with drawn := w.drawn + 1 } (muOf out π st.heap) (muOf out π0 st0.heap) π π0 := by rw [hst0]; exact hEd.trans hE0
      clear hE0 hEd hId hI0
      refine wp_region_any hm ?_
      -- whatever has been carried out
      have key : ∀ (fuel : Nat) (listed : Array Bool) (a : Act) (w1 : World) (π1 : List (Option PB)), listed.size = ops.size → ((List.range ops.size).countP fun i => !listed.getD i false) = fuel →
          (∀ (j : Nat) (o : Oper), ops.toList[j]? = some o → listed.getD j false = true → ∀ e ∈ o.after.toList, Region.binds .any e = true → listed.getD e.on false = true) →
          Rep out B w1 π1 (foldE es (fun j => listed.getD j false) 0 st0) a →
          Ext B w w1 (muOf out π st.heap) (muOf out π1 (foldE es (fun j => listed.getD j false) 0 st0).heap) π π1 →
          (∀ b, st.heap.length ≤ b → (∀ (j : Nat) (e : Ent), es[j]? = some e → listed.getD j false = true → b ∉ idsW e.ws) → ∀ q, π1[b]? ≠ some (some q)) →
          wpAny P .any ops Q fuel listed a w1 := by
        intro fuel
        induction fuel with
        | zero =>
          intro listed a w1 π1 hsz hcount hcl hR1 hE1 hf1
          have hall : ∀ i, i < ops.size → listed.getD i false = true := by
            intro i hi
            rw [List.countP_eq_zero] at hcount
            have := hcount i (by simpa using hi)
            simpa using this
          have hfin : foldE es (fun j => listed.getD j false) 0 st0 = st' := by
            have e1 : foldE es (fun j => listed.getD j false) 0 st0 = foldE es (fun _ => true) 0 st0 := by
              have hs : ∀ (j : Nat) (e : Ent), es[j]? = some e → listed.getD (0 + j) false = true := fun j e he => by
                rw [Nat.zero_add]; exact hall j (by have := getElem?_lt he; rw [t2] at this; simpa using this)
              have l1 := foldE_len es (fun j => listed.getD j false) 0 st0 t3 h0len
              have l2 := foldE_len es (fun _ => true) 0 st0 t3 h0len
              have es1 : (foldE es (fun j => listed.getD j false) 0 st0).slots = (foldE es (fun _ => true) 0 st0).slots :=
                List.ext_getElem? fun t => foldE_slots es _ _ 0 st0 st0 rfl rfl fun j e he _ => hs j e he
              have es2 : (foldE es (fun j => listed.getD j false) 0 st0).heap = (foldE es (fun _ => true) 0 st0).heap :=
                List.ext_getElem? fun b => foldE_heap es _ _ 0 st0 st0 t3 h0len h0len rfl fun j e he _ => hs j e he
              cases hA : foldE es (fun j => listed.getD j false) 0 st0
              cases hB : foldE es (fun _ => true) 0 st0
              rw [hA, hB] at es1 es2
              simp only at es1 es2
              rw [es1, es2]
            rw [e1, hst0, t4, hLdef, pad_self]
          refine ⟨?_, ?_⟩
          · unfold Region.ready
            rw [List.filter_eq_nil_iff]
            intro i hi
            have hi' : i < ops.size := by simpa using hi
            have h1 := hall i hi'
            have h2 : listed.getD i true = true := by
              rw [Array.getD_eq_getD_getElem?] at h1 ⊢
              cases hl : listed[i]? with
              | none => rfl
              | some x => rw [hl] at h1; simpa using h1
            simp [h2]
          · rw [hfin] at hR1 hE1
            exact hQ a w1 π1 hR1 hE1
        | succ fuel ih =>
          intro listed a w1 π1 hsz hcount hcl hR1 hE1 hf1
          refine ⟨?_, ?_⟩
          · -- something is always ready while something is left
            intro hnil
            exfalso
            have hex : ∃ i, i < ops.size ∧ listed.getD i false = false := by
              have hpos : 0 < (List.range ops.size).countP fun i => !listed.getD i false := by omega
              rw [List.countP_pos_iff] at hpos
              obtain ⟨i, h1, h2⟩ := hpos
              exact ⟨i, by simpa using h1, by simpa using h2⟩
            have hmin : ∃ i, i < ops.size ∧ listed.getD i false = false ∧ ∀ k, k < i → listed.getD k false = true := by
              obtain ⟨i, h1, h2⟩ := hex
              induction i using Nat.strongRecOn with
              | _ i ihm =>
                by_cases hk : ∃ k, k < i ∧ listed.getD k false = false
                · obtain ⟨k, k1, k2⟩ := hk
                  exact ihm k k1 (by omega) k2
                · exact ⟨i, h1, h2, fun k hki => by
                    cases hv : listed.getD k false with
                    | true => rfl
                    | false => exact (hk ⟨k, hki, hv⟩).elim⟩
            obtain ⟨i, h1, h2, h3⟩ := hmin
            have hmem : i ∈ Region.ready .any ops listed := by
              unfold Region.ready
              rw [List.mem_filter]
              refine ⟨by simpa using h1, ?_⟩
              have hlt : i < listed.size := by omega
              have e1 : listed.getD i true = false := by
                rw [Array.getD_eq_getD_getElem?] at h2 ⊢
                rw [Array.getElem?_eq_getElem hlt] at h2 ⊢
                simpa using h2
              have e2 : ops[i]? = some ops[i] := Array.getElem?_eq_getElem h1
              rw [e1, e2]
              simp only [Bool.not_false, Bool.true_and, Option.map_some, Option.getD_some, Array.all_eq_true']
              intro e he
              cases hb : Region.binds .any e with
              | false => rfl
              | true =>
                have := edgesOk_get ops.toList 0 i ops[i] hedge (by simp [h1]) e (by simpa using he) hb
                simp only [Bool.not_true, Bool.false_or]
                exact h3 _ (by omega)
            rw [hnil] at hmem
            cases hmem
          · intro i hi
            unfold Region.ready at hi
            rw [List.mem_filter] at hi
            obtain ⟨hi0, hi1⟩ := hi
            have hi0 : i < ops.size := by simpa using hi0
            simp only [Bool.and_eq_true, Bool.not_eq_true'] at hi1
            obtain ⟨hi1, hi2⟩ := hi1
            obtain ⟨hilt, hsel⟩ := getD_ne hi1
            obtain ⟨o, ho⟩ : ∃ o, ops[i]? = some o := ⟨ops[i], Array.getElem?_eq_getElem hi0⟩
            have ho' : ops.toList[i]? = some o := by rw [Array.getElem?_toList]; exact ho
            rw [ho] at hi2
            simp only [Option.map_some, Option.getD_some, Array.all_eq_true'] at hi2
            have hdeps : ∀ e ∈ o.after.toList, Region.binds .any e = true → listed.getD e.on false = true := by
              intro e he hb
              have := hi2 e (by simpa using he)
              simpa [hb] using this
            obtain ⟨e, he⟩ : ∃ e, es[i]? = some e := by
              have : i < es.length := by rw [t2]; simpa using hi0
              exact ⟨es[i], List.getElem?_eq_getElem this⟩
            obtain ⟨o2, stj, st1, g1, g2, g3, g4, g5, g6, g7, g8⟩ := t5 i e he
            rw [ho'] at g1
            cases g1
            subst g4
            -- others that meet it are in their place
            have before_in : ∀ j b, j < i → es[j]? = some b → ((∃ x, x ∈ idsW b.ws ∧ (x ∈ e.rd ∨ x ∈ idsW e.ws)) ∨ (∃ x, x ∈ idsW e.ws ∧ x ∈ b.rd) ∨ (∃ t, t ∈ b.o.dst.toList ∧ (t ∈ tmpReads ops.toList e.o ∨ t ∈ e.o.dst.toList)) ∨ (∃ t, t ∈ e.o.dst.toList ∧ t ∈ tmpReads ops.toList b.o)) →
                listed.getD j false = true := by
              intro j b hj hb hmt
              have hbit := meet_ordered hfree hj hb he hmt
              exact mask_closed hedge (s := fun j => listed.getD j false) hcl i e.o ho' hdeps j hbit
            have after_out : ∀ j b, i < j → es[j]? = some b → ((∃ x, x ∈ idsW e.ws ∧ (x ∈ b.rd ∨ x ∈ idsW b.ws)) ∨ (∃ x, x ∈ idsW b.ws ∧ x ∈ e.rd) ∨ (∃ t, t ∈ e.o.dst.toList ∧ (t ∈ tmpReads ops.toList b.o ∨ t ∈ b.o.dst.toList)) ∨ (∃ t, t ∈ b.o.dst.toList ∧ t ∈ tmpReads ops.toList e.o)) →
                listed.getD j false = false := by
              intro j b hj hb hmt
              have hbit := meet_ordered hfree hj he hb hmt
              cases hv : listed.getD j false with
              | false => rfl
              | true =>
                have hjlt : j < ops.toList.length := by rw [← t2]; exact getElem?_lt hb
                have := mask_closed hedge (s := fun j => listed.getD j false) hcl j ops.toList[j] (List.getElem?_eq_getElem hjlt) (hcl j _ (List.getElem?_eq_getElem hjlt) hv) i hbit
                rw [this] at hsel; cases hsel
            have hXlen := foldE_len es (fun j => listed.getD j false) 0 st0 t3 h0len
            have hprefix : foldE es (fun j => decide (j < 0 + i)) 0 st0 = ⟨stj.slots, pad L stj.heap⟩ := by rw [foldE_take, hst0, g8]
            -- the variables that it reads
            have hslots : ∀ t ∈ tmpReads ops.toList e.o, (foldE es (fun j => listed.getD j false) 0 st0).slots[t]? = stj.slots[t]? := by
              intro t ht
              have := foldE_slots (t := t) es (fun j => listed.getD j false) (fun j => decide (j < 0 + i)) 0 st0 st0 rfl rfl (fun j b hb hw => by
                simp only [Nat.zero_add]
                rcases Nat.lt_trichotomy j i with hlt | rfl | hgt
                · rw [before_in j b hlt hb (.inr (.inr (.inl ⟨t, hw, .inl ht⟩)))]; simp [hlt]
                · rw [hsel]; simp
                · rw [after_out j b hgt hb (.inr (.inr (.inr ⟨t, hw, ht⟩)))]; simp; omega)
              rw [this, hprefix]
            have hrdlt := (entOk_ids g3).1
            have hheap : ∀ b ∈ e.rd, (foldE es (fun j => listed.getD j false) 0 st0).heap[b]? = stj.heap[b]? := by
              intro b hb
              have := foldE_heap (b := b) es (fun j => listed.getD j false) (fun j => decide (j < 0 + i)) 0 st0 st0 t3 h0len h0len rfl (fun j x hx hw => by
                simp only [Nat.zero_add]
                rcases Nat.lt_trichotomy j i with hlt | rfl | hgt
                · rw [before_in j x hlt hx (.inl ⟨b, hw, .inl hb⟩)]; simp [hlt]
                · rw [hsel]; simp
                · rw [after_out j x hgt hx (.inr (.inl ⟨b, hw, hb⟩))]; simp; omega)
              rw [this, hprefix]
              exact pad_get (hrdlt b hb)
            have hfreeE : ∀ b ∈ idsW e.ws, stj.heap.length ≤ b → ∀ q, π1[b]? ≠ some (some q) := by
              intro b hb hbl
              refine hf1 b (by omega) fun j x hx hl hbx => ?_
              rcases Nat.lt_trichotomy j i with hlt | rfl | hgt
              · have := (freeAll_get es 0 i j x e hfree he (by omega) hx).2
                simp only [idsW, List.mem_map] at hbx
                obtain ⟨p, hp, rfl⟩ := hbx
                have := this p hp
                omega
              · rw [hsel] at hl; cases hl
              · rw [after_out j x hgt hx (.inl ⟨b, hb, .inr hbx⟩)] at hl; cases hl
            have hroom : stj.heap.length + e.n ≤ L := by
              rcases Nat.eq_zero_or_pos e.n with h0 | h0
              · omega
              · have h1 := (entOk_ids g3).2.2 (e.n - 1) (by omega)
                have h2 := t3 e (List.mem_of_getElem? he) _ h1
                omega
            -- the state behind it
            have hafter : applyE e (foldE es (fun j => listed.getD j false) 0 st0) = foldE es (fun j => (listed.setIfInBounds i true).getD j false) 0 st0 := by
              have hfun : (fun j => (listed.setIfInBounds i true).getD j false) = fun j => listed.getD j false || decide (j = 0 + i) := by
                funext j; rw [getD_set_true hilt, Nat.zero_add]
              rw [hfun]
              have hin : ∀ x ∈ idsW e.ws, x < L := t3 e (List.mem_of_getElem? he)
              have e1 : (foldE es (fun j => listed.getD j false || decide (j = 0 + i)) 0 st0).slots = putA (foldE es (fun j => listed.getD j false) 0 st0).slots e.o.dst e.v := by
                refine List.ext_getElem? fun t => ?_
                by_cases ht : t ∈ e.o.dst.toList
                · exact foldE_insert_slots es (fun j => listed.getD j false) 0 i st0 e he (by simpa using hsel) ht fun j b hij hb hw => by
                    rw [Nat.zero_add]; exact after_out j b hij hb (.inr (.inr (.inl ⟨t, ht, .inr hw⟩)))
                · rw [putA_other ht]
                  refine foldE_slots es _ _ 0 st0 st0 rfl rfl fun j b hb hw => ?_
                  have : ¬ 0 + j = 0 + i := by
                    intro e0
                    obtain rfl : j = i := by omega
                    rw [he] at hb; cases hb; exact ht hw
                  rw [decide_eq_false this, Bool.or_false]
              have e2 : (foldE es (fun j => listed.getD j false || decide (j = 0 + i)) 0 st0).heap = updAll (foldE es (fun j => listed.getD j false) 0 st0).heap e.ws := by
                refine List.ext_getElem? fun b => ?_
                by_cases hb : b ∈ idsW e.ws
                · exact foldE_insert_heap es (fun j => listed.getD j false) 0 i st0 e t3 h0len he (by simpa using hsel) hb fun j x hij hx hw => by
                    rw [Nat.zero_add]; exact after_out j x hij hx (.inl ⟨b, hb, .inr hw⟩)
                · rw [updAll_other _ _ (by rw [hXlen.1]; exact hin) hb]
                  refine foldE_heap es _ _ 0 st0 st0 t3 h0len h0len rfl fun j x hx hw => ?_
                  have : ¬ 0 + j = 0 + i := by
                    intro e0
                    obtain rfl : j = i := by omega
                    rw [he] at hx; cases hx; exact hb hw
                  rw [decide_eq_false this, Bool.or_false]
              unfold applyE
              cases hF : foldE es (fun j => listed.getD j false || decide (j = 0 + i)) 0 st0
              rw [hF] at e1 e2
              simp only at e1 e2
              rw [e1, e2]
            unfold wpOp
            rw [ho]
            simp only
            refine stepA_else hng hcall g2 g3 (by rw [hXlen.1]; exact hroom) hslots hheap hR1 hfreeE fun a' w' π' hR' hE' hk' => ?_
            rw [hafter] at hR' hE'
            refine ih (listed.setIfInBounds i true) a' w' π' (by simpa using hsz) ?_ ?_ hR' (hE1.trans hE') ?_
            · have hc2 : ((List.range ops.size).countP fun j => !listed.getD j false) = ((List.range ops.size).countP fun j => !(listed.setIfInBounds i true).getD j false) + 1 := by
                have gen : ∀ (l : List Nat), l.Nodup → i ∈ l → (l.countP fun j => !listed.getD j false) = (l.countP fun j => !(listed.setIfInBounds i true).getD j false) + 1 := by
                  intro l
                  induction l with
                  | nil => intro _ h; cases h
                  | cons x l ihl =>
                    intro hnd hmem
                    rw [List.nodup_cons] at hnd
                    rw [List.countP_cons, List.countP_cons, getD_set_true hilt]
                    by_cases hx : x = i
                    · subst hx
                      have hsame : (l.countP fun j => !listed.getD j false) = l.countP fun j => !(listed.setIfInBounds x true).getD j false := by
                        refine List.countP_congr fun y hy => ?_
                        rw [getD_set_true hilt]
                        have : ¬ y = x := by rintro rfl; exact hnd.1 hy
                        simp [this]
                      rw [hsame, hsel]; simp
                    · have := ihl hnd.2 (by
                        rcases List.mem_cons.1 hmem with e0 | e0
                        · exact (hx e0.symm).elim
                        · exact e0)
                      rw [this]
                      simp [hx]; omega
                exact gen _ List.nodup_range (by simpa using hi0)
              omega
            · intro j oj hj hs e' he' hb
              rw [getD_set_true hilt] at hs ⊢
              rw [Bool.or_eq_true] at hs ⊢
              left
              rcases hs with hs | hs
              · exact hcl j oj hj hs e' he' hb
              · obtain rfl : j = i := by simpa using hs
                rw [ho'] at hj; cases hj
                exact hdeps e' he' hb
            · intro b hb hno q hq
              have hbe : b ∉ idsW e.ws := hno i e he (by rw [getD_set_true hilt]; simp)
              rw [hk' b hbe] at hq
              refine hf1 b hb (fun j x hx hl => hno j x hx ?_) q hq
              rw [getD_set_true hilt, hl]; simp
      refine key ops.size (Array.replicate ops.size false) a { w with drawn := w.drawn + 1 } π0 (by simp) ?_ ?_ ?_ ?_ ?_
      · have : ∀ i, (Array.replicate ops.size false).getD i false = false := fun i => getD_none i
        simp only [this, Bool.not_false]
        simp
      · intro j o _ hj
        have : ∀ i, (Array.replicate ops.size false).getD i false = false := fun i => getD_none i
        rw [this] at hj; cases hj
      · have : (fun j => (Array.replicate ops.size false).getD j false) = fun _ => false := by funext i; exact getD_none i
        rw [this, foldE_none]; exact hR0
      · have : (fun j => (Array.replicate ops.size false).getD j false) = fun _ => false := by funext i; exact getD_none i
        rw [this, foldE_none]; exact hE00
      · intro b hb _; exact hfresh0 b hb
    · cases h
  · cases h
end Go.Eng
